/- Texts of this claim put together: Tbw, Tp3, Tp4, Tp5, PureTableBuild, Glob. -/
import Derived.Test.YtclollnicbcooaaGreatDoorBz4
import Derived.Test.YtclollnicbcooaaGreatDoorBz2
import Derived.Deep.QuietTactic
import Derived.Deep.RegionHeld3
import Derived.Test.YtclollnicbcooaaGreatDoorBz3
import Derived.Test.YtclollnicbcooaaGreatDoorRows
import Derived.Test.YtclollnicbcooaaGreatDoorBz1
import Derived.Lib.LaidTab
import Derived.Lib.LaidU8
import Derived.OpenShut
import Derived.ProofKit
import Derived.LaidLaws
import Derived.Handed
set_option linter.unusedVariables false
set_option linter.unusedSimpArgs false
set_option linter.unusedSectionVars false
namespace Go.Proofs.YtclollnicbcooaaGreatDoor.P
open Go.RowKit Go.Lib Go.Sort YtclollnicbcooaaGreatDoorW.PrintWords YtclollnicbcooaaGreatDoorW.PrintLast YtclollnicbcooaaGreatDoorW.PrintMore St Base
section
attribute [local go_sem] Oper.semAt_some
attribute [local go_sem high] eqA53

structure TBtab (k:Nat) (l0:List S65) (l1:List S73) (l2:List ByteArray) (l3:List S68) (st:Int) (D:List (List S53)) (N:List (List Int)) (M:List Int) (al:List (List (List S53))) (Ka:List (List S77)) (Na:List (List Int)) (Mf:Nat→Nat→Int):Prop where
 bui:table_Build.f k l0 l1 l2 l3 st=some (D,N,M,0)
 all:table_All.f k l0 l1 l2 l3 st=some (al,0)
 cla:table_Clashes.f k l0 l1 l2 l3 st=some []
 sta:states_Build.f l0 l1 l2 l3 st=some (Ka,Na,0)
 hT:l0.length≤60
 hS:l2.length≤60
 hK:al.length≤2003
 hD:D.length=al.length
 hN:N.length=al.length
 hM:M.length=al.length
 row:∀ i:Nat,i < al.length→(rd_L25 D (i:Int)).length=l0.length+1
 nx:∀ i:Nat,i < al.length→(rd_L17 N (i:Int)).length=l2.length
 st_:∀ i:Nat,i < al.length→(rd_L26 al (i:Int)).length=l0.length+1
 zero:∀ i,Mf i 0=0
 one:∀ i c:Nat,i < al.length→c≤l0.length→(rd_L25 (rd_L26 al (i:Int)) (c:Int)).length=1→bits_With.f (Mf i c) ((bitN l0.length c:Nat):Int)=some (Mf i (c+1))∧rd_T53 (rd_L25 D (i:Int)) (c:Int)=rd_T53 (rd_L25 (rd_L26 al (i:Int)) (c:Int)) 0
 none_:∀ i c:Nat,i < al.length→c≤l0.length→(rd_L25 (rd_L26 al (i:Int)) (c:Int)).length≠1→Mf i (c+1)=Mf i c∧rd_T53 (rd_L25 D (i:Int)) (c:Int)=⟨0,0⟩
 fin:∀ i:Nat,i < al.length→Go.Proofs.YtclollnicbcooaaGreatDoorW.PrintWords.rd M (i:Int)=Mf i (l0.length+1)
 go:∀ i s:Nat,i < al.length→s < l2.length→states_Go.f l0 l1 l2 l3 st Ka Na (i:Int) (-1 - (s:Int))=some (Go.Proofs.YtclollnicbcooaaGreatDoorW.PrintWords.rd (rd_L17 N (i:Int)) (s:Int))
def TBok (k:Nat) (l0:List S65) (l1:List S73) (l2:List ByteArray) (l3:List S68) (st:Int):Prop:=sl16_works.f k=some true ∧
 (sl14_Little.f k l0 l1 l2 l3 st=some false ∨ (sl14_Little.f k l0 l1 l2 l3 st=some true ∧
  ((∃ e r,e≠0∧table_All.f k l0 l1 l2 l3 st=some ([],e)∧table_Build.f k l0 l1 l2 l3 st=some ([],[],[],e)∧table_Clashes.f k l0 l1 l2 l3 st=some r) ∨
  (∃ al r,r≠[]∧table_All.f k l0 l1 l2 l3 st=some (al,0)∧table_Build.f k l0 l1 l2 l3 st=some ([],[],[],16)∧table_Clashes.f k l0 l1 l2 l3 st=some r) ∨
  ∃ D N M al Ka Na Mf,TBtab k l0 l1 l2 l3 st D N M al Ka Na Mf)))
theorem at_i64 {w:World} {A:Option Addr} {n:Nat} {xs:List Int} (h:Kd.C (Kd.int .i64) w A n xs) (i:Nat) (h1:i < n):∃ ad,A=some ad∧w.cell? (ad.add i)=some (.int .i64 (Go.Proofs.YtclollnicbcooaaGreatDoorW.PrintWords.rd xs (i:Int))):=by
 obtain ⟨ad,c,e,hl,hK,hc⟩:=Kd.C_get h 0 (i:Int) (by omega) (by omega)
 have hcs:c=[.int .i64 (xs.getD i 0)]:=by rw [Int.toNat_natCast] at hK;exact hK
 refine ⟨ad,e, ?_⟩
 have h2:=hc 0 (.int .i64 (xs.getD i 0)) (by rw [hcs];rfl)
 rw [Int.toNat_natCast,Nat.add_zero,show (Kd.int .i64).sz=1 from rfl,Nat.mul_one] at h2
 unfold Go.Proofs.YtclollnicbcooaaGreatDoorW.PrintWords.rd
 rw [Int.toNat_natCast]
 exact h2
set_option maxHeartbeats 8000000 in
set_option maxRecDepth 100000 in
theorem sl16_TableBuild.calls (k:Nat) (A0:Option Addr) (c0:Nat) (l0:List S65) (A1:Option Addr) (c1:Nat) (l1:List S73) (A2:Option Addr) (c2:Nat) (l2:List ByteArray) (A3:Option Addr) (c3:Nat) (l3:List S68) (st:Int) (r:Bool) (w:World) (hG:GTab w) (hT:r=true)
  (hr0:Kd.C k65 w A0 l0.length l0) (hc0:l0.length≤c0) (hr1:Kd.C k73 w A1 l1.length l1) (hc1:l1.length≤c1) (hr2:Kd.C Kd.string w A2 l2.length l2) (hc2:l2.length≤c2) (hr3:Kd.C k68 w A3 l3.length l3) (hc3:l3.length≤c3) (h:TBok k l0 l1 l2 l3 st) :
  Calls Tryz.prog 3 #[.agg #[.slice A0 l0.length c0,.slice A1 l1.length c1,.slice A2 l2.length c2,.slice A3 l3.length c3,.int .i64 st]] w fun e w'=>e=.returned (.bool r)∧Below w.heap.size w w':=by
 subst hT
 have GM0:=jM (Gm.mk hr0 hc0 hr1 hc1 hr2 hc2 hr3 hc3 hG)
 clear hr0 hr1 hr2 hr3 hc0 hc1 hc2 hc3 hG
 have HWK:=jM fun (W':World) (hb:RowKit.Below w.heap.size w W')=>sl16_works.calls k true W' (GTab.below GM0.out.g hb) rfl h.1
 have HLI:=jM fun (b:Bool) (hl:sl14_Little.f k l0 l1 l2 l3 st=some b) (W':World) (hb:RowKit.Below w.heap.size w W') =>
  let H:=Gm.below GM0.out hb
  sl14_Little.calls k A0 c0 l0 A1 c1 l1 A2 c2 l2 A3 c3 l3 st b W' H.r0 H.c0 H.r1 H.c1 H.r2 H.c2 H.r3 H.c3 hl
 have hu27:=Tryz.underlying27
 have hu34:=Tryz.underlying34
 have hu44:=Tryz.underlying44
 have hu53:=Tryz.underlying53
 go_enter Tryz.func3,Tryz.ntmps3
 go_upto_region 1 with fail
 have BG:=jM (blk_new w (Obj.cells #[.slice A0 l0.length c0,.slice A1 l1.length c1,.slice A2 l2.length c2,.slice A3 l3.length c3,.int .i64 st] 27))
 have HB1:=jM (below_alloc (RowKit.Below.refl w.heap.size w) (Obj.cells #[.slice A0 l0.length c0,.slice A1 l1.length c1,.slice A2 l2.length c2,.slice A3 l3.length c3,.int .i64 st] 27))
 generalize w.alloc (Obj.cells #[.slice A0 l0.length c0,.slice A1 l1.length c1,.slice A2 l2.length c2,.slice A3 l3.length c3,.int .i64 st] 27)=w1 at *
 go_upto_region 4 with (go_at_call 9;refine (HWK.out w1 HB1.out).mono ?_;rintro e w2 ⟨rfl,hb⟩;have HB2:=jM (below_step HB1.out hb);have BG2:=jM (blk_below BG.out hb);clear hb)
 obtain ⟨z0,z1,z2,z3,z4⟩:=five5 BG2.out
 obtain ⟨-,hq⟩:=h
 rcases hq with hq | ⟨hq,hq2⟩
 ·have HL:=jM (HLI.out false hq w2 HB2.out)
  clear hq HLI HWK
  go_wp2_with (go_at_call 10;refine HL.out.mono ?_;rintro e w3 ⟨rfl,hb⟩;have HB3:=jM (below_step HB2.out hb);clear hb)
  go_ret
  exact ⟨rfl,HB3.out⟩
 ·have HL:=jM (HLI.out true hq w2 HB2.out)
  clear hq HLI HWK
  go_upto_region 7 with (go_at_call 10;refine HL.out.mono ?_;rintro e w3 ⟨rfl,hb⟩;have HB3:=jM (below_step HB2.out hb);have BG3:=jM (blk_below BG2.out hb);clear hb)
  have GM3:=jM (Gm.below GM0.out HB3.out)
  clear z0 z1 z2 z3 z4 HL
  have pre:∃ D N M e al e2 r,table_Build.f k l0 l1 l2 l3 st=some (D,N,M,e)∧table_All.f k l0 l1 l2 l3 st=some (al,e2)∧table_Clashes.f k l0 l1 l2 l3 st=some r ∧
    ((e2≠0∧e=e2∧D=[]) ∨ (e2=0∧r≠[]∧e=16∧D=[]) ∨ (e2=0∧r=[]∧e=0∧∃ Ka Na Mf,TBtab k l0 l1 l2 l3 st D N M al Ka Na Mf)):=by
   rcases hq2 with ⟨e,r,he,a,b,c⟩ | ⟨al,r,hr,a,b,c⟩ | ⟨D,N,M,al,Ka,Na,Mf,h⟩
   ·exact ⟨_,_,_,_,_,_,_,b,a,c,.inl ⟨he,rfl,rfl⟩⟩
   ·exact ⟨_,_,_,_,_,_,_,b,a,c,.inr (.inl ⟨rfl,hr,rfl,rfl⟩)⟩
   ·exact ⟨_,_,_,_,_,_,_,h.bui,h.all,h.cla,.inr (.inr ⟨rfl,rfl,rfl,Ka,Na,Mf,h⟩)⟩
  clear hq2
  obtain ⟨D,N,M,e,al,e2,rr,hbu,hal,hcl,hcase⟩:=pre
  have HBU:=jM (build_c GM3.out hbu)
  have HAL:=jM fun (W':World) (hb:RowKit.Below w.heap.size w W')=>all_c (Gm.below GM0.out hb) hal
  have HCL:=jM fun (W':World) (hb:RowKit.Below w.heap.size w W')=>clashes_c (Gm.below GM0.out hb) hcl
  have HCASE:=jM hcase
  clear hbu hal hcl hcase
  obtain ⟨z0,z1,z2,z3,z4⟩:=five5 BG3.out
  go_upto_region 8 with (go_at_call 11;refine HBU.out.mono ?_;rintro x w4 ⟨A,c,A',c',A'',c'',rfl,hm,hb⟩;have HB4:=jM (below_step HB3.out hb);have BG4:=jM (blk_below BG3.out hb);have TM4:=jM hm;clear hb hm)
  clear z0 z1 z2 z3 z4 HBU
  have BT:=jM (blk_new w4 (Obj.cells #[.slice A D.length c,.slice A' N.length c',.slice A'' M.length c''] 34))
  have hal:=below_alloc (RowKit.Below.refl w4.heap.size w4) (Obj.cells #[.slice A D.length c,.slice A' N.length c',.slice A'' M.length c''] 34)
  have HB5:=jM (below_step HB4.out hal)
  have BG5:=jM (blk_below BG4.out hal)
  have TM5:=jM (Tm.below TM4.out hal)
  clear hal
  generalize w4.alloc (Obj.cells #[.slice A D.length c,.slice A' N.length c',.slice A'' M.length c''] 34)=w5 at *
  generalize w4.heap.size=tb at *
  obtain ⟨z0,z1,z2,z3,z4⟩:=five5 BG5.out
  go_upto_region 9 with (go_at_call 12;refine (HAL.out w5 HB5.out).mono ?_;rintro x w6 ⟨AL,cL,rfl,hcl,hCl,hb⟩;have HB6:=jM (below_step HB5.out hb);have BG6:=jM (blk_below BG5.out hb);have BT6:=jM (blk_below BT.out hb);have TM6:=jM (Tm.below TM5.out hb);have CA6:=jM hCl;have HLL:=jM hcl;clear hb hCl hcl)
  clear z0 z1 z2 z3 z4 HAL BG5 BT TM5 BG4 TM4 BG3 BG2 BG
  obtain ⟨z0,z1,z2,z3,z4⟩:=five5 BG6.out
  go_upto_region 10 with (go_at_call 13;refine (HCL.out w6 HB6.out).mono ?_;rintro x w7 ⟨AC,cC,rfl,hb⟩;have HB7:=jM (below_step HB6.out hb);have BG7:=jM (blk_below BG6.out hb);have BT7:=jM (blk_below BT6.out hb);have TM7:=jM (Tm.below TM6.out hb);have CA7:=jM (Kd.C_below CA6.out hb);clear hb)
  clear z0 z1 z2 z3 z4 HCL BG6 BT6 TM6 CA6
  obtain ⟨t0,t1,t2⟩:=three3 BT7.out
  rcases HCASE.out with ⟨he,rfl,hD⟩ | ⟨rfl,hne,rfl,hD⟩ | ⟨rfl,rfl,rfl,Ka,Na,Mf,hm⟩
  ·have d1:(e != 0)=true:=bne_iff_ne.2 he
   have d2:D.length=0:=by rw [hD];rfl
   clear HCASE
   go_wp2_with fail
   go_ret
   exact ⟨rfl,HB7.out⟩
  ·have d2:D.length=0:=by rw [hD];rfl
   obtain ⟨x,xs,rfl⟩:=List.exists_cons_of_ne_nil hne
   clear HCASE hne
   go_wp2_with fail
   go_ret
   exact ⟨rfl,HB7.out⟩
  ·have HM:=jM hm
   have GM7:=jM (Gm.below GM0.out HB7.out)
   have HST:=jM (states_c GM7.out hm.sta)
   clear HCASE hm t0 t1 t2
   obtain ⟨z0,z1,z2,z3,z4⟩:=five5 BG7.out
   go_upto_region 15 with (go_at_call 14;refine HST.out.mono ?_;rintro x w8 ⟨AK,cK,AN,cN,rfl,hk,hn,hb⟩;have HB8:=jM (below_step HB7.out hb);have BG8:=jM (blk_below BG7.out hb);have BT8:=jM (blk_below BT7.out hb);have TM8:=jM (Tm.below TM7.out hb);have CA8:=jM (Kd.C_below CA7.out hb);have SK8:=jM hk;have SN8:=jM hn;clear hb hk hn)
   clear z0 z1 z2 z3 z4 HST BG7 BT7 TM7 CA7
   have BA:=jM (blk_new w8 (Obj.cells #[.slice AK Ka.length cK,.slice AN Na.length cN] 44))
   have hal:=below_alloc (RowKit.Below.refl w8.heap.size w8) (Obj.cells #[.slice AK Ka.length cK,.slice AN Na.length cN] 44)
   have HB9:=jM (below_step HB8.out hal)
   have BG9:=jM (blk_below BG8.out hal)
   have BT9:=jM (blk_below BT8.out hal)
   have TM9:=jM (Tm.below TM8.out hal)
   have CA9:=jM (Kd.C_below CA8.out hal)
   have SK9:=jM (And.intro SK8.out.1 (Kd.C_below SK8.out.2 hal))
   have SN9:=jM (And.intro SN8.out.1 (Kd.C_below SN8.out.2 hal))
   clear hal BG8 BT8 TM8 CA8 SK8 SN8
   generalize w8.alloc (Obj.cells #[.slice AK Ka.length cK,.slice AN Na.length cN] 44)=w9 at *
   generalize w8.heap.size=ab at *
   have HK:=jM (show al.length≤2003∧l0.length≤60∧l2.length≤60 from ⟨HM.out.hK,HM.out.hT,HM.out.hS⟩)
   obtain ⟨t0,t1,t2⟩:=three3 BT9.out
   have q1:((D.length:Int) != (al.length:Int))=false:=by rw [HM.out.hD];exact bne_self_eq_false _
   have q2:((N.length:Int) != (al.length:Int))=false:=by rw [HM.out.hN];exact bne_self_eq_false _
   have q3:((M.length:Int) != (al.length:Int))=false:=by rw [HM.out.hM];exact bne_self_eq_false _
   have q4:(D.length != al.length)=false:=by rw [HM.out.hD];exact bne_self_eq_false _
   have q5:(N.length != al.length)=false:=by rw [HM.out.hN];exact bne_self_eq_false _
   have q6:(M.length != al.length)=false:=by rw [HM.out.hM];exact bne_self_eq_false _
   go_upto_region 18 with fail
   clear q1 q2 q3 q4 q5 q6 t0 t1 t2
   have HW0:=jM (RowKit.Below.refl w9.heap.size w9)
   go_loopg [12] al.length (fun kq v12 W=>∃ i:Nat,v12=.int .i64 (i:Int)∧Aside0 (kq=al.length - i∧i≤al.length)∧Aside0 (RowKit.Below w9.heap.size w9 W))
   case atStart=>exact ⟨0,rfl,⟨rfl,Nat.zero_le _⟩,HW0⟩
   case round =>
    clear HW0
    obtain ⟨i,rfl,HJ,HW⟩:=hrel
    by_cases h1:i < al.length
    ·have d1:decide ((i:Int) < (al.length:Int))=true:=decide_eq_true (by omega)
     have d1n:decide (i < al.length)=true:=decide_eq_true (by omega)
     have HI:=jM h1
     have HLD:=jM (HM.out.row i h1)
     have HLN:=jM (HM.out.nx i h1)
     have HLA:=jM (HM.out.st_ i h1)
     have p1:=eq_true (show (0:Int)≤(i:Int) by omega)
     have p2:=eq_true (show (i:Int) < (D.length:Int) by have:=HM.out.hD;omega)
     have p3:=eq_true (show (i:Int) < (N.length:Int) by have:=HM.out.hN;omega)
     have p4:=eq_true (show (i:Int) < (M.length:Int) by have:=HM.out.hM;omega)
     have p5:=eq_true (show (i:Int) < (al.length:Int) by omega)
     obtain ⟨adD,AD,cD,eD,dx,dl,dC⟩:=at_L25 (Kd.C_below TM9.out.d HW.out) (i:Int) (by omega) (by have:=HM.out.hD;omega)
     obtain ⟨adN,AX,cX,eN,nx,nl,nC⟩:=at_L17 (Kd.C_below TM9.out.n HW.out) (i:Int) (by omega) (by have:=HM.out.hN;omega)
     obtain ⟨adM,eM,mx⟩:=at_u64 (Kd.C_below TM9.out.m HW.out) i (by have:=HM.out.hM;omega)
     obtain ⟨adA,AA,cA,eA,ax,xl,aC⟩:=at_L26 (Kd.C_below CA9.out HW.out) (i:Int) (by omega) (by omega)
     rw [Int.toNat_natCast] at dx nx ax
     subst eD
     subst eN
     subst eM
     subst eA
     have HQ:=jM fun (W':World) (hb:RowKit.Below wr.heap.size wr W')=>And.intro (five5 (blk_below (blk_below BG9.out HW.out) hb)) (And.intro (three3 (blk_below (blk_below BT9.out HW.out) hb)) (And.intro ((hb.cell (World.block_lt_of_cell? _ _ dx)).trans dx) (And.intro ((hb.cell (World.block_lt_of_cell? _ _ nx)).trans nx) (And.intro ((hb.cell (World.block_lt_of_cell? _ _ mx)).trans mx) (And.intro ((hb.cell (World.block_lt_of_cell? _ _ ax)).trans ax) (blk_below (blk_below BA.out HW.out) hb))))))
     have HDC:=jM dC
     have HNC:=jM nC
     have HAC:=jM aC
     clear dx nx mx ax dl nl xl dC nC aC h1
     obtain ⟨⟨z0,z1,z2,z3,z4⟩,⟨t0,t1,t2⟩,dx,nx,mx,ax, -⟩:=HQ.out wr (RowKit.Below.refl _ _)
     have q1:(((rd_L25 D (i:Int)).length:Int) != (l0.length:Int)+1)=false:=by rw [HLD.out];simp
     have q2:(((rd_L17 N (i:Int)).length:Int) != (l2.length:Int))=false:=by rw [HLN.out];simp
     have q3:((rd_L25 D (i:Int)).length != l0.length+1)=false:=by rw [HLD.out];simp
     have q4:((rd_L17 N (i:Int)).length != l2.length)=false:=by rw [HLN.out];simp
     have q5:wrap64 ((l0.length:Int)+1)=(l0.length:Int)+1:=IntWalk.wrap64_in _ (by have:=HK.out;omega)
     go_upto_region 21 with fail
     go_quiet (fail)
     go_upto_region 24 with fail
     clear q1 q2 q3 q4 q5 z0 z1 z2 z3 z4 t0 t1 t2 dx nx mx ax d1 d1n
     have HW0:=jM (RowKit.Below.refl wr.heap.size wr)
     go_loopg [13,14] (l0.length+1) (fun kq v13 v14 W=>∃ cc:Nat,v13=.int .u64 (Mf i cc)∧v14=.int .i64 (cc:Int)∧Aside0 (kq=l0.length+1 - cc∧cc≤l0.length+1)∧Aside0 (RowKit.Below wr.heap.size wr W))
     case atStart=>exact ⟨0,by rw [HM.out.zero],rfl,⟨rfl,Nat.zero_le _⟩,⟨by repeat (first | exact HW0.out | apply below_drew1 | apply pw_below_drewN)⟩⟩
     case round =>
      clear HW0
      obtain ⟨cc,rfl,rfl,HC,HWI⟩:=hrel
      by_cases h1:cc≤l0.length
      ·have d1:decide ((cc:Int)≤(l0.length:Int))=true:=decide_eq_true (by omega)
       have d1n:decide (cc≤l0.length)=true:=decide_eq_true (by omega)
       have HC2:=jM h1
       obtain ⟨adB,AR,cR,eB,bx,bl,bC⟩:=at_L25 (Kd.C_below HAC.out HWI.out) (cc:Int) (by omega) (by have:=HLA.out;omega)
       obtain ⟨adR,eR,rx,ry⟩:=at_T53 (Kd.C_below HDC.out HWI.out) (cc:Int) (by omega) (by have:=HLD.out;omega)
       rw [Int.toNat_natCast] at bx rx ry
       subst eB
       subst eR
       have p6:=eq_true (show (0:Int)≤(cc:Int) by omega)
       have p7:=eq_true (show (cc:Int) < ((rd_L25 D (i:Int)).length:Int) by have:=HLD.out;omega)
       have p8:=eq_true (show (cc:Int) < ((rd_L26 al (i:Int)).length:Int) by have:=HLA.out;omega)
       have HQ2:=jM fun (W':World) (hb:RowKit.Below wr.heap.size wr W')=>And.intro (HQ.out W' (below_step HWI.out hb)) (And.intro ((hb.cell (World.block_lt_of_cell? _ _ bx)).trans bx) (And.intro ((hb.cell (World.block_lt_of_cell? _ _ rx)).trans rx) ((hb.cell (World.block_lt_of_cell? _ _ ry)).trans ry)))
       have HBC:=jM bC
       have hw64:wrap64 ((cc:Int)+1)=((cc+1:Nat):Int):=up64 cc (by have:=HK.out;omega)
       clear bx rx ry bl bC h1
       obtain ⟨⟨⟨z0,z1,z2,z3,z4⟩,⟨t0,t1,t2⟩,dx,nx,mx,ax, -⟩,bx,rx,ry⟩:=HQ2.out wr (RowKit.Below.refl _ _)
       go_upto_region 27 with fail
       clear z0 z1 z2 z3 z4 t0 t1 t2 dx nx mx ax bx rx ry d1 d1n
       have BW:=jM (blk_new wr (Obj.cells #[.int .i64 0,.int .i64 0] 53))
       have HB10:=jM (below_alloc (RowKit.Below.refl wr.heap.size wr) (Obj.cells #[.int .i64 0,.int .i64 0] 53))
       have HWG:=jM (show wr.heap.size≤wr.heap.size from Nat.le_refl _)
       generalize wr.alloc (Obj.cells #[.int .i64 0,.int .i64 0] 53)=w10 at *
       clear HWG
       obtain ⟨⟨⟨z0,z1,z2,z3,z4⟩,⟨t0,t1,t2⟩,dx,nx,mx,ax, -⟩,bx,rx,ry⟩:=HQ2.out w10 HB10.out
       by_cases h2:cc=l0.length
       ·have q1:((cc:Int) == (l0.length:Int))=true:=beq_iff_eq.2 (by omega)
        have q2:(cc == l0.length)=true:=beq_iff_eq.2 h2
        have q3:decide ((cc:Int)=(l0.length:Int))=true:=decide_eq_true (by omega)
        have q4:decide (cc=l0.length)=true:=decide_eq_true h2
        have hbit:((bitN l0.length cc:Nat):Int)=63:=by unfold bitN;rw [if_pos h2];rfl
        clear h2
        by_cases h3:(rd_L25 (rd_L26 al (i:Int)) (cc:Int)).length=1
        ·obtain ⟨hw1,heq⟩:=HM.out.one i cc HI.out HC2.out h3
         rw [hbit] at hw1
         rw [heq] at rx ry
         obtain ⟨adE,eE,ex,ey⟩:=at_T53 (Kd.C_below HBC.out HB10.out) 0 (by omega) (by omega)
         subst eE
         have ead:adE.add ((0:Int).toNat * 2)=adE:=add_none adE
         rw [ead] at ex ey
         have HWC:=jM fun (W':World)=>bits_With.calls _ _ _ W' hw1
         have q5:(((rd_L25 (rd_L26 al (i:Int)) (cc:Int)).length:Int) == 1)=true:=beq_iff_eq.2 (by omega)
         have q6:((rd_L25 (rd_L26 al (i:Int)) (cc:Int)).length == 1)=true:=beq_iff_eq.2 h3
         have q7:decide ((rd_L25 (rd_L26 al (i:Int)) (cc:Int)).length=1)=true:=decide_eq_true h3
         have p9:=eq_true (show (0:Int) < (((rd_L25 (rd_L26 al (i:Int)) (cc:Int)).length:Nat):Int) by omega)
         have p9n:=eq_true (show 0 < (rd_L25 (rd_L26 al (i:Int)) (cc:Int)).length by omega)
         obtain ⟨b0,b1⟩:=(show w10.cell? ⟨wr.heap.size,0,none⟩=some (.int .i64 0)∧w10.cell? ⟨wr.heap.size,1,none⟩=some (.int .i64 0) from ⟨blk_cell BW.out 0,blk_cell BW.out 1⟩)
         have f0:=blk_frozen BW.out 0
         have f1:=blk_frozen BW.out 1
         have HEQ:=jM heq
         clear h3 heq hw1
         go_upto_region 32 with fail
         clear q1 q2 q3 q4 q5 q6 q7 p9 p9n z0 z1 z2 z3 z4 t0 t1 t2 dx nx mx ax bx rx ry ex ey b0 b1 f0 f1
         obtain ⟨w11,hw11⟩:∃ W_:World,W_=((w10.setCell ⟨wr.heap.size,0,none⟩ (.int .i64 (rd_T53 (rd_L25 (rd_L26 al (i:Int)) (cc:Int)) 0).f0)).setCell ⟨wr.heap.size,1,none⟩ (.int .i64 (rd_T53 (rd_L25 (rd_L26 al (i:Int)) (cc:Int)) 0).f1)):=⟨_,rfl⟩
         rw [← hw11]
         have BW11:w11.heap[wr.heap.size]? = some (.cells #[.int .i64 (rd_T53 (rd_L25 (rd_L26 al (i:Int)) (cc:Int)) 0).f0,.int .i64 (rd_T53 (rd_L25 (rd_L26 al (i:Int)) (cc:Int)) 0).f1] 53 (0,0)):=by rw [hw11];exact blk_put (blk_put BW.out 0 _ rfl) 1 _ rfl
         have hb11:RowKit.Below wr.heap.size wr w11:=by rw [hw11];exact below_set (below_set HB10.out (Nat.le_refl _)) (Nat.le_refl _)
         clear hw11
         obtain ⟨⟨⟨z0,z1,z2,z3,z4⟩,⟨t0,t1,t2⟩,dx,nx,mx,ax, -⟩,bx,rx,ry⟩:=HQ2.out w11 hb11
         rw [HEQ.out] at rx ry
         have b0:w11.cell? ⟨wr.heap.size,0,none⟩=some (.int .i64 (rd_T53 (rd_L25 (rd_L26 al (i:Int)) (cc:Int)) 0).f0):=blk_cell BW11 0
         have b1:w11.cell? ⟨wr.heap.size,1,none⟩=some (.int .i64 (rd_T53 (rd_L25 (rd_L26 al (i:Int)) (cc:Int)) 0).f1):=blk_cell BW11 1
         have HB11:=jM hb11
         clear hb11 BW11
         generalize rd_T53 (rd_L25 (rd_L26 al (i:Int)) (cc:Int)) 0=x at *
         go_upto_region 33 with (go_at_call 15;refine (HWC.out _).mono ?_;rintro e w12 ⟨rfl,nd,rfl⟩)
         go_quiet (fail)
         go_wp2_with fail
         go_roundg (l0.length+1 - (cc+1))
         case measure=>have:=HC.out;have:=HC2.out;omega
         case rel=>exact ⟨cc+1,rfl,by first | rfl | (rw [hw64]) | simp,⟨rfl,by have:=HC2.out;omega⟩,⟨by repeat (first | exact below_step HWI.out HB11.out | apply below_drew1 | apply pw_below_drewN)⟩⟩
        ·obtain ⟨hw1,heq⟩:=HM.out.none_ i cc HI.out HC2.out h3
         rw [heq] at rx ry
         have q5:(((rd_L25 (rd_L26 al (i:Int)) (cc:Int)).length:Int) == 1)=false:=beq_eq_false_iff_ne.2 (by omega)
         have q6:((rd_L25 (rd_L26 al (i:Int)) (cc:Int)).length == 1)=false:=beq_eq_false_iff_ne.2 h3
         have q7:decide ((rd_L25 (rd_L26 al (i:Int)) (cc:Int)).length=1)=false:=decide_eq_false h3
         obtain ⟨b0,b1⟩:=(show w10.cell? ⟨wr.heap.size,0,none⟩=some (.int .i64 0)∧w10.cell? ⟨wr.heap.size,1,none⟩=some (.int .i64 0) from ⟨blk_cell BW.out 0,blk_cell BW.out 1⟩)
         have HEQ:=jM hw1
         clear h3 heq hw1
         go_upto_region 33 with fail
         go_quiet (fail)
         go_wp2_with fail
         go_roundg (l0.length+1 - (cc+1))
         case measure=>have:=HC.out;have:=HC2.out;omega
         case rel=>exact ⟨cc+1,by rw [HEQ.out],by first | rfl | (rw [hw64]) | simp,⟨rfl,by have:=HC2.out;omega⟩,⟨by repeat (first | exact below_step HWI.out HB10.out | apply below_drew1 | apply pw_below_drewN)⟩⟩
       ·have q1:((cc:Int) == (l0.length:Int))=false:=beq_eq_false_iff_ne.2 (by omega)
        have q2:(cc == l0.length)=false:=beq_eq_false_iff_ne.2 h2
        have q3:decide ((cc:Int)=(l0.length:Int))=false:=decide_eq_false (by omega)
        have q4:decide (cc=l0.length)=false:=decide_eq_false h2
        have hbit:((bitN l0.length cc:Nat):Int)=(cc:Int):=by unfold bitN;rw [if_neg h2]
        clear h2
        by_cases h3:(rd_L25 (rd_L26 al (i:Int)) (cc:Int)).length=1
        ·obtain ⟨hw1,heq⟩:=HM.out.one i cc HI.out HC2.out h3
         rw [hbit] at hw1
         rw [heq] at rx ry
         obtain ⟨adE,eE,ex,ey⟩:=at_T53 (Kd.C_below HBC.out HB10.out) 0 (by omega) (by omega)
         subst eE
         have ead:adE.add ((0:Int).toNat * 2)=adE:=add_none adE
         rw [ead] at ex ey
         have HWC:=jM fun (W':World)=>bits_With.calls _ _ _ W' hw1
         have q5:(((rd_L25 (rd_L26 al (i:Int)) (cc:Int)).length:Int) == 1)=true:=beq_iff_eq.2 (by omega)
         have q6:((rd_L25 (rd_L26 al (i:Int)) (cc:Int)).length == 1)=true:=beq_iff_eq.2 h3
         have q7:decide ((rd_L25 (rd_L26 al (i:Int)) (cc:Int)).length=1)=true:=decide_eq_true h3
         have p9:=eq_true (show (0:Int) < (((rd_L25 (rd_L26 al (i:Int)) (cc:Int)).length:Nat):Int) by omega)
         have p9n:=eq_true (show 0 < (rd_L25 (rd_L26 al (i:Int)) (cc:Int)).length by omega)
         obtain ⟨b0,b1⟩:=(show w10.cell? ⟨wr.heap.size,0,none⟩=some (.int .i64 0)∧w10.cell? ⟨wr.heap.size,1,none⟩=some (.int .i64 0) from ⟨blk_cell BW.out 0,blk_cell BW.out 1⟩)
         have f0:=blk_frozen BW.out 0
         have f1:=blk_frozen BW.out 1
         have HEQ:=jM heq
         clear h3 heq hw1
         go_upto_region 32 with fail
         clear q1 q2 q3 q4 q5 q6 q7 p9 p9n z0 z1 z2 z3 z4 t0 t1 t2 dx nx mx ax bx rx ry ex ey b0 b1 f0 f1
         obtain ⟨w11,hw11⟩:∃ W_:World,W_=((w10.setCell ⟨wr.heap.size,0,none⟩ (.int .i64 (rd_T53 (rd_L25 (rd_L26 al (i:Int)) (cc:Int)) 0).f0)).setCell ⟨wr.heap.size,1,none⟩ (.int .i64 (rd_T53 (rd_L25 (rd_L26 al (i:Int)) (cc:Int)) 0).f1)):=⟨_,rfl⟩
         rw [← hw11]
         have BW11:w11.heap[wr.heap.size]? = some (.cells #[.int .i64 (rd_T53 (rd_L25 (rd_L26 al (i:Int)) (cc:Int)) 0).f0,.int .i64 (rd_T53 (rd_L25 (rd_L26 al (i:Int)) (cc:Int)) 0).f1] 53 (0,0)):=by rw [hw11];exact blk_put (blk_put BW.out 0 _ rfl) 1 _ rfl
         have hb11:RowKit.Below wr.heap.size wr w11:=by rw [hw11];exact below_set (below_set HB10.out (Nat.le_refl _)) (Nat.le_refl _)
         clear hw11
         obtain ⟨⟨⟨z0,z1,z2,z3,z4⟩,⟨t0,t1,t2⟩,dx,nx,mx,ax, -⟩,bx,rx,ry⟩:=HQ2.out w11 hb11
         rw [HEQ.out] at rx ry
         have b0:w11.cell? ⟨wr.heap.size,0,none⟩=some (.int .i64 (rd_T53 (rd_L25 (rd_L26 al (i:Int)) (cc:Int)) 0).f0):=blk_cell BW11 0
         have b1:w11.cell? ⟨wr.heap.size,1,none⟩=some (.int .i64 (rd_T53 (rd_L25 (rd_L26 al (i:Int)) (cc:Int)) 0).f1):=blk_cell BW11 1
         have HB11:=jM hb11
         clear hb11 BW11
         generalize rd_T53 (rd_L25 (rd_L26 al (i:Int)) (cc:Int)) 0=x at *
         go_upto_region 33 with (go_at_call 15;refine (HWC.out _).mono ?_;rintro e w12 ⟨rfl,nd,rfl⟩)
         go_quiet (fail)
         go_wp2_with fail
         go_roundg (l0.length+1 - (cc+1))
         case measure=>have:=HC.out;have:=HC2.out;omega
         case rel=>exact ⟨cc+1,rfl,by first | rfl | (rw [hw64]) | simp,⟨rfl,by have:=HC2.out;omega⟩,⟨by repeat (first | exact below_step HWI.out HB11.out | apply below_drew1 | apply pw_below_drewN)⟩⟩
        ·obtain ⟨hw1,heq⟩:=HM.out.none_ i cc HI.out HC2.out h3
         rw [heq] at rx ry
         have q5:(((rd_L25 (rd_L26 al (i:Int)) (cc:Int)).length:Int) == 1)=false:=beq_eq_false_iff_ne.2 (by omega)
         have q6:((rd_L25 (rd_L26 al (i:Int)) (cc:Int)).length == 1)=false:=beq_eq_false_iff_ne.2 h3
         have q7:decide ((rd_L25 (rd_L26 al (i:Int)) (cc:Int)).length=1)=false:=decide_eq_false h3
         obtain ⟨b0,b1⟩:=(show w10.cell? ⟨wr.heap.size,0,none⟩=some (.int .i64 0)∧w10.cell? ⟨wr.heap.size,1,none⟩=some (.int .i64 0) from ⟨blk_cell BW.out 0,blk_cell BW.out 1⟩)
         have HEQ:=jM hw1
         clear h3 heq hw1
         go_upto_region 33 with fail
         go_quiet (fail)
         go_wp2_with fail
         go_roundg (l0.length+1 - (cc+1))
         case measure=>have:=HC.out;have:=HC2.out;omega
         case rel=>exact ⟨cc+1,by rw [HEQ.out],by first | rfl | (rw [hw64]) | simp,⟨rfl,by have:=HC2.out;omega⟩,⟨by repeat (first | exact below_step HWI.out HB10.out | apply below_drew1 | apply pw_below_drewN)⟩⟩
      ·have d1:decide ((cc:Int)≤(l0.length:Int))=false:=decide_eq_false (by omega)
       have d1n:decide (cc≤l0.length)=false:=decide_eq_false (by omega)
       have hcc:cc=l0.length+1:=by have:=HC.out;omega
       subst hcc
       obtain ⟨⟨z0,z1,z2,z3,z4⟩,⟨t0,t1,t2⟩,dx,nx,mx,ax, -⟩:=HQ.out wr HWI.out
       clear h1
       go_upto_region 36 with fail
       clear z0 z1 z2 z3 z4 t0 t1 t2 dx nx mx ax d1 d1n HC
       have HW0:=jM (RowKit.Below.refl wr.heap.size wr)
       go_loopg [17] l2.length (fun kq v17 W=>∃ s:Nat,v17=.int .i64 (s:Int)∧Aside0 (kq=l2.length - s∧s≤l2.length)∧Aside0 (RowKit.Below wr.heap.size wr W))
       case atStart=>exact ⟨0,rfl,⟨rfl,Nat.zero_le _⟩,HW0⟩
       case round =>
        clear HW0
        obtain ⟨s,rfl,HS,HWS⟩:=hrel
        have HW1:=jM (below_step HWI.out HWS.out)
        by_cases h1:s < l2.length
        ·have d1:decide ((s:Int) < (l2.length:Int))=true:=decide_eq_true (by omega)
         have d1n:decide (s < l2.length)=true:=decide_eq_true (by omega)
         have HS2:=jM h1
         obtain ⟨adX,eX,xx⟩:=at_i64 (Kd.C_below HNC.out HW1.out) s (by have:=HLN.out;omega)
         subst eX
         have p6:=eq_true (show (0:Int)≤(s:Int) by omega)
         have p7:=eq_true (show (s:Int) < ((rd_L17 N (i:Int)).length:Int) by have:=HLN.out;omega)
         have hwm:wrap64 ((-1) - (s:Int))=-1 - (s:Int):=IntWalk.wrap64_in _ (by have:=HK.out;omega)
         have hwm2:IntKind.i64.wrap ((-1) - (s:Int))=-1 - (s:Int):=IntWalk.i64_in _ (by have:=HK.out;omega)
         have hw64:wrap64 ((s:Int)+1)=((s+1:Nat):Int):=up64 s (by have:=HK.out;omega)
         have hgo:=HM.out.go i s HI.out h1
         have HGO:=jM fun (W':World) (hb:RowKit.Below w9.heap.size w9 W') =>
          let H:=Gm.below GM0.out (below_step HB9.out hb)
          states_Go.calls A0 c0 l0 A1 c1 l1 A2 c2 l2 A3 c3 l3 st AK cK Ka AN cN Na (i:Int) (-1 - (s:Int)) _ W' H.r0 H.c0 H.r1 H.c1 H.r2 H.c2 H.r3 H.c3 (Kd.C_below SK9.out.2 hb) SK9.out.1 (Kd.C_below SN9.out.2 hb) SN9.out.1 hgo
         have HQ2:=jM fun (W':World) (hb:RowKit.Below wr.heap.size wr W')=>And.intro (HQ.out W' (below_step HW1.out hb)) ((hb.cell (World.block_lt_of_cell? _ _ xx)).trans xx)
         have HWT:=jM (below_step HW.out HW1.out)
         clear xx h1 hgo
         obtain ⟨⟨⟨z0,z1,z2,z3,z4⟩,⟨t0,t1,t2⟩,dx,nx,mx,ax,hba⟩,xx⟩:=HQ2.out wr (RowKit.Below.refl _ _)
         have a0:=blk_cell hba 0
         have a1:=blk_cell hba 1
         clear hba dx mx ax
         go_upto_region 38 with fail
         go_region_held3 (fun w'=>w'.cell? ⟨w.heap.size,0,none⟩=some (.slice A0 l0.length c0)∧w'.cell? ⟨w.heap.size,1,none⟩=some (.slice A1 l1.length c1)∧w'.cell? ⟨w.heap.size,2,none⟩=some (.slice A2 l2.length c2)∧w'.cell? ⟨w.heap.size,3,none⟩=some (.slice A3 l3.length c3)∧w'.cell? ⟨w.heap.size,4,none⟩=some (.int .i64 st)∧w'.cell? ⟨tb,1,none⟩=some (.slice (some adN) N.length c')∧w'.cell? (adN.add i)=some (.slice (some adX) (rd_L17 N (i:Int)).length cX)∧w'.cell? (adX.add s)=some (.int .i64 (Go.Proofs.YtclollnicbcooaaGreatDoorW.PrintWords.rd (rd_L17 N (i:Int)) (s:Int)))∧w'.cell? ⟨ab,0,none⟩=some (.slice AK Ka.length cK)∧w'.cell? ⟨ab,1,none⟩=some (.slice AN Na.length cN)) (first | assumption | exact ⟨z0,z1,z2,z3,z4,t1,nx,xx,a0,a1⟩)
          (first | (go_at_call 16;refine (HGO.out _ (below_step HWT.out (by repeat (first | exact RowKit.Below.refl _ _ | apply below_drew1)))).mono ?_;rintro e w11 ⟨rfl,hb⟩;have hbb:=below_step (w:=wr) (by repeat (first | exact RowKit.Below.refl _ _ | apply below_drew1)) hb;have HB11:=jM hbb;obtain ⟨⟨⟨z0,z1,z2,z3,z4⟩,⟨t0,t1,t2⟩,dx,nx,mx,ax,hba⟩,xx⟩:=HQ2.out w11 hbb;have a0:=blk_cell hba 0;have a1:=blk_cell hba 1;clear hba dx mx ax hb hbb))
         go_wp2_with fail
         go_roundg (l2.length - (s+1))
         case measure=>have:=HS.out;have:=HS2.out;omega
         case rel=>exact ⟨s+1,by first | rfl | (rw [hw64]) | simp,⟨rfl,by have:=HS2.out;omega⟩,⟨by repeat (first | exact below_step HWS.out HB11.out | apply below_drew1 | apply pw_below_drewN)⟩⟩
        ·have d1:decide ((s:Int) < (l2.length:Int))=false:=decide_eq_false (by omega)
         have d1n:decide (s < l2.length)=false:=decide_eq_false (by omega)
         have hw64:wrap64 ((i:Int)+1)=((i+1:Nat):Int):=up64 i (by have:=HK.out;have:=HI.out;omega)
         obtain ⟨⟨z0,z1,z2,z3,z4⟩,⟨t0,t1,t2⟩,dx,nx,mx,ax, -⟩:=HQ.out wr HW1.out
         rw [HM.out.fin i HI.out] at mx
         clear h1
         go_wp2_with fail
         go_roundg (al.length - (i+1))
         case measure=>have:=HJ.out;have:=HI.out;omega
         case rel=>exact ⟨i+1,by first | rfl | (rw [hw64]) | simp,⟨rfl,by have:=HI.out;omega⟩,⟨by repeat (first | exact below_step HW.out HW1.out | apply below_drew1 | apply pw_below_drewN)⟩⟩
    ·have d1:decide ((i:Int) < (al.length:Int))=false:=decide_eq_false (by omega)
     have d1n:decide (i < al.length)=false:=decide_eq_false (by omega)
     go_wp2_with fail
     go_ret
     exact ⟨rfl,below_step HB9.out HW.out⟩
end
end Go.Proofs.YtclollnicbcooaaGreatDoor.P
namespace Go.Proofs.YtclollnicbcooaaGreatDoor.P
open Go.RowKit YtclollnicbcooaaGreatDoorW.PrintWords YtclollnicbcooaaGreatDoorW.PrintLast YtclollnicbcooaaGreatDoorW.PrintMore St Bitty
section
section
variable {l0:List S65} {l1:List S73} {l2:List ByteArray} {l3:List S68} {st:Int} {K:List (List Itm)} {N:List (List Int)} {F:Spt→Int} (H:Aheads l0 l1 l2 l3 st K N F) (hr:∀ p ∈ l3,∀ s ∈ p.f2, -9223372036854775808≤s∧s≤9223372036854775807)

def colN (T b:Nat):Prop:=b < T ∨ b=63
include H hr
end
end
section
theorem table_fails {l0:List S65} {l1:List S73} {l2:List ByteArray} {l3:List S68} {st:Int} {a:List (List S77)} {b:List (List Int)} {e:Int} (he:e≠0) (hB:states_Build.f l0 l1 l2 l3 st=some (a,b,e)) (k:Nat):table_All.f k l0 l1 l2 l3 st=some ([],e)∧table_Build.f k l0 l1 l2 l3 st=some ([],[],[],e):=by
 have h:table_All.f k l0 l1 l2 l3 st=some ([],e):=by
  unfold table_All.f
  rw [hB,Option.bind_some,if_neg he]
 refine ⟨h, ?_⟩
 unfold table_Build.f
 rw [h,Option.bind_some,if_neg he]
theorem table_cases {l0:List S65} {l1:List S73} {l2:List ByteArray} {l3:List S68} {st:Int} (hr:∀ p ∈ l3,∀ s ∈ p.f2, -9223372036854775808≤s∧s≤9223372036854775807) :
  (∃ e,e≠0∧(∀ k,table_All.f k l0 l1 l2 l3 st=some ([],e))∧∀ k,table_Build.f k l0 l1 l2 l3 st=some ([],[],[],e)) ∨
  ∃ K N F,Aheads l0 l1 l2 l3 st K N F∧states_Build.f l0 l1 l2 l3 st=some (K.map (·.map ofI),N,0)∧Ev (fun k=>table_All.f k l0 l1 l2 l3 st) (allP l0 l1 l2 l3 st K N F,0) ∧
   ((Clash l0 l1 l2 l3 st K N F∧Ev (fun k=>table_Build.f k l0 l1 l2 l3 st) ([],[],[],16)) ∨
   (¬ Clash l0 l1 l2 l3 st K N F∧Ev (fun k=>table_Build.f k l0 l1 l2 l3 st) (dsP l0 l1 l2 l3 st K N F K.length,nsP l0 N K.length,msP l0 l1 l2 l3 st K N F K.length,0))):=by
 cases hv:validB l0 l1 l2 l3 st with
 | false=>exact .inl ⟨1,by decide,fun k=>(table_fails (by decide) (build_not hv) k).1,fun k=>(table_fails (by decide) (build_not hv) k).2⟩
 | true =>
  obtain ⟨R,hR,hB⟩:=build_ok hr hv
  cases R with
  | none=>exact .inl ⟨4,by decide,fun k=>(table_fails (by decide) hB k).1,fun k=>(table_fails (by decide) hB k).2⟩
  | some KN =>
   rcases all_cases (l0:=l0) (l1:=l1) (l2:=l2) (st:=st) hr with ⟨e,he,hA⟩ | ⟨K,N,F,H,hB',hE,_⟩
   ·have:=hA 0
    unfold look_All.f at this
    rw [hB,Option.bind_some] at this
    replace this:(look_rows.f 0 l0 l1 l2 l3 st (KN.1.map (·.map ofI)) KN.2).map (fun r=>(r,(0:Int)))=some ([],e):=this
    obtain ⟨x,_,hx⟩:=Option.map_eq_some_iff.1 this
    injection hx with _ hx
    exact absurd hx.symm he
   ·exact .inr ⟨K,N,F,H,hB',all_ev H hr hB' hE,table_ev H hr hB' hE⟩
section
variable {l0:List S65} {l1:List S73} {l2:List ByteArray} {l3:List S68} {st:Int} {K:List (List Itm)} {N:List (List Int)} {F:Spt→Int}
theorem dsP_len (i:Nat):(dsP l0 l1 l2 l3 st K N F i).length=i:=by unfold dsP;simp
theorem nsP_len (i:Nat):(nsP l0 N i).length=i:=by unfold nsP;simp
theorem msP_len (i:Nat):(msP l0 l1 l2 l3 st K N F i).length=i:=by unfold msP;simp
theorem dsP_at {n i:Nat} (hi:i < n):rd_L25 (dsP l0 l1 l2 l3 st K N F n) (i:Int)=rowD l0.length (deedsP l0 l1 l2 l3 st K N F i):=by
 unfold rd_L25 dsP
 rw [Int.toNat_natCast,List.getD_eq_getElem?_getD,List.getElem?_map,List.getElem?_range hi]
 rfl
theorem nsP_at {n i:Nat} (hi:i < n):rd_L17 (nsP l0 N n) (i:Int)=(rd_L17 N (i:Int)).drop l0.length:=by
 unfold rd_L17 nsP
 rw [Int.toNat_natCast,List.getD_eq_getElem?_getD,List.getElem?_map,List.getElem?_range hi]
 rfl
theorem msP_at {n i:Nat} (hi:i < n):Go.Proofs.YtclollnicbcooaaGreatDoorW.PrintWords.rd (msP l0 l1 l2 l3 st K N F n) (i:Int)=mayF l0.length (deedsP l0 l1 l2 l3 st K N F i) (l0.length+1):=by
 unfold msP Go.Proofs.YtclollnicbcooaaGreatDoorW.PrintWords.rd
 rw [Int.toNat_natCast,List.getD_eq_getElem?_getD,List.getElem?_map,List.getElem?_range hi]
 rfl
theorem rowD_len (T:Nat) (D:Nat→List S53):(rowD T D).length=T+1:=by unfold rowD;simp
theorem rowD_at (T:Nat) (D:Nat→List S53) {c:Nat} (hc:c≤T):rd_T53 (rowD T D) (c:Int)=oneD (D c):=by
 unfold rd_T53 rowD
 rw [Int.toNat_natCast,List.getD_eq_getElem?_getD,List.getElem?_map,List.getElem?_range (by omega)]
 rfl
end
end
section
section
variable {l0:List S65} {l1:List S73} {l2:List ByteArray} {l3:List S68} {st:Int} {K:List (List Itm)} {N:List (List Int)} {F:Spt→Int} (H:Aheads l0 l1 l2 l3 st K N F) (hr:∀ p ∈ l3,∀ s ∈ p.f2, -9223372036854775808≤s∧s≤9223372036854775807)
include H hr
def NoC (l0:List S65) (l1:List S73) (l2:List ByteArray) (l3:List S68) (st:Int) (K:List (List Itm)) (N:List (List Int)) (F:Spt→Int) (i c:Nat):Prop:=∀ j,c≤j→j≤l0.length→(deedsP l0 l1 l2 l3 st K N F i j).length≤1
theorem cla_l1 {i:Nat} (hi:i < K.length) (hE:∀ acc:List S73,acc.length≤(i+1) * 61→∃ r,Ev (fun k=>table_Clashes.l0 k acc (allP l0 l1 l2 l3 st K N F) (K.length:Int) ((i+1:Nat):Int)) r∧(r=[] ↔ acc=[]∧∀ j,i+1≤j→j < K.length→NoC l0 l1 l2 l3 st K N F j 0)):∀ (m c:Nat) (acc:List S73),c+m=l0.length+1→acc.length≤i * 61+c →
  ∃ r,Ev (fun k=>table_Clashes.l1 k acc (i:Int) (allP l0 l1 l2 l3 st K N F) (K.length:Int) (i:Int) (stateP l0 l1 l2 l3 st K N F i) ((l0.length+1:Nat):Int) (c:Int)) r∧(r=[] ↔ acc=[]∧NoC l0 l1 l2 l3 st K N F i c∧∀ j,i+1≤j→j < K.length→NoC l0 l1 l2 l3 st K N F j 0)
 | 0,c,acc,hc,ha=>by
  have hT:=H.ord.gram.hT
  have hf:=H.few
  obtain ⟨r,h1,h2⟩:=hE acc (by omega)
  refine ⟨r,Ev.step (fun k=>?_) h1, ?_⟩
  ·rw [table_Clashes.l1,if_neg (by omega),up64 i (by omega)]
  ·rw [h2]
   constructor
   ·rintro ⟨a,b⟩
    exact ⟨a,fun j h3 h4=>by omega,b⟩
   ·rintro ⟨a,_,b⟩
    exact ⟨a,b⟩
 | m+1,c,acc,hc,ha=>by
  have hT:=H.ord.gram.hT
  have hf:=H.few
  have hs:=stateP_at H hr i (c:=c) (by omega)
  have hl:=stateP_len H hr i
  by_cases h1:1 < (deedsP l0 l1 l2 l3 st K N F i c).length
  ·obtain ⟨r,h2,h3⟩:=cla_l1 hi hE m (c+1) (acc ++ [⟨(i:Int),(c:Int)⟩]) (by omega) (by simp only [List.length_append,List.length_singleton];omega)
   refine ⟨r,Ev.step (fun k=>?_) h2, ?_⟩
   ·have hi2:i * 61≤2003 * 61:=Nat.mul_le_mul_right _ (by omega)
    rw [table_Clashes.l1,if_pos (by omega),if_pos (by omega),if_pos (by omega),hs,if_pos (by omega),if_pos (by omega),up64 c (by omega)]
   ·rw [h3]
    constructor
    ·rintro ⟨a,_⟩
     simp at a
    ·rintro ⟨_,b,_⟩
     have:=b c (Nat.le_refl _) (by omega)
     omega
  ·obtain ⟨r,h2,h3⟩:=cla_l1 hi hE m (c+1) acc (by omega) (by omega)
   refine ⟨r,Ev.step (fun k=>?_) h2, ?_⟩
   ·rw [table_Clashes.l1,if_pos (by omega),if_pos (by omega),if_pos (by omega),hs,if_neg (by omega),up64 c (by omega)]
   ·rw [h3]
    constructor
    ·rintro ⟨a,b,d⟩
     refine ⟨a,fun j h4 h5=>?_,d⟩
     by_cases e:j=c
     ·subst e;omega
     ·exact b j (by omega) h5
    ·rintro ⟨a,b,d⟩
     exact ⟨a,fun j h4 h5=>b j (by omega) h5,d⟩
theorem cla_l0:∀ (m i:Nat) (acc:List S73),i+m=K.length→acc.length≤i * 61 →
  ∃ r,Ev (fun k=>table_Clashes.l0 k acc (allP l0 l1 l2 l3 st K N F) (K.length:Int) (i:Int)) r∧(r=[] ↔ acc=[]∧∀ j,i≤j→j < K.length→NoC l0 l1 l2 l3 st K N F j 0)
 | 0,i,acc,hi,ha=>by
  refine ⟨acc,Ev.step (f:=fun _=>some acc) (fun k=>?_) (Ev.now _), ?_⟩
  ·rw [table_Clashes.l0,if_neg (by omega)]
  ·constructor
   ·intro h
    exact ⟨h,fun j h1 h2=>by omega⟩
   ·exact fun h=>h.1
 | m+1,i,acc,hi,ha=>by
  have hf:=H.few
  have hl:=stateP_len H hr i
  have hal:=allP_len H hr
  obtain ⟨r,h1,h2⟩:=cla_l1 H hr (i:=i) (by omega) (fun acc h=>cla_l0 m (i+1) acc (by omega) h) (l0.length+1) 0 acc (by omega) (by omega)
  refine ⟨r,Ev.step (fun k=>?_) h1, ?_⟩
  ·rw [table_Clashes.l0,if_pos (by omega),if_pos (by omega),if_pos (by omega),allP_at H hr (by omega),hl]
   rfl
  ·rw [h2]
   constructor
   ·rintro ⟨a,b,d⟩
    refine ⟨a,fun j h3 h4=>?_⟩
    by_cases e:j=i
    ·subst e;exact b
    ·exact d j (by omega) h4
   ·rintro ⟨a,b⟩
    exact ⟨a,b i (Nat.le_refl _) (by omega),fun j h3 h4=>b j (by omega) h4⟩
theorem clashes_ev (hA:Ev (fun k=>table_All.f k l0 l1 l2 l3 st) (allP l0 l1 l2 l3 st K N F,0)):∃ r,Ev (fun k=>table_Clashes.f k l0 l1 l2 l3 st) r∧(r=[] ↔ ¬ Clash l0 l1 l2 l3 st K N F):=by
 obtain ⟨r,h1,h2⟩:=cla_l0 H hr K.length 0 [] (Nat.zero_add _) (by simp)
 refine ⟨r, ?_, ?_⟩
 ·unfold table_Clashes.f
  refine Ev.bind hA ?_
  simp only [allP_len H hr]
  exact h1
 ·rw [h2]
  constructor
  ·rintro ⟨_,b⟩ ⟨i,c,h3,h4,h5⟩
   have:=b i (Nat.zero_le _) h3 c (Nat.zero_le _) h4
   omega
  ·intro hno
   exact ⟨rfl,fun j _ h3 c _ h4=>Nat.le_of_not_lt fun h=>hno ⟨j,c,h3,h4,h⟩⟩
end
theorem clashes_fails {l0:List S65} {l1:List S73} {l2:List ByteArray} {l3:List S68} {st:Int} {e:Int} (h:∀ k,table_All.f k l0 l1 l2 l3 st=some ([],e)):Ev (fun k=>table_Clashes.f k l0 l1 l2 l3 st) []:=by
 refine ⟨1,fun k hk=>?_⟩
 obtain ⟨k,rfl⟩:∃ j,k=j+1:=⟨k - 1,by omega⟩
 show table_Clashes.f (k+1) l0 l1 l2 l3 st=some []
 unfold table_Clashes.f
 rw [h,Option.bind_some,table_Clashes.l0,if_neg (by simp)]
end
end Go.Proofs.YtclollnicbcooaaGreatDoor.P
namespace Go.Proofs.YtclollnicbcooaaGreatDoor.Pure
open Go.RowKit YtclollnicbcooaaGreatDoorW.PrintWords YtclollnicbcooaaGreatDoorW.PrintLast YtclollnicbcooaaGreatDoorW.PrintMore St P Bitty
section
section
variable {l0:List S65} {l1:List S73} {l2:List ByteArray} {l3:List S68} {st:Int} {K:List (List Itm)} {N:List (List Int)} {F:Spt→Int} (H:Aheads l0 l1 l2 l3 st K N F) (hr:∀ p ∈ l3,∀ s ∈ p.f2, -9223372036854775808≤s∧s≤9223372036854775807) (hno:¬ Clash l0 l1 l2 l3 st K N F)
include H hr hno
theorem go_next {i:Nat} (hi:i < K.length) {s:Nat} (hs:s < l2.length):states_Go.f l0 l1 l2 l3 st (K.map (·.map ofI)) N (i:Int) (wrap64 ((-1) - (s:Int)))=some (Go.Proofs.YtclollnicbcooaaGreatDoorW.PrintWords.rd ((rd_L17 N (i:Int)).drop l0.length) (s:Int)):=by
 have hT:=H.ord.gram.hT
 have hS:=H.ord.gram.hS
 have hn:=next_len H hr hi
 have hl:=H.len
 have w1:wrap64 ((-1) - (s:Int))=-1 - s:=IntWalk.wrap64_in _ (by omega)
 have w2:wrap64 ((-1) - (-1 - (s:Int)))=s:=by rw [IntWalk.wrap64_in _ (by omega)];omega
 have w3:wrap64 ((l0.length:Int)+(s:Int))=((l0.length+s:Nat):Int):=by rw [IntWalk.wrap64_in _ (by omega)];omega
 rw [w1,go_f,if_pos (by omega),w2,w3]
 unfold goF
 rw [if_neg (by omega),if_neg (by omega),if_neg (by omega),if_neg (by omega)]
 congr 1
 unfold Go.Proofs.YtclollnicbcooaaGreatDoorW.PrintWords.rd
 rw [Int.toNat_natCast,Int.toNat_natCast,List.getD_eq_getElem?_getD,List.getD_eq_getElem?_getD,List.getElem?_drop]
theorem tb_tab {k:Nat} (hS:states_Build.f l0 l1 l2 l3 st=some (K.map (·.map ofI),N,0)) (hA:table_All.f k l0 l1 l2 l3 st=some (allP l0 l1 l2 l3 st K N F,0)) (hC:table_Clashes.f k l0 l1 l2 l3 st=some [])
  (hB:table_Build.f k l0 l1 l2 l3 st=some (dsP l0 l1 l2 l3 st K N F K.length,nsP l0 N K.length,msP l0 l1 l2 l3 st K N F K.length,0)) :
  TBtab k l0 l1 l2 l3 st (dsP l0 l1 l2 l3 st K N F K.length) (nsP l0 N K.length) (msP l0 l1 l2 l3 st K N F K.length) (allP l0 l1 l2 l3 st K N F) (K.map (·.map ofI)) N (fun i c=>mayF l0.length (deedsP l0 l1 l2 l3 st K N F i) c) where
 bui:=hB
 all:=hA
 cla:=hC
 sta:=hS
 hT:=H.ord.gram.hT
 hS:=H.ord.gram.hS
 hK:=by rw [allP_len H hr];exact H.few
 hD:=by rw [dsP_len,allP_len H hr]
 hN:=by rw [nsP_len,allP_len H hr]
 hM:=by rw [msP_len,allP_len H hr]
 row i hi:=by rw [allP_len H hr] at hi;rw [dsP_at hi,rowD_len]
 nx i hi:=by rw [allP_len H hr] at hi;rw [nsP_at hi,List.length_drop,next_len H hr hi];omega
 st_ i hi:=by rw [allP_len H hr] at hi;rw [allP_at H hr hi,stateP_len H hr]
 zero i:=rfl
 one i c hi hc h:=by
  rw [allP_len H hr] at hi
  rw [allP_at H hr hi,stateP_at H hr i hc] at h ⊢
  have hT:=H.ord.gram.hT
  have hb:=bitN_lt (T:=l0.length) hT hc
  obtain ⟨x,hx⟩:=List.length_eq_one_iff.1 h
  have e5:=with_some (mayF l0.length (deedsP l0 l1 l2 l3 st K N F i) c) ((bitN l0.length c:Nat):Int) (by omega) (by omega)
  rw [Int.toNat_natCast] at e5
  have e8:mayF l0.length (deedsP l0 l1 l2 l3 st K N F i) (c+1)=Go.bits .or .u64 (mayF l0.length (deedsP l0 l1 l2 l3 st K N F i) c) ((2 ^ (bitN l0.length c):Nat):Int):=by
   show (if _ then _ else _)=_
   rw [if_pos h]
  refine ⟨by rw [e5,e8], ?_⟩
  rw [dsP_at hi,rowD_at _ _ hc,hx]
  rfl
 none_ i c hi hc h:=by
  rw [allP_len H hr] at hi
  rw [allP_at H hr hi,stateP_at H hr i hc] at h
  have hle:(deedsP l0 l1 l2 l3 st K N F i c).length≤1:=Nat.le_of_not_lt fun h=>hno ⟨i,c,hi,hc,h⟩
  have h4:deedsP l0 l1 l2 l3 st K N F i c=[]:=List.length_eq_zero_iff.1 (by omega)
  refine ⟨?_, ?_⟩
  ·show (if _ then _ else _)=_
   rw [if_neg h]
  ·rw [dsP_at hi,rowD_at _ _ hc,h4]
   rfl
 fin i hi:=by rw [allP_len H hr] at hi;rw [msP_at hi]
 go i s hi hs:=by
  rw [allP_len H hr] at hi
  have h:=go_next H hr hno hi hs
  have hS:=H.ord.gram.hS
  rw [IntWalk.wrap64_in _ (by omega)] at h
  rw [nsP_at hi]
  exact h
end
theorem TableBuild (x0:S27) (w0:wf27 x0):∃ k,TBok k x0.f0 x0.f1 x0.f2 x0.f3 x0.f4:=by
 have hr:=prods_range w0
 obtain ⟨b,K1,hb⟩:=little_ev x0.f0 x0.f1 x0.f2 x0.f3 x0.f4
 obtain ⟨K2,hw⟩:=table_works
 cases b with
 | false=>exact ⟨K1+K2,hw _ (by omega),.inl (hb _ (by omega))⟩
 | true =>
  rcases table_cases hr with ⟨e,he,hA,hB⟩ | ⟨K,N,F,H,hS,hA,⟨hcl,K3,hB⟩ | ⟨hno,K3,hB⟩⟩
  ·obtain ⟨K4,hC⟩:=clashes_fails hA
   exact ⟨K1+K2+K4,hw _ (by omega),.inr ⟨hb _ (by omega),.inl ⟨_,_,he,hA _,hB _,hC _ (by omega)⟩⟩⟩
  ·obtain ⟨r,⟨K4,h1⟩,h2⟩:=clashes_ev H hr hA
   obtain ⟨K5,hA⟩:=hA
   exact ⟨K1+K2+K3+K4+K5,hw _ (by omega),.inr ⟨hb _ (by omega),.inr (.inl ⟨_,_,fun h=>(h2.1 h) hcl,hA _ (by omega),hB _ (by omega),h1 _ (by omega)⟩)⟩⟩
  ·obtain ⟨r,⟨K4,h1⟩,h2⟩:=clashes_ev H hr hA
   obtain ⟨K5,hA⟩:=hA
   obtain rfl:=h2.2 hno
   exact ⟨K1+K2+K3+K4+K5,hw _ (by omega),.inr ⟨hb _ (by omega),.inr (.inr ⟨_,_,_,_,_,_,_,tb_tab H hr hno hS (hA _ (by omega)) (h1 _ (by omega)) (hB _ (by omega))⟩)⟩⟩
end
end Go.Proofs.YtclollnicbcooaaGreatDoor.Pure
namespace Go.Proofs.YtclollnicbcooaaGreatDoor.Glob
open Go.ChangeShapes Go.WideShapes Go.ChangeAt Go.RowKit
def laidL : List (String × DataW Unit) := [("math/bits.deBruijn32tab", Rows.laid_math_bits_deBruijn32tab), ("math/bits.deBruijn64tab", Rows.laid_math_bits_deBruijn64tab), ("internal/strconv.uint64pow10", Rows.laid_internal_strconv_uint64pow10)]
theorem named : Tryz.prog.globalNamed "internal/strconv.uint64pow10" = some 0 := by kernel_rfl
theorem typed:(Tryz.prog.globals[0]?).map (·.type)=some 161:=by kernel_rfl
theorem und172:Tryz.prog.underlying 161=some (.array 20 47):=by kernel_rfl
theorem und75:Tryz.prog.underlying 47=some (.int .u64):=by kernel_rfl
theorem cells172:Tryz.prog.cellsOf 161=20:=by kernel_rfl
theorem cells75:Tryz.prog.cellsOf 47=1:=by kernel_rfl
theorem table_is:(Rows.laid_internal_strconv_uint64pow10:DataW Unit)=Lib.tabData .u64 Lib.pow10Tab:=by rfl
theorem of_laid {W:World} (h:laidMet Tryz.prog laidL W):P.GTab W:=by
 obtain ⟨g', t', cs, fuel, p, hg', ht', hvar, hd⟩ := Lib.laidMet.reads h (n := "internal/strconv.uint64pow10") (d := Rows.laid_internal_strconv_uint64pow10) (List.mem_cons_of_mem _ (List.mem_cons_of_mem _ List.mem_cons_self))
 obtain rfl:=Option.some.inj (named.symm.trans hg')
 obtain rfl:=Option.some.inj (typed.symm.trans ht')
 rw [table_is] at hd
 unfold P.GTab Lib.TabIs
 rw [hvar,← Lib.cells_of_tab und172 und75 cells75 cells172 hd]

def litCells:DataW Unit→Array Value
 | .agg l=>(l.map fun | .lit (.int k z)=>Value.int k z | _=>Value.int .i64 0).toArray
 | _=>#[]
noncomputable def laidWorld (os:Os):World :=
 let w:=World.holding Tryz.prog os ⟨#[],#[],[]⟩
 let put (b:Nat) (cs:Array Value) (h:Array Obj):Array Obj:=h.modify b fun
   | .cells _ t frozen=>.cells cs t frozen
   | o=>o
 { w with heap:=put 0 (litCells Rows.laid_internal_strconv_uint64pow10) (put 1 (litCells Rows.laid_math_bits_deBruijn32tab) (put 2 (litCells Rows.laid_math_bits_deBruijn64tab) w.heap)) }
theorem laid_met (os:Os) (args:Array Value):laidMet Tryz.prog laidL ((laidWorld os).forCall (fun _ _=>0) ⟨#[],args,[]⟩).memory :=
 laidMet_of_run' 8 (by kernel_rfl) (by kernel_rfl)
end Go.Proofs.YtclollnicbcooaaGreatDoor.Glob
