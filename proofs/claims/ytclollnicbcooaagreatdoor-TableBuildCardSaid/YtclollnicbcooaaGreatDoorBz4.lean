/- Texts of this claim put together: Tc2, Tv, Px1, To, Tk, Trp, Trq, Try, Trz, SFolP, SKn, LkQ, Q7, SFew, Open, Types, Pw, Wu, Q16, Pg, LkR, LkS, Lp0, Tp1, Tp2, Twp, Tx, Tmw. -/
import Derived.Test.YtclollnicbcooaaGreatDoorBz3
import Derived.Deep.RegionHeld3
import Derived.Test.YtclollnicbcooaaGreatDoorBz2
import Derived.Test.YtclollnicbcooaaGreatDoorBz0
import Derived.Deep.QuietTactic
import Derived.Deep.RegionLaw
import Derived.Laws.Bits64b
import Derived.IntWalk
import Derived.Deep.Slices
import Derived.OpenShut
import Derived.ShutString
import Derived.ProofKit
import Derived.Test.YtclollnicbcooaaGreatDoorBz1
import Derived.Laws.OwnMore
import Derived.Deep.AppendLies
set_option linter.unusedVariables false
set_option linter.unusedSimpArgs false
set_option linter.unusedSectionVars false
namespace Go.Proofs.YtclollnicbcooaaGreatDoor.P
open Go.RowKit Go.Lib Go.Sort YtclollnicbcooaaGreatDoorW.PrintWords YtclollnicbcooaaGreatDoorW.PrintLast YtclollnicbcooaaGreatDoorW.PrintMore St Base
section
attribute [local go_sem] Oper.semAt_some
set_option maxHeartbeats 4000000 in
set_option maxRecDepth 100000 in
theorem table_Clashes.calls (k:Nat) (A0:Option Addr) (c0:Nat) (l0:List S65) (A1:Option Addr) (c1:Nat) (l1:List S73) (A2:Option Addr) (c2:Nat) (l2:List ByteArray) (A3:Option Addr) (c3:Nat) (l3:List S68) (st:Int) (r:List S73) (w:World) (hG:GTab w)
  (hr0:Kd.C k65 w A0 l0.length l0) (hc0:l0.length≤c0) (hr1:Kd.C k73 w A1 l1.length l1) (hc1:l1.length≤c1) (hr2:Kd.C Kd.string w A2 l2.length l2) (hc2:l2.length≤c2) (hr3:Kd.C k68 w A3 l3.length l3) (hc3:l3.length≤c3) (h:table_Clashes.f k l0 l1 l2 l3 st=some r) :
  Calls Tryz.prog 13 #[.agg #[.slice A0 l0.length c0,.slice A1 l1.length c1,.slice A2 l2.length c2,.slice A3 l3.length c3,.int .i64 st]] w fun e w'=>∃ v0_:Value,e=.returned v0_∧Kd.R k73 73 w' w.heap.size (fun _=>True) v0_ r∧Below w.heap.size w w':=by
 have HR0:=jM hr0
 have HR1:=jM hr1
 have HR2:=jM hr2
 have HR3:=jM hr3
 have HC0:=jM hc0
 have HC1:=jM hc1
 have HC2:=jM hc2
 have HC3:=jM hc3
 have HG:=jM hG
 unfold table_Clashes.f at h
 obtain ⟨⟨al,e⟩,hb,h⟩:=Option.bind_eq_some_iff.1 h
 simp only at h
 have HBU:=jM fun (W':World) (hb':RowKit.Below w.heap.size w W')=>table_All.calls k A0 c0 l0 A1 c1 l1 A2 c2 l2 A3 c3 l3 st al e W' (GTab.below HG.out hb') (Kd.C_below HR0.out hb') HC0.out (Kd.C_below HR1.out hb') HC1.out (Kd.C_below HR2.out hb') HC2.out (Kd.C_below HR3.out hb') HC3.out hb
 have HH:=jM h
 clear hr0 hr1 hr2 hr3 hc0 hc1 hc2 hc3 hG hb h
 have hu27:=Tryz.underlying27
 have hu73:=Tryz.underlying73
 go_enter Tryz.func13,Tryz.ntmps13
 go_upto_region 1 with fail
 have BG:=jM (blk_new w (Obj.cells #[.slice A0 l0.length c0,.slice A1 l1.length c1,.slice A2 l2.length c2,.slice A3 l3.length c3,.int .i64 st] 27))
 have HB1:=jM (below_alloc (RowKit.Below.refl w.heap.size w) (Obj.cells #[.slice A0 l0.length c0,.slice A1 l1.length c1,.slice A2 l2.length c2,.slice A3 l3.length c3,.int .i64 st] 27))
 generalize w.alloc (Obj.cells #[.slice A0 l0.length c0,.slice A1 l1.length c1,.slice A2 l2.length c2,.slice A3 l3.length c3,.int .i64 st] 27)=w1 at *
 obtain ⟨z0,z1,z2,z3,z4⟩:=five5 BG.out
 go_upto_region 4 with (go_at_call 12;refine (HBU.out w1 HB1.out).mono ?_;rintro e1 w2 ⟨vA,rfl,hA,hb2⟩;obtain ⟨AA,cA,eA,hcA,hCA⟩:=Kd.R_reads hA;subst eA;have HB2:=jM (below_step HB1.out hb2);have HCA:=jM hCA;have HLA:=jM hcA;clear hA hb2 hCA hcA)
 clear z0 z1 z2 z3 z4
 have HMX:=jM HCA.out.2.1
 have HN0:=jM (Kd.R_nil k73 73 w2 w2.heap.size (fun k=>w2.heap.size≤k))
 have HW0:=jM (RowKit.Below.refl w2.heap.size w2)
 go_loopg [5,17] k (fun kq v5 v17 W=>∃ (x5:List S73) (x17:Int),v17=.int .i64 x17∧Aside0 (table_Clashes.l0 kq x5 al (al.length:Int) x17=some r)∧Aside0 (kq≤k)∧Aside0 (Kd.R k73 73 W w2.heap.size (fun k=>w2.heap.size≤k) v5 x5)∧Aside0 (RowKit.Below w2.heap.size w2 W))
 case atStart=>exact ⟨[],0,rfl,HH,⟨Nat.le_refl _⟩,HN0,HW0⟩
 case round =>
  clear HH HN0 HW0
  obtain ⟨x5,x17,rfl,HX,HK1,HR,HW⟩:=hrel
  cases gk with
  | zero=>have:=HX.out;rw [table_Clashes.l0] at this;cases this
  | succ k1 =>
  have hx:=HX.out
  rw [table_Clashes.l0] at hx
  by_cases h1:x17 < (al.length:Int)
  ·rw [if_pos h1] at hx
   have d1:decide (x17 < (al.length:Int))=true:=decide_eq_true h1
   split at hx
   case isFalse=>cases hx
   rename_i h2
   have d2:decide (0≤x17)=true:=decide_eq_true h2
   obtain ⟨ad,A1',c1',eA',hx0,hl,hC⟩:=at_L26 (Kd.C_below HCA.out HW.out) x17 h2 h1
   subst eA'
   have HCI:=jM fun (W':World) (hb:RowKit.Below w2.heap.size w2 W')=>by
    obtain ⟨ad',A1'',c1'',eA'',hx0',hl',hC'⟩:=at_L26 (Kd.C_below HCA.out hb) x17 h2 h1
    exact (show Kd.C (Kd.slice 53 k53) W' A1' (rd_L26 al x17).length (rd_L26 al x17) by
     obtain ⟨ad0,A0',c0',e0,hy,_,_⟩:=at_L26 HCA.out x17 h2 h1
     injection e0 with e0
     injection eA'' with eA''
     subst e0
     have g1:=(HW.out.cell (World.block_lt_of_cell? _ _ hy)).trans hy
     have g2:=(hb.cell (World.block_lt_of_cell? _ _ hy)).trans hy
     rw [← eA''] at hx0'
     rw [hx0] at g1
     rw [hx0'] at g2
     have q1:=Option.some.inj g1
     have q2:=Option.some.inj g2
     rw [← q2] at q1
     injection q1 with q1
     rw [q1]
     exact hC')
   have HH2:=jM hx
   have HMI:=jM hC.2.1
   have P1:=jM h1
   have P2:=jM h2
   have p1:=eq_true h1
   have p2:=eq_true h2
   clear hx HX hl hC h1 h2
   go_upto_region 7 with fail
   clear hx0
   go_loopg [5,24] k1 (fun kq v5 v24 W=>∃ (x5':List S73) (x24:Int),v24=.int .i64 x24∧Aside0 (table_Clashes.l1 kq x5' x17 al (al.length:Int) x17 (rd_L26 al x17) ((rd_L26 al x17).length:Int) x24=some r)∧Aside0 (kq≤k1)∧Aside0 (Kd.R k73 73 W w2.heap.size (fun k=>w2.heap.size≤k) v5 x5')∧Aside0 (RowKit.Below w2.heap.size w2 W))
   case atStart=>exact ⟨x5,0,rfl,HH2,⟨Nat.le_refl _⟩,HR,HW⟩
   case round =>
    clear HH2 HR HW
    obtain ⟨x5',x24,rfl,HX,HK2,HR,HW⟩:=hrel
    cases gk with
    | zero=>have:=HX.out;rw [table_Clashes.l1] at this;cases this
    | succ k2 =>
    have hx:=HX.out
    rw [table_Clashes.l1] at hx
    by_cases h1:x24 < ((rd_L26 al x17).length:Int)
    ·rw [if_pos h1] at hx
     have d1:decide (x24 < ((rd_L26 al x17).length:Int))=true:=decide_eq_true h1
     split at hx
     case isFalse=>cases hx
     rename_i h2
     have d2:decide (0≤x24)=true:=decide_eq_true h2
     obtain ⟨ad3,A3',c3',eA3,hx0,hl,hC⟩:=at_L25 (HCI.out wr HW.out) x24 h2 h1
     subst eA3
     have p3:=eq_true h1
     have p4:=eq_true h2
     by_cases h3:((rd_L25 (rd_L26 al x17) x24).length:Int) > 1
     ·rw [if_pos h3] at hx
      have d3:decide (1 < (rd_L25 (rd_L26 al x17) x24).length)=true:=decide_eq_true (by omega)
      have d3i:decide ((1:Int) < ((rd_L25 (rd_L26 al x17) x24).length:Int))=true:=decide_eq_true (by omega)
      split at hx
      case isFalse=>cases hx
      rename_i h4
      have HH3:=jM hx
      have HL4:=jM h4
      have HWS:=jM HW.out.size
      clear hx HX hl hC h1 h2 h3 h4
      go_wp2_with (first | ((with_reducible refine gate_builtin (b:=.append) (xs:=#[.tmp 32,.tmp 36]) rfl ?_);at_builtin;refine Kd.R_append k73 (w0:=wr) w2.heap.size rfl (.tmp 32) (.tmp 36) 23 73 (.agg #[(.int .i64 0),(.int .i64 0)]) 16 rfl Tryz.underlying23 info73 rfl (by decide) (by decide) _ x5' (⟨x17,x24⟩:S73) [.int .i64 x17,.int .i64 x24] (fun k=>w2.heap.size≤k) (fun _=>False) rfl rfl (k73_mkM _ _ _ _) (fun _ hk=>hk.elim) (fun k hk=>Nat.le_trans HWS.out hk) HR.out (RowKit.Below.refl _ _) HWS.out ?aL ?_;(case aL=>have:=HL4.out;omega);intro v14 w14 ho hb hg hat;have HR14:=jM ho;have HW14:=jM (HW.out.trans hb);clear ho hb hg hat))
      go_roundg k2
      case measure=>exact Nat.lt_succ_self _
      case rel=>exact ⟨x5' ++ [⟨x17,x24⟩],wrap64 (x24+1),rfl,HH3,⟨by have:=HK2.out;omega⟩,HR14,HW14⟩
     ·rw [if_neg h3] at hx
      have d3:decide (1 < (rd_L25 (rd_L26 al x17) x24).length)=false:=decide_eq_false (by omega)
      have d3i:decide ((1:Int) < ((rd_L25 (rd_L26 al x17) x24).length:Int))=false:=decide_eq_false (by omega)
      have HH3:=jM hx
      clear hx HX hl hC h1 h2 h3
      go_wp2_with fail
      go_roundg k2
      case measure=>exact Nat.lt_succ_self _
      case rel=>exact ⟨x5',wrap64 (x24+1),rfl,HH3,⟨by have:=HK2.out;omega⟩,HR,HW⟩
    ·rw [if_neg h1] at hx
     have d1:decide (x24 < ((rd_L26 al x17).length:Int))=false:=decide_eq_false h1
     have HH3:=jM hx
     clear hx HX h1
     go_wp2_with fail
     go_roundg k2
     case measure=>have:=HK2.out;omega
     case rel=>exact ⟨x5',wrap64 (x17+1),rfl,HH3,⟨by have:=HK1.out;have:=HK2.out;omega⟩,HR,HW⟩
  ·rw [if_neg h1] at hx
   have d1:decide (x17 < (al.length:Int))=false:=decide_eq_false h1
   obtain rfl:=Option.some.inj hx
   clear hx HX h1
   go_wp2_with fail
   go_ret
   exact ⟨_,rfl,Kd.R_mono (Kd.R_lower HR.out HB2.out.size) (fun _ _=>trivial),below_step HB2.out HW.out⟩
end
section
structure Gm (A0:Option Addr) (c0:Nat) (l0:List S65) (A1:Option Addr) (c1:Nat) (l1:List S73) (A2:Option Addr) (c2:Nat) (l2:List ByteArray) (A3:Option Addr) (c3:Nat) (l3:List S68) (w:World):Prop where
 r0:Kd.C k65 w A0 l0.length l0
 c0:l0.length≤c0
 r1:Kd.C k73 w A1 l1.length l1
 c1:l1.length≤c1
 r2:Kd.C Kd.string w A2 l2.length l2
 c2:l2.length≤c2
 r3:Kd.C k68 w A3 l3.length l3
 c3:l3.length≤c3
 g:GTab w
def gV (A0:Option Addr) (c0:Nat) (l0:List S65) (A1:Option Addr) (c1:Nat) (l1:List S73) (A2:Option Addr) (c2:Nat) (l2:List ByteArray) (A3:Option Addr) (c3:Nat) (l3:List S68) (st:Int):Value:=.agg #[.slice A0 l0.length c0,.slice A1 l1.length c1,.slice A2 l2.length c2,.slice A3 l3.length c3,.int .i64 st]
section
variable {A0:Option Addr} {c0:Nat} {l0:List S65} {A1:Option Addr} {c1:Nat} {l1:List S73} {A2:Option Addr} {c2:Nat} {l2:List ByteArray} {A3:Option Addr} {c3:Nat} {l3:List S68} {w W:World}
theorem Gm.below (h:Gm A0 c0 l0 A1 c1 l1 A2 c2 l2 A3 c3 l3 w) (hb:RowKit.Below w.heap.size w W):Gm A0 c0 l0 A1 c1 l1 A2 c2 l2 A3 c3 l3 W :=
 ⟨Kd.C_below h.r0 hb,h.c0,Kd.C_below h.r1 hb,h.c1,Kd.C_below h.r2 hb,h.c2,Kd.C_below h.r3 hb,h.c3,GTab.below h.g hb⟩
structure Tm (D:List (List S53)) (N:List (List Int)) (M:List Int) (A:Option Addr) (c:Nat) (A':Option Addr) (c':Nat) (A'':Option Addr) (c'':Nat) (w:World):Prop where
 d:Kd.C (Kd.slice 53 k53) w A D.length D
 dc:D.length≤c
 n:Kd.C (Kd.slice 3 (Kd.int .i64)) w A' N.length N
 nc:N.length≤c'
 m:Kd.C (Kd.int .u64) w A'' M.length M
 mc:M.length≤c''
theorem Tm.below {D:List (List S53)} {N:List (List Int)} {M:List Int} {A:Option Addr} {c:Nat} {A':Option Addr} {c':Nat} {A'':Option Addr} {c'':Nat} (h:Tm D N M A c A' c' A'' c'' w) (hb:RowKit.Below w.heap.size w W):Tm D N M A c A' c' A'' c'' W :=
 ⟨Kd.C_below h.d hb,h.dc,Kd.C_below h.n hb,h.nc,Kd.C_below h.m hb,h.mc⟩
theorem build_c (h:Gm A0 c0 l0 A1 c1 l1 A2 c2 l2 A3 c3 l3 w) {k:Nat} {st:Int} {D:List (List S53)} {N:List (List Int)} {M:List Int} {e:Int} (hf:table_Build.f k l0 l1 l2 l3 st=some (D,N,M,e)) :
  Calls Tryz.prog 11 #[gV A0 c0 l0 A1 c1 l1 A2 c2 l2 A3 c3 l3 st] w fun x w'=>∃ A c A' c' A'' c'',x=.returned (.tuple #[.agg #[.slice A D.length c,.slice A' N.length c',.slice A'' M.length c''],.int .i64 e])∧Tm D N M A c A' c' A'' c'' w'∧RowKit.Below w.heap.size w w':=by
 refine (table_Build.calls k A0 c0 l0 A1 c1 l1 A2 c2 l2 A3 c3 l3 st D N M e w h.g h.r0 h.c0 h.r1 h.c1 h.r2 h.c2 h.r3 h.c3 hf).mono ?_
 rintro x w' ⟨v0,v1,v2,rfl,h0,h1,h2,hb⟩
 obtain ⟨A,c,rfl⟩:=Kd.N_slice h0
 obtain ⟨A',c',rfl⟩:=Kd.N_slice h1
 obtain ⟨A'',c'',rfl⟩:=Kd.R_slice h2
 obtain ⟨_,b0,d0⟩:=Kd.N_reads' h0
 obtain ⟨_,b1,d1⟩:=Kd.N_reads' h1
 obtain ⟨_,b2,d2⟩:=Kd.R_reads' h2
 exact ⟨A,c,A',c',A'',c'',rfl,⟨d0,b0,d1,b1,d2,b2⟩,hb⟩
theorem all_c (h:Gm A0 c0 l0 A1 c1 l1 A2 c2 l2 A3 c3 l3 w) {k:Nat} {st:Int} {al:List (List (List S53))} {e:Int} (hf:table_All.f k l0 l1 l2 l3 st=some (al,e)) :
  Calls Tryz.prog 12 #[gV A0 c0 l0 A1 c1 l1 A2 c2 l2 A3 c3 l3 st] w fun x w'=>∃ A c,x=.returned (.tuple #[.slice A al.length c,.int .i64 e])∧al.length≤c∧Kd.C (Kd.slice 49 (Kd.slice 53 k53)) w' A al.length al∧RowKit.Below w.heap.size w w':=by
 refine (table_All.calls k A0 c0 l0 A1 c1 l1 A2 c2 l2 A3 c3 l3 st al e w h.g h.r0 h.c0 h.r1 h.c1 h.r2 h.c2 h.r3 h.c3 hf).mono ?_
 rintro x w' ⟨v0,rfl,h0,hb⟩
 obtain ⟨A,c,rfl,a,b⟩:=Kd.R_reads h0
 exact ⟨A,c,rfl,a,b,hb⟩
theorem clashes_c (h:Gm A0 c0 l0 A1 c1 l1 A2 c2 l2 A3 c3 l3 w) {k:Nat} {st:Int} {r:List S73} (hf:table_Clashes.f k l0 l1 l2 l3 st=some r) :
  Calls Tryz.prog 13 #[gV A0 c0 l0 A1 c1 l1 A2 c2 l2 A3 c3 l3 st] w fun x w'=>∃ A c,x=.returned (.slice A r.length c)∧RowKit.Below w.heap.size w w':=by
 refine (table_Clashes.calls k A0 c0 l0 A1 c1 l1 A2 c2 l2 A3 c3 l3 st r w h.g h.r0 h.c0 h.r1 h.c1 h.r2 h.c2 h.r3 h.c3 hf).mono ?_
 rintro x w' ⟨v0,rfl,h0,hb⟩
 obtain ⟨A,c,rfl,a,b⟩:=Kd.R_reads h0
 exact ⟨A,c,rfl,hb⟩
theorem states_c (h:Gm A0 c0 l0 A1 c1 l1 A2 c2 l2 A3 c3 l3 w) {st:Int} {K:List (List S77)} {N:List (List Int)} {e:Int} (hf:states_Build.f l0 l1 l2 l3 st=some (K,N,e)) :
  Calls Tryz.prog 14 #[gV A0 c0 l0 A1 c1 l1 A2 c2 l2 A3 c3 l3 st] w fun x w'=>∃ A c A' c',x=.returned (.tuple #[.agg #[.slice A K.length c,.slice A' N.length c'],.int .i64 e])∧(K.length≤c∧Kd.C (Kd.slice 77 k77) w' A K.length K)∧(N.length≤c'∧Kd.C (Kd.slice 3 (Kd.int .i64)) w' A' N.length N)∧RowKit.Below w.heap.size w w':=by
 refine (states_Build.calls A0 c0 l0 A1 c1 l1 A2 c2 l2 A3 c3 l3 st K N e w h.g h.r0 h.c0 h.r1 h.c1 h.r2 h.c2 h.r3 h.c3 hf).mono ?_
 rintro x w' ⟨v0,v1,rfl,h0,h1,hb⟩
 obtain ⟨A,c,rfl,a,b⟩:=Kd.S_reads h0
 obtain ⟨A',c',rfl,a',b'⟩:=Kd.S_reads h1
 exact ⟨A,c,A',c',rfl,⟨a,b⟩,⟨a',b'⟩,hb⟩
end
theorem at_u64 {w:World} {A:Option Addr} {n:Nat} {xs:List Int} (h:Kd.C (Kd.int .u64) w A n xs) (i:Nat) (h1:i < n):∃ ad,A=some ad∧w.cell? (ad.add i)=some (.int .u64 (Go.Proofs.YtclollnicbcooaaGreatDoorW.PrintWords.rd xs (i:Int))):=by
 obtain ⟨ad,c,e,hl,hK,hc⟩:=Kd.C_get h 0 (i:Int) (by omega) (by omega)
 have hcs:c=[.int .u64 (xs.getD i 0)]:=by rw [Int.toNat_natCast] at hK;exact hK
 refine ⟨ad,e, ?_⟩
 have h2:=hc 0 (.int .u64 (xs.getD i 0)) (by rw [hcs];rfl)
 rw [Int.toNat_natCast,Nat.add_zero,show (Kd.int .u64).sz=1 from rfl,Nat.mul_one] at h2
 unfold Go.Proofs.YtclollnicbcooaaGreatDoorW.PrintWords.rd
 rw [Int.toNat_natCast]
 exact h2
theorem three3 {w:World} {g:Nat} {u0 u1 u2:Value} {t:TypeId} (h:w.heap[g]? = some (.cells #[u0,u1,u2] t (0,0))) :
  w.cell? ⟨g,0,none⟩=some u0∧w.cell? ⟨g,1,none⟩=some u1∧w.cell? ⟨g,2,none⟩=some u2:=⟨blk_cell h 0,blk_cell h 1,blk_cell h 2⟩
end
end Go.Proofs.YtclollnicbcooaaGreatDoor.P
namespace Go.Proofs.YtclollnicbcooaaGreatDoor.P
open Go.RowKit YtclollnicbcooaaGreatDoorW.PrintWords YtclollnicbcooaaGreatDoorW.PrintLast YtclollnicbcooaaGreatDoorW.PrintMore
section
attribute [local go_sem] max2_int min2_int max_two min_two max_three min_three max_four min_four

theorem eqA53 (d:Nat) (w:World) (x0 y0:Int) (x1 y1:Int) :
  (Op.equalIn (d+2) 53 (.agg #[.int .i64 x0,.int .i64 x1]) (.agg #[.int .i64 y0,.int .i64 y1])).run Tryz.prog w=.ok (x0 == y0 && (x1 == y1)) w:=by
 refine eqA_of Tryz.underlying53 (by kernel_rfl) ?_
 refine eqf_cons (by rfl) (by go_simp;rfl) (by go_simp;rfl) (by go_simp) ?_
 exact eqf_last (by rfl) (by go_simp;rfl) (by go_simp;rfl) (by go_simp)
end
section
attribute [local go_sem] max2_int min2_int max_two min_two max_three min_three max_four min_four

attribute [local go_sem high] eqA53
/-! ### api_Set_61: function 61 -/
def api_Set_61.l0:Nat→List Int→List Int→Int→Int→Option (Bool)
 | 0,_,_,_,_=>none
 | k+1,x0,x1,x12,x13=>if x13 < x12 then (if 0≤x13 then (if x13 < (x0.length:Int) then (if x13 < (x1.length:Int) then (if (rd x0 x13)=(rd x1 x13) then (api_Set_61.l0 k x0 x1 x12 (wrap64 (x13+1))) else (some false)) else (none)) else (none)) else (none)) else (some true)
def api_Set_61.f (k:Nat) (l0:List Int) (l1:List Int):Option (Bool):=if (l0.length:Int)=(l1.length:Int) then (api_Set_61.l0 k l0 l1 (l0.length:Int) 0) else (some false)
set_option maxHeartbeats 8000000 in
set_option maxRecDepth 100000 in
theorem api_Set_61.calls (k:Nat) (A0:Option Addr) (c0:Nat) (l0:List Int) (A1:Option Addr) (c1:Nat) (l1:List Int) (r:Bool) (w:World) (hr0:Kd.C (Kd.int .u64) w A0 l0.length l0) (hc0:l0.length≤c0) (hr1:Kd.C (Kd.int .u64) w A1 l1.length l1) (hc1:l1.length≤c1) (h:api_Set_61.f k l0 l1=some r) :
  Calls Tryz.prog 61 #[.slice A0 l0.length c0,.slice A1 l1.length c1] w fun e w'=>e=.returned (.bool r)∧Drawn0 w w':=by
 have HR0:=jM hr0
 have HC0:=jM hc0
 clear hr0 hc0
 have HR1:=jM hr1
 have HC1:=jM hc1
 clear hr1 hc1
 have H:(if (l0.length:Int)=(l1.length:Int) then (api_Set_61.l0 k l0 l1 (l0.length:Int) 0) else (some false))=some r:=h
 clear h
 by_cases c3:(l0.length:Int)=(l1.length:Int)
 ·rw [if_pos c3] at H
  have c3b0:((l0.length:Int) == (l1.length:Int))=true:=beq_iff_eq.mpr c3
  have c3b1:((l0.length:Int) != (l1.length:Int))=false:=bne_eq_false_iff_eq.mpr c3
  have c3b2:(l0.length == l1.length)=true:=by first | simpa using c3 | (simp at c3 ⊢;omega)
  clear c3
  have H':=jM H
  clear H
  go_enter Tryz.func61,Tryz.ntmps61
  go_wp2
  repeat (go_quiet (fail);try go_wp2)
  go_loopg [13] k (fun kq v13 w'=>∃ (x13_1:Int),v13=.int .i64 x13_1∧Aside0 (api_Set_61.l0 kq l0 l1 (l0.length:Int) x13_1=some r)∧Aside0 (kq≤k)∧Drawn0 w w')
  case atStart=>exact ⟨(0),tZ,H',⟨Nat.le_refl _⟩,by repeat (first | exact Drawn0.refl _ | apply Drawn0.step)⟩
  case round =>
   clear H'
   try clear c1
   try clear p2
   try clear c3
   try clear c3b0
   try clear c3b1
   try clear c3b2
   obtain ⟨x13_1,rfl,HA,HK1,⟨m1,rfl⟩⟩:=hrel
   cases gk with
   | zero=>exact absurd HA.out (by simp [api_Set_61.l0])
   | succ k1 =>
    have H:=HA.out
    clear HA
    simp only [api_Set_61.l0] at H
    by_cases c4:x13_1 < (l0.length:Int)
    ·rw [if_pos c4] at H
     have c4b0:decide (x13_1 < (l0.length:Int))=true:=decide_eq_true c4
     clear c4
     by_cases c5:0≤x13_1
     ·rw [if_pos c5] at H
      have c5b0:decide (0≤x13_1)=true:=decide_eq_true c5
      clear c5
      by_cases c6:x13_1 < (l0.length:Int)
      ·rw [if_pos c6] at H
       have c6b0:decide (x13_1 < (l0.length:Int))=true:=decide_eq_true c6
       clear c6
       by_cases c7:x13_1 < (l1.length:Int)
       ·rw [if_pos c7] at H
        have c7b0:decide (x13_1 < (l1.length:Int))=true:=decide_eq_true c7
        clear c7
        by_cases c8:(rd l0 x13_1)=(rd l1 x13_1)
        ·rw [if_pos c8] at H
         have c8b0:((rd l0 x13_1) == (rd l1 x13_1))=true:=beq_iff_eq.mpr c8
         have c8b1:((rd l0 x13_1) != (rd l1 x13_1))=false:=bne_eq_false_iff_eq.mpr c8
         clear c8
         have H':=jM H
         clear H
         have p284:0≤(x13_1:Int):=of_decide_eq_true tD
         have q284:x13_1 < (l0.length:Int):=of_decide_eq_true tD
         obtain ⟨ad284,e284,hx284_0⟩:=Kd.at_int HR0.out x13_1 p284 q284
         cases e284
         replace p284:=eq_true p284
         replace q284:=eq_true q284
         have p285:0≤(x13_1:Int):=of_decide_eq_true tD
         have q285:x13_1 < (l1.length:Int):=of_decide_eq_true tD
         obtain ⟨ad285,e285,hx285_0⟩:=Kd.at_int HR1.out x13_1 p285 q285
         cases e285
         replace p285:=eq_true p285
         replace q285:=eq_true q285
         go_wp2
         repeat (go_quiet (fail);try go_wp2)
         go_roundg k1
         case measure=>have:=HK1.out;omega
         case rel=>exact ⟨(wrap64 (x13_1+1)),tZ,H',⟨by have:=HK1.out;omega⟩,by repeat (first | exact Drawn0.refl _ | apply Drawn0.step)⟩
        ·rw [if_neg c8] at H
         have c8b0:((rd l0 x13_1) == (rd l1 x13_1))=false:=beq_eq_false_iff_ne.mpr c8
         have c8b1:((rd l0 x13_1) != (rd l1 x13_1))=true:=bne_iff_ne.mpr c8
         obtain rfl:=Option.some.inj H
         have p284:0≤(x13_1:Int):=of_decide_eq_true tD
         have q284:x13_1 < (l0.length:Int):=of_decide_eq_true tD
         obtain ⟨ad284,e284,hx284_0⟩:=Kd.at_int HR0.out x13_1 p284 q284
         cases e284
         replace p284:=eq_true p284
         replace q284:=eq_true q284
         have p285:0≤(x13_1:Int):=of_decide_eq_true tD
         have q285:x13_1 < (l1.length:Int):=of_decide_eq_true tD
         obtain ⟨ad285,e285,hx285_0⟩:=Kd.at_int HR1.out x13_1 p285 q285
         cases e285
         replace p285:=eq_true p285
         replace q285:=eq_true q285
         go_wp2
         repeat (go_quiet (fail);try go_wp2)
         go_ret
         exact ⟨by first | rfl | (simp;done) | (simp [*];done),by repeat (first | exact Drawn0.refl _ | apply Drawn0.step)⟩
       ·rw [if_neg c7] at H
        exact absurd H (by simp)
      ·rw [if_neg c6] at H
       exact absurd H (by simp)
     ·rw [if_neg c5] at H
      exact absurd H (by simp)
    ·rw [if_neg c4] at H
     have c4b0:decide (x13_1 < (l0.length:Int))=false:=decide_eq_false c4
     clear c4
     obtain rfl:=Option.some.inj H
     go_wp2
     repeat (go_quiet (fail);try go_wp2)
     go_ret
     exact ⟨by first | rfl | (simp;done) | (simp [*];done),by repeat (first | exact Drawn0.refl _ | apply Drawn0.step)⟩
 ·rw [if_neg c3] at H
  have c3b0:((l0.length:Int) == (l1.length:Int))=false:=beq_eq_false_iff_ne.mpr c3
  have c3b1:((l0.length:Int) != (l1.length:Int))=true:=bne_iff_ne.mpr c3
  have c3b2:(l0.length == l1.length)=false:=by first | simpa using c3 | (simp at c3 ⊢;omega)
  obtain rfl:=Option.some.inj H
  go_enter Tryz.func61,Tryz.ntmps61
  go_wp2
  repeat (go_quiet (fail);try go_wp2)
  go_ret
  exact ⟨by first | rfl | (simp;done) | (simp [*];done),by repeat (first | exact Drawn0.refl _ | apply Drawn0.step)⟩

-- NOT PRINTED: function 62 (table_Deed_62)

/-! ### table_Deed_63: function 63 -/
def table_Deed_63.l0:Nat→List (S53)→List (S53)→Int→Int→Option (Bool)
 | 0,_,_,_,_=>none
 | k+1,x0,x1,x12,x13=>if x13 < x12 then (if 0≤x13 then (if x13 < (x0.length:Int) then (if x13 < (x1.length:Int) then (if (!(((rd_T53 x0 x13).f0) == ((rd_T53 x1 x13).f0)) || (!(((rd_T53 x0 x13).f1) == ((rd_T53 x1 x13).f1))))=true then (some false) else (table_Deed_63.l0 k x0 x1 x12 (wrap64 (x13+1)))) else (none)) else (none)) else (none)) else (some true)
def table_Deed_63.f (k:Nat) (l0:List (S53)) (l1:List (S53)):Option (Bool):=if (l0.length:Int)=(l1.length:Int) then (table_Deed_63.l0 k l0 l1 (l0.length:Int) 0) else (some false)
set_option maxHeartbeats 8000000 in
set_option maxRecDepth 100000 in
theorem table_Deed_63.calls (k:Nat) (A0:Option Addr) (c0:Nat) (l0:List (S53)) (A1:Option Addr) (c1:Nat) (l1:List (S53)) (r:Bool) (w:World) (hr0:Kd.C k53 w A0 l0.length l0) (hc0:l0.length≤c0) (hr1:Kd.C k53 w A1 l1.length l1) (hc1:l1.length≤c1) (h:table_Deed_63.f k l0 l1=some r) :
  Calls Tryz.prog 63 #[.slice A0 l0.length c0,.slice A1 l1.length c1] w fun e w'=>e=.returned (.bool r)∧Drawn0 w w':=by
 have hu53:=Tryz.underlying53
 have HR0:=jM hr0
 have HC0:=jM hc0
 clear hr0 hc0
 have HR1:=jM hr1
 have HC1:=jM hc1
 clear hr1 hc1
 have H:(if (l0.length:Int)=(l1.length:Int) then (table_Deed_63.l0 k l0 l1 (l0.length:Int) 0) else (some false))=some r:=h
 clear h
 by_cases c3:(l0.length:Int)=(l1.length:Int)
 ·rw [if_pos c3] at H
  have c3b0:((l0.length:Int) == (l1.length:Int))=true:=beq_iff_eq.mpr c3
  have c3b1:((l0.length:Int) != (l1.length:Int))=false:=bne_eq_false_iff_eq.mpr c3
  have c3b2:(l0.length == l1.length)=true:=by first | simpa using c3 | (simp at c3 ⊢;omega)
  clear c3
  have H':=jM H
  clear H
  go_enter Tryz.func63,Tryz.ntmps63
  go_wp2
  repeat (go_quiet (fail);try go_wp2)
  go_loopg [13] k (fun kq v13 w'=>∃ (x13_1:Int),v13=.int .i64 x13_1∧Aside0 (table_Deed_63.l0 kq l0 l1 (l0.length:Int) x13_1=some r)∧Aside0 (kq≤k)∧Drawn0 w w')
  case atStart=>exact ⟨(0),tZ,H',⟨Nat.le_refl _⟩,by repeat (first | exact Drawn0.refl _ | apply Drawn0.step)⟩
  case round =>
   clear H'
   try clear c1
   try clear p2
   try clear c3
   try clear c3b0
   try clear c3b1
   try clear c3b2
   obtain ⟨x13_1,rfl,HA,HK1,⟨m1,rfl⟩⟩:=hrel
   cases gk with
   | zero=>exact absurd HA.out (by simp [table_Deed_63.l0])
   | succ k1 =>
    have H:=HA.out
    clear HA
    simp only [table_Deed_63.l0] at H
    by_cases c4:x13_1 < (l0.length:Int)
    ·rw [if_pos c4] at H
     have c4b0:decide (x13_1 < (l0.length:Int))=true:=decide_eq_true c4
     clear c4
     by_cases c5:0≤x13_1
     ·rw [if_pos c5] at H
      have c5b0:decide (0≤x13_1)=true:=decide_eq_true c5
      clear c5
      by_cases c6:x13_1 < (l0.length:Int)
      ·rw [if_pos c6] at H
       have c6b0:decide (x13_1 < (l0.length:Int))=true:=decide_eq_true c6
       clear c6
       by_cases c7:x13_1 < (l1.length:Int)
       ·rw [if_pos c7] at H
        have c7b0:decide (x13_1 < (l1.length:Int))=true:=decide_eq_true c7
        clear c7
        by_cases c8:(!(((rd_T53 l0 x13_1).f0) == ((rd_T53 l1 x13_1).f0)) || (!(((rd_T53 l0 x13_1).f1) == ((rd_T53 l1 x13_1).f1))))=true
        ·rw [if_pos c8] at H
         have c8b0:(!(((rd_T53 l0 x13_1).f0) == ((rd_T53 l1 x13_1).f0)) || (!(((rd_T53 l0 x13_1).f1) == ((rd_T53 l1 x13_1).f1))))=true:=c8
         clear c8
         obtain rfl:=Option.some.inj H
         have p286:0≤(x13_1:Int):=of_decide_eq_true tD
         have q286:x13_1 < (l0.length:Int):=of_decide_eq_true tD
         obtain ⟨ad286,e286,hx286_0,hx286_1⟩:=at_T53 HR0.out x13_1 p286 q286
         cases e286
         replace p286:=eq_true p286
         replace q286:=eq_true q286
         have p287:0≤(x13_1:Int):=of_decide_eq_true tD
         have q287:x13_1 < (l1.length:Int):=of_decide_eq_true tD
         obtain ⟨ad287,e287,hx287_0,hx287_1⟩:=at_T53 HR1.out x13_1 p287 q287
         cases e287
         replace p287:=eq_true p287
         replace q287:=eq_true q287
         go_wp2
         repeat (go_quiet (fail);try go_wp2)
         go_ret
         exact ⟨by first | rfl | (simp;done) | (simp [*];done),by repeat (first | exact Drawn0.refl _ | apply Drawn0.step)⟩
        ·rw [if_neg c8] at H
         have c8b0:(!(((rd_T53 l0 x13_1).f0) == ((rd_T53 l1 x13_1).f0)) || (!(((rd_T53 l0 x13_1).f1) == ((rd_T53 l1 x13_1).f1))))=false:=by simpa using c8
         clear c8
         have H':=jM H
         clear H
         have p286:0≤(x13_1:Int):=of_decide_eq_true tD
         have q286:x13_1 < (l0.length:Int):=of_decide_eq_true tD
         obtain ⟨ad286,e286,hx286_0,hx286_1⟩:=at_T53 HR0.out x13_1 p286 q286
         cases e286
         replace p286:=eq_true p286
         replace q286:=eq_true q286
         have p287:0≤(x13_1:Int):=of_decide_eq_true tD
         have q287:x13_1 < (l1.length:Int):=of_decide_eq_true tD
         obtain ⟨ad287,e287,hx287_0,hx287_1⟩:=at_T53 HR1.out x13_1 p287 q287
         cases e287
         replace p287:=eq_true p287
         replace q287:=eq_true q287
         go_wp2
         repeat (go_quiet (fail);try go_wp2)
         go_roundg k1
         case measure=>have:=HK1.out;omega
         case rel=>exact ⟨(wrap64 (x13_1+1)),tZ,H',⟨by have:=HK1.out;omega⟩,by repeat (first | exact Drawn0.refl _ | apply Drawn0.step)⟩
       ·rw [if_neg c7] at H
        exact absurd H (by simp)
      ·rw [if_neg c6] at H
       exact absurd H (by simp)
     ·rw [if_neg c5] at H
      exact absurd H (by simp)
    ·rw [if_neg c4] at H
     have c4b0:decide (x13_1 < (l0.length:Int))=false:=decide_eq_false c4
     clear c4
     obtain rfl:=Option.some.inj H
     go_wp2
     repeat (go_quiet (fail);try go_wp2)
     go_ret
     exact ⟨by first | rfl | (simp;done) | (simp [*];done),by repeat (first | exact Drawn0.refl _ | apply Drawn0.step)⟩
 ·rw [if_neg c3] at H
  have c3b0:((l0.length:Int) == (l1.length:Int))=false:=beq_eq_false_iff_ne.mpr c3
  have c3b1:((l0.length:Int) != (l1.length:Int))=true:=bne_iff_ne.mpr c3
  have c3b2:(l0.length == l1.length)=false:=by first | simpa using c3 | (simp at c3 ⊢;omega)
  obtain rfl:=Option.some.inj H
  go_enter Tryz.func63,Tryz.ntmps63
  go_wp2
  repeat (go_quiet (fail);try go_wp2)
  go_ret
  exact ⟨by first | rfl | (simp;done) | (simp [*];done),by repeat (first | exact Drawn0.refl _ | apply Drawn0.step)⟩
end
end Go.Proofs.YtclollnicbcooaaGreatDoor.P
namespace Go.Proofs.YtclollnicbcooaaGreatDoor.P
open Go.RowKit Go.Lib Go.Sort YtclollnicbcooaaGreatDoorW.PrintWords YtclollnicbcooaaGreatDoorW.PrintLast YtclollnicbcooaaGreatDoorW.PrintMore St
section
attribute [local go_sem] Oper.semAt_some
theorem deed63_l0 (a:List S53) (hn:a.length≤9223372036854775807):∀ (m i:Nat),i+m=a.length→table_Deed_63.l0 (m+1) a a (a.length:Int) (i:Int)=some true
 | 0,i,h=>by rw [table_Deed_63.l0,if_neg (by omega)]
 | m+1,i,h=>by
  rw [table_Deed_63.l0,if_pos (by omega),if_pos (by omega),if_pos (by omega),if_pos (by omega),if_neg (by simp),up_to _ (a.length:Int) (by omega) (by omega) (by omega)]
  exact deed63_l0 a hn m (i+1) (by omega)
theorem deed63_same (a:List S53) (hn:a.length≤9223372036854775807):table_Deed_63.f (a.length+1) a a=some true:=by
 unfold table_Deed_63.f
 rw [if_pos rfl]
 exact deed63_l0 a hn a.length 0 (by omega)
theorem set61_l0 (a:List Int) (hn:a.length≤9223372036854775807):∀ (m i:Nat),i+m=a.length→api_Set_61.l0 (m+1) a a (a.length:Int) (i:Int)=some true
 | 0,i,h=>by rw [api_Set_61.l0,if_neg (by omega)]
 | m+1,i,h=>by
  have:=set61_l0 a hn m (i+1) (by omega)
  rw [api_Set_61.l0,if_pos (by omega),if_pos (by omega),if_pos (by omega),if_pos (by omega),up_to _ (a.length:Int) (by omega) (by omega) (by omega)]
  first | exact this | (simpa using this) | (rw [if_pos rfl];exact this)
theorem set61_same (a:List Int) (hn:a.length≤9223372036854775807):api_Set_61.f (a.length+1) a a=some true:=by
 unfold api_Set_61.f
 rw [if_pos rfl]
 exact set61_l0 a hn a.length 0 (by omega)
set_option maxHeartbeats 4000000 in
set_option maxRecDepth 100000 in
theorem same62_calls (A A':Option Addr) (c c':Nat) (K:List (List S53)) (w:World) (hr:Kd.C (Kd.slice 53 k53) w A K.length K) (hr':Kd.C (Kd.slice 53 k53) w A' K.length K) :
  Calls Tryz.prog 62 #[.slice A K.length c,.slice A' K.length c',.func (.func 63) #[] #[]] w fun e w'=>e=.returned (.bool true)∧Drawn0 w w':=by
 have HR:=jM hr
 have HR':=jM hr'
 have HM:=jM hr.2.1
 clear hr hr'
 go_enter Tryz.func62,Tryz.ntmps62
 go_upto_region 4 with fail
 go_loopw [17] (fun v17 wr=>∃ i:Nat,v17=.int .i64 i∧i≤K.length∧Aside0 (Drawn0 w wr)) (fun v17 _=>K.length - (intOf v17).toNat)
 case atStart=>exact ⟨0,rfl,Nat.zero_le _,⟨Drawn0.refl _⟩⟩
 case round =>
  obtain ⟨i,rfl,hi,HD⟩:=hrel
  obtain ⟨n,rfl⟩:=HD.out
  by_cases hlt:i < K.length
  ·have hib:decide (i < K.length)=true:=decide_eq_true hlt
   have hib2:decide ((i:Int) < (K.length:Int))=true:=decide_eq_true (by omega)
   have hiw:IntKind.i64.wrap ((i:Int)+1)=((i+1:Nat):Int):=by
    have:=HM.out
    rw [IntWalk.i64_in _ (by omega)]
    rfl
   obtain ⟨ad,A1,c1,e,hx,hl,hC⟩:=at_L25 (Kd.C_drewN HR.out n) (i:Int) (by omega) (by omega)
   obtain ⟨ad',A1',c1',e',hx',hl',hC'⟩:=at_L25 (Kd.C_drewN HR'.out n) (i:Int) (by omega) (by omega)
   subst e
   subst e'
   rw [Int.toNat_natCast] at hx hx'
   have HCL:=jM (table_Deed_63.calls _ A1 c1 _ A1' c1' _ true _ hC hl hC' hl' (deed63_same _ hC.2.1))
   clear hC hC' hl hl'
   go_wp2_with (go_at_call 63;refine HCL.out.mono ?_;rintro e w2 ⟨rfl,⟨n2,rfl⟩⟩)
   go_roundw
   all_goals first
    | exact ⟨i+1,rfl,by omega,⟨⟨_,World.drewN_drewN _ _ _⟩⟩⟩
    | exact ⟨i+1,rfl,by omega,⟨by repeat (first | exact Drawn0.refl _ | apply Drawn0.step | apply Drawn0.steps)⟩⟩
    | (simp [intOf];omega)
    | trace_state
  ·have hib:decide (i < K.length)=false:=decide_eq_false hlt
   have hib2:decide ((i:Int) < (K.length:Int))=false:=decide_eq_false (by omega)
   go_wp2_with fail
   go_ret
   exact ⟨rfl,⟨n,rfl⟩⟩

def toD (x:S53):Int × Int:=(x.f0,x.f1)
def table_same.f (k:Nat) (d:List (List S53)) (n:List (List Int)) (m:List Int) (d':List (List S53)) (n':List (List Int)) (m':List Int):Option Bool:=if d.map (·.map toD)=d'.map (·.map toD)∧n=n'∧m=m' then some true else none
theorem toD_inj {d d':List (List S53)} (h:d.map (·.map toD)=d'.map (·.map toD)):d=d':=by
 have:=congrArg (fun x:List (List (Int × Int))=>x.map (·.map fun p=>(⟨p.1,p.2⟩:S53))) h
 simp only [List.map_map] at this
 have e:((fun x:List (Int × Int)=>x.map fun p=>(⟨p.1,p.2⟩:S53)) ∘ fun x:List S53=>x.map toD)=id:=by
  funext x
  show (x.map toD).map (fun p=>(⟨p.1,p.2⟩:S53))=x
  rw [List.map_map]
  exact List.map_id'' (fun y=>rfl) x
 rwa [e,List.map_id,List.map_id] at this
set_option maxHeartbeats 4000000 in
set_option maxRecDepth 100000 in
theorem table_same.calls (k:Nat) (A0:Option Addr) (c0:Nat) (d:List (List S53)) (A1:Option Addr) (c1:Nat) (n:List (List Int)) (A2:Option Addr) (c2:Nat) (m:List Int) (B0:Option Addr) (e0:Nat) (d':List (List S53)) (B1:Option Addr) (e1:Nat) (n':List (List Int)) (B2:Option Addr) (e2:Nat) (m':List Int) (r:Bool) (w:World)
  (hr0:Kd.C (Kd.slice 53 k53) w A0 d.length d) (hc0:d.length≤c0) (hr1:Kd.C (Kd.slice 3 (Kd.int .i64)) w A1 n.length n) (hc1:n.length≤c1) (hr2:Kd.C (Kd.int .u64) w A2 m.length m) (hc2:m.length≤c2)
  (hs0:Kd.C (Kd.slice 53 k53) w B0 d'.length d') (hd0:d'.length≤e0) (hs1:Kd.C (Kd.slice 3 (Kd.int .i64)) w B1 n'.length n') (hd1:n'.length≤e1) (hs2:Kd.C (Kd.int .u64) w B2 m'.length m') (hd2:m'.length≤e2)
  (h:table_same.f k d n m d' n' m'=some r) :
  Calls Tryz.prog 34 #[.agg #[.slice A0 d.length c0,.slice A1 n.length c1,.slice A2 m.length c2],.agg #[.slice B0 d'.length e0,.slice B1 n'.length e1,.slice B2 m'.length e2]] w fun e w'=>e=.returned (.bool r)∧Below w.heap.size w w':=by
 unfold table_same.f at h
 split at h
 case isFalse=>cases h
 rename_i hq
 obtain ⟨h1,rfl,rfl⟩:=hq
 obtain rfl:=toD_inj h1
 obtain rfl:=Option.some.inj h
 have HR0:=jM hr0
 have HR1:=jM hr1
 have HR2:=jM hr2
 have HS0:=jM hs0
 have HS1:=jM hs1
 have HS2:=jM hs2
 have HC2:=jM hc2
 have HD2:=jM hd2
 clear hr0 hr1 hr2 hs0 hs1 hs2 hc0 hc1 hc2 hd0 hd1 hd2 h1 h
 have hu34:=Tryz.underlying34
 go_enter Tryz.func34,Tryz.ntmps34
 go_upto_region 1 with fail
 have HA:=jM (below_alloc (below_alloc (RowKit.Below.refl w.heap.size w) (Obj.cells #[.slice A0 d.length c0,.slice A1 n.length c1,.slice A2 m.length c2] 34)) (Obj.cells #[.slice B0 d.length e0,.slice B1 n.length e1,.slice B2 m.length e2] 34))
 have BA:=jM (blk_alloc (blk_new w (Obj.cells #[.slice A0 d.length c0,.slice A1 n.length c1,.slice A2 m.length c2] 34)) (Obj.cells #[.slice B0 d.length e0,.slice B1 n.length e1,.slice B2 m.length e2] 34))
 have BB:=jM (show ((w.alloc (Obj.cells #[.slice A0 d.length c0,.slice A1 n.length c1,.slice A2 m.length c2] 34)).alloc (Obj.cells #[.slice B0 d.length e0,.slice B1 n.length e1,.slice B2 m.length e2] 34)).heap[w.heap.size+1]? = some (.cells #[.slice B0 d.length e0,.slice B1 n.length e1,.slice B2 m.length e2] 34 (0,0)) by have h:=blk_new (w.alloc (Obj.cells #[.slice A0 d.length c0,.slice A1 n.length c1,.slice A2 m.length c2] 34)) (Obj.cells #[.slice B0 d.length e0,.slice B1 n.length e1,.slice B2 m.length e2] 34);rw [World.size_alloc] at h;exact h)
 generalize (w.alloc (Obj.cells #[.slice A0 d.length c0,.slice A1 n.length c1,.slice A2 m.length c2] 34)).alloc (Obj.cells #[.slice B0 d.length e0,.slice B1 n.length e1,.slice B2 m.length e2] 34)=w1 at *
 have a0:w1.cell? ⟨w.heap.size,0,none⟩=some (.slice A0 d.length c0):=blk_cell BA.out 0
 have a1:w1.cell? ⟨w.heap.size,1,none⟩=some (.slice A1 n.length c1):=blk_cell BA.out 1
 have a2:w1.cell? ⟨w.heap.size,2,none⟩=some (.slice A2 m.length c2):=blk_cell BA.out 2
 have b0:w1.cell? ⟨w.heap.size+1,0,none⟩=some (.slice B0 d.length e0):=blk_cell BB.out 0
 have b1:w1.cell? ⟨w.heap.size+1,1,none⟩=some (.slice B1 n.length e1):=blk_cell BB.out 1
 have b2:w1.cell? ⟨w.heap.size+1,2,none⟩=some (.slice B2 m.length e2):=blk_cell BB.out 2
 go_wp2_with (first | (go_at_call 61;refine (api_Set_61.calls (m.length+1) A2 c2 m B2 e2 m true _ (Kd.C_below HR2.out HA.out) HC2.out (Kd.C_below HS2.out HA.out) HD2.out (set61_same m HR2.out.2.1)).mono ?_;rintro e4 w4 ⟨rfl,⟨n4,rfl⟩⟩) | (go_at_call 62;refine (same62_calls A0 B0 c0 e0 d _ (by repeat (first | exact Kd.C_below HR0.out HA.out | apply Kd.C_drewN)) (by repeat (first | exact Kd.C_below HS0.out HA.out | apply Kd.C_drewN))).mono ?_;rintro e5 w5 ⟨rfl,⟨n5,rfl⟩⟩) | (go_at_call 42;refine (same73_calls A1 B1 c1 e1 n _ (by repeat (first | exact Kd.C_below HR1.out HA.out | apply Kd.C_drewN)) (by repeat (first | exact Kd.C_below HS1.out HA.out | apply Kd.C_drewN))).mono ?_;rintro e6 w6 ⟨rfl,⟨n6,rfl⟩⟩))
 go_ret
 exact ⟨rfl,by repeat (first | exact HA.out | apply pw_below_drewN)⟩
end
end Go.Proofs.YtclollnicbcooaaGreatDoor.P
namespace Go.Proofs.YtclollnicbcooaaGreatDoor.P
open Go.RowKit YtclollnicbcooaaGreatDoorW.PrintWords YtclollnicbcooaaGreatDoorW.PrintLast YtclollnicbcooaaGreatDoorW.PrintMore
section
attribute [local go_sem] max2_int min2_int max_two min_two max_three min_three max_four min_four

/-! ### table_Run: function 17 -/
mutual
def table_Run.j0:Nat→List Int→Bool→List (S65)→List (S73)→List ByteArray→List (S68)→Int→List (List (S53))→List (List Int)→List Int→Option (Bool × Int)
 | 0,_,_,_,_,_,_,_,_,_,_=>none
 | k+1,x2,x33,xA,xB,xC,xD,xE,xF,xG,xH=>if x33=true then (some (false,0)) else (table_Run.l0 k x2 (([0]:List Int)) 0 xA xB xC xD xE xF xG xH)
def table_Run.l0:Nat→List Int→List Int→Int→List (S65)→List (S73)→List ByteArray→List (S68)→Int→List (List (S53))→List (List Int)→List Int→Option (Bool × Int)
 | 0,_,_,_,_,_,_,_,_,_,_,_=>none
 | k+1,x2,x10,x11,xA,xB,xC,xD,xE,xF,xG,xH=>if x11 < (x2.length:Int) then (if 0≤x11 then (table_Run.j2 k x2 x10 x11 (rd x2 x11) xA xB xC xD xE xF xG xH) else (none)) else (table_Run.j2 k x2 x10 x11 (xA.length:Int) xA xB xC xD xE xF xG xH)
def table_Run.j2:Nat→List Int→List Int→Int→Int→List (S65)→List (S73)→List ByteArray→List (S68)→Int→List (List (S53))→List (List Int)→List Int→Option (Bool × Int)
 | 0,_,_,_,_,_,_,_,_,_,_,_,_=>none
 | k+1,x2,x10,x11,x12,xA,xB,xC,xD,xE,xF,xG,xH=>if x12 < 0 then (table_Run.j3 k x2 x10 x11 x12 true xA xB xC xD xE xF xG xH) else (if x12 > (xA.length:Int) then (table_Run.j3 k x2 x10 x11 x12 true xA xB xC xD xE xF xG xH) else (if x11 < (x2.length:Int) then (table_Run.j3 k x2 x10 x11 x12 (x12 == (xA.length:Int)) xA xB xC xD xE xF xG xH) else (table_Run.j3 k x2 x10 x11 x12 false xA xB xC xD xE xF xG xH)))
def table_Run.j3:Nat→List Int→List Int→Int→Int→Bool→List (S65)→List (S73)→List ByteArray→List (S68)→Int→List (List (S53))→List (List Int)→List Int→Option (Bool × Int)
 | 0,_,_,_,_,_,_,_,_,_,_,_,_,_=>none
 | k+1,x2,x10,x11,x12,x67,xA,xB,xC,xD,xE,xF,xG,xH=>if x67=true then (some (false,x11)) else (if 0≤(wrap64 ((x10.length:Int) - 1)) then (if (wrap64 ((x10.length:Int) - 1)) < (x10.length:Int) then (if 0≤(rd x10 (wrap64 ((x10.length:Int) - 1))) then (if (rd x10 (wrap64 ((x10.length:Int) - 1))) < (xF.length:Int) then (if 0≤x12 then (if x12 < ((rd_L25 xF (rd x10 (wrap64 ((x10.length:Int) - 1)))).length:Int) then (if ((rd_T53 (rd_L25 xF (rd x10 (wrap64 ((x10.length:Int) - 1)))) x12).f0)=1 then (if x10.length < 17592186044416 then (table_Run.l0 k x2 (x10 ++ [(rd_T53 (rd_L25 xF (rd x10 (wrap64 ((x10.length:Int) - 1)))) x12).f1]) (wrap64 (x11+1)) xA xB xC xD xE xF xG xH) else (none)) else (if ((rd_T53 (rd_L25 xF (rd x10 (wrap64 ((x10.length:Int) - 1)))) x12).f0)=2 then (if 0≤((rd_T53 (rd_L25 xF (rd x10 (wrap64 ((x10.length:Int) - 1)))) x12).f1) then (if ((rd_T53 (rd_L25 xF (rd x10 (wrap64 ((x10.length:Int) - 1)))) x12).f1) < (xD.length:Int) then (if 0≤(wrap64 ((x10.length:Int) - (((rd_T68 xD ((rd_T53 (rd_L25 xF (rd x10 (wrap64 ((x10.length:Int) - 1)))) x12).f1)).f2).length:Int))) then (if (wrap64 ((x10.length:Int) - (((rd_T68 xD ((rd_T53 (rd_L25 xF (rd x10 (wrap64 ((x10.length:Int) - 1)))) x12).f1)).f2).length:Int)))≤(x10.length:Int) then ((some (x10.take ((wrap64 ((x10.length:Int) - (((rd_T68 xD ((rd_T53 (rd_L25 xF (rd x10 (wrap64 ((x10.length:Int) - 1)))) x12).f1)).f2).length:Int))):Int).toNat:List Int)).bind fun y316=>(if 0≤(wrap64 ((y316.length:Int) - 1)) then (if (wrap64 ((y316.length:Int) - 1)) < (y316.length:Int) then (if 0≤(rd y316 (wrap64 ((y316.length:Int) - 1))) then (if (rd y316 (wrap64 ((y316.length:Int) - 1))) < (xG.length:Int) then (if 0≤((rd_T68 xD ((rd_T53 (rd_L25 xF (rd x10 (wrap64 ((x10.length:Int) - 1)))) x12).f1)).f1) then (if ((rd_T68 xD ((rd_T53 (rd_L25 xF (rd x10 (wrap64 ((x10.length:Int) - 1)))) x12).f1)).f1) < ((rd_L17 xG (rd y316 (wrap64 ((y316.length:Int) - 1)))).length:Int) then (if y316.length < 17592186044416 then (table_Run.l0 k x2 (y316 ++ [rd (rd_L17 xG (rd y316 (wrap64 ((y316.length:Int) - 1)))) ((rd_T68 xD ((rd_T53 (rd_L25 xF (rd x10 (wrap64 ((x10.length:Int) - 1)))) x12).f1)).f1)]) x11 xA xB xC xD xE xF xG xH) else (none)) else (none)) else (none)) else (none)) else (none)) else (none)) else (none))) else (none)) else (none)) else (none)) else (none)) else (if ((rd_T53 (rd_L25 xF (rd x10 (wrap64 ((x10.length:Int) - 1)))) x12).f0)=3 then (some (true,x11)) else (some (false,x11))))) else (none)) else (none)) else (none)) else (none)) else (none)) else (none))
end
def table_Run.f (k:Nat) (l0_0:List (S65)) (l0_1:List (S73)) (l0_2:List ByteArray) (l0_3:List (S68)) (a0_4:Int) (l1_0:List (List (S53))) (l1_1:List (List Int)) (l1_2:List Int) (l2:List Int):Option (Bool × Int):=(table_Build.f k l0_0 l0_1 l0_2 l0_3 a0_4).bind fun bt290=>(if bt290.2.2.2=0 then ((inst_Valid.f l0_0 l0_1 l0_2 l0_3 a0_4).bind fun t301=>(if t301=true then ((table_same.f k l1_0 l1_1 l1_2 bt290.1 bt290.2.1 bt290.2.2.1).bind fun t302=>(if t302=true then (table_Run.l0 k l2 [0] 0 l0_0 l0_1 l0_2 l0_3 a0_4 l1_0 l1_1 l1_2) else none)) else none)) else none)
end
section
theorem of_ite {α:Type} {p:Prop} [Decidable p] {a:Option α} {r:α} (h:(if p then a else none)=some r):p∧a=some r:=by
  split at h
  · exact ⟨‹_›,h⟩
  · cases h
section
variable {l0:List S65} {l1:List S73} {l2:List ByteArray} {l3:List S68} {st:Int} {D:List (List S53)} {N:List (List Int)} {M:List Int} {l:List Int}
def colR (T:Nat) (l:List Int) (a:Int):Int:=if a < l.length then Go.Proofs.YtclollnicbcooaaGreatDoorW.PrintWords.rd l a else T
def badC (T:Nat) (l:List Int) (a:Int):Prop:=colR T l a < 0 ∨ colR T l a > T ∨ (a < l.length∧colR T l a=T)
structure RunR (l0:List S65) (l:List Int) (S:List Int) (a:Int) (D:List (List S53)) (t c:Int) (d:S53):Prop where
  fine:¬ badC l0.length l a
  col:c=colR l0.length l a
  len:0 < S.length
  top:t=Go.Proofs.YtclollnicbcooaaGreatDoorW.PrintWords.rd S (wrap64 ((S.length:Int) - 1))
  wr:wrap64 ((S.length:Int) - 1) < S.length
  w0:0≤wrap64 ((S.length:Int) - 1)
  t0:0≤t
  t1:t < D.length
  c0:0≤c
  c1:c < (rd_L25 D t).length
  deed:d=rd_T53 (rd_L25 D t) c
structure RunB (l3:List S68) (S:List Int) (N:List (List Int)) (d:S53) (p:S68) (y:List Int) (q:Int) (x:Int):Prop where
  d0:0≤d.f1
  d1:d.f1 < l3.length
  prod:p=rd_T68 l3 d.f1
  m0:0≤wrap64 ((S.length:Int) - (p.f2.length:Int))
  m1:wrap64 ((S.length:Int) - (p.f2.length:Int))≤S.length
  cut:y=S.take (wrap64 ((S.length:Int) - (p.f2.length:Int))).toNat
  w0:0≤wrap64 ((y.length:Int) - 1)
  w1:wrap64 ((y.length:Int) - 1) < y.length
  last:q=Go.Proofs.YtclollnicbcooaaGreatDoorW.PrintWords.rd y (wrap64 ((y.length:Int) - 1))
  q0:0≤q
  q1:q < N.length
  s0:0≤p.f1
  s1:p.f1 < (rd_L17 N q).length
  few:y.length < 17592186044416
  next:x=Go.Proofs.YtclollnicbcooaaGreatDoorW.PrintWords.rd (rd_L17 N q) p.f1
theorem j3_cases {j:Nat} {S:List Int} {a c:Int} {r:Bool × Int} (hc:c=colR l0.length l a) (hf:¬ badC l0.length l a) (h:table_Run.j3 j l S a c false l0 l1 l2 l3 st D N M=some r):∃ j' t d,j=j'+1∧RunR l0 l S a D t c d ∧
    ((d.f0=1∧S.length < 17592186044416∧table_Run.l0 j' l (S ++ [d.f1]) (wrap64 (a+1)) l0 l1 l2 l3 st D N M=some r) ∨
     (d.f0=2∧∃ p y q x,RunB l3 S N d p y q x∧table_Run.l0 j' l (y ++ [x]) a l0 l1 l2 l3 st D N M=some r) ∨
     (d.f0=3∧r=(true,a)) ∨ (d.f0≠1∧d.f0≠2∧d.f0≠3∧r=(false,a))):=by
  cases j with
  | zero=>rw [table_Run.j3] at h;cases h
  | succ j =>
    rw [table_Run.j3,if_neg (show ¬ (false=true) by decide)] at h
    obtain ⟨a1,h⟩:=of_ite h
    obtain ⟨a2,h⟩:=of_ite h
    obtain ⟨a3,h⟩:=of_ite h
    obtain ⟨a4,h⟩:=of_ite h
    obtain ⟨a5,h⟩:=of_ite h
    obtain ⟨a6,h⟩:=of_ite h
    have hl:0 < S.length:=by
      cases S with
      | nil=>simp only [List.length_nil] at a1 a2;omega
      | cons x S=>simp
    refine ⟨j,_,_,rfl,⟨hf,hc,hl,rfl,a2,a1,a3,a4,a5,a6,rfl⟩, ?_⟩
    generalize rd_T53 (rd_L25 D (Go.Proofs.YtclollnicbcooaaGreatDoorW.PrintWords.rd S (wrap64 ((S.length:Int) - 1)))) c=d at h ⊢
    by_cases h1:d.f0=1
    · rw [if_pos h1] at h
      obtain ⟨b1,h⟩:=of_ite h
      exact .inl ⟨h1,b1,h⟩
    · rw [if_neg h1] at h
      by_cases h2:d.f0=2
      · rw [if_pos h2] at h
        obtain ⟨b1,h⟩:=of_ite h
        obtain ⟨b2,h⟩:=of_ite h
        obtain ⟨b3,h⟩:=of_ite h
        obtain ⟨b4,h⟩:=of_ite h
        rw [Option.bind_some] at h
        obtain ⟨b5,h⟩:=of_ite h
        obtain ⟨b6,h⟩:=of_ite h
        obtain ⟨b7,h⟩:=of_ite h
        obtain ⟨b8,h⟩:=of_ite h
        obtain ⟨b9,h⟩:=of_ite h
        obtain ⟨b10,h⟩:=of_ite h
        obtain ⟨b11,h⟩:=of_ite h
        exact .inr (.inl ⟨h2,_,_,_,_,⟨b1,b2,rfl,b3,b4,rfl,b5,b6,rfl,b7,b8,b9,b10,b11,rfl⟩,h⟩)
      · rw [if_neg h2] at h
        by_cases h3:d.f0=3
        · rw [if_pos h3] at h
          exact .inr (.inr (.inl ⟨h3,(Option.some.inj h).symm⟩))
        · rw [if_neg h3] at h
          exact .inr (.inr (.inr ⟨h1,h2,h3,(Option.some.inj h).symm⟩))
def RunC (l0:List S65) (l1:List S73) (l2:List ByteArray) (l3:List S68) (st:Int) (D:List (List S53)) (N:List (List Int)) (M:List Int) (l:List Int) (j:Nat) (S:List Int) (a:Int) (r:Bool × Int):Prop:=∃ j' t c d,j' < j∧RunR l0 l S a D t c d ∧
    ((d.f0=1∧S.length < 17592186044416∧table_Run.l0 j' l (S ++ [d.f1]) (wrap64 (a+1)) l0 l1 l2 l3 st D N M=some r) ∨
     (d.f0=2∧∃ p y q x,RunB l3 S N d p y q x∧table_Run.l0 j' l (y ++ [x]) a l0 l1 l2 l3 st D N M=some r) ∨
     (d.f0=3∧r=(true,a)) ∨ (d.f0≠1∧d.f0≠2∧d.f0≠3∧r=(false,a)))
theorem l0_cases {j:Nat} {S:List Int} {a:Int} {r:Bool × Int} (h:table_Run.l0 j l S a l0 l1 l2 l3 st D N M=some r) :
    (a < l.length→0≤a)∧((badC l0.length l a∧r=(false,a)) ∨ RunC l0 l1 l2 l3 st D N M l j S a r):=by
  cases j with
  | zero=>rw [table_Run.l0] at h;cases h
  | succ j =>
    obtain ⟨h0,h2⟩:(a < l.length→0≤a)∧table_Run.j2 j l S a (colR l0.length l a) l0 l1 l2 l3 st D N M=some r:=by
      rw [table_Run.l0] at h
      unfold colR
      by_cases hl:a < (l.length:Int)
      · rw [if_pos hl] at h ⊢
        obtain ⟨h0,h⟩:=of_ite h
        exact ⟨fun _=>h0,h⟩
      · rw [if_neg hl] at h ⊢
        exact ⟨fun h=>absurd h hl,h⟩
    refine ⟨h0, ?_⟩
    clear h
    cases j with
    | zero=>rw [table_Run.j2] at h2;cases h2
    | succ j =>
      have bad:∀ {c:Int},table_Run.j3 j l S a c true l0 l1 l2 l3 st D N M=some r→r=(false,a):=fun h=>by
        cases j with
        | zero=>rw [table_Run.j3] at h;cases h
        | succ j=>rw [table_Run.j3,if_pos rfl] at h;exact (Option.some.inj h).symm
      have good:¬ badC l0.length l a→table_Run.j3 j l S a (colR l0.length l a) false l0 l1 l2 l3 st D N M=some r→(badC l0.length l a∧r=(false,a)) ∨ RunC l0 l1 l2 l3 st D N M l (j+1+1) S a r:=fun hf h=>by
        obtain ⟨j',t,d,e,hR,hor⟩:=j3_cases rfl hf h
        exact Or.inr ⟨j',t,_,d,(show j' < j+1+1 by omega),hR,hor⟩
      rw [table_Run.j2] at h2
      by_cases c1:colR l0.length l a < 0
      · rw [if_pos c1] at h2;exact .inl ⟨.inl c1,bad h2⟩
      · rw [if_neg c1] at h2
        by_cases c2:colR l0.length l a > (l0.length:Int)
        · rw [if_pos c2] at h2;exact .inl ⟨.inr (.inl c2),bad h2⟩
        · rw [if_neg c2] at h2
          by_cases c3:a < (l.length:Int)
          · rw [if_pos c3] at h2
            by_cases c4:colR l0.length l a=(l0.length:Int)
            · rw [beq_iff_eq.2 c4] at h2;exact .inl ⟨.inr (.inr ⟨c3,c4⟩),bad h2⟩
            · rw [beq_eq_false_iff_ne.2 c4] at h2
              exact good (by rintro (h | h | ⟨_,h⟩) <;> omega) h2
          · rw [if_neg c3] at h2
            exact good (by rintro (h | h | ⟨h,_⟩) <;> omega) h2
end
end
end Go.Proofs.YtclollnicbcooaaGreatDoor.P
namespace Go.Proofs.YtclollnicbcooaaGreatDoor.P
open Go.RowKit Go.Lib Go.Sort YtclollnicbcooaaGreatDoorW.PrintWords YtclollnicbcooaaGreatDoorW.PrintLast YtclollnicbcooaaGreatDoorW.PrintMore St Base
section
attribute [local go_sem] Oper.semAt_some
theorem at_int {w:World} {A:Option Addr} {n:Nat} {xs:List Int} (h:Kd.C (Kd.int .i64) w A n xs) (i:Int) (h0:0≤i) (h1:i < n):∃ ad,A=some ad∧w.cell? (ad.add i.toNat)=some (.int .i64 (Go.Proofs.YtclollnicbcooaaGreatDoorW.PrintWords.rd xs i)):=by
  obtain ⟨ad,c,e,hl,hK,hc⟩:=Kd.C_get h 0 i h0 h1
  have hcs:c=[.int .i64 (xs.getD i.toNat 0)]:=hK
  refine ⟨ad,e, ?_⟩
  have h2:=hc 0 (.int .i64 (xs.getD i.toNat 0)) (by rw [hcs];rfl)
  rw [Nat.add_zero,show (Kd.int .i64).sz=1 from rfl,Nat.mul_one] at h2
  exact h2
theorem stack0 (w:World):Kd.R (Kd.int .i64) 3 (w.alloc (Obj.cells #[.int .i64 0] 3)) w.heap.size (fun k=>w.heap.size≤k) (.slice (some ⟨w.heap.size,0,none⟩) 1 1) [0]:=by
  refine ⟨fun k hk=>?_,[.int .i64 0], ?_, ?_⟩
  · have:w.heap.size=k:=by simpa [Value.ownBlock] using hk
    omega
  · exact World.ownsRow_lit (base:=w.heap.size) (e:=3) (size:=1) w #[.int .i64 0] 1 (Nat.le_refl _) (by decide) rfl
  · exact Reps.one (show Kd.M (Kd.int .i64) _ _ _ 0 [.int .i64 0] from rfl) (Reps.none _ _)
theorem four4 {w:World} {g:Nat} {u0 u1 u2 u3:Value} {t:TypeId} (h:w.heap[g]? = some (.cells #[u0,u1,u2,u3] t (0,0))):w.cell? ⟨g,0,none⟩=some u0∧w.cell? ⟨g,1,none⟩=some u1∧w.cell? ⟨g,2,none⟩=some u2∧w.cell? ⟨g,3,none⟩=some u3:=⟨blk_cell h 0,blk_cell h 1,blk_cell h 2,blk_cell h 3⟩
theorem two2 {w:World} {g:Nat} {u0 u1:Value} {t:TypeId} (h:w.heap[g]? = some (.cells #[u0,u1] t (0,0))):w.cell? ⟨g,0,none⟩=some u0∧w.cell? ⟨g,1,none⟩=some u1:=⟨blk_cell h 0,blk_cell h 1⟩
set_option maxHeartbeats 8000000 in
set_option maxRecDepth 100000 in
theorem run_walk {A0:Option Addr} {c0:Nat} {l0:List S65} {A1:Option Addr} {c1:Nat} {l1:List S73} {A2:Option Addr} {c2:Nat} {l2:List ByteArray} {A3:Option Addr} {c3:Nat} {l3:List S68} {w:World} (h:Gm A0 c0 l0 A1 c1 l1 A2 c2 l2 A3 c3 l3 w) {D:List (List S53)} {N:List (List Int)} {M:List Int} {A:Option Addr} {c:Nat} {A':Option Addr} {c':Nat} {A'':Option Addr} {c'':Nat} (t:Tm D N M A c A' c' A'' c'' w)
    {Q:Option Addr} {b:Nat} {l:List Int} (hl:Kd.C (Kd.int .i64) w Q l.length l) (hb:l.length≤b) {k:Nat} {st:Int} {r1:Bool} {r2:Int} {D':List (List S53)} {N':List (List Int)} {M':List Int}
    (h1:table_Build.f k l0 l1 l2 l3 st=some (D',N',M',0)) (h2:inst_Valid.f l0 l1 l2 l3 st=some true) (h3:table_same.f k D N M D' N' M'=some true) (hR:table_Run.l0 k l [0] 0 l0 l1 l2 l3 st D N M=some (r1,r2)) :
    Calls Tryz.prog 17 #[.agg #[.slice A0 l0.length c0,.slice A1 l1.length c1,.slice A2 l2.length c2,.slice A3 l3.length c3,.int .i64 st],.agg #[.slice A D.length c,.slice A' N.length c',.slice A'' M.length c''],.slice Q l.length b] w fun x w'=>x=.returned (.tuple #[.bool r1,.int .i64 r2])∧RowKit.Below w.heap.size w w':=by
  have GM0:=jM h
  have TM0:=jM t
  have HL0:=jM hl
  have HRB:=jM hR
  have HX1:=jM h1
  have HX2:=jM h2
  have HX3:=jM h3
  clear h t hl hb h1 h2 h3 hR
  have hu27:=Tryz.underlying27
  have hu34:=Tryz.underlying34
  have hu53:=Tryz.underlying53
  have hu68:=Tryz.underlying68
  go_enter Tryz.func17,Tryz.ntmps17
  go_upto_region 1 with fail
  have BG1:=jM (blk_alloc (blk_new w (Obj.cells #[.slice A0 l0.length c0,.slice A1 l1.length c1,.slice A2 l2.length c2,.slice A3 l3.length c3,.int .i64 st] 27)) (Obj.cells #[.slice A D.length c,.slice A' N.length c',.slice A'' M.length c''] 34))
  have bt1:=blk_new (w.alloc (Obj.cells #[.slice A0 l0.length c0,.slice A1 l1.length c1,.slice A2 l2.length c2,.slice A3 l3.length c3,.int .i64 st] 27)) (Obj.cells #[.slice A D.length c,.slice A' N.length c',.slice A'' M.length c''] 34)
  rw [show (w.alloc (Obj.cells #[.slice A0 l0.length c0,.slice A1 l1.length c1,.slice A2 l2.length c2,.slice A3 l3.length c3,.int .i64 st] 27)).heap.size=w.heap.size+1 by simp] at bt1
  have BT1:=jM bt1
  have HB1:=jM (below_alloc (below_alloc (RowKit.Below.refl w.heap.size w) (Obj.cells #[.slice A0 l0.length c0,.slice A1 l1.length c1,.slice A2 l2.length c2,.slice A3 l3.length c3,.int .i64 st] 27)) (Obj.cells #[.slice A D.length c,.slice A' N.length c',.slice A'' M.length c''] 34))
  clear bt1
  generalize (w.alloc (Obj.cells #[.slice A0 l0.length c0,.slice A1 l1.length c1,.slice A2 l2.length c2,.slice A3 l3.length c3,.int .i64 st] 27)).alloc (Obj.cells #[.slice A D.length c,.slice A' N.length c',.slice A'' M.length c''] 34)=w1 at *
  have GM1:=jM (Gm.below GM0.out HB1.out)
  have HBU:=jM (build_c GM1.out HX1.out)
  obtain ⟨z0,z1,z2,z3,z4⟩:=five5 BG1.out
  go_upto_region 2 with (go_at_call 11;refine HBU.out.mono ?_;rintro x w2 ⟨X,x,X',x',X'',x'',rfl,hm,hb⟩;have HB2:=jM (below_step HB1.out hb);have BG2:=jM (blk_below BG1.out hb);have BT2:=jM (blk_below BT1.out hb);have TX2:=jM hm;clear hb hm)
  clear z0 z1 z2 z3 z4 HBU
  have BX3:=jM (blk_new w2 (Obj.cells #[.slice X D'.length x,.slice X' N'.length x',.slice X'' M'.length x''] 34))
  have hal:=below_alloc (RowKit.Below.refl w2.heap.size w2) (Obj.cells #[.slice X D'.length x,.slice X' N'.length x',.slice X'' M'.length x''] 34)
  have HB3:=jM (below_step HB2.out hal)
  have BG3:=jM (blk_below BG2.out hal)
  have BT3:=jM (blk_below BT2.out hal)
  have TX3:=jM (Tm.below TX2.out hal)
  clear hal
  generalize w2.alloc (Obj.cells #[.slice X D'.length x,.slice X' N'.length x',.slice X'' M'.length x''] 34)=w3 at *
  generalize w2.heap.size=gx at *
  have GM3:=jM (Gm.below GM0.out HB3.out)
  have TM3:=jM (Tm.below TM0.out HB3.out)
  have HVA:=jM (inst_Valid.calls A0 c0 l0 A1 c1 l1 A2 c2 l2 A3 c3 l3 st true w3 GM3.out.r0 GM3.out.c0 GM3.out.r1 GM3.out.c1 GM3.out.r2 GM3.out.c2 GM3.out.r3 GM3.out.c3 HX2.out)
  have HSM:=jM fun (W':World) (hb:RowKit.Below w3.heap.size w3 W') =>
    let a:=Tm.below TM3.out hb
    let b:=Tm.below TX3.out hb
    table_same.calls k A c D A' c' N A'' c'' M X x D' X' x' N' X'' x'' M' true W' a.d a.dc a.n a.nc a.m a.mc b.d b.dc b.n b.nc b.m b.mc HX3.out
  obtain ⟨z0,z1,z2,z3,z4⟩:=five5 BG3.out
  go_upto_region 4 with (first | (go_at_call 27;refine HVA.out.mono ?_;rintro e w4 ⟨rfl,hb⟩;have HB4:=jM hb;obtain ⟨z0,z1,z2,z3,z4⟩:=five5 (blk_below BG3.out hb);obtain ⟨t0,t1,t2⟩:=three3 (blk_below BT3.out hb);obtain ⟨x0,x1,x2⟩:=three3 (blk_below BX3.out hb);clear hb) | (go_at_call 34;refine (HSM.out _ HB4.out).mono ?_;rintro e w5 ⟨rfl,hb⟩;have HB5:=jM (below_step HB4.out hb);clear hb))
  clear z0 z1 z2 z3 z4 HVA HSM TX3 BX3 HB4
  have BG5:=jM (blk_below BG3.out HB5.out)
  have BT5:=jM (blk_below BT3.out HB5.out)
  have GM5:=jM (Gm.below GM3.out HB5.out)
  have TM5:=jM (Tm.below TM3.out HB5.out)
  have HBW:=jM (below_step HB3.out HB5.out)
  have HL5:=jM (Kd.C_below HL0.out HBW.out)
  have HQ5:=jM fun (W':World) (hb:RowKit.Below w5.heap.size w5 W')=>And.intro (five5 (blk_below BG5.out hb)) (three3 (blk_below BT5.out hb))
  clear HB1 HB2 HB3 HB5 BG1 BG2 BG3 BT1 BT2 BT3 GM0 GM1 GM3 TM0 TM3 HL0 HX1 HX2 HX3 BG5 BT5
  have HS0:=jM (stack0 w5)
  have HW0:=jM (below_alloc (RowKit.Below.refl w5.heap.size w5) (Obj.cells #[.int .i64 0] 3))
  go_wp2_with fail
  go_loopg [10,11] k (fun kq v10 v11 W=>∃ (S:List Int) (a:Int),v11=.int .i64 a∧Aside0 (table_Run.l0 kq l S a l0 l1 l2 l3 st D N M=some (r1,r2))∧Aside0 (kq≤k)∧Aside0 (Kd.R (Kd.int .i64) 3 W w5.heap.size (fun k=>w5.heap.size≤k) v10 S)∧Aside0 (RowKit.Below w5.heap.size w5 W))
  case atStart=>exact ⟨[0],0,rfl,HRB,⟨Nat.le_refl _⟩,HS0,HW0⟩
  case round =>
    clear HRB HS0 HW0
    obtain ⟨S,a,rfl,HX,HK,HS,HW⟩:=hrel
    obtain ⟨hin,hor⟩:=l0_cases HX.out
    obtain ⟨AS,cS,rfl⟩:=Kd.R_slice HS.out
    obtain ⟨cv,hcv⟩:∃ cv,cv=colR l0.length l a:=⟨_,rfl⟩
    have HIN:=jM hin
    have HOR:=jM hor
    have HCV:=jM hcv
    clear hin hor hcv HX
    obtain ⟨⟨z0,z1,z2,z3,z4⟩,⟨t0,t1,t2⟩⟩:=HQ5.out wr HW.out
    rcases Classical.em (a < (l.length:Int)) with hl | hl
    case' inl =>
      have d1:decide (a < (l.length:Int))=true:=decide_eq_true hl
      have p1:=HIN.out hl
      obtain ⟨adl,el,lx⟩:=at_int (Kd.C_below HL5.out HW.out) a p1 hl
      subst el
      have p2:=eq_true p1
      have p3:=eq_true hl
      go_upto_region 9 with fail
      have ev:Go.Proofs.YtclollnicbcooaaGreatDoorW.PrintWords.rd l a=cv:=by rw [HCV.out];unfold colR;rw [if_pos hl]
      rw [ev]
      clear lx p1 p2 p3 ev
    case' inr =>
      have d1:decide (a < (l.length:Int))=false:=decide_eq_false hl
      go_upto_region 9 with fail
      have ev:(l0.length:Int)=cv:=by rw [HCV.out];unfold colR;rw [if_neg hl]
      rw [ev]
      clear ev
    all_goals
      rcases HOR.out with ⟨hbad,hr⟩ | ⟨j',tp,cv',d,hj,hrr,hc⟩
      · injection hr with e1 e2
        subst e1
        have E2:=jM e2
        clear e2
        unfold badC at hbad
        rw [← HCV.out] at hbad
        by_cases b1:cv < 0
        · have d2:decide (cv < 0)=true:=decide_eq_true b1
          clear hbad b1 hl
          go_wp2_with fail
          go_ret2
          exact ⟨by rw [E2.out];rfl,below_step HBW.out HW.out⟩
        · have d2:decide (cv < 0)=false:=decide_eq_false b1
          by_cases b2:(l0.length:Int) < cv
          · have d3:decide ((l0.length:Int) < cv)=true:=decide_eq_true b2
            clear hbad b1 b2 hl
            go_wp2_with fail
            go_ret2
            exact ⟨by rw [E2.out];rfl,below_step HBW.out HW.out⟩
          · have d3:decide ((l0.length:Int) < cv)=false:=decide_eq_false b2
            have b4:cv=(l0.length:Int):=by rcases hbad with h | h | ⟨_,h⟩ <;> omega
            have d4:(cv == (l0.length:Int))=true:=beq_iff_eq.2 b4
            have b5:a < (l.length:Int):=by rcases hbad with h | h | ⟨h,_⟩;omega;omega;exact h
            have d1:decide (a < (l.length:Int))=true:=decide_eq_true b5
            first
              | exact absurd b5 hl
              | (clear hbad b1 b2 b4 b5 hl
                 go_wp2_with fail
                 go_ret2
                 exact ⟨by rw [E2.out];rfl,below_step HBW.out HW.out⟩)
      · have hcv':=hrr.col.symm
        rw [← HCV.out] at hcv'
        subst hcv'
        have HRR:=jM hrr
        have HCC:=jM hc
        have HJ:=jM hj
        have hfin:=hrr.fine
        unfold badC at hfin
        rw [← HCV.out] at hfin
        have d2:decide (cv < 0)=false:=decide_eq_false fun h=>hfin (.inl h)
        have d3:decide ((l0.length:Int) < cv)=false:=decide_eq_false fun h=>hfin (.inr (.inl h))
        have d4:a < (l.length:Int)→(cv == (l0.length:Int))=false:=fun h=>beq_eq_false_iff_ne.2 fun e=>hfin (.inr (.inr ⟨h,e⟩))
        have d4:(decide (a < (l.length:Int)) && (cv == (l0.length:Int)))=false:=by
          cases h:decide (a < (l.length:Int)) with
          | false=>rfl
          | true=>exact d4 (of_decide_eq_true h)
        clear hrr hc hj hfin HOR
        go_upto_region 11 with fail
        obtain ⟨n,hn⟩:∃ n:Nat,S.length=n+1:=⟨S.length - 1,by have:=HRR.out.len;omega⟩
        have hmx:=(Kd.R_reads' HS.out).2.2.2.1
        have hwr:wrap64 ((S.length:Int) - 1)=(n:Int):=by rw [IntWalk.wrap64_in _ (by omega)];omega
        have htop:=HRR.out.top
        rw [hwr] at htop
        obtain ⟨adS,eS,sx⟩:=at_int (Kd.R_reads' HS.out).2.2 (n:Int) (by omega) (by omega)
        rw [← htop,Int.toNat_natCast] at sx
        subst eS
        obtain ⟨adD,AD,cD,eD,dx,dl,dC⟩:=at_L25 (Kd.C_below TM5.out.d HW.out) tp HRR.out.t0 HRR.out.t1
        subst eD
        obtain ⟨adR,eR,rx,ry⟩:=at_T53 dC cv HRR.out.c0 HRR.out.c1
        rw [← HRR.out.deed] at rx ry
        subst eR
        have p4:=eq_true (show (0:Int)≤(n:Int) by omega)
        have p5:=eq_true HRR.out.t0
        have p6:=eq_true HRR.out.t1
        have p7:=eq_true HRR.out.c0
        have p8:=eq_true HRR.out.c1
        have HMX:=jM hmx
        have HWR:=jM hwr
        rw [hn]
        have HN:=jM hn
        have q1:n+1≤9223372036854775807:=by omega
        clear hn hwr htop hmx dl dC hl
        go_upto_region 13 with fail
        have HS6:=jM (Kd.R_alloc HS.out (Obj.cells #[.int .i64 d.f0,.int .i64 d.f1] 53))
        rw [HN.out] at HS6
        have BD6:=jM (blk_new wr (Obj.cells #[.int .i64 d.f0,.int .i64 d.f1] 53))
        have HW6:=jM (below_alloc HW.out (Obj.cells #[.int .i64 d.f0,.int .i64 d.f1] 53))
        generalize wr.alloc (Obj.cells #[.int .i64 d.f0,.int .i64 d.f1] 53)=w6 at *
        generalize wr.heap.size=gd at *
        clear z0 z1 z2 z3 z4 t0 t1 t2 sx dx rx ry p4 p5 p6 p7 p8 HS
        obtain ⟨f0,f1⟩:=two2 BD6.out
        have HZ:=jM (below_size HW6.out)
        rcases HCC.out with ⟨h1,h2,h3⟩ | ⟨h1,P,y,q,x',h2,h3⟩ | ⟨h1,h2⟩ | ⟨h1,h2,h3,h4⟩
        · have e1:(d.f0 == 1)=true:=beq_iff_eq.2 h1
          have HX:=jM h3
          have HF:=jM h2
          clear h1 h2 h3 HCC
          go_wp2_with (at_builtin;refine Kd.R_append (Kd.int .i64) (w0:=w5) w5.heap.size rfl (.tmp 88) (.tmp 91) 50 3 (.int .i64 0) 8 rfl Tryz.underlying50 info3 rfl (by decide) (by omega) (.slice (some adS) (n+1) cS) S d.f1 [.int .i64 d.f1] (fun k=>w5.heap.size≤k) (fun _=>False) rfl rfl ?aP (fun _ hk=>hk.elim) ?aF ?aO ?aB ?aS ?aL ?_;(case aP=>exact rfl);(case aF=>exact fun k hk=>Nat.le_trans HZ.out hk);(case aO=>exact HS6.out);(case aB=>exact HW6.out);(case aS=>exact HZ.out);(case aL=>have:=HF.out;omega);intro v7 w7 ho hb hg hat;have HS7:=jM ho;have HW7:=jM hb;clear ho hb hg hat)
          go_roundg j'
          case measure=>have:=HJ.out;omega
          case rel=>exact ⟨S ++ [d.f1],wrap64 (a+1),rfl,HX,⟨by have:=HK.out;have:=HJ.out;omega⟩,HS7,HW7⟩
        · have e1:(d.f0 == 1)=false:=beq_eq_false_iff_ne.2 (by omega)
          have e4:(d.f0 == 2)=true:=beq_iff_eq.2 h1
          obtain ⟨⟨z0,z1,z2,z3,z4⟩,⟨t0,t1,t2⟩⟩:=HQ5.out w6 HW6.out
          have HP:=jM h2
          have HX:=jM h3
          obtain ⟨adP,AR,cR,eP,px0,px1,px2,px3,pl,pC⟩:=at_T68 (Kd.C_below GM5.out.r3 HW6.out) d.f1 h2.d0 h2.d1
          rw [← h2.prod] at px0 px1 px2 px3 pl pC
          subst eP
          have p4:=eq_true h2.d0
          have p5:=eq_true h2.d1
          have hm0:=h2.m0
          have hpm:=pC.2.1
          rw [HN.out,IntWalk.wrap64_in _ (by omega)] at hm0
          obtain ⟨m,hm⟩:∃ m:Nat,n+1=m+P.f2.length:=⟨n+1 - P.f2.length,by omega⟩
          have HM:=jM hm
          have HPM:=jM hpm
          clear h1 h2 h3 hm hm0 hpm HCC pC
          go_upto_region 20 with fail
          have HS7:=jM (Kd.R_alloc HS6.out (Obj.cells #[.string P.f0,.int .i64 P.f1,.slice AR P.f2.length cR,.int .i64 P.f3] 68))
          have BP7:=jM (blk_new w6 (Obj.cells #[.string P.f0,.int .i64 P.f1,.slice AR P.f2.length cR,.int .i64 P.f3] 68))
          have HW7:=jM (below_alloc HW6.out (Obj.cells #[.string P.f0,.int .i64 P.f1,.slice AR P.f2.length cR,.int .i64 P.f3] 68))
          generalize w6.alloc (Obj.cells #[.string P.f0,.int .i64 P.f1,.slice AR P.f2.length cR,.int .i64 P.f3] 68)=w7 at *
          generalize w6.heap.size=gp at *
          clear z0 z1 z2 z3 z4 t0 t1 t2 px0 px1 px2 px3 f0 f1 pl HS6 HW6 BD6 p4 p5
          rw [HM.out] at HS7 ⊢
          have hcl:=(Kd.R_reads' HS7.out).2.1
          obtain ⟨i0,hi, -, -, -⟩:=info_parts info3
          have hcut:=cut_to (P:=Tryz.prog) 50 3 .i64 Tryz.underlying50 hi (some adS) (m+P.f2.length) cS (m:Int) (by omega) (by omega) hcl
          rw [Int.toNat_natCast] at hcut
          have q2:m+P.f2.length≤9223372036854775807:=by have:=HMX.out;have:=HN.out;have:=HM.out;omega
          have hwr:wrap64 (((m+P.f2.length:Nat):Int) - (P.f2.length:Int))=(m:Int):=by rw [IntWalk.wrap64_in _ (by omega)];omega
          have hwr':wrap64 ((m:Int)+(P.f2.length:Int) - (P.f2.length:Int))=(m:Int):=by rw [IntWalk.wrap64_in _ (by omega)];omega
          have q3:=HPM.out
          obtain ⟨x0,x1,x2,x3⟩:=four4 BP7.out
          go_upto_region 21 with fail
          clear hcut hcl hi i0 q3 x0 x2 x3
          have hy:y=S.take m:=by rw [HP.out.cut,HN.out,HM.out,hwr,Int.toNat_natCast]
          have hyl:y.length=m:=by rw [hy,List.length_take,HN.out,HM.out];omega
          obtain ⟨n2,rfl⟩:∃ n2,m=n2+1:=by
            rcases m with _ | n2
            · have:=HP.out.w0
              rw [hyl,IntWalk.wrap64_in _ (by omega)] at this
              omega
            · exact ⟨n2,rfl⟩
          have HS8:=jM (Kd.R_take (m:=n2+1) HS7.out (by rw [HN.out,HM.out];omega))
          rw [← hy] at HS8
          have hwy:wrap64 ((y.length:Int) - 1)=(n2:Int):=by rw [hyl,IntWalk.wrap64_in _ (by omega)];omega
          have hla:=HP.out.last
          rw [hwy] at hla
          obtain ⟨ad1,e1',sx⟩:=at_int (Kd.R_reads' HS8.out).2.2 (n2:Int) (by omega) (by omega)
          rw [← hla,Int.toNat_natCast] at sx
          cases e1'
          obtain ⟨adN,AX,cX,eN,nx, -,nC⟩:=at_L17 (Kd.C_below TM5.out.n HW7.out) q HP.out.q0 HP.out.q1
          subst eN
          obtain ⟨adX,eX,xx⟩:=at_int nC P.f1 HP.out.s0 HP.out.s1
          rw [← HP.out.next] at xx
          subst eX
          obtain ⟨-, -,t1, -⟩:=HQ5.out w7 HW7.out
          have key:∀ (ops:Array Oper) (o:Oper) (ac:Act) (Q:Exit→Act→World→Prop) (Kc:Act→World→Prop) (hw:Region.wanted o (yielded ops ac.tmps)=true)
              (ho:o.op=.call { callee:=.builtin .append,args:=#[.tmp 111,.tmp 126],argTypes:=#[50,50] }) (hs:ac.eval (.tmp 111)=.slice (some adS) (n2+1) cS) (hx:ac.eval (.tmp 126)=.slice (some ⟨w7.drew.heap.size,0,none⟩) 1 1)
              (h:∀ v1 w1,(Kd.int .i64).R 3 w1 w5.heap.size (fun k=>w5.heap.size≤k) v1 (y ++ [x'])→RowKit.Below w5.heap.size w5 w1→Kc (ac.put o.dst v1) w1),
              if Region.wanted o (yielded ops ac.tmps)=true then Oper.wp Tryz.prog o ac (w7.drew.alloc (.cells #[.int .i64 x'] 3)) Kc Q else Kc (ac.put o.dst undef) (w7.drew.alloc (.cells #[.int .i64 x'] 3)):=by
            intro ops o ac Q Kc hw ho hs hx h
            have hz7:=below_size HW7.out
            have hd7:w7.drew.heap.size=w7.heap.size:=rfl
            refine Kd.R_append_step (Kd.int .i64) (w0:=w5) w5.heap.size hw (.tmp 111) (.tmp 126) 50 3 (.int .i64 0) 8 ho Tryz.underlying50 info3 rfl (by decide) (by omega) (.slice (some adS) (n2+1) cS) y x' [.int .i64 x'] (fun k=>w5.heap.size≤k) (fun _=>False) hs hx rfl (fun _ h=>h.elim) (fun k hk=>by omega) (Kd.R_move HS8.out fun _ _=>rfl) HW7.out.drew (by omega) (by have:=HP.out.few;omega) ?_
            intro v1 w1 hR hB _ _
            exact h v1 w1 hR hB
          have KEY:=Lib.hid key
          have p4:=eq_true (show (0:Int)≤(n2:Int) by omega)
          have p5:=eq_true HP.out.q0
          have p6:=eq_true HP.out.q1
          have p7:=eq_true HP.out.s0
          have p8:=eq_true HP.out.s1
          have q3:wrap64 ((n2:Int)+1 - 1)=(n2:Int):=by rw [IntWalk.wrap64_in _ (by omega)];omega
          have q4:wrap64 (((n2+1:Nat):Int) - 1)=(n2:Int):=by rw [IntWalk.wrap64_in _ (by omega)];omega
          have q5:IntKind.i64.wrap (n2:Int)=(n2:Int):=IntWalk.i64_in _ (by omega)
          have p9:=eq_true (show (n2:Int) < (n2:Int)+1 by omega)
          clear key hy hla hwy hwr hwr' hyl nC HS7 HS8 BP7
          go_region_law (refine KEY.out _ _ _ _ _ (by rfl) rfl (by simp [Act.eval,Act.put]) (by simp [Act.eval,Act.put]) ?_;intro v1 w1 hR hB)
          all_goals go_wp2_with fail
          all_goals go_roundg j'
          all_goals first
            | (have:=HJ.out;omega)
            | exact ⟨y ++ [x'],a,rfl,HX,⟨by have:=HK.out;have:=HJ.out;omega⟩,⟨hR⟩,⟨hB⟩⟩
        · injection h2 with e2 e3
          have e1:(d.f0 == 1)=false:=beq_eq_false_iff_ne.2 (by omega)
          have e4:(d.f0 == 2)=false:=beq_eq_false_iff_ne.2 (by omega)
          have e5:(d.f0 == 3)=true:=beq_iff_eq.2 h1
          subst e2
          have E3:=jM e3
          clear h1 e3 HCC
          go_wp2_with fail
          go_ret2
          exact ⟨by rw [E3.out];rfl,below_step HBW.out HW6.out⟩
        · injection h4 with e2 e3
          have e1:(d.f0 == 1)=false:=beq_eq_false_iff_ne.2 h1
          have e4:(d.f0 == 2)=false:=beq_eq_false_iff_ne.2 h2
          have e5:(d.f0 == 3)=false:=beq_eq_false_iff_ne.2 h3
          subst e2
          have E3:=jM e3
          clear h1 h2 h3 e3 HCC
          go_wp2_with fail
          go_ret2
          exact ⟨by rw [E3.out];rfl,below_step HBW.out HW6.out⟩
end
end Go.Proofs.YtclollnicbcooaaGreatDoor.P
namespace Go.Proofs.YtclollnicbcooaaGreatDoor.P
open Go.RowKit YtclollnicbcooaaGreatDoorW.PrintWords YtclollnicbcooaaGreatDoorW.PrintLast YtclollnicbcooaaGreatDoorW.PrintMore
theorem table_Run.calls (k:Nat) (A0_0:Option Addr) (c0_0:Nat) (l0_0:List (S65)) (A0_1:Option Addr) (c0_1:Nat) (l0_1:List (S73)) (A0_2:Option Addr) (c0_2:Nat) (l0_2:List ByteArray) (A0_3:Option Addr) (c0_3:Nat) (l0_3:List (S68)) (a0_4:Int) (A1_0:Option Addr) (c1_0:Nat) (l1_0:List (List (S53))) (A1_1:Option Addr) (c1_1:Nat) (l1_1:List (List Int)) (A1_2:Option Addr) (c1_2:Nat) (l1_2:List Int) (A2:Option Addr) (c2:Nat) (l2:List Int) (r1:Bool) (r2:Int) (w:World) (hG:GTab w) (hr0_0:Kd.C k65 w A0_0 l0_0.length l0_0) (hc0_0:l0_0.length≤c0_0) (hr0_1:Kd.C k73 w A0_1 l0_1.length l0_1) (hc0_1:l0_1.length≤c0_1) (hr0_2:Kd.C Kd.string w A0_2 l0_2.length l0_2) (hc0_2:l0_2.length≤c0_2) (hr0_3:Kd.C k68 w A0_3 l0_3.length l0_3) (hc0_3:l0_3.length≤c0_3) (hr1_0:Kd.C (Kd.slice 53 k53) w A1_0 l1_0.length l1_0) (hc1_0:l1_0.length≤c1_0) (hr1_1:Kd.C (Kd.slice 3 (Kd.int .i64)) w A1_1 l1_1.length l1_1) (hc1_1:l1_1.length≤c1_1) (hr1_2:Kd.C (Kd.int .u64) w A1_2 l1_2.length l1_2) (hc1_2:l1_2.length≤c1_2) (hr2:Kd.C (Kd.int .i64) w A2 l2.length l2) (hc2:l2.length≤c2) (h:table_Run.f k l0_0 l0_1 l0_2 l0_3 a0_4 l1_0 l1_1 l1_2 l2=some (r1,r2)) :
  Calls Tryz.prog 17 #[.agg #[.slice A0_0 l0_0.length c0_0,.slice A0_1 l0_1.length c0_1,.slice A0_2 l0_2.length c0_2,.slice A0_3 l0_3.length c0_3,.int .i64 a0_4],.agg #[.slice A1_0 l1_0.length c1_0,.slice A1_1 l1_1.length c1_1,.slice A1_2 l1_2.length c1_2],.slice A2 l2.length c2] w fun e w'=>e=.returned (.tuple #[.bool r1,.int .i64 r2])∧Below w.heap.size w w':=by
 have G:Gm A0_0 c0_0 l0_0 A0_1 c0_1 l0_1 A0_2 c0_2 l0_2 A0_3 c0_3 l0_3 w:=⟨hr0_0,hc0_0,hr0_1,hc0_1,hr0_2,hc0_2,hr0_3,hc0_3,hG⟩
 have t:Tm l1_0 l1_1 l1_2 A1_0 c1_0 A1_1 c1_1 A1_2 c1_2 w:=⟨hr1_0,hc1_0,hr1_1,hc1_1,hr1_2,hc1_2⟩
 unfold table_Run.f at h
 obtain ⟨⟨D',N',M',e⟩,h1,h⟩:=Option.bind_eq_some_iff.mp h
 obtain ⟨he,h⟩:=of_ite h
 have he:e=0:=he
 subst he
 obtain ⟨v,h2,h⟩:=Option.bind_eq_some_iff.mp h
 obtain ⟨hv,h⟩:=of_ite h
 subst hv
 obtain ⟨q,h3,h⟩:=Option.bind_eq_some_iff.mp h
 obtain ⟨hq,h⟩:=of_ite h
 subst hq
 exact run_walk G t hr2 hc2 h1 h2 h3 h
end Go.Proofs.YtclollnicbcooaaGreatDoor.P
namespace Go.Proofs.YtclollnicbcooaaGreatDoor.P
open YtclollnicbcooaaGreatDoor.Base Go.RowKit YtclollnicbcooaaGreatDoorW.PrintWords YtclollnicbcooaaGreatDoorW.PrintLast YtclollnicbcooaaGreatDoorW.PrintMore
section
section
variable (nT nS:Int) (es:List Bool) (fs:List Int)
def folMore (srt s:Int) (l:List Int) (out:List Int):Int:=Go.bits .or .u64 (rdOf 0 out (IntKind.i64.wrap (-1 - s))) ((rowF nT nS es fs (rdOf 0 out srt) l 0).getD 0)
def folSym (srt:Int):List Int→List Int × Bool→List Int × Bool
 | [],st=>st
 | s :: l,st=>folSym srt l (if 0≤s then st else (st.1.set (IntKind.i64.wrap (-1 - s)).toNat (folMore nT nS es fs srt s l st.1),st.2 || decide (folMore nT nS es fs srt s l st.1≠rdOf 0 st.1 (IntKind.i64.wrap (-1 - s)))))
def folPass:List S68→List Int × Bool→List Int × Bool
 | [],st=>st
 | p :: ps,st=>folPass ps (folSym nT nS es fs p.f1 p.f2 st)
def folG (ps:List S68):Nat→List Int→Option (List Int)
 | 0,_=>none
 | k+1,xs=>if (folPass nT nS es fs ps (xs,false)).2=true then folG ps k (folPass nT nS es fs ps (xs,false)).1 else some (folPass nT nS es fs ps (xs,false)).1
end

def sets_Follow.f (k:Nat) (l0:List S65) (l1:List S73) (l2:List ByteArray) (l3:List S68) (st:Int):Option (List Int) :=
 if validB l0 l1 l2 l3 st=true then (sets_Empty.f k l0 l1 l2 l3 st).bind fun es=>(growG (0:Int) (moreS l0.length l2.length es) l3 k (List.replicate l2.length 0)).bind fun fs =>
  (bits_Of.f k [63]).bind fun eo=>folG l0.length l2.length es fs l3 k ((List.replicate l2.length 0).set st.toNat eo) else some []
end
end Go.Proofs.YtclollnicbcooaaGreatDoor.P
section
namespace Go.Proofs.YtclollnicbcooaaGreatDoor.P
open Go.RowKit Go.Proofs.YtclollnicbcooaaGreatDoorW.PrintWords

def iter {α:Type} (F:α→α):Nat→α→α
 | 0,x=>x
 | n+1,x=>iter F n (F x)

theorem iter_succ {α:Type} (F:α→α):∀ (n:Nat) (x:α),iter F (n+1) x=F (iter F n x)
 | 0,_=>rfl
 | n+1,x=>iter_succ F n (F x)

theorem iter_fixed {α:Type} (F:α→α) {x:α} (h:F x=x):∀ n,iter F n x=x
 | 0=>rfl
 | n+1=>by show iter F n (F x)=x;rw [h];exact iter_fixed F h n

theorem iter_inv {α:Type} (F:α→α) (I:α→Prop) (h:∀ x,I x→I (F x)):∀ (n:Nat) (x:α),I x→I (iter F n x)
 | 0,_,hx=>hx
 | n+1,x,hx=>iter_inv F I h n (F x) (h x hx)

theorem count_le_of:∀ (xs ys:List Bool),xs.length=ys.length→(∀ i,xs.getD i false=true→ys.getD i false=true)→xs.count true≤ys.count true∧(xs.count true=ys.count true→xs=ys)
 | [],[],_,_=>⟨Nat.le_refl _,fun _=>rfl⟩
 | x :: xs,y :: ys,hl,h=>by
  have ih:=count_le_of xs ys (by simpa using hl) (fun i=>by have:=h (i+1);simpa using this)
  have h0:=h 0
  simp only [List.getD_cons_zero] at h0
  cases x <;> cases y
  ·simpa using ih
  ·simp only [List.count_cons]
   refine ⟨by have:=ih.1;simp;omega,fun e=>?_⟩
   have:=ih.1
   simp at e
   omega
  ·simp at h0
  ·simpa using ih
 | [],_ :: _,hl,_=>by simp at hl
 | _ :: _,[],hl,_=>by simp at hl

theorem seq_stable (c:Nat→List Bool) (n:Nat) (hl:∀ k,(c k).length=n) (hg:∀ k i,(c k).getD i false=true→(c (k+1)).getD i false=true) (hs:∀ k,c k=c (k+1)→c (k+1)=c (k+2)):c n=c (n+1):=by
 have h1:∀ k,(∃ j,j < k∧c j=c (j+1)) ∨ k≤(c k).count true:=by
  intro k
  induction k with
  | zero=>exact .inr (Nat.zero_le _)
  | succ k ih =>
   rcases ih with ⟨j,hj,e⟩ | ih
   ·exact .inl ⟨j,by omega,e⟩
   ·by_cases e:c k=c (k+1)
    ·exact .inl ⟨k,by omega,e⟩
    ·have:=count_le_of (c k) (c (k+1)) (by rw [hl,hl]) (hg k)
     have h2:(c k).count true≠(c (k+1)).count true:=fun q=>e (this.2 q)
     exact .inr (by omega)
 rcases h1 (n+1) with ⟨j,hj,e⟩ | h
 ·have h2:∀ i,c (j+i)=c (j+i+1):=by
   intro i
   induction i with
   | zero=>exact e
   | succ i ih=>exact hs _ ih
  have:=h2 (n - j)
  rwa [show j+(n - j)=n by omega] at this
 ·have:=List.count_le_length (a:=true) (l:=c (n+1))
  rw [hl] at this
  omega

section
variable {β:Type}
def run (ss:List (Nat × (List β→β))) (xs:List β):List β:=ss.foldl (fun xs s=>xs.set s.1 (s.2 xs)) xs
theorem run_cons (s:Nat × (List β→β)) (ss:List (Nat × (List β→β))) (xs:List β):run (s :: ss) xs=run ss (xs.set s.1 (s.2 xs)):=rfl
theorem still_at {xs:List β} {i:Nat} {v:β} (h:xs.set i v=xs) (hi:i < xs.length):xs[i]=v:=by
 have:(xs.set i v)[i]'(by rw [List.length_set];exact hi)=v:=by simp
 rw [← this];congr 1;exact h.symm
theorem run_inv (I:List β→Prop):∀ (ss:List (Nat × (List β→β))) (xs:List β),(∀ s ∈ ss,∀ xs,I xs→I (xs.set s.1 (s.2 xs)))→I xs→I (run ss xs)
 | [],xs,_,hx=>hx
 | s :: ss,xs,hg,hx=>run_inv I ss _ (fun t ht=>hg t (by simp [ht])) (hg s (by simp) xs hx)
end

class Bitty (β:Type) where
 tb:β→Nat→Bool
 ok:β→Prop
 ext:∀ {x y:β},ok x→ok y→(∀ b,tb x b=tb y b)→x=y
open Bitty

instance:Bitty Bool where
 tb x _:=x
 ok _:=True
 ext:=fun _ _ h=>h 0

section
variable {β:Type} [Bitty β]
def leB (x y:β):Prop:=∀ b,tb x b=true→tb y b=true
theorem leB_refl (x:β):leB x x:=fun _ h=>h
theorem leB_trans {x y z:β} (h1:leB x y) (h2:leB y z):leB x z:=fun b h=>h2 b (h1 b h)
theorem leB_antisymm {x y:β} (hx:ok x) (hy:ok y) (h1:leB x y) (h2:leB y x):x=y:=ext hx hy fun b=>by
 cases h:tb x b
 ·cases h':tb y b
  ·rfl
  ·rw [h2 b h'] at h;exact h.symm
 ·exact (h1 b h).symm
def okL (n:Nat) (xs:List β):Prop:=xs.length=n∧∀ i (h:i < xs.length),ok xs[i]
def leL (xs ys:List β):Prop:=xs.length=ys.length∧∀ i (h:i < xs.length) (h':i < ys.length),leB xs[i] ys[i]
theorem leL_refl (xs:List β):leL xs xs:=⟨rfl,fun _ _ _=>leB_refl _⟩
theorem leL_trans {xs ys zs:List β} (h1:leL xs ys) (h2:leL ys zs):leL xs zs:=⟨h1.1.trans h2.1,fun i h h'=>leB_trans (h1.2 i h (by rw [← h1.1];exact h)) (h2.2 i (by rw [← h1.1];exact h) h')⟩
theorem leL_antisymm {n:Nat} {xs ys:List β} (hx:okL n xs) (hy:okL n ys) (h1:leL xs ys) (h2:leL ys xs):xs=ys :=
 List.ext_getElem h1.1 fun i h h'=>leB_antisymm (hx.2 i h) (hy.2 i h') (h1.2 i h h') (h2.2 i h' h)

def Grows (n:Nat) (ss:List (Nat × (List β→β))):Prop:=∀ s ∈ ss,∀ xs:List β,okL n xs→ok (s.2 xs)∧∀ h:s.1 < xs.length,leB xs[s.1] (s.2 xs)
theorem set_grow {n:Nat} {xs:List β} {i:Nat} {v:β} (hx:okL n xs) (hv:ok v) (h:∀ h:i < xs.length,leB xs[i] v):okL n (xs.set i v)∧leL xs (xs.set i v):=by
 refine ⟨⟨by rw [List.length_set];exact hx.1,fun j hj=>?_⟩,by rw [List.length_set],fun j hj hj'=>?_⟩
 ·rw [List.getElem_set]
  split
  ·exact hv
  ·exact hx.2 _ _
 ·rw [List.getElem_set]
  split
  ·rename_i e;subst e;exact h hj
  ·exact leB_refl _
theorem run_ok {n:Nat}:∀ (ss:List (Nat × (List β→β))) (xs:List β),Grows n ss→okL n xs→okL n (run ss xs)∧leL xs (run ss xs)
 | [],xs,_,hx=>⟨hx,leL_refl _⟩
 | s :: ss,xs,hg,hx=>by
  have h1:=set_grow hx (hg s (by simp) xs hx).1 (hg s (by simp) xs hx).2
  have h2:=run_ok ss _ (fun t ht=>hg t (by simp [ht])) h1.1
  exact ⟨h2.1,leL_trans h1.2 h2.2⟩
theorem run_still {n:Nat}:∀ (ss:List (Nat × (List β→β))) (xs:List β),Grows n ss→okL n xs→run ss xs=xs→∀ s ∈ ss,xs.set s.1 (s.2 xs)=xs
 | [],xs,_,hx,_,s,hs=>by simp at hs
 | t :: ss,xs,hg,hx,he,s,hs=>by
  have h1:=set_grow hx (hg t (by simp) xs hx).1 (hg t (by simp) xs hx).2
  have h2:=run_ok ss _ (fun t ht=>hg t (by simp [ht])) h1.1
  rw [run_cons] at he
  rw [he] at h2
  have h3:=leL_antisymm h1.1 hx h2.2 h1.2
  rw [h3] at he
  rcases List.mem_cons.1 hs with rfl | hs
  ·exact h3
  ·exact run_still ss xs (fun t ht=>hg t (by simp [ht])) hx he s hs
def runF (z:β) [DecidableEq β] (ss:List (Nat × (List β→β))) (st:List β × Bool):List β × Bool:=ss.foldl (fun st s=>if st.1.getD s.1 z=s.2 st.1 then st else (st.1.set s.1 (s.2 st.1),true)) st
theorem runF_eq {n:Nat} (z:β) [DecidableEq β]:∀ (ss:List (Nat × (List β→β))) (xs:List β) (c:Bool),Grows n ss→(∀ s ∈ ss,s.1 < n)→okL n xs→runF z ss (xs,c)=(run ss xs,c || decide (run ss xs≠xs))
 | [],xs,c,_,_,_=>by simp [runF,run]
 | s :: ss,xs,c,hg,hi,hx=>by
  have h1:=set_grow hx (hg s (by simp) xs hx).1 (hg s (by simp) xs hx).2
  have h2:=run_ok ss _ (fun t ht=>hg t (by simp [ht])) h1.1
  have hlt:s.1 < xs.length:=by rw [hx.1];exact hi s (by simp)
  rw [run_cons]
  by_cases e:xs.getD s.1 z=s.2 xs
  ·have e2:xs.set s.1 (s.2 xs)=xs:=by
    rw [← e]
    apply List.ext_getElem (by simp)
    intro j h h'
    rw [List.getElem_set]
    split
    ·rename_i q;subst q;simp [List.getD,h']
    ·rfl
   rw [e2]
   show runF z ss (if xs.getD s.1 z=s.2 xs then (xs,c) else _)=_
   rw [if_pos e]
   exact runF_eq z ss xs c (fun t ht=>hg t (by simp [ht])) (fun t ht=>hi t (by simp [ht])) hx
  ·show runF z ss (if xs.getD s.1 z=s.2 xs then (xs,c) else (xs.set s.1 (s.2 xs),true))=_
   rw [if_neg e,runF_eq z ss _ true (fun t ht=>hg t (by simp [ht])) (fun t ht=>hi t (by simp [ht])) h1.1]
   have h3:run ss (xs.set s.1 (s.2 xs))≠xs:=fun q=>by
    rw [q] at h2
    have h4:=leL_antisymm h1.1 hx h2.2 h1.2
    have:=still_at h4 hlt
    exact e (by rw [← this];simp [List.getD,hlt])
   rw [decide_eq_true h3]
   simp
def Local (n:Nat) (ss:List (Nat × (List β→β))):Prop:=∀ s ∈ ss,∀ (b:Nat) (xs ys:List β),okL n xs→okL n ys→(∀ i (h:i < xs.length) (h':i < ys.length),tb xs[i] b=tb ys[i] b)→tb (s.2 xs) b=tb (s.2 ys) b
theorem run_local {n:Nat} (b:Nat):∀ (ss:List (Nat × (List β→β))) (xs ys:List β),Grows n ss→Local n ss→okL n xs→okL n ys→(∀ i (h:i < xs.length) (h':i < ys.length),tb xs[i] b=tb ys[i] b) →
  ∀ i (h:i < (run ss xs).length) (h':i < (run ss ys).length),tb (run ss xs)[i] b=tb (run ss ys)[i] b
 | [],_,_,_,_,_,_,he=>he
 | s :: ss,xs,ys,hg,hl,hx,hy,he=>by
  have h1:=set_grow hx (hg s (by simp) xs hx).1 (hg s (by simp) xs hx).2
  have h2:=set_grow hy (hg s (by simp) ys hy).1 (hg s (by simp) ys hy).2
  refine run_local b ss (xs.set s.1 (s.2 xs)) (ys.set s.1 (s.2 ys)) (fun t ht=>hg t (by simp [ht])) (fun t ht=>hl t (by simp [ht])) h1.1 h2.1 fun i h h'=>?_
  rw [List.getElem_set,List.getElem_set]
  split
  ·exact hl s (by simp) b xs ys hx hy he
  ·exact he i _ _
theorem run_stable {n:Nat} (ss:List (Nat × (List β→β))) (xs:List β) (hg:Grows n ss) (hl:Local n ss) (hx:okL n xs):run ss (iter (run ss) n xs)=iter (run ss) n xs:=by
 have hk:∀ k,okL n (iter (run ss) k xs):=fun k=>iter_inv (run ss) (okL n) (fun x h=>(run_ok ss x hg h).1) k xs hx
 rw [← iter_succ (run ss) n xs]
 refine (List.ext_getElem (by rw [(hk n).1,(hk (n+1)).1]) fun i h h'=>ext ((hk n).2 i h) ((hk (n+1)).2 i h') fun b=>?_).symm
 have hc:=seq_stable (fun k=>(iter (run ss) k xs).map (fun x=>tb x b)) n (fun k=>by rw [List.length_map];exact (hk k).1) (fun k j hj=>?_) (fun k he=>?_)
 ·have hc2:((iter (run ss) n xs).map (fun x=>tb x b))[i]'(by simpa using h)=((iter (run ss) (n+1) xs).map (fun x=>tb x b))[i]'(by simpa using h'):=by congr 1
  simpa using hc2
 ·have h3:=(run_ok ss _ hg (hk k)).2
  rw [iter_succ]
  by_cases hjn:j < n
  ·have q1:j < (iter (run ss) k xs).length:=by rw [(hk k).1];exact hjn
   have q2:j < (run ss (iter (run ss) k xs)).length:=by rw [← h3.1];exact q1
   simp only [List.getD,List.getElem?_map,List.getElem?_eq_getElem q1,List.getElem?_eq_getElem q2,Option.map_some,Option.getD_some] at hj ⊢
   exact h3.2 j q1 q2 b hj
  ·have q1:(iter (run ss) k xs).length≤j:=by rw [(hk k).1];omega
   simp [List.getD,List.getElem?_eq_none q1] at hj
 ·rw [iter_succ _ (k+1),iter_succ _ k]
  have q:∀ i (h:i < (iter (run ss) k xs).length) (h':i < (iter (run ss) (k+1) xs).length),tb (iter (run ss) k xs)[i] b=tb (iter (run ss) (k+1) xs)[i] b:=fun i h h'=>by
   have:((iter (run ss) k xs).map (fun x=>tb x b))[i]'(by simpa using h)=((iter (run ss) (k+1) xs).map (fun x=>tb x b))[i]'(by simpa using h'):=by congr 1
   simpa using this
  have q2:=run_local b ss _ _ hg hl (hk k) (hk (k+1)) q
  rw [iter_succ _ k] at q2
  refine List.ext_getElem ?_ fun i h h'=>?_
  ·simp only [List.length_map]
   rw [← iter_succ (run ss),← iter_succ (run ss),(hk _).1,(hk _).1]
  ·simpa using q2 i (by simpa using h) (by simpa using h')
end

theorem grow_ends {α:Type} [DecidableEq α] (g:Nat→α→Option α) (pass:α→α × Bool) (F:α→α) (I:α→Prop) (hg:∀ k x,g (k+1) x=if (pass x).2=true then g k (pass x).1 else some (pass x).1) (hI:∀ x,I x→I (F x))
  (hp:∀ x,I x→pass x=(F x,decide (F x≠x))):∀ (m:Nat) (x:α),I x→F (iter F m x)=iter F m x→∀ k,m+1≤k→g k x=some (iter F m x)
 | m,x,hx,hs,0,hk=>by omega
 | 0,x,hx,hs,k+1,hk=>by
  have hs':F x=x:=hs
  rw [hg,hp x hx,hs']
  simp [iter]
 | m+1,x,hx,hs,k+1,hk=>by
  rw [hg,hp x hx]
  by_cases e:F x=x
  ·rw [iter_fixed F e,e];simp
  ·rw [decide_eq_true e,if_pos rfl]
   exact grow_ends g pass F I hg hI hp m (F x) (hI x hx) hs k (by omega)

end Go.Proofs.YtclollnicbcooaaGreatDoor.P

namespace Go.Proofs.YtclollnicbcooaaGreatDoor.P
open Go.RowKit Go.Proofs.YtclollnicbcooaaGreatDoorW.PrintWords Go.Proofs.YtclollnicbcooaaGreatDoorW.PrintLast Go.Proofs.YtclollnicbcooaaGreatDoorW.PrintMore Bitty

/-! ### sets of numbers below 64 -/
instance:Bitty Int where
 tb x b:=x.toNat.testBit b
 ok x:=0≤x∧x < 18446744073709551616
 ext:=fun {x y} hx hy h=>by
  have:=Nat.eq_of_testBit_eq h
  omega

theorem ok_zero:ok (0:Int):=⟨by omega,by omega⟩
theorem tb_zero (b:Nat):tb (0:Int) b=false:=Nat.zero_testBit b
theorem or_nat {x y:Int} (hx:ok x) (hy:ok y):Go.bits .or .u64 x y=((x.toNat ||| y.toNat:Nat):Int):=by
 have h1:x=((x.toNat:Nat):Int):=by have:=hx.1;omega
 have h2:y=((y.toNat:Nat):Int):=by have:=hy.1;omega
 have h3:=hx.2
 have h4:=hy.2
 generalize x.toNat=a at *
 generalize y.toNat=b at *
 subst h1
 subst h2
 exact bits_or_u64_nat a b (by omega) (by omega)
theorem or_ok {x y:Int} (hx:ok x) (hy:ok y):ok (Go.bits .or .u64 x y):=by
 rw [or_nat hx hy]
 have h3:=hx.2
 have h4:=hy.2
 have:=Nat.or_lt_two_pow (n:=64) (x:=x.toNat) (y:=y.toNat) (by omega) (by omega)
 exact ⟨by omega,by omega⟩
theorem or_tb {x y:Int} (hx:ok x) (hy:ok y) (b:Nat):tb (Go.bits .or .u64 x y) b=(tb x b || tb y b):=by
 rw [or_nat hx hy]
 show Nat.testBit (Int.toNat _) b=_
 rw [Int.toNat_natCast,Nat.testBit_or]
 rfl
theorem bit_some (n:Int) (h0:0≤n) (h1:n < 64):bits_bit.f n=some ((2 ^ n.toNat:Nat):Int):=by
 unfold bits_bit.f
 rw [if_neg (by omega),if_neg (by omega),if_pos h0]
 have hn:n.toNat < 64:=by omega
 have hp:2 ^ n.toNat < 18446744073709551616:=Nat.pow_lt_pow_right (by decide) hn
 unfold shl
 rw [show min n.toNat (IntKind.bits .u64)=n.toNat from Nat.min_eq_left (Nat.le_of_lt hn),IntKind.wrap_u64,Int.one_mul]
 have e:((2:Int) ^ n.toNat)=((2 ^ n.toNat:Nat):Int):=by simp
 rw [e]
 generalize 2 ^ n.toNat=p at hp
 congr 1
 omega
theorem bit_ok (n:Int) (h0:0≤n) (h1:n < 64):ok ((2 ^ n.toNat:Nat):Int):=by
 have hp:2 ^ n.toNat < 18446744073709551616:=Nat.pow_lt_pow_right (by decide) (by omega:n.toNat < 64)
 generalize 2 ^ n.toNat=q at hp ⊢
 exact ⟨by omega,by omega⟩
theorem bit_tb (n b:Nat):tb ((2 ^ n:Nat):Int) b=decide (n=b):=by
 show Nat.testBit (Int.toNat _) b=_
 rw [Int.toNat_natCast,Nat.testBit_two_pow]
theorem with_some (out n:Int) (h0:0≤n) (h1:n < 64):bits_With.f out n=some (Go.bits .or .u64 out ((2 ^ n.toNat:Nat):Int)):=by
 unfold bits_With.f
 rw [bit_some n h0 h1]
 rfl
theorem of_one (k:Nat) (hk:2≤k) (n:Int) (h0:0≤n) (h1:n < 64):bits_Of.f k [n]=some ((2 ^ n.toNat:Nat):Int):=by
 obtain ⟨k,rfl⟩:∃ j,k=j+2:=⟨k - 2,by omega⟩
 have e:rd [n] 0=n:=rfl
 have w1:wrap64 (0+1)=1:=by unfold wrap64;omega
 unfold bits_Of.f bits_Of.l0 bits_Of.l0
 simp only [List.length_cons,List.length_nil]
 rw [if_pos (by omega),if_pos (by omega),if_pos (by omega),e,bit_some n h0 h1,Option.bind_some,w1,if_neg (by omega),or_nat ok_zero (bit_ok n h0 h1)]
 have hp:Int.toNat ((2 ^ n.toNat:Nat):Int)=2 ^ n.toNat:=Int.toNat_natCast _
 rw [hp]
 simp

/-! ### rows -/
section
variable (nT nS:Int) (es:List Bool)
def rowB (fs:List Int) (behind:Int) (b:Nat):List Int→Bool
 | []=>tb behind b
 | s :: l=>if nT≤s ∨ s < -nS then false else if 0≤s then decide (s.toNat=b) else tb (rd fs (-1 - s)) b || (rdOf false es (-1 - s) && rowB fs behind b l)

theorem rowF_bits (hT:nT≤60) (fs:List Int) (behind:Int) (hfs:∀ i,ok (rd fs i)) (hb:ok behind):∀ (l:List Int) (out:Int),ok out →
  ∃ q,rowF nT nS es fs behind l out=some q∧ok q∧∀ b,tb q b=(tb out b || rowB nT nS es fs behind b l)
 | [],out,ho=>⟨_,rfl,or_ok ho hb,fun b=>or_tb ho hb b⟩
 | s :: l,out,ho=>by
  by_cases h1:nT≤s ∨ s < -nS
  ·refine ⟨out,by unfold rowF;rw [if_pos h1],ho,fun b=>?_⟩
   unfold rowB;rw [if_pos h1,Bool.or_false]
  ·by_cases h2:0≤s
   ·refine ⟨_,by unfold rowF;rw [if_neg h1,if_pos h2];exact with_some out s h2 (by omega),or_ok ho (bit_ok s h2 (by omega)),fun b=>?_⟩
    rw [or_tb ho (bit_ok s h2 (by omega)),bit_tb]
    unfold rowB;rw [if_neg h1,if_pos h2]
   ·have hu:bits_Union.f out (rd fs (-1 - s))=some (Go.bits .or .u64 out (rd fs (-1 - s))):=rfl
    have ho2:=or_ok ho (hfs (-1 - s))
    cases he:rdOf false es (-1 - s)
    ·refine ⟨_,by unfold rowF;rw [if_neg h1,if_neg h2,hu,Option.bind_some,he,if_neg (by decide)],ho2,fun b=>?_⟩
     rw [or_tb ho (hfs _)]
     unfold rowB;rw [if_neg h1,if_neg h2,he,Bool.false_and,Bool.or_false]
    ·obtain ⟨q,q1,q2,q3⟩:=rowF_bits hT fs behind hfs hb l _ ho2
     refine ⟨q,by unfold rowF;rw [if_neg h1,if_neg h2,hu,Option.bind_some,he,if_pos rfl];exact q1,q2,fun b=>?_⟩
     rw [q3,or_tb ho (hfs _)]
     conv=>rhs;unfold rowB
     rw [if_neg h1,if_neg h2,he,Bool.true_and,Bool.or_assoc]

def rowV (fs:List Int) (behind:Int) (l:List Int):Int:=(rowF nT nS es fs behind l 0).getD 0
theorem rowV_has (hT:nT≤60) (fs:List Int) (behind:Int) (hfs:∀ i,ok (rd fs i)) (hb:ok behind) (l:List Int) :
  rowF nT nS es fs behind l 0=some (rowV nT nS es fs behind l)∧ok (rowV nT nS es fs behind l)∧∀ b,tb (rowV nT nS es fs behind l) b=rowB nT nS es fs behind b l:=by
 obtain ⟨q,q1,q2,q3⟩:=rowF_bits nT nS es hT fs behind hfs hb l 0 ok_zero
 unfold rowV
 rw [q1]
 exact ⟨rfl,q2,fun b=>by rw [Option.getD_some,q3,tb_zero,Bool.false_or]⟩
theorem rowB_local (b:Nat) (fs gs:List Int) (u v:Int) (huv:tb u b=tb v b) (h:∀ i,tb (rd fs i) b=tb (rd gs i) b):∀ l,rowB nT nS es fs u b l=rowB nT nS es gs v b l
 | []=>huv
 | s :: l=>by unfold rowB;rw [h,rowB_local b fs gs u v huv h l]
end

theorem ok_rd {n:Nat} {xs:List Int} (h:okL n xs) (i:Int):ok (rd xs i):=by
 unfold rd
 by_cases hi:i.toNat < xs.length
 ·have e:xs.getD i.toNat 0=xs[i.toNat]:=by simp [List.getD,hi]
  rw [e];exact h.2 _ hi
 ·have e:xs.getD i.toNat 0=0:=by simp [List.getD,List.getElem?_eq_none (Nat.le_of_not_lt hi)]
  rw [e];exact ok_zero
theorem okL_zero (n:Nat):okL n (List.replicate n (0:Int)):=⟨List.length_replicate,fun i h=>by rw [List.getElem_replicate];exact ok_zero⟩
theorem okL_bool (n:Nat) (xs:List Bool) (h:xs.length=n):okL n xs:=⟨h,fun _ _=>trivial⟩

/-! ### the steps -/
theorem passG_run {β:Type} [DecidableEq β] (z:β) (more:List β→S68→β):∀ (ps:List S68) (st:List β × Bool),passG z more ps st=runF z (ps.map fun p=>(p.f1.toNat,fun xs=>more xs p)) st
 | [],_=>rfl
 | p :: ps,st=>passG_run z more ps _

theorem growG_ends {β:Type} [DecidableEq β] [Bitty β] (z:β) (more:List β→S68→β) (ps:List S68) (n:Nat) (xs:List β) (hx:okL n xs)
  (hg:Grows n (ps.map fun p=>(p.f1.toNat,fun xs=>more xs p))) (hl:Local n (ps.map fun p=>(p.f1.toNat,fun xs=>more xs p))) (hi:∀ p ∈ ps,p.f1.toNat < n) (k:Nat) (hk:n+1≤k) :
  growG z more ps k xs=some (iter (run (ps.map fun p=>(p.f1.toNat,fun xs=>more xs p))) n xs):=by
 refine grow_ends (growG z more ps) (fun xs=>passG z more ps (xs,false)) (run (ps.map fun p=>(p.f1.toNat,fun xs=>more xs p))) (okL n) (fun k x=>rfl) (fun x h=>(run_ok _ x hg h).1) (fun x h=>?_) n xs hx (run_stable _ xs hg hl hx) k hk
 rw [passG_run,runF_eq z _ x false hg (fun s hs=>?_) h,Bool.false_or]
 obtain ⟨p,hp,rfl⟩:=List.mem_map.1 hs
 exact hi p hp

theorem least {β:Type} [Bitty β] (z:β) {n:Nat} (ss:List (Nat × (List β→β))) (xs0:List β) (hg:Grows n ss) (hx:okL n xs0) (C:Nat→Nat→Prop)
  (h0:∀ i b,i < n→tb (xs0.getD i z) b=true→C i b) (hs:∀ s ∈ ss,∀ xs,okL n xs→(∀ i b,i < n→tb (xs.getD i z) b=true→C i b)→∀ b,tb (s.2 xs) b=true→C s.1 b) :
  ∀ (m:Nat) i b,i < n→tb ((iter (run ss) m xs0).getD i z) b=true→C i b:=fun m=>by
 have hall:∀ xs,okL n xs∧(∀ i b,i < n→tb (xs.getD i z) b=true→C i b)→okL n (run ss xs)∧(∀ i b,i < n→tb ((run ss xs).getD i z) b=true→C i b):=fun xs hxs =>
  run_inv (fun xs=>okL n xs∧(∀ i b,i < n→tb (xs.getD i z) b=true→C i b)) ss xs (fun s hs' xs h=>⟨(set_grow h.1 (hg s hs' xs h.1).1 (hg s hs' xs h.1).2).1,fun i b hi hb=>by
   have hlen:i < xs.length:=by rw [h.1.1];exact hi
   have e:(xs.set s.1 (s.2 xs)).getD i z=if s.1=i then s.2 xs else xs[i]:=by
    rw [List.getD,List.getElem?_eq_getElem (by rw [List.length_set];exact hlen),Option.getD_some,List.getElem_set]
   rw [e] at hb
   split at hb
   ·rename_i q;subst q;exact hs s hs' xs h.1 h.2 b hb
   ·refine h.2 i b hi ?_
    rw [List.getD,List.getElem?_eq_getElem hlen,Option.getD_some]
    exact hb⟩) hxs
 exact (iter_inv (run ss) (fun xs=>okL n xs∧(∀ i b,i < n→tb (xs.getD i z) b=true→C i b)) hall m xs0 ⟨hx,h0⟩).2

end Go.Proofs.YtclollnicbcooaaGreatDoor.P

namespace Go.Proofs.YtclollnicbcooaaGreatDoor.P
open Go.RowKit Go.Proofs.YtclollnicbcooaaGreatDoorW.PrintWords Go.Proofs.YtclollnicbcooaaGreatDoorW.PrintLast Go.Proofs.YtclollnicbcooaaGreatDoorW.PrintMore Bitty

structure Gram (nT nS:Nat) (ps:List S68):Prop where
 hT:nT≤60
 hS:nS≤60
 srt:∀ p ∈ ps,0≤p.f1∧p.f1 < nS
 sym:∀ p ∈ ps,∀ s ∈ p.f2, -(nS:Int)≤s∧s < nT

theorem gram_of {l0:List S65} {l1:List S73} {l2:List ByteArray} {l3:List S68} {st:Int} (h:validB l0 l1 l2 l3 st=true) (hr:∀ p ∈ l3,∀ s ∈ p.f2, -9223372036854775808≤s∧s≤9223372036854775807) :
  Gram l0.length l2.length l3∧0≤st∧st < l2.length:=by
 have hT:=valid_terms h
 obtain ⟨h0,h1,h2⟩:=valid_has h
 simp only [validB,Bool.and_eq_true,Bool.not_eq_true',decide_eq_false_iff_not,List.all_eq_true] at h
 obtain ⟨⟨⟨⟨⟨⟨⟨⟨-, -⟩, -⟩, -⟩, -⟩,h5⟩, -⟩, -⟩, -⟩:=h
 refine ⟨⟨by omega,by omega,fun p hp=>(h2 p hp).1,fun p hp s hs=>?_⟩,h1⟩
 have:=h5 p hp
 simp only [prodB,Bool.and_eq_true,Bool.not_eq_true',decide_eq_false_iff_not] at this
 obtain ⟨⟨h6,h7⟩,h8⟩:=this
 have h9:¬ oddB l0.length l2.length s=true:=fun ho=>by
  have:p.f2.any (oddB l0.length l2.length)=true:=List.any_eq_true.2 ⟨s,hs,ho⟩
  rw [h8] at this;cases this
 have hb:=hr p hp s hs
 by_cases hneg:s < 0
 ·have h10:=(h2 p hp).2 s hs hneg
  rw [IntWalk.i64_in _ (by omega)] at h10
  omega
 ·have hn:decide (0≤s)=true:=decide_eq_true (by omega)
  have hy:decide (s < 0)=false:=decide_eq_false hneg
  simp only [oddB,hn,hy,Bool.false_and,Bool.or_false,Bool.true_and,Bool.not_eq_true',Bool.not_eq_true,Bool.not_eq_false] at h9
  have h10:0≤s∧s < l0.length:=by simpa [inB] using h9
  omega

theorem wrap_neg {s:Int} (h0:-60≤s) (h1:s < 0):IntKind.i64.wrap (-1 - s)=-1 - s:=IntWalk.i64_in _ (by omega)

theorem local_bool {n:Nat} (ss:List (Nat × (List Bool→Bool))):Local n ss:=fun s _ b xs ys hx hy h=>by
 have:xs=ys:=List.ext_getElem (by rw [hx.1,hy.1]) fun i h1 h2=>h i h1 h2
 rw [this]

section
variable {nT nS:Nat} {ps:List S68} (hG:Gram nT nS ps)
include hG
theorem srt_lt (p:S68) (hp:p ∈ ps):p.f1.toNat < nS:=by have:=hG.srt p hp;omega
theorem sym_in (p:S68) (hp:p ∈ ps) (s:Int) (hs:s ∈ p.f2) (hn:s < 0):IntKind.i64.wrap (-1 - s)=-1 - s∧0≤-1 - s∧(-1 - s).toNat < nS:=by
 have h1:=hG.sym p hp s hs
 have h2:=hG.hS
 exact ⟨wrap_neg (by omega) hn,by omega,by omega⟩
end

theorem getD_at {β:Type} (z:β) (xs:List β) (i:Nat) (h:i < xs.length):xs.getD i z=xs[i]:=by rw [List.getD,List.getElem?_eq_getElem h,Option.getD_some]

/-! ### Empty, Lives -/
section
variable (term:Bool) {nT nS:Nat} {ps:List S68}
def allS (term:Bool) (ps:List S68):List (Nat × (List Bool→Bool)):=ps.map fun p=>(p.f1.toNat,fun xs=>moreB term xs p)
def allR (term:Bool) (nS:Nat) (ps:List S68):List Bool:=iter (run (allS term ps)) nS (List.replicate nS false)
theorem allS_grows:Grows nS (allS term ps):=fun s hs xs hx=>⟨trivial,fun h b hb=>by
 obtain ⟨p,hp,rfl⟩:=List.mem_map.1 hs
 have hb':xs[p.f1.toNat]=true:=hb
 show moreB term xs p=true
 unfold moreB
 split
 ·show xs.getD p.f1.toNat false=true
  rw [getD_at false xs _ h];exact hb'
 ·rfl⟩
theorem allR_len:(allR term nS ps).length=nS:=(iter_inv (run (allS term ps)) (okL nS) (fun x h=>(run_ok _ x (allS_grows term) h).1) nS _ (okL_bool _ _ List.length_replicate)).1
theorem allR_still:run (allS term ps) (allR term nS ps)=allR term nS ps:=run_stable _ _ (allS_grows term) (local_bool _) (okL_bool _ _ List.length_replicate)
variable (hG:Gram nT nS ps)
include hG
theorem allR_is (k:Nat) (hk:nS+1≤k):growG false (moreB term) ps k (List.replicate nS false)=some (allR term nS ps) :=
 growG_ends false (moreB term) ps nS _ (okL_bool _ _ List.length_replicate) (allS_grows term) (local_bool _) (srt_lt hG) k hk
theorem allR_closed (p:S68) (hp:p ∈ ps) (h:∀ s ∈ p.f2,(0≤s→term=true)∧(s < 0→rdOf false (allR term nS ps) (-1 - s)=true)):rdOf false (allR term nS ps) p.f1=true:=by
 have hlen:(allR term nS ps).length=nS:=allR_len term
 have h1:=run_still _ _ (allS_grows term) (okL_bool _ _ hlen) (allR_still term) (p.f1.toNat,fun xs=>moreB term xs p) (List.mem_map.2 ⟨p,hp,rfl⟩)
 have hlt:p.f1.toNat < (allR term nS ps).length:=by rw [hlen];exact srt_lt hG p hp
 have h2:=still_at h1 hlt
 show (allR term nS ps).getD p.f1.toNat false=true
 rw [getD_at false _ _ hlt,h2]
 show moreB term (allR term nS ps) p=true
 unfold moreB
 rw [if_neg]
 intro ha
 obtain ⟨s,hs,hbad⟩:=List.any_eq_true.1 ha
 have h3:=h s hs
 by_cases hn:s < 0
 ·rw [badB,(sym_in hG p hp s hs hn).1,h3.2 hn,decide_eq_false (by omega:¬ 0≤s)] at hbad
  simp at hbad
 ·rw [badB,h3.1 (by omega),decide_eq_false hn] at hbad
  simp at hbad
theorem allR_least (C:Nat→Prop) (h:∀ p ∈ ps,(∀ s ∈ p.f2,(0≤s→term=true)∧(s < 0→C (-1 - s).toNat))→C p.f1.toNat) (i:Nat) (hi:i < nS) (hr:(allR term nS ps).getD i false=true):C i:=by
 refine least false (allS term ps) (List.replicate nS false) (allS_grows term) (okL_bool _ _ List.length_replicate) (fun i _=>C i) (fun i b hi hb=>?_) (fun s hs xs hx hxs b hb=>?_) nS i 0 hi hr
 ·have e:(List.replicate nS false).getD i false=false:=by rw [getD_at false _ i (by rw [List.length_replicate];exact hi),List.getElem_replicate]
  rw [e] at hb;cases hb
 ·obtain ⟨p,hp,rfl⟩:=List.mem_map.1 hs
  have hb':moreB term xs p=true:=hb
  unfold moreB at hb'
  split at hb'
  ·exact hxs p.f1.toNat 0 (srt_lt hG p hp) hb'
  ·rename_i ha
   refine h p hp fun s hs=>?_
   have hbad:badB term xs s=false:=by
    cases q:badB term xs s
    ·rfl
    ·exact absurd (List.any_eq_true.2 ⟨s,hs,q⟩) ha
   refine ⟨fun h0=>?_,fun h0=>?_⟩
   ·rw [badB,decide_eq_true h0,decide_eq_false (by omega:¬ s < 0)] at hbad
    simpa using hbad
   ·obtain ⟨e1,e2,e3⟩:=sym_in hG p hp s hs h0
    rw [badB,e1,decide_eq_false (by omega:¬ 0≤s),decide_eq_true h0] at hbad
    have hbad':rdOf false xs (-1 - s)=true:=by simpa using hbad
    exact hxs _ 0 e3 hbad'
end

/-! ### First -/
section
variable {nT nS:Nat} {es:List Bool} {ps:List S68}
def firS (nT nS:Nat) (es:List Bool) (ps:List S68):List (Nat × (List Int→Int)):=ps.map fun p=>(p.f1.toNat,fun xs=>moreS nT nS es xs p)
def firR (nT nS:Nat) (es:List Bool) (ps:List S68):List Int:=iter (run (firS nT nS es ps)) nS (List.replicate nS 0)
theorem moreS_has (hT:nT≤60) (xs:List Int) (hx:okL nS xs) (p:S68):ok (moreS nT nS es xs p)∧∀ b,tb (moreS nT nS es xs p) b=(tb (rdOf 0 xs p.f1) b || rowB nT nS es xs 0 b p.f2):=by
 obtain ⟨r1,r2,r3⟩:=rowV_has nT nS es (by omega) xs 0 (ok_rd hx) ok_zero p.f2
 have h0:ok (rdOf 0 xs p.f1):=ok_rd hx p.f1
 have e:moreS nT nS es xs p=Go.bits .or .u64 (rdOf 0 xs p.f1) (rowV nT nS es xs 0 p.f2):=rfl
 rw [e]
 exact ⟨or_ok h0 r2,fun b=>by rw [or_tb h0 r2,r3]⟩
theorem firS_grows (hT:nT≤60):Grows nS (firS nT nS es ps):=fun s hs xs hx=>by
 obtain ⟨p,hp,rfl⟩:=List.mem_map.1 hs
 obtain ⟨h1,h2⟩:=moreS_has (es:=es) hT xs hx p
 refine ⟨h1,fun h b hb=>?_⟩
 have e:rdOf 0 xs p.f1=xs[p.f1.toNat]:=getD_at 0 xs _ h
 rw [h2,e,hb,Bool.true_or]
theorem rd_local {n b:Nat} {xs ys:List Int} (hx:okL n xs) (hy:okL n ys) (h:∀ i (h:i < xs.length) (h':i < ys.length),tb xs[i] b=tb ys[i] b) (i:Int):tb (rd xs i) b=tb (rd ys i) b:=by
 unfold rd
 by_cases hi:i.toNat < n
 ·have h1:i.toNat < xs.length:=by rw [hx.1];exact hi
  have h2:i.toNat < ys.length:=by rw [hy.1];exact hi
  rw [getD_at 0 xs _ h1,getD_at 0 ys _ h2];exact h _ h1 h2
 ·have h1:xs.length≤i.toNat:=by rw [hx.1];omega
  have h2:ys.length≤i.toNat:=by rw [hy.1];omega
  simp [List.getD,List.getElem?_eq_none h1,List.getElem?_eq_none h2]
theorem firS_local (hT:nT≤60):Local nS (firS nT nS es ps):=fun s hs b xs ys hx hy h=>by
 obtain ⟨p,hp,rfl⟩:=List.mem_map.1 hs
 show tb (moreS nT nS es xs p) b=tb (moreS nT nS es ys p) b
 rw [(moreS_has hT xs hx p).2,(moreS_has hT ys hy p).2,show tb (rdOf 0 xs p.f1) b=tb (rdOf 0 ys p.f1) b from rd_local hx hy h p.f1,rowB_local nT nS es b xs ys 0 0 rfl (rd_local hx hy h)]
variable (hG:Gram nT nS ps)
include hG
theorem firR_is (k:Nat) (hk:nS+1≤k):growG (0:Int) (moreS nT nS es) ps k (List.replicate nS 0)=some (firR nT nS es ps) :=
 growG_ends 0 (moreS nT nS es) ps nS _ (okL_zero nS) (firS_grows hG.hT) (firS_local hG.hT) (srt_lt hG) k hk
theorem firR_ok:okL nS (firR nT nS es ps):=iter_inv (run (firS nT nS es ps)) (okL nS) (fun x h=>(run_ok _ x (firS_grows hG.hT) h).1) nS _ (okL_zero nS)
theorem firR_still:run (firS nT nS es ps) (firR nT nS es ps)=firR nT nS es ps:=run_stable _ _ (firS_grows hG.hT) (firS_local hG.hT) (okL_zero nS)
theorem firR_closed (p:S68) (hp:p ∈ ps) (b:Nat) (h:rowB nT nS es (firR nT nS es ps) 0 b p.f2=true):tb (rd (firR nT nS es ps) p.f1) b=true:=by
 have hok:okL nS (firR nT nS es ps):=firR_ok hG
 have h1:=run_still _ _ (firS_grows hG.hT) hok (firR_still hG) (p.f1.toNat,fun xs=>moreS nT nS es xs p) (List.mem_map.2 ⟨p,hp,rfl⟩)
 have hlt:p.f1.toNat < (firR nT nS es ps).length:=by rw [hok.1];exact srt_lt hG p hp
 have h2:(firR nT nS es ps)[p.f1.toNat]=moreS nT nS es (firR nT nS es ps) p:=still_at h1 hlt
 show tb ((firR nT nS es ps).getD p.f1.toNat 0) b=true
 rw [getD_at 0 _ _ hlt,h2,(moreS_has hG.hT _ hok p).2,h,Bool.or_true]
end

end Go.Proofs.YtclollnicbcooaaGreatDoor.P

namespace Go.Proofs.YtclollnicbcooaaGreatDoor.P
open Go.RowKit Go.Proofs.YtclollnicbcooaaGreatDoorW.PrintWords Go.Proofs.YtclollnicbcooaaGreatDoorW.PrintLast Go.Proofs.YtclollnicbcooaaGreatDoorW.PrintMore Bitty

section
variable (nT nS:Int) (es:List Bool) (fs:List Int)
def symS (srt:Int):List Int→List (Nat × (List Int→Int))
 | []=>[]
 | s :: l=>if 0≤s then symS srt l else ((IntKind.i64.wrap (-1 - s)).toNat,fun out=>folMore nT nS es fs srt s l out) :: symS srt l
def folS (ps:List S68):List (Nat × (List Int→Int)):=ps.flatMap fun p=>symS nT nS es fs p.f1 p.f2
theorem symS_mem (srt:Int):∀ (l:List Int) (x:Nat × (List Int→Int)),x ∈ symS nT nS es fs srt l ↔ ∃ a s l',l=a ++ s :: l'∧s < 0∧x=((IntKind.i64.wrap (-1 - s)).toNat,fun out=>folMore nT nS es fs srt s l' out)
 | [],x=>by simp [symS]
 | s :: l,x=>by
  have ih:=symS_mem srt l x
  unfold symS
  constructor
  ·intro h
   by_cases h0:0≤s
   ·rw [if_pos h0] at h
    obtain ⟨a,s',l',e,h1,h2⟩:=ih.1 h
    exact ⟨s :: a,s',l',by rw [e];rfl,h1,h2⟩
   ·rw [if_neg h0] at h
    rcases List.mem_cons.1 h with h | h
    ·exact ⟨[],s,l,rfl,by omega,h⟩
    ·obtain ⟨a,s',l',e,h1,h2⟩:=ih.1 h
     exact ⟨s :: a,s',l',by rw [e];rfl,h1,h2⟩
  ·rintro ⟨a,s',l',e,h1,h2⟩
   cases a with
   | nil =>
    have e1:s=s':=by simpa using (List.cons.inj e).1
    have e2:l=l':=(List.cons.inj e).2
    subst e1
    subst e2
    rw [if_neg (by omega),h2]
    exact List.mem_cons_self
   | cons y a =>
    have e2:l=a ++ s' :: l':=(List.cons.inj e).2
    have h3:=ih.2 ⟨a,s',l',e2,h1,h2⟩
    split
    ·exact h3
    ·exact List.mem_cons_of_mem _ h3
theorem folS_mem (ps:List S68) (x:Nat × (List Int→Int)):x ∈ folS nT nS es fs ps ↔ ∃ p ∈ ps,∃ a s l,p.f2=a ++ s :: l∧s < 0∧x=((IntKind.i64.wrap (-1 - s)).toNat,fun out=>folMore nT nS es fs p.f1 s l out):=by
 simp only [folS,List.mem_flatMap,symS_mem]
end

section
variable {nT nS:Nat} {es:List Bool} {fs:List Int} {ps:List S68} {st:Int}
theorem folMore_has (hT:nT≤60) (hf:okL nS fs) (srt s:Int) (l:List Int) (xs:List Int) (hx:okL nS xs):ok (folMore nT nS es fs srt s l xs)∧∀ b,tb (folMore nT nS es fs srt s l xs) b=(tb (rd xs (IntKind.i64.wrap (-1 - s))) b || rowB nT nS es fs (rd xs srt) b l):=by
 have h0:ok (rd xs (IntKind.i64.wrap (-1 - s))):=ok_rd hx _
 have h1:ok (rd xs srt):=ok_rd hx _
 obtain ⟨r1,r2,r3⟩:=rowV_has nT nS es (by omega) fs (rd xs srt) (ok_rd hf) h1 l
 have e:folMore nT nS es fs srt s l xs=Go.bits .or .u64 (rd xs (IntKind.i64.wrap (-1 - s))) (rowV nT nS es fs (rd xs srt) l):=rfl
 rw [e]
 exact ⟨or_ok h0 r2,fun b=>by rw [or_tb h0 r2,r3]⟩
theorem folS_grows (hT:nT≤60) (hf:okL nS fs):Grows nS (folS nT nS es fs ps):=fun x hx xs hxs=>by
 obtain ⟨p,hp,a,s,l,e,hs,rfl⟩:=(folS_mem _ _ _ _ _ _).1 hx
 obtain ⟨h1,h2⟩:=folMore_has (es:=es) hT hf p.f1 s l xs hxs
 refine ⟨h1,fun h b hb=>?_⟩
 have e2:rd xs (IntKind.i64.wrap (-1 - s))=xs[(IntKind.i64.wrap (-1 - s)).toNat]:=getD_at 0 xs _ h
 rw [h2,e2,hb,Bool.true_or]
theorem folS_local (hT:nT≤60) (hf:okL nS fs):Local nS (folS nT nS es fs ps):=fun x hx b xs ys hxs hys h=>by
 obtain ⟨p,hp,a,s,l,e,hs,rfl⟩:=(folS_mem _ _ _ _ _ _).1 hx
 show tb (folMore nT nS es fs p.f1 s l xs) b=tb (folMore nT nS es fs p.f1 s l ys) b
 rw [(folMore_has hT hf p.f1 s l xs hxs).2,(folMore_has hT hf p.f1 s l ys hys).2,rd_local hxs hys h,rowB_local nT nS es b fs fs (rd xs p.f1) (rd ys p.f1) (rd_local hxs hys h p.f1) (fun _=>rfl)]
def fol0 (nS:Nat) (st:Int):List Int:=(List.replicate nS 0).set st.toNat ((2 ^ 63:Nat):Int)
def folR (nT nS:Nat) (es:List Bool) (fs:List Int) (ps:List S68) (st:Int):List Int:=iter (run (folS nT nS es fs ps)) nS (fol0 nS st)
theorem fol0_ok:okL nS (fol0 nS st):=by
 refine ⟨by rw [fol0,List.length_set,List.length_replicate],fun i h=>?_⟩
 simp only [fol0,List.getElem_set]
 split
 ·exact ⟨by decide,by decide⟩
 ·rw [List.getElem_replicate];exact ok_zero
variable (hG:Gram nT nS ps) (hf:okL nS fs)
include hG hf
theorem folR_ok:okL nS (folR nT nS es fs ps st):=iter_inv (run (folS nT nS es fs ps)) (okL nS) (fun x h=>(run_ok _ x (folS_grows hG.hT hf) h).1) nS _ fol0_ok
theorem folR_still:run (folS nT nS es fs ps) (folR nT nS es fs ps st)=folR nT nS es fs ps st:=run_stable _ _ (folS_grows hG.hT hf) (folS_local hG.hT hf) fol0_ok
theorem folR_closed (p:S68) (hp:p ∈ ps) (a:List Int) (s:Int) (l:List Int) (e:p.f2=a ++ s :: l) (hn:s < 0) (b:Nat) (h:rowB nT nS es fs (rd (folR nT nS es fs ps st) p.f1) b l=true):tb (rd (folR nT nS es fs ps st) (-1 - s)) b=true:=by
 have hok:okL nS (folR nT nS es fs ps st):=folR_ok hG hf
 obtain ⟨e1,e2,e3⟩:=sym_in hG p hp s (by rw [e];simp) hn
 have h1:=run_still _ _ (folS_grows hG.hT hf) hok (folR_still hG hf) ((IntKind.i64.wrap (-1 - s)).toNat,fun out=>folMore nT nS es fs p.f1 s l out) ((folS_mem _ _ _ _ _ _).2 ⟨p,hp,a,s,l,e,hn,rfl⟩)
 have hlt:(IntKind.i64.wrap (-1 - s)).toNat < (folR nT nS es fs ps st).length:=by rw [hok.1,e1];exact e3
 have h2:(folR nT nS es fs ps st)[(IntKind.i64.wrap (-1 - s)).toNat]=folMore nT nS es fs p.f1 s l (folR nT nS es fs ps st):=still_at h1 hlt
 have e4:rd (folR nT nS es fs ps st) (-1 - s)=(folR nT nS es fs ps st)[(IntKind.i64.wrap (-1 - s)).toNat]:=by
  rw [← getD_at 0 _ _ hlt,e1];rfl
 rw [e4,h2,(folMore_has hG.hT hf p.f1 s l _ hok).2,h,Bool.or_true]
theorem folR_start (h0:0≤st) (h1:st < nS):tb (rd (folR nT nS es fs ps st) st) 63=true:=by
 have hle:okL nS (folR nT nS es fs ps st)∧leL (fol0 nS st) (folR nT nS es fs ps st) :=
  iter_inv (run (folS nT nS es fs ps)) (fun x=>okL nS x∧leL (fol0 nS st) x) (fun x h=>⟨(run_ok _ x (folS_grows hG.hT hf) h.1).1,leL_trans h.2 (run_ok _ x (folS_grows hG.hT hf) h.1).2⟩) nS _ ⟨fol0_ok,leL_refl _⟩
 have q1:st.toNat < (fol0 nS st).length:=by rw [fol0_ok.1];omega
 have q2:st.toNat < (folR nT nS es fs ps st).length:=by rw [hle.1.1];omega
 have:=hle.2.2 st.toNat q1 q2 63
 have e:rd (folR nT nS es fs ps st) st=(folR nT nS es fs ps st)[st.toNat]:=getD_at 0 _ _ q2
 rw [e]
 refine this ?_
 have e3:(fol0 nS st)[st.toNat]=((2 ^ 63:Nat):Int):=by simp [fol0]
 rw [e3,bit_tb];rfl
end

end Go.Proofs.YtclollnicbcooaaGreatDoor.P

namespace Go.Proofs.YtclollnicbcooaaGreatDoor.P
open Go.RowKit Go.Proofs.YtclollnicbcooaaGreatDoorW.PrintWords Go.Proofs.YtclollnicbcooaaGreatDoorW.PrintLast Go.Proofs.YtclollnicbcooaaGreatDoorW.PrintMore Bitty

structure Order (l0:List S65) (l1:List S73) (l2:List ByteArray) (l3:List S68) (st:Int):Prop where
 valid:validB l0 l1 l2 l3 st=true
 gram:Gram l0.length l2.length l3
 lo:0≤st
 hi:st < l2.length
theorem order_of {l0:List S65} {l1:List S73} {l2:List ByteArray} {l3:List S68} {st:Int} (h:validB l0 l1 l2 l3 st=true) (hr:∀ p ∈ l3,∀ s ∈ p.f2, -9223372036854775808≤s∧s≤9223372036854775807):Order l0 l1 l2 l3 st :=
 ⟨h,(gram_of h hr).1,(gram_of h hr).2.1,(gram_of h hr).2.2⟩

def eR (l2:List ByteArray) (l3:List S68):List Bool:=allR false l2.length l3
def lR (l2:List ByteArray) (l3:List S68):List Bool:=allR true l2.length l3
def fR (l0:List S65) (l2:List ByteArray) (l3:List S68):List Int:=firR l0.length l2.length (eR l2 l3) l3
def wR (l0:List S65) (l2:List ByteArray) (l3:List S68) (st:Int):List Int:=folR l0.length l2.length (eR l2 l3) (fR l0 l2 l3) l3 st
def oR (l0:List S65) (l2:List ByteArray) (l3:List S68) (l:List Int) (behind:Int):Int:=rowV l0.length l2.length (eR l2 l3) (fR l0 l2 l3) behind l

section
variable {l0:List S65} {l1:List S73} {l2:List ByteArray} {l3:List S68} {st:Int} (h:Order l0 l1 l2 l3 st)
include h
theorem Empty_is (k:Nat) (hk:61≤k):sets_Empty.f k l0 l1 l2 l3 st=some (eR l2 l3):=by
 have:=h.gram.hS
 unfold sets_Empty.f sets_all.f
 rw [if_pos h.valid,allR_is false h.gram k (by omega)]
 rfl
theorem fR_ok:okL l2.length (fR l0 l2 l3):=firR_ok h.gram
theorem oR_has (l:List Int) (behind:Int) (hb:ok behind):rowF l0.length l2.length (eR l2 l3) (fR l0 l2 l3) behind l 0=some (oR l0 l2 l3 l behind)∧ok (oR l0 l2 l3 l behind) ∧
  ∀ b,tb (oR l0 l2 l3 l behind) b=rowB l0.length l2.length (eR l2 l3) (fR l0 l2 l3) behind b l :=
 rowV_has _ _ _ (by have:=h.gram.hT;omega) _ _ (ok_rd (fR_ok h)) hb l
theorem Of_is (l:List Int) (behind:Int) (hb:ok behind) (k:Nat) (hk:61≤k):sets_Of.f k l0 l1 l2 l3 st l behind=some (oR l0 l2 l3 l behind):=by
 have:=h.gram.hS
 unfold sets_Of.f
 rw [if_pos h.valid,Empty_is h k hk,Option.bind_some,firR_is h.gram k (by omega),Option.bind_some]
 exact (oR_has h l behind hb).1
end

section
variable {l0:List S65} {l1:List S73} {l2:List ByteArray} {l3:List S68} {st:Int} (h:validB l0 l1 l2 l3 st=false)
include h
end

/-! ### rows -/
section
variable {l0:List S65} {l1:List S73} {l2:List ByteArray} {l3:List S68} {st:Int} (h:Order l0 l1 l2 l3 st)
include h
theorem oR_nil (behind:Int) (hb:ok behind):oR l0 l2 l3 [] behind=behind:=Bitty.ext (oR_has h [] behind hb).2.1 hb fun b=>by rw [(oR_has h [] behind hb).2.2];rfl
end

end Go.Proofs.YtclollnicbcooaaGreatDoor.P

namespace Go.Proofs.YtclollnicbcooaaGreatDoor.P
open Go.RowKit Go.Proofs.YtclollnicbcooaaGreatDoorW.PrintWords Go.Proofs.YtclollnicbcooaaGreatDoorW.PrintLast Go.Proofs.YtclollnicbcooaaGreatDoorW.PrintMore Bitty

theorem row_begins (l0:List S65) (l2:List ByteArray) (l3:List S68):∀ (l:List Int),(∀ s ∈ l, -(l2.length:Int)≤s∧s < l0.length)→(∀ s ∈ l,s < 0→rdOf false (eR l2 l3) (-1 - s)=true ∨ ∃ b,tb (rd (fR l0 l2 l3) (-1 - s)) b=true) →
  (∀ s ∈ l,s < 0∧rdOf false (eR l2 l3) (-1 - s)=true) ∨ ∃ b,rowB l0.length l2.length (eR l2 l3) (fR l0 l2 l3) 0 b l=true
 | [],_,_=>.inl (by simp)
 | s :: l,hr,hc=>by
  have h1:=hr s (by simp)
  have hno:¬ ((l0.length:Int)≤s ∨ s < -(l2.length:Int)):=by omega
  by_cases h0:0≤s
  ·exact .inr ⟨s.toNat,by unfold rowB;rw [if_neg hno,if_pos h0];simp⟩
  ·rcases hc s (by simp) (by omega) with he | ⟨b,hb⟩
   ·rcases row_begins l0 l2 l3 l (fun t ht=>hr t (by simp [ht])) (fun t ht=>hc t (by simp [ht])) with h2 | ⟨b,hb⟩
    ·refine .inl fun t ht=>?_
     rcases List.mem_cons.1 ht with rfl | ht
     ·exact ⟨by omega,he⟩
     ·exact h2 t ht
    ·exact .inr ⟨b,by unfold rowB;rw [if_neg hno,if_neg h0,he,hb];simp⟩
   ·exact .inr ⟨b,by unfold rowB;rw [if_neg hno,if_neg h0,hb];simp⟩

section
variable {l0:List S65} {l1:List S73} {l2:List ByteArray} {l3:List S68} {st:Int} (h:Order l0 l1 l2 l3 st)
include h
theorem lives_begins (i:Nat) (hi:i < l2.length) (hl:(lR l2 l3).getD i false=true):(eR l2 l3).getD i false=true ∨ ∃ b,tb ((fR l0 l2 l3).getD i 0) b=true:=by
 refine allR_least true h.gram (fun i=>(eR l2 l3).getD i false=true ∨ ∃ b,tb ((fR l0 l2 l3).getD i 0) b=true) (fun p hp hs=>?_) i hi hl
 rcases row_begins l0 l2 l3 p.f2 (h.gram.sym p hp) (fun s hs' hn=>(hs s hs').2 hn) with h2 | ⟨b,hb⟩
 ·exact .inl (allR_closed false h.gram p hp fun s hs'=>⟨fun h0=>by have:=(h2 s hs').1;omega,fun _=>(h2 s hs').2⟩)
 ·exact .inr ⟨b,firR_closed h.gram p hp b hb⟩
end

end Go.Proofs.YtclollnicbcooaaGreatDoor.P

namespace Go.Proofs.YtclollnicbcooaaGreatDoor.P
open Go.RowKit Go.Proofs.YtclollnicbcooaaGreatDoorW.PrintWords Go.Proofs.YtclollnicbcooaaGreatDoorW.PrintLast Go.Proofs.YtclollnicbcooaaGreatDoorW.PrintMore Bitty

theorem rowB_mono (nT nS:Int) (es es':List Bool) (fs fs':List Int) (u v:Int) (b:Nat) (he:∀ i,rdOf false es i=true→rdOf false es' i=true) (hf:∀ i,tb (rd fs i) b=true→tb (rd fs' i) b=true) (hu:tb u b=true→tb v b=true) :
  ∀ l,rowB nT nS es fs u b l=true→rowB nT nS es' fs' v b l=true
 | [],h=>hu h
 | s :: l,h=>by
  unfold rowB at h ⊢
  by_cases h1:nT≤s ∨ s < -nS
  ·rw [if_pos h1] at h;cases h
  ·rw [if_neg h1] at h ⊢
   by_cases h2:0≤s
   ·rw [if_pos h2] at h ⊢;exact h
   ·rw [if_neg h2] at h ⊢
    rw [Bool.or_eq_true,Bool.and_eq_true] at h ⊢
    rcases h with h | ⟨h3,h4⟩
    ·exact .inl (hf _ h)
    ·exact .inr ⟨he _ h3,rowB_mono nT nS es es' fs fs' u v b he hf hu l h4⟩

section
variable {l0:List S65} {l1 l1':List S73} {l2:List ByteArray} {l3 l3':List S68} {st:Int} (h:Order l0 l1 l2 l3 st) (h':Order l0 l1' l2 l3' st) (hsub:∀ p ∈ l3,p ∈ l3')
include h h' hsub
end

end Go.Proofs.YtclollnicbcooaaGreatDoor.P
end
namespace Go.Proofs.YtclollnicbcooaaGreatDoor.P
open Go.RowKit Go.Lib Go.Sort YtclollnicbcooaaGreatDoorW.PrintWords YtclollnicbcooaaGreatDoorW.PrintLast YtclollnicbcooaaGreatDoorW.PrintMore St Base Bitty
section
def holes (F:Spt→Int) (x:Spt):Nat:=((List.range 64).filter fun b=>!tb (F x) b).length
def cnt (U:List Spt) (F:Spt→Int):Nat:=(U.map (holes F)).sum
theorem holes_again {F G:Spt→Int} {x:Spt} (h:∀ b,tb (F x) b=true→tb (G x) b=true):(List.range 64).filter (fun b=>!tb (G x) b)=((List.range 64).filter (fun b=>!tb (F x) b)).filter (fun b=>!tb (G x) b):=by
 rw [List.filter_filter]
 congr 1
 funext b
 cases hg:tb (G x) b
 ·cases hf:tb (F x) b
  ·rfl
  ·rw [h b hf] at hg;cases hg
 ·simp
theorem holes_le {F G:Spt→Int} {x:Spt} (h:∀ b,tb (F x) b=true→tb (G x) b=true):holes G x≤holes F x:=by
 unfold holes
 rw [holes_again h]
 exact List.length_filter_le _ _
theorem holes_lt {F G:Spt→Int} {x:Spt} {b:Nat} (h:∀ b,tb (F x) b=true→tb (G x) b=true) (hb:b < 64) (h1:tb (G x) b=true) (h0:tb (F x) b=false):holes G x < holes F x:=by
 unfold holes
 rw [holes_again h]
 exact List.length_filter_lt_length_iff_exists.2 ⟨b,List.mem_filter.2 ⟨List.mem_range.2 hb,by rw [h0];rfl⟩,by rw [h1];simp⟩
theorem holes_64 (F:Spt→Int) (x:Spt):holes F x≤64:=by
 unfold holes
 exact Nat.le_trans (List.length_filter_le _ _) (by simp)
theorem cnt_cons (x:Spt) (U:List Spt) (F:Spt→Int):cnt (x :: U) F=holes F x+cnt U F:=by simp [cnt]
theorem cnt_64 (F:Spt→Int):∀ U:List Spt,cnt U F≤64 * U.length
 | []=>by simp [cnt]
 | x :: U=>by
  rw [cnt_cons,List.length_cons]
  have:=holes_64 F x
  have:=cnt_64 F U
  omega
theorem cnt_le {F G:Spt→Int} (h:∀ x b,tb (F x) b=true→tb (G x) b=true):∀ U:List Spt,cnt U G≤cnt U F
 | []=>Nat.le_refl _
 | x :: U=>by
  rw [cnt_cons,cnt_cons]
  have:=holes_le (h x)
  have:=cnt_le h U
  omega
theorem cnt_lt {F G:Spt→Int} (h:∀ x b,tb (F x) b=true→tb (G x) b=true) {s:Spt} {b:Nat} (hb:b < 64) (h1:tb (G s) b=true) (h0:tb (F s) b=false):∀ U:List Spt,s ∈ U→cnt U G < cnt U F
 | [],hs=>by cases hs
 | x :: U,hs=>by
  rw [cnt_cons,cnt_cons]
  rcases List.mem_cons.1 hs with e | hs
  ·subst e
   have:=holes_lt (h s) hb h1 h0
   have:=cnt_le h U
   omega
  ·have:=holes_le (h x)
   have:=cnt_lt h hb h1 h0 U hs
   omega
theorem tb_64 {x:Int} (hx:ok x) {b:Nat} (h:tb x b=true):b < 64:=by
 refine Classical.byContradiction fun hn=>?_
 have h1:x.toNat < 2 ^ b:=Nat.lt_of_lt_of_le (show x.toNat < 2 ^ 64 by have:=hx.2;have:=hx.1;omega) (Nat.pow_le_pow_right (by decide) (by omega))
 have h2:x.toNat.testBit b=false:=Nat.testBit_lt_two_pow h1
 have h3:x.toNat.testBit b=true:=h
 rw [h2] at h3
 cases h3
theorem tb_ne {x:Int} (hx:ok x) (h:x≠0):∃ b,tb x b=true :=
 Classical.byContradiction fun hn=>h (Bitty.ext hx ok_zero fun b=>by
  rw [tb_zero]
  cases hb:tb x b
  ·rfl
  ·exact absurd ⟨b,hb⟩ hn)
theorem tb_pos {x:Int} {b:Nat} (h:tb x b=true):x≠0:=fun e=>by rw [e,tb_zero] at h;cases h

theorem more_is (U:List Spt) {F:Spt→Int} (q:List Spt) {s:Spt} {t:Int} (hF:∀ x,ok (F x)) (ht:ok t) (hs:s ∈ U) :
  ∃ G q',moreL F q s t=(G,q')∧(∀ x,ok (G x))∧(∀ x b,tb (G x) b=(tb (F x) b || (decide (x=s) && tb t b)))∧(∀ x ∈ q,x ∈ q')∧(∀ x ∈ q',x ∈ q ∨ x=s)∧(∀ x,x ∉ q'→G x=F x)∧cnt U G+q'.length≤cnt U F+q.length:=by
 have ho:=or_ok (hF s) ht
 have hb:=or_tb (hF s) ht
 unfold moreL
 by_cases h:Go.bits .or .u64 (F s) t=F s
 ·rw [if_pos h]
  refine ⟨F,q,rfl,hF,fun x b=>?_,fun x hx=>hx,fun x hx=>.inl hx,fun x _=>rfl,Nat.le_refl _⟩
  by_cases hx:x=s
  ·subst hx
   have:=hb b
   rw [h] at this
   rw [decide_eq_true rfl,Bool.true_and]
   exact this
  ·rw [decide_eq_false hx,Bool.false_and,Bool.or_false]
 ·rw [if_neg h]
  generalize Go.bits .or .u64 (F s) t=u at *
  have hG:∀ x b,tb (upd F s u x) b=(tb (F x) b || (decide (x=s) && tb t b)):=fun x b=>by
   by_cases hx:x=s
   ·subst hx
    rw [upd_same,hb,decide_eq_true rfl,Bool.true_and]
   ·rw [upd_other F u hx,decide_eq_false hx,Bool.false_and,Bool.or_false]
  have hle:∀ x b,tb (F x) b=true→tb (upd F s u x) b=true:=fun x b e=>by rw [hG,e,Bool.true_or]
  refine ⟨upd F s u,q ++ [s],rfl,fun x=>?_,hG,fun x hx=>List.mem_append_left _ hx,fun x hx=>?_,fun x hx=>?_, ?_⟩
  ·by_cases hx:x=s
   ·subst hx;rw [upd_same];exact ho
   ·rw [upd_other F u hx];exact hF x
  ·rcases List.mem_append.1 hx with hx | hx
   ·exact .inl hx
   ·exact .inr (List.mem_singleton.1 hx)
  ·exact upd_other F u fun e=>hx (List.mem_append_right _ (List.mem_singleton.2 e))
  ·obtain ⟨b,h1,h0⟩:∃ b,tb u b=true∧tb (F s) b=false:=Classical.byContradiction fun hn=>h (Bitty.ext ho (hF s) fun b=>by
    cases hu:tb u b
    ·cases hf:tb (F s) b
     ·rfl
     ·have:=hb b
      rw [hu,hf] at this
      cases this
    ·cases hf:tb (F s) b
     ·exact absurd ⟨b,hu,hf⟩ hn
     ·rfl)
   have:=cnt_lt hle (tb_64 ho h1) (by rw [upd_same];exact h1) h0 U hs
   rw [List.length_append,List.length_singleton]
   omega

section
variable {ofF:List Int→Int→Option Int} {ed:Spt→Option (List Edg)} {I:Spt→Prop} {U:List Spt} {Z:Spt→Nat→Prop}
def EdgeOk (ofF:List Int→Int→Option Int) (I:Spt→Prop) (Z:Spt→Nat→Prop) (s:Spt) (e:Edg):Prop:=I e.1∧∀ v,ok v→∃ t,ofF e.2 v=some t∧ok t∧((∀ b,tb v b=true→Z s b)→∀ b,tb t b=true→Z e.1 b)
theorem fold_ok (hU:∀ s,I s→s ∈ U) (hR:∀ s,I s→rngS s) (s:Spt):∀ (es:List Edg) (F:Spt→Int) (q:List Spt),(∀ e ∈ es,EdgeOk ofF I Z s e)→(∀ x,ok (F x))→(∀ x ∈ q,I x)→(∀ x b,tb (F x) b=true→Z x b)→cnt U F+q.length≤1000000000 →
  ∃ G q',foldE ofF s es (F,q)=some (G,q')∧(∀ x,ok (G x))∧(∀ x ∈ q',I x)∧(∀ x b,tb (G x) b=true→Z x b)∧cnt U G+q'.length≤cnt U F+q.length∧(∀ x ∈ q,x ∈ q')∧(∀ x b,tb (F x) b=true→tb (G x) b=true)∧(∀ x,x ∉ q'→G x=F x)∧(s ∉ q'→∀ e ∈ es,∀ t,ofF e.2 (F s)=some t→∀ b,tb t b=true→tb (G e.1) b=true)
 | [],F,q,_,hF,hq,hZ,hc=>⟨F,q,rfl,hF,hq,hZ,Nat.le_refl _,fun _ h=>h,fun _ _ h=>h,fun _ _=>rfl,fun _ e he=>by cases he⟩
 | e :: es,F,q,hE,hF,hq,hZ,hc=>by
  obtain ⟨hI,hT⟩:=hE e (by simp)
  obtain ⟨t,ht,hto,htz⟩:=hT (F s) (hF s)
  obtain ⟨F1,q1,e1,hF1,hb1,hq1,hq1',hs1,hc1⟩:=more_is U q hF hto (hU _ hI)
  have hle1:∀ x b,tb (F x) b=true→tb (F1 x) b=true:=fun x b h=>by rw [hb1,h,Bool.true_or]
  have hZ1:∀ x b,tb (F1 x) b=true→Z x b:=fun x b h=>by
   rw [hb1,Bool.or_eq_true,Bool.and_eq_true] at h
   rcases h with h | ⟨hx,h⟩
   ·exact hZ x b h
   ·rw [of_decide_eq_true hx]
    exact htz (hZ s) b h
  obtain ⟨G,q',e2,hG,hqI,hZG,hcG,hqq,hle,hsame,hcl⟩:=fold_ok hU hR s es F1 q1 (fun x hx=>hE x (by simp [hx])) hF1 (fun x hx=>(hq1' x hx).elim (hq x) (fun e=>by rw [e];exact hI)) hZ1 (by omega)
  refine ⟨G,q', ?_,hG,hqI,hZG,by omega,fun x hx=>hqq x (hq1 x hx),fun x b h=>hle x b (hle1 x b h),fun x hx=>(hsame x hx).trans (hs1 x fun h=>hx (hqq x h)),fun hs e' he' t' ht' b hb=>?_⟩
  ·unfold foldE
   rw [if_pos ⟨hR _ hI,by simp only;omega⟩,ht,Option.bind_some]
   simp only [e1]
   exact e2
  ·rcases List.mem_cons.1 he' with rfl | he'
   ·rw [ht] at ht'
    obtain rfl:=Option.some.inj ht'
    exact hle _ b (by rw [hb1,decide_eq_true rfl,Bool.true_and,hb,Bool.or_true])
   ·have hsF:F1 s=F s:=hs1 s fun h=>hs (hqq s h)
    exact hcl hs e' he' t' (by rw [hsF];exact ht') b hb

theorem queue_ok (hU:∀ s,I s→s ∈ U) (hR:∀ s,I s→rngS s) (hE:∀ s,I s→∃ es,ed s=some es∧es.length≤1000000∧∀ e ∈ es,EdgeOk ofF I Z s e):∀ (k:Nat) (F:Spt→Int) (q:List Spt),(∀ x,ok (F x))→(∀ x ∈ q,I x)→(∀ x b,tb (F x) b=true→Z x b)→cnt U F+q.length≤1000000000 →
  (∀ x,I x→F x≠0→x ∉ q→∀ es,ed x=some es→∀ e ∈ es,∀ t,ofF e.2 (F x)=some t→∀ b,tb t b=true→tb (F e.1) b=true)→cnt U F+q.length < k →
  ∃ G,queueF ofF ed k (F,q)=some G∧(∀ x,ok (G x))∧(∀ x b,tb (G x) b=true→Z x b)∧(∀ x b,tb (F x) b=true→tb (G x) b=true)∧(∀ x,I x→G x≠0→∀ es,ed x=some es→∀ e ∈ es,∀ t,ofF e.2 (G x)=some t→∀ b,tb t b=true→tb (G e.1) b=true)
 | 0,F,q,_,_,_,_,_,hk=>absurd hk (by omega)
 | k+1,F,[],hF,hq,hZ,hc,hcl,hk=>⟨F,rfl,hF,hZ,fun _ _ h=>h,fun x hx h0=>hcl x hx h0 (by simp)⟩
 | k+1,F,s :: q,hF,hq,hZ,hc,hcl,hk=>by
  have hIs:=hq s (by simp)
  obtain ⟨es,hes,hl,hok⟩:=hE s hIs
  rw [List.length_cons] at hc hk
  obtain ⟨F1,q1,e1,hF1,hq1,hZ1,hc1,hqq,hle,hsame,hcl1⟩:=fold_ok hU hR s es F q hok hF (fun x hx=>hq x (by simp [hx])) hZ (by omega)
  obtain ⟨G,e2,hG,hZG,hleG,hclG⟩:=queue_ok hU hR hE k F1 q1 hF1 hq1 hZ1 (by omega) (fun x hx h0 hxq es' hes' e he t ht b hb=>by
   have hxF:F1 x=F x:=hsame x hxq
   by_cases hxs:x=s
   ·subst hxs
    rw [hes] at hes'
    obtain rfl:=Option.some.inj hes'
    exact hcl1 hxq e he t (by rw [← hxF];exact ht) b hb
   ·rw [hxF] at ht h0
    exact hle _ b (hcl x hx h0 (fun h=>(List.mem_cons.1 h).elim hxs (fun h=>hxq (hqq x h))) es' hes' e he t ht b hb)) (by omega)
  refine ⟨G, ?_,hG,hZG,fun x b h=>hleG x b (hle x b h),hclG⟩
  rw [queueF]
  -- (the queue is told)
  rw [hes,Option.bind_some,if_pos ⟨hR s hIs,hl⟩,e1,Option.bind_some]
  exact e2
end
end
end Go.Proofs.YtclollnicbcooaaGreatDoor.P
namespace Go.Proofs.YtclollnicbcooaaGreatDoor.P
open Go.RowKit YtclollnicbcooaaGreatDoorW.PrintWords YtclollnicbcooaaGreatDoorW.PrintLast YtclollnicbcooaaGreatDoorW.PrintMore
section
attribute [local go_sem] max2_int min2_int max_two min_two max_three min_three max_four min_four

/-! ### sl13_Few: function 13 -/
mutual
def sl13_Few.l0:Nat→Int→List (S65)→List (S73)→List ByteArray→List (S68)→Int→Option (Bool)
 | 0,_,_,_,_,_,_=>none
 | k+1,x3,xA,xB,xC,xD,xE=>if x3 < (xD.length:Int) then (sl13_Few.j1 k x3 (decide (x3 < 15)) xA xB xC xD xE) else (sl13_Few.j1 k x3 false xA xB xC xD xE)
def sl13_Few.j1:Nat→Int→Bool→List (S65)→List (S73)→List ByteArray→List (S68)→Int→Option (Bool)
 | 0,_,_,_,_,_,_,_=>none
 | k+1,x3,x12,xA,xB,xC,xD,xE=>if x12=true then (if 0≤x3 then (if x3 < (xD.length:Int) then (if (((rd_T68 xD x3).f2).length:Int) > 12 then (some false) else (sl13_Few.l0 k (wrap64 (x3+1)) xA xB xC xD xE)) else (none)) else (none)) else (if (xA.length:Int)≤10 then (if (xC.length:Int)≤8 then (if (xD.length:Int)≤14 then (some (decide ((xB.length:Int)≤30))) else (some false)) else (some false)) else (some false))
end
def sl13_Few.f (k:Nat) (l0_0:List (S65)) (l0_1:List (S73)) (l0_2:List ByteArray) (l0_3:List (S68)) (a0_4:Int):Option (Bool):=sl13_Few.l0 k 0 l0_0 l0_1 l0_2 l0_3 a0_4
theorem sl13_Few.mono_l:∀ k,(∀ y0 y1 y2 y3 y4 y5,LeO (sl13_Few.l0 k y0 y1 y2 y3 y4 y5) (sl13_Few.l0 (k+1) y0 y1 y2 y3 y4 y5))∧(∀ y0 y1 y2 y3 y4 y5 y6,LeO (sl13_Few.j1 k y0 y1 y2 y3 y4 y5 y6) (sl13_Few.j1 (k+1) y0 y1 y2 y3 y4 y5 y6))
 | 0=>⟨fun _ _ _ _ _ _ r h=>by simp [sl13_Few.l0] at h,fun _ _ _ _ _ _ _ r h=>by simp [sl13_Few.j1] at h⟩
 | k+1=>by
  obtain ⟨ih0,ih1⟩:=sl13_Few.mono_l k
  refine ⟨?_, ?_⟩
  ·intro y0 y1 y2 y3 y4 y5
   unfold sl13_Few.l0
   repeat' first
   | (with_reducible exact ih0 _ _ _ _ _ _)
   | (with_reducible exact ih1 _ _ _ _ _ _ _)
   | (with_reducible exact LeO.refl _)
   | (with_reducible exact LeO.none _)
   | (with_reducible refine LeO.ite ?_ ?_)
   | (with_reducible refine LeO.bind ?_ (fun _=>?_))
   | exact ih0 _ _ _ _ _ _
   | exact ih1 _ _ _ _ _ _ _
   | exact LeO.none _
   | refine LeO.ite ?_ ?_
   | refine LeO.bind ?_ (fun _=>?_)
  ·intro y0 y1 y2 y3 y4 y5 y6
   unfold sl13_Few.j1
   repeat' first
   | (with_reducible exact ih0 _ _ _ _ _ _)
   | (with_reducible exact ih1 _ _ _ _ _ _ _)
   | (with_reducible exact LeO.refl _)
   | (with_reducible exact LeO.none _)
   | (with_reducible refine LeO.ite ?_ ?_)
   | (with_reducible refine LeO.bind ?_ (fun _=>?_))
   | exact ih0 _ _ _ _ _ _
   | exact ih1 _ _ _ _ _ _ _
   | exact LeO.none _
   | refine LeO.ite ?_ ?_
   | refine LeO.bind ?_ (fun _=>?_)
theorem sl13_Few.mono:∀ a0 a1 a2 a3 a4 k,LeO (sl13_Few.f k a0 a1 a2 a3 a4) (sl13_Few.f (k+1) a0 a1 a2 a3 a4):=by
 intro a0 a1 a2 a3 a4 k
 obtain ⟨ih0,ih1⟩:=sl13_Few.mono_l k
 unfold sl13_Few.f
 repeat' first
   | (with_reducible exact ih0 _ _ _ _ _ _)
   | (with_reducible exact ih1 _ _ _ _ _ _ _)
   | (with_reducible exact LeO.refl _)
   | (with_reducible exact LeO.none _)
   | (with_reducible refine LeO.ite ?_ ?_)
   | (with_reducible refine LeO.bind ?_ (fun _=>?_))
   | exact ih0 _ _ _ _ _ _
   | exact ih1 _ _ _ _ _ _ _
   | exact LeO.none _
   | refine LeO.ite ?_ ?_
   | refine LeO.bind ?_ (fun _=>?_)
set_option maxHeartbeats 8000000 in
set_option maxRecDepth 100000 in
theorem sl13_Few.calls (k:Nat) (A0_0:Option Addr) (c0_0:Nat) (l0_0:List (S65)) (A0_1:Option Addr) (c0_1:Nat) (l0_1:List (S73)) (A0_2:Option Addr) (c0_2:Nat) (l0_2:List ByteArray) (A0_3:Option Addr) (c0_3:Nat) (l0_3:List (S68)) (a0_4:Int) (r:Bool) (w:World) (hr0_0:Kd.C k65 w A0_0 l0_0.length l0_0) (hc0_0:l0_0.length≤c0_0) (hr0_1:Kd.C k73 w A0_1 l0_1.length l0_1) (hc0_1:l0_1.length≤c0_1) (hr0_2:Kd.C Kd.string w A0_2 l0_2.length l0_2) (hc0_2:l0_2.length≤c0_2) (hr0_3:Kd.C k68 w A0_3 l0_3.length l0_3) (hc0_3:l0_3.length≤c0_3) (h:sl13_Few.f k l0_0 l0_1 l0_2 l0_3 a0_4=some r) :
  Calls Tryz.prog 23 #[.agg #[.slice A0_0 l0_0.length c0_0,.slice A0_1 l0_1.length c0_1,.slice A0_2 l0_2.length c0_2,.slice A0_3 l0_3.length c0_3,.int .i64 a0_4]] w fun e w'=>e=.returned (.bool r)∧Below w.heap.size w w':=by
 have hu27:=Tryz.underlying27
 have HR0_0:=jM hr0_0
 have HC0_0:=jM hc0_0
 clear hr0_0 hc0_0
 have HR0_1:=jM hr0_1
 have HC0_1:=jM hc0_1
 clear hr0_1 hc0_1
 have HR0_2:=jM hr0_2
 have HC0_2:=jM hc0_2
 clear hr0_2 hc0_2
 have HR0_3:=jM hr0_3
 have HC0_3:=jM hc0_3
 clear hr0_3 hc0_3
 have HB:=jM (Below.refl w.heap.size w)
 have H:(sl13_Few.l0 k 0 l0_0 l0_1 l0_2 l0_3 a0_4)=some r:=h
 clear h
 have H':=jM H
 clear H
 go_enter Tryz.func23,Tryz.ntmps23
 go_wp2_with (first | ((with_reducible refine gate_dst (N:=1) rfl ?_);(try (refine gate_guard (by rfl) ?_;dsimp only));refine box_event ?hg (N:=1) ?hd (cs:=#[.slice A0_0 l0_0.length c0_0,.slice A0_1 l0_1.length c0_1,.slice A0_2 l0_2.length c0_2,.slice A0_3 l0_3.length c0_3,.int .i64 a0_4]) (t:=27) ?hr ?_;(case hd=>rfl);(case hg=>rfl);(case hr=>first | (go_simp;done) | (go_simp;rfl));intro gb206 hg w2 hbox hb;have n0_:=jM (jT (tB HB.out) hb);have n1_:=jM (hbox);have n2_:=jM ((by rw [hg];exact (below_size (tB HB.out)):w.heap.size≤gb206));have n3_:=jM ((by rw [hg];exact (below_size (tB HB.out)):w.heap.size≤gb206));clear HB;have HB:=n0_;have BK206:=n1_;have GW206:=n2_;have GE206:=n3_;clear n0_ n1_ n2_ n3_;clear hb hbox hg))
 go_loopg [3] k (fun kq v3 w'=>∃ (x3_1:Int),v3=.int .i64 x3_1∧Aside0 (sl13_Few.l0 kq x3_1 l0_0 l0_1 l0_2 l0_3 a0_4=some r)∧Aside0 (kq≤k)∧Aside0 (w'.heap[gb206]? = some (.cells #[(.slice A0_0 l0_0.length c0_0),(.slice A0_1 l0_1.length c0_1),(.slice A0_2 l0_2.length c0_2),(.slice A0_3 l0_3.length c0_3),.int .i64 a0_4] 27 (0,0)))∧Aside0 (Below w.heap.size w w'))
 case atStart=>exact ⟨(0),tZ,H',⟨Nat.le_refl _⟩,⟨tK BK206.out⟩,⟨tE HB.out⟩⟩
 case round =>
  clear H'
  try clear c1
  try clear p2
  obtain ⟨x3_1,rfl,HA,HK1,BK206,HB⟩:=hrel
  cases gk with
  | zero=>exact absurd HA.out (by simp [sl13_Few.l0])
  | succ k1 =>
   have H:=HA.out
   clear HA
   simp only [sl13_Few.l0] at H
   have HC3:=jM H
   clear H
   go_upto_region 2 with (fail)
   go_cut [12] (fun v12 wc=>∃ (kq:Nat) (x12_2:Bool),v12=.bool x12_2∧Aside0 (sl13_Few.j1 kq x3_1 x12_2 l0_0 l0_1 l0_2 l0_3 a0_4=some r)∧Aside0 (kq≤k1)∧Aside0 (wc.heap[gb206]? = some (.cells #[(.slice A0_0 l0_0.length c0_0),(.slice A0_1 l0_1.length c0_1),(.slice A0_2 l0_2.length c0_2),(.slice A0_3 l0_3.length c0_3),.int .i64 a0_4] 27 (0,0)))∧Aside0 (Below w.heap.size w wc))
   case first =>
    have H:=HC3.out
    clear HC3
    by_cases c4:x3_1 < (l0_3.length:Int)
    ·rw [if_pos c4] at H
     have c4b0:decide (x3_1 < (l0_3.length:Int))=true:=decide_eq_true c4
     clear c4
     (first | rw [c4b0] | (simp only [i64_w,i32_w];rw [c4b0]) | skip)
     have H':=jM H
     clear H
     have hcz5_0:wr.cell? ⟨gb206,0,none⟩=some (.slice A0_0 l0_0.length c0_0):=(jC BK206.out 0).trans rfl
     have hcz5_1:wr.cell? ⟨gb206,1,none⟩=some (.slice A0_1 l0_1.length c0_1):=(jC BK206.out 1).trans rfl
     have hcz5_2:wr.cell? ⟨gb206,2,none⟩=some (.slice A0_2 l0_2.length c0_2):=(jC BK206.out 2).trans rfl
     have hcz5_3:wr.cell? ⟨gb206,3,none⟩=some (.slice A0_3 l0_3.length c0_3):=(jC BK206.out 3).trans rfl
     have hcz5_4:wr.cell? ⟨gb206,4,none⟩=some (.int .i64 a0_4):=(jC BK206.out 4).trans rfl
     have hfz5_0:=jF BK206.out 0
     have hfz5_1:=jF BK206.out 1
     have hfz5_2:=jF BK206.out 2
     have hfz5_3:=jF BK206.out 3
     have hfz5_4:=jF BK206.out 4
     go_wp2
     go_meet
     case rel=>exact ⟨_,(decide (x3_1 < 15)),tZ,H',⟨by have:=HK1.out;first | omega | exact Nat.le_refl _⟩,⟨tK BK206.out⟩,⟨tE HB.out⟩⟩
    ·rw [if_neg c4] at H
     have c4b0:decide (x3_1 < (l0_3.length:Int))=false:=decide_eq_false c4
     clear c4
     (first | rw [c4b0] | (simp only [i64_w,i32_w];rw [c4b0]) | skip)
     have H':=jM H
     clear H
     have hcz6_0:wr.cell? ⟨gb206,0,none⟩=some (.slice A0_0 l0_0.length c0_0):=(jC BK206.out 0).trans rfl
     have hcz6_1:wr.cell? ⟨gb206,1,none⟩=some (.slice A0_1 l0_1.length c0_1):=(jC BK206.out 1).trans rfl
     have hcz6_2:wr.cell? ⟨gb206,2,none⟩=some (.slice A0_2 l0_2.length c0_2):=(jC BK206.out 2).trans rfl
     have hcz6_3:wr.cell? ⟨gb206,3,none⟩=some (.slice A0_3 l0_3.length c0_3):=(jC BK206.out 3).trans rfl
     have hcz6_4:wr.cell? ⟨gb206,4,none⟩=some (.int .i64 a0_4):=(jC BK206.out 4).trans rfl
     have hfz6_0:=jF BK206.out 0
     have hfz6_1:=jF BK206.out 1
     have hfz6_2:=jF BK206.out 2
     have hfz6_3:=jF BK206.out 3
     have hfz6_4:=jF BK206.out 4
     go_wp2
     go_meet
     case rel=>exact ⟨_,(false),tZ,H',⟨by have:=HK1.out;first | omega | exact Nat.le_refl _⟩,⟨tK BK206.out⟩,⟨tE HB.out⟩⟩
   case rest =>
    clear HC3
    try clear c1
    try clear p2
    try clear c4
    try clear c4b0
    try clear hcz5_0
    try clear hcz5_1
    try clear hcz5_2
    try clear hcz5_3
    try clear hcz5_4
    try clear hcz6_0
    try clear hcz6_1
    try clear hcz6_2
    try clear hcz6_3
    try clear hcz6_4
    try clear hfz5_0
    try clear hfz5_1
    try clear hfz5_2
    try clear hfz5_3
    try clear hfz5_4
    try clear hfz6_0
    try clear hfz6_1
    try clear hfz6_2
    try clear hfz6_3
    try clear hfz6_4
    try clear p2
    obtain ⟨kq,x12_2,rfl,HA,HJ2,BK206,HB⟩:=hcut
    cases kq with
    | zero=>exact absurd HA.out (by simp [sl13_Few.j1])
    | succ kj2 =>
     have H:=HA.out
     clear HA
     simp only [sl13_Few.j1] at H
     by_cases c7:x12_2=true
     ·subst c7
      have H1:(if 0≤x3_1 then (if x3_1 < (l0_3.length:Int) then (if (((rd_T68 l0_3 x3_1).f2).length:Int) > 12 then (some false) else (sl13_Few.l0 kj2 (wrap64 (x3_1+1)) l0_0 l0_1 l0_2 l0_3 a0_4)) else (none)) else (none))=some r:=by rw [if_pos rfl] at H;exact H
      clear H
      have H:=H1
      clear H1
      by_cases c8:0≤x3_1
      ·rw [if_pos c8] at H
       have c8b0:decide (0≤x3_1)=true:=decide_eq_true c8
       clear c8
       by_cases c9:x3_1 < (l0_3.length:Int)
       ·rw [if_pos c9] at H
        have c9b0:decide (x3_1 < (l0_3.length:Int))=true:=decide_eq_true c9
        clear c9
        by_cases c10:(((rd_T68 l0_3 x3_1).f2).length:Int) > 12
        ·rw [if_pos c10] at H
         have c10b0:decide (12 < (((rd_T68 l0_3 x3_1).f2).length:Int))=true:=decide_eq_true c10
         have c10b1:decide (12 < ((rd_T68 l0_3 x3_1).f2).length)=true:=decide_eq_true (by omega)
         clear c10
         obtain rfl:=Option.some.inj H
         have hcz11_0:wc.cell? ⟨gb206,0,none⟩=some (.slice A0_0 l0_0.length c0_0):=(jC BK206.out 0).trans rfl
         have hcz11_1:wc.cell? ⟨gb206,1,none⟩=some (.slice A0_1 l0_1.length c0_1):=(jC BK206.out 1).trans rfl
         have hcz11_2:wc.cell? ⟨gb206,2,none⟩=some (.slice A0_2 l0_2.length c0_2):=(jC BK206.out 2).trans rfl
         have hcz11_3:wc.cell? ⟨gb206,3,none⟩=some (.slice A0_3 l0_3.length c0_3):=(jC BK206.out 3).trans rfl
         have hcz11_4:wc.cell? ⟨gb206,4,none⟩=some (.int .i64 a0_4):=(jC BK206.out 4).trans rfl
         have hfz11_0:=jF BK206.out 0
         have hfz11_1:=jF BK206.out 1
         have hfz11_2:=jF BK206.out 2
         have hfz11_3:=jF BK206.out 3
         have hfz11_4:=jF BK206.out 4
         have p207:0≤(x3_1:Int):=of_decide_eq_true tD
         have q207:x3_1 < (l0_3.length:Int):=of_decide_eq_true tD
         obtain ⟨ad207,A207_2,c207_2,e207,hx207_0,hx207_1,hx207_2,hx207_3,hl207_2,hi207_2⟩:=at_T68 HR0_3.out x3_1 p207 q207
         cases e207
         replace hx207_0:=(HB.out.cell (jL w _ hx207_0)).trans hx207_0
         replace hx207_1:=(HB.out.cell (jL w _ hx207_1)).trans hx207_1
         replace hx207_2:=(HB.out.cell (jL w _ hx207_2)).trans hx207_2
         replace hx207_3:=(HB.out.cell (jL w _ hx207_3)).trans hx207_3
         have HR207_2:=jM hi207_2
         have HC207_2:=jM hl207_2
         clear hi207_2 hl207_2
         replace p207:=eq_true p207
         replace q207:=eq_true q207
         go_wp2
         go_ret
         exact ⟨by first | rfl | (simp [errW_none,errW_some] <;> rfl) | (simp [*,errW_none,errW_some] <;> rfl),tE HB.out⟩
        ·rw [if_neg c10] at H
         have c10b0:decide (12 < (((rd_T68 l0_3 x3_1).f2).length:Int))=false:=decide_eq_false c10
         have c10b1:decide (12 < ((rd_T68 l0_3 x3_1).f2).length)=false:=decide_eq_false (by omega)
         clear c10
         have H':=jM H
         clear H
         have hcz12_0:wc.cell? ⟨gb206,0,none⟩=some (.slice A0_0 l0_0.length c0_0):=(jC BK206.out 0).trans rfl
         have hcz12_1:wc.cell? ⟨gb206,1,none⟩=some (.slice A0_1 l0_1.length c0_1):=(jC BK206.out 1).trans rfl
         have hcz12_2:wc.cell? ⟨gb206,2,none⟩=some (.slice A0_2 l0_2.length c0_2):=(jC BK206.out 2).trans rfl
         have hcz12_3:wc.cell? ⟨gb206,3,none⟩=some (.slice A0_3 l0_3.length c0_3):=(jC BK206.out 3).trans rfl
         have hcz12_4:wc.cell? ⟨gb206,4,none⟩=some (.int .i64 a0_4):=(jC BK206.out 4).trans rfl
         have hfz12_0:=jF BK206.out 0
         have hfz12_1:=jF BK206.out 1
         have hfz12_2:=jF BK206.out 2
         have hfz12_3:=jF BK206.out 3
         have hfz12_4:=jF BK206.out 4
         have p207:0≤(x3_1:Int):=of_decide_eq_true tD
         have q207:x3_1 < (l0_3.length:Int):=of_decide_eq_true tD
         obtain ⟨ad207,A207_2,c207_2,e207,hx207_0,hx207_1,hx207_2,hx207_3,hl207_2,hi207_2⟩:=at_T68 HR0_3.out x3_1 p207 q207
         cases e207
         replace hx207_0:=(HB.out.cell (jL w _ hx207_0)).trans hx207_0
         replace hx207_1:=(HB.out.cell (jL w _ hx207_1)).trans hx207_1
         replace hx207_2:=(HB.out.cell (jL w _ hx207_2)).trans hx207_2
         replace hx207_3:=(HB.out.cell (jL w _ hx207_3)).trans hx207_3
         have HR207_2:=jM hi207_2
         have HC207_2:=jM hl207_2
         clear hi207_2 hl207_2
         replace p207:=eq_true p207
         replace q207:=eq_true q207
         go_wp2
         go_roundg kj2
         case measure=>have:=HK1.out;have:=HJ2.out;omega
         case rel=>exact ⟨(wrap64 (x3_1+1)),tZ,H',⟨by have:=HK1.out;have:=HJ2.out;omega⟩,⟨tK BK206.out⟩,⟨tE HB.out⟩⟩
       ·rw [if_neg c9] at H
        exact absurd H (by simp)
      ·rw [if_neg c8] at H
       exact absurd H (by simp)
     ·replace c7:=Bool.eq_false_iff.mpr c7
      subst c7
      have H1:(if (l0_0.length:Int)≤10 then (if (l0_2.length:Int)≤8 then (if (l0_3.length:Int)≤14 then (some (decide ((l0_1.length:Int)≤30))) else (some false)) else (some false)) else (some false))=some r:=by rw [if_neg (show ¬ (false=true) by decide)] at H;exact H
      clear H
      have H:=H1
      clear H1
      by_cases c13:(l0_0.length:Int)≤10
      ·rw [if_pos c13] at H
       have c13b0:decide ((l0_0.length:Int)≤10)=true:=decide_eq_true c13
       have c13b1:decide (l0_0.length≤10)=true:=decide_eq_true (by omega)
       clear c13
       by_cases c14:(l0_2.length:Int)≤8
       ·rw [if_pos c14] at H
        have c14b0:decide ((l0_2.length:Int)≤8)=true:=decide_eq_true c14
        have c14b1:decide (l0_2.length≤8)=true:=decide_eq_true (by omega)
        clear c14
        by_cases c15:(l0_3.length:Int)≤14
        ·rw [if_pos c15] at H
         have c15b0:decide ((l0_3.length:Int)≤14)=true:=decide_eq_true c15
         have c15b1:decide (l0_3.length≤14)=true:=decide_eq_true (by omega)
         clear c15
         obtain rfl:=Option.some.inj H
         have hcz16_0:wc.cell? ⟨gb206,0,none⟩=some (.slice A0_0 l0_0.length c0_0):=(jC BK206.out 0).trans rfl
         have hcz16_1:wc.cell? ⟨gb206,1,none⟩=some (.slice A0_1 l0_1.length c0_1):=(jC BK206.out 1).trans rfl
         have hcz16_2:wc.cell? ⟨gb206,2,none⟩=some (.slice A0_2 l0_2.length c0_2):=(jC BK206.out 2).trans rfl
         have hcz16_3:wc.cell? ⟨gb206,3,none⟩=some (.slice A0_3 l0_3.length c0_3):=(jC BK206.out 3).trans rfl
         have hcz16_4:wc.cell? ⟨gb206,4,none⟩=some (.int .i64 a0_4):=(jC BK206.out 4).trans rfl
         have hfz16_0:=jF BK206.out 0
         have hfz16_1:=jF BK206.out 1
         have hfz16_2:=jF BK206.out 2
         have hfz16_3:=jF BK206.out 3
         have hfz16_4:=jF BK206.out 4
         go_wp2
         go_ret
         exact ⟨by first | rfl | (simp [errW_none,errW_some] <;> rfl) | (simp [*,errW_none,errW_some] <;> rfl),tE HB.out⟩
        ·rw [if_neg c15] at H
         have c15b0:decide ((l0_3.length:Int)≤14)=false:=decide_eq_false c15
         have c15b1:decide (l0_3.length≤14)=false:=decide_eq_false (by omega)
         clear c15
         obtain rfl:=Option.some.inj H
         have hcz17_0:wc.cell? ⟨gb206,0,none⟩=some (.slice A0_0 l0_0.length c0_0):=(jC BK206.out 0).trans rfl
         have hcz17_1:wc.cell? ⟨gb206,1,none⟩=some (.slice A0_1 l0_1.length c0_1):=(jC BK206.out 1).trans rfl
         have hcz17_2:wc.cell? ⟨gb206,2,none⟩=some (.slice A0_2 l0_2.length c0_2):=(jC BK206.out 2).trans rfl
         have hcz17_3:wc.cell? ⟨gb206,3,none⟩=some (.slice A0_3 l0_3.length c0_3):=(jC BK206.out 3).trans rfl
         have hcz17_4:wc.cell? ⟨gb206,4,none⟩=some (.int .i64 a0_4):=(jC BK206.out 4).trans rfl
         have hfz17_0:=jF BK206.out 0
         have hfz17_1:=jF BK206.out 1
         have hfz17_2:=jF BK206.out 2
         have hfz17_3:=jF BK206.out 3
         have hfz17_4:=jF BK206.out 4
         go_wp2
         go_ret
         exact ⟨by first | rfl | (simp [errW_none,errW_some] <;> rfl) | (simp [*,errW_none,errW_some] <;> rfl),tE HB.out⟩
       ·rw [if_neg c14] at H
        have c14b0:decide ((l0_2.length:Int)≤8)=false:=decide_eq_false c14
        have c14b1:decide (l0_2.length≤8)=false:=decide_eq_false (by omega)
        clear c14
        obtain rfl:=Option.some.inj H
        have hcz18_0:wc.cell? ⟨gb206,0,none⟩=some (.slice A0_0 l0_0.length c0_0):=(jC BK206.out 0).trans rfl
        have hcz18_1:wc.cell? ⟨gb206,1,none⟩=some (.slice A0_1 l0_1.length c0_1):=(jC BK206.out 1).trans rfl
        have hcz18_2:wc.cell? ⟨gb206,2,none⟩=some (.slice A0_2 l0_2.length c0_2):=(jC BK206.out 2).trans rfl
        have hcz18_3:wc.cell? ⟨gb206,3,none⟩=some (.slice A0_3 l0_3.length c0_3):=(jC BK206.out 3).trans rfl
        have hcz18_4:wc.cell? ⟨gb206,4,none⟩=some (.int .i64 a0_4):=(jC BK206.out 4).trans rfl
        have hfz18_0:=jF BK206.out 0
        have hfz18_1:=jF BK206.out 1
        have hfz18_2:=jF BK206.out 2
        have hfz18_3:=jF BK206.out 3
        have hfz18_4:=jF BK206.out 4
        go_wp2
        go_ret
        exact ⟨by first | rfl | (simp [errW_none,errW_some] <;> rfl) | (simp [*,errW_none,errW_some] <;> rfl),tE HB.out⟩
      ·rw [if_neg c13] at H
       have c13b0:decide ((l0_0.length:Int)≤10)=false:=decide_eq_false c13
       have c13b1:decide (l0_0.length≤10)=false:=decide_eq_false (by omega)
       clear c13
       obtain rfl:=Option.some.inj H
       have hcz19_0:wc.cell? ⟨gb206,0,none⟩=some (.slice A0_0 l0_0.length c0_0):=(jC BK206.out 0).trans rfl
       have hcz19_1:wc.cell? ⟨gb206,1,none⟩=some (.slice A0_1 l0_1.length c0_1):=(jC BK206.out 1).trans rfl
       have hcz19_2:wc.cell? ⟨gb206,2,none⟩=some (.slice A0_2 l0_2.length c0_2):=(jC BK206.out 2).trans rfl
       have hcz19_3:wc.cell? ⟨gb206,3,none⟩=some (.slice A0_3 l0_3.length c0_3):=(jC BK206.out 3).trans rfl
       have hcz19_4:wc.cell? ⟨gb206,4,none⟩=some (.int .i64 a0_4):=(jC BK206.out 4).trans rfl
       have hfz19_0:=jF BK206.out 0
       have hfz19_1:=jF BK206.out 1
       have hfz19_2:=jF BK206.out 2
       have hfz19_3:=jF BK206.out 3
       have hfz19_4:=jF BK206.out 4
       go_wp2
       go_ret
       exact ⟨by first | rfl | (simp [errW_none,errW_some] <;> rfl) | (simp [*,errW_none,errW_some] <;> rfl),tE HB.out⟩
end
theorem few_end (l0:List S65) (l1:List S73) (l2:List ByteArray) (l3:List S68) (st:Int) (k:Nat) (i:Int) :
  ∃ b,sl13_Few.j1 (k+1) i false l0 l1 l2 l3 st=some b∧(b=true→l0.length≤10∧l2.length≤8∧l3.length≤14∧l1.length≤30):=by
 unfold sl13_Few.j1
 rw [if_neg (by decide)]
 split
 ·split
  ·split
   ·exact ⟨_,rfl,fun h=>by have:=of_decide_eq_true h;omega⟩
   ·exact ⟨_,rfl,fun h=>by cases h⟩
  ·exact ⟨_,rfl,fun h=>by cases h⟩
 ·exact ⟨_,rfl,fun h=>by cases h⟩

theorem few_l0 (l0:List S65) (l1:List S73) (l2:List ByteArray) (l3:List S68) (st:Int):∀ (m i:Nat),i+m=15→∀ k,2 * m+2≤k →
  ∃ b,sl13_Few.l0 k i l0 l1 l2 l3 st=some b∧(b=true→l0.length≤10∧l2.length≤8∧l3.length≤14∧l1.length≤30)
 | m,i,hi,0,hk=>by omega
 | m,i,hi,1,hk=>by omega
 | 0,i,hi,k+2,hk=>by
  unfold sl13_Few.l0
  have e:decide ((i:Int) < 15)=false:=decide_eq_false (by omega)
  rw [e]
  split
  ·exact few_end l0 l1 l2 l3 st k i
  ·exact few_end l0 l1 l2 l3 st k i
 | m+1,i,hi,k+2,hk=>by
  unfold sl13_Few.l0
  have e:decide ((i:Int) < 15)=true:=decide_eq_true (by omega)
  rw [e]
  split
  ·unfold sl13_Few.j1
   rw [if_pos rfl,if_pos (by omega),if_pos (by assumption)]
   split
   ·exact ⟨_,rfl,fun h=>by cases h⟩
   ·have w:wrap64 ((i:Int)+1)=((i+1:Nat):Int):=by unfold wrap64;omega
    rw [w]
    exact few_l0 l0 l1 l2 l3 st m (i+1) (by omega) k (by omega)
  ·exact few_end l0 l1 l2 l3 st k i

theorem few_is (l0:List S65) (l1:List S73) (l2:List ByteArray) (l3:List S68) (st:Int) (k:Nat) (hk:32≤k) :
  ∃ b,sl13_Few.f k l0 l1 l2 l3 st=some b∧(b=true→l0.length≤10∧l2.length≤8∧l3.length≤14∧l1.length≤30) :=
 few_l0 l0 l1 l2 l3 st 15 0 rfl k (by omega)
end Go.Proofs.YtclollnicbcooaaGreatDoor.P
namespace Go.Proofs.YtclollnicbcooaaGreatDoor.Open
open Go Go.RowKit Go.ChangeShapes Go.WideShapes Go.Deep YtclollnicbcooaaGreatDoorW.PrintWords
section
structure Opens (P:Program) (t:TypeId) {α:Type} (d:Kd α) (wf:α→Prop):Prop where
 sz:P.cellsOf t=d.sz
 down:∀ {H:Type} {enc:TypeId × Value→H} {w:World} {base:Nat} {spare:Nat→Bool} {held:Bool} {fuel:Nat} {cs:List Value} {x:DataW H × List MemPlace},
  DataW.trod enc P w base spare held fuel t cs=some x→∃ a:α,d.K w a cs∧wf a

variable {P:Program} {t e:TypeId} {α β:Type}

theorem opens_int {k:IntKind} (hc:P.cellsOf t=1) (ht:P.underlying t=some (.int k)):Opens P t (Kd.int k) (fun n=>(Lit.int k n).wf=true) :=
 ⟨hc,fun h=>by
  obtain ⟨n,rfl,_,hw⟩:=DataW.trod_int ht h
  exact ⟨n,rfl,hw⟩⟩
theorem opens_bool (hc:P.cellsOf t=1) (ht:P.underlying t=some .bool):Opens P t Kd.bool (fun _=>True) :=
 ⟨hc,fun h=>by
  obtain ⟨b,rfl,_⟩:=DataW.trod_bool ht h
  exact ⟨b,rfl,trivial⟩⟩
theorem opens_string (hc:P.cellsOf t=1) (ht:P.underlying t=some .string):Opens P t Kd.string (fun s=>s.size≤maxLen) :=
 ⟨hc,fun h=>by
  obtain ⟨s,rfl,_,hs⟩:=DataW.trod_string ht h
  exact ⟨s,rfl,hs⟩⟩

theorem cells_at {w:World} {base n:Nat} {a:Addr} {cs:List Value} (h:w.cells? base a n=some cs):cs.length=n∧∀ i u,cs[i]? = some u→w.cell? (a.add i)=some u:=by
 unfold World.cells? at h
 split at h
 ·have hl:=mapM_some_length h
  rw [List.length_range] at hl
  refine ⟨hl,fun i u hu=>?_⟩
  have hi:i < n:=by rw [← hl];exact (List.getElem?_eq_some_iff.1 hu).1
  have:=mapM_some_get h i i (by simp [hi])
  rw [this,hu]
 ·cases h

theorem opens_slice {d:Kd α} {wf:α→Prop} (hc:P.cellsOf t=1) (ht:P.underlying t=some (.slice e)) (he:Opens P e d wf):Opens P t (Kd.slice e d) (fun xs=>xs.length≤9223372036854775807∧∀ x ∈ xs,wf x) :=
 ⟨hc,fun {H enc w base spare held fuel cs x} h=>by
  rcases open_slice ht h with ⟨rfl,_⟩ | ⟨a,len,cap,m,n,D,Pl,rfl,hb,hl,hm,hmd,_,hel⟩
  ·exact ⟨[],⟨none,0,rfl,Nat.le_refl _,rfl,Nat.zero_le _,fun h=>absurd h (Nat.lt_irrefl 0)⟩,Nat.zero_le _,fun x hx=>by cases hx⟩
  ·have hlm:len≤m:=by rw [hmd];split <;> omega
   have hex:∀ i,i < len→∃ y:α,∃ cs',w.cells? base (a.add (i * P.cellsOf e)) (P.cellsOf e)=some cs'∧d.K w y cs'∧wf y:=fun i hi=>by
    obtain ⟨cs',h1,h2⟩:=hel i (by omega)
    obtain ⟨y,hk,hw⟩:=he.down h2
    exact ⟨y,cs',h1,hk,hw⟩
   obtain ⟨f,hf⟩:∃ f:(i:Nat)→i < len→α,∀ i hi,∃ cs',w.cells? base (a.add (i * P.cellsOf e)) (P.cellsOf e)=some cs'∧d.K w (f i hi) cs'∧wf (f i hi) :=
    ⟨fun i hi=>Classical.choose (hex i hi),fun i hi=>Classical.choose_spec (hex i hi)⟩
   let xs:List α:=List.ofFn (fun i:Fin len=>f i.1 i.2)
   have hxl:xs.length=len:=by simp [xs]
   refine ⟨xs,⟨some a,cap,by rw [hxl],by rw [hxl];exact hl,rfl,by rw [hxl];unfold maxLen at hm;omega,fun _=>⟨a,rfl,fun j p hj=>?_⟩⟩,by rw [hxl];unfold maxLen at hm;omega,fun x hx=>?_⟩
   ·have hjl:j < len:=by rw [← hxl];exact (List.getElem?_eq_some_iff.1 hj).1
    obtain ⟨cs',h1,h2,_⟩:=hf j hjl
    have hp:p=f j hjl:=by
     have:=(List.getElem?_eq_some_iff.1 hj).2
     rw [← this]
     simp [xs]
    subst hp
    refine ⟨cs',d.K_len h2,h2,fun i u hu=>?_⟩
    have h3:=(cells_at h1).2 i u hu
    rw [Deep.add_add,he.sz] at h3
    exact h3
   ·obtain ⟨i,rfl⟩:=(List.mem_ofFn).1 hx
    exact (hf i.1 i.2).elim fun _ h=>h.2.2⟩

structure OpensFs (P:Program) (fs:List Field) (off:Nat) {α:Type} (d:Kd α) (wf:α→Prop):Prop where
 down:∀ {H:Type} {enc:TypeId × Value→H} {w:World} {base:Nat} {spare:Nat→Bool} {held:Bool} {n:Nat} {cs:List Value},cs.length=off+d.sz →
  (∀ f ∈ fs,∃ y:DataW H × List MemPlace,DataW.trod enc P w base spare held n f.type ((cs.drop f.offset).take (P.cellsOf f.type))=some y)→∃ a:α,d.K w a (cs.drop off)∧wf a

theorem fields_one {f:Field} {off:Nat} {d:Kd α} {wf:α→Prop} (ho:f.offset=off) (hf:Opens P f.type d wf):OpensFs P [f] off d wf :=
 ⟨fun {H enc w base spare held n cs} hl h=>by
  obtain ⟨y,hy⟩:=h f (List.mem_singleton.2 rfl)
  rw [ho,hf.sz,List.take_of_length_le (by rw [List.length_drop];omega)] at hy
  exact hf.down hy⟩
theorem fields_cons {f:Field} {fs:List Field} {off:Nat} {d:Kd α} {d':Kd β} {wf:α→Prop} {wf':β→Prop} (ho:f.offset=off) (hf:Opens P f.type d wf) (hr:OpensFs P fs (off+d.sz) d' wf') :
  OpensFs P (f :: fs) off (Kd.pair d d') (fun x=>wf x.1∧wf' x.2) :=
 ⟨fun {H enc w base spare held n cs} hl h=>by
  have hl':cs.length=off+(d.sz+d'.sz):=hl
  obtain ⟨y,hy⟩:=h f List.mem_cons_self
  rw [ho,hf.sz] at hy
  obtain ⟨a,ka,wa⟩:=hf.down hy
  obtain ⟨b,kb,wb⟩:=hr.down (by omega) (fun g hg=>h g (List.mem_cons_of_mem _ hg))
  refine ⟨(a,b),⟨_,_, ?_,ka,kb⟩,wa,wb⟩
  rw [← List.drop_drop,List.take_append_drop]⟩

theorem opens_struct {fs:Array Field} {d:Kd α} {wf:α→Prop} {f:β→α} (g:α→β) (hfg:∀ a,f (g a)=a) (hc:P.cellsOf t=d.sz) (ht:P.underlying t=some (.struct fs)) (hf:OpensFs P fs.toList 0 d wf) :
  Opens P t (Kd.iso d f) (fun b=>wf (f b)) :=
 ⟨hc,fun h=>by
  obtain ⟨xs,n,rfl,_,hl,hx,hel⟩:=DataW.trod_struct ht h
  obtain ⟨a,ka,wa⟩:=hf.down (by rw [hl,hc];simp) (fun q hq=>by
   obtain ⟨i,hi,rfl⟩:=List.getElem_of_mem hq
   have h1:=hel i (fs.toList[i]) (by simp)
   have hi2:i < xs.length:=by rw [hx];simpa using hi
   exact ⟨xs[i],by rw [h1];exact List.getElem?_eq_getElem hi2⟩)
  exact ⟨g a,by show d.K _ (f (g a)) _;rw [hfg];simpa using ka,by rw [hfg];exact wa⟩⟩

theorem opens_two {d:Kd α} {wf:α→Prop} {f:β→α × α} (g:α × α→β) (hfg:∀ a,f (g a)=a) (hc:P.cellsOf t=d.sz+d.sz) (ht:P.underlying t=some (.array 2 e)) (he:Opens P e d wf) :
  Opens P t (Kd.iso (Kd.pair d d) f) (fun b=>wf (f b).1∧wf (f b).2) :=
 ⟨hc,fun {H enc w base spare held fuel cs x} h=>by
  obtain ⟨xs,n,rfl,_,hl,hx,hel⟩:=DataW.trod_array ht h
  have h0:=hel 0 (by omega)
  have h1:=hel 1 (by omega)
  rw [List.getElem?_eq_getElem (by omega)] at h0 h1
  rw [he.sz] at h0 h1
  rw [Nat.zero_mul,List.drop_zero] at h0
  rw [Nat.one_mul,List.take_of_length_le (by rw [List.length_drop];omega)] at h1
  obtain ⟨a,ka,wa⟩:=he.down h0
  obtain ⟨b,kb,wb⟩:=he.down h1
  refine ⟨g (a,b), ?_,by rw [hfg];exact ⟨wa,wb⟩⟩
  show (Kd.pair d d).K w (f (g (a,b))) cs
  rw [hfg]
  exact ⟨_,_,(List.take_append_drop _ _).symm,ka,kb⟩⟩

theorem agg_of {v:Value} {cs:List Value} (h:v.cells.toList=cs) (hl:cs.length≠1):v=.agg cs.toArray:=by
 subst h
 cases v <;> first | rfl | exact absurd rfl hl
end
end Go.Proofs.YtclollnicbcooaaGreatDoor.Open
namespace Go.Proofs.YtclollnicbcooaaGreatDoor.P
open Go.RowKit YtclollnicbcooaaGreatDoor.Open YtclollnicbcooaaGreatDoorW.PrintWords
def wf65 (x:S65):Prop:=(x.f0.size≤maxLen)∧((x.f1.size≤maxLen)∧((True)∧(((Lit.int .i64 x.f3).wf=true))))
theorem opens65:Opens Tryz.prog 65 k65 wf65:=opens_struct (fun a=>⟨a.1,a.2.1,a.2.2.1,a.2.2.2⟩) (fun _=>rfl) (by kernel_rfl) Tryz.underlying65 (fields_cons rfl (opens_string (by kernel_rfl) Tryz.underlying9) (fields_cons rfl (opens_string (by kernel_rfl) Tryz.underlying9) (fields_cons rfl (opens_bool (by kernel_rfl) Tryz.underlying4) (fields_one rfl (opens_int (by kernel_rfl) Tryz.underlying3)))))
def wf73 (x:S73):Prop:=((Lit.int .i64 x.f0).wf=true)∧(((Lit.int .i64 x.f1).wf=true))
theorem opens73:Opens Tryz.prog 73 k73 wf73:=opens_two (fun a=>⟨a.1,a.2⟩) (fun _=>rfl) (by kernel_rfl) Tryz.underlying73 (opens_int (by kernel_rfl) Tryz.underlying3)
def wf68 (x:S68):Prop:=(x.f0.size≤maxLen)∧(((Lit.int .i64 x.f1).wf=true)∧((x.f2.length≤9223372036854775807∧∀ y ∈ x.f2,(Lit.int .i64 y).wf=true)∧(((Lit.int .i64 x.f3).wf=true))))
theorem opens68:Opens Tryz.prog 68 k68 wf68:=opens_struct (fun a=>⟨a.1,a.2.1,a.2.2.1,a.2.2.2⟩) (fun _=>rfl) (by kernel_rfl) Tryz.underlying68 (fields_cons rfl (opens_string (by kernel_rfl) Tryz.underlying9) (fields_cons rfl (opens_int (by kernel_rfl) Tryz.underlying3) (fields_cons rfl (opens_slice (by kernel_rfl) Tryz.underlying66 (opens_int (by kernel_rfl) Tryz.underlying56)) (fields_one rfl (opens_int (by kernel_rfl) Tryz.underlying3)))))
def wf27 (x:S27):Prop:=(x.f0.length≤9223372036854775807∧∀ y ∈ x.f0,wf65 y)∧((x.f1.length≤9223372036854775807∧∀ y ∈ x.f1,wf73 y)∧((x.f2.length≤9223372036854775807∧∀ y ∈ x.f2,y.size≤maxLen)∧((x.f3.length≤9223372036854775807∧∀ y ∈ x.f3,wf68 y)∧(((Lit.int .i64 x.f4).wf=true)))))
theorem opens27:Opens Tryz.prog 27 k27 wf27:=opens_struct (fun a=>⟨a.1,a.2.1,a.2.2.1,a.2.2.2.1,a.2.2.2.2⟩) (fun _=>rfl) (by kernel_rfl) Tryz.underlying27 (fields_cons rfl (opens_slice (by kernel_rfl) Tryz.underlying22 opens65) (fields_cons rfl (opens_slice (by kernel_rfl) Tryz.underlying23 opens73) (fields_cons rfl (opens_slice (by kernel_rfl) Tryz.underlying24 (opens_string (by kernel_rfl) Tryz.underlying9)) (fields_cons rfl (opens_slice (by kernel_rfl) Tryz.underlying25 opens68) (fields_one rfl (opens_int (by kernel_rfl) Tryz.underlying3))))))
end Go.Proofs.YtclollnicbcooaaGreatDoor.P
namespace Go.Proofs.YtclollnicbcooaaGreatDoor.P
open Go.RowKit YtclollnicbcooaaGreatDoorW.PrintWords YtclollnicbcooaaGreatDoorW.PrintLast YtclollnicbcooaaGreatDoorW.PrintMore St
section
theorem i64_range {x:Int} (h:(Lit.int .i64 x).wf=true):-9223372036854775808≤x∧x≤9223372036854775807:=by
 have:=bounds_i64 h
 omega
theorem prods_range {x:S27} (h:wf27 x):∀ p ∈ x.f3,∀ s ∈ p.f2, -9223372036854775808≤s∧s≤9223372036854775807 :=
 fun p hp s hs=>i64_range ((h.2.2.2.1.2 p hp).2.2.1.2 s hs)
theorem okP_of {l3:List S68} (hr:∀ p ∈ l3,∀ s ∈ p.f2, -9223372036854775808≤s∧s≤9223372036854775807):l3.all okP=true :=
 List.all_eq_true.2 fun p hp=>List.all_eq_true.2 fun s hs=>decide_eq_true (hr p hp s hs).1
theorem rngI_okI {l:List Itm} (h:∀ x ∈ l,rngI x):(l.map ofI).all okI=true :=
 List.all_eq_true.2 fun x hx=>by
  obtain ⟨y,hy,rfl⟩:=List.mem_map.1 hx
  exact decide_eq_true (h y hy)

/-! ### the program and the document -/
section
variable {l0:List S65} {l1:List S73} {l2:List ByteArray} {l3:List S68} {st:Int} (hr:∀ p ∈ l3,∀ s ∈ p.f2, -9223372036854775808≤s∧s≤9223372036854775807)
include hr
theorem close_ok (hv:validB l0 l1 l2 l3 st=true) (l:List S77) (hl:l.length≤1000000) (hok:l.all okI=true):states_Close.f l0 l1 l2 l3 st l=some ((risen (closedL (gr st l3) (l.map toI))).map ofI):=by
 unfold states_Close.f inst_Valid.f states_closed.f
 rw [hv,Option.bind_some,if_pos rfl,if_pos ⟨rfl,okP_of hr,hl,hok⟩,Option.bind_some]
omit hr in
theorem Behind_ok (hv:validB l0 l1 l2 l3 st=true) (a b:Int):states_Behind.f l0 l1 l2 l3 st a b=some (match behindL (gr st l3) (a,b) with | some s=>(s,true) | none=>(0,false)):=by
 unfold states_Behind.f inst_Valid.f
 rw [hv,Option.bind_some,if_pos rfl,behind_is (fits_of hv),Option.bind_some]
 cases behindL (gr st l3) (a,b) <;> rfl
theorem build_ok (hv:validB l0 l1 l2 l3 st=true):(∃ R,builtL l0.length l2.length (gr st l3)=some R∧states_Build.f l0 l1 l2 l3 st=some (outB R)):=by
 obtain ⟨R,hR⟩:=buildL_ends (Sg (gr st l3)) (symsL l0.length l2.length) 2000 2001 2003 0 [[(-1,0)]] [] (by omega) (by omega) (by simp)
 refine ⟨R,hR, ?_⟩
 unfold states_Build.f
 rw [if_pos hv,if_pos (okP_of hr)]
 show Option.map outB (builtL l0.length l2.length (gr st l3))=_
 unfold builtL
 rw [hR]
 rfl
omit hr in
theorem build_not (hv:validB l0 l1 l2 l3 st=false):states_Build.f l0 l1 l2 l3 st=some ([],[],1):=by
 unfold states_Build.f
 rw [hv,if_neg (by decide)]
end
theorem built_is {T S:Nat} {g:Gr} {K:List (List Itm)} {N:List (List Int)} (h:builtL T S g=some (some (K,N))):Built (Sg g) (symsL T S) [(-1,0)] K N∧N.length=K.length :=
 buildL_is (Sg g) (symsL T S) 2000 [(-1,0)] 2003 [[(-1,0)]] [] (K,N) (Built.start _ _ _) h
theorem symsL_at (T S j:Nat) (h:j < T+S):(symsL T S)[j]? = some (if T≤j then -1 - ((j:Int) - T) else (j:Int)):=by
 unfold symsL
 by_cases hT:j < T
 ·rw [List.getElem?_append_left (by simpa using hT),List.getElem?_map,List.getElem?_range hT,if_neg (by omega)]
  rfl
 ·rw [List.getElem?_append_right (by simpa using Nat.le_of_not_lt hT),List.length_map,List.length_range,List.getElem?_map,List.getElem?_range (by omega),if_pos (by omega),Option.map_some]
  congr 1
  omega
end
end Go.Proofs.YtclollnicbcooaaGreatDoor.P
namespace Go.Proofs.YtclollnicbcooaaGreatDoor.P
open Go.RowKit
theorem wrap_up (i:Nat) (h:i < 9223372036854775807):wrap64 ((i:Int)+1)=((i+1:Nat):Int):=by unfold wrap64;omega
end Go.Proofs.YtclollnicbcooaaGreatDoor.P
namespace Go.Proofs.YtclollnicbcooaaGreatDoor.P
open Go.RowKit YtclollnicbcooaaGreatDoorW.PrintWords YtclollnicbcooaaGreatDoorW.PrintLast YtclollnicbcooaaGreatDoorW.PrintMore
section
attribute [local go_sem] max2_int min2_int max_two min_two max_three min_three max_four min_four

/-! ### sl14_Little: function 22 -/
mutual
def sl14_Little.l0:Nat→Bool→Int→List (S65)→List (S73)→List ByteArray→List (S68)→Int→Option (Bool)
 | 0,_,_,_,_,_,_,_=>none
 | k+1,x3,x4,xA,xB,xC,xD,xE=>if x4 < (xD.length:Int) then (sl14_Little.j1 k x3 x4 (decide (x4 < 15)) xA xB xC xD xE) else (sl14_Little.j1 k x3 x4 false xA xB xC xD xE)
def sl14_Little.j1:Nat→Bool→Int→Bool→List (S65)→List (S73)→List ByteArray→List (S68)→Int→Option (Bool)
 | 0,_,_,_,_,_,_,_,_=>none
 | k+1,x3,x4,x15,xA,xB,xC,xD,xE=>if x15=true then (if 0≤x4 then (if x4 < (xD.length:Int) then (if (((rd_T68 xD x4).f2).length:Int) > 5 then (some false) else (sl14_Little.l0 k x3 (wrap64 (x4+1)) xA xB xC xD xE)) else (none)) else (none)) else (if x3=true then (some (decide ((xD.length:Int)≤10))) else (some false))
end
def sl14_Little.f (k:Nat) (l0_0:List (S65)) (l0_1:List (S73)) (l0_2:List ByteArray) (l0_3:List (S68)) (a0_4:Int):Option (Bool):=(sl13_Few.f k l0_0 l0_1 l0_2 l0_3 a0_4).bind fun t318=>(sl14_Little.l0 k t318 0 l0_0 l0_1 l0_2 l0_3 a0_4)
set_option maxHeartbeats 8000000 in
set_option maxRecDepth 100000 in
theorem sl14_Little.calls (k:Nat) (A0_0:Option Addr) (c0_0:Nat) (l0_0:List (S65)) (A0_1:Option Addr) (c0_1:Nat) (l0_1:List (S73)) (A0_2:Option Addr) (c0_2:Nat) (l0_2:List ByteArray) (A0_3:Option Addr) (c0_3:Nat) (l0_3:List (S68)) (a0_4:Int) (r:Bool) (w:World) (hr0_0:Kd.C k65 w A0_0 l0_0.length l0_0) (hc0_0:l0_0.length≤c0_0) (hr0_1:Kd.C k73 w A0_1 l0_1.length l0_1) (hc0_1:l0_1.length≤c0_1) (hr0_2:Kd.C Kd.string w A0_2 l0_2.length l0_2) (hc0_2:l0_2.length≤c0_2) (hr0_3:Kd.C k68 w A0_3 l0_3.length l0_3) (hc0_3:l0_3.length≤c0_3) (h:sl14_Little.f k l0_0 l0_1 l0_2 l0_3 a0_4=some r) :
  Calls Tryz.prog 10 #[.agg #[.slice A0_0 l0_0.length c0_0,.slice A0_1 l0_1.length c0_1,.slice A0_2 l0_2.length c0_2,.slice A0_3 l0_3.length c0_3,.int .i64 a0_4]] w fun e w'=>e=.returned (.bool r)∧Below w.heap.size w w':=by
 have hu27:=Tryz.underlying27
 have HR0_0:=jM hr0_0
 have HC0_0:=jM hc0_0
 clear hr0_0 hc0_0
 have HR0_1:=jM hr0_1
 have HC0_1:=jM hc0_1
 clear hr0_1 hc0_1
 have HR0_2:=jM hr0_2
 have HC0_2:=jM hc0_2
 clear hr0_2 hc0_2
 have HR0_3:=jM hr0_3
 have HC0_3:=jM hc0_3
 clear hr0_3 hc0_3
 have HB:=jM (Below.refl w.heap.size w)
 have H:((sl13_Few.f k l0_0 l0_1 l0_2 l0_3 a0_4).bind fun t318=>(sl14_Little.l0 k t318 0 l0_0 l0_1 l0_2 l0_3 a0_4))=some r:=h
 clear h
 replace H:=Option.bind_eq_some_iff.mp H
 obtain ⟨t318,A20,H⟩:=H
 replace H:(sl14_Little.l0 k t318 0 l0_0 l0_1 l0_2 l0_3 a0_4)=some r:=H
 have A2:=jM A20
 clear A20
 have H':=jM H
 clear H
 go_enter Tryz.func10,Tryz.ntmps10
 go_wp2_with (first | ((with_reducible refine gate_dst (N:=1) rfl ?_);(try (refine gate_guard (by rfl) ?_;dsimp only));refine box_event ?hg (N:=1) ?hd (cs:=#[.slice A0_0 l0_0.length c0_0,.slice A0_1 l0_1.length c0_1,.slice A0_2 l0_2.length c0_2,.slice A0_3 l0_3.length c0_3,.int .i64 a0_4]) (t:=27) ?hr ?_;(case hd=>rfl);(case hg=>rfl);(case hr=>first | (go_simp;done) | (go_simp;rfl));intro gb317 hg w3 hbox hb;have n0_:=jM (jT (tB HB.out) hb);have n1_:=jM (hbox);have n2_:=jM ((by rw [hg];exact (below_size (tB HB.out)):w.heap.size≤gb317));have n3_:=jM ((by rw [hg];exact (below_size (tB HB.out)):w.heap.size≤gb317));clear HB;have HB:=n0_;have BK317:=n1_;have GW317:=n2_;have GE317:=n3_;clear n0_ n1_ n2_ n3_;clear hb hbox hg;obtain ⟨hcz4_0,hcz4_1,hcz4_2,hcz4_3,hcz4_4⟩:=jC5 BK317.out;have hfz4_0:=jF BK317.out 0;have hfz4_1:=jF BK317.out 1;have hfz4_2:=jF BK317.out 2;have hfz4_3:=jF BK317.out 3;have hfz4_4:=jF BK317.out 4) | ((with_reducible refine gate_callee (f:=23) rfl ?_);refine goesL_ (some 6) rfl rfl Tryz.func23 (by kernel_rfl) rfl #[.agg #[.slice A0_0 l0_0.length c0_0,.slice A0_1 l0_1.length c0_1,.slice A0_2 l0_2.length c0_2,.slice A0_3 l0_3.length c0_3,.int .i64 a0_4]] rfl tM ?_;(with_reducible refine (sl13_Few.calls k _ _ l0_0 _ _ l0_1 _ _ l0_2 _ _ l0_3 a0_4 t318 _ ?side1 ?side2 ?side3 ?side4 ?side5 ?side6 ?side7 ?side8 A2.out).mono ?_);(case side1=>exact tC (jB HR0_0.out HB.out));(case side2=>exact HC0_0.out);(case side3=>exact tC (jB HR0_1.out HB.out));(case side4=>exact HC0_1.out);(case side5=>exact tC (jB HR0_2.out HB.out));(case side6=>exact HC0_2.out);(case side7=>exact tC (jB HR0_3.out HB.out));(case side8=>exact HC0_3.out);rintro e w5 ⟨rfl,hb⟩;refine ⟨_,rfl, ?_⟩;replace BK317:=jM (jW (g:=gb317) (o:=.cells #[.slice A0_0 l0_0.length c0_0,.slice A0_1 l0_1.length c0_1,.slice A0_2 l0_2.length c0_2,.slice A0_3 l0_3.length c0_3,.int .i64 a0_4] 27 (0,0)) (tK BK317.out) hb);replace HB:=jM (jT (tE HB.out) hb);(try clear hb);(try clear hb2);(try clear hk);(try clear hi)))
 go_loopg [4] k (fun kq v4 w'=>∃ (x4_1:Int),v4=.int .i64 x4_1∧Aside0 (sl14_Little.l0 kq t318 x4_1 l0_0 l0_1 l0_2 l0_3 a0_4=some r)∧Aside0 (kq≤k)∧Aside0 (w'.heap[gb317]? = some (.cells #[(.slice A0_0 l0_0.length c0_0),(.slice A0_1 l0_1.length c0_1),(.slice A0_2 l0_2.length c0_2),(.slice A0_3 l0_3.length c0_3),.int .i64 a0_4] 27 (0,0)))∧Aside0 (Below w.heap.size w w'))
 case atStart=>exact ⟨(0),tZ,H',⟨Nat.le_refl _⟩,⟨tK BK317.out⟩,⟨tE HB.out⟩⟩
 case round =>
  clear H'
  try clear c1
  try clear c2
  try clear p2
  try clear hcz4_0
  try clear hcz4_1
  try clear hcz4_2
  try clear hcz4_3
  try clear hcz4_4
  try clear hfz4_0
  try clear hfz4_1
  try clear hfz4_2
  try clear hfz4_3
  try clear hfz4_4
  obtain ⟨x4_1,rfl,HA,HK1,BK317,HB⟩:=hrel
  cases gk with
  | zero=>exact absurd HA.out (by simp [sl14_Little.l0])
  | succ k1 =>
   have H:=HA.out
   clear HA
   simp only [sl14_Little.l0] at H
   have HC6:=jM H
   clear H
   go_upto_region 3 with (fail)
   go_cut [15] (fun v15 wc=>∃ (kq:Nat) (x15_5:Bool),v15=.bool x15_5∧Aside0 (sl14_Little.j1 kq t318 x4_1 x15_5 l0_0 l0_1 l0_2 l0_3 a0_4=some r)∧Aside0 (kq≤k1)∧Aside0 (wc.heap[gb317]? = some (.cells #[(.slice A0_0 l0_0.length c0_0),(.slice A0_1 l0_1.length c0_1),(.slice A0_2 l0_2.length c0_2),(.slice A0_3 l0_3.length c0_3),.int .i64 a0_4] 27 (0,0)))∧Aside0 (Below w.heap.size w wc))
   case first =>
    have H:=HC6.out
    clear HC6
    by_cases c7:x4_1 < (l0_3.length:Int)
    ·rw [if_pos c7] at H
     have c7b0:decide (x4_1 < (l0_3.length:Int))=true:=decide_eq_true c7
     clear c7
     (first | rw [c7b0] | (simp only [i64_w,i32_w];rw [c7b0]) | skip)
     have H':=jM H
     clear H
     have hcz8_0:wr.cell? ⟨gb317,0,none⟩=some (.slice A0_0 l0_0.length c0_0):=(jC BK317.out 0).trans rfl
     have hcz8_1:wr.cell? ⟨gb317,1,none⟩=some (.slice A0_1 l0_1.length c0_1):=(jC BK317.out 1).trans rfl
     have hcz8_2:wr.cell? ⟨gb317,2,none⟩=some (.slice A0_2 l0_2.length c0_2):=(jC BK317.out 2).trans rfl
     have hcz8_3:wr.cell? ⟨gb317,3,none⟩=some (.slice A0_3 l0_3.length c0_3):=(jC BK317.out 3).trans rfl
     have hcz8_4:wr.cell? ⟨gb317,4,none⟩=some (.int .i64 a0_4):=(jC BK317.out 4).trans rfl
     have hfz8_0:=jF BK317.out 0
     have hfz8_1:=jF BK317.out 1
     have hfz8_2:=jF BK317.out 2
     have hfz8_3:=jF BK317.out 3
     have hfz8_4:=jF BK317.out 4
     go_wp2
     go_meet
     case rel=>exact ⟨_,(decide (x4_1 < 15)),tZ,H',⟨by have:=HK1.out;first | omega | exact Nat.le_refl _⟩,⟨tK BK317.out⟩,⟨tE HB.out⟩⟩
    ·rw [if_neg c7] at H
     have c7b0:decide (x4_1 < (l0_3.length:Int))=false:=decide_eq_false c7
     clear c7
     (first | rw [c7b0] | (simp only [i64_w,i32_w];rw [c7b0]) | skip)
     have H':=jM H
     clear H
     have hcz9_0:wr.cell? ⟨gb317,0,none⟩=some (.slice A0_0 l0_0.length c0_0):=(jC BK317.out 0).trans rfl
     have hcz9_1:wr.cell? ⟨gb317,1,none⟩=some (.slice A0_1 l0_1.length c0_1):=(jC BK317.out 1).trans rfl
     have hcz9_2:wr.cell? ⟨gb317,2,none⟩=some (.slice A0_2 l0_2.length c0_2):=(jC BK317.out 2).trans rfl
     have hcz9_3:wr.cell? ⟨gb317,3,none⟩=some (.slice A0_3 l0_3.length c0_3):=(jC BK317.out 3).trans rfl
     have hcz9_4:wr.cell? ⟨gb317,4,none⟩=some (.int .i64 a0_4):=(jC BK317.out 4).trans rfl
     have hfz9_0:=jF BK317.out 0
     have hfz9_1:=jF BK317.out 1
     have hfz9_2:=jF BK317.out 2
     have hfz9_3:=jF BK317.out 3
     have hfz9_4:=jF BK317.out 4
     go_wp2
     go_meet
     case rel=>exact ⟨_,(false),tZ,H',⟨by have:=HK1.out;first | omega | exact Nat.le_refl _⟩,⟨tK BK317.out⟩,⟨tE HB.out⟩⟩
   case rest =>
    clear HC6
    try clear c1
    try clear c2
    try clear p2
    try clear c7
    try clear c7b0
    try clear hcz4_0
    try clear hcz4_1
    try clear hcz4_2
    try clear hcz4_3
    try clear hcz4_4
    try clear hcz8_0
    try clear hcz8_1
    try clear hcz8_2
    try clear hcz8_3
    try clear hcz8_4
    try clear hcz9_0
    try clear hcz9_1
    try clear hcz9_2
    try clear hcz9_3
    try clear hcz9_4
    try clear hfz4_0
    try clear hfz4_1
    try clear hfz4_2
    try clear hfz4_3
    try clear hfz4_4
    try clear hfz8_0
    try clear hfz8_1
    try clear hfz8_2
    try clear hfz8_3
    try clear hfz8_4
    try clear hfz9_0
    try clear hfz9_1
    try clear hfz9_2
    try clear hfz9_3
    try clear hfz9_4
    try clear p2
    obtain ⟨kq,x15_5,rfl,HA,HJ5,BK317,HB⟩:=hcut
    cases kq with
    | zero=>exact absurd HA.out (by simp [sl14_Little.j1])
    | succ kj5 =>
     have H:=HA.out
     clear HA
     simp only [sl14_Little.j1] at H
     by_cases c10:x15_5=true
     ·subst c10
      have H1:(if 0≤x4_1 then (if x4_1 < (l0_3.length:Int) then (if (((rd_T68 l0_3 x4_1).f2).length:Int) > 5 then (some false) else (sl14_Little.l0 kj5 t318 (wrap64 (x4_1+1)) l0_0 l0_1 l0_2 l0_3 a0_4)) else (none)) else (none))=some r:=by rw [if_pos rfl] at H;exact H
      clear H
      have H:=H1
      clear H1
      by_cases c11:0≤x4_1
      ·rw [if_pos c11] at H
       have c11b0:decide (0≤x4_1)=true:=decide_eq_true c11
       clear c11
       by_cases c12:x4_1 < (l0_3.length:Int)
       ·rw [if_pos c12] at H
        have c12b0:decide (x4_1 < (l0_3.length:Int))=true:=decide_eq_true c12
        clear c12
        by_cases c13:(((rd_T68 l0_3 x4_1).f2).length:Int) > 5
        ·rw [if_pos c13] at H
         have c13b0:decide (5 < (((rd_T68 l0_3 x4_1).f2).length:Int))=true:=decide_eq_true c13
         have c13b1:decide (5 < ((rd_T68 l0_3 x4_1).f2).length)=true:=decide_eq_true (by omega)
         clear c13
         obtain rfl:=Option.some.inj H
         have hcz14_0:wc.cell? ⟨gb317,0,none⟩=some (.slice A0_0 l0_0.length c0_0):=(jC BK317.out 0).trans rfl
         have hcz14_1:wc.cell? ⟨gb317,1,none⟩=some (.slice A0_1 l0_1.length c0_1):=(jC BK317.out 1).trans rfl
         have hcz14_2:wc.cell? ⟨gb317,2,none⟩=some (.slice A0_2 l0_2.length c0_2):=(jC BK317.out 2).trans rfl
         have hcz14_3:wc.cell? ⟨gb317,3,none⟩=some (.slice A0_3 l0_3.length c0_3):=(jC BK317.out 3).trans rfl
         have hcz14_4:wc.cell? ⟨gb317,4,none⟩=some (.int .i64 a0_4):=(jC BK317.out 4).trans rfl
         have hfz14_0:=jF BK317.out 0
         have hfz14_1:=jF BK317.out 1
         have hfz14_2:=jF BK317.out 2
         have hfz14_3:=jF BK317.out 3
         have hfz14_4:=jF BK317.out 4
         have p319:0≤(x4_1:Int):=of_decide_eq_true tD
         have q319:x4_1 < (l0_3.length:Int):=of_decide_eq_true tD
         obtain ⟨ad319,A319_2,c319_2,e319,hx319_0,hx319_1,hx319_2,hx319_3,hl319_2,hi319_2⟩:=at_T68 HR0_3.out x4_1 p319 q319
         cases e319
         replace hx319_0:=(HB.out.cell (jL w _ hx319_0)).trans hx319_0
         replace hx319_1:=(HB.out.cell (jL w _ hx319_1)).trans hx319_1
         replace hx319_2:=(HB.out.cell (jL w _ hx319_2)).trans hx319_2
         replace hx319_3:=(HB.out.cell (jL w _ hx319_3)).trans hx319_3
         have HR319_2:=jM hi319_2
         have HC319_2:=jM hl319_2
         clear hi319_2 hl319_2
         replace p319:=eq_true p319
         replace q319:=eq_true q319
         go_wp2
         go_ret
         exact ⟨by first | rfl | (simp [errW_none,errW_some] <;> rfl) | (simp [*,errW_none,errW_some] <;> rfl),tE HB.out⟩
        ·rw [if_neg c13] at H
         have c13b0:decide (5 < (((rd_T68 l0_3 x4_1).f2).length:Int))=false:=decide_eq_false c13
         have c13b1:decide (5 < ((rd_T68 l0_3 x4_1).f2).length)=false:=decide_eq_false (by omega)
         clear c13
         have H':=jM H
         clear H
         have hcz15_0:wc.cell? ⟨gb317,0,none⟩=some (.slice A0_0 l0_0.length c0_0):=(jC BK317.out 0).trans rfl
         have hcz15_1:wc.cell? ⟨gb317,1,none⟩=some (.slice A0_1 l0_1.length c0_1):=(jC BK317.out 1).trans rfl
         have hcz15_2:wc.cell? ⟨gb317,2,none⟩=some (.slice A0_2 l0_2.length c0_2):=(jC BK317.out 2).trans rfl
         have hcz15_3:wc.cell? ⟨gb317,3,none⟩=some (.slice A0_3 l0_3.length c0_3):=(jC BK317.out 3).trans rfl
         have hcz15_4:wc.cell? ⟨gb317,4,none⟩=some (.int .i64 a0_4):=(jC BK317.out 4).trans rfl
         have hfz15_0:=jF BK317.out 0
         have hfz15_1:=jF BK317.out 1
         have hfz15_2:=jF BK317.out 2
         have hfz15_3:=jF BK317.out 3
         have hfz15_4:=jF BK317.out 4
         have p319:0≤(x4_1:Int):=of_decide_eq_true tD
         have q319:x4_1 < (l0_3.length:Int):=of_decide_eq_true tD
         obtain ⟨ad319,A319_2,c319_2,e319,hx319_0,hx319_1,hx319_2,hx319_3,hl319_2,hi319_2⟩:=at_T68 HR0_3.out x4_1 p319 q319
         cases e319
         replace hx319_0:=(HB.out.cell (jL w _ hx319_0)).trans hx319_0
         replace hx319_1:=(HB.out.cell (jL w _ hx319_1)).trans hx319_1
         replace hx319_2:=(HB.out.cell (jL w _ hx319_2)).trans hx319_2
         replace hx319_3:=(HB.out.cell (jL w _ hx319_3)).trans hx319_3
         have HR319_2:=jM hi319_2
         have HC319_2:=jM hl319_2
         clear hi319_2 hl319_2
         replace p319:=eq_true p319
         replace q319:=eq_true q319
         go_wp2
         go_roundg kj5
         case measure=>have:=HK1.out;have:=HJ5.out;omega
         case rel=>exact ⟨(wrap64 (x4_1+1)),tZ,H',⟨by have:=HK1.out;have:=HJ5.out;omega⟩,⟨tK BK317.out⟩,⟨tE HB.out⟩⟩
       ·rw [if_neg c12] at H
        exact absurd H (by simp)
      ·rw [if_neg c11] at H
       exact absurd H (by simp)
     ·replace c10:=Bool.eq_false_iff.mpr c10
      subst c10
      have H1:(if t318=true then (some (decide ((l0_3.length:Int)≤10))) else (some false))=some r:=by rw [if_neg (show ¬ (false=true) by decide)] at H;exact H
      clear H
      have H:=H1
      clear H1
      by_cases c16:t318=true
      ·subst c16
       have H1:(some (decide ((l0_3.length:Int)≤10)))=some r:=by rw [if_pos rfl] at H;exact H
       clear H
       have H:=H1
       clear H1
       obtain rfl:=Option.some.inj H
       have hcz17_0:wc.cell? ⟨gb317,0,none⟩=some (.slice A0_0 l0_0.length c0_0):=(jC BK317.out 0).trans rfl
       have hcz17_1:wc.cell? ⟨gb317,1,none⟩=some (.slice A0_1 l0_1.length c0_1):=(jC BK317.out 1).trans rfl
       have hcz17_2:wc.cell? ⟨gb317,2,none⟩=some (.slice A0_2 l0_2.length c0_2):=(jC BK317.out 2).trans rfl
       have hcz17_3:wc.cell? ⟨gb317,3,none⟩=some (.slice A0_3 l0_3.length c0_3):=(jC BK317.out 3).trans rfl
       have hcz17_4:wc.cell? ⟨gb317,4,none⟩=some (.int .i64 a0_4):=(jC BK317.out 4).trans rfl
       have hfz17_0:=jF BK317.out 0
       have hfz17_1:=jF BK317.out 1
       have hfz17_2:=jF BK317.out 2
       have hfz17_3:=jF BK317.out 3
       have hfz17_4:=jF BK317.out 4
       go_wp2
       go_ret
       exact ⟨by first | rfl | (simp [errW_none,errW_some] <;> rfl) | (simp [*,errW_none,errW_some] <;> rfl),tE HB.out⟩
      ·replace c16:=Bool.eq_false_iff.mpr c16
       subst c16
       have H1:(some false)=some r:=by rw [if_neg (show ¬ (false=true) by decide)] at H;exact H
       clear H
       have H:=H1
       clear H1
       obtain rfl:=Option.some.inj H
       go_wp2
       go_ret
       exact ⟨by first | rfl | (simp [errW_none,errW_some] <;> rfl) | (simp [*,errW_none,errW_some] <;> rfl),tE HB.out⟩
end
end Go.Proofs.YtclollnicbcooaaGreatDoor.P
namespace Go.Proofs.YtclollnicbcooaaGreatDoor.P
open Go.RowKit YtclollnicbcooaaGreatDoorW.PrintWords YtclollnicbcooaaGreatDoorW.PrintLast YtclollnicbcooaaGreatDoorW.PrintMore St
section
theorem little_l0 (x3:Bool) (l0:List S65) (l1:List S73) (l2:List ByteArray) (l3:List S68) (st:Int):∀ (m i:Nat),i+m=15→∃ b,Ev (fun k=>sl14_Little.l0 k x3 i l0 l1 l2 l3 st) b
 | 0,i,hi=>by
  refine ⟨if x3=true then decide ((l3.length:Int)≤10) else false, ?_⟩
  have hj:Ev (fun k=>sl14_Little.j1 k x3 i false l0 l1 l2 l3 st) (if x3=true then decide ((l3.length:Int)≤10) else false):=by
   refine Ev.step (f:=fun _=>some (if x3=true then decide ((l3.length:Int)≤10) else false)) (fun k=>?_) (Ev.now _)
   rw [sl14_Little.j1,if_neg (by decide)]
   split <;> rfl
  refine Ev.step (fun k=>?_) hj
  rw [sl14_Little.l0,decide_eq_false (by omega)]
  split <;> rfl
 | m+1,i,hi=>by
  have hw:=wrap_up i (by omega)
  by_cases hlt:i < l3.length
  ·by_cases h5:(((rd_T68 l3 (i:Int)).f2).length:Int) > 5
   ·refine ⟨false, ?_⟩
    have hj:Ev (fun k=>sl14_Little.j1 k x3 i true l0 l1 l2 l3 st) false:=by
     refine Ev.step (f:=fun _=>some false) (fun k=>?_) (Ev.now _)
     rw [sl14_Little.j1,if_pos rfl,if_pos (by omega),if_pos (by omega),if_pos h5]
    refine Ev.step (fun k=>?_) hj
    rw [sl14_Little.l0,if_pos (by omega),decide_eq_true (by omega)]
   ·obtain ⟨b,ih⟩:=little_l0 x3 l0 l1 l2 l3 st m (i+1) (by omega)
    refine ⟨b, ?_⟩
    have hj:Ev (fun k=>sl14_Little.j1 k x3 i true l0 l1 l2 l3 st) b:=by
     refine Ev.step (fun k=>?_) ih
     rw [sl14_Little.j1,if_pos rfl,if_pos (by omega),if_pos (by omega),if_neg h5,hw]
    refine Ev.step (fun k=>?_) hj
    rw [sl14_Little.l0,if_pos (by omega),decide_eq_true (by omega)]
  ·refine ⟨if x3=true then decide ((l3.length:Int)≤10) else false, ?_⟩
   have hj:Ev (fun k=>sl14_Little.j1 k x3 i false l0 l1 l2 l3 st) (if x3=true then decide ((l3.length:Int)≤10) else false):=by
    refine Ev.step (f:=fun _=>some (if x3=true then decide ((l3.length:Int)≤10) else false)) (fun k=>?_) (Ev.now _)
    rw [sl14_Little.j1,if_neg (by decide)]
    split <;> rfl
   refine Ev.step (fun k=>?_) hj
   rw [sl14_Little.l0,if_neg (by omega)]
theorem little_ev (l0:List S65) (l1:List S73) (l2:List ByteArray) (l3:List S68) (st:Int):∃ b,Ev (fun k=>sl14_Little.f k l0 l1 l2 l3 st) b:=by
 obtain ⟨b0,hf, -⟩:=few_is l0 l1 l2 l3 st 32 (Nat.le_refl _)
 obtain ⟨b,hb⟩:=little_l0 b0 l0 l1 l2 l3 st 15 0 rfl
 refine ⟨b, ?_⟩
 unfold sl14_Little.f
 exact Ev.bind (f:=fun k t=>sl14_Little.l0 k t 0 l0 l1 l2 l3 st) (Ev.of (fun k=>sl13_Few.mono _ _ _ _ _ k) hf) hb

theorem rdL17 (N:List (List Int)) (i:Nat) (h:i < N.length):rd_L17 N (i:Int)=N[i]:=by
 unfold rd_L17
 rw [Int.toNat_natCast,List.getD_eq_getElem?_getD,List.getElem?_eq_getElem h]
 rfl
theorem rd_at (l:List Int) (i:Nat) {v:Int} (h:l[i]? = some v):Go.Proofs.YtclollnicbcooaaGreatDoorW.PrintWords.rd l (i:Int)=v:=by
 unfold Go.Proofs.YtclollnicbcooaaGreatDoorW.PrintWords.rd
 rw [Int.toNat_natCast,List.getD_eq_getElem?_getD,h]
 rfl
section
variable {l0:List S65} {l1:List S73} {l2:List ByteArray} {l3:List S68} {st:Int} (hv:validB l0 l1 l2 l3 st=true) (hr:∀ p ∈ l3,∀ s ∈ p.f2, -9223372036854775808≤s∧s≤9223372036854775807)
include hv
theorem behind_sym {x:Itm} {t:Int} (hr:∀ p ∈ l3,∀ s ∈ p.f2, -9223372036854775808≤s∧s≤9223372036854775807) (hb:behindL (gr st l3) x=some t):-(l2.length:Int)≤t∧t < l0.length:=by
 have hF:=fits_of hv
 unfold behindL at hb
 cases hq:rightL (gr st l3) x.1 with
 | none=>rw [hq] at hb;cases hb
 | some r =>
  rw [hq] at hb
  simp only at hb
  split at hb
  ·rename_i hx
   injection hb with hb
   have hm:t ∈ r:=by
    rw [← hb,List.getD_eq_getElem?_getD,List.getElem?_eq_getElem (by omega)]
    exact List.getElem_mem _
   unfold rightL at hq
   rw [gr_len] at hq
   split at hq
   ·injection hq with hq
    rw [← hq] at hm
    have hm:=List.mem_singleton.1 hm
    have h1:=hF.lo;have h2:=hF.hi
    have e:(gr st l3).start=st:=rfl
    rw [e] at hm
    omega
   ·split at hq
    ·rename_i h1 h2
     rw [gr_at st l3 x.1 h2.1 h2.2] at hq
     injection hq with hq
     rw [← hq] at hm
     have hin:(rd_T68 l3 x.1) ∈ l3:=by
      unfold rd_T68
      rw [List.getD_eq_getElem?_getD,List.getElem?_eq_getElem (by omega)]
      exact List.getElem_mem _
     have hv2:=hv
     unfold validB at hv2
     simp only [Bool.and_eq_true] at hv2
     have hp:=List.all_eq_true.1 hv2.1.1.1.2 _ hin
     unfold prodB at hp
     simp only [Bool.and_eq_true,Bool.not_eq_true'] at hp
     have ho:=List.any_eq_false.1 hp.2 t hm
     have hrt:=hr _ hin t hm
     have hw:IntKind.i64.wrap (-1 - t)=-1 - t:=IntWalk.i64_in _ (by omega)
     unfold oddB inB at ho
     rw [hw] at ho
     simp only [Bool.or_eq_true,Bool.and_eq_true,Bool.not_eq_true',decide_eq_true_eq,Bool.and_eq_false_iff,decide_eq_false_iff_not,not_or,not_and] at ho
     omega
    ·cases hq
  ·cases hb
theorem Sg_none {c:List Itm} {s:Int} (h:∀ x,behindL (gr st l3) x≠some s):Sg (gr st l3) c s=[]:=by
 have e:stepL (gr st l3) (risen (closedL (gr st l3) c)) s=[]:=by
  unfold stepL
  rw [List.filterMap_eq_nil_iff]
  intro x _
  rw [if_neg (h x)]
 unfold Sg
 rw [e]
 refine List.eq_nil_iff_forall_not_mem.2 fun x hx=>?_
 have:=((risen_is []).mem x).1 hx
 cases this
theorem built_small {K:List (List Itm)} {N:List (List Int)} (h:Built (Sg (gr st l3)) (symsL l0.length l2.length) [(-1,0)] K N):∀ c ∈ K,c.length≤1562∧∀ x ∈ c,rngI x:=by
 intro c hc
 obtain ⟨j,hj,rfl⟩:=List.mem_iff_getElem.1 hc
 have hx:K[j]? = some K[j]:=List.getElem?_eq_getElem hj
 by_cases h0:j=0
 ·subst h0
  have:=h.first
  rw [hx] at this
  rw [Option.some.inj this]
  refine ⟨by simp,fun x hx=>?_⟩
  rw [List.mem_singleton] at hx
  subst hx
  unfold rngI
  simp only
  omega
 ·obtain ⟨i,d,s,_,_,_,_,e⟩:=h.come j _ hx h0
  rw [e]
  exact Sg_small (fits_of hv) d s
theorem go_is (hr:∀ p ∈ l3,∀ s ∈ p.f2, -9223372036854775808≤s∧s≤9223372036854775807) {K:List (List Itm)} {N:List (List Int)} (h:Built (Sg (gr st l3)) (symsL l0.length l2.length) [(-1,0)] K N) {i:Nat} (hi:i < N.length) {c:List Itm} (hc:K[i]? = some c) (s:Int) (hs:-9223372036854775808≤s∧s≤9223372036854775807) (Ka:List (List S77)) :
  ∃ q,states_Go.f l0 l1 l2 l3 st Ka N i s=some q∧NumOf K (Sg (gr st l3) c s) q:=by
 have hT:=terms_few hv
 have hS:=(fits_of hv).sorts
 obtain ⟨row,hrow,hlen,hg⟩:=h.goes i c hi hc
 rw [symsL_len] at hlen
 have hri:rd_L17 N (i:Int)=row:=by
  rw [rdL17 N i hi]
  rw [List.getElem?_eq_getElem hi] at hrow
  exact Option.some.inj hrow
 have nope:(s < -(l2.length:Int) ∨ (l0.length:Int)≤s)→NumOf K (Sg (gr st l3) c s) (-1):=fun hn=>.inl ⟨Sg_none hv (fun x hx=>by have:=behind_sym hv hr hx;omega),rfl⟩
 unfold states_Go.f
 rw [hri]
 have hw1:wrap64 ((-1) - s)=if s < 0 then -1 - s else -1 - s:=by
  rw [IntWalk.wrap64_in _ (by omega)]
  split <;> rfl
 by_cases hs0:s < 0
 ·rw [if_pos hs0,IntWalk.wrap64_in ((-1) - s) (by omega),if_neg (by omega),if_neg (by omega)]
  by_cases hq:-(l2.length:Int)≤s
  ·have hw:wrap64 ((l0.length:Int)+(-1 - s))=(l0.length:Int)+(-1 - s):=IntWalk.wrap64_in _ (by omega)
   obtain ⟨j,hj⟩:∃ j:Nat,(l0.length:Int)+(-1 - s)=j:=⟨((l0.length:Int)+(-1 - s)).toNat,by omega⟩
   have hsy:=symsL_at l0.length l2.length j (by omega)
   rw [if_pos (by omega),show (-1 - ((j:Int) - l0.length))=s by omega] at hsy
   obtain ⟨n,hn,hnum⟩:=hg j s hsy
   rw [hw,hj,if_neg (by omega),if_pos (by omega),if_pos (by omega),if_neg (by omega),if_pos (by omega),if_pos (by omega),rd_at row j hn]
   exact ⟨n,rfl,hnum⟩
  ·refine ⟨-1, ?_,nope (.inl (by omega))⟩
   by_cases hw0:wrap64 ((l0.length:Int)+(-1 - s)) < 0
   ·rw [if_pos hw0]
   ·have hge:wrap64 ((l0.length:Int)+(-1 - s)) ≥ (row.length:Int):=by
     unfold wrap64 at hw0 ⊢
     omega
    rw [if_neg hw0,if_pos (by omega),if_pos (by omega),if_pos hge]
 ·rw [if_neg hs0]
  by_cases hq:s ≥ (l0.length:Int)
  ·rw [if_pos hq]
   exact ⟨-1,rfl,nope (.inr (by omega))⟩
  ·obtain ⟨j,hj⟩:∃ j:Nat,s=j:=⟨s.toNat,by omega⟩
   have hsy:=symsL_at l0.length l2.length j (by omega)
   rw [if_neg (by omega),← hj] at hsy
   obtain ⟨n,hn,hnum⟩:=hg j s hsy
   rw [if_neg hq,if_neg (by omega),if_neg (by omega),if_pos (by omega),if_pos (by omega),if_neg (by omega),if_pos (by omega),if_pos (by omega),hj,rd_at row j hn]
   exact ⟨n,rfl,by rw [← hj];exact hnum⟩
end
end
end Go.Proofs.YtclollnicbcooaaGreatDoor.P
namespace Go.Proofs.YtclollnicbcooaaGreatDoor.P
open Go.RowKit Go.Lib Go.Sort YtclollnicbcooaaGreatDoorW.PrintWords YtclollnicbcooaaGreatDoorW.PrintLast YtclollnicbcooaaGreatDoorW.PrintMore St Base Bitty
section
section
variable {l0:List S65} {l1:List S73} {l2:List ByteArray} {l3:List S68} {st:Int}
theorem sg_has (hv:validB l0 l1 l2 l3 st=true) (c:List Itm) (s:Int) (x:Itm):x ∈ Sg (gr st l3) c s ↔ Sp (gr st l3) (Cl (gr st l3) (· ∈ c)) s x:=by
 unfold Sg
 rw [(risen_is _).mem,stepL_mem]
 have hR:=closedL_rise (fits_of hv) c
 exact ⟨fun ⟨y,h1,h2⟩=>⟨y,(hR.mem y).1 h1,h2⟩,fun ⟨y,h1,h2⟩=>⟨y,(hR.mem y).2 h1,h2⟩⟩
theorem rightF_is (hv:validB l0 l1 l2 l3 st=true) {p:Int} {r:List Int} (h:rightL (gr st l3) p=some r):rightF st l3 p=some r:=by
 unfold rightL at h
 unfold rightF
 split at h
 ·rename_i hp
  rw [if_pos (by omega),wrap_start (fits_of hv)]
  exact h
 ·split at h
  ·rename_i hp
   rw [gr_len] at hp
   rw [if_neg (by omega),if_pos (by omega)]
   rw [gr_at st l3 p hp.1 hp.2] at h
   exact h
  ·cases h
theorem behind_right {g:Gr} {x:Itm} {sym:Int} (h:behindL g x=some sym):∃ r,rightL g x.1=some r∧0≤x.2∧x.2 < r.length∧r=r.take x.2.toNat ++ sym :: r.drop (x.2.toNat+1):=by
 unfold behindL at h
 cases hr:rightL g x.1 with
 | none=>rw [hr] at h;cases h
 | some r =>
  rw [hr] at h
  simp only at h
  split at h
  ·rename_i hx
   injection h with h
   refine ⟨r,rfl,hx.1,hx.2, ?_⟩
   have hlt:x.2.toNat < r.length:=by omega
   rw [List.getD_eq_getElem?_getD,List.getElem?_eq_getElem hlt,Option.getD_some] at h
   rw [← h,List.getElem_cons_drop,List.take_append_drop]
  ·cases h
def isEdge (l3:List S68) (st:Int) (K:List (List Itm)) (n:Nat) (c:List Itm) (x:Itm) (e:Edg):Prop:=∃ sym r,behindL (gr st l3) x=some sym∧rightL (gr st l3) x.1=some r∧((∃ t:Nat,K[t]? = some (Sg (gr st l3) c sym)∧e=(((t:Int),(x.1,x.2+1)),[])) ∨ (sym < 0∧∃ p:Nat,p < l3.length∧(rd_T68 l3 p).f1=-1 - sym∧e=(((n:Int),((p:Int),0)),r.drop (x.2.toNat+1))))
theorem sortsE_mem (i sym:Int) (r:List Int) (m:Nat) (e:Edg) (hs:-60≤sym∧sym < 0):e ∈ sortsE l3 i sym r m ↔ ∃ p:Nat,p < m∧(rd_T68 l3 p).f1=-1 - sym∧e=((i,((p:Int),0)),r):=by
 unfold sortsE
 rw [List.mem_map]
 constructor
 ·rintro ⟨p,hp,rfl⟩
  obtain ⟨h1,h2⟩:=List.mem_filter.1 hp
  rw [beq_iff_eq,wrap_neg hs.1 hs.2] at h2
  exact ⟨p,List.mem_range.1 h1,h2,rfl⟩
 ·rintro ⟨p,hp,h2,rfl⟩
  refine ⟨p,List.mem_filter.2 ⟨List.mem_range.2 hp, ?_⟩,rfl⟩
  rw [beq_iff_eq,wrap_neg hs.1 hs.2]
  exact h2
theorem edges_is (hv:validB l0 l1 l2 l3 st=true) (hr:∀ p ∈ l3,∀ s ∈ p.f2, -9223372036854775808≤s∧s≤9223372036854775807) {K:List (List Itm)} {N:List (List Int)} (hB:Built (Sg (gr st l3)) (symsL l0.length l2.length) [(-1,0)] K N) (hN:N.length=K.length) {n:Nat} {c:List Itm} (hc:K[n]? = some c) {x:Itm} (hx:Cl (gr st l3) (· ∈ c) x) (Ka:List (List S77)) :
  ∃ es,edgesF l0 l1 l2 l3 st Ka N ((n:Int),x)=some es∧es.length≤1000000∧∀ e,e ∈ es ↔ isEdge l3 st K n c x e:=by
 have hF:=fits_of hv
 unfold edgesF
 simp only
 rw [Behind_ok hv,Option.bind_some]
 cases hb:behindL (gr st l3) (x.1,x.2) with
 | none =>
  simp only
  refine ⟨[],by simp,by simp,fun e=>⟨fun h=>(by cases h),fun ⟨sym,r,h,_⟩=>?_⟩⟩
  rw [show (x.1,x.2)=x from rfl,h] at hb
  cases hb
 | some sym =>
  simp only
  replace hb:behindL (gr st l3) x=some sym:=hb
  have hsy:=behind_sym hv hr hb
  have hS:=hF.sorts
  obtain ⟨hlo,hhi⟩:=behind_short hF hb
  obtain ⟨hlt,_⟩:=List.getElem?_eq_some_iff.1 hc
  have hT:=terms_few hv
  obtain ⟨q,hq,hnum⟩:=go_is hv hr hB (by omega:n < N.length) hc sym (by omega) Ka
  obtain ⟨r,hrr,h0,h1,h2⟩:=behind_right hb
  have hin:(x.1,x.2+1) ∈ Sg (gr st l3) c sym:=(sg_has hv c sym _).2 ⟨x,hx,hb,rfl⟩
  have hw:IntKind.i64.wrap (x.2+1)=x.2+1:=IntWalk.i64_in _ (by omega)
  rcases hnum with ⟨e0,_⟩ | ⟨_,t,rfl,ht⟩
  ·rw [e0] at hin;cases hin
  ·rw [if_pos trivial,hq,Option.bind_some,hw]
   have hone:∀ t':Nat,K[t']? = some (Sg (gr st l3) c sym)→t'=t:=fun t' h=>nodup_at hB.apart h ht
   by_cases hn:sym < 0
   ·have hrest:restF st l3 x=some (r.drop (x.2.toNat+1)):=by
     unfold restF
     rw [if_pos h0,rightF_is hv hrr,Option.bind_some,if_pos (by omega)]
    rw [if_pos hn,hrest]
    refine ⟨_,rfl, ?_,fun e=>?_⟩
    ·rw [List.length_cons]
     have h3:(sortsE l3 (n:Int) sym (r.drop (x.2.toNat+1)) l3.length).length≤l3.length:=by
      unfold sortsE
      rw [List.length_map]
      exact Nat.le_trans (List.length_filter_le _ _) (by simp)
     have:=hF.few
     omega
    ·rw [List.mem_cons,sortsE_mem _ _ _ _ _ ⟨by omega,hn⟩]
     constructor
     ·rintro (rfl | ⟨p,hp,h3,rfl⟩)
      ·exact ⟨sym,r,hb,hrr,.inl ⟨t,ht,rfl⟩⟩
      ·exact ⟨sym,r,hb,hrr,.inr ⟨hn,p,hp,h3,rfl⟩⟩
     ·rintro ⟨sym',r',hb',hrr',h⟩
      rw [hb] at hb'
      rw [hrr] at hrr'
      obtain rfl:=Option.some.inj hb'
      obtain rfl:=Option.some.inj hrr'
      rcases h with ⟨t',ht',rfl⟩ | ⟨_,p,hp,h3,rfl⟩
      ·exact .inl (by rw [hone t' ht'])
      ·exact .inr ⟨p,hp,h3,rfl⟩
   ·rw [if_neg hn]
    refine ⟨_,rfl,by simp,fun e=>?_⟩
    rw [List.mem_singleton]
    constructor
    ·rintro rfl
     exact ⟨sym,r,hb,hrr,.inl ⟨t,ht,rfl⟩⟩
    ·rintro ⟨sym',r',hb',hrr',h⟩
     rw [hb] at hb'
     obtain rfl:=Option.some.inj hb'
     rcases h with ⟨t',ht',rfl⟩ | ⟨h3,_⟩
     ·rw [hone t' ht']
     ·exact absurd h3 hn

def mayBe (l0:List S65) (l2:List ByteArray) (l3:List S68) (st:Int) (s:Spt) (b:Nat):Prop:=(s.2.1=-1→b=63)∧(0≤s.2.1→tb (rd (wR l0 l2 l3 st) (rd_T68 l3 s.2.1).f1) b=true)
theorem mayBe_edge (h:Order l0 l1 l2 l3 st) {K:List (List Itm)} {n:Nat} {c:List Itm} {x:Itm} (hx:isI (gr st l3) x=true) {e:Edg} (he:isEdge l3 st K n c x e) {v:Int} (hv:ok v) (hz:∀ b,tb v b=true→mayBe l0 l2 l3 st ((n:Int),x) b) (b:Nat) (hb:tb (oR l0 l2 l3 e.2 v) b=true):mayBe l0 l2 l3 st e.1 b:=by
 obtain ⟨sym,r,h1,h2,he⟩:=he
 rcases he with ⟨t,_,rfl⟩ | ⟨hn,p,hp,h3,rfl⟩
 ·simp only at hb
  rw [oR_nil h v hv] at hb
  exact hz b hb
 ·simp only at hb
  refine ⟨fun hq=>by simp only at hq;omega,fun _=>?_⟩
  simp only
  rw [h3]
  obtain ⟨r',hr',h0,hl,hcut⟩:=behind_right h1
  rw [h2] at hr'
  obtain rfl:=Option.some.inj hr'
  unfold rightL at h2
  split at h2
  ·rename_i hq
   injection h2 with h2
   have hx0:x.2=0:=by rw [← h2] at hl;simp at hl;omega
   rw [← h2,hx0] at hb hcut
   have hd:(List.drop ((0:Int).toNat+1) [-1 - (gr st l3).start])=[]:=rfl
   rw [hd,oR_nil h v hv] at hb
   have hsym:-1 - st=sym:=by simpa [gr] using hcut
   have:=(hz b hb).1 hq
   subst this
   rw [← hsym,show (-1 - (-1 - st))=st by omega]
   exact folR_start h.gram (fR_ok h) h.lo h.hi
  ·split at h2
   ·rename_i hq
    rw [gr_len] at hq
    rw [gr_at st l3 x.1 hq.1 hq.2] at h2
    injection h2 with h2
    simp only at h2
    have hin:(rd_T68 l3 x.1) ∈ l3:=by
     unfold rd_T68
     rw [List.getD_eq_getElem?_getD,List.getElem?_eq_getElem (by omega)]
     exact List.getElem_mem _
    rw [(oR_has h _ v hv).2.2] at hb
    refine folR_closed h.gram (fR_ok h) _ hin _ sym _ (by rw [h2];exact hcut) hn b ?_
    exact rowB_mono _ _ _ _ _ _ v _ b (fun _ h=>h) (fun _ h=>h) (fun h4=>(hz b h4).2 hq.1) _ hb
   ·cases h2

def rowOf (g:Gr) (F:Spt→Int) (i:Nat) (c:List Itm):S96:=⟨(risen (closedL g c)).map ofI,(risen (closedL g c)).map fun x=>F ((i:Int),x)⟩
theorem out_is (hv:validB l0 l1 l2 l3 st=true) (hr:∀ p ∈ l3,∀ s ∈ p.f2, -9223372036854775808≤s∧s≤9223372036854775807) (F:Spt→Int):∀ (K:List (List Itm)) (i:Nat),(∀ c ∈ K,c.length≤1562∧∀ x ∈ c,rngI x)→i+K.length≤1000000→outF (states_Close.f l0 l1 l2 l3 st) F i (K.map (·.map ofI))=some (K.mapIdx fun j c=>rowOf (gr st l3) F (i+j) c)
 | [],i,_,_=>rfl
 | c :: K,i,hs,hi=>by
  obtain ⟨h1,h2⟩:=hs c (by simp)
  rw [List.length_cons] at hi
  have hC:=close_ok hr hv (c.map ofI) (by rw [List.length_map];omega) (rngI_okI h2)
  rw [map_toI_ofI] at hC
  have hsm:=closed_small (fits_of hv) c
  rw [List.map_cons,outF,hC,Option.bind_some,if_pos]
  ·rw [out_is hv hr F K (i+1) (fun c hc=>hs c (by simp [hc])) (by omega),Option.map_some,List.mapIdx_cons]
   congr 2
   ·unfold rowOf
    rw [List.map_map,Nat.add_zero]
    rfl
   ·congr 1
    funext j c
    rw [show i+1+j=i+(j+1) by omega]
  ·refine ⟨fun x hx=>?_,by rw [List.length_map];omega⟩
   obtain ⟨y,hy,rfl⟩:=List.mem_map.1 hx
   rw [toI_ofI]
   have:=isI_rng (fits_of hv) (cl_is _ _ _ ((closedL_rise (fits_of hv) c).mem y |>.1 hy))
   unfold rngS rngN rngI
   simp only
   omega

def Sp0 (l3:List S68) (st:Int) (K:List (List Itm)) (s:Spt):Prop:=∃ (n:Nat) (c:List Itm),K[n]? = some c∧Cl (gr st l3) (· ∈ c) s.2∧s.1=(n:Int)
theorem edge_spot (hv:validB l0 l1 l2 l3 st=true) {K:List (List Itm)} {n:Nat} {c:List Itm} (hc:K[n]? = some c) {x:Itm} (hx:Cl (gr st l3) (· ∈ c) x) {e:Edg} (he:isEdge l3 st K n c x e):Sp0 l3 st K e.1:=by
 obtain ⟨sym,r,h1,h2,he⟩:=he
 rcases he with ⟨t,ht,rfl⟩ | ⟨hn,p,hp,h3,rfl⟩
 ·have hin:(x.1,x.2+1) ∈ Sg (gr st l3) c sym:=(sg_has hv c sym _).2 ⟨x,hx,h1,rfl⟩
  have h4:=(sg_has hv c sym _).1 hin
  refine ⟨t,_,ht,.base _ hin ?_,rfl⟩
  obtain ⟨r',hr',h0,hl,_⟩:=behind_right h1
  unfold isI
  simp only
  rw [hr']
  exact decide_eq_true ⟨by omega,by omega⟩
 ·refine ⟨n,c,hc,.next x _ hx ?_,rfl⟩
  unfold nexts
  rw [h1]
  simp only
  rw [if_pos hn]
  refine List.mem_filterMap.2 ⟨p,List.mem_range.2 (by rw [gr_len];exact hp), ?_⟩
  have:=gr_at st l3 (p:Int) (by omega) (by omega)
  rw [Int.toNat_natCast] at this
  rw [this]
  simp only
  rw [if_pos h3]

theorem rows_is (h:Order l0 l1 l2 l3 st) (hr:∀ p ∈ l3,∀ s ∈ p.f2, -9223372036854775808≤s∧s≤9223372036854775807) {K:List (List Itm)} {N:List (List Int)} (hB:Built (Sg (gr st l3)) (symsL l0.length l2.length) [(-1,0)] K N) (hN:N.length=K.length) (hK:K.length≤2003) :
  ∃ k F,look_rows.f k l0 l1 l2 l3 st (K.map (·.map ofI)) N=some (K.mapIdx fun j c=>rowOf (gr st l3) F j c)∧(∀ x,ok (F x))∧(∀ s b,tb (F s) b=true→mayBe l0 l2 l3 st s b)∧tb (F beg0) 63=true ∧
   (∀ (n:Nat) (c:List Itm) (x:Itm) (e:Edg),K[n]? = some c→Cl (gr st l3) (· ∈ c) x→F ((n:Int),x)≠0→isEdge l3 st K n c x e→∀ b,tb (oR l0 l2 l3 e.2 (F ((n:Int),x))) b=true→tb (F e.1) b=true):=by
 have hv:=h.valid
 have hF:=fits_of hv
 obtain ⟨U,hUd⟩:∃ U:List Spt,U=(List.range K.length).flatMap fun (i:Nat)=>(allI (gr st l3)).map fun x=>((i:Int),x):=⟨_,rfl⟩
 have hUl:U.length≤2003 * 1562:=by
  rw [hUd,List.length_flatMap]
  have:(List.map (fun i:Nat=>((allI (gr st l3)).map fun x=>(((i:Int),x):Spt)).length) (List.range K.length))=List.replicate K.length (allI (gr st l3)).length:=by
   apply List.ext_getElem
   ·simp
   ·intro i h1 h2;simp
  rw [this,List.sum_replicate_nat]
  exact Nat.mul_le_mul hK (allI_len hF)
 have hU:∀ s,Sp0 l3 st K s→s ∈ U:=fun s ⟨n,c,hc,hx,he⟩=>by
  obtain ⟨hlt,_⟩:=List.getElem?_eq_some_iff.1 hc
  rw [hUd]
  exact List.mem_flatMap.2 ⟨n,List.mem_range.2 hlt,List.mem_map.2 ⟨s.2,allI_has _ _ (cl_is _ _ _ hx),by rw [← he]⟩⟩
 have hR:∀ s,Sp0 l3 st K s→rngS s:=fun s ⟨n,c,hc,hx,he⟩=>by
  obtain ⟨hlt,_⟩:=List.getElem?_eq_some_iff.1 hc
  have:=isI_rng hF (cl_is _ _ _ hx)
  unfold rngS rngN rngI
  omega
 have hE:∀ s,Sp0 l3 st K s→∃ es,edgesF l0 l1 l2 l3 st (K.map (·.map ofI)) N s=some es∧es.length≤1000000∧∀ e ∈ es,EdgeOk (sets_Of.f 61 l0 l1 l2 l3 st) (Sp0 l3 st K) (mayBe l0 l2 l3 st) s e:=fun s ⟨n,c,hc,hx,he⟩=>by
  obtain ⟨i,x⟩:=s
  simp only at he hx
  subst he
  obtain ⟨es,h1,h2,h3⟩:=edges_is hv hr hB hN hc hx (K.map (·.map ofI))
  refine ⟨es,h1,h2,fun e he=>⟨edge_spot hv hc hx ((h3 e).1 he),fun v hvv=>⟨_,Of_is h e.2 v hvv 61 (Nat.le_refl _),(oR_has h e.2 v hvv).2.1,fun hz=>mayBe_edge h (cl_is _ _ _ hx) ((h3 e).1 he) hvv hz⟩⟩⟩
 have hbeg:Sp0 l3 st K beg0:=⟨0,[(-1,0)],hB.first,.base _ (List.mem_singleton.2 rfl) rfl,rfl⟩
 have h63:ok ((2 ^ 63:Nat):Int):=bit_ok 63 (by omega) (by omega)
 obtain ⟨F0,q0,e0,hF0,hb0, -,hq0,hs0,hc0⟩:=more_is U (F:=fun _=>0) [] (s:=beg0) (fun _=>ok_zero) h63 (hU _ hbeg)
 have hcz:=cnt_64 (fun _=>0) U
 simp only [List.length_nil,Nat.add_zero] at hc0
 have hF63:tb (F0 beg0) 63=true:=by rw [hb0,bit_tb];simp
 obtain ⟨F,hq,hFo,hFz,hFl,hFc⟩:=queue_ok hU hR hE 300000000 F0 q0 hF0 (fun x hx=>by rcases hq0 x hx with h1 | rfl;cases h1;exact hbeg) (fun x b hb=>by
  rw [hb0,tb_zero,Bool.false_or,Bool.and_eq_true,bit_tb] at hb
  have h1:=of_decide_eq_true hb.1
  have h2:63=b:=of_decide_eq_true hb.2
  subst h1
  subst h2
  exact ⟨fun _=>rfl,fun h3=>by simp only [beg0] at h3;omega⟩) (by omega) (fun x hx h0 hxq=>by
  have:=hs0 x hxq
  exact absurd this h0) (by omega)
 have hmo:∀ m l b,LeO (sets_Of.f 61 l0 l1 l2 l3 st l b) (sets_Of.f (61+m) l0 l1 l2 l3 st l b):=fun m l b=>by
  induction m with
  | zero=>exact fun r hr=>hr
  | succ m ih=>exact fun r hr=>sets_Of.mono _ _ _ _ _ _ _ _ _ (ih r hr)
 have hqm:∀ {f g:List Int→Int→Option Int} (hfg:∀ l b,LeO (f l b) (g l b)) (ed:Spt→Option (List Edg)) (k:Nat) (Z:(Spt→Int) × List Spt),LeO (queueF f ed k Z) (queueF g ed k Z):=by
  intro f g hfg ed k
  induction k with
  | zero=>exact fun Z r hr=>hr
  | succ k ih =>
   rintro ⟨F,q⟩ r hr
   cases q with
   | nil=>exact hr
   | cons s q =>
    rw [queueF] at hr ⊢
    -- (the queue is told)
    obtain ⟨es,he,hr⟩:=Option.bind_eq_some_iff.1 hr
    refine Option.bind_eq_some_iff.2 ⟨es,he, ?_⟩
    split at hr
    ·rename_i hg
     rw [if_pos hg]
     obtain ⟨Z,hZ,hr⟩:=Option.bind_eq_some_iff.1 hr
     exact Option.bind_eq_some_iff.2 ⟨Z,foldE_mono hfg s es _ _ hZ,ih Z r hr⟩
    ·cases hr
 refine ⟨300000000,F, ?_,hFo,hFz,hFl _ _ hF63,fun n c x e hc hx h0 he b hb=>?_⟩
 ·unfold look_rows.f
  rw [if_pos ⟨by rw [List.length_map];omega,by have:=hF.few;omega⟩,of_one 300000000 (by omega) 63 (by omega) (by omega),Option.bind_some,show Int.toNat 63=63 from rfl,e0]
  have h5:=hqm (fun l b=>hmo (300000000 - 61) l b) _ _ _ _ hq
  rw [show 61+(300000000 - 61)=300000000 from rfl] at h5
  rw [h5,Option.bind_some,out_is hv hr F K 0 (built_small hv hB) (by omega)]
  simp only [Nat.zero_add]
 ·obtain ⟨es,h1,h2,h3⟩:=edges_is hv hr hB hN hc hx (K.map (·.map ofI))
  exact hFc ((n:Int),x) ⟨n,c,hc,hx,rfl⟩ h0 es h1 e ((h3 e).2 he) _ (Of_is h e.2 _ (hFo _) 61 (Nat.le_refl _)) b hb
end
end
section
section
variable {l0:List S65} {l1:List S73} {l2:List ByteArray} {l3:List S68} {st:Int} {K:List (List Itm)} {N:List (List Int)} {F:Spt→Int}
theorem nexts_in {y x:Itm} (h:x ∈ nexts (gr st l3) y):∃ sym,∃ p:Nat,behindL (gr st l3) y=some sym∧sym < 0∧p < l3.length∧(rd_T68 l3 p).f1=-1 - sym∧x=((p:Int),0):=by
 unfold nexts at h
 split at h
 ·rename_i sym hb
  split at h
  ·rename_i hn
   obtain ⟨p,hp,hq⟩:=List.mem_filterMap.1 h
   rw [List.mem_range,gr_len] at hp
   have:=gr_at st l3 (p:Int) (by omega) (by omega)
   rw [Int.toNat_natCast] at this
   rw [this] at hq
   simp only at hq
   split at hq
   ·rename_i hs
    injection hq with hq
    exact ⟨sym,p,hb,hn,hp,hs,hq.symm⟩
   ·cases hq
  ·cases h
 ·cases h
theorem right_range (h:Order l0 l1 l2 l3 st) {p:Int} {r:List Int} (hr:rightL (gr st l3) p=some r):∀ s ∈ r, -(l2.length:Int)≤s∧s < l0.length:=by
 unfold rightL at hr
 split at hr
 ·injection hr with hr
  intro s hs
  rw [← hr] at hs
  have hs:=List.mem_singleton.1 hs
  have e:(gr st l3).start=st:=rfl
  rw [e] at hs
  have:=h.lo
  have:=h.hi
  omega
 ·split at hr
  ·rename_i hq
   rw [gr_len] at hq
   rw [gr_at st l3 p hq.1 hq.2] at hr
   injection hr with hr
   simp only at hr
   have hin:(rd_T68 l3 p) ∈ l3:=by
    unfold rd_T68
    rw [List.getD_eq_getElem?_getD,List.getElem?_eq_getElem (by omega)]
    exact List.getElem_mem _
   rw [← hr]
   exact h.gram.sym _ hin
  ·cases hr
theorem rowB_all (v:Int) (b:Nat) (hb:tb v b=true):∀ l:List Int,(∀ s ∈ l, -(l2.length:Int)≤s∧s < l0.length)→(∀ s ∈ l,s < 0∧rdOf false (eR l2 l3) (-1 - s)=true)→rowB l0.length l2.length (eR l2 l3) (fR l0 l2 l3) v b l=true
 | [],_,_=>hb
 | s :: l,hr,he=>by
  have h1:=hr s (by simp)
  obtain ⟨h2,h3⟩:=he s (by simp)
  unfold rowB
  rw [if_neg (by omega),if_neg (by omega),h3,rowB_all v b hb l (fun t ht=>hr t (by simp [ht])) (fun t ht=>he t (by simp [ht]))]
  simp
theorem of_some (h:Order l0 l1 l2 l3 st) (hl:∀ i,i < l2.length→(lR l2 l3).getD i false=true) (l:List Int) (hr:∀ s ∈ l, -(l2.length:Int)≤s∧s < l0.length) {v:Int} (hv:ok v) (hne:v≠0):∃ b,tb (oR l0 l2 l3 l v) b=true:=by
 rcases row_begins l0 l2 l3 l hr (fun s hs hn=>lives_begins h (-1 - s).toNat (by have:=hr s hs;omega) (hl _ (by have:=hr s hs;omega))) with h1 | ⟨b,hb⟩
 ·obtain ⟨b,hb⟩:=tb_ne hv hne
  exact ⟨b,by rw [(oR_has h l v hv).2.2];exact rowB_all v b hb l hr h1⟩
 ·refine ⟨b,by rw [(oR_has h l v hv).2.2];exact rowB_mono _ _ _ _ _ _ 0 v b (fun _ h=>h) (fun _ h=>h) (fun h0=>by rw [tb_zero] at h0;cases h0) l hb⟩

variable (h:Order l0 l1 l2 l3 st) (hB:Built (Sg (gr st l3)) (symsL l0.length l2.length) [(-1,0)] K N) (hFo:∀ x,ok (F x)) (hFz:∀ s b,tb (F s) b=true→mayBe l0 l2 l3 st s b) (hF0:tb (F beg0) 63=true)
 (hFc:∀ (n:Nat) (c:List Itm) (x:Itm) (e:Edg),K[n]? = some c→Cl (gr st l3) (· ∈ c) x→F ((n:Int),x)≠0→isEdge l3 st K n c x e→∀ b,tb (oR l0 l2 l3 e.2 (F ((n:Int),x))) b=true→tb (F e.1) b=true)
include h hB hFo hFz hF0 hFc
theorem ahead_live (hl:∀ i,i < l2.length→(lR l2 l3).getD i false=true):∀ (n:Nat) (c:List Itm) (x:Itm),K[n]? = some c→Cl (gr st l3) (· ∈ c) x→F ((n:Int),x)≠0:=by
 have hv:=h.valid
 intro n
 induction n using Nat.strongRecOn with
 | _ n ih =>
  intro c x hc hx
  induction hx with
  | base x hin hi =>
   by_cases h0:n=0
   ·subst h0
    rw [hB.first] at hc
    obtain rfl:=Option.some.inj hc
    rw [List.mem_singleton.1 hin]
    exact tb_pos hF0
   ·obtain ⟨i,d,s,hij,_,hd,hs,e⟩:=hB.come n c hc h0
    have hin':=hin
    rw [e] at hin'
    obtain ⟨y,hy,hb,rfl⟩:=(sg_has hv d s _).1 hin'
    have hne:=ih i hij d y hd hy
    obtain ⟨b,htb⟩:=tb_ne (hFo _) hne
    obtain ⟨r,hr,_⟩:=behind_right hb
    refine tb_pos (b:=b) (hFc i d y (((n:Int),(y.1,y.2+1)),[]) hd hy hne ⟨s,r,hb,hr,.inl ⟨n,by rw [hc,e],rfl⟩⟩ b ?_)
    rw [oR_nil h _ (hFo _)]
    exact htb
  | next y x hy hn ih2 =>
   obtain ⟨sym,p,hb,hneg,hp,hs,rfl⟩:=nexts_in hn
   obtain ⟨r,hr,_⟩:=behind_right hb
   obtain ⟨b,htb⟩:=of_some h hl (r.drop (y.2.toNat+1)) (fun s hs=>right_range h hr s (List.mem_of_mem_drop hs)) (hFo _) ih2
   exact tb_pos (b:=b) (hFc n c y (((n:Int),((p:Int),0)),r.drop (y.2.toNat+1)) hc hy ih2 ⟨sym,r,hb,hr,.inr ⟨hneg,p,hp,hs,rfl⟩⟩ b htb)
end
end
end Go.Proofs.YtclollnicbcooaaGreatDoor.P
namespace Go.Proofs.YtclollnicbcooaaGreatDoor.P
open Go.RowKit YtclollnicbcooaaGreatDoorW.PrintWords YtclollnicbcooaaGreatDoorW.PrintLast YtclollnicbcooaaGreatDoorW.PrintMore St Bitty
section
def LRows (g:Gr) (F:Spt→Int) (K:List (List Itm)):List S96:=K.mapIdx fun j c=>rowOf g F j c
theorem rows_len (g:Gr) (F:Spt→Int) (K:List (List Itm)):(LRows g F K).length=K.length:=by unfold LRows;simp
theorem rows_at (g:Gr) (F:Spt→Int) (K:List (List Itm)) (i:Nat) (h:i < K.length):rd_T96 (LRows g F K) (i:Int)=rowOf g F i K[i]:=by
 unfold rd_T96 LRows
 rw [Int.toNat_natCast,List.getD_eq_getElem?_getD,List.getElem?_mapIdx,List.getElem?_eq_getElem h]
 rfl
theorem items_at (C:List Itm) (j:Nat) (h:j < C.length):rd_T77 (C.map ofI) (j:Int)=ofI C[j]:=by
 unfold rd_T77
 rw [Int.toNat_natCast,List.getD_eq_getElem?_getD,List.getElem?_map,List.getElem?_eq_getElem h]
 rfl
theorem ahead_at (f:Itm→Int) (C:List Itm) (j:Nat) (h:j < C.length):Go.Proofs.YtclollnicbcooaaGreatDoorW.PrintWords.rd (C.map f) (j:Int)=f C[j]:=by
 unfold Go.Proofs.YtclollnicbcooaaGreatDoorW.PrintWords.rd
 rw [Int.toNat_natCast,List.getD_eq_getElem?_getD,List.getElem?_map,List.getElem?_eq_getElem h]
 rfl
theorem up64 (i:Nat) (h:i≤1000000):wrap64 ((i:Int)+1)=((i+1:Nat):Int):=by
 rw [IntWalk.wrap64_in _ (by omega)]
 rfl
theorem buildL_few (S:List Itm→Int→List Itm) (syms:List Int) (most:Nat):∀ (n i:Nat) (K:List (List Itm)) (N:List (List Int)) (R:List (List Itm) × List (List Int)),buildL S syms most n i K N=some (some R)→R.2.length≤N.length+n:=by
 intro n
 induction n with
 | zero=>intro i K N R h;cases h
 | succ n ih =>
  intro i K N R h
  rw [buildL] at h
  split at h
  ·have h:=Option.some.inj (Option.some.inj h)
   rw [← h]
   simp only
   omega
  ·split at h
   ·cases h
   ·have:=ih _ _ _ _ h
    rw [List.length_append,List.length_singleton] at this
    omega

theorem isI_prod {l3:List S68} {st:Int} {x:Itm} (h:isI (gr st l3) x=true) (h0:0≤x.1):x.1 < l3.length:=by
 unfold isI rightL at h
 rw [gr_len,if_neg (by omega)] at h
 split at h
 ·rename_i e
  split at e
  ·rename_i hp
   exact hp.2
  ·cases e
 ·cases h
structure Aheads (l0:List S65) (l1:List S73) (l2:List ByteArray) (l3:List S68) (st:Int) (K:List (List Itm)) (N:List (List Int)) (F:Spt→Int):Prop where
 ord:Order l0 l1 l2 l3 st
 bui:Built (Sg (gr st l3)) (symsL l0.length l2.length) [(-1,0)] K N
 len:N.length=K.length
 few:K.length≤2003
 okF:∀ x,ok (F x)
 may:∀ s b,tb (F s) b=true→mayBe l0 l2 l3 st s b
 beg:tb (F beg0) 63=true
 clo:∀ (n:Nat) (c:List Itm) (x:Itm) (e:Edg),K[n]? = some c→Cl (gr st l3) (· ∈ c) x→F ((n:Int),x)≠0→isEdge l3 st K n c x e→∀ b,tb (oR l0 l2 l3 e.2 (F ((n:Int),x))) b=true→tb (F e.1) b=true
theorem all_cases {l0:List S65} {l1:List S73} {l2:List ByteArray} {l3:List S68} {st:Int} (hr:∀ p ∈ l3,∀ s ∈ p.f2, -9223372036854775808≤s∧s≤9223372036854775807) :
  (∃ e,e≠0∧∀ k,look_All.f k l0 l1 l2 l3 st=some ([],e)) ∨ ∃ K N F,Aheads l0 l1 l2 l3 st K N F∧states_Build.f l0 l1 l2 l3 st=some (K.map (·.map ofI),N,0)∧Ev (fun k=>look_rows.f k l0 l1 l2 l3 st (K.map (·.map ofI)) N) (LRows (gr st l3) F K)∧Ev (fun k=>look_All.f k l0 l1 l2 l3 st) (LRows (gr st l3) F K,0):=by
 cases hv:validB l0 l1 l2 l3 st with
 | false =>
  refine .inl ⟨1,by decide,fun k=>?_⟩
  unfold look_All.f
  rw [build_not hv,Option.bind_some,if_neg (by decide)]
 | true =>
  obtain ⟨R,hR,hB⟩:=build_ok hr hv
  cases R with
  | none =>
   refine .inl ⟨4,by decide,fun k=>?_⟩
   unfold look_All.f
   rw [hB,Option.bind_some,if_neg (by decide)]
   rfl
  | some KN =>
   obtain ⟨K,N⟩:=KN
   obtain ⟨hBu,hN⟩:=built_is hR
   have hrows:=buildL_few _ _ _ _ _ _ _ _ hR
   simp only [List.length_nil] at hrows
   have hO:=order_of hv hr
   obtain ⟨k,F,h1,h2,h3,h4,h5⟩:=rows_is hO hr hBu hN (by omega)
   have hEv:Ev (fun k=>look_rows.f k l0 l1 l2 l3 st (K.map (·.map ofI)) N) (LRows (gr st l3) F K):=Ev.of (fun k=>look_rows.mono _ _ _ _ _ _ _ k) h1
   refine .inr ⟨K,N,F,⟨hO,hBu,hN,by omega,h2,h3,h4,h5⟩,hB,hEv, ?_⟩
   obtain ⟨k1,hk1⟩:=hEv
   refine ⟨k1,fun k hk=>?_⟩
   have:=hk1 k hk
   dsimp only at this ⊢
   unfold look_All.f
   rw [hB,Option.bind_some]
   show (if (0:Int)=0 then (look_rows.f k l0 l1 l2 l3 st (K.map (·.map ofI)) N).map (fun r=>(r,(0:Int))) else _)=_
   rw [if_pos rfl,this]
   rfl
section
variable {l0:List S65} {l1:List S73} {l2:List ByteArray} {l3:List S68} {st:Int} {K:List (List Itm)} {N:List (List Int)} {F:Spt→Int} (H:Aheads l0 l1 l2 l3 st K N F)
include H
theorem Aheads.cl {i:Nat} (hi:i < K.length) {x:Itm}:x ∈ risen (closedL (gr st l3) K[i]) ↔ Cl (gr st l3) (· ∈ K[i]) x:=(closedL_rise (fits_of H.ord.valid) K[i]).mem x
theorem Aheads.sm (c:List Itm):(risen (closedL (gr st l3) c)).length≤1562:=closed_small (fits_of H.ord.valid) c
end
end
section
theorem nat_ok {x:Int} (h:ok x):∃ a:Nat,x=a∧a < 18446744073709551616:=by
 have h1:=h.1
 have h2:=h.2
 exact ⟨x.toNat,by omega,by omega⟩
theorem has_is {x:Int} (n:Int) (hx:ok x) (h0:0≤n) (h1:n < 64):bits_Has.f x n=some (tb x n.toNat):=by
 obtain ⟨a,rfl,ha⟩:=nat_ok hx
 have hp:2 ^ n.toNat < 18446744073709551616:=Nat.pow_lt_pow_right (by decide) (by omega:n.toNat < 64)
 unfold bits_Has.f
 rw [bit_some n h0 h1,Option.bind_some,bits_and_u64_nat a _ ha hp]
 show some (((a &&& 2 ^ n.toNat:Nat):Int) != 0)=some (a.testBit n.toNat)
 cases h2:a.testBit n.toNat
 ·have e:a &&& 2 ^ n.toNat=0:=Nat.eq_of_testBit_eq fun i=>by
   rw [Nat.testBit_and,Nat.testBit_two_pow,Nat.zero_testBit]
   by_cases hi:n.toNat=i
   ·rw [← hi,h2];rfl
   ·rw [decide_eq_false hi,Bool.and_false]
  rw [e]
  rfl
 ·have hne:a &&& 2 ^ n.toNat≠0:=fun e=>by
   have h3:(a &&& 2 ^ n.toNat).testBit n.toNat=true:=by rw [Nat.testBit_and,Nat.testBit_two_pow,h2];simp
   rw [e,Nat.zero_testBit] at h3
   cases h3
  exact congrArg some (bne_iff_ne.2 (by omega))

def rightN (st:Int) (l3:List S68) (p:Int):Int:=((rightL (gr st l3) p).getD []).length
def bitN (T col:Nat):Nat:=if col=T then 63 else col
def selD (st:Int) (l3:List S68) (T:Nat) (f:Itm→Int) (col:Nat) (x:Itm):Option S53:=if x.2 < rightN st l3 x.1 ∨ tb (f x) (bitN T col)=false then none else some (if x.1 < 0 then ⟨3,0⟩ else ⟨2,x.1⟩)
section
variable {l0:List S65} {l1:List S73} {l2:List ByteArray} {l3:List S68} {st:Int}
theorem right_val {x:Itm} (h:isI (gr st l3) x=true):table_right.f l0 l1 l2 l3 st x.1=some (rightN st l3 x.1):=by
 unfold table_right.f rightN
 unfold isI at h
 by_cases h0:x.1 < 0
 ·rw [if_pos h0]
  unfold rightL at h ⊢
  by_cases h1:x.1=-1
  ·rw [if_pos h1];rfl
  ·rw [if_neg h1,if_neg (by omega)] at h
   cases h
 ·have hp:=isI_prod (x:=x) h (by omega)
  rw [if_neg h0,if_pos (by omega),if_pos hp]
  unfold rightL
  rw [gr_len,if_neg (by omega),if_pos ⟨by omega,hp⟩,gr_at st l3 x.1 (by omega) hp]
  rfl
theorem bit_val (col:Nat):table_bit.f l0 l1 l2 l3 st (col:Int)=some ((bitN l0.length col:Nat):Int):=by
 unfold table_bit.f bitN
 by_cases h:col=l0.length
 ·rw [if_pos (by omega),if_pos h];rfl
 ·rw [if_neg (by omega),if_neg h]
theorem dd_l0 (hT:l0.length≤60) (f:Itm→Int) (hf:∀ x,ok (f x)) (C:List Itm) (hC:C.length≤1562) (hI:∀ x ∈ C,isI (gr st l3) x=true) (col:Nat) (hcol:col≤l0.length):∀ (m j:Nat) (acc:List S53),j+m=C.length→acc.length≤j+1 →
  Ev (fun k=>table_deeds.l0 k (col:Int) acc (C.map ofI) (C.length:Int) (j:Int) l0 l1 l2 l3 st (C.map ofI) (C.map f)) (acc ++ (C.drop j).filterMap (selD st l3 l0.length f col))
 | 0,j,acc,hj,ha=>by
  have e:C.drop j=[]:=List.drop_eq_nil_of_le (by omega)
  rw [e,List.filterMap_nil,List.append_nil]
  refine Ev.step (f:=fun _=>some acc) (fun k=>?_) (Ev.now _)
  rw [table_deeds.l0,if_neg (by omega)]
 | m+1,j,acc,hj,ha=>by
  have hjl:j < C.length:=by omega
  have hb:bitN l0.length col < 64:=by unfold bitN;split <;> omega
  have hx:=hI C[j] (List.getElem_mem hjl)
  have e0:(rd_T77 (C.map ofI) (j:Int)).f0=C[j].1:=by rw [items_at C j hjl];rfl
  have e1:(rd_T77 (C.map ofI) (j:Int)).f1=C[j].2:=by rw [items_at C j hjl];rfl
  have e2:=ahead_at f C j hjl
  have e3:=has_is ((bitN l0.length col:Nat):Int) (hf C[j]) (by omega) (by omega)
  rw [Int.toNat_natCast] at e3
  have e4:=right_val (l0:=l0) (l1:=l1) (l2:=l2) hx
  have hd:C.drop j=C[j] :: C.drop (j+1):=List.drop_eq_getElem_cons hjl
  rw [hd,List.filterMap_cons]
  generalize C[j]=x at *
  have hm:∀ acc':List S53,acc'.length≤j+2→Ev (fun k=>table_deeds.l0 k (col:Int) acc' (C.map ofI) (C.length:Int) ((j+1:Nat):Int) l0 l1 l2 l3 st (C.map ofI) (C.map f)) (acc' ++ (C.drop (j+1)).filterMap (selD st l3 l0.length f col)):=fun acc' h=>dd_l0 hT f hf C hC hI col hcol m (j+1) acc' (by omega) h
  by_cases hs:x.2 < rightN st l3 x.1 ∨ tb (f x) (bitN l0.length col)=false
  ·have esel:selD st l3 l0.length f col x=none:=by unfold selD;rw [if_pos hs]
   rw [esel]
   obtain ⟨K1,h1⟩:=hm acc (by omega)
   refine ⟨K1+3,fun k hk=>?_⟩
   obtain ⟨k,rfl⟩:∃ k',k=k'+2:=⟨k - 2,by omega⟩
   have h2:=h1 k (by omega)
   dsimp only at h2 ⊢
   rw [table_deeds.l0,List.length_map,if_pos (by omega),if_pos (by omega),if_pos (by omega),e0,e1,e4,Option.bind_some]
   by_cases hr:x.2 < rightN st l3 x.1
   ·rw [if_pos hr,table_deeds.j2,if_pos rfl,up64 j (by omega)]
    exact h2
   ·rw [if_neg hr,List.length_map,if_pos (by omega),bit_val,Option.bind_some,e2,e3,Option.bind_some,table_deeds.j2]
    have hz:tb (f x) (bitN l0.length col)=false:=hs.resolve_left hr
    rw [hz,if_pos (by decide),up64 j (by omega)]
    exact h2
  ·rw [not_or] at hs
   have esel:selD st l3 l0.length f col x=some (if x.1 < 0 then ⟨3,0⟩ else ⟨2,x.1⟩):=by unfold selD;rw [if_neg (not_or.2 hs)]
   have hz:tb (f x) (bitN l0.length col)=true:=by
    cases hq:tb (f x) (bitN l0.length col)
    ·exact absurd hq hs.2
    ·rfl
   rw [esel]
   simp only
   obtain ⟨K1,h1⟩:=hm (acc ++ [if x.1 < 0 then ⟨3,0⟩ else ⟨2,x.1⟩]) (by simp;omega)
   refine ⟨K1+3,fun k hk=>?_⟩
   obtain ⟨k,rfl⟩:∃ k',k=k'+2:=⟨k - 2,by omega⟩
   have h2:=h1 k (by omega)
   dsimp only at h2 ⊢
   rw [List.append_assoc,List.singleton_append] at h2
   rw [table_deeds.l0,List.length_map,if_pos (by omega),if_pos (by omega),if_pos (by omega),e0,e1,e4,Option.bind_some,if_neg hs.1,List.length_map,if_pos (by omega),bit_val,Option.bind_some,e2,e3,Option.bind_some,table_deeds.j2,hz,if_neg (by decide),up64 j (by omega)]
   by_cases hneg:x.1 < 0
   ·rw [if_pos hneg] at h2
    rw [if_pos hneg,if_pos (by omega),if_pos hneg]
    exact h2
   ·rw [if_neg hneg] at h2
    rw [if_neg hneg,if_pos (by omega),if_neg hneg]
    exact h2
end
section
variable {l0:List S65} {l1:List S73} {l2:List ByteArray} {l3:List S68} {st:Int} {K:List (List Itm)} {N:List (List Int)} {F:Spt→Int} (H:Aheads l0 l1 l2 l3 st K N F) (hr:∀ p ∈ l3,∀ s ∈ p.f2, -9223372036854775808≤s∧s≤9223372036854775807)
def goV (l0:List S65) (l1:List S73) (l2:List ByteArray) (l3:List S68) (st:Int) (K:List (List Itm)) (N:List (List Int)) (i:Nat) (s:Int):Int:=(states_Go.f l0 l1 l2 l3 st (K.map (·.map ofI)) N (i:Int) s).getD (-1)
def deedsP (l0:List S65) (l1:List S73) (l2:List ByteArray) (l3:List S68) (st:Int) (K:List (List Itm)) (N:List (List Int)) (F:Spt→Int) (i col:Nat):List S53 :=
 (if 0≤goV l0 l1 l2 l3 st K N i col then [⟨1,goV l0 l1 l2 l3 st K N i col⟩] else []) ++ (risen (closedL (gr st l3) (K.getD i []))).filterMap (selD st l3 l0.length (fun x=>F ((i:Int),x)) col)
include H hr
theorem go_val {i:Nat} (hi:i < K.length) (s:Int) (hs:-9223372036854775808≤s∧s≤9223372036854775807):states_Go.f l0 l1 l2 l3 st (K.map (·.map ofI)) N (i:Int) s=some (goV l0 l1 l2 l3 st K N i s)∧NumOf K (Sg (gr st l3) K[i] s) (goV l0 l1 l2 l3 st K N i s):=by
 obtain ⟨q,hq,hn⟩:=go_is (l1:=l1) H.ord.valid hr H.bui (i:=i) (by have:=H.len;omega) (List.getElem?_eq_getElem hi) s hs (K.map (·.map ofI))
 unfold goV
 rw [hq]
 exact ⟨rfl,hn⟩
theorem deeds_ev {i:Nat} (hi:i < K.length) (col:Nat) (hcol:col≤l0.length):Ev (fun k=>table_deeds.f k l0 l1 l2 l3 st (K.map (·.map ofI)) N (LRows (gr st l3) F K) (i:Int) (col:Int)) (deedsP l0 l1 l2 l3 st K N F i col):=by
 have hT:=H.ord.gram.hT
 have hf:=H.few
 have eK:K.getD i []=K[i]:=by rw [List.getD_eq_getElem?_getD,List.getElem?_eq_getElem hi];rfl
 obtain ⟨hg,_⟩:=go_val H hr hi (col:Int) (by omega)
 unfold deedsP
 rw [eK]
 have hC:=H.sm K[i]
 have hI:∀ x ∈ risen (closedL (gr st l3) K[i]),isI (gr st l3) x=true:=fun x hx=>cl_is _ _ _ ((H.cl hi).1 hx)
 have hrow:=rows_at (gr st l3) F K i hi
 generalize hq:goV l0 l1 l2 l3 st K N i col=q at *
 have main:∀ acc:List S53,acc.length≤1→Ev (fun k=>table_deeds.j0 k (LRows (gr st l3) F K) (i:Int) (col:Int) acc l0 l1 l2 l3 st) (acc ++ (risen (closedL (gr st l3) K[i])).filterMap (selD st l3 l0.length (fun x=>F ((i:Int),x)) col)):=fun acc ha=>by
  have h:=dd_l0 (l1:=l1) (l2:=l2) (l3:=l3) (st:=st) hT (fun x=>F ((i:Int),x)) (fun x=>H.okF _) (risen (closedL (gr st l3) K[i])) hC hI col hcol _ 0 acc (Nat.zero_add _) (by omega)
  rw [List.drop_zero] at h
  refine Ev.step (fun k=>?_) h
  rw [table_deeds.j0,if_pos (by omega),rows_len,if_pos (by omega),hrow]
  show table_deeds.l0 k (col:Int) acc ((risen (closedL (gr st l3) K[i])).map ofI) (((risen (closedL (gr st l3) K[i])).map ofI).length:Int) 0 l0 l1 l2 l3 st ((risen (closedL (gr st l3) K[i])).map ofI) ((risen (closedL (gr st l3) K[i])).map fun x=>F ((i:Int),x))=_
  rw [List.length_map]
  rfl
 by_cases h0:0≤q
 ·rw [if_pos h0]
  obtain ⟨K1,h1⟩:=main [⟨1,q⟩] (by simp)
  refine ⟨K1,fun k hk=>?_⟩
  have h2:=h1 k hk
  dsimp only at h2 ⊢
  unfold table_deeds.f
  rw [hg,Option.bind_some,if_pos (by omega),if_pos (by simp)]
  exact h2
 ·rw [if_neg h0]
  obtain ⟨K1,h1⟩:=main [] (by simp)
  refine ⟨K1,fun k hk=>?_⟩
  have h2:=h1 k hk
  dsimp only at h2 ⊢
  unfold table_deeds.f
  rw [hg,Option.bind_some,if_neg (by omega)]
  exact h2
def stateP (l0:List S65) (l1:List S73) (l2:List ByteArray) (l3:List S68) (st:Int) (K:List (List Itm)) (N:List (List Int)) (F:Spt→Int) (i:Nat):List (List S53):=(List.range (l0.length+1)).map (deedsP l0 l1 l2 l3 st K N F i)
def allP (l0:List S65) (l1:List S73) (l2:List ByteArray) (l3:List S68) (st:Int) (K:List (List Itm)) (N:List (List Int)) (F:Spt→Int):List (List (List S53)):=(List.range K.length).map (stateP l0 l1 l2 l3 st K N F)
theorem all_l1 {i:Nat} (hi:i < K.length) (out:List (List (List S53))) (ho:out.length=i) (hE:Ev (fun k=>table_All.l0 k (LRows (gr st l3) F K) (out ++ [stateP l0 l1 l2 l3 st K N F i]) (K.length:Int) ((i+1:Nat):Int) l0 l1 l2 l3 st (K.map (·.map ofI)) N) (allP l0 l1 l2 l3 st K N F,0)):∀ (m c:Nat),c+m=l0.length+1 →
  Ev (fun k=>table_All.l1 k (LRows (gr st l3) F K) out (i:Int) ((List.range c).map (deedsP l0 l1 l2 l3 st K N F i)) (K.length:Int) (i:Int) ((l0.length+1:Nat):Int) (c:Int) l0 l1 l2 l3 st (K.map (·.map ofI)) N) (allP l0 l1 l2 l3 st K N F,0)
 | 0,c,hc=>by
  have hf:=H.few
  rw [show c=l0.length+1 by omega]
  refine Ev.step (fun k=>?_) hE
  rw [table_All.l1,if_neg (by omega),if_pos (by omega),up64 i (by omega)]
  rfl
 | m+1,c,hc=>by
  have hf:=H.few
  have hT:=H.ord.gram.hT
  obtain ⟨K1,h1⟩:=deeds_ev H hr hi c (by omega)
  obtain ⟨K2,h2⟩:=all_l1 hi out ho hE m (c+1) (by omega)
  refine ⟨K1+K2+2,fun k hk=>?_⟩
  obtain ⟨k,rfl⟩:∃ k',k=k'+1:=⟨k - 1,by omega⟩
  have h3:=h1 k (by omega)
  have h4:=h2 k (by omega)
  dsimp only at h3 h4 ⊢
  rw [List.range_succ,List.map_append] at h4
  rw [table_All.l1,if_pos (by omega),h3,Option.bind_some,if_pos (by rw [List.length_map,List.length_range];omega),up64 c (by omega)]
  exact h4
theorem all_l0:∀ (m i:Nat),i+m=K.length→Ev (fun k=>table_All.l0 k (LRows (gr st l3) F K) ((List.range i).map (stateP l0 l1 l2 l3 st K N F)) (K.length:Int) (i:Int) l0 l1 l2 l3 st (K.map (·.map ofI)) N) (allP l0 l1 l2 l3 st K N F,0)
 | 0,i,hi=>by
  rw [show i=K.length by omega]
  refine Ev.step (f:=fun _=>some (allP l0 l1 l2 l3 st K N F,0)) (fun k=>?_) (Ev.now _)
  rw [table_All.l0,if_neg (by omega)]
  rfl
 | m+1,i,hi=>by
  have hT:=H.ord.gram.hT
  have h:=all_l0 m (i+1) (by omega)
  rw [List.range_succ,List.map_append] at h
  refine Ev.step (fun k=>?_) (all_l1 H hr (i:=i) (by omega) ((List.range i).map (stateP l0 l1 l2 l3 st K N F)) (by simp) h (l0.length+1) 0 (Nat.zero_add _))
  rw [table_All.l0,if_pos (by omega),up64 l0.length (by omega)]
  rfl
theorem all_ev (hB:states_Build.f l0 l1 l2 l3 st=some (K.map (·.map ofI),N,0)) (hE:Ev (fun k=>look_rows.f k l0 l1 l2 l3 st (K.map (·.map ofI)) N) (LRows (gr st l3) F K)):Ev (fun k=>table_All.f k l0 l1 l2 l3 st) (allP l0 l1 l2 l3 st K N F,0):=by
 obtain ⟨K1,h1⟩:=hE
 obtain ⟨K2,h2⟩:=all_l0 H hr K.length 0 (Nat.zero_add _)
 refine ⟨K1+K2,fun k hk=>?_⟩
 have h3:=h1 k (by omega)
 have h4:=h2 k (by omega)
 dsimp only at h3 h4 ⊢
 have hA:look_Ahead.f k l0 l1 l2 l3 st (K.map (·.map ofI)) N=some (LRows (gr st l3) F K):=by
  unfold look_Ahead.f
  rw [hB,Option.bind_some,if_pos ⟨rfl,rfl,rfl⟩]
  exact h3
 unfold table_All.f
 rw [hB,Option.bind_some,if_pos rfl,hA,Option.bind_some,List.length_map]
 exact h4
end
end
section
def mayF (T:Nat) (D:Nat→List S53):Nat→Int
 | 0=>0
 | c+1=>if (D c).length=1 then Go.bits .or .u64 (mayF T D c) ((2 ^ (bitN T c):Nat):Int) else mayF T D c
theorem bitN_lt {T:Nat} (hT:T≤60) {c:Nat} (hc:c≤T):bitN T c < 64:=by unfold bitN;split <;> omega
def oneD (l:List S53):S53:=l.headD z53
def rowD (T:Nat) (D:Nat→List S53):List S53:=(List.range (T+1)).map fun c=>oneD (D c)

section
variable {l0:List S65} {l1:List S73} {l2:List ByteArray} {l3:List S68} {st:Int} {K:List (List Itm)} {N:List (List Int)} {F:Spt→Int} (H:Aheads l0 l1 l2 l3 st K N F) (hr:∀ p ∈ l3,∀ s ∈ p.f2, -9223372036854775808≤s∧s≤9223372036854775807)
include H hr

theorem allP_at {i:Nat} (hi:i < K.length):rd_L26 (allP l0 l1 l2 l3 st K N F) (i:Int)=stateP l0 l1 l2 l3 st K N F i:=by
 unfold rd_L26 allP
 rw [Int.toNat_natCast,List.getD_eq_getElem?_getD,List.getElem?_map,List.getElem?_range hi]
 rfl
theorem stateP_at (i:Nat) {c:Nat} (hc:c≤l0.length):rd_L25 (stateP l0 l1 l2 l3 st K N F i) (c:Int)=deedsP l0 l1 l2 l3 st K N F i c:=by
 unfold rd_L25 stateP
 rw [Int.toNat_natCast,List.getD_eq_getElem?_getD,List.getElem?_map,List.getElem?_range (by omega)]
 rfl
theorem stateP_len (i:Nat):(stateP l0 l1 l2 l3 st K N F i).length=l0.length+1:=by unfold stateP;simp
theorem allP_len:(allP l0 l1 l2 l3 st K N F).length=K.length:=by unfold allP;simp
theorem next_len {i:Nat} (hi:i < K.length):(rd_L17 N (i:Int)).length=l0.length+l2.length:=by
 obtain ⟨row,h1,h2,_⟩:=H.bui.goes i K[i] (by have:=H.len;omega) (List.getElem?_eq_getElem hi)
 have e:rd_L17 N (i:Int)=row:=by
  rw [rdL17 N i (by have:=H.len;omega)]
  rw [List.getElem?_eq_getElem (by have:=H.len;omega)] at h1
  exact Option.some.inj h1
 rw [e,h2,symsL_len]
def dsP (l0:List S65) (l1:List S73) (l2:List ByteArray) (l3:List S68) (st:Int) (K:List (List Itm)) (N:List (List Int)) (F:Spt→Int) (i:Nat):List (List S53):=(List.range i).map fun j=>rowD l0.length (deedsP l0 l1 l2 l3 st K N F j)
def nsP (l0:List S65) (N:List (List Int)) (i:Nat):List (List Int):=(List.range i).map fun (j:Nat)=>(rd_L17 N (j:Int)).drop l0.length
def msP (l0:List S65) (l1:List S73) (l2:List ByteArray) (l3:List S68) (st:Int) (K:List (List Itm)) (N:List (List Int)) (F:Spt→Int) (i:Nat):List Int:=(List.range i).map fun j=>mayF l0.length (deedsP l0 l1 l2 l3 st K N F j) (l0.length+1)
def Clash (l0:List S65) (l1:List S73) (l2:List ByteArray) (l3:List S68) (st:Int) (K:List (List Itm)) (N:List (List Int)) (F:Spt→Int):Prop:=∃ i c,i < K.length∧c≤l0.length∧1 < (deedsP l0 l1 l2 l3 st K N F i c).length
def partR (T:Nat) (D:Nat→List S53) (c:Nat):List S53:=((List.range c).map fun j=>oneD (D j)) ++ List.replicate (T+1 - c) z53
theorem partR_len (T:Nat) (D:Nat→List S53) (c:Nat) (hc:c≤T+1):(partR T D c).length=T+1:=by unfold partR;simp;omega
theorem partR_set (T:Nat) (D:Nat→List S53) (c:Nat) (hc:c≤T) (x:S53) (hx:oneD (D c)=x):(partR T D c).set c x=partR T D (c+1):=by
 unfold partR
 have e:T+1 - c=(T+1 - (c+1))+1:=by omega
 rw [e,List.replicate_succ,List.set_append_right c _ (by simp),List.range_succ,List.map_append]
 simp [hx]
theorem partR_same (T:Nat) (D:Nat→List S53) (c:Nat) (hc:c≤T) (hx:D c=[]):partR T D c=partR T D (c+1):=by
 rw [← partR_set H hr T D c hc z53 (by rw [hx];rfl)]
 unfold partR
 have e:T+1 - c=(T+1 - (c+1))+1:=by omega
 rw [e,List.replicate_succ,List.set_append_right c _ (by simp)]
 simp

theorem bld_l1 {i:Nat} (hi:i < K.length) (R:List (List S53) × List (List Int) × List Int × Int) (hC:∀ c,c≤l0.length→1 < (deedsP l0 l1 l2 l3 st K N F i c).length→R=([],[],[],16))
  (hE:(∀ c,c≤l0.length→(deedsP l0 l1 l2 l3 st K N F i c).length≤1)→Ev (fun k=>table_Build.l0 k (allP l0 l1 l2 l3 st K N F) (K.length:Int) ((i+1:Nat):Int) l0 l1 l2 l3 st (dsP l0 l1 l2 l3 st K N F (i+1)) (nsP l0 N (i+1)) (msP l0 l1 l2 l3 st K N F (i+1)) (K.map (·.map ofI)) N) R) :
  ∀ (m c:Nat),c+m=l0.length+1→(∀ j,j < c→(deedsP l0 l1 l2 l3 st K N F i j).length≤1) →
  Ev (fun k=>table_Build.l1 k (i:Int) (partR l0.length (deedsP l0 l1 l2 l3 st K N F i) c) (mayF l0.length (deedsP l0 l1 l2 l3 st K N F i) c) (allP l0 l1 l2 l3 st K N F) (K.length:Int) (i:Int) (stateP l0 l1 l2 l3 st K N F i) ((l0.length+1:Nat):Int) (c:Int) l0 l1 l2 l3 st (dsP l0 l1 l2 l3 st K N F i) (nsP l0 N i) (msP l0 l1 l2 l3 st K N F i) (K.map (·.map ofI)) N) R
 | 0,c,hc,hj=>by
  have hf:=H.few
  have hN:=H.len
  have hT:=H.ord.gram.hT
  have hn:=next_len H hr hi
  refine Ev.step (fun k=>?_) (hE fun c' hc'=>hj c' (by omega))
  obtain rfl:c=l0.length+1:=by omega
  have e1:partR l0.length (deedsP l0 l1 l2 l3 st K N F i) (l0.length+1)=rowD l0.length (deedsP l0 l1 l2 l3 st K N F i):=by unfold partR rowD;rw [Nat.sub_self];simp
  have e2:(dsP l0 l1 l2 l3 st K N F i).length=i:=by unfold dsP;simp
  have e3:(nsP l0 N i).length=i:=by unfold nsP;simp
  have e4:(msP l0 l1 l2 l3 st K N F i).length=i:=by unfold msP;simp
  rw [table_Build.l1,if_neg (by omega),if_pos (by rw [e2];omega),if_pos (by omega),if_pos (by omega),if_pos (by omega),if_pos (by omega),if_pos (by rw [e3];omega),if_pos (by rw [e4];omega),up64 i (by omega),e1,Int.toNat_natCast]
  unfold dsP nsP msP
  rw [List.range_succ,List.map_append,List.map_append,List.map_append]
  rfl
 | m+1,c,hc,hj=>by
  have hf:=H.few
  have hT:=H.ord.gram.hT
  have hs:=stateP_at H hr i (c:=c) (by omega)
  have hl:=stateP_len H hr i
  rcases Nat.lt_trichotomy (deedsP l0 l1 l2 l3 st K N F i c).length 1 with hd | hd | hd
  ·have hd0:deedsP l0 l1 l2 l3 st K N F i c=[]:=List.length_eq_zero_iff.1 (by omega)
   have h:=bld_l1 hi R hC hE m (c+1) (by omega) (fun j hj'=>by
    by_cases e:j=c
    ·subst e;omega
    ·exact hj j (by omega))
   refine Ev.step (fun k=>?_) h
   rw [table_Build.l1,if_pos (by omega),if_pos (by omega),if_pos (by omega),hs,if_pos (by omega),up64 c (by omega),partR_same H hr l0.length _ c (by omega) hd0]
   show _=table_Build.l1 k (i:Int) _ (if _ then _ else _) _ _ _ _ _ _ _ _ _ _ _ _ _ _ _ _
   rw [if_neg (by omega)]
  ·obtain ⟨x,hx⟩:=List.length_eq_one_iff.1 hd
   have h:=bld_l1 hi R hC hE m (c+1) (by omega) (fun j hj'=>by
    by_cases e:j=c
    ·subst e;omega
    ·exact hj j (by omega))
   refine Ev.step (fun k=>?_) h
   have hb:=bitN_lt (T:=l0.length) hT (c:=c) (by omega)
   have e5:=with_some (mayF l0.length (deedsP l0 l1 l2 l3 st K N F i) c) ((bitN l0.length c:Nat):Int) (by omega) (by omega)
   rw [Int.toNat_natCast] at e5
   have e6:(⟨(rd_T53 [x] 0).f0,(rd_T53 [x] 0).f1⟩:S53)=x:=rfl
   have e7:=partR_set H hr l0.length (deedsP l0 l1 l2 l3 st K N F i) c (by omega) x (by rw [hx];rfl)
   rw [table_Build.l1,if_pos (by omega),if_pos (by omega),if_pos (by omega),hs,if_neg (by omega),if_pos (by omega),if_pos (by omega),if_pos (by rw [partR_len H hr _ _ _ (by omega)];omega),bit_val,Option.bind_some,e5,Option.bind_some,up64 c (by omega),hx,e6,Int.toNat_natCast,e7]
   show _=table_Build.l1 k (i:Int) _ (if _ then _ else _) _ _ _ _ _ _ _ _ _ _ _ _ _ _ _ _
   rw [if_pos hd]
  ·refine Ev.step (f:=fun _=>some R) (fun k=>?_) (Ev.now _)
   rw [table_Build.l1,if_pos (by omega),if_pos (by omega),if_pos (by omega),hs,if_neg (by omega),if_neg (by omega),hC c (by omega) hd]
theorem bld_l0 (R:List (List S53) × List (List Int) × List Int × Int) (hC:Clash l0 l1 l2 l3 st K N F→R=([],[],[],16)) (hE:¬ Clash l0 l1 l2 l3 st K N F→R=(dsP l0 l1 l2 l3 st K N F K.length,nsP l0 N K.length,msP l0 l1 l2 l3 st K N F K.length,0)) :
  ∀ (m i:Nat),i+m=K.length→(∀ j,j < i→∀ c,c≤l0.length→(deedsP l0 l1 l2 l3 st K N F j c).length≤1)→Ev (fun k=>table_Build.l0 k (allP l0 l1 l2 l3 st K N F) (K.length:Int) (i:Int) l0 l1 l2 l3 st (dsP l0 l1 l2 l3 st K N F i) (nsP l0 N i) (msP l0 l1 l2 l3 st K N F i) (K.map (·.map ofI)) N) R
 | 0,i,hi,hj=>by
  obtain rfl:i=K.length:=by omega
  have hno:¬ Clash l0 l1 l2 l3 st K N F:=fun ⟨i,c,h1,h2,h3⟩=>by have:=hj i h1 c h2;omega
  refine Ev.step (f:=fun _=>some R) (fun k=>?_) (Ev.now _)
  rw [table_Build.l0,if_neg (by omega),hE hno]
 | m+1,i,hi,hj=>by
  have hT:=H.ord.gram.hT
  have hf:=H.few
  have hl:=stateP_len H hr i
  have ha:=allP_len H hr
  have h:=bld_l1 H hr (i:=i) (by omega) R (fun c hc h1=>hC ⟨i,c,by omega,hc,h1⟩) (fun hle=>bld_l0 R hC hE m (i+1) (by omega) (fun j hj' c hc=>by
   by_cases e:j=i
   ·subst e;exact hle c hc
   ·exact hj j (by omega) c hc)) (l0.length+1) 0 (Nat.zero_add _) (fun j hj'=>absurd hj' (Nat.not_lt_zero _))
  refine Ev.step (fun k=>?_) h
  rw [table_Build.l0,if_pos (by omega),if_pos (by omega),if_pos (by omega),allP_at H hr (by omega),if_pos (by omega),if_pos (by omega),hl,Int.toNat_natCast]
  rfl
theorem table_ev (hB:states_Build.f l0 l1 l2 l3 st=some (K.map (·.map ofI),N,0)) (hE:Ev (fun k=>look_rows.f k l0 l1 l2 l3 st (K.map (·.map ofI)) N) (LRows (gr st l3) F K)) :
  (Clash l0 l1 l2 l3 st K N F∧Ev (fun k=>table_Build.f k l0 l1 l2 l3 st) ([],[],[],16)) ∨
  (¬ Clash l0 l1 l2 l3 st K N F∧Ev (fun k=>table_Build.f k l0 l1 l2 l3 st) (dsP l0 l1 l2 l3 st K N F K.length,nsP l0 N K.length,msP l0 l1 l2 l3 st K N F K.length,0)):=by
 obtain ⟨K1,h1⟩:=all_ev H hr hB hE
 have go:∀ R,(Clash l0 l1 l2 l3 st K N F→R=([],[],[],16))→(¬ Clash l0 l1 l2 l3 st K N F→R=(dsP l0 l1 l2 l3 st K N F K.length,nsP l0 N K.length,msP l0 l1 l2 l3 st K N F K.length,0))→Ev (fun k=>table_Build.f k l0 l1 l2 l3 st) R:=fun R a b=>by
  obtain ⟨K2,h2⟩:=bld_l0 H hr R a b K.length 0 (Nat.zero_add _) (fun j hj=>absurd hj (Nat.not_lt_zero _))
  refine ⟨K1+K2,fun k hk=>?_⟩
  have h3:=h1 k (by omega)
  have h4:=h2 k (by omega)
  dsimp only at h3 h4 ⊢
  unfold table_Build.f
  rw [h3,Option.bind_some,if_pos rfl,hB,Option.bind_some,allP_len H hr]
  exact h4
 by_cases hc:Clash l0 l1 l2 l3 st K N F
 ·exact .inl ⟨hc,go _ (fun _=>rfl) (fun h=>absurd hc h)⟩
 ·exact .inr ⟨hc,go _ (fun h=>absurd h hc) (fun _=>rfl)⟩
end
end
theorem aheads_of {l0:List S65} {l1:List S73} {l2:List ByteArray} {l3:List S68} {st:Int} {K:List (List Itm)} {N:List (List Int)} (hr:∀ p ∈ l3,∀ s ∈ p.f2, -9223372036854775808≤s∧s≤9223372036854775807) (hB:states_Build.f l0 l1 l2 l3 st=some (K.map (·.map ofI),N,0)) :
  ∃ F,Aheads l0 l1 l2 l3 st K N F∧Ev (fun k=>look_rows.f k l0 l1 l2 l3 st (K.map (·.map ofI)) N) (LRows (gr st l3) F K):=by
 rcases all_cases (l0:=l0) (l1:=l1) (l2:=l2) (st:=st) hr with ⟨e,he,hA⟩ | ⟨K',N',F,H,hB',h1,h2⟩
 ·have:=hA 0
  unfold look_All.f at this
  rw [hB,Option.bind_some,if_pos rfl] at this
  obtain ⟨x,_,hx⟩:=Option.map_eq_some_iff.1 this
  injection hx with _ hx
  exact absurd hx.symm he
 ·rw [hB] at hB'
  have hB':=Option.some.inj hB'
  injection hB' with hK hB'
  injection hB' with hN _
  have hK':K=K':=by
   have:=congrArg (fun x:List (List S77)=>x.map (·.map toI)) hK
   simp only [List.map_map] at this
   have e:((fun x:List S77=>x.map toI) ∘ fun x:List Itm=>x.map ofI)=id:=by
    funext x
    exact map_toI_ofI x
   rw [e,List.map_id,List.map_id] at this
   exact this
  subst hK'
  subst hN
  exact ⟨F,H,h1⟩
theorem ahead_end {l0:List S65} {l1:List S73} {l2:List ByteArray} {l3:List S68} {st:Int} {K:List (List Itm)} {N:List (List Int)} {F:Spt→Int} (H:Aheads l0 l1 l2 l3 st K N F) (hl:∀ i,i < l2.length→(lR l2 l3).getD i false=true) (hw:wR l0 l2 l3 st=[9223372036854775808]) (hs:∀ p:Int,0≤p→p < l3.length→(rd_T68 l3 p).f1=0)
  {n:Nat} (hn:n < K.length) {x:Itm} (hx:Cl (gr st l3) (· ∈ K[n]) x):F ((n:Int),x)=9223372036854775808:=by
 have hne:=ahead_live H.ord H.bui H.okF H.may H.beg H.clo hl n _ x (List.getElem?_eq_getElem hn) hx
 have h63:∀ b,tb (F ((n:Int),x)) b=true→b=63:=fun b hb=>by
  have hI:=cl_is _ _ _ hx
  have hm:=H.may _ b hb
  by_cases h0:0≤x.1
  ·have h1:=hm.2 h0
   have hp:=isI_prod hI h0
   simp only at h1
   rw [hs x.1 h0 hp,hw] at h1
   have h2:tb ((2 ^ 63:Nat):Int) b=true:=h1
   rw [bit_tb] at h2
   exact (of_decide_eq_true h2).symm
  ·refine hm.1 ?_
   simp only
   by_cases h1:x.1=-1
   ·exact h1
   ·unfold isI rightL at hI
    rw [if_neg h1,if_neg (by omega)] at hI
    cases hI
 have e:F ((n:Int),x)=((2 ^ 63:Nat):Int):=by
  refine Bitty.ext (H.okF _) (bit_ok 63 (by omega) (by omega)) fun b=>?_
  rw [bit_tb]
  by_cases hb:63=b
  ·subst hb
   obtain ⟨b,hb⟩:=tb_ne (H.okF _) hne
   rw [h63 b hb] at hb
   rw [hb,decide_eq_true rfl]
  ·rw [decide_eq_false hb]
   cases ht:tb (F ((n:Int),x)) b
   ·rfl
   ·exact absurd (h63 b ht).symm hb
 exact e.trans (by decide)
theorem fm_congr {α β:Type} {f g:α→Option β}:∀ {l:List α},(∀ x ∈ l,f x=g x)→l.filterMap f=l.filterMap g
 | [],_=>rfl
 | a :: l,h=>by rw [List.filterMap_cons,List.filterMap_cons,h a (by simp),fm_congr (l:=l) fun x hx=>h x (by simp [hx])]
def deedsC (l0:List S65) (l1:List S73) (l2:List ByteArray) (l3:List S68) (st:Int) (K:List (List Itm)) (N:List (List Int)) (i col:Nat):List S53 :=
 (if 0≤goV l0 l1 l2 l3 st K N i col then [⟨1,goV l0 l1 l2 l3 st K N i col⟩] else []) ++ (risenC (closedL (gr st l3) (K.getD i []))).filterMap (selD st l3 l0.length (fun _=>9223372036854775808) col)
theorem deeds_c {l0:List S65} {l1:List S73} {l2:List ByteArray} {l3:List S68} {st:Int} {K:List (List Itm)} {N:List (List Int)} {F:Spt→Int} (H:Aheads l0 l1 l2 l3 st K N F) (hl:∀ i,i < l2.length→(lR l2 l3).getD i false=true) (hw:wR l0 l2 l3 st=[9223372036854775808]) (hs:∀ p:Int,0≤p→p < l3.length→(rd_T68 l3 p).f1=0)
  {i:Nat} (hi:i < K.length) (col:Nat):deedsP l0 l1 l2 l3 st K N F i col=deedsC l0 l1 l2 l3 st K N i col:=by
 unfold deedsP deedsC
 rw [← risen_c]
 congr 1
 have eK:K.getD i []=K[i]:=by rw [List.getD_eq_getElem?_getD,List.getElem?_eq_getElem hi];rfl
 rw [eK]
 refine fm_congr fun x hx=>?_
 have e:=ahead_end H hl hw hs hi ((H.cl hi).1 hx)
 unfold selD
 simp only [e]

def g0:List S65:=[(⟨(⟨#[97]⟩:ByteArray),(⟨#[]⟩:ByteArray),false,0⟩:S65)]
def g2:List ByteArray:=[(⟨#[83]⟩:ByteArray)]
def g3:List S68:=[(⟨(⟨#[112]⟩:ByteArray),0,(([0,(-1)]:List Int)),0⟩:S68),(⟨(⟨#[113]⟩:ByteArray),0,([]:List Int),0⟩:S68)]
def h3:List S68:=g3 ++ [(⟨(⟨#[114]⟩:ByteArray),0,(([0]:List Int)),0⟩:S68)]
def gK:List (List Itm):=[[(-1,0)],[(0,1)],[(-1,1)],[(0,2)]]
def gN:List (List Int):=[[1,2],[1,3],[-1, -1],[-1, -1]]
def hK:List (List Itm):=[[(-1,0)],[(0,1),(2,1)],[(-1,1)],[(0,2)]]
theorem g_valid:validB g0 [] g2 g3 0=true:=by kernel_rfl
theorem g_okP:g3.all okP=true:=by kernel_rfl
theorem h_valid:validB g0 [] g2 h3 0=true:=by kernel_rfl
theorem h_okP:h3.all okP=true:=by kernel_rfl
theorem g_build:states_Build.f g0 [] g2 g3 0=some (gK.map (·.map ofI),gN,0):=by
 unfold states_Build.f
 rw [if_pos g_valid,if_pos g_okP,built_c]
 kernel_rfl
theorem h_build:states_Build.f g0 [] g2 h3 0=some (hK.map (·.map ofI),gN,0):=by
 unfold states_Build.f
 rw [if_pos h_valid,if_pos h_okP,built_c]
 kernel_rfl
theorem g_range:∀ p ∈ g3,∀ s ∈ p.f2, -9223372036854775808≤s∧s≤9223372036854775807:=by
 have h:(g3.all fun p=>p.f2.all fun s=>decide (-9223372036854775808≤s∧s≤9223372036854775807))=true:=by kernel_rfl
 intro p hp s hs
 exact of_decide_eq_true (List.all_eq_true.1 (List.all_eq_true.1 h p hp) s hs)
theorem h_range:∀ p ∈ h3,∀ s ∈ p.f2, -9223372036854775808≤s∧s≤9223372036854775807:=by
 have h:(h3.all fun p=>p.f2.all fun s=>decide (-9223372036854775808≤s∧s≤9223372036854775807))=true:=by kernel_rfl
 intro p hp s hs
 exact of_decide_eq_true (List.all_eq_true.1 (List.all_eq_true.1 h p hp) s hs)
theorem g_follow:wR g0 g2 g3 0=[9223372036854775808]:=by kernel_rfl
theorem h_follow:wR g0 g2 h3 0=[9223372036854775808]:=by kernel_rfl
theorem g_live:∀ i,i < g2.length→(lR g2 g3).getD i false=true:=fun i hi=>by
 have:i=0:=by have:g2.length=1:=rfl;omega
 subst this
 exact (by kernel_rfl:(lR g2 g3).getD 0 false=true)
theorem h_live:∀ i,i < g2.length→(lR g2 h3).getD i false=true:=fun i hi=>by
 have:i=0:=by have:g2.length=1:=rfl;omega
 subst this
 exact (by kernel_rfl:(lR g2 h3).getD 0 false=true)
theorem g_sorts:∀ p:Int,0≤p→p < g3.length→(rd_T68 g3 p).f1=0:=fun p h0 h1=>by
 have h1:p < 2:=h1
 have:p=0 ∨ p=1:=by omega
 rcases this with rfl | rfl <;> rfl
theorem h_sorts:∀ p:Int,0≤p→p < h3.length→(rd_T68 h3 p).f1=0:=fun p h0 h1=>by
 have h1:p < 3:=h1
 have:p=0 ∨ p=1 ∨ p=2:=by omega
 rcases this with rfl | rfl | rfl <;> rfl
def gD:List (List S53):=[[⟨1,1⟩,⟨2,1⟩],[⟨1,1⟩,⟨2,1⟩],[⟨0,0⟩,⟨3,0⟩],[⟨0,0⟩,⟨2,0⟩]]
def gX:List (List Int):=[[2],[3],[-1],[-1]]
def gM:List Int:=[9223372036854775809,9223372036854775809,9223372036854775808,9223372036854775808]
theorem g_one:((List.range 4).all fun i=>(List.range 2).all fun c=>decide ((deedsC g0 [] g2 g3 0 gK gN i c).length≤1))=true:=by kernel_rfl
theorem g_ds:((List.range 4).map fun i=>rowD 1 (deedsC g0 [] g2 g3 0 gK gN i))=gD:=by kernel_rfl
theorem g_ms:((List.range 4).map fun i=>mayF 1 (deedsC g0 [] g2 g3 0 gK gN i) 2)=gM:=by kernel_rfl
theorem g_table:Ev (fun k=>table_Build.f k g0 [] g2 g3 0) (gD,gX,gM,0):=by
 obtain ⟨F,H,hE⟩:=aheads_of g_range g_build
 have hd:∀ i,i < 4→deedsP g0 [] g2 g3 0 gK gN F i=deedsC g0 [] g2 g3 0 gK gN i:=fun i hi=>funext fun c=>deeds_c H g_live g_follow g_sorts (i:=i) hi c
 rcases table_ev H g_range g_build hE with ⟨⟨i,c,hi,hc,h1⟩,_⟩ | ⟨_,h⟩
 ·exfalso
  have hi:i < 4:=hi
  have hc:c < 2:=Nat.lt_succ_of_le hc
  rw [hd i hi] at h1
  have:=of_decide_eq_true (List.all_eq_true.1 (List.all_eq_true.1 g_one i (List.mem_range.2 hi)) c (List.mem_range.2 hc))
  omega
 ·have e1:dsP g0 [] g2 g3 0 gK gN F gK.length=gD:=by
   rw [← g_ds]
   exact List.map_congr_left fun i hi=>by rw [hd i (List.mem_range.1 hi)];rfl
  have e2:nsP g0 gN gK.length=gX:=by kernel_rfl
  have e3:msP g0 [] g2 g3 0 gK gN F gK.length=gM:=by
   rw [← g_ms]
   exact List.map_congr_left fun i hi=>by rw [hd i (List.mem_range.1 hi)];rfl
  rw [e1,e2,e3] at h
  exact h
def hA:List (List (List S53)):=(List.range 4).map fun i=>(List.range 2).map (deedsC g0 [] g2 h3 0 hK gN i)
theorem h_all:Ev (fun k=>table_All.f k g0 [] g2 h3 0) (hA,0)∧Ev (fun k=>table_Build.f k g0 [] g2 h3 0) ([],[],[],16):=by
 obtain ⟨F,H,hE⟩:=aheads_of h_range h_build
 have hd:∀ i,i < 4→deedsP g0 [] g2 h3 0 hK gN F i=deedsC g0 [] g2 h3 0 hK gN i:=fun i hi=>funext fun c=>deeds_c H h_live h_follow h_sorts (i:=i) hi c
 refine ⟨?_, ?_⟩
 ·have h:=all_ev H h_range h_build hE
  have e:allP g0 [] g2 h3 0 hK gN F=hA:=List.map_congr_left fun i hi=>by
   unfold stateP
   rw [hd i (List.mem_range.1 hi)]
   rfl
  rw [e] at h
  exact h
 ·rcases table_ev H h_range h_build hE with ⟨_,h⟩ | ⟨h,_⟩
  ·exact h
  ·refine absurd ⟨1,1,by decide,by decide, ?_⟩ h
   rw [hd 1 (by decide)]
   have e:(deedsC g0 [] g2 h3 0 hK gN 1 1).length=2:=by kernel_rfl
   omega
theorem h_clashes:Ev (fun k=>table_Clashes.f k g0 [] g2 h3 0) [⟨1,1⟩]:=by
 obtain ⟨K1,h1⟩:=h_all.1
 refine ⟨K1+30,fun k hk=>?_⟩
 obtain ⟨k,rfl⟩:∃ j,k=j+30:=⟨k - 30,by omega⟩
 have h2:=h1 (k+30) (by omega)
 dsimp only at h2 ⊢
 unfold table_Clashes.f
 rw [h2,Option.bind_some]
 have h3:∀ k,table_Clashes.l0 (k+30) [] hA (hA.length:Int) 0=some [⟨1,1⟩]:=fun k=>by kernel_rfl
 exact h3 k
theorem g_run (l:List Int) (r:Bool × Int) (h:∀ k,table_Run.l0 (k+60) l [0] 0 g0 [] g2 g3 0 gD gX gM=some r):Ev (fun k=>table_Run.f k g0 [] g2 g3 0 gD gX gM l) r:=by
 obtain ⟨K1,h1⟩:=g_table
 refine ⟨K1+60,fun k hk=>?_⟩
 obtain ⟨k,rfl⟩:∃ j,k=j+60:=⟨k - 60,by omega⟩
 have h2:=h1 (k+60) (by omega)
 have hv:inst_Valid.f g0 [] g2 g3 0=some true:=by unfold inst_Valid.f;rw [g_valid]
 dsimp only at h2 ⊢
 unfold table_Run.f
 rw [h2,Option.bind_some,if_pos rfl,hv,Option.bind_some,if_pos rfl]
 unfold table_same.f
 rw [if_pos ⟨rfl,rfl,rfl⟩,Option.bind_some,if_pos rfl]
 exact h k
theorem g_run0:Ev (fun k=>table_Run.f k g0 [] g2 g3 0 gD gX gM [0,0]) (true,2):=g_run _ _ fun k=>by kernel_rfl
theorem g_run1:Ev (fun k=>table_Run.f k g0 [] g2 g3 0 gD gX gM [0,1]) (false,1):=g_run _ _ fun k=>by kernel_rfl
end Go.Proofs.YtclollnicbcooaaGreatDoor.P
namespace Go.Proofs.YtclollnicbcooaaGreatDoor.P
open Go.RowKit Go.Lib Go.Sort YtclollnicbcooaaGreatDoorW.PrintWords YtclollnicbcooaaGreatDoorW.PrintLast YtclollnicbcooaaGreatDoorW.PrintMore St Base
section
attribute [local go_sem] Oper.semAt_some
attribute [local go_sem high] eqA53
structure WK (k:Nat):Prop where
 b1:table_Build.f k g0 [] g2 g3 0=some (gD,gX,gM,0)
 r1:table_Run.f k g0 [] g2 g3 0 gD gX gM [0,0]=some (true,2)
 r2:table_Run.f k g0 [] g2 g3 0 gD gX gM [0,1]=some (false,1)
 c1:table_Clashes.f k g0 [] g2 h3 0=some [⟨1,1⟩]
 b2:table_Build.f k g0 [] g2 h3 0=some ([],[],[],16)
open Classical in
noncomputable def sl16_works.f (k:Nat):Option Bool:=if WK k then some true else none
theorem table_works:Ev (fun k=>sl16_works.f k) true:=by
 obtain ⟨K1,h1⟩:=g_table
 obtain ⟨K2,h2⟩:=g_run0
 obtain ⟨K3,h3_⟩:=g_run1
 obtain ⟨K4,h4⟩:=h_clashes
 obtain ⟨K5,h5⟩:=h_all.2
 refine ⟨K1+K2+K3+K4+K5,fun k hk=>?_⟩
 show sl16_works.f k=some true
 unfold sl16_works.f
 rw [if_pos ⟨h1 k (by omega),h2 k (by omega),h3_ k (by omega),h4 k (by omega),h5 k (by omega)⟩]
theorem run_c {A0:Option Addr} {c0:Nat} {l0:List S65} {A1:Option Addr} {c1:Nat} {l1:List S73} {A2:Option Addr} {c2:Nat} {l2:List ByteArray} {A3:Option Addr} {c3:Nat} {l3:List S68} {w:World} (h:Gm A0 c0 l0 A1 c1 l1 A2 c2 l2 A3 c3 l3 w) {D:List (List S53)} {N:List (List Int)} {M:List Int} {A:Option Addr} {c:Nat} {A':Option Addr} {c':Nat} {A'':Option Addr} {c'':Nat} (t:Tm D N M A c A' c' A'' c'' w)
  {B:Option Addr} {b:Nat} {l:List Int} (hl:Kd.C (Kd.int .i64) w B l.length l) (hb:l.length≤b) {k:Nat} {st:Int} {ok:Bool} {n:Int} (hf:table_Run.f k l0 l1 l2 l3 st D N M l=some (ok,n)) :
  Calls Tryz.prog 17 #[gV A0 c0 l0 A1 c1 l1 A2 c2 l2 A3 c3 l3 st,.agg #[.slice A D.length c,.slice A' N.length c',.slice A'' M.length c''],.slice B l.length b] w fun x w'=>x=.returned (.tuple #[.bool ok,.int .i64 n])∧RowKit.Below w.heap.size w w' :=
 table_Run.calls k A0 c0 l0 A1 c1 l1 A2 c2 l2 A3 c3 l3 st A c D A' c' N A'' c'' M B b l ok n w h.g h.r0 h.c0 h.r1 h.c1 h.r2 h.c2 h.r3 h.c3 t.d t.dc t.n t.nc t.m t.mc hl hb hf
theorem flat_at {sz:Nat}:∀ (css:List (List Value)) (j:Nat) (c:List Value) (i:Nat) (u:Value),(∀ x ∈ css,x.length=sz)→css[j]? = some c→c[i]? = some u→css.flatten[j * sz+i]? = some u
 | [],j,c,i,u,_,h,_=>by simp at h
 | x :: css,0,c,i,u,hs,h,hi=>by
  have e:x=c:=by simpa using h
  subst e
  rw [List.flatten_cons,Nat.zero_mul,Nat.zero_add,List.getElem?_append_left (by have:=(List.getElem?_eq_some_iff.1 hi).1;exact this)]
  exact hi
 | x :: css,j+1,c,i,u,hs,h,hi=>by
  have hx:=hs x (by simp)
  have e:(j+1) * sz+i=sz+(j * sz+i):=by rw [Nat.succ_mul];omega
  rw [List.flatten_cons,e,List.getElem?_append_right (by omega),hx,Nat.add_sub_cancel_left]
  exact flat_at css j c i u (fun y hy=>hs y (by simp [hy])) (by simpa using h) hi
theorem C_flat {α:Type} {d:Kd α} {W:World} {g:Nat} {xs:List α} (css:List (List Value)) (hx:xs.length≤9223372036854775807) (hs:∀ x ∈ css,x.length=d.sz) (h:∀ (j:Nat) (p:α),xs[j]? = some p→∃ c,css[j]? = some c∧d.K W p c) (hc:∀ (i:Nat) (u:Value),css.flatten[i]? = some u→W.cell? ⟨g,i,none⟩=some u):d.C W (some ⟨g,0,none⟩) xs.length xs:=by
 refine ⟨rfl,hx,fun _=>⟨_,rfl,fun j p hp=>?_⟩⟩
 obtain ⟨c,h1,h2⟩:=h j p hp
 refine ⟨c,hs c (List.mem_of_getElem? h1),h2,fun i u hu=>?_⟩
 have e:(⟨g,0,none⟩:Addr).add (j * d.sz+i)=⟨g,j * d.sz+i,none⟩:=by
  unfold Addr.add
  simp
  exact fun h=>by omega
 rw [e]
 exact hc _ _ (flat_at css j c i u hs h1 hu)
structure GeT (n:Nat) (W:World):Prop where
 c0:W.heap[n]? = some (.cells #[.string ⟨#[97]⟩,.string ⟨#[]⟩,.bool false,.int .i64 0] 65 (0,0))
 c1:W.heap[n+1]? = some (.cells #[.string ⟨#[83]⟩] 9 (0,0))
 c2:W.heap[n+1+1]? = some (.cells #[.int .i64 0,.int .i64 (-1)] 56 (0,0))
theorem GeT.below {n:Nat} {W W1:World} (h:GeT n W) (hb:RowKit.Below W.heap.size W W1):GeT n W1:=⟨blk_below h.c0 hb,blk_below h.c1 hb,blk_below h.c2 hb⟩
theorem GeT.r0 {n:Nat} {W:World} (h:GeT n W):Kd.C k65 W (some ⟨n,0,none⟩) g0.length g0 :=
 C_flat [[.string ⟨#[97]⟩,.string ⟨#[]⟩,.bool false,.int .i64 0]] (by decide) (by intro x hx;rw [List.mem_singleton.1 hx];rfl) (fun j p hp=>by
  cases j with
  | zero =>
   have e:(⟨⟨#[97]⟩,⟨#[]⟩,false,0⟩:S65)=p:=by simpa [g0] using hp
   subst e;exact ⟨_,rfl,k65_mk W _⟩
  | succ j=>simp [g0] at hp) (fun i u hu=>by rw [blk_cell h.c0 i];simpa using hu)
theorem GeT.r2 {n:Nat} {W:World} (h:GeT n W):Kd.C Kd.string W (some ⟨n+1,0,none⟩) g2.length g2 :=
 C_flat [[.string ⟨#[83]⟩]] (by decide) (by intro x hx;rw [List.mem_singleton.1 hx];rfl) (fun j p hp=>by
  cases j with
  | zero =>
   have e:(⟨#[83]⟩:ByteArray)=p:=by simpa [g2] using hp
   subst e;exact ⟨_,rfl,rfl⟩
  | succ j=>simp [g2] at hp) (fun i u hu=>by rw [blk_cell h.c1 i];simpa using hu)
theorem ints_C {W:World} {g t:Nat} {cs:List Int} (hl:cs.length≤9223372036854775807) (h:W.heap[g]? = some (.cells (cs.map (Value.int .i64)).toArray t (0,0))):Kd.C (Kd.int .i64) W (some ⟨g,0,none⟩) cs.length cs :=
 C_flat (cs.map fun x=>[.int .i64 x]) hl (by intro x hx;obtain ⟨y,_,rfl⟩:=List.mem_map.1 hx;rfl) (fun j p hp=>⟨[.int .i64 p],by rw [List.getElem?_map,hp];rfl,rfl⟩) (fun i u hu=>by
  have e:(cs.map fun x=>[Value.int .i64 x]).flatten=cs.map (Value.int .i64):=by
   clear hu h hl
   induction cs with
   | nil=>rfl
   | cons x cs ih=>rw [List.map_cons,List.flatten_cons,ih];rfl
  rw [blk_cell h i]
  rw [e] at hu
  simpa using hu)
def gC (n:Nat):List (List Value):=[[.string ⟨#[112]⟩,.int .i64 0,.slice (some ⟨n+1+1,0,none⟩) 2 2,.int .i64 0],[.string ⟨#[113]⟩,.int .i64 0,.slice none 0 0,.int .i64 0]]
theorem GeT.k3 {n:Nat} {W:World} (h:GeT n W) (j:Nat) (p:S68) (hp:g3[j]? = some p):∃ c,(gC n)[j]? = some c∧k68.K W p c:=by
 match j,hp with
 | 0,hp =>
  have e:(⟨⟨#[112]⟩,0,[0, -1],0⟩:S68)=p:=by simpa [g3] using hp
  subst e
  exact ⟨_,rfl,k68_mk W (⟨⟨#[112]⟩,0,[0, -1],0⟩:S68) (by decide) (ints_C (by decide) h.c2)⟩
 | 1,hp =>
  have e:(⟨⟨#[113]⟩,0,[],0⟩:S68)=p:=by simpa [g3] using hp
  subst e
  exact ⟨_,rfl,k68_mk W (⟨⟨#[113]⟩,0,[],0⟩:S68) (by decide) (Kd.C_nil _ _)⟩
 | j+2,hp=>simp [g3] at hp
theorem GeT.r3 {n m:Nat} {W:World} (h:GeT n W) (hc:W.heap[m]? = some (.cells (gC n).flatten.toArray 68 (0,0))):Kd.C k68 W (some ⟨m,0,none⟩) g3.length g3 :=
 C_flat (gC n) (by decide) (by intro x hx;rcases List.mem_cons.1 hx with rfl | hx;rfl;rw [List.mem_singleton.1 hx];rfl) h.k3 (fun i u hu=>by rw [blk_cell hc i];simpa using hu)
theorem GeT.h3 {n m g cap:Nat} {W:World} {base:Nat} (h:GeT n W) (hm:W.heap[m]? = some (.cells #[.int .i64 0] 56 (0,0))) (ho:W.ownsRow base 68 4 (.slice (some ⟨g,0,none⟩) 3 cap) 3 ((gC n).flatten ++ [.string ⟨#[114]⟩,.int .i64 0,.slice (some ⟨m,0,none⟩) 1 1,.int .i64 0])):Kd.C k68 W (some ⟨g,0,none⟩) h3.length h3:=by
 refine C_flat (gC n ++ [[.string ⟨#[114]⟩,.int .i64 0,.slice (some ⟨m,0,none⟩) 1 1,.int .i64 0]]) (by decide) ?_ ?_ ?_
 ·intro x hx
  rcases List.mem_append.1 hx with hx | hx
  ·rcases List.mem_cons.1 hx with rfl | hx;rfl;rw [List.mem_singleton.1 hx];rfl
  ·rw [List.mem_singleton.1 hx];rfl
 ·intro j p hp
  match j,hp with
  | 0,hp=>exact h.k3 0 p hp
  | 1,hp=>exact h.k3 1 p hp
  | 2,hp =>
   have e:(⟨⟨#[114]⟩,0,[0],0⟩:S68)=p:=by simpa [P.h3,g3] using hp
   subst e
   exact ⟨_,rfl,k68_mk W (⟨⟨#[114]⟩,0,[0],0⟩:S68) (by decide) (ints_C (by decide) hm)⟩
  | j+3,hp=>simp [P.h3,g3] at hp
 ·intro i u hu
  have hl:i < 12:=by
   have:=(List.getElem?_eq_some_iff.1 hu).1
   simpa [gC] using this
  rw [ho.cellAt i (by omega)]
  rw [List.flatten_append] at hu
  exact hu
abbrev wG (w:World):World:=((((w.alloc (Obj.cells #[.string ⟨#[97]⟩,.string ⟨#[]⟩,.bool false,.int .i64 0] 65)).alloc (Obj.cells #[.string ⟨#[83]⟩] 9)).alloc (Obj.cells #[.int .i64 0,.int .i64 (-1)] 56)).alloc
 (Obj.cells #[.string ⟨#[112]⟩,.int .i64 0,.slice (some ⟨w.heap.size+1+1,0,none⟩) 2 2,.int .i64 0,.string ⟨#[113]⟩,.int .i64 0,.slice none 0 0,.int .i64 0] 68)).alloc
 (Obj.cells #[.slice (some ⟨w.heap.size,0,none⟩) 1 1,.slice none 0 0,.slice (some ⟨w.heap.size+1,0,none⟩) 1 1,.slice (some ⟨w.heap.size+1+1+1,0,none⟩) 2 2,.int .i64 0] 27)
theorem wG_is (w:World):GeT w.heap.size (wG w)∧(wG w).heap[w.heap.size+1+1+1]? = some (.cells (gC w.heap.size).flatten.toArray 68 (0,0)) ∧
  (wG w).heap[w.heap.size+1+1+1+1]? = some (.cells #[.slice (some ⟨w.heap.size,0,none⟩) 1 1,.slice none 0 0,.slice (some ⟨w.heap.size+1,0,none⟩) 1 1,.slice (some ⟨w.heap.size+1+1+1,0,none⟩) 2 2,.int .i64 0] 27 (0,0))∧RowKit.Below w.heap.size w (wG w)∧(wG w).heap.size=w.heap.size+1+1+1+1+1:=by
 have new:∀ (W:World) (o:Obj) (n:Nat) (r:Option Obj),W.heap.size=n→(W.alloc o).heap[W.heap.size]? = r→(W.alloc o).heap[n]? = r:=fun W o n r e h=>e ▸ h
 refine ⟨⟨?_, ?_, ?_⟩, ?_, ?_, ?_,by simp⟩
 ·exact blk_alloc (blk_alloc (blk_alloc (blk_alloc (blk_new w _) _) _) _) _
 ·exact blk_alloc (blk_alloc (blk_alloc (new _ _ _ _ (by simp) (blk_new _ _)) _) _) _
 ·exact blk_alloc (blk_alloc (new _ _ _ _ (by simp) (blk_new _ _)) _) _
 ·exact blk_alloc (new _ _ _ _ (by simp) (blk_new _ _)) _
 ·exact new _ _ _ _ (by simp) (blk_new _ _)
 ·exact below_alloc (below_alloc (below_alloc (below_alloc (below_alloc (RowKit.Below.refl w.heap.size w) _) _) _) _) _
abbrev aG (n:Nat) (A3:Option Addr) (m c3:Nat):Value:=.agg #[.slice (some ⟨n,0,none⟩) 1 1,.slice none 0 0,.slice (some ⟨n+1,0,none⟩) 1 1,.slice A3 m c3,.int .i64 0]
abbrev GmE (n:Nat) (A3:Option Addr) (c3:Nat) (l3:List S68) (W:World):Prop:=Gm (some ⟨n,0,none⟩) 1 g0 none 0 [] (some ⟨n+1,0,none⟩) 1 g2 A3 c3 l3 W
structure TN (B:Nat) (A:Option Addr) (c:Nat) (A':Option Addr) (c':Nat) (A'':Option Addr) (c'':Nat) (w:World):Prop where
 n0:Kd.N (Kd.slice 53 k53) 49 w B (fun k=>B≤k) (.slice A 4 c) gD
 n1:Kd.N (Kd.slice 3 (Kd.int .i64)) 50 w B (fun k=>B≤k) (.slice A' 4 c') gX
 n2:Kd.R (Kd.int .u64) 48 w B (fun k=>B≤k) (.slice A'' 4 c'') gM
theorem TN.below {B:Nat} {A:Option Addr} {c:Nat} {A':Option Addr} {c':Nat} {A'':Option Addr} {c'':Nat} {w W:World} (h:TN B A c A' c' A'' c'' w) (hb:RowKit.Below w.heap.size w W):TN B A c A' c' A'' c'' W:=⟨Kd.N_below h.n0 hb,Kd.N_below h.n1 hb,Kd.R_below h.n2 hb⟩
theorem TN.far {B:Nat} {A:Option Addr} {c:Nat} {A':Option Addr} {c':Nat} {A'':Option Addr} {c'':Nat} {w:World} (h:TN B A c A' c' A'' c'' w) {p:Addr} (hp:p.block < B) (v:Value):TN B A c A' c' A'' c'' (w.setCell p v) :=
 ⟨Kd.N_far h.n0 (fun k hk=>by omega) v,Kd.N_far h.n1 (fun k hk=>by omega) v,Kd.R_far h.n2 (fun k hk=>by omega) v⟩
theorem TN.tm {B:Nat} {A:Option Addr} {c:Nat} {A':Option Addr} {c':Nat} {A'':Option Addr} {c'':Nat} {w:World} (h:TN B A c A' c' A'' c'' w):Tm gD gX gM A c A' c' A'' c'' w:=by
 obtain ⟨_,a,b⟩:=Kd.N_reads' h.n0
 obtain ⟨_,a',b'⟩:=Kd.N_reads' h.n1
 obtain ⟨_,a'',b''⟩:=Kd.R_reads' h.n2
 exact ⟨b,a,b',a',b'',a''⟩
theorem build_g {n:Nat} {A3:Option Addr} {c3:Nat} {W:World} (h:GmE n A3 c3 g3 W) {k:Nat} (hf:table_Build.f k g0 [] g2 g3 0=some (gD,gX,gM,0)) :
  Calls Tryz.prog 11 #[aG n A3 2 c3] W fun x w'=>∃ A c A' c' A'' c'',x=.returned (.tuple #[.agg #[.slice A 4 c,.slice A' 4 c',.slice A'' 4 c''],.int .i64 0])∧TN W.heap.size A c A' c' A'' c'' w'∧RowKit.Below W.heap.size W w':=by
 refine (table_Build.calls k _ 1 g0 none 0 [] _ 1 g2 A3 c3 g3 0 gD gX gM 0 W h.g h.r0 h.c0 h.r1 h.c1 h.r2 h.c2 h.r3 h.c3 hf).mono ?_
 rintro x w' ⟨v0,v1,v2,rfl,h0,h1,h2,hb⟩
 obtain ⟨A,c,rfl⟩:=Kd.N_slice h0
 obtain ⟨A',c',rfl⟩:=Kd.N_slice h1
 obtain ⟨A'',c'',rfl⟩:=Kd.R_slice h2
 exact ⟨A,c,A',c',A'',c'',rfl,⟨Kd.N_mono h0 fun k hk=>hk.1,Kd.N_mono h1 fun k hk=>hk.1,h2⟩,hb⟩
theorem build_h {n:Nat} {A3:Option Addr} {c3:Nat} {W:World} (h:GmE n A3 c3 h3 W) {k:Nat} (hf:table_Build.f k g0 [] g2 h3 0=some ([],[],[],16)) :
  Calls Tryz.prog 11 #[aG n A3 3 c3] W fun x w'=>∃ A c A' c' A'' c'',x=.returned (.tuple #[.agg #[.slice A 0 c,.slice A' 0 c',.slice A'' 0 c''],.int .i64 16])∧RowKit.Below W.heap.size W w' :=
 (build_c h hf).mono fun x w' ⟨A,c,A',c',A'',c'',e,_,hb⟩=>⟨A,c,A',c',A'',c'',e,hb⟩
theorem clash_h {n:Nat} {A3:Option Addr} {c3:Nat} {W:World} (h:GmE n A3 c3 h3 W) {k:Nat} (hf:table_Clashes.f k g0 [] g2 h3 0=some [⟨1,1⟩]) :
  Calls Tryz.prog 13 #[aG n A3 3 c3] W fun x w'=>∃ A c,x=.returned (.slice A 1 c)∧RowKit.Below W.heap.size W w':=clashes_c h hf
theorem run_g {n:Nat} {A3:Option Addr} {c3:Nat} {W:World} (h:GmE n A3 c3 g3 W) {A:Option Addr} {c:Nat} {A':Option Addr} {c':Nat} {A'':Option Addr} {c'':Nat} (t:Tm gD gX gM A c A' c' A'' c'' W) {g:Nat} {a b:Int} {ty:TypeId} (hl:W.heap[g]? = some (.cells #[.int .i64 a,.int .i64 b] ty (0,0))) {k:Nat} {ok:Bool} {m:Int} (hf:table_Run.f k g0 [] g2 g3 0 gD gX gM [a,b]=some (ok,m)) :
  Calls Tryz.prog 17 #[aG n A3 2 c3,.agg #[.slice A 4 c,.slice A' 4 c',.slice A'' 4 c''],.slice (some ⟨g,0,none⟩) 2 2] W fun x w'=>x=.returned (.tuple #[.bool ok,.int .i64 m])∧RowKit.Below W.heap.size W w' :=
 run_c h t (ints_C (cs:=[a,b]) (by simp) hl) (by simp) hf
theorem GeT.far {n:Nat} {W:World} (h:GeT n W) {p:Addr} (hp:n+2 < p.block) (v:Value):GeT n (W.setCell p v):=⟨blk_far h.c0 (by omega) v,blk_far h.c1 (by omega) v,blk_far h.c2 (by omega) v⟩
theorem own_far {W:World} {B g cap:Nat} {xs:List Value} (h:W.ownsRow B 68 4 (.slice (some ⟨g,0,none⟩) 3 cap) 3 xs) {p:Addr} (hp:g≠p.block) (v:Value):(W.setCell p v).ownsRow B 68 4 (.slice (some ⟨g,0,none⟩) 3 cap) 3 xs∧3≤cap:=by
 obtain ⟨hl,⟨e,_⟩ | ⟨g',cap',cur,e,hb,hg,h1,h2,h3,h4⟩⟩:=h
 ·cases e
 ·injection e with e1 e2 e3
  injection e1 with e1
  injection e1 with e1
  subst e1
  subst e3
  exact ⟨⟨hl,.inr ⟨g,cap,cur,rfl,hb,blk_far hg hp v,h1,h2,h3,h4⟩⟩,h1⟩
set_option maxHeartbeats 8000000 in
set_option maxRecDepth 100000 in
theorem works_walk (k:Nat) (w:World) (hG:GTab w) (h:WK k):Calls Tryz.prog 9 #[] w fun e w'=>e=.returned (.bool true)∧Below w.heap.size w w':=by
 have hu65:=Tryz.underlying65
 have hu68:=Tryz.underlying68
 have hu27:=Tryz.underlying27
 have hu34:=Tryz.underlying34
 have HG:=jM hG
 have HK:=jM h
 clear hG h
 go_enter Tryz.func9,Tryz.ntmps9
 go_upto_region 2 with fail
 obtain ⟨W1,hW⟩:∃ W_,W_=((((w.alloc (Obj.cells #[.string ⟨#[97]⟩,.string ⟨#[]⟩,.bool false,.int .i64 0] 65)).alloc (Obj.cells #[.string ⟨#[83]⟩] 9)).alloc (Obj.cells #[.int .i64 0,.int .i64 (-1)] 56)).alloc (Obj.cells #[.string ⟨#[112]⟩,.int .i64 0,.slice (some ⟨w.heap.size+1+1,0,none⟩) 2 2,.int .i64 0,.string ⟨#[113]⟩,.int .i64 0,.slice none 0 0,.int .i64 0] 68)).alloc (Obj.cells #[.slice (some ⟨w.heap.size,0,none⟩) 1 1,.slice none 0 0,.slice (some ⟨w.heap.size+1,0,none⟩) 1 1,.slice (some ⟨w.heap.size+1+1+1,0,none⟩) 2 2,.int .i64 0] 27):=⟨_,rfl⟩
 rw [← hW]
 obtain ⟨g1,b3,b4,hb1,hsz⟩:=wG_is w
 rw [show wG w=W1 from hW.symm] at g1 b3 b4 hb1 hsz
 have GE1:=jM g1
 have B31:=jM b3
 have B41:=jM b4
 have HB1:=jM hb1
 have HSZ:=jM hsz
 clear g1 b3 b4 hb1 hsz hW
 have GM1:Aside0 (GmE w.heap.size (some ⟨w.heap.size+1+1+1,0,none⟩) 2 g3 W1):=⟨⟨GE1.out.r0,by decide,Kd.C_nil _ _,by decide,GE1.out.r2,by decide,GE1.out.r3 B31.out,by decide,GTab.below HG.out HB1.out⟩⟩
 obtain ⟨y0,y1,y2,y3,y4⟩:=five5 B41.out
 go_upto_region 3 with (go_at_call 11;(with_reducible refine (build_g GM1.out HK.out.b1).mono ?_);rintro e w2 ⟨A,c,A',c',A'',c'',rfl,ht,hb⟩;have HB2:=jM hb;have TN2:=jM ht;clear hb ht)
 clear y0 y1 y2 y3 y4
 have BT3:=jM (blk_new w2 (Obj.cells #[.slice A 4 c,.slice A' 4 c',.slice A'' 4 c''] 34))
 have hal:=below_alloc (RowKit.Below.refl w2.heap.size w2) (Obj.cells #[.slice A 4 c,.slice A' 4 c',.slice A'' 4 c''] 34)
 have HBX:=jM (below_step HB2.out hal)
 have TN3:=jM (TN.below TN2.out hal)
 have GE3:=jM (GeT.below GE1.out HBX.out)
 have B33:=jM (blk_below B31.out HBX.out)
 have B43:=jM (blk_below B41.out HBX.out)
 have GM3:=jM (Gm.below GM1.out HBX.out)
 have HB3:=jM (below_step HB1.out HBX.out)
 have HGT:=jM (below_size HB2.out)
 clear hal TN2 HB2
 generalize w2.alloc (Obj.cells #[.slice A 4 c,.slice A' 4 c',.slice A'' 4 c''] 34)=w3 at *
 generalize w2.heap.size=gt at *
 obtain ⟨t0,t1,t2⟩:=three3 BT3.out
 go_upto_region 5 with fail
 have HQ3:=jM fun (W':World) (hb:RowKit.Below w3.heap.size w3 W')=>And.intro (GeT.below GE3.out hb) (And.intro (blk_below B43.out hb) (And.intro (Gm.below GM3.out hb) (And.intro (TN.below TN3.out hb) (blk_below BT3.out hb))))
 have hal:=below_alloc (RowKit.Below.refl w3.heap.size w3) (Obj.cells #[.int .i64 0,.int .i64 0] 3)
 have HA5:=jM hal
 have HR5:=jM (run_g (HQ3.out _ hal).2.2.1 (HQ3.out _ hal).2.2.2.1.tm (blk_new w3 (Obj.cells #[.int .i64 0,.int .i64 0] 3)) HK.out.r1)
 clear hal
 obtain ⟨y0,y1,y2,y3,y4⟩:=five5 B43.out
 go_upto_region 6 with (go_at_call 17;(with_reducible refine HR5.out.mono ?_);rintro e w5 ⟨rfl,hb⟩;have HB5:=jM (below_step HA5.out hb);clear hb)
 clear y0 y1 y2 y3 y4 t0 t1 t2 HR5 HA5
 obtain ⟨-,b4, -, -,bt⟩:=HQ3.out w5 HB5.out
 obtain ⟨y0,y1,y2,y3,y4⟩:=five5 b4
 obtain ⟨t0,t1,t2⟩:=three3 bt
 have hal:=below_step HB5.out (below_alloc (RowKit.Below.refl w5.heap.size w5) (Obj.cells #[.int .i64 0,.int .i64 1] 3))
 have HA6:=jM hal
 have HR6:=jM (run_g (HQ3.out _ hal).2.2.1 (HQ3.out _ hal).2.2.2.1.tm (blk_new w5 (Obj.cells #[.int .i64 0,.int .i64 1] 3)) HK.out.r2)
 clear hal b4 bt
 go_upto_region 7 with (go_at_call 17;(with_reducible refine HR6.out.mono ?_);rintro e w6 ⟨rfl,hb⟩;have HB6:=jM (below_step HA6.out hb);clear hb)
 clear y0 y1 y2 y3 y4 t0 t1 t2 HR6 HA6 HB5
 obtain ⟨ge,b4, -, -, -⟩:=HQ3.out w6 HB6.out
 have b3:=blk_below B33.out HB6.out
 have GE6:=jM ge
 have B46:=jM b4
 have B36:=jM b3
 obtain ⟨y0,y1,y2,y3,y4⟩:=five5 b4
 clear ge b4 b3
 obtain ⟨i0,hi,hz0,hz1,hz2⟩:=info_parts info68
 have HI:=jM (And.intro hi (And.intro hz0 (And.intro hz1 hz2)))
 clear hi hz0 hz1 hz2
 have HO7:=jM (show ∀ b:Addr,some (⟨w.heap.size+1+1+1,0,none⟩:Addr)=some b→∀ (j:Nat) (u:Value),(gC w.heap.size).flatten[j]? = some u→((w6.alloc (Obj.cells #[.int .i64 0] 56)).alloc (Obj.cells #[.string ⟨#[114]⟩,.int .i64 0,.slice (some ⟨w6.heap.size,0,none⟩) 1 1,.int .i64 0] 68)).cell? (b.add j)=some u from fun b hb j u hu=>by
  injection hb with hb
  subst hb
  rw [Addr.add_lit,Nat.zero_add,blk_cell (blk_alloc (blk_alloc B36.out _) _) j]
  simpa using hu)
 have HN7:=jM (show ∀ (j:Nat) (u:Value),([.string ⟨#[114]⟩,.int .i64 0,.slice (some ⟨w6.heap.size,0,none⟩) 1 1,.int .i64 0]:List Value)[j]? = some u→((w6.alloc (Obj.cells #[.int .i64 0] 56)).alloc (Obj.cells #[.string ⟨#[114]⟩,.int .i64 0,.slice (some ⟨w6.heap.size,0,none⟩) 1 1,.int .i64 0] 68)).cell? ((⟨w6.heap.size+1,0,none⟩:Addr).add j)=some u from fun j u hu=>by
  have hb:=blk_new (w6.alloc (Obj.cells #[.int .i64 0] 56)) (Obj.cells #[.string ⟨#[114]⟩,.int .i64 0,.slice (some ⟨w6.heap.size,0,none⟩) 1 1,.int .i64 0] 68)
  rw [show (w6.alloc (Obj.cells #[.int .i64 0] 56)).heap.size=w6.heap.size+1 by simp] at hb
  rw [Addr.add_lit,Nat.zero_add,blk_cell hb j]
  simpa using hu)
 have hal:=below_alloc (below_alloc (RowKit.Below.refl w6.heap.size w6) (Obj.cells #[.int .i64 0] 56)) (Obj.cells #[.string ⟨#[114]⟩,.int .i64 0,.slice (some ⟨w6.heap.size,0,none⟩) 1 1,.int .i64 0] 68)
 have HA7:=jM hal
 have BR7:=jM (blk_alloc (blk_new w6 (Obj.cells #[.int .i64 0] 56)) (Obj.cells #[.string ⟨#[114]⟩,.int .i64 0,.slice (some ⟨w6.heap.size,0,none⟩) 1 1,.int .i64 0] 68))
 clear hal
 go_upto_region 8 with (at_builtin;refine wpList_append_grows _ rfl (.tmp 59) (.tmp 62) 25 rfl 68 i0 (.agg #[(.string ⟨#[]⟩),(.int .i64 0),(.slice none 0 0),(.int .i64 0)]) 4 56 Tryz.underlying25 HI.out.1 HI.out.2.1 HI.out.2.2.1 HI.out.2.2.2 rfl (by decide) (some ⟨w.heap.size+1+1+1,0,none⟩) 2 2 (gC w.heap.size).flatten rfl (fun h=>by cases h) rfl HO7.out ⟨w6.heap.size+1,0,none⟩ 1 1 [.string ⟨#[114]⟩,.int .i64 0,.slice (some ⟨w6.heap.size,0,none⟩) 1 1,.int .i64 0] rfl rfl HN7.out (by simp [Value.oneCell']) (by decide) (by unfold maxLen;omega) (by decide) ?_;intro v7 w7 hown hgr;obtain ⟨g7,cap7,rfl,hbg,hlg⟩:=hown.form (by decide);have hb7:=below_step HA7.out (RowKit.Below.grown (RowKit.Below.refl _ _) hgr (Nat.le_refl _) (fun k h=>by cases h));have HB77:=jM (RowKit.Below.grown (RowKit.Below.refl _ _) hgr (Nat.le_refl _) (fun k h=>by cases h));have HB7:=jM hb7;have b47:=blk_below B46.out hb7;have B47:=jM b47;have y3:w7.cell? ⟨w.heap.size+1+1+1+1,3,none⟩=some (.slice (some ⟨w.heap.size+1+1+1,0,none⟩) 2 2):=blk_cell b47 3;have z3:=blk_frozen b47 3;have HOW:=jM hown;have HGL:=jM (And.intro hbg hlg);clear hown hgr hb7 b47 hbg hlg)
 clear y0 y1 y2 y3 y4 z3
 obtain ⟨w8,h8⟩:∃ W_,W_=w7.setCell ⟨w.heap.size+1+1+1+1,3,none⟩ (.slice (some ⟨g7,0,none⟩) 3 cap7):=⟨_,rfl⟩
 rw [← h8]
 have s1:=HSZ.out
 have s2:=HGT.out
 have s3:=below_size HBX.out
 have s4:=below_size HB6.out
 have s5:=HGL.out
 have s6:((w6.alloc (Obj.cells #[.int .i64 0] 56)).alloc (Obj.cells #[.string ⟨#[114]⟩,.int .i64 0,.slice (some ⟨w6.heap.size,0,none⟩) 1 1,.int .i64 0] 68)).heap.size=w6.heap.size+2:=by simp
 obtain ⟨-, -, -,tn7,bt7⟩:=HQ3.out w7 (below_step HB6.out HB7.out)
 have ge8:=GeT.far (GeT.below GE6.out HB7.out) (p:=⟨w.heap.size+1+1+1+1,3,none⟩) (show w.heap.size+2 < w.heap.size+1+1+1+1 by omega) (.slice (some ⟨g7,0,none⟩) 3 cap7)
 have br8:=blk_far (blk_below BR7.out HB77.out) (p:=⟨w.heap.size+1+1+1+1,3,none⟩) (show w6.heap.size≠w.heap.size+1+1+1+1 by omega) (.slice (some ⟨g7,0,none⟩) 3 cap7)
 have own8:=own_far HOW.out (p:=⟨w.heap.size+1+1+1+1,3,none⟩) (show g7≠w.heap.size+1+1+1+1 by omega) (.slice (some ⟨g7,0,none⟩) 3 cap7)
 have hb8:=below_set (j:=3) (v:=.slice (some ⟨g7,0,none⟩) 3 cap7) (below_step HB3.out (below_step HB6.out HB7.out)) (show w.heap.size≤w.heap.size+1+1+1+1 by omega)
 have bt8:=blk_far bt7 (p:=⟨w.heap.size+1+1+1+1,3,none⟩) (show gt≠w.heap.size+1+1+1+1 by omega) (.slice (some ⟨g7,0,none⟩) 3 cap7)
 have tn8:=TN.far tn7 (p:=⟨w.heap.size+1+1+1+1,3,none⟩) (show w.heap.size+1+1+1+1 < W1.heap.size by omega) (.slice (some ⟨g7,0,none⟩) 3 cap7)
 have b48:=blk_put B47.out 3 (.slice (some ⟨g7,0,none⟩) 3 cap7) rfl
 rw [← h8] at ge8 br8 own8 hb8 bt8 tn8 b48
 have BT8:=jM bt8
 have TN8:=jM tn8
 have B48:Aside0 (w8.heap[w.heap.size+1+1+1+1]? = some (.cells #[.slice (some ⟨w.heap.size,0,none⟩) 1 1,.slice none 0 0,.slice (some ⟨w.heap.size+1,0,none⟩) 1 1,.slice (some ⟨g7,0,none⟩) 3 cap7,.int .i64 0] 27 (0,0))):=⟨b48⟩
 have GM8:Aside0 (GmE w.heap.size (some ⟨g7,0,none⟩) cap7 h3 w8):=⟨⟨ge8.r0,by decide,Kd.C_nil _ _,by decide,ge8.r2,by decide,GeT.h3 ge8 br8 own8.1,own8.2,GTab.below HG.out hb8⟩⟩
 have HB8:=jM hb8
 clear s1 s2 s3 s4 s5 s6 tn7 bt7 ge8 br8 own8 hb8 bt8 tn8 b48 h8 HOW HGL HB77 BR7 HQ3 HA7 HO7 HN7 HI HB7
 obtain ⟨y0,y1,y2,y3,y4⟩:=five5 B48.out
 go_upto_region 9 with (go_at_call 13;(with_reducible refine (clash_h GM8.out HK.out.c1).mono ?_);rintro e w9 ⟨A9,c9,rfl,hb⟩;have HB9:=jM hb;have b49:=blk_below B48.out hb;have B49:=jM b49;clear hb b49)
 clear y0 y1 y2 y3 y4
 have GM9:=jM (Gm.below GM8.out HB9.out)
 obtain ⟨y0,y1,y2,y3,y4⟩:=five5 B49.out
 go_upto_region 10 with (go_at_call 11;(with_reducible refine (build_h GM9.out HK.out.b2).mono ?_);rintro e w10 ⟨X,x,X',x',X'',x'',rfl,hb⟩;have HB10:=jM (below_step HB9.out hb);clear hb)
 clear y0 y1 y2 y3 y4
 have HB11:=jM (below_step HB10.out (below_alloc (RowKit.Below.refl w10.heap.size w10) (Obj.cells #[.slice X 0 x,.slice X' 0 x',.slice X'' 0 x''] 34)))
 generalize w10.alloc (Obj.cells #[.slice X 0 x,.slice X' 0 x',.slice X'' 0 x''] 34)=w11 at *
 have TM11:=(TN.below TN8.out HB11.out).tm
 obtain ⟨t0,t1,t2⟩:=three3 (blk_below BT8.out HB11.out)
 obtain ⟨adD,AD,cD,eD,dx,dl,dC⟩:=at_L25 TM11.d 0 (by omega) (by decide)
 obtain ⟨adR,eR,rx,ry⟩:=at_T53 dC 0 (by omega) (by decide)
 obtain ⟨adS,eS,sx,sy⟩:=at_T53 dC 1 (by omega) (by decide)
 obtain ⟨adM,eM,mx⟩:=at_u64 TM11.m 0 (by decide)
 subst eD
 subst eM
 subst eR
 injection eS with eS
 subst eS
 have ea:adR.add ((1:Int).toNat * 2)=⟨adR.block,adR.off+2,none⟩:=by
  have h0:=add_field adR 0 2 (by omega)
  have h1:adR.add 0=adR:=add_none adR
  rw [h1] at h0
  exact h0
 have ez:adR.add ((0:Int).toNat * 2)=adR:=add_none adR
 have ed:adD.add ((0:Int).toNat)=adD:=add_none adD
 have em:adM.add 0=adM:=add_none adM
 rw [ea] at sx sy
 rw [ez] at rx ry
 rw [ed] at dx
 rw [em] at mx
 have dx':w11.cell? adD=some (.slice (some adR) 2 cD):=dx
 have rx':w11.cell? adR=some (.int .i64 1):=rx
 have ry':w11.cell? ⟨adR.block,adR.off+1,none⟩=some (.int .i64 1):=ry
 have sx':w11.cell? ⟨adR.block,adR.off+2,none⟩=some (.int .i64 2):=sx
 have sy':w11.cell? ⟨adR.block,adR.off+3,none⟩=some (.int .i64 1):=sy
 have mx':w11.cell? adM=some (.int .u64 9223372036854775809):=mx
 clear dx rx ry sx sy mx dl dC TM11 ea ez ed em TN3 BT3 BT8 TN8
 go_wp2_with fail
 go_ret
 exact ⟨rfl,by repeat (first | exact below_step HB8.out HB11.out | apply below_drew1 | apply pw_below_drewN)⟩
theorem sl16_works.calls (k:Nat) (r:Bool) (w:World) (hG:GTab w) (hT:r=true) (h:sl16_works.f k=some r):Calls Tryz.prog 9 #[] w fun e w'=>e=.returned (.bool r)∧Below w.heap.size w w':=by
 subst hT
 unfold sl16_works.f at h
 split at h
 ·rename_i q
  exact works_walk k w hG q
 ·cases h
end
section
attribute [local go_sem] Oper.semAt_some

structure TMtab (k:Nat) (l0:List S65) (l1:List S73) (l2:List ByteArray) (l3:List S68) (st:Int) (D:List (List S53)) (N:List (List Int)) (M:List Int) (lv:List Bool):Prop where
 bui:table_Build.f k l0 l1 l2 l3 st=some (D,N,M,0)
 liv:sets_Lives.f k l0 l1 l2 l3 st=some lv
 few:lv.length≤60
 hT:l0.length≤60
 hM:M.length≤2003
 hD:D.length=M.length
 row:∀ i:Nat,i < M.length→(rd_L25 D (i:Int)).length=l0.length+1
 has:∀ i c:Nat,i < M.length→c < l0.length→bits_Has.f (Go.Proofs.YtclollnicbcooaaGreatDoorW.PrintWords.rd M (i:Int)) (c:Int)=some ((rd_T53 (rd_L25 D (i:Int)) (c:Int)).f0 != 0)
 end_:∀ i:Nat,i < M.length→bits_Has.f (Go.Proofs.YtclollnicbcooaaGreatDoorW.PrintWords.rd M (i:Int)) 63=some ((rd_T53 (rd_L25 D (i:Int)) (l0.length:Int)).f0 != 0)
 some_:(∀ j,j < lv.length→lv.getD j false=true)→∀ i:Nat,i < M.length→Go.Proofs.YtclollnicbcooaaGreatDoorW.PrintWords.rd M (i:Int)≠0
def TMok (k:Nat) (l0:List S65) (l1:List S73) (l2:List ByteArray) (l3:List S68) (st:Int):Prop:=sl16_works.f k=some true ∧
 (sl14_Little.f k l0 l1 l2 l3 st=some false ∨ (sl14_Little.f k l0 l1 l2 l3 st=some true∧((∃ D N M e,table_Build.f k l0 l1 l2 l3 st=some (D,N,M,e)∧e≠0) ∨ ∃ D N M lv,TMtab k l0 l1 l2 l3 st D N M lv)))
end
end Go.Proofs.YtclollnicbcooaaGreatDoor.P
