/- Texts of this claim put together: Tmw, Tp3, Tp4, PureTableMay, Glob. -/
import Derived.Test.YtclollnicbcooaaGreatDoorMa4
import Derived.Test.YtclollnicbcooaaGreatDoorMa2
import Derived.Deep.QuietTactic
import Derived.Test.YtclollnicbcooaaGreatDoorRows
import Derived.Test.YtclollnicbcooaaGreatDoorMa1
import Derived.Lib.LaidTab
import Derived.Lib.LaidU8
import Derived.OpenShut
import Derived.ProofKit
import Derived.LaidLaws
import Derived.Handed
set_option linter.unusedVariables false
set_option linter.unusedSimpArgs false
set_option linter.unusedSectionVars false
namespace Go.Proofs.YtclollnicbcooaaGreatDoor.P
open Go.RowKit Go.Lib Go.Sort YtclollnicbcooaaGreatDoorW.PrintWords YtclollnicbcooaaGreatDoorW.PrintLast YtclollnicbcooaaGreatDoorW.PrintMore St Base
section
attribute [local go_sem] Oper.semAt_some

structure TMtab (k:Nat) (l0:List S65) (l1:List S73) (l2:List ByteArray) (l3:List S68) (st:Int) (D:List (List S53)) (N:List (List Int)) (M:List Int) (lv:List Bool):Prop where
 bui:table_Build.f k l0 l1 l2 l3 st = some (D,N,M,0)
 liv:sets_Lives.f k l0 l1 l2 l3 st = some lv
 few:lv.length ≤ 60
 hT:l0.length ≤ 60
 hM:M.length ≤ 2003
 hD:D.length = M.length
 row:∀ i:Nat,i < M.length → (rd_L25 D (i:Int)).length = l0.length + 1
 has:∀ i c:Nat,i < M.length → c < l0.length → bits_Has.f (Go.Proofs.YtclollnicbcooaaGreatDoorW.PrintWords.rd M (i:Int)) (c:Int) = some ((rd_T53 (rd_L25 D (i:Int)) (c:Int)).f0 != 0)
 end_:∀ i:Nat,i < M.length → bits_Has.f (Go.Proofs.YtclollnicbcooaaGreatDoorW.PrintWords.rd M (i:Int)) 63 = some ((rd_T53 (rd_L25 D (i:Int)) (l0.length:Int)).f0 != 0)
 some_:(∀ j,j < lv.length → lv.getD j false = true) → ∀ i:Nat,i < M.length → Go.Proofs.YtclollnicbcooaaGreatDoorW.PrintWords.rd M (i:Int) ≠ 0
def TMok (k:Nat) (l0:List S65) (l1:List S73) (l2:List ByteArray) (l3:List S68) (st:Int):Prop:=sl16_works.f k = some true ∧
 (sl14_Little.f k l0 l1 l2 l3 st = some false ∨ (sl14_Little.f k l0 l1 l2 l3 st = some true ∧ ((∃ D N M e,table_Build.f k l0 l1 l2 l3 st = some (D,N,M,e) ∧ e ≠ 0) ∨ ∃ D N M lv,TMtab k l0 l1 l2 l3 st D N M lv)))
set_option maxHeartbeats 4000000 in
set_option maxRecDepth 100000 in
theorem sl16_TableMay.calls (k:Nat) (A0:Option Addr) (c0:Nat) (l0:List S65) (A1:Option Addr) (c1:Nat) (l1:List S73) (A2:Option Addr) (c2:Nat) (l2:List ByteArray) (A3:Option Addr) (c3:Nat) (l3:List S68) (st:Int) (r:Bool) (w:World) (hG:GTab w) (hT:r = true)
  (hr0:Kd.C k65 w A0 l0.length l0) (hc0:l0.length ≤ c0) (hr1:Kd.C k73 w A1 l1.length l1) (hc1:l1.length ≤ c1) (hr2:Kd.C Kd.string w A2 l2.length l2) (hc2:l2.length ≤ c2) (hr3:Kd.C k68 w A3 l3.length l3) (hc3:l3.length ≤ c3) (h:TMok k l0 l1 l2 l3 st) :
  Calls Tryz.prog 8 #[.agg #[.slice A0 l0.length c0,.slice A1 l1.length c1,.slice A2 l2.length c2,.slice A3 l3.length c3,.int .i64 st]] w fun e w' => e = .returned (.bool r) ∧ Below w.heap.size w w':=by
 subst hT
 have GM0:=jM (Gm.mk hr0 hc0 hr1 hc1 hr2 hc2 hr3 hc3 hG)
 clear hr0 hr1 hr2 hr3 hc0 hc1 hc2 hc3 hG
 have HWK:=jM fun (W':World) (hb:RowKit.Below w.heap.size w W') => sl16_works.calls k true W' (GTab.below GM0.out.g hb) rfl h.1
 have HLI:=jM fun (b:Bool) (hl:sl14_Little.f k l0 l1 l2 l3 st = some b) (W':World) (hb:RowKit.Below w.heap.size w W') =>
  let H:=Gm.below GM0.out hb
  sl14_Little.calls k A0 c0 l0 A1 c1 l1 A2 c2 l2 A3 c3 l3 st b W' H.r0 H.c0 H.r1 H.c1 H.r2 H.c2 H.r3 H.c3 hl
 have hu27:=Tryz.underlying27
 have hu34:=Tryz.underlying34
 have hu53:=Tryz.underlying53
 go_enter Tryz.func8,Tryz.ntmps8
 go_upto_region 1 with fail
 have BG:=jM (blk_new w (Obj.cells #[.slice A0 l0.length c0,.slice A1 l1.length c1,.slice A2 l2.length c2,.slice A3 l3.length c3,.int .i64 st] 27))
 have HB1:=jM (below_alloc (RowKit.Below.refl w.heap.size w) (Obj.cells #[.slice A0 l0.length c0,.slice A1 l1.length c1,.slice A2 l2.length c2,.slice A3 l3.length c3,.int .i64 st] 27))
 generalize w.alloc (Obj.cells #[.slice A0 l0.length c0,.slice A1 l1.length c1,.slice A2 l2.length c2,.slice A3 l3.length c3,.int .i64 st] 27) = w1 at *
 go_upto_region 4 with (go_at_call 9;refine (HWK.out w1 HB1.out).mono ?_;rintro e w2 ⟨rfl,hb⟩;have HB2:=jM (below_step HB1.out hb);have BG2:=jM (blk_below BG.out hb);clear hb)
 obtain ⟨z0,z1,z2,z3,z4⟩:=five5 BG2.out
 obtain ⟨-,hq⟩:=h
 rcases hq with hq | ⟨hq,hq2⟩
 ·have HL:=jM (HLI.out false hq w2 HB2.out)
  clear hq HLI HWK
  go_wp2_with (go_at_call 10;refine HL.out.mono ?_;rintro e w3 ⟨rfl,hb⟩;have HB3:=jM (below_step HB2.out hb);clear hb)
  go_ret
  exact ⟨rfl,HB3.out⟩
 ·have HL:=jM (HLI.out true hq w2 HB2.out)
  clear hq HLI HWK
  go_upto_region 7 with (go_at_call 10;refine HL.out.mono ?_;rintro e w3 ⟨rfl,hb⟩;have HB3:=jM (below_step HB2.out hb);have BG3:=jM (blk_below BG2.out hb);clear hb)
  have GM3:=jM (Gm.below GM0.out HB3.out)
  clear z0 z1 z2 z3 z4 HL
  obtain ⟨z0,z1,z2,z3,z4⟩:=five5 BG3.out
  rcases hq2 with ⟨D,N,M,e,hb,he⟩ | ⟨D,N,M,lv,hm⟩
  ·have HBU:=jM (build_c GM3.out hb)
   have d1:(e != 0) = true:=bne_iff_ne.2 he
   clear hb he
   go_wp2_with (go_at_call 11;refine HBU.out.mono ?_;rintro x w4 ⟨A,c,A',c',A'',c'',rfl,hm,hb⟩;have HB4:=jM (below_step HB3.out hb);clear hb hm)
   go_ret
   exact ⟨rfl,below_step HB4.out (below_alloc (RowKit.Below.refl _ _) _)⟩
  ·have HM:=jM hm
   have HBU:=jM (build_c GM3.out hm.bui)
   clear hm
   go_upto_region 8 with (go_at_call 11;refine HBU.out.mono ?_;rintro x w4 ⟨A,c,A',c',A'',c'',rfl,hm,hb⟩;have HB4:=jM (below_step HB3.out hb);have BG4:=jM (blk_below BG3.out hb);have TM4:=jM hm;clear hb hm)
   clear z0 z1 z2 z3 z4 HBU
   have BT:=jM (blk_new w4 (Obj.cells #[.slice A D.length c,.slice A' N.length c',.slice A'' M.length c''] 34))
   have hal:=below_alloc (RowKit.Below.refl w4.heap.size w4) (Obj.cells #[.slice A D.length c,.slice A' N.length c',.slice A'' M.length c''] 34)
   have HB5:=jM (below_step HB4.out hal)
   have BG5:=jM (blk_below BG4.out hal)
   have TM5:=jM (Tm.below TM4.out hal)
   clear hal
   generalize w4.alloc (Obj.cells #[.slice A D.length c,.slice A' N.length c',.slice A'' M.length c''] 34) = w5 at *
   generalize w4.heap.size = tb at *
   have GM5:=jM (Gm.below GM0.out HB5.out)
   have HLV:=jM (lives_c GM5.out HM.out.liv)
   obtain ⟨z0,z1,z2,z3,z4⟩:=five5 BG5.out
   go_upto_region 13 with (go_at_call 20;refine HLV.out.mono ?_;rintro x w6 ⟨AL,cL,rfl,hcl,hCl,hb⟩;have HB6:=jM (below_step HB5.out hb);have BG6:=jM (blk_below BG5.out hb);have BT6:=jM (blk_below BT.out hb);have TM6:=jM (Tm.below TM5.out hb);have HCL:=jM hCl;have HLL:=jM hcl;clear hb hCl hcl)
   clear z0 z1 z2 z3 z4 HLV BG5 BT TM5 BG4 TM4 BG3 BG2 BG
   have HK:=jM (show lv.length ≤ 60 ∧ M.length ≤ 2003 ∧ l0.length ≤ 60 from ⟨HM.out.few,HM.out.hM,HM.out.hT⟩)
   have HW0:=jM (RowKit.Below.refl w6.heap.size w6)
   go_loopg [8,9] lv.length (fun kq v8 v9 W => ∃ (b:Bool) (j:Nat),v8 = .bool b ∧ v9 = .int .i64 (j:Int) ∧ Aside0 (kq = lv.length - j ∧ j ≤ lv.length) ∧ Aside0 (b = true → ∀ i,i < j → lv.getD i false = true) ∧ Aside0 (RowKit.Below w6.heap.size w6 W))
   case atStart => exact ⟨true,0,rfl,rfl,⟨rfl,Nat.zero_le _⟩,⟨fun _ i hi => absurd hi (Nat.not_lt_zero _)⟩,HW0⟩
   case round =>
    clear HW0
    obtain ⟨b,j,rfl,rfl,HJ,HA,HW⟩:=hrel
    by_cases h1:j < lv.length
    ·have d1:decide ((j:Int) < (lv.length:Int)) = true:=decide_eq_true (by omega)
     have d1n:decide (j < lv.length) = true:=decide_eq_true (by omega)
     have d2:decide ((0:Int) ≤ (j:Int)) = true:=decide_eq_true (by omega)
     have p1:=eq_true (show (0:Int) ≤ (j:Int) by omega)
     have p2:=eq_true (show (j:Int) < (lv.length:Int) by omega)
     obtain ⟨ad,rfl,hx⟩:=at_bool (Kd.C_below HCL.out HW.out) j h1
     have hw64:wrap64 ((j:Int) + 1) = ((j + 1:Nat):Int):=up64 j (by have:=HK.out;omega)
     have HJ2:=jM h1
     clear h1
     cases b with
     | true =>
      go_wp2_with fail
      go_roundg (lv.length - (j + 1))
      case measure => have:=HJ.out;have:=HJ2.out;omega
      case rel => exact ⟨lv.getD j false,j + 1,rfl,by simp,⟨rfl,by have:=HJ2.out;omega⟩,⟨fun hb i hi => by
       by_cases e:i = j
       ·rw [e];exact hb
       ·exact HA.out (by first | trivial | rfl) i (by omega)⟩,HW⟩
     | false =>
      go_wp2_with fail
      go_roundg (lv.length - (j + 1))
      case measure => have:=HJ.out;have:=HJ2.out;omega
      case rel => exact ⟨false,j + 1,rfl,by first | rfl | (rw [hw64]) | simp,⟨rfl,by have:=HJ2.out;omega⟩,⟨fun hb => by cases hb⟩,HW⟩
    ·have d1:decide ((j:Int) < (lv.length:Int)) = false:=decide_eq_false (by omega)
     have d1n:decide (j < lv.length) = false:=decide_eq_false (by omega)
     have HA2:=jM (fun hb:b = true => fun i (hi:i < lv.length) => HA.out hb i (by omega))
     clear h1 HA HJ
     go_upto_region 17 with fail
     have HW1:=HW
     go_loopg [10] M.length (fun kq v10 W => ∃ i:Nat,v10 = .int .i64 (i:Int) ∧ Aside0 (kq = M.length - i ∧ i ≤ M.length) ∧ Aside0 (RowKit.Below w6.heap.size w6 W))
     case atStart => exact ⟨0,rfl,⟨rfl,Nat.zero_le _⟩,HW1⟩
     case round =>
      clear HW1 HW d1 d1n
      obtain ⟨i,rfl,HJ,HW⟩:=hrel
      have BTr:=jM (blk_below BT6.out HW.out)
      have BGr:=jM (blk_below BG6.out HW.out)
      by_cases h1:i < M.length
      ·have d1:decide ((i:Int) < (M.length:Int)) = true:=decide_eq_true (by omega)
       have d1n:decide (i < M.length) = true:=decide_eq_true (by omega)
       obtain ⟨t0,t1,t2⟩:=three3 BTr.out
       have HI:=jM h1
       clear h1
       go_upto_region 20 with fail
       clear t0 t1 t2
       have HW2:=HW
       go_loopg [11] l0.length (fun kq v11 W => ∃ cc:Nat,v11 = .int .i64 (cc:Int) ∧ Aside0 (kq = l0.length - cc ∧ cc ≤ l0.length) ∧ Aside0 (RowKit.Below w6.heap.size w6 W))
       case atStart => exact ⟨0,rfl,⟨rfl,Nat.zero_le _⟩,HW2⟩
       case round =>
        clear HW2 HW d1 d1n BTr BGr
        obtain ⟨cc,rfl,HC,HW⟩:=hrel
        have hlen:=HM.out.row i HI.out
        have hDM:=HM.out.hD
        have p1:=eq_true (show (0:Int) ≤ (i:Int) by omega)
        have p2:=eq_true (show (i:Int) < (M.length:Int) by have:=HI.out;omega)
        have p3:=eq_true (show (i:Int) < (D.length:Int) by have:=HI.out;omega)
        obtain ⟨adM,eM,mx⟩:=at_u64 (Kd.C_below TM6.out.m HW.out) i HI.out
        obtain ⟨adD,AR,cR,eD,dx,dl,dC⟩:=at_L25 (Kd.C_below TM6.out.d HW.out) (i:Int) (by omega) (by have:=HI.out;omega)
        rw [Int.toNat_natCast] at dx
        subst eM
        subst eD
        by_cases h1:cc < l0.length
        ·have d1:decide ((cc:Int) < (l0.length:Int)) = true:=decide_eq_true (by omega)
         have d1n:decide (cc < l0.length) = true:=decide_eq_true (by omega)
         have p4:=eq_true (show (0:Int) ≤ (cc:Int) by omega)
         have p5:=eq_true (show (cc:Int) < (((rd_L25 D (i:Int)).length:Nat):Int) by omega)
         obtain ⟨adR,eR,rx,_⟩:=at_T53 dC (cc:Int) (by omega) (by omega)
         subst eR
         rw [Int.toNat_natCast] at rx
         have HHas:=jM fun (W':World) => bits_Has.calls _ _ _ W' (HM.out.has i cc HI.out h1)
         have HC2:=jM h1
         have hw64:wrap64 ((cc:Int) + 1) = ((cc + 1:Nat):Int):=up64 cc (by have:=HK.out;omega)
         have HQ:=jM fun (W':World) (hb:RowKit.Below wr.heap.size wr W') => And.intro (five5 (blk_below (blk_below BG6.out HW.out) hb)) (And.intro (three3 (blk_below (blk_below BT6.out HW.out) hb)) (And.intro ((hb.cell (World.block_lt_of_cell? _ _ mx)).trans mx) (And.intro ((hb.cell (World.block_lt_of_cell? _ _ dx)).trans dx) ((hb.cell (World.block_lt_of_cell? _ _ rx)).trans rx))))
         have HLEN:=jM hlen
         clear mx dx rx h1 dl dC hlen hDM
         obtain ⟨⟨z0,z1,z2,z3,z4⟩,⟨t0,t1,t2⟩,mx,dx,rx⟩:=HQ.out wr (RowKit.Below.refl _ _)
         go_upto_region 22 with fail
         go_quiet ((go_at_call 22;exact Calls.quiet_of ((HHas.out _).mono (by rintro e w' ⟨rfl,nd,rfl⟩;exact ⟨rfl,nd,rfl⟩))))
         go_wp2_with fail
         go_roundg (l0.length - (cc + 1))
         case measure => have:=HC.out;have:=HC2.out;omega
         case rel => exact ⟨cc + 1,by first | rfl | (rw [hw64]) | simp,⟨rfl,by have:=HC2.out;omega⟩,⟨by repeat (first | exact HW.out | apply below_drew1 | apply pw_below_drewN)⟩⟩
        ·have d1:decide ((cc:Int) < (l0.length:Int)) = false:=decide_eq_false (by omega)
         have d1n:decide (cc < l0.length) = false:=decide_eq_false (by omega)
         have p4:=eq_true (show (0:Int) ≤ (l0.length:Int) by omega)
         have p5:=eq_true (show (l0.length:Int) < (((rd_L25 D (i:Int)).length:Nat):Int) by omega)
         obtain ⟨adR,eR,rx,_⟩:=at_T53 dC (l0.length:Int) (by omega) (by omega)
         subst eR
         rw [Int.toNat_natCast] at rx
         have HHas:=jM fun (W':World) => bits_Has.calls _ _ _ W' (HM.out.end_ i HI.out)
         have hw64:wrap64 ((i:Int) + 1) = ((i + 1:Nat):Int):=up64 i (by have:=HK.out;have:=HI.out;omega)
         have HQ:=jM fun (W':World) (hb:RowKit.Below wr.heap.size wr W') => And.intro (five5 (blk_below (blk_below BG6.out HW.out) hb)) (And.intro (three3 (blk_below (blk_below BT6.out HW.out) hb)) (And.intro ((hb.cell (World.block_lt_of_cell? _ _ mx)).trans mx) (And.intro ((hb.cell (World.block_lt_of_cell? _ _ dx)).trans dx) ((hb.cell (World.block_lt_of_cell? _ _ rx)).trans rx))))
         have HLEN:=jM hlen
         have HSM:=jM (fun hb:b = true => HM.out.some_ (HA2.out hb) i HI.out)
         clear mx dx rx h1 dl dC hlen hDM
         obtain ⟨⟨z0,z1,z2,z3,z4⟩,⟨t0,t1,t2⟩,mx,dx,rx⟩:=HQ.out wr (RowKit.Below.refl _ _)
         cases b with
         | true =>
          have e1:(Go.Proofs.YtclollnicbcooaaGreatDoorW.PrintWords.rd M (i:Int) == 0) = false:=beq_eq_false_iff_ne.2 (HSM.out rfl)
          have e2:decide (Go.Proofs.YtclollnicbcooaaGreatDoorW.PrintWords.rd M (i:Int) = 0) = false:=decide_eq_false (HSM.out rfl)
          go_upto_region 24 with fail
          go_quiet ((go_at_call 22;exact Calls.quiet_of ((HHas.out _).mono (by rintro e w' ⟨rfl,nd,rfl⟩;exact ⟨rfl,nd,rfl⟩))))
          go_wp2_with fail
          go_roundg (M.length - (i + 1))
          case measure => have:=HJ.out;have:=HI.out;omega
          case rel => exact ⟨i + 1,by first | rfl | (rw [hw64]) | simp,⟨rfl,by have:=HI.out;omega⟩,⟨by repeat (first | exact HW.out | apply below_drew1 | apply pw_below_drewN)⟩⟩
         | false =>
          go_upto_region 24 with fail
          go_quiet ((go_at_call 22;exact Calls.quiet_of ((HHas.out _).mono (by rintro e w' ⟨rfl,nd,rfl⟩;exact ⟨rfl,nd,rfl⟩))))
          go_wp2_with fail
          go_roundg (M.length - (i + 1))
          case measure => have:=HJ.out;have:=HI.out;omega
          case rel => exact ⟨i + 1,by first | rfl | (rw [hw64]) | simp,⟨rfl,by have:=HI.out;omega⟩,⟨by repeat (first | exact HW.out | apply below_drew1 | apply pw_below_drewN)⟩⟩
      ·have d1:decide ((i:Int) < (M.length:Int)) = false:=decide_eq_false (by omega)
       have d1n:decide (i < M.length) = false:=decide_eq_false (by omega)
       obtain ⟨t0,t1,t2⟩:=three3 BTr.out
       go_wp2_with fail
       go_ret
       exact ⟨rfl,below_step HB6.out HW.out⟩
end
end Go.Proofs.YtclollnicbcooaaGreatDoor.P
namespace Go.Proofs.YtclollnicbcooaaGreatDoor.P
open Go.RowKit YtclollnicbcooaaGreatDoorW.PrintWords YtclollnicbcooaaGreatDoorW.PrintLast YtclollnicbcooaaGreatDoorW.PrintMore St Bitty
section
section
variable {l0:List S65} {l1:List S73} {l2:List ByteArray} {l3:List S68} {st:Int} {K:List (List Itm)} {N:List (List Int)} {F:Spt → Int} (H:Aheads l0 l1 l2 l3 st K N F) (hr:∀ p ∈ l3,∀ s ∈ p.f2, -9223372036854775808 ≤ s ∧ s ≤ 9223372036854775807)

theorem deeds_kind (i c:Nat):∀ x ∈ deedsP l0 l1 l2 l3 st K N F i c,x.f0 ≠ 0:=by
 intro x hx
 unfold deedsP at hx
 rcases List.mem_append.1 hx with h | h
 ·split at h
  ·rw [List.mem_singleton.1 h];exact (show (1:Int) ≠ 0 by decide)
  ·cases h
 ·obtain ⟨y,_,hy⟩:=List.mem_filterMap.1 h
  unfold selD at hy
  split at hy
  ·cases hy
  ·injection hy with hy
   rw [← hy]
   split
   ·exact (show (3:Int) ≠ 0 by decide)
   ·exact (show (2:Int) ≠ 0 by decide)
theorem one_kind {l:List S53} (h:l.length ≤ 1) (hk:∀ x ∈ l,x.f0 ≠ 0):((oneD l).f0 ≠ 0) ↔ l.length = 1:=by
 match l,h with
 | [],_ => simp [oneD,z53]
 | [x],_ => simp [oneD,hk x (by simp)]
theorem may_bit (hT:l0.length ≤ 60) {i:Nat} (hno:∀ c,c ≤ l0.length → (deedsP l0 l1 l2 l3 st K N F i c).length ≤ 1) {c:Nat} (hc:c ≤ l0.length) :
  tb (mayF l0.length (deedsP l0 l1 l2 l3 st K N F i) (l0.length + 1)) (bitN l0.length c) = ((oneD (deedsP l0 l1 l2 l3 st K N F i c)).f0 != 0):=by
 have h1:=mayF_tb hT (deedsP l0 l1 l2 l3 st K N F i) (bitN l0.length c) (l0.length + 1) (Nat.le_refl _)
 have h2:=one_kind (hno c hc) (deeds_kind i c)
 rw [Bool.eq_iff_iff,h1,bne_iff_ne,h2]
 constructor
 ·rintro ⟨j,hj,hl,hb⟩
  have:=bitN_inj hT (by omega) hc hb
  rw [← this];exact hl
 ·intro hl
  exact ⟨c,by omega,hl,rfl⟩
def colN (T b:Nat):Prop:=b < T ∨ b = 63
theorem col_of {T b:Nat} (h:colN T b):∃ c,c ≤ T ∧ bitN T c = b:=by
 rcases h with h | h
 ·exact ⟨b,by omega,by unfold bitN;rw [if_neg (by omega)]⟩
 ·exact ⟨T,Nat.le_refl _,by unfold bitN;rw [if_pos rfl,h]⟩
theorem rowB_col {T S:Nat} {es:List Bool} {fs:List Int} {v:Int} {b:Nat} (hf:∀ i,tb (rd fs i) b = true → colN T b) (hv:tb v b = true → colN T b):∀ l,rowB T S es fs v b l = true → colN T b
 | [],h => hv h
 | s :: l,h => by
  unfold rowB at h
  by_cases h1:(T:Int) ≤ s ∨ s < -(S:Int)
  ·rw [if_pos h1] at h;cases h
  ·rw [if_neg h1] at h
   by_cases h2:0 ≤ s
   ·rw [if_pos h2] at h
    have:=of_decide_eq_true h
    exact .inl (by omega)
   ·rw [if_neg h2,Bool.or_eq_true,Bool.and_eq_true] at h
    rcases h with h | ⟨_,h⟩
    ·exact hf _ h
    ·exact rowB_col hf hv l h
theorem rd_col {n T b:Nat} {xs:List Int} (hx:okL n xs) (h:∀ i,i < n → tb (xs.getD i 0) b = true → colN T b) (i:Int) (hi:tb (rd xs i) b = true):colN T b:=by
 have hi':tb (xs.getD i.toNat 0) b = true:=hi
 by_cases hlt:i.toNat < n
 ·exact h _ hlt hi'
 ·rw [List.getD,List.getElem?_eq_none (by rw [hx.1];omega)] at hi'
  have:tb (0:Int) b = true:=hi'
  rw [tb_zero] at this;cases this
theorem fR_col (h:Order l0 l1 l2 l3 st) (i b:Nat) (hi:i < l2.length) (hb:tb ((fR l0 l2 l3).getD i 0) b = true):colN l0.length b :=
 firR_least h.gram (fun _ b => colN l0.length b) (fun p hp xs hx hxs b hb => rowB_col (rd_col hx fun i hi => hxs i b hi) (fun h0 => by rw [tb_zero] at h0;cases h0) p.f2 hb) i b hi hb
theorem wR_col (h:Order l0 l1 l2 l3 st) (i b:Nat) (hi:i < l2.length) (hb:tb ((wR l0 l2 l3 st).getD i 0) b = true):colN l0.length b :=
 folR_least h.gram (fR_ok h) (fun _ b => colN l0.length b) h.lo h.hi (.inr rfl) (fun p hp a s l e hn xs hx hxs b hb =>
  rowB_col (rd_col (fR_ok h) fun i hi => fR_col h i b hi) (rd_col hx (fun i hi => hxs i b hi) p.f1) l hb) i b hi hb
theorem mayBe_col (h:Order l0 l1 l2 l3 st) {s:Spt} {b:Nat} (hm:mayBe l0 l2 l3 st s b) (hi:isI (gr st l3) s.2 = true):colN l0.length b:=by
 by_cases h0:0 ≤ s.2.1
 ·exact rd_col (wR_ok h) (fun i hi => wR_col h i b hi) _ (hm.2 h0)
 ·refine .inr (hm.1 ?_)
  by_cases h1:s.2.1 = -1
  ·exact h1
  ·unfold isI rightL at hi
   rw [if_neg h1,if_neg (by omega)] at hi
   cases hi
theorem in_nexts {y:Itm} {sym:Int} {p:Nat} (hb:behindL (gr st l3) y = some sym) (hn:sym < 0) (hp:p < l3.length) (hs:(rd_T68 l3 p).f1 = -1 - sym):((p:Int),(0:Int)) ∈ nexts (gr st l3) y:=by
 unfold nexts
 rw [hb]
 simp only
 rw [if_pos hn]
 refine List.mem_filterMap.2 ⟨p,List.mem_range.2 (by rw [gr_len];exact hp), ?_⟩
 have:=gr_at st l3 (p:Int) (by omega) (by omega)
 rw [Int.toNat_natCast] at this
 rw [this]
 exact if_pos hs
theorem prod_nth {l3:List S68} {p:S68} (hp:p ∈ l3):∃ n:Nat,n < l3.length ∧ rd_T68 l3 (n:Int) = p:=by
 obtain ⟨n,hn,e⟩:=List.mem_iff_getElem.1 hp
 refine ⟨n,hn, ?_⟩
 unfold rd_T68
 rw [Int.toNat_natCast,List.getD_eq_getElem?_getD,List.getElem?_eq_getElem hn]
 exact e
theorem right_nth {p:Nat} (hp:p < l3.length):rightL (gr st l3) (p:Int) = some (rd_T68 l3 (p:Int)).f2:=by
 unfold rightL
 rw [gr_len,if_neg (by omega),if_pos (by omega),gr_at st l3 (p:Int) (by omega) (by omega)]
theorem behind_first {p:Nat} (hp:p < l3.length):behindL (gr st l3) ((p:Int),0) = (rd_T68 l3 (p:Int)).f2.head?:=by
 unfold behindL
 simp only
 rw [right_nth hp]
 simp only
 cases h:(rd_T68 l3 (p:Int)).f2 with
 | nil => rfl
 | cons s l => rw [if_pos (by simp only [List.length_cons];omega)];rfl
theorem good_item (h:Order l0 l1 l2 l3 st) (hl:∀ i,i < l2.length → (lR l2 l3).getD i false = true) {c:Itm → Prop} {x:Itm} (hx:Cl (gr st l3) c x):∃ y,Cl (gr st l3) c y ∧ (behindL (gr st l3) y = none ∨ ∃ s,behindL (gr st l3) y = some s ∧ 0 ≤ s):=by
 have key:∀ i,i < l2.length → ∀ x,Cl (gr st l3) c x → behindL (gr st l3) x = some (-1 - (i:Int)) → ∃ y,Cl (gr st l3) c y ∧ (behindL (gr st l3) y = none ∨ ∃ s,behindL (gr st l3) y = some s ∧ 0 ≤ s):=by
  intro i hi
  refine allR_least true h.gram (fun i => ∀ x,Cl (gr st l3) c x → behindL (gr st l3) x = some (-1 - (i:Int)) → ∃ y,Cl (gr st l3) c y ∧ (behindL (gr st l3) y = none ∨ ∃ s,behindL (gr st l3) y = some s ∧ 0 ≤ s)) (fun p hp hs x hx hb => ?_) i hi (hl i hi)
  have hsrt:=h.gram.srt p hp
  obtain ⟨n,hn,e⟩:=prod_nth hp
  have hc:Cl (gr st l3) c ((n:Int),0):=.next x _ hx (in_nexts hb (by omega) hn (by rw [e];omega))
  have hf:=behind_first (st:=st) hn
  rw [e] at hf
  cases hq:p.f2 with
  | nil => rw [hq] at hf;exact ⟨_,hc,.inl hf⟩
  | cons s l =>
   rw [hq] at hf
   by_cases h0:0 ≤ s
   ·exact ⟨_,hc,.inr ⟨s,hf,h0⟩⟩
   ·have:=h.gram.sym p hp s (by rw [hq];simp)
    refine (hs s (by rw [hq];simp)).2 (by omega) _ hc ?_
    rw [hf]
    show some s = _
    congr 1
    omega
 cases hb:behindL (gr st l3) x with
 | none => exact ⟨x,hx,.inl hb⟩
 | some s =>
  by_cases h0:0 ≤ s
  ·exact ⟨x,hx,.inr ⟨s,hb,h0⟩⟩
  ·obtain ⟨r,hr,h1,h2,h3⟩:=behind_right hb
   have:=right_range h hr s (by rw [h3];simp)
   refine key (-1 - s).toNat (by omega) x hx ?_
   rw [hb]
   congr 1
   omega
include H hr
theorem state_item {i:Nat} (hi:i < K.length):∃ x,Cl (gr st l3) (· ∈ K[i]) x:=by
 have hc:K[i]? = some K[i]:=List.getElem?_eq_getElem hi
 by_cases h0:i = 0
 ·subst h0
  have h1:=H.bui.first
  rw [hc] at h1
  have h1:=Option.some.inj h1
  exact ⟨(-1,0),.base _ (by rw [h1];exact List.mem_singleton.2 rfl) rfl⟩
 ·have hne:=H.bui.full i _ hc h0
  obtain ⟨j,d,s,_,_,hd,_,e⟩:=H.bui.come i _ hc h0
  obtain ⟨x,hx⟩:=List.exists_mem_of_ne_nil _ hne
  have hx':=hx
  rw [e] at hx'
  obtain ⟨y,hy,hb,e2⟩:=(sg_has H.ord.valid d s x).1 hx'
  refine ⟨x,.base _ hx ?_⟩
  obtain ⟨r,hr',h1,h2,h3⟩:=behind_right hb
  unfold isI
  rw [e2]
  simp only
  rw [hr']
  exact decide_eq_true (by omega)
theorem deed_done {i:Nat} (hi:i < K.length) {y:Itm} (hy:Cl (gr st l3) (· ∈ K[i]) y) (hb:behindL (gr st l3) y = none) {c:Nat} (ht:tb (F ((i:Int),y)) (bitN l0.length c) = true):(if y.1 < 0 then (⟨3,0⟩:S53) else ⟨2,y.1⟩) ∈ deedsP l0 l1 l2 l3 st K N F i c:=by
 have eK:K.getD i [] = K[i]:=by rw [List.getD_eq_getElem?_getD,List.getElem?_eq_getElem hi];rfl
 unfold deedsP
 rw [eK]
 refine List.mem_append.2 (.inr (List.mem_filterMap.2 ⟨y,(H.cl hi).2 hy, ?_⟩))
 unfold selD
 rw [if_neg]
 rintro (h1 | h1)
 ·have hI:=cl_is _ _ _ hy
  unfold behindL at hb
  unfold isI at hI
  unfold rightN at h1
  cases hq:rightL (gr st l3) y.1 with
  | none => rw [hq] at hI;cases hI
  | some r =>
   rw [hq] at hI hb h1
   have h2:=of_decide_eq_true hI
   have h1:y.2 < (r.length:Int):=h1
   simp only at hb
   rw [if_pos ⟨h2.1,h1⟩] at hb
   cases hb
 ·rw [ht] at h1;cases h1
theorem deed_shift {i:Nat} (hi:i < K.length) {y:Itm} (hy:Cl (gr st l3) (· ∈ K[i]) y) {s:Int} (hb:behindL (gr st l3) y = some s) (h0:0 ≤ s):s.toNat < l0.length ∧ 0 ≤ goV l0 l1 l2 l3 st K N i s ∧ (⟨1,goV l0 l1 l2 l3 st K N i s⟩:S53) ∈ deedsP l0 l1 l2 l3 st K N F i s.toNat:=by
 obtain ⟨r,hr',h1,h2,h3⟩:=behind_right hb
 have hs:=right_range H.ord hr' s (by rw [h3];simp)
 have hT:=H.ord.gram.hT
 obtain ⟨_,hn⟩:=go_val H hr hi s (by omega)
 have hin:(y.1,y.2 + 1) ∈ Sg (gr st l3) K[i] s:=(sg_has H.ord.valid _ _ _).2 ⟨y,hy,hb,rfl⟩
 have hg:0 ≤ goV l0 l1 l2 l3 st K N i s:=by
  rcases hn with ⟨h4,_⟩ | ⟨_,t,h4,_⟩
  ·rw [h4] at hin;cases hin
  ·omega
 have e:((s.toNat:Nat):Int) = s:=by omega
 refine ⟨by omega,hg, ?_⟩
 unfold deedsP
 rw [e,if_pos hg]
 exact List.mem_append.2 (.inl (List.mem_singleton.2 rfl))
theorem some_deed (hl:∀ i,i < l2.length → (lR l2 l3).getD i false = true) {i:Nat} (hi:i < K.length):∃ c,c ≤ l0.length ∧ deedsP l0 l1 l2 l3 st K N F i c ≠ []:=by
 obtain ⟨x,hx⟩:=state_item H hr hi
 obtain ⟨y,hy,hb | ⟨s,hb,h0⟩⟩:=good_item H.ord hl hx
 ·have hne:=ahead_live H.ord H.bui H.okF H.may H.beg H.clo hl i _ y (List.getElem?_eq_getElem hi) hy
  obtain ⟨b,hb2⟩:=tb_ne (H.okF _) hne
  obtain ⟨c,hc,e⟩:=col_of (mayBe_col H.ord (H.may _ b hb2) (cl_is _ _ _ hy))
  exact ⟨c,hc,List.ne_nil_of_mem (deed_done H hr hi hy hb (by rw [e];exact hb2))⟩
 ·obtain ⟨h1,_,h2⟩:=deed_shift H hr hi hy hb h0
  exact ⟨s.toNat,by omega,List.ne_nil_of_mem h2⟩
theorem may_some (hl:∀ i,i < l2.length → (lR l2 l3).getD i false = true) (hno:¬ Clash l0 l1 l2 l3 st K N F) {i:Nat} (hi:i < K.length):mayF l0.length (deedsP l0 l1 l2 l3 st K N F i) (l0.length + 1) ≠ 0:=by
 obtain ⟨c,hc,h1⟩:=some_deed H hr hl hi
 refine tb_pos (b:=bitN l0.length c) ((mayF_tb H.ord.gram.hT _ _ _ (Nat.le_refl _)).2 ⟨c,by omega, ?_,rfl⟩)
 have h2:¬ 1 < (deedsP l0 l1 l2 l3 st K N F i c).length:=fun h => hno ⟨i,c,hi,hc,h⟩
 have h3:(deedsP l0 l1 l2 l3 st K N F i c).length ≠ 0:=fun h => h1 (List.length_eq_zero_iff.1 h)
 omega
end
end
section
theorem table_fails {l0:List S65} {l1:List S73} {l2:List ByteArray} {l3:List S68} {st:Int} {a:List (List S77)} {b:List (List Int)} {e:Int} (he:e ≠ 0) (hB:states_Build.f l0 l1 l2 l3 st = some (a,b,e)) (k:Nat):table_All.f k l0 l1 l2 l3 st = some ([],e) ∧ table_Build.f k l0 l1 l2 l3 st = some ([],[],[],e):=by
 have h:table_All.f k l0 l1 l2 l3 st = some ([],e):=by
  unfold table_All.f
  rw [hB,Option.bind_some,if_neg he]
 refine ⟨h, ?_⟩
 unfold table_Build.f
 rw [h,Option.bind_some,if_neg he]
theorem table_cases {l0:List S65} {l1:List S73} {l2:List ByteArray} {l3:List S68} {st:Int} (hr:∀ p ∈ l3,∀ s ∈ p.f2, -9223372036854775808 ≤ s ∧ s ≤ 9223372036854775807) :
  (∃ e,e ≠ 0 ∧ (∀ k,table_All.f k l0 l1 l2 l3 st = some ([],e)) ∧ ∀ k,table_Build.f k l0 l1 l2 l3 st = some ([],[],[],e)) ∨
  ∃ K N F,Aheads l0 l1 l2 l3 st K N F ∧ states_Build.f l0 l1 l2 l3 st = some (K.map (·.map ofI),N,0) ∧ Ev (fun k => table_All.f k l0 l1 l2 l3 st) (allP l0 l1 l2 l3 st K N F,0) ∧
   ((Clash l0 l1 l2 l3 st K N F ∧ Ev (fun k => table_Build.f k l0 l1 l2 l3 st) ([],[],[],16)) ∨
   (¬ Clash l0 l1 l2 l3 st K N F ∧ Ev (fun k => table_Build.f k l0 l1 l2 l3 st) (dsP l0 l1 l2 l3 st K N F K.length,nsP l0 N K.length,msP l0 l1 l2 l3 st K N F K.length,0))):=by
 cases hv:validB l0 l1 l2 l3 st with
 | false => exact .inl ⟨1,by decide,fun k => (table_fails (by decide) (build_not hv) k).1,fun k => (table_fails (by decide) (build_not hv) k).2⟩
 | true =>
  obtain ⟨R,hR,hB⟩:=build_ok hr hv
  cases R with
  | none => exact .inl ⟨4,by decide,fun k => (table_fails (by decide) hB k).1,fun k => (table_fails (by decide) hB k).2⟩
  | some KN =>
   rcases all_cases (l0:=l0) (l1:=l1) (l2:=l2) (st:=st) hr with ⟨e,he,hA⟩ | ⟨K,N,F,H,hB',hE,_⟩
   ·have:=hA 0
    unfold look_All.f at this
    rw [hB,Option.bind_some] at this
    replace this:(look_rows.f 0 l0 l1 l2 l3 st (KN.1.map (·.map ofI)) KN.2).map (fun r => (r,(0:Int))) = some ([],e):=this
    obtain ⟨x,_,hx⟩:=Option.map_eq_some_iff.1 this
    injection hx with _ hx
    exact absurd hx.symm he
   ·exact .inr ⟨K,N,F,H,hB',all_ev H hr hB' hE,table_ev H hr hB' hE⟩
section
variable {l0:List S65} {l1:List S73} {l2:List ByteArray} {l3:List S68} {st:Int} {K:List (List Itm)} {N:List (List Int)} {F:Spt → Int}
theorem dsP_len (i:Nat):(dsP l0 l1 l2 l3 st K N F i).length = i:=by unfold dsP;simp
theorem msP_len (i:Nat):(msP l0 l1 l2 l3 st K N F i).length = i:=by unfold msP;simp
theorem dsP_at {n i:Nat} (hi:i < n):rd_L25 (dsP l0 l1 l2 l3 st K N F n) (i:Int) = rowD l0.length (deedsP l0 l1 l2 l3 st K N F i):=by
 unfold rd_L25 dsP
 rw [Int.toNat_natCast,List.getD_eq_getElem?_getD,List.getElem?_map,List.getElem?_range hi]
 rfl
theorem msP_at {n i:Nat} (hi:i < n):Go.Proofs.YtclollnicbcooaaGreatDoorW.PrintWords.rd (msP l0 l1 l2 l3 st K N F n) (i:Int) = mayF l0.length (deedsP l0 l1 l2 l3 st K N F i) (l0.length + 1):=by
 unfold msP Go.Proofs.YtclollnicbcooaaGreatDoorW.PrintWords.rd
 rw [Int.toNat_natCast,List.getD_eq_getElem?_getD,List.getElem?_map,List.getElem?_range hi]
 rfl
theorem rowD_len (T:Nat) (D:Nat → List S53):(rowD T D).length = T + 1:=by unfold rowD;simp
theorem rowD_at (T:Nat) (D:Nat → List S53) {c:Nat} (hc:c ≤ T):rd_T53 (rowD T D) (c:Int) = oneD (D c):=by
 unfold rd_T53 rowD
 rw [Int.toNat_natCast,List.getD_eq_getElem?_getD,List.getElem?_map,List.getElem?_range (by omega)]
 rfl
end
end
end Go.Proofs.YtclollnicbcooaaGreatDoor.P
namespace Go.Proofs.YtclollnicbcooaaGreatDoor.Pure
open Go.RowKit YtclollnicbcooaaGreatDoorW.PrintWords YtclollnicbcooaaGreatDoorW.PrintLast YtclollnicbcooaaGreatDoorW.PrintMore St P Bitty
theorem TableMay (x0:S27) (w0:wf27 x0):∃ k,TMok k x0.f0 x0.f1 x0.f2 x0.f3 x0.f4:=by
 have hr:=prods_range w0
 obtain ⟨b,K1,hb⟩:=little_ev x0.f0 x0.f1 x0.f2 x0.f3 x0.f4
 obtain ⟨K2,hw⟩:=table_works
 cases b with
 | false => exact ⟨K1 + K2,hw _ (by omega),.inl (hb _ (by omega))⟩
 | true =>
  rcases table_cases hr with ⟨e,he,_,hA⟩ | ⟨K,N,F,H,_,_,⟨_,K3,hA⟩ | ⟨hno,K3,hA⟩⟩
  ·exact ⟨K1 + K2,hw _ (by omega),.inr ⟨hb _ (by omega),.inl ⟨_,_,_,_,hA _,he⟩⟩⟩
  ·exact ⟨K1 + K2 + K3,hw _ (by omega),.inr ⟨hb _ (by omega),.inl ⟨_,_,_,_,hA _ (by omega),by decide⟩⟩⟩
  ·have hT:=H.ord.gram.hT
   have hS:=H.ord.gram.hS
   have hf:=H.few
   have hle:∀ i,i < K.length → ∀ c,c ≤ x0.f0.length → (deedsP x0.f0 x0.f1 x0.f2 x0.f3 x0.f4 K N F i c).length ≤ 1:=fun i hi c hc => Nat.le_of_not_lt fun h => hno ⟨i,c,hi,hc,h⟩
   refine ⟨K1 + K2 + K3 + 61,hw _ (by omega),.inr ⟨hb _ (by omega),.inr ⟨_,_,_,lR x0.f2 x0.f3,⟨hA _ (by omega),Lives_is H.ord _ (by omega),by rw [lR_len];exact hS,hT,by rw [msP_len];exact hf,by rw [dsP_len,msP_len],fun i hi => ?_,fun i c hi hc => ?_,fun i hi => ?_,fun hl i hi => ?_⟩⟩⟩⟩
   ·rw [msP_len] at hi
    rw [dsP_at hi,rowD_len]
   ·rw [msP_len] at hi
    rw [msP_at hi,dsP_at hi,rowD_at _ _ (by omega),← may_bit hT (hle i hi) (c:=c) (by omega)]
    have hh:=has_is (c:Int) (mayF_ok hT (deedsP x0.f0 x0.f1 x0.f2 x0.f3 x0.f4 K N F i) _ (Nat.le_refl _)) (by omega) (by omega)
    have e:bitN x0.f0.length c = Int.toNat (c:Int):=by unfold bitN;rw [if_neg (by omega),Int.toNat_natCast]
    rw [hh,e]
   ·rw [msP_len] at hi
    rw [msP_at hi,dsP_at hi,rowD_at _ _ (Nat.le_refl _),← may_bit hT (hle i hi) (c:=x0.f0.length) (by omega)]
    have hh:=has_is 63 (mayF_ok hT (deedsP x0.f0 x0.f1 x0.f2 x0.f3 x0.f4 K N F i) _ (Nat.le_refl _)) (by omega) (by omega)
    have e:bitN x0.f0.length x0.f0.length = Int.toNat 63:=by unfold bitN;rw [if_pos rfl];rfl
    rw [hh,e]
   ·rw [msP_len] at hi
    rw [msP_at hi]
    exact may_some H hr (fun j hj => hl j (by rw [lR_len];exact hj)) hno hi
end Go.Proofs.YtclollnicbcooaaGreatDoor.Pure
namespace Go.Proofs.YtclollnicbcooaaGreatDoor.Glob
open Go.ChangeShapes Go.WideShapes Go.ChangeAt Go.RowKit
def laidL : List (String × DataW Unit) := [("math/bits.deBruijn32tab", Rows.laid_math_bits_deBruijn32tab), ("math/bits.deBruijn64tab", Rows.laid_math_bits_deBruijn64tab), ("internal/strconv.uint64pow10", Rows.laid_internal_strconv_uint64pow10)]
theorem named : Tryz.prog.globalNamed "internal/strconv.uint64pow10" = some 0 := by kernel_rfl
theorem typed:(Tryz.prog.globals[0]?).map (·.type) = some 161:=by kernel_rfl
theorem und172:Tryz.prog.underlying 161 = some (.array 20 47):=by kernel_rfl
theorem und75:Tryz.prog.underlying 47 = some (.int .u64):=by kernel_rfl
theorem cells172:Tryz.prog.cellsOf 161 = 20:=by kernel_rfl
theorem cells75:Tryz.prog.cellsOf 47 = 1:=by kernel_rfl
theorem table_is:(Rows.laid_internal_strconv_uint64pow10:DataW Unit) = Lib.tabData .u64 Lib.pow10Tab:=by rfl
theorem of_laid {W:World} (h:laidMet Tryz.prog laidL W):P.GTab W:=by
 obtain ⟨g', t', cs, fuel, p, hg', ht', hvar, hd⟩ := Lib.laidMet.reads h (n := "internal/strconv.uint64pow10") (d := Rows.laid_internal_strconv_uint64pow10) (List.mem_cons_of_mem _ (List.mem_cons_of_mem _ List.mem_cons_self))
 obtain rfl:=Option.some.inj (named.symm.trans hg')
 obtain rfl:=Option.some.inj (typed.symm.trans ht')
 rw [table_is] at hd
 unfold P.GTab Lib.TabIs
 rw [hvar,← Lib.cells_of_tab und172 und75 cells75 cells172 hd]

def litCells:DataW Unit → Array Value
 | .agg l => (l.map fun | .lit (.int k z) => Value.int k z | _ => Value.int .i64 0).toArray
 | _ => #[]
noncomputable def laidWorld (os:Os):World :=
 let w:=World.holding Tryz.prog os ⟨#[],#[],[]⟩
 let put (b:Nat) (cs:Array Value) (h:Array Obj):Array Obj:=h.modify b fun
   | .cells _ t frozen => .cells cs t frozen
   | o => o
 { w with heap:=put 0 (litCells Rows.laid_internal_strconv_uint64pow10) (put 1 (litCells Rows.laid_math_bits_deBruijn32tab) (put 2 (litCells Rows.laid_math_bits_deBruijn64tab) w.heap)) }
theorem laid_met (os:Os) (args:Array Value):laidMet Tryz.prog laidL ((laidWorld os).forCall (fun _ _ => 0) ⟨#[],args,[]⟩).memory :=
 laidMet_of_run' 8 (by kernel_rfl) (by kernel_rfl)
end Go.Proofs.YtclollnicbcooaaGreatDoor.Glob
