/- Texts of this claim put together: Q5, Nit, Num, Bup, Bui, Q6, Tb, Td, Lk1, Lk2, Lk3, Lk4, Lk5, SRow, SMoreS, SGrowS, SKnown, SFirst, SOf, Lk6. -/
import Derived.Test.YtclollnicbcooaaGreatDoorEm0
import Derived.Test.YtclollnicbcooaaGreatDoorEm1
import Derived.Lib.AppendIntMem
import Derived.Deep.RegionLaw
import Derived.Lib.SmallJoins
import Derived.Deep.RegionHeld3
import Derived.Deep.CutRange
import Derived.WalkMore
import Derived.IntWalk
set_option linter.unusedVariables false
set_option linter.unusedSimpArgs false
set_option linter.unusedSectionVars false
namespace Go.Proofs.YtclollnicbcooaaGreatDoor.P
open Go.RowKit YtclollnicbcooaaGreatDoorW.PrintWords YtclollnicbcooaaGreatDoorW.PrintLast YtclollnicbcooaaGreatDoorW.PrintMore
section
attribute [local go_sem] max2_int min2_int max_two min_two max_three min_three max_four min_four

/-! ### states_Step: function 20 -/
/-! ### states_symbols: function 44 -/
mutual
def states_symbols.l0:Nat→List Int→Int→Int→List (S65)→List (S73)→List ByteArray→List (S68)→Int→Option (List Int)
 | 0,_,_,_,_,_,_,_,_=>none
 | k+1,x3,x8,x9,xA,xB,xC,xD,xE=>if x9 < x8 then (if x3.length < 17592186044416 then (states_symbols.l0 k (x3 ++ [x9]) x8 (wrap64 (x9+1)) xA xB xC xD xE) else (none)) else (states_symbols.l1 k x3 (xC.length:Int) 0)
def states_symbols.l1:Nat→List Int→Int→Int→Option (List Int)
 | 0,_,_,_=>none
 | k+1,x3,x19,x20=>if x20 < x19 then (if x3.length < 17592186044416 then (states_symbols.l1 k (x3 ++ [wrap64 ((-1) - x20)]) x19 (wrap64 (x20+1))) else (none)) else (some x3)
end
def states_symbols.f (k:Nat) (l0_0:List (S65)) (l0_1:List (S73)) (l0_2:List ByteArray) (l0_3:List (S68)) (a0_4:Int):Option (List Int):=states_symbols.l0 k ([]:List Int) (l0_0.length:Int) 0 l0_0 l0_1 l0_2 l0_3 a0_4
set_option maxHeartbeats 8000000 in
set_option maxRecDepth 100000 in
theorem states_symbols.calls (k:Nat) (A0_0:Option Addr) (c0_0:Nat) (l0_0:List (S65)) (A0_1:Option Addr) (c0_1:Nat) (l0_1:List (S73)) (A0_2:Option Addr) (c0_2:Nat) (l0_2:List ByteArray) (A0_3:Option Addr) (c0_3:Nat) (l0_3:List (S68)) (a0_4:Int) (r:List Int) (w:World) (hr0_0:Kd.C k65 w A0_0 l0_0.length l0_0) (hc0_0:l0_0.length≤c0_0) (hr0_1:Kd.C k73 w A0_1 l0_1.length l0_1) (hc0_1:l0_1.length≤c0_1) (hr0_2:Kd.C Kd.string w A0_2 l0_2.length l0_2) (hc0_2:l0_2.length≤c0_2) (hr0_3:Kd.C k68 w A0_3 l0_3.length l0_3) (hc0_3:l0_3.length≤c0_3) (h:states_symbols.f k l0_0 l0_1 l0_2 l0_3 a0_4=some r) :
  Calls Tryz.prog 31 #[.agg #[.slice A0_0 l0_0.length c0_0,.slice A0_1 l0_1.length c0_1,.slice A0_2 l0_2.length c0_2,.slice A0_3 l0_3.length c0_3,.int .i64 a0_4]] w fun e w'=>∃ v0_:Value,e=.returned (v0_)∧Kd.R (Kd.int .i64) 56 w' w.heap.size (fun _=>True) v0_ r∧Below w.heap.size w w':=by
 have hu27:=Tryz.underlying27
 have HR0_0:=jM hr0_0
 have HC0_0:=jM hc0_0
 clear hr0_0 hc0_0
 have HR0_1:=jM hr0_1
 have HC0_1:=jM hc0_1
 clear hr0_1 hc0_1
 have HR0_2:=jM hr0_2
 have HC0_2:=jM hc0_2
 clear hr0_2 hc0_2
 have HR0_3:=jM hr0_3
 have HC0_3:=jM hc0_3
 clear hr0_3 hc0_3
 have HB:=jM (Below.refl w.heap.size w)
 have H:(states_symbols.l0 k ([]:List Int) (l0_0.length:Int) 0 l0_0 l0_1 l0_2 l0_3 a0_4)=some r:=h
 clear h
 have H':=jM H
 clear H
 go_enter Tryz.func31,Tryz.ntmps31
 go_wp2_with (first | ((with_reducible refine gate_dst (N:=1) rfl ?_);refine box_event ?hg (N:=1) ?hd (cs:=#[.slice A0_0 l0_0.length c0_0,.slice A0_1 l0_1.length c0_1,.slice A0_2 l0_2.length c0_2,.slice A0_3 l0_3.length c0_3,.int .i64 a0_4]) (t:=27) ?hr ?_;(case hd=>rfl);(case hg=>rfl);(case hr=>first | (go_simp;done) | (go_simp;rfl));intro gb155 hg w2 hbox hb;have n0_:=jM (jT (tB HB.out) hb);have n1_:=jM (hbox);have n2_:=jM ((by rw [hg];exact (below_size (tB HB.out)):w.heap.size≤gb155));have n3_:=jM ((by rw [hg];exact (below_size (tB HB.out)):w.heap.size≤gb155));clear HB;have HB:=n0_;have BK155:=n1_;have GW155:=n2_;have GE155:=n3_;clear n0_ n1_ n2_ n3_;clear hb hbox hg;obtain ⟨hcz3_0,hcz3_1,hcz3_2,hcz3_3,hcz3_4⟩:=jC5 BK155.out;have hfz3_0:=jF BK155.out 0;have hfz3_1:=jF BK155.out 1;have hfz3_2:=jF BK155.out 2;have hfz3_3:=jF BK155.out 3;have hfz3_4:=jF BK155.out 4))
 go_loopg [3,9] k (fun kq v3 v9 w'=>∃ (x3_1:List Int) (x9_1:Int),v9=.int .i64 x9_1∧Aside0 (states_symbols.l0 kq x3_1 (l0_0.length:Int) x9_1 l0_0 l0_1 l0_2 l0_3 a0_4=some r)∧Aside0 (kq≤k)∧Aside0 (Kd.R (Kd.int .i64) 56 w' w.heap.size (fun _=>True) v3 x3_1)∧Aside0 (w'.heap[gb155]? = some (.cells #[(.slice A0_0 l0_0.length c0_0),(.slice A0_1 l0_1.length c0_1),(.slice A0_2 l0_2.length c0_2),(.slice A0_3 l0_3.length c0_3),.int .i64 a0_4] 27 (0,0)))∧Aside0 (Below w.heap.size w w'))
 case atStart=>exact ⟨(([]:List Int)),(0),tZ,H',⟨Nat.le_refl _⟩,⟨by first | exact Kd.R_nil _ _ _ _ _ | exact Kd.N_nil _ _ _ _ _ | exact Kd.V_nil _ _ _ _ _ | exact Kd.Q_nil _ _ _ _ _ | exact Kd.S_nil _ _ _ _ _⟩,⟨tK BK155.out⟩,⟨tE HB.out⟩⟩
 case round =>
  clear H'
  try clear p2
  try clear hcz3_0
  try clear hcz3_1
  try clear hcz3_2
  try clear hcz3_3
  try clear hcz3_4
  try clear hfz3_0
  try clear hfz3_1
  try clear hfz3_2
  try clear hfz3_3
  try clear hfz3_4
  obtain ⟨x3_1,x9_1,rfl,HA,HK1,HO_3,BK155,HB⟩:=hrel
  cases gk with
  | zero=>exact absurd HA.out (by simp [states_symbols.l0])
  | succ k1 =>
   have H:=HA.out
   clear HA
   simp only [states_symbols.l0] at H
   by_cases c4:x9_1 < (l0_0.length:Int)
   ·rw [if_pos c4] at H
    have c4b0:decide (x9_1 < (l0_0.length:Int))=true:=decide_eq_true c4
    clear c4
    by_cases c5:x3_1.length < 17592186044416
    ·rw [if_pos c5] at H
     have LMc5:=jM c5
     clear c5
     obtain ⟨y156,hy156⟩:∃ y_:List Int,y_=(x3_1 ++ [x9_1]):=⟨_,rfl⟩
     replace H:(states_symbols.l0 k1 y156 (l0_0.length:Int) (wrap64 (x9_1+1)) l0_0 l0_1 l0_2 l0_3 a0_4)=some r:=by first | (rw [hy156];with_reducible exact H) | (have H2_:=(Option.bind_some _ _).symm.trans H;rw [hy156];with_reducible exact H2_) | (have H2_:=(Option.bind_some _ _).symm.trans H;with_reducible exact H2_) | with_reducible exact H | (rw [hy156];exact H) | exact H
     have Ny156:=jM hy156
     clear hy156
     have H':=jM H
     clear H
     go_wp2_with (first | ((with_reducible refine gate_builtin (b:=.append) (xs:=#[.tmp 12,.tmp 14]) rfl ?_);at_builtin;refine Kd.R_append (Kd.int .i64) (w0:=w) w.heap.size rfl (.tmp 12) (.tmp 14) 66 56 (.int .i64 0) 8 rfl Tryz.underlying66 info56 rfl (by decide) (by omega) u3 x3_1 x9_1 [.int .i64 x9_1] (fun _=>True) (fun _=>False) rfl rfl ?aP (fun _ hk=>hk.elim) ?aF ?aO ?aB ?aS ?aL ?_;(case aP=>exact rfl);(case aB=>exact (tE HB.out));(case aF=>exact (fun _ _=>trivial));(case aO=>exact (tR HO_3.out));(case aS=>exact (below_size (tE HB.out)));(case aL=>have:=LMc5.out;omega);intro v157 w6 ho hb hg hat;rw [← Ny156.out] at ho;replace BK155:=jM (blk_grown (g:=gb155) (o:=.cells #[.slice A0_0 l0_0.length c0_0,.slice A0_1 l0_1.length c0_1,.slice A0_2 l0_2.length c0_2,.slice A0_3 l0_3.length c0_3,.int .i64 a0_4] 27 (0,0)) (tK BK155.out) hg (Kd.R_ne HO_3.out BK155.out (by decide)));replace HB:=jM (hb);have HO158:=jM (ho);clear HO_3 ho hb hg hat))
     go_roundg k1
     case measure=>have:=HK1.out;omega
     case rel=>exact ⟨(y156),(wrap64 (x9_1+1)),tZ,H',⟨by have:=HK1.out;omega⟩,⟨tR HO158.out⟩,⟨tK BK155.out⟩,⟨tE HB.out⟩⟩
    ·rw [if_neg c5] at H
     exact absurd H (by simp)
   ·rw [if_neg c4] at H
    have c4b0:decide (x9_1 < (l0_0.length:Int))=false:=decide_eq_false c4
    clear c4
    have H':=jM H
    clear H
    have hcz7_0:wr.cell? ⟨gb155,0,none⟩=some (.slice A0_0 l0_0.length c0_0):=(jC BK155.out 0).trans rfl
    have hcz7_1:wr.cell? ⟨gb155,1,none⟩=some (.slice A0_1 l0_1.length c0_1):=(jC BK155.out 1).trans rfl
    have hcz7_2:wr.cell? ⟨gb155,2,none⟩=some (.slice A0_2 l0_2.length c0_2):=(jC BK155.out 2).trans rfl
    have hcz7_3:wr.cell? ⟨gb155,3,none⟩=some (.slice A0_3 l0_3.length c0_3):=(jC BK155.out 3).trans rfl
    have hcz7_4:wr.cell? ⟨gb155,4,none⟩=some (.int .i64 a0_4):=(jC BK155.out 4).trans rfl
    have hfz7_0:=jF BK155.out 0
    have hfz7_1:=jF BK155.out 1
    have hfz7_2:=jF BK155.out 2
    have hfz7_3:=jF BK155.out 3
    have hfz7_4:=jF BK155.out 4
    go_wp2
    go_loopg [3,20] k1 (fun kq v3 v20 w'=>∃ (x3_2:List Int) (x20_2:Int),v20=.int .i64 x20_2∧Aside0 (states_symbols.l1 kq x3_2 (l0_2.length:Int) x20_2=some r)∧Aside0 (kq≤k1)∧Aside0 (Kd.R (Kd.int .i64) 56 w' w.heap.size (fun _=>True) v3 x3_2)∧Aside0 (w'.heap[gb155]? = some (.cells #[(.slice A0_0 l0_0.length c0_0),(.slice A0_1 l0_1.length c0_1),(.slice A0_2 l0_2.length c0_2),(.slice A0_3 l0_3.length c0_3),.int .i64 a0_4] 27 (0,0)))∧Aside0 (Below w.heap.size w w'))
    case atStart=>exact ⟨(x3_1),(0),tZ,H',⟨Nat.le_refl _⟩,⟨tR HO_3.out⟩,⟨tK BK155.out⟩,⟨tE HB.out⟩⟩
    case round =>
     clear H'
     try clear p2
     try clear c4
     try clear c4b0
     try clear c5
     try clear p6
     try clear hcz3_0
     try clear hcz3_1
     try clear hcz3_2
     try clear hcz3_3
     try clear hcz3_4
     try clear hcz7_0
     try clear hcz7_1
     try clear hcz7_2
     try clear hcz7_3
     try clear hcz7_4
     try clear hfz3_0
     try clear hfz3_1
     try clear hfz3_2
     try clear hfz3_3
     try clear hfz3_4
     try clear hfz7_0
     try clear hfz7_1
     try clear hfz7_2
     try clear hfz7_3
     try clear hfz7_4
     try clear p2
     obtain ⟨x3_2,x20_2,rfl,HA,HK2,HO_3,BK155,HB⟩:=hrel
     cases gk with
     | zero=>exact absurd HA.out (by simp [states_symbols.l1])
     | succ k2 =>
      have H:=HA.out
      clear HA
      simp only [states_symbols.l1] at H
      by_cases c8:x20_2 < (l0_2.length:Int)
      ·rw [if_pos c8] at H
       have c8b0:decide (x20_2 < (l0_2.length:Int))=true:=decide_eq_true c8
       clear c8
       by_cases c9:x3_2.length < 17592186044416
       ·rw [if_pos c9] at H
        have LMc9:=jM c9
        clear c9
        obtain ⟨y159,hy159⟩:∃ y_:List Int,y_=(x3_2 ++ [wrap64 ((-1) - x20_2)]):=⟨_,rfl⟩
        replace H:(states_symbols.l1 k2 y159 (l0_2.length:Int) (wrap64 (x20_2+1)))=some r:=by first | (rw [hy159];with_reducible exact H) | (have H2_:=(Option.bind_some _ _).symm.trans H;rw [hy159];with_reducible exact H2_) | (have H2_:=(Option.bind_some _ _).symm.trans H;with_reducible exact H2_) | with_reducible exact H | (rw [hy159];exact H) | exact H
        have Ny159:=jM hy159
        clear hy159
        have H':=jM H
        clear H
        go_wp2_with (first | ((with_reducible refine gate_builtin (b:=.append) (xs:=#[.tmp 23,.tmp 26]) rfl ?_);at_builtin;refine Kd.R_append (Kd.int .i64) (w0:=w) w.heap.size rfl (.tmp 23) (.tmp 26) 66 56 (.int .i64 0) 8 rfl Tryz.underlying66 info56 rfl (by decide) (by omega) u3 x3_2 (wrap64 ((-1) - x20_2)) [.int .i64 (wrap64 ((-1) - x20_2))] (fun _=>True) (fun _=>False) rfl rfl ?aP (fun _ hk=>hk.elim) ?aF ?aO ?aB ?aS ?aL ?_;(case aP=>exact rfl);(case aB=>exact (tE HB.out));(case aF=>exact (fun _ _=>trivial));(case aO=>exact (tR HO_3.out));(case aS=>exact (below_size (tE HB.out)));(case aL=>have:=LMc9.out;omega);intro v160 w10 ho hb hg hat;rw [← Ny159.out] at ho;replace BK155:=jM (blk_grown (g:=gb155) (o:=.cells #[.slice A0_0 l0_0.length c0_0,.slice A0_1 l0_1.length c0_1,.slice A0_2 l0_2.length c0_2,.slice A0_3 l0_3.length c0_3,.int .i64 a0_4] 27 (0,0)) (tK BK155.out) hg (Kd.R_ne HO_3.out BK155.out (by decide)));replace HB:=jM (hb);have HO161:=jM (ho);clear HO_3 ho hb hg hat))
        go_roundg k2
        case measure=>have:=HK1.out;have:=HK2.out;omega
        case rel=>exact ⟨(y159),(wrap64 (x20_2+1)),tZ,H',⟨by have:=HK1.out;have:=HK2.out;omega⟩,⟨tR HO161.out⟩,⟨tK BK155.out⟩,⟨tE HB.out⟩⟩
       ·rw [if_neg c9] at H
        exact absurd H (by simp)
      ·rw [if_neg c8] at H
       have c8b0:decide (x20_2 < (l0_2.length:Int))=false:=decide_eq_false c8
       clear c8
       obtain rfl:=Option.some.inj H
       go_wp2
       go_ret
       exact ⟨_,by first | rfl | (simp [errW_none,errW_some] <;> rfl) | (simp [*,errW_none,errW_some] <;> rfl),tR HO_3.out,tE HB.out⟩
end
end Go.Proofs.YtclollnicbcooaaGreatDoor.P
namespace Go.Proofs.YtclollnicbcooaaGreatDoor.P
open Go.RowKit Go.Lib Go.Sort YtclollnicbcooaaGreatDoorW.PrintWords YtclollnicbcooaaGreatDoorW.PrintLast YtclollnicbcooaaGreatDoorW.PrintMore St Base
def GTab (w : World) : Prop := Lib.TabIs Tryz.prog w "internal/strconv.uint64pow10" .u64 Lib.pow10Tab
theorem GTab.below {w w1:World} (h:GTab w) (hb:RowKit.Below w.heap.size w w1):GTab w1:=Lib.tabBelow_of_tabIs h w1 hb
theorem itoa_calls (n:Int) (h0:-9223372036854775808≤n) (h1:n≤9223372036854775807) (w:World) (hG:GTab w) :
  Calls Tryz.prog 29 #[.int .i64 n] w fun e w'=>e=.returned (.string ⟨(itoa n).toArray⟩)∧RowKit.Below w.heap.size w w':=by
 refine (Any.strconv_Itoa Tryz.itoaL n h0 h1 w hG).mono ?_
 rintro e w' ⟨rfl,k,os,rfl⟩
 exact ⟨rfl,below_grow w.heap.size w (Nat.le_refl _) k os⟩

def keyS (l:List Itm):ByteArray:=⟨(keyL l).toArray⟩
theorem keyS_inj {l m:List Itm} (h:keyS l=keyS m):l=m:=by
 unfold keyS at h
 injection h with h
 exact keyL_inj l m (by have:=congrArg Array.toList h;simpa using this)
theorem bytes_app (a b:Array UInt8):(⟨a⟩ ++ ⟨b⟩:ByteArray)=⟨a ++ b⟩:=by
 apply ByteArray.ext
 simp
theorem keyS_snoc (l:List Itm) (x:Itm):keyS l ++ ((((⟨(itoa x.1).toArray⟩ ++ ⟨#[46]⟩:ByteArray) ++ ⟨(itoa x.2).toArray⟩:ByteArray) ++ ⟨#[32]⟩:ByteArray))=keyS (l ++ [x]):=by
 unfold keyS
 rw [keyL_app,bytes_app,bytes_app,bytes_app,bytes_app]
 simp [keyL,pieceL]
section
theorem info75:(Tryz.prog.info? 75).map (fun i=>(i.zero,i.size,i.bytes))=some (some (.slice none 0 0),1,24):=by kernel_rfl
theorem keyed9:Maps.Keyed Tryz.prog 9:=Maps.string_keyed Tryz.underlying9
theorem key9 (s:ByteArray) (h:s.size≤maxLen):∃ x,keyOf Tryz.prog 9 (.string s)=some x:=by
 unfold keyOf
 rw [Tryz.underlying9]
 simp only [mapKey,Tryz.underlying9]
 rw [if_pos h]
 exact ⟨_,rfl⟩
theorem dec_len:∀ (k u:Nat),u < 10 ^ (k+1)→(decDigits u).length≤k+1
 | 0,u,h=>by rw [dec_small u (by omega)];simp
 | k+1,u,h=>by
  by_cases hu:u < 10
  ·rw [dec_small u hu];simp
  ·rw [dec_step u hu,List.length_append,List.length_singleton]
   have:=dec_len k (u / 10) (by rw [Nat.pow_succ] at h;omega)
   omega
theorem itoa_len (n:Int) (h:-9223372036854775808≤n∧n≤9223372036854775807):(itoa n).length≤20:=by
 unfold itoa
 split
 ·have:=dec_len 18 n.natAbs (by omega)
  simp only [List.length_cons];omega
 ·have:=dec_len 18 n.toNat (by omega)
  omega
theorem keyL_len:∀ l:List Itm,(∀ x ∈ l,rngI x)→(keyL l).length≤l.length * 42
 | [],_=>by simp [keyL]
 | x :: l,h=>by
  have h1:=keyL_len l (fun y hy=>h y (List.mem_cons_of_mem _ hy))
  have h2:=h x (List.mem_cons_self ..)
  have h3:=itoa_len x.1 h2.1
  have h4:=itoa_len x.2 h2.2
  unfold keyL pieceL
  simp only [List.length_append,List.length_cons,List.length_nil]
  omega
theorem keyS_size {l:List Itm} (h:∀ x ∈ l,rngI x) (hs:l.length≤1000000):(keyS l).size≤maxLen:=by
 have:=keyL_len l h
 show (keyL l).toArray.size≤maxLen
 rw [List.size_toArray]
 unfold maxLen
 omega
def numK (K:List (List Itm)):List (Value × Value):=K.zipIdx.map fun p=>(.string (keyS p.1),.int .i64 (p.2:Int))
theorem numK_snoc (K:List (List Itm)) (l:List Itm):numK (K ++ [l])=numK K ++ [(.string (keyS l),.int .i64 (K.length:Int))]:=by
 unfold numK
 rw [List.zipIdx_append]
 simp
theorem numK_mem {K:List (List Itm)} {p:Value × Value} (h:p ∈ numK K):∃ (i:Nat) (l:List Itm),K[i]? = some l∧p=(.string (keyS l),.int .i64 (i:Int)):=by
 unfold numK at h
 obtain ⟨⟨l,i⟩,hm,rfl⟩:=List.mem_map.1 h
 have:=List.mem_zipIdx hm
 simp only [Nat.zero_add,Nat.sub_zero] at this
 obtain ⟨_,h2,h3⟩:=this
 exact ⟨i,l,(List.getElem?_eq_getElem h2).trans (congrArg some h3.symm),rfl⟩
theorem numK_has {K:List (List Itm)} {i:Nat} {l:List Itm} (h:K[i]? = some l):((.string (keyS l),.int .i64 (i:Int)):Value × Value) ∈ numK K:=by
 unfold numK
 exact List.mem_map.2 ⟨(l,i),List.mem_of_getElem? (by rw [List.getElem?_zipIdx,h,Nat.zero_add];rfl),rfl⟩
theorem look_has {W:World} {r i:Nat} {K:List (List Itm)} {l:List Itm} (hz:(keyS l).size≤maxLen) (h:Mp Tryz.prog 9 W r (numK K)) (hd:K.Nodup) (hi:K[i]? = some l):(Instr.lookup 74 (.map (some r)) (.string (keyS l)) true).run Tryz.prog W=.ok (.tuple #[.int .i64 (i:Int),.bool true]) W:=by
 refine h.find (et:=3) Tryz.underlying74 keyed9 (key9 _ hz).choose_spec (numK_has hi) (fun p hp he=>?_) true
 obtain ⟨j,m,hj,rfl⟩:=numK_mem hp
 injection he with he
 obtain rfl:=keyS_inj he
 obtain ⟨h1,h2⟩:=List.getElem?_eq_some_iff.1 hi
 obtain ⟨h3,h4⟩:=List.getElem?_eq_some_iff.1 hj
 have:i=j:=(List.getElem_inj hd).1 (h2.trans h4.symm)
 rw [this]
theorem look_not {W:World} {r:Nat} {K:List (List Itm)} {l:List Itm} (hz:(keyS l).size≤maxLen) (h:Mp Tryz.prog 9 W r (numK K)) (hn:l ∉ K):(Instr.lookup 74 (.map (some r)) (.string (keyS l)) true).run Tryz.prog W=.ok (.tuple #[.int .i64 0,.bool false]) W:=by
 refine h.miss (et:=3) Tryz.underlying74 keyed9 (key9 _ hz).choose_spec (Tryz.zeroValue3 W) (fun p hp he=>?_) true
 obtain ⟨j,m,hj,rfl⟩:=numK_mem hp
 injection he with he
 obtain rfl:=keyS_inj he
 exact hn (List.mem_of_getElem? hj)
theorem look_put {W:World} {r:Nat} {K:List (List Itm)} {l:List Itm} (hz:(keyS l).size≤maxLen) (h:Mp Tryz.prog 9 W r (numK K)) (hn:l ∉ K) :
  (Instr.mapUpdate 74 (.map (some r)) (.string (keyS l)) (.int .i64 (K.length:Int))).run Tryz.prog W=.ok () (Mp.put W r (.string (keyS l)) (.int .i64 (K.length:Int)))∧Mp Tryz.prog 9 (Mp.put W r (.string (keyS l)) (.int .i64 (K.length:Int))) r (numK (K ++ [l])):=by
 refine ⟨h.store (et:=3) Tryz.underlying74 keyed9 (key9 _ hz).choose_spec (fun p hp he=>?_) _, ?_⟩
 ·obtain ⟨j,m,hj,rfl⟩:=numK_mem hp
  injection he with he
  obtain rfl:=keyS_inj he
  exact hn (List.mem_of_getElem? hj)
 ·rw [numK_snoc]
  exact h.put_is (key9 _ hz).choose_spec _

theorem numb_cases (K:List (List Itm)) (l:List Itm) (hn:l≠[]):(∃ j:Nat,K[j]? = some l∧numb K l=((j:Int),K)) ∨ (l ∉ K∧numb K l=((K.length:Int),K ++ [l])):=by
 unfold numb
 rw [if_neg hn]
 split
 ·rename_i j hf
  obtain ⟨hj,hp,_⟩:=List.findIdx?_eq_some_iff_getElem.1 hf
  exact .inl ⟨j,by rw [List.getElem?_eq_getElem hj];exact congrArg some (of_decide_eq_true hp),rfl⟩
 ·rename_i hf
  have hh:=List.findIdx?_eq_none_iff.1 hf
  exact .inr ⟨fun hm=>by have:=hh l hm;simp at this,rfl⟩
structure Bd (w:World) (B:Nat) (G:Array Value) (Km K:List (List Itm)) (N:List (List Int)) (vK vN:Value) (okK okN:Nat→Prop) (W:World):Prop where
 hb:RowKit.Below w.heap.size w W
 bg:W.heap[w.heap.size]? = some (.cells G 27 (0,0))
 br:W.heap[w.heap.size+1]? = some (.cells #[.slice none 0 0,.slice none 0 0] 44 (0,0))
 ba:W.heap[B]? = some (.cells #[vK,vN] 44 (0,0))
 mp:Mp Tryz.prog 9 W (B+1) (numK Km)
 bn:W.heap[B+2]? = some (.cells #[.map (some (B+1))] 74 (0,0))
 ks:Kd.S (Kd.slice 77 k77) 75 W (B+3) (fun k=>B+3≤k∧okK k) vK (K.map (·.map ofI))
 ns:Kd.S (Kd.slice 3 (Kd.int .i64)) 50 W (B+3) (fun k=>B+3≤k∧okN k) vN N
 nd:Km.Nodup
 hB:w.heap.size+2≤B
section
variable {w:World} {B:Nat} {G:Array Value} {Km K:List (List Itm)} {N:List (List Int)} {vK vN:Value} {okK okN:Nat→Prop} {W W1:World}
theorem Bd.size (h:Bd w B G Km K N vK vN okK okN W):B+3≤W.heap.size:=blk_lt h.bn
theorem Bd.below (h:Bd w B G Km K N vK vN okK okN W) (hb:RowKit.Below W.heap.size W W1):Bd w B G Km K N vK vN okK okN W1 where
 hb:=below_step h.hb hb
 bg:=blk_below h.bg hb
 br:=blk_below h.br hb
 ba:=blk_below h.ba hb
 mp:=h.mp.same (hb.block _ h.mp.lt)
 bn:=blk_below h.bn hb
 ks:=Kd.S_below h.ks hb
 ns:=Kd.S_below h.ns hb
 nd:=h.nd
 hB:=h.hB
theorem Bd.any (h:Bd w B G Km K N vK vN okK okN W) {ok' okN':Nat→Prop} (hk:∀ k,okK k→ok' k) (hn:∀ k,okN k→okN' k):Bd w B G Km K N vK vN ok' okN' W :=
 ⟨h.hb,h.bg,h.br,h.ba,h.mp,h.bn,Kd.S_mono h.ks (fun k hk'=>⟨hk'.1,hk k hk'.2⟩),Kd.S_mono h.ns (fun k hk'=>⟨hk'.1,hn k hk'.2⟩),h.nd,h.hB⟩
theorem Bd.put (h:Bd w B G Km K N vK vN okK okN W) {Km':List (List Itm)} {k v:Value} (hm:Mp Tryz.prog 9 (Mp.put W (B+1) k v) (B+1) (numK Km')) (hd:Km'.Nodup):Bd w B G Km' K N vK vN okK okN (Mp.put W (B+1) k v):=by
 obtain ⟨hs,hk⟩:=Mp.put_heap W (B+1) k v
 have hB:=h.hB
 have hw:(Mp.put W (B+1) k v).os=W.os∧(Mp.put W (B+1) k v).tape=W.tape∧(Mp.put W (B+1) k v).output=W.output:=by
  unfold Mp.put
  split <;> exact ⟨rfl,rfl,rfl⟩
 refine ⟨⟨hw.1.trans h.hb.os,hw.2.1.trans h.hb.tape,hw.2.2.trans h.hb.output,by rw [hs];exact h.hb.size,fun i hi=>(hk i (by omega)).trans (h.hb.block i hi)⟩,(hk _ (by omega)).trans h.bg,(hk _ (by omega)).trans h.br,(hk _ (by omega)).trans h.ba,hm,(hk _ (by omega)).trans h.bn, ?_, ?_,hd,hB⟩
 ·exact Kd.S_step h.ks (fun i hi hlt=>hk i (by omega))
 ·exact Kd.S_step h.ns (fun i hi hlt=>hk i (by omega))
theorem Bd.app (h:Bd w B G Km K N vK vN okK okN W) {K':List (List Itm)} {v1:Value} (hs:Kd.S (Kd.slice 77 k77) 75 W1 (B+3) (fun k=>B+3≤k) v1 (K'.map (·.map ofI))) (hg:W.grownBy W1 vK.ownBlock):Bd w B G Km K' N v1 vN (fun _=>True) okN (W1.setCell ⟨B,0,none⟩ v1):=by
 have hbase:=Kd.S_base h.ks
 have hB:=h.hB
 have hkeep:∀ k,k < B+3→k < W.heap.size→W1.heap[k]? = W.heap[k]?:=fun k h1 h2=>hg.block k h2 (fun e=>by have:=hbase k e.symm;omega)
 have hsz:=h.size
 have hfar:∀ k,k≠B→(W1.setCell ⟨B,0,none⟩ v1).heap[k]? = W1.heap[k]?:=fun k hk=>Below.heap_setCell W1 ⟨B,0,none⟩ v1 k hk
 refine ⟨below_set (below_grown h.hb hg (fun k hk=>by have:=hbase k hk;omega)) (by show w.heap.size≤B;omega), ?_, ?_, ?_, ?_, ?_, ?_, ?_,h.nd,hB⟩
 ·exact ((hfar _ (by omega)).trans (hkeep _ (by omega) (by omega))).trans h.bg
 ·exact ((hfar _ (by omega)).trans (hkeep _ (by omega) (by omega))).trans h.br
 ·exact blk_put ((hkeep _ (by omega) (by omega)).trans h.ba) 0 _ rfl
 ·exact h.mp.same ((hfar _ (by omega)).trans (hkeep _ (by omega) (by omega)))
 ·exact ((hfar _ (by omega)).trans (hkeep _ (by omega) (by omega))).trans h.bn
 ·exact Kd.S_mono (Kd.S_far hs (fun k hk=>by show k≠B;omega) _) (fun k hk=>⟨hk,trivial⟩)
 ·exact Kd.S_far (Kd.S_over' h.ns (Kd.S_typed h.ks) (by decide) hg) (fun k hk=>by show k≠B;omega) _
end

set_option maxHeartbeats 8000000 in
set_option maxRecDepth 100000 in
theorem number_calls {w W:World} {B:Nat} {G:Array Value} {K:List (List Itm)} {N:List (List Int)} {vK vN vl:Value} {l:List Itm} {okN:Nat→Prop} (hG:GTab w) (h:Bd w B G K K N vK vN (fun k=>some k≠vl.ownBlock) okN W)
  (hl:Kd.R k77 77 W (B+3) (fun k=>B+3≤k) vl (l.map ofI)) (hr:∀ x ∈ l,rngI x) (hs:l.length≤1000000) (hK:K.length≤3000) :
  Calls Tryz.prog 28 #[vl,.pointer (some ⟨B+2,0,none⟩),.pointer (some ⟨B,0,none⟩)] W fun e w'=>e=.returned (.int .i64 (numb K l).1)∧∃ vK',Bd w B G (numb K l).2 (numb K l).2 N vK' vN (fun _=>True) okN w'∧W.heap.size≤w'.heap.size∧∀ k,k < W.heap.size→B+3≤k→some k≠vK.ownBlock→w'.heap[k]? = W.heap[k]?:=by
 obtain ⟨A,c,e⟩:=Kd.R_slice hl
 subst e
 rw [List.length_map] at *
 have hrd:=Kd.R_reads' hl
 rw [List.length_map] at hrd
 have HL:=jM hl
 have HRD:=jM hrd.2.2
 have H:=jM h
 have HG:=jM hG
 have HRG:=jM hr
 have HK:=jM hK
 clear hl hrd h hG hr hK
 have hu75:=Tryz.underlying75
 have hu77:=Tryz.underlying77
 by_cases hnil:l=[]
 ·subst hnil
  have hnb:numb K []=(-1,K):=by unfold numb;rw [if_pos rfl]
  have HNB:=jM hnb
  clear hnb
  simp only [List.length_nil] at *
  go_enter Tryz.func28,Tryz.ntmps28
  go_wp2
  go_ret
  rw [HNB.out]
  refine ⟨rfl,vK,H.out.any (fun _ _=>trivial) (fun _ h=>h),Nat.le_refl _,fun _ _ _ _=>rfl⟩
 ·have hlen0:(l.length:Int)≠0:=by
   intro e
   exact hnil (List.eq_nil_of_length_eq_zero (by omega))
  have hlen:((l.length:Int) == 0)=false:=by simpa using hlen0
  have hlen2:decide ((l.length:Int)=0)=false:=decide_eq_false hlen0
  have HNIL:=jM hnil
  clear hnil
  go_enter Tryz.func28,Tryz.ntmps28
  go_wp2
  go_loopw [5,15] (fun v5 v15 wr=>∃ i:Nat,v15=.int .i64 i∧i≤l.length∧v5=.string (keyS (l.take i))∧Aside0 (RowKit.Below W.heap.size W wr)) (fun _ v15 _=>l.length - (intOf v15).toNat)
  case atStart=>exact ⟨0,rfl,Nat.zero_le _,rfl,⟨RowKit.Below.refl _ _⟩⟩
  case round =>
   obtain ⟨i,rfl,hi,rfl,HB⟩:=hrel
   by_cases hlt:i < l.length
   ·have hltb:decide (i < l.length)=true:=decide_eq_true hlt
    obtain ⟨ad,rfl,hx0,hx1⟩:=at_T77 (Kd.C_below HRD.out HB.out) (i:Int) (by omega) (by omega)
    rw [Int.toNat_natCast] at hx0 hx1
    obtain ⟨x,hx⟩:∃ x,l[i]=x:=⟨_,rfl⟩
    have hxe:rd_T77 (l.map ofI) i=ofI x:=by rw [← hx];unfold rd_T77;simp [List.getD,hlt]
    rw [hxe] at hx0 hx1
    have hxr:rngI x:=by rw [← hx];exact HRG.out _ (List.getElem_mem hlt)
    have HSN:=jM (show keyS (l.take (i+1))=keyS (l.take i ++ [x]) by rw [List.take_add_one,List.getElem?_eq_getElem hlt,hx];rfl)
    unfold rngI at hxr
    have HXR:=jM hxr
    replace hx0:wr.cell? (ad.add (i * 2))=some (.int .i64 x.1):=hx0
    replace hx1:wr.cell? ⟨(ad.add (i * 2)).block,(ad.add (i * 2)).off+1,none⟩=some (.int .i64 x.2):=hx1
    clear hxr hxe hx
    go_upto_region 7 with fail
    have BX:=jM (blk_new wr (Obj.cells #[.int .i64 x.1,.int .i64 x.2] 77))
    have HB1:=jM (below_alloc HB.out (Obj.cells #[.int .i64 x.1,.int .i64 x.2] 77))
    clear hx0 hx1 HB
    generalize wr.alloc (Obj.cells #[.int .i64 x.1,.int .i64 x.2] 77)=w1 at *
    generalize wr.heap.size=xb at *
    have y0:w1.cell? ⟨xb,0,none⟩=some (.int .i64 x.1):=blk_cell BX.out 0
    have y1:w1.cell? ⟨xb,1,none⟩=some (.int .i64 x.2):=blk_cell BX.out 1
    obtain ⟨sa,hsa⟩:∃ s:ByteArray,s=⟨(itoa x.1).toArray⟩:=⟨_,rfl⟩
    obtain ⟨sb,hsb⟩:∃ s:ByteArray,s=⟨(itoa x.2).toArray⟩:=⟨_,rfl⟩
    obtain ⟨sk,hsk⟩:∃ s:ByteArray,s=keyS (l.take i):=⟨_,rfl⟩
    have hza:sa.size≤20:=by rw [hsa];show (itoa x.1).toArray.size≤20;rw [List.size_toArray];exact itoa_len _ HXR.out.1
    have hzb:sb.size≤20:=by rw [hsb];show (itoa x.2).toArray.size≤20;rw [List.size_toArray];exact itoa_len _ HXR.out.2
    have hzk:sk.size≤42000000:=by
     rw [hsk]
     have h1:=keyL_len (l.take i) (fun y hy=>HRG.out y (List.mem_of_mem_take hy))
     show (keyL (l.take i)).toArray.size≤_
     rw [List.size_toArray]
     have:(l.take i).length≤1000000:=by rw [List.length_take];omega
     omega
    obtain ⟨s1,hs1⟩:∃ s:ByteArray,s=sa ++ ⟨#[46]⟩:=⟨_,rfl⟩
    have hz1:s1.size≤21:=by rw [hs1,ByteArray.size_append];show sa.size+1≤21;omega
    obtain ⟨s2,hs2⟩:∃ s:ByteArray,s=s1 ++ sb:=⟨_,rfl⟩
    have hz2:s2.size≤41:=by rw [hs2,ByteArray.size_append];omega
    obtain ⟨s3,hs3⟩:∃ s:ByteArray,s=s2 ++ ⟨#[32]⟩:=⟨_,rfl⟩
    have hz3:s3.size≤42:=by rw [hs3,ByteArray.size_append];show s2.size+1≤42;omega
    obtain ⟨s4,hs4⟩:∃ s:ByteArray,s=sk ++ s3:=⟨_,rfl⟩
    have e1:∀ W,(Op.stringOp .add sa ⟨#[46]⟩).run Tryz.prog W=.ok (.string s1) W:=fun W=>by rw [hs1];exact run_string_add_sum _ _ _ (by show sa.size+1≤_;omega)
    have e2:∀ W,(Op.stringOp .add s1 sb).run Tryz.prog W=.ok (.string s2) W:=fun W=>by rw [hs2];exact run_string_add_sum _ _ _ (by omega)
    have e3:∀ W,(Op.stringOp .add s2 ⟨#[32]⟩).run Tryz.prog W=.ok (.string s3) W:=fun W=>by rw [hs3];exact run_string_add_sum _ _ _ (by show s2.size+1≤_;omega)
    have e4:∀ W,(Op.stringOp .add sk s3).run Tryz.prog W=.ok (.string s4) W:=fun W=>by rw [hs4];exact run_string_add_sum _ _ _ (by omega)
    have HS4:=jM (show s4=keyS (l.take (i+1)) by rw [hs4,hs3,hs2,hs1,hsa,hsb,hsk,HSN.out];exact keyS_snoc _ _)
    have hI1:=itoa_calls x.1 HXR.out.1.1 HXR.out.1.2
    have hI2:=itoa_calls x.2 HXR.out.2.1 HXR.out.2.2
    rw [← hsa] at hI1
    rw [← hsb] at hI2
    rw [← hsk]
    have HI1:=jM hI1
    have HI2:=jM hI2
    clear hI1 hI2 hza hzb hzk hz1 hz2 hz3 hsa hsb hsk hs1 hs2 hs3 hs4
    go_region_with (first
     | (go_at_call 29;(with_reducible refine (HI1.out _ ?g1).mono ?_);(case g1=>exact GTab.below HG.out (below_step H.out.hb (by repeat (first | exact HB1.out | apply below_drew1 | apply pw_below_drewN))));rintro e W1 ⟨rfl,hb⟩;have HB2:=jM (below_step (by repeat (first | exact HB1.out | apply below_drew1 | apply pw_below_drewN)) hb);have BX2:=jM (blk_below (g:=xb) (o:=.cells #[.int .i64 x.1,.int .i64 x.2] 77 (0,0)) (by repeat (first | exact BX.out | refine blk_drew ?_ | refine blk_drewN ?_ _)) hb);have t0:=blk_cell BX2.out 0;have t1:=blk_cell BX2.out 1;clear hb)
     | (go_at_call 29;(with_reducible refine (HI2.out _ ?g1).mono ?_);(case g1=>exact GTab.below HG.out (below_step H.out.hb (by repeat (first | exact HB2.out | apply below_drew1 | apply pw_below_drewN))));rintro e W2 ⟨rfl,hb⟩;have HB3:=jM (below_step (by repeat (first | exact HB2.out | apply below_drew1 | apply pw_below_drewN)) hb);clear hb))
    all_goals go_wp2_with fail
    all_goals go_roundw
    all_goals first
     | exact ⟨i+1,rfl,by omega,congrArg Value.string HS4.out,HB3⟩
     | (simp [intOf];omega)
   ·have hltb:decide (i < l.length)=false:=decide_eq_false hlt
    have hil:i=l.length:=by omega
    subst hil
    rw [List.take_length]
    have hz:=keyS_size HRG.out hs
    have H2:=jM (H.out.below HB.out)
    have HL2:=jM (Kd.R_below HL.out HB.out)
    have b0:wr.cell? ⟨B+2,0,none⟩=some (.map (some (B+1))):=blk_cell H2.out.bn 0
    rcases numb_cases K l HNIL.out with ⟨j,hkj,hnb⟩ | ⟨hnin,hnb⟩
    ·have hlk:=look_has hz H2.out.mp H2.out.nd hkj
     have HNB:=jM hnb
     clear hnb hkj hz
     go_wp2
     go_ret
     rw [HNB.out]
     exact ⟨rfl,vK,H2.out.any (fun _ _=>trivial) (fun _ h=>h),HB.out.size,fun k h1 _ _=>HB.out.block k h1⟩
    ·have hlk:=look_not hz H2.out.mp hnin
     obtain ⟨hmu,hmp⟩:=look_put hz H2.out.mp hnin
     obtain ⟨AK,cK,eK⟩:=Kd.S_slice H2.out.ks
     subst eK
     rw [List.length_map] at *
     have a0:wr.cell? ⟨B,0,none⟩=some (.slice AK K.length cK):=blk_cell H2.out.ba 0
     have HNB:=jM hnb
     have HNIN:=jM hnin
     have HMP:=jM hmp
     clear hnb hnin hmp hz
     go_upto_region 13 with fail
     have hnd:(K ++ [l]).Nodup:=by
      rw [List.nodup_append]
      refine ⟨H2.out.nd,by simp,fun a ha b hb e=>?_⟩
      rw [List.mem_singleton] at hb
      subst hb;subst e
      exact HNIN.out ha
     have H5:=jM (H2.out.put HMP.out hnd)
     have hph:=Mp.put_heap wr (B+1) (.string (keyS l)) (.int .i64 (K.length:Int))
     have HL5:=jM (Kd.R_step HL2.out (fun k hk hlt=>hph.2 k (by omega)))
     have HP5:=jM hph
     clear hnd hph hlk hmu a0 b0
     generalize Mp.put wr (B+1) (.string (keyS l)) (.int .i64 (K.length:Int))=W5 at *
     have a0:W5.cell? ⟨B,0,none⟩=some (.slice AK K.length cK):=blk_cell H5.out.ba 0
     have f0:=blk_frozen H5.out.ba 0
     have hown:∀ k,some k=(Value.slice A l.length c).ownBlock→some k≠(Value.slice AK K.length cK).ownBlock:=fun k e e'=>by
      obtain ⟨c1,h1⟩:=Kd.R_typed HL5.out k e.symm
      obtain ⟨c2,h2⟩:=Kd.S_typed H5.out.ks k e'.symm
      rw [h1] at h2
      cases h2
     have HOW:=jM hown
     clear hown
     go_wp2_with (first | ((with_reducible refine gate_builtin (b:=.append) (xs:=#[.tmp 46,.tmp 48]) rfl ?_);at_builtin;refine Kd.S_append (Kd.slice 77 k77) (w0:=W5) (B+3) rfl (.tmp 46) (.tmp 48) 42 75 (.slice none 0 0) 24 rfl Tryz.underlying42 info75 rfl (by decide) (by omega) (.slice AK K.length cK) (K.map (·.map ofI)) (l.map ofI) [.slice A l.length c] (fun k=>B+3≤k) (fun k=>some k=(Value.slice A l.length c).ownBlock∧B+3≤k) rfl rfl ⟨_,rfl,Kd.R_tight2 rfl HL5.out⟩ (fun k hk=>⟨hk.2,HOW.out k hk.1⟩) (fun k hk=>Nat.le_trans H5.out.size hk) (Kd.S_mono H5.out.ks (fun k hk=>⟨hk.1,fun h2=>hk.2 h2.1⟩)) (RowKit.Below.refl _ _) H5.out.size ?aL ?_;(case aL=>have:=HK.out;rw [List.length_map];omega);intro v6 w6 ho hb hg hat;obtain ⟨A6,n6,e6⟩:=Kd.S_slice ho;have e7:(K.map (·.map ofI) ++ [l.map ofI]).length=K.length+1:=(by simp);rw [e7] at e6;subst e6;clear e7;have HS6:=jM ho;have HG6:=jM hg;have c6:w6.cell? ⟨B,0,none⟩=some (.slice AK K.length cK):=blk_cell ((hg.block _ (blk_lt H5.out.ba) (fun e=>by have:=Kd.S_base H5.out.ks _ e.symm;omega)).trans H5.out.ba) 0;have f6:=blk_frozen ((hg.block _ (blk_lt H5.out.ba) (fun e=>by have:=Kd.S_base H5.out.ks _ e.symm;omega)).trans H5.out.ba) 0;clear ho hb hg hat))
     go_ret
     rw [HNB.out]
     refine ⟨rfl,_,Bd.app H5.out (by rw [List.map_append];exact HS6.out) HG6.out, ?_,fun k h1 h2 h3=>?_⟩
     ·rw [World.size_setCell]
      exact Nat.le_trans HB.out.size (Nat.le_trans (Nat.le_of_eq HP5.out.1.symm) HG6.out.size)
     ·refine (Below.heap_setCell w6 ⟨B,0,none⟩ _ k (by show k≠B;omega)).trans ?_
      have h4:k < wr.heap.size:=Nat.lt_of_lt_of_le h1 HB.out.size
      exact ((HG6.out.block k (by rw [HP5.out.1];exact h4) (fun e=>h3 (e.trans (by cases AK <;> rfl)))).trans (HP5.out.2 k (by omega))).trans (HB.out.block k h1)
end
theorem nodup_len:∀ (l m:List Itm),l.Nodup→(∀ x ∈ l,x ∈ m)→l.length≤m.length
 | [],m,_,_=>Nat.zero_le _
 | x :: l,m,hd,h=>by
  rw [List.nodup_cons] at hd
  have hx:=h x (List.mem_cons_self ..)
  have h1:=nodup_len l (m.erase x) hd.2 (fun y hy=>by
   have hne:y≠x:=fun e=>hd.1 (e ▸ hy)
   exact (List.mem_erase_of_ne hne).2 (h y (List.mem_cons_of_mem _ hy)))
  have h2:=List.length_erase_of_mem hx
  have h3:0 < m.length:=List.length_pos_of_mem hx
  rw [List.length_cons];omega
theorem risen_nodup (l:List Itm):(risen l).Nodup:=List.Pairwise.imp (fun h e=>by rw [e] at h;exact lt_irr _ h) (risen_is l).up

def Sg (g:Gr) (c:List Itm) (s:Int):List Itm:=risen (stepL g (risen (closedL g c)) s)
theorem isI_rng {l2:List ByteArray} {l3:List S68} {st:Int} (h:Fits l2 l3 st) {x:Itm} (hx:isI (gr st l3) x=true):-1≤x.1∧x.1 < 120∧0≤x.2∧x.2≤12:=by
 have hA:=allI_has (gr st l3) x hx
 unfold isI at hx
 cases hr:rightL (gr st l3) x.1 with
 | none=>rw [hr] at hx;cases hx
 | some r =>
  rw [hr] at hx
  simp only [decide_eq_true_eq] at hx
  have hf:=h.few
  unfold rightL at hr
  rw [gr_len] at hr
  split at hr
  ·injection hr with hr
   rw [← hr] at hx
   simp only [List.length_cons,List.length_nil] at hx
   omega
  ·split at hr
   ·rename_i h1 h2
    rw [gr_at st l3 x.1 h2.1 h2.2] at hr
    injection hr with hr
    have:(rd_T68 l3 x.1).f2.length≤12:=h.short _ (by unfold rd_T68;rw [List.getD_eq_getElem?_getD,List.getElem?_eq_getElem (by omega)];exact List.getElem_mem (by omega))
    rw [← hr] at hx
    simp only at hx
    omega
   ·cases hr
theorem closed_small {l2:List ByteArray} {l3:List S68} {st:Int} (h:Fits l2 l3 st) (c:List Itm):(risen (closedL (gr st l3) c)).length≤1562 :=
 Nat.le_trans (nodup_len _ _ (risen_nodup _) (fun x hx=>allI_has _ x (cl_is _ _ _ ((closedL_rise h c).mem x |>.1 hx)))) (allI_len h)
theorem Sg_small {l2:List ByteArray} {l3:List S68} {st:Int} (h:Fits l2 l3 st) (c:List Itm) (s:Int):(Sg (gr st l3) c s).length≤1562∧∀ x ∈ Sg (gr st l3) c s,rngI x:=by
 have hm:∀ x ∈ Sg (gr st l3) c s,∃ y ∈ risen (closedL (gr st l3) c),x=(y.1,y.2+1):=fun x hx=>by
  obtain ⟨y,h1,h2,h3⟩:=(stepL_mem _ _ _ _).1 (((risen_is _).mem x).1 hx)
  exact ⟨y,h1,h3⟩
 refine ⟨?_,fun x hx=>?_⟩
 ·have h1:((Sg (gr st l3) c s).map fun x=>((x.1,x.2 - 1):Itm)).Nodup:=by
   refine List.Pairwise.map _ (fun x y hne e=>hne ?_) (risen_nodup _)
   have e1:=congrArg Prod.fst e
   have e2:=congrArg Prod.snd e
   exact Prod.ext e1 (by simp only at e2;omega)
  have h2:=nodup_len _ _ h1 (fun x hx=>by
   obtain ⟨y,hy,rfl⟩:=List.mem_map.1 hx
   obtain ⟨z,hz,rfl⟩:=hm y hy
   have:(((z.1,z.2+1):Itm).1,((z.1,z.2+1):Itm).2 - 1)=z:=Prod.ext rfl (by show z.2+1 - 1=z.2;omega)
   rw [this];exact hz)
  rw [List.length_map] at h2
  exact Nat.le_trans h2 (closed_small h c)
 ·obtain ⟨y,hy,rfl⟩:=hm x hx
  have:=isI_rng h (cl_is _ _ _ ((closedL_rise h c).mem y |>.1 hy))
  unfold rngI
  simp only
  omega

def symsL (T S:Nat):List Int:=(List.range T).map (fun (i:Nat)=>(i:Int)) ++ (List.range S).map (fun (i:Nat)=>-1 - (i:Int))
theorem symsL_len (T S:Nat):(symsL T S).length=T+S:=by unfold symsL;simp
theorem sy1:∀ (d k S j:Nat) (x:List Int),S - j≤d→j≤S→d < k→S≤1000→x.length+d < 10000→states_symbols.l1 k x (S:Int) (j:Int)=some (x ++ ((List.range S).drop j).map (fun (i:Nat)=>-1 - (i:Int))):=by
 intro d
 induction d with
 | zero =>
  intro k S j x h1 h2 h3 h4 h5
  obtain ⟨k,rfl⟩:∃ m,k=m+1:=⟨k - 1,by omega⟩
  rw [states_symbols.l1,if_neg (by omega)]
  rw [List.drop_eq_nil_of_le (by simp;omega)]
  simp
 | succ d ih =>
  intro k S j x h1 h2 h3 h4 h5
  obtain ⟨k,rfl⟩:∃ m,k=m+1:=⟨k - 1,by omega⟩
  rw [states_symbols.l1]
  by_cases hj:(j:Int) < (S:Int)
  ·rw [if_pos hj,if_pos (by omega),IntWalk.wrap64_in _ (by omega),IntWalk.wrap64_in _ (by omega)]
   have:=ih k S (j+1) (x ++ [-1 - (j:Int)]) (by omega) (by omega) (by omega) h4 (by rw [List.length_append,List.length_singleton];omega)
   rw [show ((j:Int)+1)=((j+1:Nat):Int) by omega,this]
   rw [List.drop_eq_getElem_cons (i:=j) (l:=List.range S) (by simp;omega)]
   simp
  ·rw [if_neg hj]
   rw [List.drop_eq_nil_of_le (by simp;omega)]
   simp
theorem sy0 (l0:List S65) (l1:List S73) (l2:List ByteArray) (l3:List S68) (st:Int) (hT:l0.length≤1000) (hS:l2.length≤1000):∀ (d k j:Nat) (x:List Int),l0.length - j≤d→j≤l0.length→d+l2.length+1 < k→x.length+d < 5000→states_symbols.l0 k x (l0.length:Int) (j:Int) l0 l1 l2 l3 st=some (x ++ ((List.range l0.length).drop j).map (fun (i:Nat)=>(i:Int)) ++ (List.range l2.length).map (fun (i:Nat)=>-1 - (i:Int))):=by
 intro d
 induction d with
 | zero =>
  intro k j x h1 h2 h3 h5
  obtain ⟨k,rfl⟩:∃ m,k=m+1:=⟨k - 1,by omega⟩
  rw [states_symbols.l0,if_neg (by omega)]
  rw [List.drop_eq_nil_of_le (by simp;omega)]
  have:=sy1 l2.length k l2.length 0 x (by omega) (by omega) (by omega) hS (by omega)
  simpa using this
 | succ d ih =>
  intro k j x h1 h2 h3 h5
  obtain ⟨k,rfl⟩:∃ m,k=m+1:=⟨k - 1,by omega⟩
  rw [states_symbols.l0]
  by_cases hj:(j:Int) < (l0.length:Int)
  ·rw [if_pos hj,if_pos (by omega),IntWalk.wrap64_in _ (by omega)]
   have:=ih k (j+1) (x ++ [(j:Int)]) (by omega) (by omega) (by omega) (by rw [List.length_append,List.length_singleton];omega)
   rw [show ((j:Int)+1)=((j+1:Nat):Int) by omega,this]
   rw [List.drop_eq_getElem_cons (i:=j) (l:=List.range l0.length) (by simp;omega)]
   simp
  ·rw [if_neg hj]
   rw [List.drop_eq_nil_of_le (by simp;omega)]
   have:=sy1 l2.length k l2.length 0 x (by omega) (by omega) (by omega) hS (by omega)
   simpa using this
theorem symbols_is (l0:List S65) (l1:List S73) (l2:List ByteArray) (l3:List S68) (st:Int) (hT:l0.length≤60) (hS:l2.length≤60):states_symbols.f 300 l0 l1 l2 l3 st=some (symsL l0.length l2.length):=by
 unfold states_symbols.f symsL
 have:=sy0 l0 l1 l2 l3 st (by omega) (by omega) l0.length 300 0 [] (by omega) (by omega) (by omega) (by simp;omega)
 simpa using this
section
attribute [local go_sem] Oper.semAt_some

def builtL (T S:Nat) (g:Gr):Option (Option (List (List Itm) × List (List Int))):=buildL (Sg g) (symsL T S) 2000 2003 0 [[(-1,0)]] []
def outB:Option (List (List Itm) × List (List Int))→List (List S77) × List (List Int) × Int
 | none=>([],[],4)
 | some (K,N)=>(K.map (·.map ofI),N,0)
def states_Build.f (l0:List S65) (l1:List S73) (l2:List ByteArray) (l3:List S68) (st:Int):Option (List (List S77) × List (List Int) × Int) :=
 if validB l0 l1 l2 l3 st=true then (if l3.all okP=true then (builtL l0.length l2.length (gr st l3)).map outB else none) else some ([],[],1)

structure Bx (T S:Nat) (g:Gr) (R:Option (List (List Itm) × List (List Int))) (n:Nat) (K:List (List Itm)) (N:List (List Int)):Prop where
 run:buildL (Sg g) (symsL T S) 2000 n N.length K N=some R
 few:K.length≤2000
 small:∀ c ∈ K,c.length≤1562∧∀ x ∈ c,rngI x
 rows:N.length≤K.length
 n3:N.length+n≤2003
theorem Bx.start {T S:Nat} {g:Gr} {R:Option (List (List Itm) × List (List Int))} (h:builtL T S g=some R):Bx T S g R 2003 [[(-1,0)]] [] where
 run:=h
 few:=by simp
 small:=fun c hc=>by
  rw [List.mem_singleton] at hc
  subst hc
  refine ⟨by simp,fun x hx=>?_⟩
  rw [List.mem_singleton] at hx
  subst hx
  unfold rngI
  simp only
  omega
 rows:=by simp
 n3:=by simp
structure Rx (f:Int→List Itm) (syms:List Int) (res:List Int × List (List Itm)) (j:Nat) (nums:List Int) (K:List (List Itm)):Prop where
 run1:nums ++ (rowL f (syms.drop j) K).1=res.1
 run2:(rowL f (syms.drop j) K).2=res.2
 few:K.length≤2000+j
 small:∀ c ∈ K,c.length≤1562∧∀ x ∈ c,rngI x
 le:j≤syms.length
 len:nums.length=j
theorem numb_small {K:List (List Itm)} {l:List Itm} (hK:∀ c ∈ K,c.length≤1562∧∀ x ∈ c,rngI x) (hl:l.length≤1562∧∀ x ∈ l,rngI x):(∀ c ∈ (numb K l).2,c.length≤1562∧∀ x ∈ c,rngI x)∧(numb K l).2.length≤K.length+1:=by
 by_cases h:l=[]
 ·have e:numb K l=(-1,K):=by unfold numb;rw [if_pos h]
  rw [e]
  exact ⟨hK,Nat.le_succ _⟩
 ·rcases numb_cases K l h with ⟨j,_,e⟩ | ⟨_,e⟩
  ·rw [e];exact ⟨hK,Nat.le_succ _⟩
  ·rw [e]
   refine ⟨fun c hc=>?_,by simp⟩
   rcases List.mem_append.1 hc with h1 | h1
   ·exact hK c h1
   ·rw [List.mem_singleton] at h1
    subst h1;exact hl
theorem Rx.next {f:Int→List Itm} {syms:List Int} {res:List Int × List (List Itm)} {j:Nat} {nums:List Int} {K:List (List Itm)} (h:Rx f syms res j nums K) (hj:j < syms.length) {s:Int} (hs:Go.Proofs.YtclollnicbcooaaGreatDoorW.PrintWords.rd syms j=s) (hf:(f s).length≤1562∧∀ x ∈ f s,rngI x) :
  Rx f syms res (j+1) (nums ++ [(numb K (f s)).1]) (numb K (f s)).2:=by
 have e:syms.drop j=s :: syms.drop (j+1):=by
  rw [List.drop_eq_getElem_cons hj]
  congr 1
  rw [← hs]
  unfold Go.Proofs.YtclollnicbcooaaGreatDoorW.PrintWords.rd
  rw [Int.toNat_natCast,List.getD_eq_getElem?_getD,List.getElem?_eq_getElem hj]
  rfl
 obtain ⟨h1,h2⟩:=numb_small h.small hf
 refine ⟨?_, ?_,by have:=h.few;omega,h1,hj,by rw [List.length_append,List.length_singleton,h.len]⟩
 ·have:=h.run1
  rw [e,rowL] at this
  rw [← this]
  simp
 ·have:=h.run2
  rw [e,rowL] at this
  exact this
theorem Rx.done {f:Int→List Itm} {syms:List Int} {res:List Int × List (List Itm)} {j:Nat} {nums:List Int} {K:List (List Itm)} (h:Rx f syms res j nums K) (hj:j=syms.length):nums=res.1∧K=res.2:=by
 have h1:=h.run1
 have h2:=h.run2
 rw [hj,List.drop_length] at h1 h2
 rw [rowL] at h1 h2
 rw [List.append_nil] at h1
 exact ⟨h1,h2⟩
theorem Rx.start {T S:Nat} {g:Gr} {R:Option (List (List Itm) × List (List Int))} {n:Nat} {K:List (List Itm)} {N:List (List Int)} (h:Bx T S g R n K N) (f:Int→List Itm) (syms:List Int):Rx f syms (rowL f syms K) 0 [] K where
 run1:=by simp
 run2:=by simp
 few:=h.few
 small:=h.small
 le:=Nat.zero_le _
 len:=rfl
theorem Bx.on {T S:Nat} {g:Gr} {R:Option (List (List Itm) × List (List Int))} {n:Nat} {K:List (List Itm)} {N:List (List Int)} {c:List Itm} (h:Bx T S g R (n+1) K N) (hc:K[N.length]? = some c) {K':List (List Itm)} {nums:List Int} (hr:nums=(rowL (Sg g c) (symsL T S) K).1∧K'=(rowL (Sg g c) (symsL T S) K).2) (hs:∀ c ∈ K',c.length≤1562∧∀ x ∈ c,rngI x) :
  (2000 < K'.length→R=none)∧(¬ 2000 < K'.length→Bx T S g R n K' (N ++ [nums])):=by
 have hr1:=h.run
 rw [buildL,hc] at hr1
 simp only at hr1
 rw [← hr.1,← hr.2] at hr1
 have hn:=h.n3
 constructor
 ·intro hm
  rw [if_pos hm] at hr1
  exact (Option.some.inj hr1).symm
 ·intro hm
  rw [if_neg hm] at hr1
  obtain ⟨M,e,_⟩:=rowL_is (Sg g c) (symsL T S) K
  obtain ⟨hlt,_⟩:=List.getElem?_eq_some_iff.1 hc
  have hl:K.length≤K'.length:=by rw [hr.2,e,List.length_append];omega
  refine ⟨?_,by omega,hs, ?_, ?_⟩
  ·rw [List.length_append,List.length_singleton];exact hr1
  ·rw [List.length_append,List.length_singleton];omega
  ·rw [List.length_append,List.length_singleton];omega
theorem Bx.fine {T S:Nat} {g:Gr} {R:Option (List (List Itm) × List (List Int))} {n:Nat} {K:List (List Itm)} {N:List (List Int)} (h:Bx T S g R (n+1) K N) (hc:K[N.length]? = none):R=some (K,N):=by
 have hr1:=h.run
 rw [buildL,hc] at hr1
 exact (Option.some.inj hr1).symm
theorem Bx.pos {T S:Nat} {g:Gr} {R:Option (List (List Itm) × List (List Int))} {n:Nat} {K:List (List Itm)} {N:List (List Int)} (h:Bx T S g R n K N):∃ m,n=m+1:=by
 cases n with
 | zero=>have:=h.run;cases this
 | succ m=>exact ⟨m,rfl⟩

theorem Bd.start {w W:World} {G:Array Value} (hb:RowKit.Below w.heap.size w W) (bg:W.heap[w.heap.size]? = some (.cells G 27 (0,0))) (br:W.heap[w.heap.size+1]? = some (.cells #[.slice none 0 0,.slice none 0 0] 44 (0,0))) :
  Bd w W.heap.size G [] [] [] (.slice none 0 0) (.slice none 0 0) (fun _=>True) (fun _=>True) (((W.alloc (Obj.cells #[.slice none 0 0,.slice none 0 0] 44)).alloc (Obj.map #[] 0)).alloc (Obj.cells #[.map (some (W.heap.size+1))] 74)) where
 hb:=below_alloc (below_alloc (below_alloc hb _) _) _
 bg:=blk_alloc (blk_alloc (blk_alloc bg _) _) _
 br:=blk_alloc (blk_alloc (blk_alloc br _) _) _
 ba:=blk_alloc (blk_alloc (blk_new W _) _) _
 mp:=by
  have h:=Mp.new Tryz.prog 9 (W.alloc (Obj.cells #[.slice none 0 0,.slice none 0 0] 44))
  rw [World.size_alloc] at h
  exact h.same (Below.block (below_alloc (RowKit.Below.refl _ _) _) _ h.lt)
 bn:=by
  have h:=blk_new ((W.alloc (Obj.cells #[.slice none 0 0,.slice none 0 0] 44)).alloc (Obj.map #[] 0)) (Obj.cells #[.map (some (W.heap.size+1))] 74)
  rw [World.size_alloc,World.size_alloc] at h
  exact h
 ks:=Kd.S_nil _ _ _ _ _
 ns:=Kd.S_nil _ _ _ _ _
 nd:=List.nodup_nil
 hB:=blk_lt br
theorem one_row (W:World) (B:Nat) (hB:B+3≤W.heap.size):Kd.R k77 77 (W.alloc (Obj.cells #[.int .i64 (-1),.int .i64 0] 77)) (B+3) (fun k=>B+3≤k) (.slice (some ⟨W.heap.size,0,none⟩) 1 1) ([((-1,0):Itm)].map ofI):=by
 have h:=R_of_own2 (W:=W.alloc (Obj.cells #[.int .i64 (-1),.int .i64 0] 77)) (base:=B+3) (ok:=fun k=>B+3≤k) (v:=.slice (some ⟨W.heap.size,0,none⟩) 1 1) (l:=[((-1,0):Itm)]) ?_ ?_
 ·exact h
 ·refine ⟨rfl,.inr ⟨W.heap.size,1,_,rfl,hB,blk_new W _, ?_⟩⟩
  exact ⟨by decide,by decide,rfl,by simp [flatC,encI]⟩
 ·intro k hk
  injection hk with hk
  subst hk
  exact hB
section
variable {w:World} {B Bn:Nat} {G:Array Value} {Km K:List (List Itm)} {N:List (List Int)} {vK vN:Value} {okK okN:Nat→Prop} {W W1:World}
theorem Bd.appN (h:Bd w B G Km K N vK vN okK okN W) {N':List (List Int)} {v1:Value} (hs:Kd.S (Kd.slice 3 (Kd.int .i64)) 50 W1 (B+3) (fun k=>B+3≤k) v1 N') (hg:W.grownBy W1 vN.ownBlock):Bd w B G Km K N' vK v1 (fun _=>True) (fun _=>True) (W1.setCell ⟨B,1,none⟩ v1):=by
 have hbase:=Kd.S_base h.ns
 have hB:=h.hB
 have hkeep:∀ k,k < B+3→k < W.heap.size→W1.heap[k]? = W.heap[k]?:=fun k h1 h2=>hg.block k h2 (fun e=>by have:=hbase k e.symm;omega)
 have hsz:=h.size
 have hfar:∀ k,k≠B→(W1.setCell ⟨B,1,none⟩ v1).heap[k]? = W1.heap[k]?:=fun k hk=>Below.heap_setCell W1 ⟨B,1,none⟩ v1 k hk
 refine ⟨below_set (below_grown h.hb hg (fun k hk=>by have:=hbase k hk;omega)) (by show w.heap.size≤B;omega), ?_, ?_, ?_, ?_, ?_, ?_, ?_,h.nd,hB⟩
 ·exact ((hfar _ (by omega)).trans (hkeep _ (by omega) (by omega))).trans h.bg
 ·exact ((hfar _ (by omega)).trans (hkeep _ (by omega) (by omega))).trans h.br
 ·exact blk_put ((hkeep _ (by omega) (by omega)).trans h.ba) 1 _ rfl
 ·exact h.mp.same ((hfar _ (by omega)).trans (hkeep _ (by omega) (by omega)))
 ·exact ((hfar _ (by omega)).trans (hkeep _ (by omega) (by omega))).trans h.bn
 ·exact Kd.S_mono (Kd.S_far (Kd.S_over' h.ks (Kd.S_typed h.ns) (by decide) hg) (fun k hk=>by have:=hk.1;show k≠B;omega) _) (fun k hk=>⟨hk.1,trivial⟩)
 ·exact Kd.S_mono (Kd.S_far hs (fun k hk=>by show k≠B;omega) _) (fun k hk=>⟨hk,trivial⟩)
theorem Bd.other (h:Bd w B G Km K N vK vN okK (fun k=>k < Bn) W) {v:Value} (hty:∀ k,v.ownBlock=some k→∃ cells,W.heap[k]? = some (.cells cells 3 (0,0))) (hbs:∀ k,v.ownBlock=some k→Bn≤k) (hBn:B+3≤Bn) (hg:W.grownBy W1 v.ownBlock):Bd w B G Km K N vK vN okK (fun k=>k < Bn) W1:=by
 have hB:=h.hB
 have hsz:=h.size
 have hkeep:∀ k,k < B+3→W1.heap[k]? = W.heap[k]?:=fun k h1=>hg.block k (by omega) (fun e=>by have:=hbs k e.symm;omega)
 refine ⟨below_grown h.hb hg (fun k hk=>by have:=hbs k hk;omega), ?_, ?_, ?_, ?_, ?_, ?_, ?_,h.nd,hB⟩
 ·exact (hkeep _ (by omega)).trans h.bg
 ·exact (hkeep _ (by omega)).trans h.br
 ·exact (hkeep _ (by omega)).trans h.ba
 ·exact h.mp.same (hkeep _ (by omega))
 ·exact (hkeep _ (by omega)).trans h.bn
 ·exact Kd.S_over' h.ks hty (by decide) hg
 ·exact Kd.S_grown h.ns hg (fun k hk e=>by have:=hbs k e.symm;have:=hk.2;omega)
theorem Bd.later (h:Bd w B G Km K N vK vN okK okN W):Bd w B G Km K N vK vN okK (fun k=>k < W.heap.size) W :=
 ⟨h.hb,h.bg,h.br,h.ba,h.mp,h.bn,h.ks,Kd.S_mono (Kd.S_bound h.ns) (fun k hk=>⟨hk.1.1,hk.2.2.1⟩),h.nd,h.hB⟩
theorem Bd.apart (h:Bd w B G Km K N vK vN okK okN W) (hb:RowKit.Below W.heap.size W W1) {v:Value} (hbase:∀ k,v.ownBlock=some k→W.heap.size≤k):Bd w B G Km K N vK vN (fun k=>some k≠v.ownBlock) okN W1:=by
 have h1:=h.below hb
 exact ⟨h1.hb,h1.bg,h1.br,h1.ba,h1.mp,h1.bn,Kd.S_mono (Kd.S_elder' h.ks hbase hb) (fun k hk=>⟨hk.1.1,hk.2⟩),h1.ns,h1.nd,h1.hB⟩
theorem R_up {α:Type} {d:Kd α} {e b:Nat} {ok:Nat→Prop} {v:Value} {xs:List α} (h:d.R e W b ok v xs) (hb:B+3≤b):d.R e W (B+3) (fun k=>B+3≤k) v xs :=
 Kd.R_mono (Kd.R_lower (Kd.R_bound h) hb) (fun k hk=>Nat.le_trans hb hk.2.1)
theorem R_numb {α:Type} {d:Kd α} {e b:Nat} {ok:Nat→Prop} {v:Value} {xs:List α} (h:d.R e W b ok v xs) (hK:∀ k,vK.ownBlock=some k→∃ cells,W.heap[k]? = some (.cells cells 75 (0,0))) (ht:∀ q,q ∈ e :: d.E→q≠75) (hb:B+3≤b) (hk:∀ k,k < W.heap.size→B+3≤k→some k≠vK.ownBlock→W1.heap[k]? = W.heap[k]?):d.R e W1 b ok v xs:=by
 refine Kd.R_mono (Kd.R_move (Kd.R_bound h) (fun k hh=>?_)) (fun k hh=>hh.1)
 obtain ⟨_,h1,h2,q,hq,cells,hc⟩:=hh
 refine hk k h2 (by omega) (fun e'=>?_)
 obtain ⟨cells',hc'⟩:=hK k e'.symm
 rw [hc] at hc'
 injection hc' with hc'
 injection hc' with _ hc'
 exact ht q hq hc'
theorem kernel_at (h:Bd w B G Km K N vK vN okK okN W) {i:Nat} {c:List Itm} (hc:K[i]? = some c):∃ (ad:Addr) (n:Nat) (A:Option Addr) (cc:Nat),vK=.slice (some ad) K.length n∧W.cell? (ad.add i)=some (.slice A c.length cc)∧c.length≤cc∧Kd.C k77 W A c.length (c.map ofI):=by
 obtain ⟨A0,n,e,hn,hC⟩:=Kd.S_reads h.ks
 obtain ⟨hlt,_⟩:=List.getElem?_eq_some_iff.1 hc
 rw [List.length_map] at hC e
 obtain ⟨ad,cs,e1,hcl,hK,hcc⟩:=Kd.C_get hC [] (i:Int) (by omega) (by omega)
 have e3:(K.map (·.map ofI)).getD (i:Int).toNat []=c.map ofI:=by
  rw [Int.toNat_natCast,List.getD_eq_getElem?_getD,List.getElem?_map,hc]
  rfl
 rw [e3] at hK
 obtain ⟨A,cc,e2,hle,hR⟩:=hK
 rw [List.length_map] at e2 hle hR
 have h3:=hcc 0 (.slice A c.length cc) (by rw [e2];rfl)
 refine ⟨ad,n,A,cc,by rw [e,e1], ?_,hle,hR⟩
 rw [← h3]
 congr 2
 first | rfl | (show i=(i:Int).toNat * 1+0;omega) | simp
end
theorem closed_is {l0:List S65} {l1:List S73} {l2:List ByteArray} {l3:List S68} {st:Int} (hv:validB l0 l1 l2 l3 st=true) (hp:l3.all okP=true) {c:List Itm} (hc:c.length≤1562∧∀ x ∈ c,rngI x):states_closed.f l0 l1 l2 l3 st (c.map ofI)=some ((risen (closedL (gr st l3) c)).map ofI):=by
 unfold states_closed.f
 rw [if_pos,map_toI_ofI]
 refine ⟨hv,hp,by rw [List.length_map];omega,List.all_eq_true.2 (fun x hx=>?_)⟩
 obtain ⟨y,hy,rfl⟩:=List.mem_map.1 hx
 have:=hc.2 y hy
 unfold okI
 exact decide_eq_true this
theorem step_is {l0:List S65} {l1:List S73} {l2:List ByteArray} {l3:List S68} {st:Int} (hv:validB l0 l1 l2 l3 st=true) (c:List Itm) (s:Int):states_step.f l0 l1 l2 l3 st ((risen (closedL (gr st l3) c)).map ofI) s=some ((Sg (gr st l3) c s).map ofI):=by
 unfold states_step.f
 rw [if_pos,map_toI_ofI]
 ·rfl
 ·refine ⟨hv, ?_⟩
  rw [List.length_map]
  have:=closed_small (fits_of hv) c
  omega

theorem terms_few {l0:List S65} {l1:List S73} {l2:List ByteArray} {l3:List S68} {st:Int} (h:validB l0 l1 l2 l3 st=true):l0.length≤60:=by
 unfold validB at h
 simp only [Bool.and_eq_true,Bool.not_eq_true',decide_eq_false_iff_not,inB,decide_eq_true_eq] at h
 omega
set_option maxHeartbeats 4000000 in
set_option maxRecDepth 100000 in
theorem build_bad (A0:Option Addr) (c0:Nat) (l0:List S65) (A1:Option Addr) (c1:Nat) (l1:List S73) (A2:Option Addr) (c2:Nat) (l2:List ByteArray) (A3:Option Addr) (c3:Nat) (l3:List S68) (st:Int) (w:World)
  (hr0:Kd.C k65 w A0 l0.length l0) (hc0:l0.length≤c0) (hr1:Kd.C k73 w A1 l1.length l1) (hc1:l1.length≤c1) (hr2:Kd.C Kd.string w A2 l2.length l2) (hc2:l2.length≤c2) (hr3:Kd.C k68 w A3 l3.length l3) (hc3:l3.length≤c3) (hv:validB l0 l1 l2 l3 st=false) :
  Calls Tryz.prog 14 #[.agg #[.slice A0 l0.length c0,.slice A1 l1.length c1,.slice A2 l2.length c2,.slice A3 l3.length c3,.int .i64 st]] w fun e w'=>e=.returned (.tuple #[.agg #[.slice none 0 0,.slice none 0 0],.int .i64 1])∧RowKit.Below w.heap.size w w':=by
 have HR0:=jM hr0
 have HR1:=jM hr1
 have HR2:=jM hr2
 have HR3:=jM hr3
 have HC0:=jM hc0
 have HC1:=jM hc1
 have HC2:=jM hc2
 have HC3:=jM hc3
 have HV:=jM (show inst_Valid.f l0 l1 l2 l3 st=some false by unfold inst_Valid.f;rw [hv])
 clear hr0 hr1 hr2 hr3 hc0 hc1 hc2 hc3 hv
 have hu27:=Tryz.underlying27
 have hu44:=Tryz.underlying44
 go_enter Tryz.func14,Tryz.ntmps14
 go_upto_region 1 with fail
 have BG:=jM (blk_alloc (blk_new w (Obj.cells #[.slice A0 l0.length c0,.slice A1 l1.length c1,.slice A2 l2.length c2,.slice A3 l3.length c3,.int .i64 st] 27)) (Obj.cells #[.slice none 0 0,.slice none 0 0] 44))
 have BR:=jM (show ((w.alloc (Obj.cells #[.slice A0 l0.length c0,.slice A1 l1.length c1,.slice A2 l2.length c2,.slice A3 l3.length c3,.int .i64 st] 27)).alloc (Obj.cells #[.slice none 0 0,.slice none 0 0] 44)).heap[w.heap.size+1]? = some (.cells #[.slice none 0 0,.slice none 0 0] 44 (0,0)) by have h:=blk_new (w.alloc (Obj.cells #[.slice A0 l0.length c0,.slice A1 l1.length c1,.slice A2 l2.length c2,.slice A3 l3.length c3,.int .i64 st] 27)) (Obj.cells #[.slice none 0 0,.slice none 0 0] 44);rw [World.size_alloc] at h;exact h)
 have HB:=jM (below_alloc (below_alloc (RowKit.Below.refl w.heap.size w) (Obj.cells #[.slice A0 l0.length c0,.slice A1 l1.length c1,.slice A2 l2.length c2,.slice A3 l3.length c3,.int .i64 st] 27)) (Obj.cells #[.slice none 0 0,.slice none 0 0] 44))
 generalize (w.alloc (Obj.cells #[.slice A0 l0.length c0,.slice A1 l1.length c1,.slice A2 l2.length c2,.slice A3 l3.length c3,.int .i64 st] 27)).alloc (Obj.cells #[.slice none 0 0,.slice none 0 0] 44)=w1 at *
 obtain ⟨z0,z1,z2,z3,z4⟩:=five5 BG.out
 go_upto_region 2 with (go_at_call 27;(with_reducible refine (inst_Valid.calls _ _ l0 _ _ l1 _ _ l2 _ _ l3 st false w1 (Kd.C_below HR0.out HB.out) HC0.out (Kd.C_below HR1.out HB.out) HC1.out (Kd.C_below HR2.out HB.out) HC2.out (Kd.C_below HR3.out HB.out) HC3.out HV.out).mono ?_);rintro e w2 ⟨rfl,hb⟩;have HB2:=jM (below_step HB.out hb);have BR2:=jM (blk_below BR.out hb);clear hb)
 clear z0 z1 z2 z3 z4
 have y0:w2.cell? ⟨w.heap.size+1,0,none⟩=some (.slice none 0 0):=blk_cell BR2.out 0
 have y1:w2.cell? ⟨w.heap.size+1,1,none⟩=some (.slice none 0 0):=blk_cell BR2.out 1
 have f2:=blk_frozen BR2.out 0
 have f3:=blk_frozen BR2.out 1
 go_wp2
 refine bodyPost_ret (results_ct rfl _ _ (w.heap.size+1) 44 #[.slice none 0 0,.slice none 0 0] (0,0) _ rfl (blk_put (blk_put BR2.out 0 _ rfl) 1 _ rfl) Tryz.underlying44 rfl (by kernel_rfl)) rfl ⟨rfl, ?_⟩
 exact below_set (below_set HB2.out (Nat.le_succ _)) (Nat.le_succ _)
set_option maxHeartbeats 16000000 in
set_option maxRecDepth 100000 in
theorem build_good (A0:Option Addr) (c0:Nat) (l0:List S65) (A1:Option Addr) (c1:Nat) (l1:List S73) (A2:Option Addr) (c2:Nat) (l2:List ByteArray) (A3:Option Addr) (c3:Nat) (l3:List S68) (st:Int) (R:Option (List (List Itm) × List (List Int))) (w:World) (hG:GTab w)
  (hr0:Kd.C k65 w A0 l0.length l0) (hc0:l0.length≤c0) (hr1:Kd.C k73 w A1 l1.length l1) (hc1:l1.length≤c1) (hr2:Kd.C Kd.string w A2 l2.length l2) (hc2:l2.length≤c2) (hr3:Kd.C k68 w A3 l3.length l3) (hc3:l3.length≤c3) (hv:validB l0 l1 l2 l3 st=true) (hp:l3.all okP=true) (h:builtL l0.length l2.length (gr st l3)=some R) :
  Calls Tryz.prog 14 #[.agg #[.slice A0 l0.length c0,.slice A1 l1.length c1,.slice A2 l2.length c2,.slice A3 l3.length c3,.int .i64 st]] w fun e w'=>∃ v0_ v1_:Value,e=.returned (.tuple #[.agg #[v0_,v1_],.int .i64 (outB R).2.2])∧Kd.S (Kd.slice 77 k77) 75 w' w.heap.size (fun _=>True) v0_ (outB R).1∧Kd.S (Kd.slice 3 (Kd.int .i64)) 50 w' w.heap.size (fun _=>True) v1_ (outB R).2.1∧RowKit.Below w.heap.size w w':=by
 have HR0:=jM hr0
 have HR1:=jM hr1
 have HR2:=jM hr2
 have HR3:=jM hr3
 have HC0:=jM hc0
 have HC1:=jM hc1
 have HC2:=jM hc2
 have HC3:=jM hc3
 have HG:=jM hG
 have HVB:=jM hv
 have HPB:=jM hp
 have HX:=jM (Bx.start h)
 have HV:=jM (show inst_Valid.f l0 l1 l2 l3 st=some true by unfold inst_Valid.f;rw [hv])
 clear hr0 hr1 hr2 hr3 hc0 hc1 hc2 hc3 hv hG hp h
 have hu27:=Tryz.underlying27
 have hu75:=Tryz.underlying75
 have hu77:=Tryz.underlying77
 have hu44:=Tryz.underlying44
 have hmm:=@run_makeMap Tryz.prog
 have hmf:∀ (fn:Fn) (first cap:Array Value) (w:World),(Instr.makeFunc fn first cap).run Tryz.prog w=.ok (.func fn first cap) w:=fun _ _ _ _=>rfl
 go_enter Tryz.func14,Tryz.ntmps14
 go_upto_region 1 with fail
 have BG:=jM (blk_alloc (blk_new w (Obj.cells #[.slice A0 l0.length c0,.slice A1 l1.length c1,.slice A2 l2.length c2,.slice A3 l3.length c3,.int .i64 st] 27)) (Obj.cells #[.slice none 0 0,.slice none 0 0] 44))
 have BR:=jM (show ((w.alloc (Obj.cells #[.slice A0 l0.length c0,.slice A1 l1.length c1,.slice A2 l2.length c2,.slice A3 l3.length c3,.int .i64 st] 27)).alloc (Obj.cells #[.slice none 0 0,.slice none 0 0] 44)).heap[w.heap.size+1]? = some (.cells #[.slice none 0 0,.slice none 0 0] 44 (0,0)) by have h:=blk_new (w.alloc (Obj.cells #[.slice A0 l0.length c0,.slice A1 l1.length c1,.slice A2 l2.length c2,.slice A3 l3.length c3,.int .i64 st] 27)) (Obj.cells #[.slice none 0 0,.slice none 0 0] 44);rw [World.size_alloc] at h;exact h)
 have HB:=jM (below_alloc (below_alloc (RowKit.Below.refl w.heap.size w) (Obj.cells #[.slice A0 l0.length c0,.slice A1 l1.length c1,.slice A2 l2.length c2,.slice A3 l3.length c3,.int .i64 st] 27)) (Obj.cells #[.slice none 0 0,.slice none 0 0] 44))
 generalize (w.alloc (Obj.cells #[.slice A0 l0.length c0,.slice A1 l1.length c1,.slice A2 l2.length c2,.slice A3 l3.length c3,.int .i64 st] 27)).alloc (Obj.cells #[.slice none 0 0,.slice none 0 0] 44)=w1 at *
 obtain ⟨z0,z1,z2,z3,z4⟩:=five5 BG.out
 go_upto_region 3 with (go_at_call 27;(with_reducible refine (inst_Valid.calls _ _ l0 _ _ l1 _ _ l2 _ _ l3 st true w1 (Kd.C_below HR0.out HB.out) HC0.out (Kd.C_below HR1.out HB.out) HC1.out (Kd.C_below HR2.out HB.out) HC2.out (Kd.C_below HR3.out HB.out) HC3.out HV.out).mono ?_);rintro e w2 ⟨rfl,hb⟩;have HB2:=jM (below_step HB.out hb);have BG2:=jM (blk_below BG.out hb);have BR2:=jM (blk_below BR.out hb);clear hb)
 clear z0 z1 z2 z3 z4 HB BG BR
 have H0:=jM (Bd.start HB2.out BG2.out BR2.out)
 have HS3:=jM (show (((w2.alloc (Obj.cells #[.slice none 0 0,.slice none 0 0] 44)).alloc (Obj.map #[] 0)).alloc (Obj.cells #[.map (some (w2.heap.size+1))] 74)).heap.size=w2.heap.size+3 by simp)
 go_upto_region 6 with fail
 rw [show w2.heap.size+1+1=w2.heap.size+2 from rfl]
 generalize ((w2.alloc (Obj.cells #[.slice none 0 0,.slice none 0 0] 44)).alloc (Obj.map #[] 0)).alloc (Obj.cells #[.map (some (w2.heap.size+1))] 74)=W3 at *
 generalize w2.heap.size=B at *
 have hsz3:=HS3.out
 have hnum:=number_calls (w:=w) (W:=W3.alloc (Obj.cells #[.int .i64 (-1),.int .i64 0] 77)) (B:=B) (G:=#[.slice A0 l0.length c0,.slice A1 l1.length c1,.slice A2 l2.length c2,.slice A3 l3.length c3,.int .i64 st]) (K:=[]) (N:=[]) (vK:=.slice none 0 0) (vN:=.slice none 0 0) (vl:=.slice (some ⟨W3.heap.size,0,none⟩) 1 1) (l:=[((-1,0):Itm)]) (okN:=fun _=>True) HG.out (Bd.apart H0.out (below_alloc (RowKit.Below.refl _ _) _) (fun k hk=>by injection hk with hk;exact Nat.le_of_eq hk)) (one_row W3 B (by omega)) (HX.out.small _ (List.mem_singleton.2 rfl)).2 (by simp) (by simp)
 rw [show numb [] [((-1,0):Itm)]=(0,[[(-1,0)]]) from rfl,hsz3] at hnum
 clear BG2 BR2 HB2 H0 HS3
 go_upto_region 7 with (go_at_call 28;(with_reducible refine hnum.mono ?_);rintro e w4 ⟨rfl,vK4,hd,hsz,hk⟩;have H4:=jM hd;clear hd hsz hk)
 clear hnum hsz3
 go_wp2_with fail
 refine wp_loop_num (fun n a W=>∃ (vK vN:Value) (K:List (List Itm)) (N:List (List Int)) (u8 u9 u10 u11 u12 u13 u14 u15 u16 u17 u18 u19 u20 u21 u22 u23 u24 u25 u26 u27 u28 u29 u30 u31 u32 u33 u34 u35 u36 u37 u38 u39 u40 u41 u42 u43 u44 u45 u46 u47 u48 u49 u50 u51 u52 u53 u54 u55 u56 u57 u58 u59 u60 u61 u62 u63 u64:Value),a={ tmps:=#[.agg #[.slice A0 l0.length c0,.slice A1 l1.length c1,.slice A2 l2.length c2,.slice A3 l3.length c3,.int .i64 st],.pointer (some ⟨w.heap.size,0,none⟩),.pointer (some ⟨w.heap.size+1,0,none⟩),.int .i64 0,.pointer (some ⟨B,0,none⟩),.pointer (some ⟨B+2,0,none⟩),.func (.func 28) #[] #[.pointer (some ⟨B+2,0,none⟩),.pointer (some ⟨B,0,none⟩)],.int .i64 N.length,u8,u9,u10,u11,u12,u13,u14,u15,u16,u17,u18,u19,u20,u21,u22,u23,u24,u25,u26,u27,u28,u29,u30,u31,u32,u33,u34,u35,u36,u37,u38,u39,u40,u41,u42,u43,u44,u45,u46,u47,u48,u49,u50,u51,u52,u53,u54,u55,u56,u57,u58,u59,u60,u61,u62,u63,u64],defers:=[] }∧Aside0 (Bx l0.length l2.length (gr st l3) R n K N)∧Aside0 (Bd w B #[.slice A0 l0.length c0,.slice A1 l1.length c1,.slice A2 l2.length c2,.slice A3 l3.length c3,.int .i64 st] K K N vK vN (fun _=>True) (fun _=>True) W)) 2003 ⟨_,_,_,_,_,_,_,_,_,_,_,_,_,_,_,_,_,_,_,_,_,_,_,_,_,_,_,_,_,_,_,_,_,_,_,_,_,_,_,_,_,_,_,_,_,_,_,_,_,_,_,_,_,_,_,_,_,_,_,_,_,rfl,HX,H4⟩ ?_
 clear HX H4
 rintro n a W ⟨vK,vN,K,N,u8,u9,u10,u11,u12,u13,u14,u15,u16,u17,u18,u19,u20,u21,u22,u23,u24,u25,u26,u27,u28,u29,u30,u31,u32,u33,u34,u35,u36,u37,u38,u39,u40,u41,u42,u43,u44,u45,u46,u47,u48,u49,u50,u51,u52,u53,u54,u55,u56,u57,u58,u59,u60,u61,u62,u63,u64,rfl,HX,HI⟩
 obtain ⟨n,rfl⟩:=HX.out.pos
 obtain ⟨AK,cK,eK⟩:=Kd.S_slice HI.out.ks
 obtain ⟨AN,cN,eN⟩:=Kd.S_slice HI.out.ns
 subst eK
 subst eN
 rw [List.length_map] at HI
 have a0:W.cell? ⟨B,0,none⟩=some (.slice AK K.length cK):=blk_cell HI.out.ba 0
 cases hc:K[N.length]? with
 | none =>
  have hle:=List.getElem?_eq_none_iff.1 hc
  have hltb:decide (N.length < K.length)=false:=decide_eq_false (by omega)
  have HRR:=jM (HX.out.fine hc)
  have a1:W.cell? ⟨B,1,none⟩=some (.slice AN N.length cN):=blk_cell HI.out.ba 1
  have y0:W.cell? ⟨w.heap.size+1,0,none⟩=some (.slice none 0 0):=blk_cell HI.out.br 0
  have y1:W.cell? ⟨w.heap.size+1,1,none⟩=some (.slice none 0 0):=blk_cell HI.out.br 1
  have f2:=blk_frozen HI.out.br 0
  have f3:=blk_frozen HI.out.br 1
  clear hle hc
  go_wp2
  refine bodyPost_ret (results_ct rfl _ _ (w.heap.size+1) 44 #[.slice AK K.length cK,.slice AN N.length cN] (0,0) _ rfl (blk_put (blk_put HI.out.br 0 _ rfl) 1 _ rfl) Tryz.underlying44 rfl (by kernel_rfl)) rfl ?_
  rw [HRR.out]
  have hB:=HI.out.hB
  refine ⟨_,_,rfl, ?_, ?_, ?_⟩
  ·exact Kd.S_mono (Kd.S_lower (Kd.S_far (Kd.S_far HI.out.ks (fun k hk=>by have:=hk.1;show k≠w.heap.size+1;omega) _) (fun k hk=>by have:=hk.1;show k≠w.heap.size+1;omega) _) (by omega)) (fun _ _=>trivial)
  ·exact Kd.S_mono (Kd.S_lower (Kd.S_far (Kd.S_far HI.out.ns (fun k hk=>by have:=hk.1;show k≠w.heap.size+1;omega) _) (fun k hk=>by have:=hk.1;show k≠w.heap.size+1;omega) _) (by omega)) (fun _ _=>trivial)
  ·exact below_set (below_set HI.out.hb (Nat.le_succ _)) (Nat.le_succ _)
 | some c =>
  obtain ⟨ad,nK,A,cc,eK2,hcell,hcc,hC⟩:=kernel_at HI.out hc
  injection eK2 with e1 e2 e3
  subst e1
  subst e3
  obtain ⟨hlt, -⟩:=List.getElem?_eq_some_iff.1 hc
  have hltb:decide (N.length < K.length)=true:=decide_eq_true (by omega)
  have hsm:=HX.out.small c (List.mem_of_getElem? hc)
  obtain ⟨all,hall⟩:∃ all,all=risen (closedL (gr st l3) c):=⟨_,rfl⟩
  have hcl:=closed_is HVB.out HPB.out hsm
  rw [← hall] at hcl
  have HALL:=jM hall
  have HCALL:Aside0 (∀ W',RowKit.Below W.heap.size W W'→Calls Tryz.prog 30 #[.agg #[.slice A0 l0.length c0,.slice A1 l1.length c1,.slice A2 l2.length c2,.slice A3 l3.length c3,.int .i64 st],.slice A c.length cc] W' fun e w'=>∃ A8 c8,e=.returned (.slice A8 all.length c8)∧Aside0 (Kd.R k77 77 w' (B+3) (fun k=>B+3≤k) (.slice A8 all.length c8) (all.map ofI))∧Aside0 (RowKit.Below W.heap.size W w')):=⟨fun W' hb=>by
   have hq:=states_closed.calls A0 c0 l0 A1 c1 l1 A2 c2 l2 A3 c3 l3 st A cc (c.map ofI) (all.map ofI) W' (Kd.C_below HR0.out (below_step HI.out.hb hb)) HC0.out (Kd.C_below HR1.out (below_step HI.out.hb hb)) HC1.out (Kd.C_below HR2.out (below_step HI.out.hb hb)) HC2.out (Kd.C_below HR3.out (below_step HI.out.hb hb)) HC3.out (by rw [List.length_map];exact Kd.C_below hC hb) (by rw [List.length_map];exact hcc) hcl
   rw [List.length_map] at hq
   refine hq.mono ?_
   rintro e w' ⟨v,rfl,hR,hb2⟩
   obtain ⟨A8,c8,rfl⟩:=Kd.R_slice hR
   rw [List.length_map] at hR ⊢
   exact ⟨A8,c8,rfl,⟨R_up hR (Nat.le_trans HI.out.size hb.size)⟩,⟨below_step hb hb2⟩⟩⟩
  obtain ⟨z0,z1,z2,z3,z4⟩:=five5 HI.out.bg
  have HCC:=jM hc
  have HSM:=jM hsm
  clear hcl hall hC hcc hc hsm e2
  go_upto_region 10 with fail
  obtain ⟨K9,hK9⟩:∃ K9:Act→World→Prop,K9=(fun a W'=>∃ (A8:Option Addr) (c8:Nat) (u9 u10 u11 u12 u13 u14 u15 u16 u17 u18 u19 u20 u21 u22 u23 u24 u25 u26 u27 u28 u29 u30 u31 u32 u33 u34 u35 u36 u37 u38 u39 u40 u41 u42 u43 u44 u45 u46 u47 u48 u49 u50 u51 u52 u53 u54 u55 u56 u57 u58 u59 u60 u61 u62 u63 u64:Value),a={ tmps:=#[.agg #[.slice A0 l0.length c0,.slice A1 l1.length c1,.slice A2 l2.length c2,.slice A3 l3.length c3,.int .i64 st],.pointer (some ⟨w.heap.size,0,none⟩),.pointer (some ⟨w.heap.size+1,0,none⟩),.int .i64 0,.pointer (some ⟨B,0,none⟩),.pointer (some ⟨B+2,0,none⟩),.func (.func 28) #[] #[.pointer (some ⟨B+2,0,none⟩),.pointer (some ⟨B,0,none⟩)],.int .i64 N.length,.slice A8 all.length c8,u9,u10,u11,u12,u13,u14,u15,u16,u17,u18,u19,u20,u21,u22,u23,u24,u25,u26,u27,u28,u29,u30,u31,u32,u33,u34,u35,u36,u37,u38,u39,u40,u41,u42,u43,u44,u45,u46,u47,u48,u49,u50,u51,u52,u53,u54,u55,u56,u57,u58,u59,u60,u61,u62,u63,u64],defers:=[] }∧Aside0 (RowKit.Below W.heap.size W W')∧Aside0 (Kd.R k77 77 W' (B+3) (fun k=>B+3≤k) (.slice A8 all.length c8) (all.map ofI))):=⟨_,rfl⟩
  have HK9:=jM hK9
  clear hK9
  refine Code.wp_mono (Q:=Exit.then K9 (fun _ _ _=>False)) ?post ?reg
  case reg =>
   go_region_with (go_at_call 30;(with_reducible refine (HCALL.out _ (by repeat (first | exact RowKit.Below.refl _ _ | apply below_drew1 | apply pw_below_drewN))).mono ?_);rintro e w5 ⟨A8,c8,rfl,HR8,HB8⟩)
   all_goals (show K9 _ _;rw [HK9.out];exact ⟨_,_,_,_,_,_,_,_,_,_,_,_,_,_,_,_,_,_,_,_,_,_,_,_,_,_,_,_,_,_,_,_,_,_,_,_,_,_,_,_,_,_,_,_,_,_,_,_,_,_,_,_,_,_,_,_,_,_,rfl,⟨by repeat (first | exact HB8.out | apply below_drew1 | apply pw_below_drewN)⟩,⟨by repeat (first | exact HR8.out | apply Kd.R_drew | refine Kd.R_drewN ?_ _)⟩⟩)
  case post =>
   clear z0 z1 z2 z3 z4 hcell HCALL a0 hlt hltb
   intro e a' W1 he
   cases e with
   | normal =>
    replace he:K9 a' W1:=he
    rw [HK9.out] at he
    obtain ⟨A8,c8,u9,u10,u11,u12,u13,u14,u15,u16,u17,u18,u19,u20,u21,u22,u23,u24,u25,u26,u27,u28,u29,u30,u31,u32,u33,u34,u35,u36,u37,u38,u39,u40,u41,u42,u43,u44,u45,u46,u47,u48,u49,u50,u51,u52,u53,u54,u55,u56,u57,u58,u59,u60,u61,u62,u63,u64,rfl,HB9,HA9⟩:=he
    clear HK9
    have HI9:=jM (HI.out.below HB9.out)
    clear HI HB9
    obtain ⟨z0,z1,z2,z3,z4⟩:=five5 HI9.out.bg
    obtain ⟨syms,hsyms⟩:∃ s,s=symsL l0.length l2.length:=⟨_,rfl⟩
    have hsy:=symbols_is l0 l1 l2 l3 st (terms_few HVB.out) (fits_of HVB.out).sorts
    have hsl:syms.length≤120:=by rw [hsyms,symsL_len];have:=terms_few HVB.out;have:=(fits_of HVB.out).sorts;omega
    rw [← hsyms] at hsy
    have HSY:=jM hsyms
    have HSL:=jM hsl
    clear hsyms hsl
    go_wp2_with (go_at_call 31;(with_reducible refine (states_symbols.calls 300 _ _ l0 _ _ l1 _ _ l2 _ _ l3 st syms W1 (Kd.C_below HR0.out HI9.out.hb) HC0.out (Kd.C_below HR1.out HI9.out.hb) HC1.out (Kd.C_below HR2.out HI9.out.hb) HC2.out (Kd.C_below HR3.out HI9.out.hb) HC3.out hsy).mono ?_);rintro e w10 ⟨v7,rfl,hR7,hb7⟩;obtain ⟨A7,c7,e7⟩:=Kd.R_slice hR7;subst e7;have HS10:=jM (R_up hR7 HI9.out.size);have HB10:=jM hb7;clear hR7 hb7)
    clear z0 z1 z2 z3 z4 hsy
    have HJ10:=jM (Bd.later (HI9.out.below HB10.out))
    have HA10:=jM (Kd.R_below HA9.out HB10.out)
    have HBn:=jM HJ10.out.size
    obtain ⟨Bn,hBn⟩:∃ b,b=w10.heap.size:=⟨_,rfl⟩
    have HLE:=jM (Nat.le_of_eq hBn)
    rw [← hBn] at HBn HJ10
    clear HI9 HA9 HB10 hBn
    refine wp_loop_num (fun n2 a W'=>∃ (j:Nat) (v9 vK':Value) (nums:List Int) (K':List (List Itm)) (u10 u11 u12 u13 u14 u15 u16 u17 u18 u19 u20 u21 u22 u23 u24 u25 u26 u27 u28 u29 u30 u31 u32 u33 u34 u35 u36 u40 u41 u42 u43 u44 u45 u46 u47 u48 u49 u50 u51 u52 u53 u54 u55 u56 u57 u58 u59 u60 u61 u62 u63 u64:Value),a={ tmps:=#[.agg #[.slice A0 l0.length c0,.slice A1 l1.length c1,.slice A2 l2.length c2,.slice A3 l3.length c3,.int .i64 st],.pointer (some ⟨w.heap.size,0,none⟩),.pointer (some ⟨w.heap.size+1,0,none⟩),.int .i64 0,.pointer (some ⟨B,0,none⟩),.pointer (some ⟨B+2,0,none⟩),.func (.func 28) #[] #[.pointer (some ⟨B+2,0,none⟩),.pointer (some ⟨B,0,none⟩)],.int .i64 N.length,.slice A8 all.length c8,v9,u10,u11,u12,u13,u14,u15,u16,u17,u18,u19,u20,u21,u22,u23,u24,u25,u26,u27,u28,u29,u30,u31,u32,u33,u34,u35,u36,.slice A7 syms.length c7,.int .i64 syms.length,.int .i64 j,u40,u41,u42,u43,u44,u45,u46,u47,u48,u49,u50,u51,u52,u53,u54,u55,u56,u57,u58,u59,u60,u61,u62,u63,u64],defers:=[] }∧n2=syms.length - j∧Aside0 (Rx (Sg (gr st l3) c) syms (rowL (Sg (gr st l3) c) syms K) j nums K')∧Aside0 (Bd w B #[.slice A0 l0.length c0,.slice A1 l1.length c1,.slice A2 l2.length c2,.slice A3 l3.length c3,.int .i64 st] K' K' N vK' (.slice AN N.length cN) (fun _=>True) (fun k=>k < Bn) W')∧Aside0 (Kd.R k77 77 W' (B+3) (fun k=>B+3≤k) (.slice A8 all.length c8) (all.map ofI))∧Aside0 (Kd.R (Kd.int .i64) 56 W' (B+3) (fun k=>B+3≤k) (.slice A7 syms.length c7) syms)∧Aside0 (Kd.R (Kd.int .i64) 3 W' Bn (fun k=>Bn≤k) v9 nums)∧Aside0 (Bn≤W'.heap.size)) syms.length ⟨0,_,_,[],K,_,_,_,_,_,_,_,_,_,_,_,_,_,_,_,_,_,_,_,_,_,_,_,_,_,_,_,_,_,_,_,_,_,_,_,_,_,_,_,_,_,_,_,_,_,_,_,_,_,_,_,_,rfl,by omega,⟨Rx.start HX.out _ _⟩,HJ10,HA10,HS10,⟨Kd.R_nil _ _ _ _ _⟩,HLE⟩ ?_
    clear HJ10 HA10 HS10 HLE
    rintro n2 a W' ⟨j,v9,vK',nums,K',u10,u11,u12,u13,u14,u15,u16,u17,u18,u19,u20,u21,u22,u23,u24,u25,u26,u27,u28,u29,u30,u31,u32,u33,u34,u35,u36,u40,u41,u42,u43,u44,u45,u46,u47,u48,u49,u50,u51,u52,u53,u54,u55,u56,u57,u58,u59,u60,u61,u62,u63,u64,rfl,hn2,HRX,HJ,HA,HS,HN,HBN⟩
    by_cases hj:j < syms.length
    ·have hjb:decide (j < syms.length)=true:=decide_eq_true (by omega)
     obtain ⟨ad7,e7,hx⟩:=Kd.at_int (Kd.R_reads' HS.out).2.2 (j:Int) (by omega) (by omega)
     subst e7
     rw [Int.toNat_natCast] at hx
     obtain ⟨s,hs⟩:∃ s,rd syms j=s:=⟨_,rfl⟩
     rw [hs] at hx
     obtain ⟨ls,hls⟩:∃ ls,ls=Sg (gr st l3) c s:=⟨_,rfl⟩
     have hsm2:ls.length≤1562∧∀ x ∈ ls,rngI x:=by rw [hls];exact Sg_small (fits_of HVB.out) c s
     have HLS:=jM hls
     have HSM2:=jM hsm2
     have HRN:=jM (hls ▸ Rx.next HRX.out hj hs (by rw [← hls];exact hsm2))
     have hst:=step_is HVB.out c s
     rw [← HALL.out,← hls] at hst
     have HSTEP:Aside0 (Calls Tryz.prog 32 #[.agg #[.slice A0 l0.length c0,.slice A1 l1.length c1,.slice A2 l2.length c2,.slice A3 l3.length c3,.int .i64 st],.slice A8 all.length c8,.int .i64 s] W' fun e w'=>∃ v0:Value,e=.returned v0∧Kd.R k77 77 w' W'.heap.size (fun _=>True) v0 (ls.map ofI)∧RowKit.Below W'.heap.size W' w'):=⟨by
      have hRA:=Kd.R_reads' HA.out
      rw [List.length_map] at hRA
      have hq:=states_step.calls A0 c0 l0 A1 c1 l1 A2 c2 l2 A3 c3 l3 st A8 c8 (all.map ofI) s (ls.map ofI) W' (Kd.C_below HR0.out HJ.out.hb) HC0.out (Kd.C_below HR1.out HJ.out.hb) HC1.out (Kd.C_below HR2.out HJ.out.hb) HC2.out (Kd.C_below HR3.out HJ.out.hb) HC3.out (by rw [List.length_map];exact hRA.2.2) (by rw [List.length_map];exact hRA.2.1) hst
      rw [List.length_map] at hq
      exact hq⟩
     obtain ⟨z0,z1,z2,z3,z4⟩:=five5 HJ.out.bg
     have hjw:IntKind.i64.wrap ((j:Int)+1)=((j+1:Nat):Int):=by
      have:=HSL.out
      rw [IntWalk.i64_in _ (by omega)]
      rfl
     have HK:=jM (show K'.length≤3000 by have:=HRX.out.few;have:=HSL.out;omega)
     have HNL:=jM (show nums.length≤120 by have:=HRX.out.len;have:=HSL.out;omega)
     clear hst hls hsm2 hs
     go_upto_region 16 with (first
      | (go_at_call 32;(with_reducible refine HSTEP.out.mono ?_);rintro e w11 ⟨v11,rfl,hR11,hb11⟩;have HNUM:=jM (number_calls (okN:=fun k=>k < Bn) HG.out (Bd.apart HJ.out hb11 (fun k hk=>Kd.R_base hR11 k hk)) (R_up hR11 HJ.out.size) HSM2.out.2 (Nat.le_trans HSM2.out.1 (by omega)) HK.out);have HA11:=jM (Kd.R_below HA.out hb11);have HS11:=jM (Kd.R_below HS.out hb11);have HN11:=jM (Kd.R_below HN.out hb11);have HB11:=jM (Nat.le_trans HBN.out hb11.size);have HT11:=jM (Kd.S_typed (Kd.S_below HJ.out.ks hb11));clear hR11 hb11)
      | (go_at_call 28;(with_reducible refine HNUM.out.mono ?_);rintro e w12 ⟨rfl,vK2,hd,hsz,hkp⟩;have HJ12:=jM hd;have HA12:=jM (R_numb HA11.out HT11.out (by decide) (Nat.le_refl _) hkp);have HS12:=jM (R_numb HS11.out HT11.out (by decide) (Nat.le_refl _) hkp);have HN12:=jM (R_numb HN11.out HT11.out (by decide) HBn.out hkp);have HB12:=jM (Nat.le_trans HB11.out hsz);clear hd hsz hkp)
      | ((with_reducible refine gate_builtin (b:=.append) (xs:=#[.tmp 43,.tmp 50]) rfl ?_);at_builtin;refine Kd.R_append (Kd.int .i64) (w0:=w12) Bn rfl (.tmp 43) (.tmp 50) 50 3 (.int .i64 0) 8 rfl Tryz.underlying50 info3 rfl (by decide) (by omega) v9 nums (numb K' ls).1 [.int .i64 (numb K' ls).1] (fun k=>Bn≤k) (fun _=>False) rfl rfl rfl (fun _ hk=>hk.elim) (fun k hk=>Nat.le_trans HB12.out hk) HN12.out (RowKit.Below.refl _ _) HB12.out ?aL ?_;(case aL=>have:=HNL.out;omega);intro v13 w13 ho hb hg hat;have HN13:=jM ho;have HJ13:=jM (Bd.other HJ12.out (Kd.R_typed HN12.out) (Kd.R_base HN12.out) HBn.out hg);have HA13:=jM (Kd.R_over' HA12.out (Kd.R_typed HN12.out) (by decide) hg);have HS13:=jM (Kd.R_over' HS12.out (Kd.R_typed HN12.out) (by decide) hg);have HB13:=jM (Nat.le_trans HB12.out hg.size);clear ho hb hg hat))
     go_wp2_with fail
     exact ⟨syms.length - (j+1),by omega,j+1,v13,vK2,_,_,_,_,_,_,_,_,_,_,_,_,_,_,_,_,_,_,_,_,_,_,_,_,_,_,_,_,_,_,_,_,_,_,_,_,_,_,_,_,_,_,_,_,_,_,_,_,_,_,_,_,_,_,rfl,rfl,HRN,HJ13,HA13,HS13,HN13,HB13⟩
    ·have hjb:decide (j < syms.length)=false:=decide_eq_false (by omega)
     have hjl:j=syms.length:=by have:=HRX.out.le;omega
     have HDN:=jM (HRX.out.done hjl)
     have HSM3:=jM HRX.out.small
     clear hjl
     obtain ⟨A9,c9,e9⟩:=Kd.R_slice HN.out
     subst e9
     obtain ⟨AK2,cK2,eK2⟩:=Kd.S_slice HJ.out.ks
     subst eK2
     rw [List.length_map] at HJ
     have a1:W'.cell? ⟨B,1,none⟩=some (.slice AN N.length cN):=blk_cell HJ.out.ba 1
     have HN9:=jM (R_up HN.out HBn.out)
     have HOW:Aside0 (∀ k,some k=(Value.slice A9 nums.length c9).ownBlock→some k≠(Value.slice AN N.length cN).ownBlock):=⟨fun k e e'=>by
      obtain ⟨q1,h1⟩:=Kd.R_typed HN.out k e.symm
      obtain ⟨q2,h2⟩:=Kd.S_typed HJ.out.ns k e'.symm
      rw [h1] at h2
      cases h2⟩
     have HNS:=jM (Kd.S_mono HJ.out.ns (ok':=fun k=>B+3≤k∧¬ (some k=(Value.slice A9 nums.length c9).ownBlock∧B+3≤k)) (fun k hk=>⟨hk.1,fun h2=>by have:=Kd.R_base HN.out k h2.1.symm;have:=hk.2;omega⟩))
     have HNL:=jM (show N.length≤3000 by have:=HX.out.n3;omega)
     go_upto_region 18 with (first | ((with_reducible refine gate_builtin (b:=.append) (xs:=#[.tmp 54,.tmp 56]) rfl ?_);at_builtin;refine Kd.S_append (Kd.slice 3 (Kd.int .i64)) (w0:=W') (B+3) rfl (.tmp 54) (.tmp 56) 31 50 (.slice none 0 0) 24 rfl Tryz.underlying31 info50 rfl (by decide) (by omega) (.slice AN N.length cN) N nums [.slice A9 nums.length c9] (fun k=>B+3≤k) (fun k=>some k=(Value.slice A9 nums.length c9).ownBlock∧B+3≤k) rfl rfl ⟨_,rfl,Kd.R_tight2 rfl HN9.out⟩ (fun k hk=>⟨hk.2,HOW.out k hk.1⟩) (fun k hk=>Nat.le_trans HJ.out.size hk) HNS.out (RowKit.Below.refl _ _) HJ.out.size ?aL ?_;(case aL=>have:=HNL.out;omega);intro v14 w14 ho hb hg hat;obtain ⟨A14,c14,e14⟩:=Kd.S_slice ho;have e15:(N ++ [nums]).length=N.length+1:=(by simp);rw [e15] at e14;subst e14;clear e15;have HJ15:=jM (Bd.appN HJ.out ho hg);have c6:w14.cell? ⟨B,1,none⟩=some (.slice AN N.length cN):=blk_cell ((hg.block _ (blk_lt HJ.out.ba) (fun e=>by have:=Kd.S_base HJ.out.ns _ e.symm;omega)).trans HJ.out.ba) 1;have f6:=blk_frozen ((hg.block _ (blk_lt HJ.out.ba) (fun e=>by have:=Kd.S_base HJ.out.ns _ e.symm;omega)).trans HJ.out.ba) 1;clear ho hb hg hat))
     clear a1
     generalize w14.setCell ⟨B,1,none⟩ (.slice A14 (N.length+1) c14)=W15 at *
     clear HS HA HN HJ HN9 HOW HNS c6 f6
     have a0:W15.cell? ⟨B,0,none⟩=some (.slice AK2 K'.length cK2):=blk_cell HJ15.out.ba 0
     have HON:=jM (HX.out.on HCC.out (K':=K') (nums:=nums) (by have:=HDN.out;rw [HSY.out] at this;exact this) HSM3.out)
     by_cases hmany:2000 < K'.length
     ·have hmb:decide (2000 < K'.length)=true:=decide_eq_true hmany
      have HRR:=jM (HON.out.1 hmany)
      have y0:W15.cell? ⟨w.heap.size+1,0,none⟩=some (.slice none 0 0):=blk_cell HJ15.out.br 0
      have y1:W15.cell? ⟨w.heap.size+1,1,none⟩=some (.slice none 0 0):=blk_cell HJ15.out.br 1
      have f2:=blk_frozen HJ15.out.br 0
      have f3:=blk_frozen HJ15.out.br 1
      go_wp2
      refine bodyPost_ret (results_ct rfl _ _ (w.heap.size+1) 44 #[.slice none 0 0,.slice none 0 0] (0,0) _ rfl (blk_put (blk_put HJ15.out.br 0 _ rfl) 1 _ rfl) Tryz.underlying44 rfl (by kernel_rfl)) rfl ?_
      rw [HRR.out]
      exact ⟨_,_,rfl,Kd.S_nil _ _ _ _ _,Kd.S_nil _ _ _ _ _,below_set (below_set HJ15.out.hb (Nat.le_succ _)) (Nat.le_succ _)⟩
     ·have hmb:decide (2000 < K'.length)=false:=decide_eq_false hmany
      have HBX:=jM (HON.out.2 hmany)
      have hN1:IntKind.i64.wrap ((N.length:Int)+1)=(((N ++ [nums]).length:Nat):Int):=by
       have:=HNL.out
       rw [List.length_append,List.length_singleton,IntWalk.i64_in _ (by omega)]
       rfl
      go_wp2_with fail
      exact ⟨n,Nat.lt_succ_self n,_,_,K',N ++ [nums],by rw [List.length_append,List.length_singleton];rfl,HBX,HJ15⟩
   | _=>exact he.elim

theorem states_Build.calls (A0:Option Addr) (c0:Nat) (l0:List S65) (A1:Option Addr) (c1:Nat) (l1:List S73) (A2:Option Addr) (c2:Nat) (l2:List ByteArray) (A3:Option Addr) (c3:Nat) (l3:List S68) (st:Int) (r1:List (List S77)) (r2:List (List Int)) (r3:Int) (w:World) (hG:GTab w)
  (hr0:Kd.C k65 w A0 l0.length l0) (hc0:l0.length≤c0) (hr1:Kd.C k73 w A1 l1.length l1) (hc1:l1.length≤c1) (hr2:Kd.C Kd.string w A2 l2.length l2) (hc2:l2.length≤c2) (hr3:Kd.C k68 w A3 l3.length l3) (hc3:l3.length≤c3) (h:states_Build.f l0 l1 l2 l3 st=some (r1,r2,r3)) :
  Calls Tryz.prog 14 #[.agg #[.slice A0 l0.length c0,.slice A1 l1.length c1,.slice A2 l2.length c2,.slice A3 l3.length c3,.int .i64 st]] w fun e w'=>∃ v0_ v1_:Value,e=.returned (.tuple #[.agg #[v0_,v1_],.int .i64 r3])∧Kd.S (Kd.slice 77 k77) 75 w' w.heap.size (fun _=>True) v0_ r1∧Kd.S (Kd.slice 3 (Kd.int .i64)) 50 w' w.heap.size (fun _=>True) v1_ r2∧Below w.heap.size w w':=by
 unfold states_Build.f at h
 cases hv:validB l0 l1 l2 l3 st with
 | false =>
  rw [hv,if_neg (by decide)] at h
  have h:=Option.some.inj h
  obtain ⟨rfl,h2⟩:=Prod.mk.inj h
  obtain ⟨rfl,rfl⟩:=Prod.mk.inj h2
  refine (build_bad A0 c0 l0 A1 c1 l1 A2 c2 l2 A3 c3 l3 st w hr0 hc0 hr1 hc1 hr2 hc2 hr3 hc3 hv).mono ?_
  rintro e w' ⟨rfl,hb⟩
  exact ⟨_,_,rfl,Kd.S_nil _ _ _ _ _,Kd.S_nil _ _ _ _ _,hb⟩
 | true =>
  rw [hv,if_pos rfl] at h
  split at h
  ·rename_i hp
   obtain ⟨R,hR,hO⟩:=Option.map_eq_some_iff.1 h
   have hz:=build_good A0 c0 l0 A1 c1 l1 A2 c2 l2 A3 c3 l3 st R w hG hr0 hc0 hr1 hc1 hr2 hc2 hr3 hc3 hv hp hR
   rw [hO] at hz
   exact hz
  ·cases h
end
end Go.Proofs.YtclollnicbcooaaGreatDoor.P
namespace Go.Proofs.YtclollnicbcooaaGreatDoor.P
open Go.RowKit YtclollnicbcooaaGreatDoorW.PrintWords YtclollnicbcooaaGreatDoorW.PrintLast YtclollnicbcooaaGreatDoorW.PrintMore
section
attribute [local go_sem] max2_int min2_int max_two min_two max_three min_three max_four min_four

attribute [local go_sem high] eqA77
/-! ### states_Go: function 25 -/
def states_Go.f (l0_0:List (S65)) (l0_1:List (S73)) (l0_2:List ByteArray) (l0_3:List (S68)) (a0_4:Int) (l1_0:List (List (S77))) (l1_1:List (List Int)) (a2:Int) (a3:Int):Option (Int):=if a3 < 0 then (if a2 < 0 then (some (-1)) else (if a2 ≥ (l1_1.length:Int) then (some (-1)) else (if (wrap64 ((l0_0.length:Int)+(wrap64 ((-1) - a3)))) < 0 then (some (-1)) else (if 0≤a2 then (if a2 < (l1_1.length:Int) then (if (wrap64 ((l0_0.length:Int)+(wrap64 ((-1) - a3)))) ≥ ((rd_L17 l1_1 a2).length:Int) then (some (-1)) else (if 0≤(wrap64 ((l0_0.length:Int)+(wrap64 ((-1) - a3)))) then (if (wrap64 ((l0_0.length:Int)+(wrap64 ((-1) - a3)))) < ((rd_L17 l1_1 a2).length:Int) then (some (rd (rd_L17 l1_1 a2) (wrap64 ((l0_0.length:Int)+(wrap64 ((-1) - a3)))))) else (none)) else (none))) else (none)) else (none))))) else (if a3 ≥ (l0_0.length:Int) then (some (-1)) else (if a2 < 0 then (some (-1)) else (if a2 ≥ (l1_1.length:Int) then (some (-1)) else (if 0≤a2 then (if a2 < (l1_1.length:Int) then (if a3 ≥ ((rd_L17 l1_1 a2).length:Int) then (some (-1)) else (if 0≤a3 then (if a3 < ((rd_L17 l1_1 a2).length:Int) then (some (rd (rd_L17 l1_1 a2) a3)) else (none)) else (none))) else (none)) else (none)))))
def goF (N:List (List Int)) (a q:Int):Option Int:=if a < 0 then some (-1) else if a ≥ (N.length:Int) then some (-1) else if q < 0 then some (-1) else if q ≥ ((rd_L17 N a).length:Int) then some (-1) else some (Go.Proofs.YtclollnicbcooaaGreatDoorW.PrintWords.rd (rd_L17 N a) q)
theorem go_f (l0:List S65) (l1:List S73) (l2:List ByteArray) (l3:List S68) (st:Int) (Ka:List (List S77)) (N:List (List Int)) (a s:Int):states_Go.f l0 l1 l2 l3 st Ka N a s=if s < 0 then goF N a (wrap64 ((l0.length:Int)+(wrap64 ((-1) - s)))) else if s ≥ (l0.length:Int) then some (-1) else goF N a s:=by
 unfold states_Go.f goF
 generalize wrap64 ((l0.length:Int)+(wrap64 ((-1) - s)))=w
 by_cases hs:s < 0
 ·simp only [if_pos hs]
  by_cases h1:a < 0
  ·simp only [if_pos h1]
  ·by_cases h2:a ≥ (N.length:Int)
   ·simp only [if_neg h1,if_pos h2]
   ·by_cases h3:w < 0
    ·simp only [if_neg h1,if_neg h2,if_pos h3]
    ·by_cases h4:w ≥ ((rd_L17 N a).length:Int)
     ·simp only [if_neg h1,if_neg h2,if_neg h3,if_pos h4,if_pos (show 0≤a by omega),if_pos (show a < (N.length:Int) by omega)]
     ·simp only [if_neg h1,if_neg h2,if_neg h3,if_neg h4,if_pos (show 0≤a by omega),if_pos (show a < (N.length:Int) by omega),if_pos (show 0≤w by omega),if_pos (show w < ((rd_L17 N a).length:Int) by omega)]
 ·simp only [if_neg hs]
  by_cases h0:s ≥ (l0.length:Int)
  ·simp only [if_pos h0]
  ·simp only [if_neg h0]
   by_cases h1:a < 0
   ·simp only [if_pos h1]
   ·by_cases h2:a ≥ (N.length:Int)
    ·simp only [if_neg h1,if_pos h2]
    ·by_cases h4:s ≥ ((rd_L17 N a).length:Int)
     ·simp only [if_neg h1,if_neg h2,if_pos h4,if_pos (show 0≤a by omega),if_pos (show a < (N.length:Int) by omega)]
     ·simp only [if_neg h1,if_neg h2,if_neg h4,if_pos (show 0≤a by omega),if_pos (show a < (N.length:Int) by omega),if_pos (show 0≤s by omega),if_pos (show s < ((rd_L17 N a).length:Int) by omega)]

set_option maxHeartbeats 8000000 in
set_option maxRecDepth 100000 in
theorem go_walk (A0:Option Addr) (c0:Nat) (l0:List S65) (A1:Option Addr) (c1:Nat) (l1:List S73) (A2:Option Addr) (c2:Nat) (l2:List ByteArray) (A3:Option Addr) (c3:Nat) (l3:List S68) (st:Int) (AK:Option Addr) (cK:Nat) (K:List (List S77)) (AN:Option Addr) (cN:Nat) (N:List (List Int)) (a s:Int) (r:Int) (w:World)
  (hn:Kd.C (Kd.slice 3 (Kd.int .i64)) w AN N.length N) (h:states_Go.f l0 l1 l2 l3 st K N a s=some r) :
  Calls Tryz.prog 16 #[.agg #[.slice A0 l0.length c0,.slice A1 l1.length c1,.slice A2 l2.length c2,.slice A3 l3.length c3,.int .i64 st],.agg #[.slice AK K.length cK,.slice AN N.length cN],.int .i64 a,.int .i64 s] w fun e w'=>e=.returned (.int .i64 r)∧Below w.heap.size w w':=by
 have hu27:=Tryz.underlying27
 have hu44:=Tryz.underlying44
 rw [go_f] at h
 have HN:=jM hn
 have HH:=jM h
 clear hn h
 go_enter Tryz.func16,Tryz.ntmps16
 go_upto_region 1 with fail
 have B0:=jM (jX (blk_new w (Obj.cells #[.slice A0 l0.length c0,.slice A1 l1.length c1,.slice A2 l2.length c2,.slice A3 l3.length c3,.int .i64 st] 27)) (Obj.cells #[.slice AK K.length cK,.slice AN N.length cN] 44))
 have B1:=jM (blk_new (w.alloc (Obj.cells #[.slice A0 l0.length c0,.slice A1 l1.length c1,.slice A2 l2.length c2,.slice A3 l3.length c3,.int .i64 st] 27)) (Obj.cells #[.slice AK K.length cK,.slice AN N.length cN] 44))
 rw [World.size_alloc] at B1
 have HB:=jM (jA (jA (Below.refl w.heap.size w) (Obj.cells #[.slice A0 l0.length c0,.slice A1 l1.length c1,.slice A2 l2.length c2,.slice A3 l3.length c3,.int .i64 st] 27)) (Obj.cells #[.slice AK K.length cK,.slice AN N.length cN] 44))
 generalize (w.alloc (Obj.cells #[.slice A0 l0.length c0,.slice A1 l1.length c1,.slice A2 l2.length c2,.slice A3 l3.length c3,.int .i64 st] 27)).alloc (Obj.cells #[.slice AK K.length cK,.slice AN N.length cN] 44)=w1 at *
 obtain ⟨y0,y1,y2,y3,y4⟩:=five5 B0.out
 have z0:w1.cell? ⟨w.heap.size+1,0,none⟩=some (.slice AK K.length cK):=jC B1.out 0
 have z1:w1.cell? ⟨w.heap.size+1,1,none⟩=some (.slice AN N.length cN):=jC B1.out 1
 have h:=HH.out
 clear HH
 -- by the symbol: the place q, or none
 by_cases hs:s < 0
 rotate_left
 by_cases h0:s ≥ (l0.length:Int)
 ·rw [if_neg hs,if_pos h0] at h
  obtain rfl:=Option.some.inj h
  have e1:decide (s < 0)=false:=decide_eq_false hs
  have e2:decide ((l0.length:Int)≤s)=true:=decide_eq_true h0
  go_wp2_with fail
  go_ret
  exact ⟨rfl,HB.out⟩
 rw [if_neg hs,if_neg h0] at h
 have e1:decide (s < 0)=false:=decide_eq_false hs
 have e2:decide ((l0.length:Int)≤s)=false:=decide_eq_false h0
 go_upto_region 6 with fail
 clear e1 e2 hs h0
 generalize s=q at *
 rotate_left
 rw [if_pos hs] at h
 have e1:decide (s < 0)=true:=decide_eq_true hs
 have ew:=i64_w (-1 - s)
 have ew2:=i64_w ((l0.length:Int)+wrap64 ((-1) - s))
 go_upto_region 6 with fail
 clear ew ew2 e1
 generalize wrap64 ((l0.length:Int)+(wrap64 ((-1) - s)))=q at *
 all_goals
  unfold goF at h
  by_cases k1:a < 0
  ·rw [if_pos k1] at h
   obtain rfl:=Option.some.inj h
   have f1:decide (a < 0)=true:=decide_eq_true k1
   clear k1
   go_wp2_with fail
   go_ret
   exact ⟨rfl,HB.out⟩
  ·rw [if_neg k1] at h
   have f1:decide (a < 0)=false:=decide_eq_false k1
   by_cases k2:a ≥ (N.length:Int)
   ·rw [if_pos k2] at h
    obtain rfl:=Option.some.inj h
    have f2:decide ((N.length:Int)≤a)=true:=decide_eq_true k2
    clear k1 k2
    go_wp2_with fail
    go_ret
    exact ⟨rfl,HB.out⟩
   ·rw [if_neg k2] at h
    have f2:decide ((N.length:Int)≤a)=false:=decide_eq_false k2
    by_cases k3:q < 0
    ·rw [if_pos k3] at h
     obtain rfl:=Option.some.inj h
     have f3:decide (q < 0)=true:=decide_eq_true k3
     clear k1 k2 k3
     go_wp2_with fail
     go_ret
     exact ⟨rfl,HB.out⟩
    ·rw [if_neg k3] at h
     have f3:decide (q < 0)=false:=decide_eq_false k3
     have p0:0≤a:=by omega
     have p1:a < (N.length:Int):=by omega
     obtain ⟨ad,Ar,cr,rfl,hx,hl,hi⟩:=at_L17 (jB HN.out HB.out) a p0 p1
     generalize rd_L17 N a=row at *
     by_cases k4:q ≥ (row.length:Int)
     ·rw [if_pos k4] at h
      obtain rfl:=Option.some.inj h
      have f4:decide ((row.length:Int)≤q)=true:=decide_eq_true k4
      clear k1 k2 k3 k4
      go_wp2_with fail
      go_ret
      exact ⟨rfl,HB.out⟩
     ·rw [if_neg k4] at h
      obtain rfl:=Option.some.inj h
      have f4:decide ((row.length:Int)≤q)=false:=decide_eq_false k4
      have q0:0≤q:=by omega
      have q1:q < (row.length:Int):=by omega
      obtain ⟨ad2,rfl,hx2⟩:=Kd.at_int hi q q0 q1
      clear k1 k2 k3 k4 hi hl
      go_wp2_with fail
      go_ret
      exact ⟨rfl,HB.out⟩
theorem states_Go.calls (A0_0:Option Addr) (c0_0:Nat) (l0_0:List (S65)) (A0_1:Option Addr) (c0_1:Nat) (l0_1:List (S73)) (A0_2:Option Addr) (c0_2:Nat) (l0_2:List ByteArray) (A0_3:Option Addr) (c0_3:Nat) (l0_3:List (S68)) (a0_4:Int) (A1_0:Option Addr) (c1_0:Nat) (l1_0:List (List (S77))) (A1_1:Option Addr) (c1_1:Nat) (l1_1:List (List Int)) (a2:Int) (a3:Int) (r:Int) (w:World) (hr0_0:Kd.C k65 w A0_0 l0_0.length l0_0) (hc0_0:l0_0.length≤c0_0) (hr0_1:Kd.C k73 w A0_1 l0_1.length l0_1) (hc0_1:l0_1.length≤c0_1) (hr0_2:Kd.C Kd.string w A0_2 l0_2.length l0_2) (hc0_2:l0_2.length≤c0_2) (hr0_3:Kd.C k68 w A0_3 l0_3.length l0_3) (hc0_3:l0_3.length≤c0_3) (hr1_0:Kd.C (Kd.slice 77 k77) w A1_0 l1_0.length l1_0) (hc1_0:l1_0.length≤c1_0) (hr1_1:Kd.C (Kd.slice 3 (Kd.int .i64)) w A1_1 l1_1.length l1_1) (hc1_1:l1_1.length≤c1_1) (h:states_Go.f l0_0 l0_1 l0_2 l0_3 a0_4 l1_0 l1_1 a2 a3=some r) :
  Calls Tryz.prog 16 #[.agg #[.slice A0_0 l0_0.length c0_0,.slice A0_1 l0_1.length c0_1,.slice A0_2 l0_2.length c0_2,.slice A0_3 l0_3.length c0_3,.int .i64 a0_4],.agg #[.slice A1_0 l1_0.length c1_0,.slice A1_1 l1_1.length c1_1],.int .i64 a2,.int .i64 a3] w fun e w'=>e=.returned (.int .i64 r)∧Below w.heap.size w w' :=
 go_walk A0_0 c0_0 l0_0 A0_1 c0_1 l0_1 A0_2 c0_2 l0_2 A0_3 c0_3 l0_3 a0_4 A1_0 c1_0 l1_0 A1_1 c1_1 l1_1 a2 a3 r w hr1_1 h
section
open St
/-! ### told by what can be reckoned -/
def risenC (l:List Itm):List Itm:=riseR l l.length []
theorem risen_c (l:List Itm):risen l=risenC l:=(risen_one (riseR_all l)).symm
def SgC (g:Gr) (c:List Itm) (s:Int):List Itm:=risenC (stepL g (risenC (closedL g c)) s)
theorem Sg_c (g:Gr):Sg g=SgC g:=by
 funext c s
 unfold Sg SgC
 rw [risen_c,risen_c]
theorem built_c (T S:Nat) (g:Gr):builtL T S g=buildL (SgC g) (symsL T S) 2000 2003 0 [[(-1,0)]] []:=by
 unfold builtL
 rw [Sg_c]

def e0:List S65:=[(⟨(⟨#[97]⟩:ByteArray),(⟨#[]⟩:ByteArray),false,0⟩:S65)]
def e2:List ByteArray:=[(⟨#[83]⟩:ByteArray)]
def e3:List S68:=[(⟨(⟨#[112]⟩:ByteArray),0,(([0]:List Int)),0⟩:S68)]
theorem C_one {α:Type} {d:Kd α} {W:World} {g t:Nat} {x:α} {c:List Value} (hb:W.heap[g]? = some (.cells c.toArray t (0,0))) (hK:d.K W x c):d.C W (some ⟨g,0,none⟩) 1 [x]:=by
 refine ⟨rfl,by decide,fun _=>⟨⟨g,0,none⟩,rfl,fun i p hi=>?_⟩⟩
 have h0:i=0:=by
  cases i with
  | zero=>rfl
  | succ i=>simp at hi
 subst h0
 have hp:x=p:=by simpa using hi
 subst hp
 refine ⟨c,d.K_len hK,hK,fun j u hu=>?_⟩
 have e:(⟨g,0,none⟩:Addr).add (0 * d.sz+j)=⟨g,j,none⟩:=by
  rw [Nat.zero_mul,Nat.zero_add]
  unfold Addr.add
  simp
  exact fun h=>h.symm
 rw [e,jC hb j]
 simpa using hu
structure Ge (n:Nat) (W:World):Prop where
 c0:W.heap[n]? = some (.cells #[.string ⟨#[97]⟩,.string ⟨#[]⟩,.bool false,.int .i64 0] 65 (0,0))
 c1:W.heap[n+1]? = some (.cells #[.string ⟨#[83]⟩] 9 (0,0))
 c2:W.heap[n+1+1]? = some (.cells #[.int .i64 0] 56 (0,0))
 c3:W.heap[n+1+1+1]? = some (.cells #[.string ⟨#[112]⟩,.int .i64 0,.slice (some ⟨n+1+1,0,none⟩) 1 1,.int .i64 0] 68 (0,0))
 c4:W.heap[n+1+1+1+1]? = some (.cells #[.slice (some ⟨n,0,none⟩) 1 1,.slice none 0 0,.slice (some ⟨n+1,0,none⟩) 1 1,.slice (some ⟨n+1+1+1,0,none⟩) 1 1,.int .i64 0] 27 (0,0))
abbrev aE (n:Nat):Value:=.agg #[.slice (some ⟨n,0,none⟩) 1 1,.slice none 0 0,.slice (some ⟨n+1,0,none⟩) 1 1,.slice (some ⟨n+1+1+1,0,none⟩) 1 1,.int .i64 0]
def kE:List (List S77):=[[⟨-1,0⟩],[⟨0,1⟩],[⟨-1,1⟩]]
def nE:List (List Int):=[[1,2],[-1, -1],[-1, -1]]
end
end
section
attribute [local go_sem] max2_int min2_int max_two min_two max_three min_three max_four min_four

/-! ### states_Close: function 70 -/
/-! ### bits_Has: function 22 -/
/-! ### table_bit: function 24 -/
def table_bit.f (l0_0:List (S65)) (l0_1:List (S73)) (l0_2:List ByteArray) (l0_3:List (S68)) (a0_4:Int) (a1:Int):Option (Int):=if a1=(l0_0.length:Int) then (some 63) else (some a1)
set_option maxHeartbeats 8000000 in
set_option maxRecDepth 100000 in
theorem table_bit.calls (A0_0:Option Addr) (c0_0:Nat) (l0_0:List (S65)) (A0_1:Option Addr) (c0_1:Nat) (l0_1:List (S73)) (A0_2:Option Addr) (c0_2:Nat) (l0_2:List ByteArray) (A0_3:Option Addr) (c0_3:Nat) (l0_3:List (S68)) (a0_4:Int) (a1:Int) (r:Int) (w:World) (hr0_0:Kd.C k65 w A0_0 l0_0.length l0_0) (hc0_0:l0_0.length≤c0_0) (hr0_1:Kd.C k73 w A0_1 l0_1.length l0_1) (hc0_1:l0_1.length≤c0_1) (hr0_2:Kd.C Kd.string w A0_2 l0_2.length l0_2) (hc0_2:l0_2.length≤c0_2) (hr0_3:Kd.C k68 w A0_3 l0_3.length l0_3) (hc0_3:l0_3.length≤c0_3) (h:table_bit.f l0_0 l0_1 l0_2 l0_3 a0_4 a1=some r) :
  Calls Tryz.prog 24 #[.agg #[.slice A0_0 l0_0.length c0_0,.slice A0_1 l0_1.length c0_1,.slice A0_2 l0_2.length c0_2,.slice A0_3 l0_3.length c0_3,.int .i64 a0_4],.int .i64 a1] w fun e w'=>e=.returned (.int .i64 r)∧Below w.heap.size w w':=by
 have hu27:=Tryz.underlying27
 have HR0_0:=jM hr0_0
 have HC0_0:=jM hc0_0
 clear hr0_0 hc0_0
 have HR0_1:=jM hr0_1
 have HC0_1:=jM hc0_1
 clear hr0_1 hc0_1
 have HR0_2:=jM hr0_2
 have HC0_2:=jM hc0_2
 clear hr0_2 hc0_2
 have HR0_3:=jM hr0_3
 have HC0_3:=jM hc0_3
 clear hr0_3 hc0_3
 have HB:=jM (Below.refl w.heap.size w)
 have H:(if a1=(l0_0.length:Int) then (some 63) else (some a1))=some r:=h
 clear h
 by_cases c3:a1=(l0_0.length:Int)
 ·rw [if_pos c3] at H
  have c3b0:(a1 == (l0_0.length:Int))=true:=beq_iff_eq.mpr c3
  have c3b1:(a1 != (l0_0.length:Int))=false:=bne_eq_false_iff_eq.mpr c3
  clear c3
  obtain rfl:=Option.some.inj H
  go_enter Tryz.func24,Tryz.ntmps24
  go_wp2_with (first | ((with_reducible refine gate_dst (N:=2) rfl ?_);refine box_event ?hg (N:=2) ?hd (cs:=#[.slice A0_0 l0_0.length c0_0,.slice A0_1 l0_1.length c0_1,.slice A0_2 l0_2.length c0_2,.slice A0_3 l0_3.length c0_3,.int .i64 a0_4]) (t:=27) ?hr ?_;(case hd=>rfl);(case hg=>rfl);(case hr=>first | (go_simp;done) | (go_simp;rfl));intro gb191 hg w4 hbox hb;have n0_:=jM (jT (tB HB.out) hb);have n1_:=jM (hbox);have n2_:=jM ((by rw [hg];exact (below_size (tB HB.out)):w.heap.size≤gb191));have n3_:=jM ((by rw [hg];exact (below_size (tB HB.out)):w.heap.size≤gb191));clear HB;have HB:=n0_;have BK191:=n1_;have GW191:=n2_;have GE191:=n3_;clear n0_ n1_ n2_ n3_;clear hb hbox hg;obtain ⟨hcz5_0,hcz5_1,hcz5_2,hcz5_3,hcz5_4⟩:=jC5 BK191.out;have hfz5_0:=jF BK191.out 0;have hfz5_1:=jF BK191.out 1;have hfz5_2:=jF BK191.out 2;have hfz5_3:=jF BK191.out 3;have hfz5_4:=jF BK191.out 4))
  go_ret
  exact ⟨by first | rfl | (simp [errW_none,errW_some] <;> rfl) | (simp [*,errW_none,errW_some] <;> rfl),tE HB.out⟩
 ·rw [if_neg c3] at H
  have c3b0:(a1 == (l0_0.length:Int))=false:=beq_eq_false_iff_ne.mpr c3
  have c3b1:(a1 != (l0_0.length:Int))=true:=bne_iff_ne.mpr c3
  obtain rfl:=Option.some.inj H
  go_enter Tryz.func24,Tryz.ntmps24
  go_wp2_with (first | ((with_reducible refine gate_dst (N:=2) rfl ?_);refine box_event ?hg (N:=2) ?hd (cs:=#[.slice A0_0 l0_0.length c0_0,.slice A0_1 l0_1.length c0_1,.slice A0_2 l0_2.length c0_2,.slice A0_3 l0_3.length c0_3,.int .i64 a0_4]) (t:=27) ?hr ?_;(case hd=>rfl);(case hg=>rfl);(case hr=>first | (go_simp;done) | (go_simp;rfl));intro gb191 hg w6 hbox hb;have n0_:=jM (jT (tB HB.out) hb);have n1_:=jM (hbox);have n2_:=jM ((by rw [hg];exact (below_size (tB HB.out)):w.heap.size≤gb191));have n3_:=jM ((by rw [hg];exact (below_size (tB HB.out)):w.heap.size≤gb191));clear HB;have HB:=n0_;have BK191:=n1_;have GW191:=n2_;have GE191:=n3_;clear n0_ n1_ n2_ n3_;clear hb hbox hg;obtain ⟨hcz7_0,hcz7_1,hcz7_2,hcz7_3,hcz7_4⟩:=jC5 BK191.out;have hfz7_0:=jF BK191.out 0;have hfz7_1:=jF BK191.out 1;have hfz7_2:=jF BK191.out 2;have hfz7_3:=jF BK191.out 3;have hfz7_4:=jF BK191.out 4))
  go_ret
  exact ⟨by first | rfl | (simp [errW_none,errW_some] <;> rfl) | (simp [*,errW_none,errW_some] <;> rfl),tE HB.out⟩

/-! ### table_right: function 45 -/
def table_right.f (l0_0:List (S65)) (l0_1:List (S73)) (l0_2:List ByteArray) (l0_3:List (S68)) (a0_4:Int) (a1:Int):Option (Int):=if a1 < 0 then (some 1) else (if 0≤a1 then (if a1 < (l0_3.length:Int) then (some (((rd_T68 l0_3 a1).f2).length:Int)) else (none)) else (none))
set_option maxHeartbeats 8000000 in
set_option maxRecDepth 100000 in
theorem table_right.calls (A0_0:Option Addr) (c0_0:Nat) (l0_0:List (S65)) (A0_1:Option Addr) (c0_1:Nat) (l0_1:List (S73)) (A0_2:Option Addr) (c0_2:Nat) (l0_2:List ByteArray) (A0_3:Option Addr) (c0_3:Nat) (l0_3:List (S68)) (a0_4:Int) (a1:Int) (r:Int) (w:World) (hr0_0:Kd.C k65 w A0_0 l0_0.length l0_0) (hc0_0:l0_0.length≤c0_0) (hr0_1:Kd.C k73 w A0_1 l0_1.length l0_1) (hc0_1:l0_1.length≤c0_1) (hr0_2:Kd.C Kd.string w A0_2 l0_2.length l0_2) (hc0_2:l0_2.length≤c0_2) (hr0_3:Kd.C k68 w A0_3 l0_3.length l0_3) (hc0_3:l0_3.length≤c0_3) (h:table_right.f l0_0 l0_1 l0_2 l0_3 a0_4 a1=some r) :
  Calls Tryz.prog 45 #[.agg #[.slice A0_0 l0_0.length c0_0,.slice A0_1 l0_1.length c0_1,.slice A0_2 l0_2.length c0_2,.slice A0_3 l0_3.length c0_3,.int .i64 a0_4],.int .i64 a1] w fun e w'=>e=.returned (.int .i64 r)∧Below w.heap.size w w':=by
 have hu27:=Tryz.underlying27
 have HR0_0:=jM hr0_0
 have HC0_0:=jM hc0_0
 clear hr0_0 hc0_0
 have HR0_1:=jM hr0_1
 have HC0_1:=jM hc0_1
 clear hr0_1 hc0_1
 have HR0_2:=jM hr0_2
 have HC0_2:=jM hc0_2
 clear hr0_2 hc0_2
 have HR0_3:=jM hr0_3
 have HC0_3:=jM hc0_3
 clear hr0_3 hc0_3
 have HB:=jM (Below.refl w.heap.size w)
 have H:(if a1 < 0 then (some 1) else (if 0≤a1 then (if a1 < (l0_3.length:Int) then (some (((rd_T68 l0_3 a1).f2).length:Int)) else (none)) else (none)))=some r:=h
 clear h
 by_cases c3:a1 < 0
 ·rw [if_pos c3] at H
  have c3b0:decide (a1 < 0)=true:=decide_eq_true c3
  clear c3
  obtain rfl:=Option.some.inj H
  go_enter Tryz.func45,Tryz.ntmps45
  go_wp2_with (first | ((with_reducible refine gate_dst (N:=2) rfl ?_);refine box_event ?hg (N:=2) ?hd (cs:=#[.slice A0_0 l0_0.length c0_0,.slice A0_1 l0_1.length c0_1,.slice A0_2 l0_2.length c0_2,.slice A0_3 l0_3.length c0_3,.int .i64 a0_4]) (t:=27) ?hr ?_;(case hd=>rfl);(case hg=>rfl);(case hr=>first | (go_simp;done) | (go_simp;rfl));intro gb192 hg w4 hbox hb;have n0_:=jM (jT (tB HB.out) hb);have n1_:=jM (hbox);have n2_:=jM ((by rw [hg];exact (below_size (tB HB.out)):w.heap.size≤gb192));have n3_:=jM ((by rw [hg];exact (below_size (tB HB.out)):w.heap.size≤gb192));clear HB;have HB:=n0_;have BK192:=n1_;have GW192:=n2_;have GE192:=n3_;clear n0_ n1_ n2_ n3_;clear hb hbox hg))
  go_ret
  exact ⟨by first | rfl | (simp [errW_none,errW_some] <;> rfl) | (simp [*,errW_none,errW_some] <;> rfl),tE HB.out⟩
 ·rw [if_neg c3] at H
  have c3b0:decide (a1 < 0)=false:=decide_eq_false c3
  clear c3
  by_cases c5:0≤a1
  ·rw [if_pos c5] at H
   have c5b0:decide (0≤a1)=true:=decide_eq_true c5
   clear c5
   by_cases c6:a1 < (l0_3.length:Int)
   ·rw [if_pos c6] at H
    have c6b0:decide (a1 < (l0_3.length:Int))=true:=decide_eq_true c6
    clear c6
    obtain rfl:=Option.some.inj H
    go_enter Tryz.func45,Tryz.ntmps45
    go_wp2_with (first | ((with_reducible refine gate_dst (N:=2) rfl ?_);refine box_event ?hg (N:=2) ?hd (cs:=#[.slice A0_0 l0_0.length c0_0,.slice A0_1 l0_1.length c0_1,.slice A0_2 l0_2.length c0_2,.slice A0_3 l0_3.length c0_3,.int .i64 a0_4]) (t:=27) ?hr ?_;(case hd=>rfl);(case hg=>rfl);(case hr=>first | (go_simp;done) | (go_simp;rfl));intro gb192 hg w7 hbox hb;have n0_:=jM (jT (tB HB.out) hb);have n1_:=jM (hbox);have n2_:=jM ((by rw [hg];exact (below_size (tB HB.out)):w.heap.size≤gb192));have n3_:=jM ((by rw [hg];exact (below_size (tB HB.out)):w.heap.size≤gb192));clear HB;have HB:=n0_;have BK192:=n1_;have GW192:=n2_;have GE192:=n3_;clear n0_ n1_ n2_ n3_;clear hb hbox hg;obtain ⟨hcz8_0,hcz8_1,hcz8_2,hcz8_3,hcz8_4⟩:=jC5 BK192.out;have hfz8_0:=jF BK192.out 0;have hfz8_1:=jF BK192.out 1;have hfz8_2:=jF BK192.out 2;have hfz8_3:=jF BK192.out 3;have hfz8_4:=jF BK192.out 4;have p193:0≤(a1:Int):=of_decide_eq_true tD;have q193:a1 < (l0_3.length:Int):=of_decide_eq_true tD;obtain ⟨ad193,A193_2,c193_2,e193,hx193_0,hx193_1,hx193_2,hx193_3,hl193_2,hi193_2⟩:=at_T68 HR0_3.out a1 p193 q193;cases e193;replace hx193_0:=(HB.out.cell (jL w _ hx193_0)).trans hx193_0;replace hx193_1:=(HB.out.cell (jL w _ hx193_1)).trans hx193_1;replace hx193_2:=(HB.out.cell (jL w _ hx193_2)).trans hx193_2;replace hx193_3:=(HB.out.cell (jL w _ hx193_3)).trans hx193_3;have HR193_2:=jM hi193_2;have HC193_2:=jM hl193_2;clear hi193_2 hl193_2;replace p193:=eq_true p193;replace q193:=eq_true q193))
    go_ret
    exact ⟨by first | rfl | (simp [errW_none,errW_some] <;> rfl) | (simp [*,errW_none,errW_some] <;> rfl),tE HB.out⟩
   ·rw [if_neg c6] at H
    exact absurd H (by simp)
  ·rw [if_neg c5] at H
   exact absurd H (by simp)
end
section
attribute [local go_sem] max2_int min2_int max_two min_two max_three min_three max_four min_four

/-! ### table_deeds: function 26 -/
mutual
def table_deeds.j0:Nat→List (S96)→Int→Int→List (S53)→List (S65)→List (S73)→List ByteArray→List (S68)→Int→Option ((List (S53)))
 | 0,_,_,_,_,_,_,_,_,_=>none
 | k+1,x2,x3,x4,x11,xA,xB,xC,xD,xE=>if 0≤x3 then (if x3 < (x2.length:Int) then (table_deeds.l0 k x4 x11 ((rd_T96 x2 x3).f0) (((rd_T96 x2 x3).f0).length:Int) 0 xA xB xC xD xE ((rd_T96 x2 x3).f0) ((rd_T96 x2 x3).f1)) else (none)) else (none)
def table_deeds.l0:Nat→Int→List (S53)→List (S77)→Int→Int→List (S65)→List (S73)→List ByteArray→List (S68)→Int→List (S77)→List Int→Option ((List (S53)))
 | 0,_,_,_,_,_,_,_,_,_,_,_,_=>none
 | k+1,x4,x11,x33,x34,x35,xA,xB,xC,xD,xE,xF,xG=>if x35 < x34 then (if 0≤x35 then (if x35 < (x33.length:Int) then ((table_right.f xA xB xC xD xE ((rd_T77 x33 x35).f0)).bind fun t204=>(if ((rd_T77 x33 x35).f1) < t204 then (table_deeds.j2 k x4 x11 x33 x34 x35 true xA xB xC xD xE xF xG ((rd_T77 x33 x35).f0) ((rd_T77 x33 x35).f1)) else (if x35 < (xG.length:Int) then ((table_bit.f xA xB xC xD xE x4).bind fun t206=>((bits_Has.f (rd xG x35) t206).bind fun t207=>(table_deeds.j2 k x4 x11 x33 x34 x35 (!t207) xA xB xC xD xE xF xG ((rd_T77 x33 x35).f0) ((rd_T77 x33 x35).f1)))) else (none)))) else (none)) else (none)) else (some x11)
def table_deeds.j2:Nat→Int→List (S53)→List (S77)→Int→Int→Bool→List (S65)→List (S73)→List ByteArray→List (S68)→Int→List (S77)→List Int→Int→Int→Option ((List (S53)))
 | 0,_,_,_,_,_,_,_,_,_,_,_,_,_,_,_=>none
 | k+1,x4,x11,x33,x34,x35,x46,xA,xB,xC,xD,xE,xF,xG,xH,xI=>if x46=true then (table_deeds.l0 k x4 x11 x33 x34 (wrap64 (x35+1)) xA xB xC xD xE xF xG) else (if xH < 0 then (if x11.length < 8796093022208 then (table_deeds.l0 k x4 (x11 ++ [(⟨3,0⟩:S53)]) x33 x34 (wrap64 (x35+1)) xA xB xC xD xE xF xG) else (none)) else (if x11.length < 8796093022208 then (table_deeds.l0 k x4 (x11 ++ [(⟨2,xH⟩:S53)]) x33 x34 (wrap64 (x35+1)) xA xB xC xD xE xF xG) else (none)))
end
def table_deeds.f (k:Nat) (l0_0:List (S65)) (l0_1:List (S73)) (l0_2:List ByteArray) (l0_3:List (S68)) (a0_4:Int) (l1_0:List (List (S77))) (l1_1:List (List Int)) (l2:List (S96)) (a3:Int) (a4:Int):Option ((List (S53))):=(states_Go.f l0_0 l0_1 l0_2 l0_3 a0_4 l1_0 l1_1 a3 a4).bind fun t196=>(if t196 ≥ 0 then (if ([]:List (S53)).length < 8796093022208 then (table_deeds.j0 k l2 a3 a4 (([]:List (S53)) ++ [(⟨1,t196⟩:S53)]) l0_0 l0_1 l0_2 l0_3 a0_4) else (none)) else (table_deeds.j0 k l2 a3 a4 ([]:List (S53)) l0_0 l0_1 l0_2 l0_3 a0_4))
def table_deeds.T10:Bool × List (List Nat × List Nat):=(true,[([],[]),([0],[0]),([],[]),([],[]),([3],[3]),([2,4],[2,4]),([1,5],[1,5]),([6,5],[6]),([7],[7]),([8,7],[7,8]),([7],[7]),([9,10,7],[7,9,10]),([11,7],[7,11]),([7],[7]),([7],[7]),([13,14,7,7],[7,13,14]),([12,15,15,7],[7,12,15]),([16,7],[7,16]),([7,17],[7,17]),([18,16],[18])])
def table_deeds.B10:List Nat:=[0,1,0,0,8,28,63,127,255,511,255,2047,4095,255,255,24831,65535,131071,262143,524287]
theorem table_deeds.tab10:rtab .any (opsOf Tryz.f26 10)=table_deeds.T10:=by kernel_rfl
theorem table_deeds.bits10:waitsOk table_deeds.T10.2 table_deeds.B10=true:=by kernel_rfl
set_option maxHeartbeats 8000000 in
set_option maxRecDepth 100000 in
theorem table_deeds.calls (k:Nat) (A0_0:Option Addr) (c0_0:Nat) (l0_0:List (S65)) (A0_1:Option Addr) (c0_1:Nat) (l0_1:List (S73)) (A0_2:Option Addr) (c0_2:Nat) (l0_2:List ByteArray) (A0_3:Option Addr) (c0_3:Nat) (l0_3:List (S68)) (a0_4:Int) (A1_0:Option Addr) (c1_0:Nat) (l1_0:List (List (S77))) (A1_1:Option Addr) (c1_1:Nat) (l1_1:List (List Int)) (A2:Option Addr) (c2:Nat) (l2:List (S96)) (a3:Int) (a4:Int) (r:List (S53)) (w:World) (hr0_0:Kd.C k65 w A0_0 l0_0.length l0_0) (hc0_0:l0_0.length≤c0_0) (hr0_1:Kd.C k73 w A0_1 l0_1.length l0_1) (hc0_1:l0_1.length≤c0_1) (hr0_2:Kd.C Kd.string w A0_2 l0_2.length l0_2) (hc0_2:l0_2.length≤c0_2) (hr0_3:Kd.C k68 w A0_3 l0_3.length l0_3) (hc0_3:l0_3.length≤c0_3) (hr1_0:Kd.C (Kd.slice 77 k77) w A1_0 l1_0.length l1_0) (hc1_0:l1_0.length≤c1_0) (hr1_1:Kd.C (Kd.slice 3 (Kd.int .i64)) w A1_1 l1_1.length l1_1) (hc1_1:l1_1.length≤c1_1) (hr2:Kd.C k96 w A2 l2.length l2) (hc2:l2.length≤c2) (h:table_deeds.f k l0_0 l0_1 l0_2 l0_3 a0_4 l1_0 l1_1 l2 a3 a4=some r) :
  Calls Tryz.prog 26 #[.agg #[.slice A0_0 l0_0.length c0_0,.slice A0_1 l0_1.length c0_1,.slice A0_2 l0_2.length c0_2,.slice A0_3 l0_3.length c0_3,.int .i64 a0_4],.agg #[.slice A1_0 l1_0.length c1_0,.slice A1_1 l1_1.length c1_1],.slice A2 l2.length c2,.int .i64 a3,.int .i64 a4] w fun e w'=>∃ v0_:Value,e=.returned (v0_)∧Kd.R k53 53 w' w.heap.size (fun _=>True) v0_ r∧Below w.heap.size w w':=by
 have hu27:=Tryz.underlying27
 have hu44:=Tryz.underlying44
 have hu53:=Tryz.underlying53
 have hu96:=Tryz.underlying96
 have hu77:=Tryz.underlying77
 have HR0_0:=jM hr0_0
 have HC0_0:=jM hc0_0
 clear hr0_0 hc0_0
 have HR0_1:=jM hr0_1
 have HC0_1:=jM hc0_1
 clear hr0_1 hc0_1
 have HR0_2:=jM hr0_2
 have HC0_2:=jM hc0_2
 clear hr0_2 hc0_2
 have HR0_3:=jM hr0_3
 have HC0_3:=jM hc0_3
 clear hr0_3 hc0_3
 have HR1_0:=jM hr1_0
 have HC1_0:=jM hc1_0
 clear hr1_0 hc1_0
 have HR1_1:=jM hr1_1
 have HC1_1:=jM hc1_1
 clear hr1_1 hc1_1
 have HR2:=jM hr2
 have HC2:=jM hc2
 clear hr2 hc2
 have HB:=jM (Below.refl w.heap.size w)
 have H:((states_Go.f l0_0 l0_1 l0_2 l0_3 a0_4 l1_0 l1_1 a3 a4).bind fun t196=>(if t196 ≥ 0 then (if ([]:List (S53)).length < 8796093022208 then (table_deeds.j0 k l2 a3 a4 (([]:List (S53)) ++ [(⟨1,t196⟩:S53)]) l0_0 l0_1 l0_2 l0_3 a0_4) else (none)) else (table_deeds.j0 k l2 a3 a4 ([]:List (S53)) l0_0 l0_1 l0_2 l0_3 a0_4)))=some r:=h
 clear h
 replace H:=Option.bind_eq_some_iff.mp H
 obtain ⟨t196,A60,H⟩:=H
 replace H:(if t196 ≥ 0 then (if ([]:List (S53)).length < 8796093022208 then (table_deeds.j0 k l2 a3 a4 (([]:List (S53)) ++ [(⟨1,t196⟩:S53)]) l0_0 l0_1 l0_2 l0_3 a0_4) else (none)) else (table_deeds.j0 k l2 a3 a4 ([]:List (S53)) l0_0 l0_1 l0_2 l0_3 a0_4))=some r:=H
 have A6:=jM A60
 clear A60
 have HC7:=jM H
 clear H
 go_enter Tryz.func26,Tryz.ntmps26
 go_upto_if 22 with (first | ((with_reducible refine gate_dst (N:=5) rfl ?_);refine box_event ?hg (N:=5) ?hd (cs:=#[.slice A0_0 l0_0.length c0_0,.slice A0_1 l0_1.length c0_1,.slice A0_2 l0_2.length c0_2,.slice A0_3 l0_3.length c0_3,.int .i64 a0_4]) (t:=27) ?hr ?_;(case hd=>rfl);(case hg=>rfl);(case hr=>first | (go_simp;done) | (go_simp;rfl));intro gb194 hg w8 hbox hb;have n0_:=jM (jT (tB HB.out) hb);have n1_:=jM (hbox);have n2_:=jM ((by rw [hg];exact (below_size (tB HB.out)):w.heap.size≤gb194));have n3_:=jM ((by rw [hg];exact (below_size (tB HB.out)):w.heap.size≤gb194));clear HB;have HB:=n0_;have BK194:=n1_;have GW194:=n2_;have GE194:=n3_;clear n0_ n1_ n2_ n3_;clear hb hbox hg) | ((with_reducible refine gate_dst (N:=6) rfl ?_);refine box_event ?hg (N:=6) ?hd (cs:=#[.slice A1_0 l1_0.length c1_0,.slice A1_1 l1_1.length c1_1]) (t:=44) ?hr ?_;(case hd=>rfl);(case hg=>rfl);(case hr=>first | (go_simp;done) | (go_simp;rfl));intro gb195 hg w9 hbox hb;have n0_:=jM (jW (g:=gb194) (o:=.cells #[.slice A0_0 l0_0.length c0_0,.slice A0_1 l0_1.length c0_1,.slice A0_2 l0_2.length c0_2,.slice A0_3 l0_3.length c0_3,.int .i64 a0_4] 27 (0,0)) (tK BK194.out) hb);have n1_:=jM (jT (tE HB.out) hb);have n2_:=jM (hbox);have n3_:=jM ((by rw [hg];exact (below_size (tE HB.out)):w.heap.size≤gb195));have n4_:=jM ((by rw [hg];exact (below_size (tE HB.out)):w.heap.size≤gb195));have n5_:=jM ((by rw [hg];exact Nat.ne_of_lt (blk_lt (g:=gb194) (o:=.cells #[.slice A0_0 l0_0.length c0_0,.slice A0_1 l0_1.length c0_1,.slice A0_2 l0_2.length c0_2,.slice A0_3 l0_3.length c0_3,.int .i64 a0_4] 27 (0,0)) (tK BK194.out)):gb194≠gb195));have n6_:=jM ((by rw [hg];exact Nat.ne_of_gt (blk_lt (g:=gb194) (o:=.cells #[.slice A0_0 l0_0.length c0_0,.slice A0_1 l0_1.length c0_1,.slice A0_2 l0_2.length c0_2,.slice A0_3 l0_3.length c0_3,.int .i64 a0_4] 27 (0,0)) (tK BK194.out)):gb195≠gb194));clear BK194 HB;have BK194:=n0_;have HB:=n1_;have BK195:=n2_;have GW195:=n3_;have GE195:=n4_;have NB194_195:=n5_;have NB195_194:=n6_;clear n0_ n1_ n2_ n3_ n4_ n5_ n6_;clear hb hbox hg;have hnb10:=NB194_195.out;have hnc10:=NB195_194.out;obtain ⟨hcz11_0,hcz11_1,hcz11_2,hcz11_3,hcz11_4⟩:=jC5 BK194.out;have hfz11_0:=jF BK194.out 0;have hfz11_1:=jF BK194.out 1;have hfz11_2:=jF BK194.out 2;have hfz11_3:=jF BK194.out 3;have hfz11_4:=jF BK194.out 4;obtain ⟨hcz12_0,hcz12_1⟩:=jC2 BK195.out;have hfz12_0:=jF BK195.out 0;have hfz12_1:=jF BK195.out 1) | ((with_reducible refine gate_callee (f:=16) rfl ?_);refine goesL_ (some 20) rfl rfl Tryz.func16 (by kernel_rfl) rfl #[.agg #[.slice A0_0 l0_0.length c0_0,.slice A0_1 l0_1.length c0_1,.slice A0_2 l0_2.length c0_2,.slice A0_3 l0_3.length c0_3,.int .i64 a0_4],.agg #[.slice A1_0 l1_0.length c1_0,.slice A1_1 l1_1.length c1_1],.int .i64 a3,.int .i64 a4] rfl tM ?_;(with_reducible refine (states_Go.calls _ _ l0_0 _ _ l0_1 _ _ l0_2 _ _ l0_3 a0_4 _ _ l1_0 _ _ l1_1 a3 a4 t196 _ ?side1 ?side2 ?side3 ?side4 ?side5 ?side6 ?side7 ?side8 ?side9 ?side10 ?side11 ?side12 A6.out).mono ?_);(case side1=>exact tC (jB HR0_0.out HB.out));(case side2=>exact HC0_0.out);(case side3=>exact tC (jB HR0_1.out HB.out));(case side4=>exact HC0_1.out);(case side5=>exact tC (jB HR0_2.out HB.out));(case side6=>exact HC0_2.out);(case side7=>exact tC (jB HR0_3.out HB.out));(case side8=>exact HC0_3.out);(case side9=>exact tC (jB HR1_0.out HB.out));(case side10=>exact HC1_0.out);(case side11=>exact tC (jB HR1_1.out HB.out));(case side12=>exact HC1_1.out);rintro e w13 ⟨rfl,hb⟩;refine ⟨_,rfl, ?_⟩;replace BK194:=jM (jW (g:=gb194) (o:=.cells #[.slice A0_0 l0_0.length c0_0,.slice A0_1 l0_1.length c0_1,.slice A0_2 l0_2.length c0_2,.slice A0_3 l0_3.length c0_3,.int .i64 a0_4] 27 (0,0)) (tK BK194.out) hb);replace BK195:=jM (jW (g:=gb195) (o:=.cells #[.slice A1_0 l1_0.length c1_0,.slice A1_1 l1_1.length c1_1] 44 (0,0)) (tK BK195.out) hb);replace HB:=jM (jT (tE HB.out) hb);(try clear hb);(try clear hb2);(try clear hk);(try clear hi)))
 (try simp only [Act.put,sA])
 go_cut [11] (fun v11 wc=>∃ (kq:Nat) (x11_6:List (S53)),Aside0 (table_deeds.j0 kq l2 a3 a4 x11_6 l0_0 l0_1 l0_2 l0_3 a0_4=some r)∧Aside0 (kq≤k)∧Aside0 (Kd.R k53 53 wc w.heap.size (fun _=>True) v11 x11_6)∧Aside0 (wc.heap[gb194]? = some (.cells #[(.slice A0_0 l0_0.length c0_0),(.slice A0_1 l0_1.length c0_1),(.slice A0_2 l0_2.length c0_2),(.slice A0_3 l0_3.length c0_3),.int .i64 a0_4] 27 (0,0)))∧Aside0 (wc.heap[gb195]? = some (.cells #[(.slice A1_0 l1_0.length c1_0),(.slice A1_1 l1_1.length c1_1)] 44 (0,0)))∧Aside0 (Below w.heap.size w wc))
 case first =>
  have H:=HC7.out
  clear HC7
  by_cases c14:t196 ≥ 0
  ·rw [if_pos c14] at H
   have c14b0:decide (0≤t196)=true:=decide_eq_true c14
   clear c14
   (first | rw [c14b0] | (simp only [i64_w,i32_w];rw [c14b0]) | skip)
   by_cases c15:([]:List (S53)).length < 8796093022208
   ·rw [if_pos c15] at H
    have LMc15:=jM c15
    clear c15
    obtain ⟨y197,hy197⟩:∃ y_:List (S53),y_=(([]:List (S53)) ++ [(⟨1,t196⟩:S53)]):=⟨_,rfl⟩
    replace H:(table_deeds.j0 k l2 a3 a4 y197 l0_0 l0_1 l0_2 l0_3 a0_4)=some r:=by first | (rw [hy197];with_reducible exact H) | (have H2_:=(Option.bind_some _ _).symm.trans H;rw [hy197];with_reducible exact H2_) | (have H2_:=(Option.bind_some _ _).symm.trans H;with_reducible exact H2_) | with_reducible exact H | (rw [hy197];exact H) | exact H
    have Ny197:=jM hy197
    clear hy197
    have H':=jM H
    clear H
    go_wp2_with (first | ((with_reducible refine gate_builtin (b:=.append) (xs:=#[.tmp 23,.tmp 26]) rfl ?_);at_builtin;refine Kd.R_append k53 (w0:=w) w.heap.size rfl (.tmp 23) (.tmp 26) 49 53 (.agg #[(.int .i64 0),(.int .i64 0)]) 16 rfl Tryz.underlying49 info53 rfl (by decide) (by omega) (.slice none 0 0) ([]:List (S53)) (⟨1,t196⟩:S53) [.int .i64 1,.int .i64 t196] (fun _=>True) (fun _=>False) rfl rfl ?aP (fun _ hk=>hk.elim) ?aF ?aO ?aB ?aS ?aL ?_;(case aP=>exact k53_mkM _ _ _ (⟨1,t196⟩:S53));(case aB=>exact (tE HB.out));(case aF=>exact (fun _ _=>trivial));(case aO=>exact ((Kd.R_nil _ _ _ _ (fun _=>True))));(case aS=>exact (below_size (tE HB.out)));(case aL=>have:=LMc15.out;omega);intro v198 w16 ho hb hg hat;rw [← Ny197.out] at ho;replace BK194:=jM (blk_grown (g:=gb194) (o:=.cells #[.slice A0_0 l0_0.length c0_0,.slice A0_1 l0_1.length c0_1,.slice A0_2 l0_2.length c0_2,.slice A0_3 l0_3.length c0_3,.int .i64 a0_4] 27 (0,0)) (tK BK194.out) hg (by simp [Value.ownBlock]));replace BK195:=jM (blk_grown (g:=gb195) (o:=.cells #[.slice A1_0 l1_0.length c1_0,.slice A1_1 l1_1.length c1_1] 44 (0,0)) (tK BK195.out) hg (by simp [Value.ownBlock]));replace HB:=jM (hb);have HO199:=jM (ho);clear ho hb hg hat))
    go_meet
    case rel=>exact ⟨_,(y197),H',⟨by first | omega | exact Nat.le_refl _⟩,⟨tR HO199.out⟩,⟨tK BK194.out⟩,⟨tK BK195.out⟩,⟨tE HB.out⟩⟩
   ·rw [if_neg c15] at H
    exact absurd H (by simp)
  ·rw [if_neg c14] at H
   have c14b0:decide (0≤t196)=false:=decide_eq_false c14
   clear c14
   (first | rw [c14b0] | (simp only [i64_w,i32_w];rw [c14b0]) | skip)
   have H':=jM H
   clear H
   go_wp2
   go_meet
   case rel=>exact ⟨_,(([]:List (S53))),H',⟨by first | omega | exact Nat.le_refl _⟩,⟨by first | exact Kd.R_nil _ _ _ _ _ | exact Kd.N_nil _ _ _ _ _ | exact Kd.V_nil _ _ _ _ _ | exact Kd.Q_nil _ _ _ _ _ | exact Kd.S_nil _ _ _ _ _⟩,⟨tK BK194.out⟩,⟨tK BK195.out⟩,⟨tE HB.out⟩⟩
 case rest =>
  clear HC7
  try clear c1
  try clear c2
  try clear p2
  try clear c10
  try clear c14
  try clear c14b0
  try clear c15
  try clear c16
  try clear hcz11_0
  try clear hcz11_1
  try clear hcz11_2
  try clear hcz11_3
  try clear hcz11_4
  try clear hcz12_0
  try clear hcz12_1
  try clear hfz11_0
  try clear hfz11_1
  try clear hfz11_2
  try clear hfz11_3
  try clear hfz11_4
  try clear hfz12_0
  try clear hfz12_1
  obtain ⟨kq,x11_6,HA,HJ6,HO_11,BK194,BK195,HB⟩:=hcut
  cases kq with
  | zero=>exact absurd HA.out (by simp [table_deeds.j0])
  | succ kj6 =>
   have H:=HA.out
   clear HA
   simp only [table_deeds.j0] at H
   by_cases c17:0≤a3
   ·rw [if_pos c17] at H
    have c17b0:decide (0≤a3)=true:=decide_eq_true c17
    clear c17
    by_cases c18:a3 < (l2.length:Int)
    ·rw [if_pos c18] at H
     have c18b0:decide (a3 < (l2.length:Int))=true:=decide_eq_true c18
     clear c18
     have H':=jM H
     clear H
     have p200:0≤(a3:Int):=of_decide_eq_true tD
     have q200:a3 < (l2.length:Int):=of_decide_eq_true tD
     obtain ⟨ad200,A200_0,c200_0,A200_1,c200_1,e200,hx200_0,hx200_1,hl200_0,hi200_0,hl200_1,hi200_1⟩:=at_T96 HR2.out a3 p200 q200
     cases e200
     replace hx200_0:=(HB.out.cell (jL w _ hx200_0)).trans hx200_0
     replace hx200_1:=(HB.out.cell (jL w _ hx200_1)).trans hx200_1
     have HR200_0:=jM hi200_0
     have HC200_0:=jM hl200_0
     clear hi200_0 hl200_0
     have HR200_1:=jM hi200_1
     have HC200_1:=jM hl200_1
     clear hi200_1 hl200_1
     replace p200:=eq_true p200
     replace q200:=eq_true q200
     go_wp2_with (first | ((with_reducible refine gate_dst (N:=13) rfl ?_);refine box_event ?hg (N:=13) ?hd (cs:=#[.slice none 0 0,.slice none 0 0]) (t:=96) ?hr ?_;(case hd=>rfl);(case hg=>rfl);(case hr=>first | (go_simp;done) | (go_simp;rfl));intro gb201 hg w19 hbox hb;have n0_:=jM (Kd.R_below (tR HO_11.out) hb);have n1_:=jM (jW (g:=gb194) (o:=.cells #[.slice A0_0 l0_0.length c0_0,.slice A0_1 l0_1.length c0_1,.slice A0_2 l0_2.length c0_2,.slice A0_3 l0_3.length c0_3,.int .i64 a0_4] 27 (0,0)) (tK BK194.out) hb);have n2_:=jM (jW (g:=gb195) (o:=.cells #[.slice A1_0 l1_0.length c1_0,.slice A1_1 l1_1.length c1_1] 44 (0,0)) (tK BK195.out) hb);have n3_:=jM (jT (tE HB.out) hb);have n4_:=jM (hbox);have n5_:=jM ((by rw [hg];exact (below_size (tE HB.out)):w.heap.size≤gb201));have n6_:=jM ((by rw [hg];exact (below_size (tE HB.out)):w.heap.size≤gb201));have n7_:=jM ((by rw [hg];exact Nat.ne_of_lt (blk_lt (g:=gb194) (o:=.cells #[.slice A0_0 l0_0.length c0_0,.slice A0_1 l0_1.length c0_1,.slice A0_2 l0_2.length c0_2,.slice A0_3 l0_3.length c0_3,.int .i64 a0_4] 27 (0,0)) (tK BK194.out)):gb194≠gb201));have n8_:=jM ((by rw [hg];exact Nat.ne_of_gt (blk_lt (g:=gb194) (o:=.cells #[.slice A0_0 l0_0.length c0_0,.slice A0_1 l0_1.length c0_1,.slice A0_2 l0_2.length c0_2,.slice A0_3 l0_3.length c0_3,.int .i64 a0_4] 27 (0,0)) (tK BK194.out)):gb201≠gb194));have n9_:=jM ((by rw [hg];exact Nat.ne_of_lt (blk_lt (g:=gb195) (o:=.cells #[.slice A1_0 l1_0.length c1_0,.slice A1_1 l1_1.length c1_1] 44 (0,0)) (tK BK195.out)):gb195≠gb201));have n10_:=jM ((by rw [hg];exact Nat.ne_of_gt (blk_lt (g:=gb195) (o:=.cells #[.slice A1_0 l1_0.length c1_0,.slice A1_1 l1_1.length c1_1] 44 (0,0)) (tK BK195.out)):gb201≠gb195));clear HO_11 BK194 BK195 HB;have HO_11:=n0_;have BK194:=n1_;have BK195:=n2_;have HB:=n3_;have BK201:=n4_;have GW201:=n5_;have GE201:=n6_;have NB194_201:=n7_;have NB201_194:=n8_;have NB195_201:=n9_;have NB201_195:=n10_;clear n0_ n1_ n2_ n3_ n4_ n5_ n6_ n7_ n8_ n9_ n10_;clear hb hbox hg;have hnb20:=NB201_194.out;have hnc20:=NB194_201.out;have hnb21:=NB201_195.out;have hnc21:=NB195_201.out;obtain ⟨hcz22_0,hcz22_1⟩:=jC2 BK201.out;have hfz22_0:=jF BK201.out 0;have hfz22_1:=jF BK201.out 1))
     go_loopg [11,35] kj6 (fun kq v11 v35 w'=>∃ (x11_2:List (S53)) (x35_2:Int),v35=.int .i64 x35_2∧Aside0 (table_deeds.l0 kq a4 x11_2 ((rd_T96 l2 a3).f0) (((rd_T96 l2 a3).f0).length:Int) x35_2 l0_0 l0_1 l0_2 l0_3 a0_4 ((rd_T96 l2 a3).f0) ((rd_T96 l2 a3).f1)=some r)∧Aside0 (kq≤kj6)∧Aside0 (Kd.R k53 53 w' w.heap.size (fun _=>True) v11 x11_2)∧Aside0 (w'.heap[gb194]? = some (.cells #[(.slice A0_0 l0_0.length c0_0),(.slice A0_1 l0_1.length c0_1),(.slice A0_2 l0_2.length c0_2),(.slice A0_3 l0_3.length c0_3),.int .i64 a0_4] 27 (0,0)))∧Aside0 (w'.heap[gb195]? = some (.cells #[(.slice A1_0 l1_0.length c1_0),(.slice A1_1 l1_1.length c1_1)] 44 (0,0)))∧Aside0 (w'.heap[gb201]? = some (.cells #[(.slice A200_0 ((rd_T96 l2 a3).f0).length c200_0),(.slice A200_1 ((rd_T96 l2 a3).f1).length c200_1)] 96 (0,0)))∧Aside0 (Below w.heap.size w w'))
     case atStart=>exact ⟨(x11_6),(0),tZ,H',⟨Nat.le_refl _⟩,⟨by (with_reducible repeat (first | apply Kd.R_alloc | apply Kd.R_drewN | apply Kd.R_drew));exact Kd.R_mono (Kd.R_far (p:=⟨gb201,1,none⟩) (Kd.R_far (p:=⟨gb201,0,none⟩) (Kd.R_types HO_11.out BK201.out (by decide)) (fun _ hk=>hk.2) (.slice A200_0 ((rd_T96 l2 a3).f0).length c200_0)) (fun _ hk=>hk.2) (.slice A200_1 ((rd_T96 l2 a3).f1).length c200_1)) (fun _ hk=>trivial)⟩,⟨by (with_reducible repeat (first | refine jY ?_ _ | refine jZ ?_ | refine jX ?_ _));refine blk_far ?_ NB194_201.out _;(with_reducible repeat (first | refine jY ?_ _ | refine jZ ?_ | refine jX ?_ _));refine blk_far ?_ NB194_201.out _;(with_reducible repeat (first | refine jY ?_ _ | refine jZ ?_ | refine jX ?_ _));exact BK194.out⟩,⟨by (with_reducible repeat (first | refine jY ?_ _ | refine jZ ?_ | refine jX ?_ _));refine blk_far ?_ NB195_201.out _;(with_reducible repeat (first | refine jY ?_ _ | refine jZ ?_ | refine jX ?_ _));refine blk_far ?_ NB195_201.out _;(with_reducible repeat (first | refine jY ?_ _ | refine jZ ?_ | refine jX ?_ _));exact BK195.out⟩,⟨by (with_reducible repeat (first | refine jY ?_ _ | refine jZ ?_ | refine jX ?_ _));refine blk_put (cs:=#[.slice A200_0 ((rd_T96 l2 a3).f0).length c200_0,.slice none 0 0]) ?_ 1 _ rfl;(with_reducible repeat (first | refine jY ?_ _ | refine jZ ?_ | refine jX ?_ _));refine blk_put (cs:=#[.slice none 0 0,.slice none 0 0]) ?_ 0 _ rfl;(with_reducible repeat (first | refine jY ?_ _ | refine jZ ?_ | refine jX ?_ _));exact BK201.out⟩,⟨tE HB.out⟩⟩
     case round =>
      clear H'
      try clear c1
      try clear c2
      try clear p2
      try clear q2
      try clear hx2
      try clear c10
      try clear c14
      try clear c14b0
      try clear c15
      try clear c16
      try clear c17
      try clear c17b0
      try clear c18
      try clear c18b0
      try clear c20
      try clear p20
      try clear q20
      try clear hx20
      try clear c21
      try clear hcz11_0
      try clear hcz11_1
      try clear hcz11_2
      try clear hcz11_3
      try clear hcz11_4
      try clear hcz12_0
      try clear hcz12_1
      try clear hcz22_0
      try clear hcz22_1
      try clear hfz11_0
      try clear hfz11_1
      try clear hfz11_2
      try clear hfz11_3
      try clear hfz11_4
      try clear hfz12_0
      try clear hfz12_1
      try clear hfz22_0
      try clear hfz22_1
      try clear hx200_0
      try clear hx200_1
      try clear p2
      try clear p200
      try clear q200
      obtain ⟨x11_2,x35_2,rfl,HA,HK2,HO_11,BK194,BK195,BK201,HB⟩:=hrel
      cases gk with
      | zero=>exact absurd HA.out (by simp [table_deeds.l0])
      | succ k2 =>
       have H:=HA.out
       clear HA
       simp only [table_deeds.l0] at H
       by_cases c23:x35_2 < (((rd_T96 l2 a3).f0).length:Int)
       ·rw [if_pos c23] at H
        have c23b0:decide (x35_2 < (((rd_T96 l2 a3).f0).length:Int))=true:=decide_eq_true c23
        clear c23
        by_cases c24:0≤x35_2
        ·rw [if_pos c24] at H
         have c24b0:decide (0≤x35_2)=true:=decide_eq_true c24
         clear c24
         by_cases c25:x35_2 < (((rd_T96 l2 a3).f0).length:Int)
         ·rw [if_pos c25] at H
          have c25b0:decide (x35_2 < (((rd_T96 l2 a3).f0).length:Int))=true:=decide_eq_true c25
          clear c25
          have HC26:=jM H
          clear H
          have p202:0≤(x35_2:Int):=of_decide_eq_true tD
          have q202:x35_2 < (((rd_T96 l2 a3).f0).length:Int):=of_decide_eq_true tD
          obtain ⟨ad202,e202,hx202_0,hx202_1⟩:=at_T77 HR200_0.out x35_2 p202 q202
          cases e202
          replace hx202_0:=(HB.out.cell (jL w _ hx202_0)).trans hx202_0
          replace hx202_1:=(HB.out.cell (jL w _ hx202_1)).trans hx202_1
          replace p202:=eq_true p202
          replace q202:=eq_true q202
          go_upto_region 10 with (first | ((with_reducible refine gate_dst (N:=15) rfl ?_);refine box_event ?hg (N:=15) ?hd (cs:=#[.int .i64 0,.int .i64 0]) (t:=77) ?hr ?_;(case hd=>rfl);(case hg=>rfl);(case hr=>first | (go_simp;done) | (go_simp;rfl));intro gb203 hg w27 hbox hb;have n0_:=jM (Kd.R_below (tR HO_11.out) hb);have n1_:=jM (jW (g:=gb194) (o:=.cells #[.slice A0_0 l0_0.length c0_0,.slice A0_1 l0_1.length c0_1,.slice A0_2 l0_2.length c0_2,.slice A0_3 l0_3.length c0_3,.int .i64 a0_4] 27 (0,0)) (tK BK194.out) hb);have n2_:=jM (jW (g:=gb195) (o:=.cells #[.slice A1_0 l1_0.length c1_0,.slice A1_1 l1_1.length c1_1] 44 (0,0)) (tK BK195.out) hb);have n3_:=jM (jW (g:=gb201) (o:=.cells #[.slice (some ad202) ((rd_T96 l2 a3).f0).length c200_0,.slice A200_1 ((rd_T96 l2 a3).f1).length c200_1] 96 (0,0)) (tK BK201.out) hb);have n4_:=jM (jT (tE HB.out) hb);have n5_:=jM (hbox);have n6_:=jM ((by rw [hg];exact (below_size (tE HB.out)):w.heap.size≤gb203));have n7_:=jM ((by rw [hg];exact (below_size (tE HB.out)):w.heap.size≤gb203));have n8_:=jM ((by rw [hg];exact Nat.ne_of_lt (blk_lt (g:=gb194) (o:=.cells #[.slice A0_0 l0_0.length c0_0,.slice A0_1 l0_1.length c0_1,.slice A0_2 l0_2.length c0_2,.slice A0_3 l0_3.length c0_3,.int .i64 a0_4] 27 (0,0)) (tK BK194.out)):gb194≠gb203));have n9_:=jM ((by rw [hg];exact Nat.ne_of_gt (blk_lt (g:=gb194) (o:=.cells #[.slice A0_0 l0_0.length c0_0,.slice A0_1 l0_1.length c0_1,.slice A0_2 l0_2.length c0_2,.slice A0_3 l0_3.length c0_3,.int .i64 a0_4] 27 (0,0)) (tK BK194.out)):gb203≠gb194));have n10_:=jM ((by rw [hg];exact Nat.ne_of_lt (blk_lt (g:=gb195) (o:=.cells #[.slice A1_0 l1_0.length c1_0,.slice A1_1 l1_1.length c1_1] 44 (0,0)) (tK BK195.out)):gb195≠gb203));have n11_:=jM ((by rw [hg];exact Nat.ne_of_gt (blk_lt (g:=gb195) (o:=.cells #[.slice A1_0 l1_0.length c1_0,.slice A1_1 l1_1.length c1_1] 44 (0,0)) (tK BK195.out)):gb203≠gb195));have n12_:=jM ((by rw [hg];exact Nat.ne_of_lt (blk_lt (g:=gb201) (o:=.cells #[.slice (some ad202) ((rd_T96 l2 a3).f0).length c200_0,.slice A200_1 ((rd_T96 l2 a3).f1).length c200_1] 96 (0,0)) (tK BK201.out)):gb201≠gb203));have n13_:=jM ((by rw [hg];exact Nat.ne_of_gt (blk_lt (g:=gb201) (o:=.cells #[.slice (some ad202) ((rd_T96 l2 a3).f0).length c200_0,.slice A200_1 ((rd_T96 l2 a3).f1).length c200_1] 96 (0,0)) (tK BK201.out)):gb203≠gb201));clear HO_11 BK194 BK195 BK201 HB;have HO_11:=n0_;have BK194:=n1_;have BK195:=n2_;have BK201:=n3_;have HB:=n4_;have BK203:=n5_;have GW203:=n6_;have GE203:=n7_;have NB194_203:=n8_;have NB203_194:=n9_;have NB195_203:=n10_;have NB203_195:=n11_;have NB201_203:=n12_;have NB203_201:=n13_;clear n0_ n1_ n2_ n3_ n4_ n5_ n6_ n7_ n8_ n9_ n10_ n11_ n12_ n13_;clear hb hbox hg;have hnb28:=NB203_194.out;have hnc28:=NB194_203.out;have hnb29:=NB203_195.out;have hnc29:=NB195_203.out;have hnb30:=NB203_201.out;have hnc30:=NB201_203.out;obtain ⟨hcz31_0,hcz31_1⟩:=jC2 BK203.out;have hfz31_0:=jF BK203.out 0;have hfz31_1:=jF BK203.out 1))
          (try simp only [Act.put,sA])
          go_cut [46] (fun v46 wc=>∃ (kq:Nat) (x46_25:Bool),v46=.bool x46_25∧Aside0 (table_deeds.j2 kq a4 x11_2 ((rd_T96 l2 a3).f0) (((rd_T96 l2 a3).f0).length:Int) x35_2 x46_25 l0_0 l0_1 l0_2 l0_3 a0_4 ((rd_T96 l2 a3).f0) ((rd_T96 l2 a3).f1) ((rd_T77 ((rd_T96 l2 a3).f0) x35_2).f0) ((rd_T77 ((rd_T96 l2 a3).f0) x35_2).f1)=some r)∧Aside0 (kq≤k2)∧Aside0 (Kd.R k53 53 wc w.heap.size (fun _=>True) u11 x11_2)∧Aside0 (wc.heap[gb194]? = some (.cells #[(.slice A0_0 l0_0.length c0_0),(.slice A0_1 l0_1.length c0_1),(.slice A0_2 l0_2.length c0_2),(.slice A0_3 l0_3.length c0_3),.int .i64 a0_4] 27 (0,0)))∧Aside0 (wc.heap[gb195]? = some (.cells #[(.slice A1_0 l1_0.length c1_0),(.slice A1_1 l1_1.length c1_1)] 44 (0,0)))∧Aside0 (wc.heap[gb201]? = some (.cells #[(.slice (some ad202) ((rd_T96 l2 a3).f0).length c200_0),(.slice A200_1 ((rd_T96 l2 a3).f1).length c200_1)] 96 (0,0)))∧Aside0 (wc.heap[gb203]? = some (.cells #[.int .i64 ((rd_T77 ((rd_T96 l2 a3).f0) x35_2).f0),.int .i64 ((rd_T77 ((rd_T96 l2 a3).f0) x35_2).f1)] 77 (0,0)))∧Aside0 (Below w.heap.size w wc))
          case first =>
           have H:=HC26.out
           clear HC26
           replace H:=Option.bind_eq_some_iff.mp H
           obtain ⟨t204,A320,H⟩:=H
           replace H:(if ((rd_T77 ((rd_T96 l2 a3).f0) x35_2).f1) < t204 then (table_deeds.j2 k2 a4 x11_2 ((rd_T96 l2 a3).f0) (((rd_T96 l2 a3).f0).length:Int) x35_2 true l0_0 l0_1 l0_2 l0_3 a0_4 ((rd_T96 l2 a3).f0) ((rd_T96 l2 a3).f1) ((rd_T77 ((rd_T96 l2 a3).f0) x35_2).f0) ((rd_T77 ((rd_T96 l2 a3).f0) x35_2).f1)) else (if x35_2 < (((rd_T96 l2 a3).f1).length:Int) then ((table_bit.f l0_0 l0_1 l0_2 l0_3 a0_4 a4).bind fun t206=>((bits_Has.f (rd ((rd_T96 l2 a3).f1) x35_2) t206).bind fun t207=>(table_deeds.j2 k2 a4 x11_2 ((rd_T96 l2 a3).f0) (((rd_T96 l2 a3).f0).length:Int) x35_2 (!t207) l0_0 l0_1 l0_2 l0_3 a0_4 ((rd_T96 l2 a3).f0) ((rd_T96 l2 a3).f1) ((rd_T77 ((rd_T96 l2 a3).f0) x35_2).f0) ((rd_T77 ((rd_T96 l2 a3).f0) x35_2).f1)))) else (none)))=some r:=H
           have A32:=jM A320
           clear A320
           by_cases c33:((rd_T77 ((rd_T96 l2 a3).f0) x35_2).f1) < t204
           ·rw [if_pos c33] at H
            have c33b0:decide (((rd_T77 ((rd_T96 l2 a3).f0) x35_2).f1) < t204)=true:=decide_eq_true c33
            clear c33
            (first | rw [c33b0] | (simp only [i64_w,i32_w];rw [c33b0]) | skip)
            have H':=jM H
            clear H
            try go_wp2
            have n0_:Aside0 (Kd.R k53 53 ((w27.setCell ⟨gb203,0,none⟩ (.int .i64 ((rd_T77 ((rd_T96 l2 a3).f0) x35_2).f0))).setCell ⟨gb203,1,none⟩ (.int .i64 ((rd_T77 ((rd_T96 l2 a3).f0) x35_2).f1))) w.heap.size (fun _=>True) u11 x11_2):=⟨by (with_reducible repeat (first | apply Kd.R_alloc | apply Kd.R_drewN | apply Kd.R_drew));exact Kd.R_mono (Kd.R_far (p:=⟨gb203,1,none⟩) (Kd.R_far (p:=⟨gb203,0,none⟩) (Kd.R_types HO_11.out BK203.out (by decide)) (fun _ hk=>hk.2) (.int .i64 ((rd_T77 ((rd_T96 l2 a3).f0) x35_2).f0))) (fun _ hk=>hk.2) (.int .i64 ((rd_T77 ((rd_T96 l2 a3).f0) x35_2).f1))) (fun _ hk=>trivial)⟩
            have n1_:Aside0 (((w27.setCell ⟨gb203,0,none⟩ (.int .i64 ((rd_T77 ((rd_T96 l2 a3).f0) x35_2).f0))).setCell ⟨gb203,1,none⟩ (.int .i64 ((rd_T77 ((rd_T96 l2 a3).f0) x35_2).f1))).heap[gb194]? = some (.cells #[.slice A0_0 l0_0.length c0_0,.slice A0_1 l0_1.length c0_1,.slice A0_2 l0_2.length c0_2,.slice A0_3 l0_3.length c0_3,.int .i64 a0_4] 27 (0,0))):=⟨by (with_reducible repeat (first | refine jY ?_ _ | refine jZ ?_ | refine jX ?_ _));refine blk_far ?_ NB194_203.out _;(with_reducible repeat (first | refine jY ?_ _ | refine jZ ?_ | refine jX ?_ _));refine blk_far ?_ NB194_203.out _;(with_reducible repeat (first | refine jY ?_ _ | refine jZ ?_ | refine jX ?_ _));exact BK194.out⟩
            have n2_:Aside0 (((w27.setCell ⟨gb203,0,none⟩ (.int .i64 ((rd_T77 ((rd_T96 l2 a3).f0) x35_2).f0))).setCell ⟨gb203,1,none⟩ (.int .i64 ((rd_T77 ((rd_T96 l2 a3).f0) x35_2).f1))).heap[gb195]? = some (.cells #[.slice A1_0 l1_0.length c1_0,.slice A1_1 l1_1.length c1_1] 44 (0,0))):=⟨by (with_reducible repeat (first | refine jY ?_ _ | refine jZ ?_ | refine jX ?_ _));refine blk_far ?_ NB195_203.out _;(with_reducible repeat (first | refine jY ?_ _ | refine jZ ?_ | refine jX ?_ _));refine blk_far ?_ NB195_203.out _;(with_reducible repeat (first | refine jY ?_ _ | refine jZ ?_ | refine jX ?_ _));exact BK195.out⟩
            have n3_:Aside0 (((w27.setCell ⟨gb203,0,none⟩ (.int .i64 ((rd_T77 ((rd_T96 l2 a3).f0) x35_2).f0))).setCell ⟨gb203,1,none⟩ (.int .i64 ((rd_T77 ((rd_T96 l2 a3).f0) x35_2).f1))).heap[gb201]? = some (.cells #[.slice (some ad202) ((rd_T96 l2 a3).f0).length c200_0,.slice A200_1 ((rd_T96 l2 a3).f1).length c200_1] 96 (0,0))):=⟨by (with_reducible repeat (first | refine jY ?_ _ | refine jZ ?_ | refine jX ?_ _));refine blk_far ?_ NB201_203.out _;(with_reducible repeat (first | refine jY ?_ _ | refine jZ ?_ | refine jX ?_ _));refine blk_far ?_ NB201_203.out _;(with_reducible repeat (first | refine jY ?_ _ | refine jZ ?_ | refine jX ?_ _));exact BK201.out⟩
            have n4_:Aside0 (((w27.setCell ⟨gb203,0,none⟩ (.int .i64 ((rd_T77 ((rd_T96 l2 a3).f0) x35_2).f0))).setCell ⟨gb203,1,none⟩ (.int .i64 ((rd_T77 ((rd_T96 l2 a3).f0) x35_2).f1))).heap[gb203]? = some (.cells #[.int .i64 ((rd_T77 ((rd_T96 l2 a3).f0) x35_2).f0),.int .i64 ((rd_T77 ((rd_T96 l2 a3).f0) x35_2).f1)] 77 (0,0))):=⟨by (with_reducible repeat (first | refine jY ?_ _ | refine jZ ?_ | refine jX ?_ _));refine blk_put (cs:=#[.int .i64 ((rd_T77 ((rd_T96 l2 a3).f0) x35_2).f0),.int .i64 0]) ?_ 1 _ rfl;(with_reducible repeat (first | refine jY ?_ _ | refine jZ ?_ | refine jX ?_ _));refine blk_put (cs:=#[.int .i64 0,.int .i64 0]) ?_ 0 _ rfl;(with_reducible repeat (first | refine jY ?_ _ | refine jZ ?_ | refine jX ?_ _));exact BK203.out⟩
            have n5_:Aside0 (Below w.heap.size w ((w27.setCell ⟨gb203,0,none⟩ (.int .i64 ((rd_T77 ((rd_T96 l2 a3).f0) x35_2).f0))).setCell ⟨gb203,1,none⟩ (.int .i64 ((rd_T77 ((rd_T96 l2 a3).f0) x35_2).f1)))):=⟨tE HB.out⟩
            (try clear HO_11)
            (try clear BK194)
            (try clear BK195)
            (try clear BK201)
            (try clear BK203)
            (try clear HB)
            generalize ((w27.setCell ⟨gb203,0,none⟩ (.int .i64 ((rd_T77 ((rd_T96 l2 a3).f0) x35_2).f0))).setCell ⟨gb203,1,none⟩ (.int .i64 ((rd_T77 ((rd_T96 l2 a3).f0) x35_2).f1)))=w34 at n0_ n1_ n2_ n3_ n4_ n5_ ⊢
            have HO_11:=n0_
            have BK194:=n1_
            have BK195:=n2_
            have BK201:=n3_
            have BK203:=n4_
            have HB:=n5_
            clear n0_ n1_ n2_ n3_ n4_ n5_
            have n0_:=jM (Kd.R_drew HO_11.out)
            have n1_:=jM (jZ BK194.out)
            have n2_:=jM (jZ BK195.out)
            have n3_:=jM (jZ BK201.out)
            have n4_:=jM (jZ BK203.out)
            have n5_:=jM (jD HB.out)
            clear HO_11 BK194 BK195 BK201 BK203 HB
            have HO_11:=n0_
            have BK194:=n1_
            have BK195:=n2_
            have BK201:=n3_
            have BK203:=n4_
            have HB:=n5_
            clear n0_ n1_ n2_ n3_ n4_ n5_
            refine start_ (n:=20) (S:=fun w'=>w'.cell? ⟨gb203,0,none⟩=some (.int .i64 ((rd_T77 ((rd_T96 l2 a3).f0) x35_2).f0))∧w'.cell? ⟨gb203,1,none⟩=some (.int .i64 ((rd_T77 ((rd_T96 l2 a3).f0) x35_2).f1))∧w'.cell? ⟨gb194,0,none⟩=some (.slice A0_0 l0_0.length c0_0)∧w'.cell? ⟨gb194,1,none⟩=some (.slice A0_1 l0_1.length c0_1)∧w'.cell? ⟨gb194,2,none⟩=some (.slice A0_2 l0_2.length c0_2)∧w'.cell? ⟨gb194,3,none⟩=some (.slice A0_3 l0_3.length c0_3)∧w'.cell? ⟨gb194,4,none⟩=some (.int .i64 a0_4)) (ds:=[]) (tf 0 20) (by kernel_rfl) rfl rfl ⟨(jC BK203.out 0).trans rfl,(jC BK203.out 1).trans rfl,(jC BK194.out 0).trans rfl,(jC BK194.out 1).trans rfl,(jC BK194.out 2).trans rfl,(jC BK194.out 3).trans rfl,(jC BK194.out 4).trans rfl⟩ (fun hHeld=>?_);refine with_tabW table_deeds.tab10 table_deeds.bits10 (fun HT_ HW_=>?_)
            generalize w34.drew=w35 at HO_11 BK194 BK195 BK201 BK203 HB hHeld ⊢
            refine pU (i:=0) (N:=some 47) (tf 1 19) HT_ ?_
            refine pU (i:=3) (N:=some 50) #[true,false,false,true,false,false,false,false,false,false,false,false,false,false,false,false,false,false,false,false] HT_ ?_
            refine tU (i:=1) (N:=some 48) #[true,true,false,true,false,false,false,false,false,false,false,false,false,false,false,false,false,false,false,false] HT_ HW_ hHeld ?_
            refine tU (i:=2) (N:=some 49) (tf 4 16) HT_ HW_ hHeld ?_
            refine tU (i:=4) (N:=some 51) (tf 5 15) HT_ HW_ hHeld ?_
            refine one_ (i:=5) (N:=some 52) (tf 6 14) rfl rfl (one_of HT_.out (by kernel_rfl)) (by decide) (fun K hK=>?_)
            refine goes_ Tryz.func45 (by kernel_rfl) rfl #[.agg #[.slice A0_0 l0_0.length c0_0,.slice A0_1 l0_1.length c0_1,.slice A0_2 l0_2.length c0_2,.slice A0_3 l0_3.length c0_3,.int .i64 a0_4],.int .i64 ((rd_T77 ((rd_T96 l2 a3).f0) x35_2).f0)] (by rfl) rfl rfl tM ?_
            with_reducible refine (table_right.calls _ _ l0_0 _ _ l0_1 _ _ l0_2 _ _ l0_3 a0_4 ((rd_T77 ((rd_T96 l2 a3).f0) x35_2).f0) t204 _ ?side1 ?side2 ?side3 ?side4 ?side5 ?side6 ?side7 ?side8 A32.out).mono ?_
            (case side1=>exact tC (jB HR0_0.out HB.out))
            (case side2=>exact HC0_0.out)
            (case side3=>exact tC (jB HR0_1.out HB.out))
            (case side4=>exact HC0_1.out)
            (case side5=>exact tC (jB HR0_2.out HB.out))
            (case side6=>exact HC0_2.out)
            (case side7=>exact tC (jB HR0_3.out HB.out))
            (case side8=>exact HC0_3.out)
            rintro e w36 ⟨rfl,hb⟩
            refine ⟨_,rfl, ?_⟩
            have n0_:=jM (Kd.R_below (tR HO_11.out) hb)
            have n1_:=jM (jW (g:=gb194) (o:=.cells #[.slice A0_0 l0_0.length c0_0,.slice A0_1 l0_1.length c0_1,.slice A0_2 l0_2.length c0_2,.slice A0_3 l0_3.length c0_3,.int .i64 a0_4] 27 (0,0)) (tK BK194.out) hb)
            have n2_:=jM (jW (g:=gb195) (o:=.cells #[.slice A1_0 l1_0.length c1_0,.slice A1_1 l1_1.length c1_1] 44 (0,0)) (tK BK195.out) hb)
            have n3_:=jM (jW (g:=gb201) (o:=.cells #[.slice (some ad202) ((rd_T96 l2 a3).f0).length c200_0,.slice A200_1 ((rd_T96 l2 a3).f1).length c200_1] 96 (0,0)) (tK BK201.out) hb)
            have n4_:=jM (jW (g:=gb203) (o:=.cells #[.int .i64 ((rd_T77 ((rd_T96 l2 a3).f0) x35_2).f0),.int .i64 ((rd_T77 ((rd_T96 l2 a3).f0) x35_2).f1)] 77 (0,0)) (tK BK203.out) hb)
            have n5_:=jM (jT (tE HB.out) hb)
            clear HO_11 BK194 BK195 BK201 BK203 HB
            have HO_11:=n0_
            have BK194:=n1_
            have BK195:=n2_
            have BK201:=n3_
            have BK203:=n4_
            have HB:=n5_
            clear n0_ n1_ n2_ n3_ n4_ n5_
            (try clear hb)
            (try clear hb2)
            (try clear hk)
            (try clear hi)
            refine hK.out _ _ ⟨(jC BK203.out 0).trans rfl,(jC BK203.out 1).trans rfl,(jC BK194.out 0).trans rfl,(jC BK194.out 1).trans rfl,(jC BK194.out 2).trans rfl,(jC BK194.out 3).trans rfl,(jC BK194.out 4).trans rfl⟩ (fun hHeld=>?_)
            clear hK K
            refine nU (N:=some 52) ?_
            refine pU (i:=6) (N:=some 53) (tf 7 13) HT_ ?_
            refine pU (i:=7) (N:=some 54) (tf 8 12) HT_ ?_
            refine pV (i:=8) (N:=some 55) (tf 9 11) HT_ ?_
            refine pV (i:=9) (N:=some 56) (tf 10 10) HT_ ?_
            refine pV (i:=10) (N:=some 57) (tf 11 9) HT_ ?_
            refine pV (i:=11) (N:=some 58) (tf 12 8) HT_ ?_
            refine pV (i:=12) (N:=some 59) (tf 13 7) HT_ ?_
            refine pV (i:=13) (N:=some 60) (tf 14 6) HT_ ?_
            refine pV (i:=14) (N:=some 61) (tf 15 5) HT_ ?_
            refine pV (i:=15) (N:=some 62) (tf 16 4) HT_ ?_
            refine pV (i:=16) (N:=some 63) (tf 17 3) HT_ ?_
            refine pV (i:=17) (N:=some 64) (tf 18 2) HT_ ?_
            refine pU (i:=18) (N:=some 65) (tf 19 1) HT_ ?_
            refine pU (i:=19) (N:=some 46) (tf 20 0) HT_ ?_
            refine done_ (done_of HT_.out (by kernel_rfl)) ?_
            try go_wp2
            go_meet
            case rel=>exact ⟨_,(true),tZ,H',⟨by have:=HJ6.out;have:=HK2.out;first | omega | exact Nat.le_refl _⟩,⟨tR HO_11.out⟩,⟨tK BK194.out⟩,⟨tK BK195.out⟩,⟨tK BK201.out⟩,⟨tK BK203.out⟩,⟨tE HB.out⟩⟩
           ·rw [if_neg c33] at H
            have c33b0:decide (((rd_T77 ((rd_T96 l2 a3).f0) x35_2).f1) < t204)=false:=decide_eq_false c33
            clear c33
            (first | rw [c33b0] | (simp only [i64_w,i32_w];rw [c33b0]) | skip)
            by_cases c37:x35_2 < (((rd_T96 l2 a3).f1).length:Int)
            ·rw [if_pos c37] at H
             have c37b0:decide (x35_2 < (((rd_T96 l2 a3).f1).length:Int))=true:=decide_eq_true c37
             clear c37
             replace H:=Option.bind_eq_some_iff.mp H
             obtain ⟨t206,A380,H⟩:=H
             replace H:((bits_Has.f (rd ((rd_T96 l2 a3).f1) x35_2) t206).bind fun t207=>(table_deeds.j2 k2 a4 x11_2 ((rd_T96 l2 a3).f0) (((rd_T96 l2 a3).f0).length:Int) x35_2 (!t207) l0_0 l0_1 l0_2 l0_3 a0_4 ((rd_T96 l2 a3).f0) ((rd_T96 l2 a3).f1) ((rd_T77 ((rd_T96 l2 a3).f0) x35_2).f0) ((rd_T77 ((rd_T96 l2 a3).f0) x35_2).f1)))=some r:=H
             have A38:=jM A380
             clear A380
             replace H:=Option.bind_eq_some_iff.mp H
             obtain ⟨t207,A390,H⟩:=H
             replace H:(table_deeds.j2 k2 a4 x11_2 ((rd_T96 l2 a3).f0) (((rd_T96 l2 a3).f0).length:Int) x35_2 (!t207) l0_0 l0_1 l0_2 l0_3 a0_4 ((rd_T96 l2 a3).f0) ((rd_T96 l2 a3).f1) ((rd_T77 ((rd_T96 l2 a3).f0) x35_2).f0) ((rd_T77 ((rd_T96 l2 a3).f0) x35_2).f1))=some r:=H
             have A39:=jM A390
             clear A390
             have H':=jM H
             clear H
             try go_wp2
             have n0_:Aside0 (Kd.R k53 53 ((w27.setCell ⟨gb203,0,none⟩ (.int .i64 ((rd_T77 ((rd_T96 l2 a3).f0) x35_2).f0))).setCell ⟨gb203,1,none⟩ (.int .i64 ((rd_T77 ((rd_T96 l2 a3).f0) x35_2).f1))) w.heap.size (fun _=>True) u11 x11_2):=⟨by (with_reducible repeat (first | apply Kd.R_alloc | apply Kd.R_drewN | apply Kd.R_drew));exact Kd.R_mono (Kd.R_far (p:=⟨gb203,1,none⟩) (Kd.R_far (p:=⟨gb203,0,none⟩) (Kd.R_types HO_11.out BK203.out (by decide)) (fun _ hk=>hk.2) (.int .i64 ((rd_T77 ((rd_T96 l2 a3).f0) x35_2).f0))) (fun _ hk=>hk.2) (.int .i64 ((rd_T77 ((rd_T96 l2 a3).f0) x35_2).f1))) (fun _ hk=>trivial)⟩
             have n1_:Aside0 (((w27.setCell ⟨gb203,0,none⟩ (.int .i64 ((rd_T77 ((rd_T96 l2 a3).f0) x35_2).f0))).setCell ⟨gb203,1,none⟩ (.int .i64 ((rd_T77 ((rd_T96 l2 a3).f0) x35_2).f1))).heap[gb194]? = some (.cells #[.slice A0_0 l0_0.length c0_0,.slice A0_1 l0_1.length c0_1,.slice A0_2 l0_2.length c0_2,.slice A0_3 l0_3.length c0_3,.int .i64 a0_4] 27 (0,0))):=⟨by (with_reducible repeat (first | refine jY ?_ _ | refine jZ ?_ | refine jX ?_ _));refine blk_far ?_ NB194_203.out _;(with_reducible repeat (first | refine jY ?_ _ | refine jZ ?_ | refine jX ?_ _));refine blk_far ?_ NB194_203.out _;(with_reducible repeat (first | refine jY ?_ _ | refine jZ ?_ | refine jX ?_ _));exact BK194.out⟩
             have n2_:Aside0 (((w27.setCell ⟨gb203,0,none⟩ (.int .i64 ((rd_T77 ((rd_T96 l2 a3).f0) x35_2).f0))).setCell ⟨gb203,1,none⟩ (.int .i64 ((rd_T77 ((rd_T96 l2 a3).f0) x35_2).f1))).heap[gb195]? = some (.cells #[.slice A1_0 l1_0.length c1_0,.slice A1_1 l1_1.length c1_1] 44 (0,0))):=⟨by (with_reducible repeat (first | refine jY ?_ _ | refine jZ ?_ | refine jX ?_ _));refine blk_far ?_ NB195_203.out _;(with_reducible repeat (first | refine jY ?_ _ | refine jZ ?_ | refine jX ?_ _));refine blk_far ?_ NB195_203.out _;(with_reducible repeat (first | refine jY ?_ _ | refine jZ ?_ | refine jX ?_ _));exact BK195.out⟩
             have n3_:Aside0 (((w27.setCell ⟨gb203,0,none⟩ (.int .i64 ((rd_T77 ((rd_T96 l2 a3).f0) x35_2).f0))).setCell ⟨gb203,1,none⟩ (.int .i64 ((rd_T77 ((rd_T96 l2 a3).f0) x35_2).f1))).heap[gb201]? = some (.cells #[.slice (some ad202) ((rd_T96 l2 a3).f0).length c200_0,.slice A200_1 ((rd_T96 l2 a3).f1).length c200_1] 96 (0,0))):=⟨by (with_reducible repeat (first | refine jY ?_ _ | refine jZ ?_ | refine jX ?_ _));refine blk_far ?_ NB201_203.out _;(with_reducible repeat (first | refine jY ?_ _ | refine jZ ?_ | refine jX ?_ _));refine blk_far ?_ NB201_203.out _;(with_reducible repeat (first | refine jY ?_ _ | refine jZ ?_ | refine jX ?_ _));exact BK201.out⟩
             have n4_:Aside0 (((w27.setCell ⟨gb203,0,none⟩ (.int .i64 ((rd_T77 ((rd_T96 l2 a3).f0) x35_2).f0))).setCell ⟨gb203,1,none⟩ (.int .i64 ((rd_T77 ((rd_T96 l2 a3).f0) x35_2).f1))).heap[gb203]? = some (.cells #[.int .i64 ((rd_T77 ((rd_T96 l2 a3).f0) x35_2).f0),.int .i64 ((rd_T77 ((rd_T96 l2 a3).f0) x35_2).f1)] 77 (0,0))):=⟨by (with_reducible repeat (first | refine jY ?_ _ | refine jZ ?_ | refine jX ?_ _));refine blk_put (cs:=#[.int .i64 ((rd_T77 ((rd_T96 l2 a3).f0) x35_2).f0),.int .i64 0]) ?_ 1 _ rfl;(with_reducible repeat (first | refine jY ?_ _ | refine jZ ?_ | refine jX ?_ _));refine blk_put (cs:=#[.int .i64 0,.int .i64 0]) ?_ 0 _ rfl;(with_reducible repeat (first | refine jY ?_ _ | refine jZ ?_ | refine jX ?_ _));exact BK203.out⟩
             have n5_:Aside0 (Below w.heap.size w ((w27.setCell ⟨gb203,0,none⟩ (.int .i64 ((rd_T77 ((rd_T96 l2 a3).f0) x35_2).f0))).setCell ⟨gb203,1,none⟩ (.int .i64 ((rd_T77 ((rd_T96 l2 a3).f0) x35_2).f1)))):=⟨tE HB.out⟩
             (try clear HO_11)
             (try clear BK194)
             (try clear BK195)
             (try clear BK201)
             (try clear BK203)
             (try clear HB)
             generalize ((w27.setCell ⟨gb203,0,none⟩ (.int .i64 ((rd_T77 ((rd_T96 l2 a3).f0) x35_2).f0))).setCell ⟨gb203,1,none⟩ (.int .i64 ((rd_T77 ((rd_T96 l2 a3).f0) x35_2).f1)))=w40 at n0_ n1_ n2_ n3_ n4_ n5_ ⊢
             have HO_11:=n0_
             have BK194:=n1_
             have BK195:=n2_
             have BK201:=n3_
             have BK203:=n4_
             have HB:=n5_
             clear n0_ n1_ n2_ n3_ n4_ n5_
             have n0_:=jM (Kd.R_drew HO_11.out)
             have n1_:=jM (jZ BK194.out)
             have n2_:=jM (jZ BK195.out)
             have n3_:=jM (jZ BK201.out)
             have n4_:=jM (jZ BK203.out)
             have n5_:=jM (jD HB.out)
             clear HO_11 BK194 BK195 BK201 BK203 HB
             have HO_11:=n0_
             have BK194:=n1_
             have BK195:=n2_
             have BK201:=n3_
             have BK203:=n4_
             have HB:=n5_
             clear n0_ n1_ n2_ n3_ n4_ n5_
             have p205:0≤(x35_2:Int):=of_decide_eq_true tD
             have q205:x35_2 < (((rd_T96 l2 a3).f1).length:Int):=of_decide_eq_true tD
             obtain ⟨ad205,e205,hx205_0⟩:=Kd.at_int HR200_1.out x35_2 p205 q205
             have hw205_0:=hx205_0
             cases e205
             replace hx205_0:=(HB.out.cell (jL w _ hx205_0)).trans hx205_0
             replace p205:=eq_true p205
             replace q205:=eq_true q205
             refine start_ (n:=20) (S:=fun w'=>w'.cell? ⟨gb203,0,none⟩=some (.int .i64 ((rd_T77 ((rd_T96 l2 a3).f0) x35_2).f0))∧w'.cell? ⟨gb203,1,none⟩=some (.int .i64 ((rd_T77 ((rd_T96 l2 a3).f0) x35_2).f1))∧w'.cell? ⟨gb194,0,none⟩=some (.slice A0_0 l0_0.length c0_0)∧w'.cell? ⟨gb194,1,none⟩=some (.slice A0_1 l0_1.length c0_1)∧w'.cell? ⟨gb194,2,none⟩=some (.slice A0_2 l0_2.length c0_2)∧w'.cell? ⟨gb194,3,none⟩=some (.slice A0_3 l0_3.length c0_3)∧w'.cell? ⟨gb194,4,none⟩=some (.int .i64 a0_4)∧w'.cell? ⟨gb201,0,none⟩=some (.slice (some ad202) ((rd_T96 l2 a3).f0).length c200_0)∧w'.cell? ⟨gb201,1,none⟩=some (.slice (some ad205) ((rd_T96 l2 a3).f1).length c200_1)∧w'.cell? (ad205.add (x35_2).toNat)=some (.int .u64 (rd ((rd_T96 l2 a3).f1) x35_2))) (ds:=[]) (tf 0 20) (by kernel_rfl) rfl rfl ⟨(jC BK203.out 0).trans rfl,(jC BK203.out 1).trans rfl,(jC BK194.out 0).trans rfl,(jC BK194.out 1).trans rfl,(jC BK194.out 2).trans rfl,(jC BK194.out 3).trans rfl,(jC BK194.out 4).trans rfl,(jC BK201.out 0).trans rfl,(jC BK201.out 1).trans rfl,((HB.out.cell (jL w _ hw205_0)).trans hw205_0)⟩ (fun hHeld=>?_);refine with_tabW table_deeds.tab10 table_deeds.bits10 (fun HT_ HW_=>?_)
             generalize w40.drew=w41 at HO_11 BK194 BK195 BK201 BK203 HB hx205_0 hHeld ⊢
             refine pU (i:=0) (N:=some 47) (tf 1 19) HT_ ?_
             refine pU (i:=3) (N:=some 50) #[true,false,false,true,false,false,false,false,false,false,false,false,false,false,false,false,false,false,false,false] HT_ ?_
             refine tU (i:=1) (N:=some 48) #[true,true,false,true,false,false,false,false,false,false,false,false,false,false,false,false,false,false,false,false] HT_ HW_ hHeld ?_
             refine tU (i:=2) (N:=some 49) (tf 4 16) HT_ HW_ hHeld ?_
             refine tU (i:=4) (N:=some 51) (tf 5 15) HT_ HW_ hHeld ?_
             refine one_ (i:=5) (N:=some 52) (tf 6 14) rfl rfl (one_of HT_.out (by kernel_rfl)) (by decide) (fun K hK=>?_)
             refine goes_ Tryz.func45 (by kernel_rfl) rfl #[.agg #[.slice A0_0 l0_0.length c0_0,.slice A0_1 l0_1.length c0_1,.slice A0_2 l0_2.length c0_2,.slice A0_3 l0_3.length c0_3,.int .i64 a0_4],.int .i64 ((rd_T77 ((rd_T96 l2 a3).f0) x35_2).f0)] (by rfl) rfl rfl tM ?_
             with_reducible refine (table_right.calls _ _ l0_0 _ _ l0_1 _ _ l0_2 _ _ l0_3 a0_4 ((rd_T77 ((rd_T96 l2 a3).f0) x35_2).f0) t204 _ ?side1 ?side2 ?side3 ?side4 ?side5 ?side6 ?side7 ?side8 A32.out).mono ?_
             (case side1=>exact tC (jB HR0_0.out HB.out))
             (case side2=>exact HC0_0.out)
             (case side3=>exact tC (jB HR0_1.out HB.out))
             (case side4=>exact HC0_1.out)
             (case side5=>exact tC (jB HR0_2.out HB.out))
             (case side6=>exact HC0_2.out)
             (case side7=>exact tC (jB HR0_3.out HB.out))
             (case side8=>exact HC0_3.out)
             rintro e w42 ⟨rfl,hb⟩
             refine ⟨_,rfl, ?_⟩
             have n0_:=jM (Kd.R_below (tR HO_11.out) hb)
             have n1_:=jM (jW (g:=gb194) (o:=.cells #[.slice A0_0 l0_0.length c0_0,.slice A0_1 l0_1.length c0_1,.slice A0_2 l0_2.length c0_2,.slice A0_3 l0_3.length c0_3,.int .i64 a0_4] 27 (0,0)) (tK BK194.out) hb)
             have n2_:=jM (jW (g:=gb195) (o:=.cells #[.slice A1_0 l1_0.length c1_0,.slice A1_1 l1_1.length c1_1] 44 (0,0)) (tK BK195.out) hb)
             have n3_:=jM (jW (g:=gb201) (o:=.cells #[.slice (some ad202) ((rd_T96 l2 a3).f0).length c200_0,.slice (some ad205) ((rd_T96 l2 a3).f1).length c200_1] 96 (0,0)) (tK BK201.out) hb)
             have n4_:=jM (jW (g:=gb203) (o:=.cells #[.int .i64 ((rd_T77 ((rd_T96 l2 a3).f0) x35_2).f0),.int .i64 ((rd_T77 ((rd_T96 l2 a3).f0) x35_2).f1)] 77 (0,0)) (tK BK203.out) hb)
             have n5_:=jM (jT (tE HB.out) hb)
             clear HO_11 BK194 BK195 BK201 BK203 HB
             have HO_11:=n0_
             have BK194:=n1_
             have BK195:=n2_
             have BK201:=n3_
             have BK203:=n4_
             have HB:=n5_
             clear n0_ n1_ n2_ n3_ n4_ n5_
             (try clear hb)
             (try clear hb2)
             (try clear hk)
             (try clear hi)
             refine hK.out _ _ ⟨(jC BK203.out 0).trans rfl,(jC BK203.out 1).trans rfl,(jC BK194.out 0).trans rfl,(jC BK194.out 1).trans rfl,(jC BK194.out 2).trans rfl,(jC BK194.out 3).trans rfl,(jC BK194.out 4).trans rfl,(jC BK201.out 0).trans rfl,(jC BK201.out 1).trans rfl,((HB.out.cell (jL w _ hw205_0)).trans hw205_0)⟩ (fun hHeld=>?_)
             clear hK K
             refine nU (N:=some 52) ?_
             refine pU (i:=6) (N:=some 53) (tf 7 13) HT_ ?_
             refine pU (i:=7) (N:=some 54) (tf 8 12) HT_ ?_
             refine pU (i:=8) (N:=some 55) (tf 9 11) HT_ ?_
             refine pU (i:=10) (N:=some 57) #[true,true,true,true,true,true,true,true,true,false,true,false,false,false,false,false,false,false,false,false] HT_ ?_
             refine pU (i:=14) (N:=some 61) #[true,true,true,true,true,true,true,true,true,false,true,false,false,false,true,false,false,false,false,false] HT_ ?_
             refine tU (i:=9) (N:=some 56) #[true,true,true,true,true,true,true,true,true,true,true,false,false,false,true,false,false,false,false,false] HT_ HW_ hHeld ?_
             refine pU (i:=11) (N:=some 58) #[true,true,true,true,true,true,true,true,true,true,true,true,false,false,true,false,false,false,false,false] HT_ ?_
             refine tU (i:=12) (N:=some 59) #[true,true,true,true,true,true,true,true,true,true,true,true,true,false,true,false,false,false,false,false] HT_ HW_ hHeld ?_
             refine tU (i:=13) (N:=some 60) (tf 15 5) HT_ HW_ hHeld ?_
             refine one_ (i:=15) (N:=some 62) (tf 16 4) rfl rfl (one_of HT_.out (by kernel_rfl)) (by decide) (fun K hK=>?_)
             refine goes_ Tryz.func24 (by kernel_rfl) rfl #[.agg #[.slice A0_0 l0_0.length c0_0,.slice A0_1 l0_1.length c0_1,.slice A0_2 l0_2.length c0_2,.slice A0_3 l0_3.length c0_3,.int .i64 a0_4],.int .i64 a4] (by rfl) rfl rfl tM ?_
             with_reducible refine (table_bit.calls _ _ l0_0 _ _ l0_1 _ _ l0_2 _ _ l0_3 a0_4 a4 t206 _ ?side1 ?side2 ?side3 ?side4 ?side5 ?side6 ?side7 ?side8 A38.out).mono ?_
             (case side1=>exact tC (jB HR0_0.out HB.out))
             (case side2=>exact HC0_0.out)
             (case side3=>exact tC (jB HR0_1.out HB.out))
             (case side4=>exact HC0_1.out)
             (case side5=>exact tC (jB HR0_2.out HB.out))
             (case side6=>exact HC0_2.out)
             (case side7=>exact tC (jB HR0_3.out HB.out))
             (case side8=>exact HC0_3.out)
             rintro e w43 ⟨rfl,hb⟩
             refine ⟨_,rfl, ?_⟩
             have n0_:=jM (Kd.R_below (tR HO_11.out) hb)
             have n1_:=jM (jW (g:=gb194) (o:=.cells #[.slice A0_0 l0_0.length c0_0,.slice A0_1 l0_1.length c0_1,.slice A0_2 l0_2.length c0_2,.slice A0_3 l0_3.length c0_3,.int .i64 a0_4] 27 (0,0)) (tK BK194.out) hb)
             have n2_:=jM (jW (g:=gb195) (o:=.cells #[.slice A1_0 l1_0.length c1_0,.slice A1_1 l1_1.length c1_1] 44 (0,0)) (tK BK195.out) hb)
             have n3_:=jM (jW (g:=gb201) (o:=.cells #[.slice (some ad202) ((rd_T96 l2 a3).f0).length c200_0,.slice (some ad205) ((rd_T96 l2 a3).f1).length c200_1] 96 (0,0)) (tK BK201.out) hb)
             have n4_:=jM (jW (g:=gb203) (o:=.cells #[.int .i64 ((rd_T77 ((rd_T96 l2 a3).f0) x35_2).f0),.int .i64 ((rd_T77 ((rd_T96 l2 a3).f0) x35_2).f1)] 77 (0,0)) (tK BK203.out) hb)
             have n5_:=jM (jT (tE HB.out) hb)
             clear HO_11 BK194 BK195 BK201 BK203 HB
             have HO_11:=n0_
             have BK194:=n1_
             have BK195:=n2_
             have BK201:=n3_
             have BK203:=n4_
             have HB:=n5_
             clear n0_ n1_ n2_ n3_ n4_ n5_
             (try clear hb)
             (try clear hb2)
             (try clear hk)
             (try clear hi)
             refine hK.out _ _ ⟨(jC BK203.out 0).trans rfl,(jC BK203.out 1).trans rfl,(jC BK194.out 0).trans rfl,(jC BK194.out 1).trans rfl,(jC BK194.out 2).trans rfl,(jC BK194.out 3).trans rfl,(jC BK194.out 4).trans rfl,(jC BK201.out 0).trans rfl,(jC BK201.out 1).trans rfl,((HB.out.cell (jL w _ hw205_0)).trans hw205_0)⟩ (fun hHeld=>?_)
             clear hK K
             refine nU (N:=some 62) ?_
             refine one_ (i:=16) (N:=some 63) (tf 17 3) rfl rfl (one_of HT_.out (by kernel_rfl)) (by decide) (fun K hK=>?_)
             refine goes_ Tryz.func22 (by kernel_rfl) rfl #[.int .u64 (rd ((rd_T96 l2 a3).f1) x35_2),.int .i64 t206] (by rfl) rfl rfl tM ?_
             with_reducible refine (bits_Has.calls (rd ((rd_T96 l2 a3).f1) x35_2) t206 t207 _ A39.out).mono ?_
             rintro e w' ⟨rfl,⟨nd,rfl⟩⟩
             refine ⟨_,rfl, ?_⟩
             refine hK.out _ _ ⟨(jC BK203.out 0).trans rfl,(jC BK203.out 1).trans rfl,(jC BK194.out 0).trans rfl,(jC BK194.out 1).trans rfl,(jC BK194.out 2).trans rfl,(jC BK194.out 3).trans rfl,(jC BK194.out 4).trans rfl,(jC BK201.out 0).trans rfl,(jC BK201.out 1).trans rfl,((HB.out.cell (jL w _ hw205_0)).trans hw205_0)⟩ (fun hHeld=>?_)
             clear hK K
             refine nU (N:=some 63) ?_
             refine pU (i:=17) (N:=some 64) (tf 18 2) HT_ ?_
             refine pU (i:=18) (N:=some 65) (tf 19 1) HT_ ?_
             refine pU (i:=19) (N:=some 46) (tf 20 0) HT_ ?_
             refine done_ (done_of HT_.out (by kernel_rfl)) ?_
             try go_wp2
             go_meet
             case rel=>exact ⟨_,(!t207),tZ,H',⟨by have:=HJ6.out;have:=HK2.out;first | omega | exact Nat.le_refl _⟩,⟨tR HO_11.out⟩,⟨tK BK194.out⟩,⟨tK BK195.out⟩,⟨tK BK201.out⟩,⟨tK BK203.out⟩,⟨tE HB.out⟩⟩
            ·rw [if_neg c37] at H
             exact absurd H (by simp)
          case rest =>
           clear HC26
           try clear c1
           try clear c2
           try clear p2
           try clear q2
           try clear hx2
           try clear c3
           try clear c4
           try clear c10
           try clear c14
           try clear c14b0
           try clear c15
           try clear c16
           try clear c17
           try clear c17b0
           try clear c18
           try clear c18b0
           try clear c20
           try clear p20
           try clear q20
           try clear hx20
           try clear c21
           try clear c22
           try clear c23
           try clear c23b0
           try clear c24
           try clear c24b0
           try clear c25
           try clear c25b0
           try clear c28
           try clear c29
           try clear c30
           try clear c33
           try clear c33b0
           try clear c37
           try clear c37b0
           try clear hcz11_0
           try clear hcz11_1
           try clear hcz11_2
           try clear hcz11_3
           try clear hcz11_4
           try clear hcz12_0
           try clear hcz12_1
           try clear hcz22_0
           try clear hcz22_1
           try clear hcz31_0
           try clear hcz31_1
           try clear hfz11_0
           try clear hfz11_1
           try clear hfz11_2
           try clear hfz11_3
           try clear hfz11_4
           try clear hfz12_0
           try clear hfz12_1
           try clear hfz22_0
           try clear hfz22_1
           try clear hfz31_0
           try clear hfz31_1
           try clear hx200_0
           try clear hx200_1
           try clear hx202_0
           try clear hx202_1
           try clear hx205_0
           try clear p2
           try clear p20
           try clear p200
           try clear p202
           try clear p205
           try clear q2
           try clear q20
           try clear q200
           try clear q202
           try clear q205
           obtain ⟨kq,x46_25,rfl,HA,HJ25,HO_11,BK194,BK195,BK201,BK203,HB⟩:=hcut
           cases kq with
           | zero=>exact absurd HA.out (by simp [table_deeds.j2])
           | succ kj25 =>
            have H:=HA.out
            clear HA
            simp only [table_deeds.j2] at H
            by_cases c44:x46_25=true
            ·subst c44
             have H1:(table_deeds.l0 kj25 a4 x11_2 ((rd_T96 l2 a3).f0) (((rd_T96 l2 a3).f0).length:Int) (wrap64 (x35_2+1)) l0_0 l0_1 l0_2 l0_3 a0_4 ((rd_T96 l2 a3).f0) ((rd_T96 l2 a3).f1))=some r:=by rw [if_pos rfl] at H;exact H
             clear H
             have H:=H1
             clear H1
             have H':=jM H
             clear H
             go_wp2
             go_roundg kj25
             case measure=>have:=HJ6.out;have:=HK2.out;have:=HJ25.out;omega
             case rel=>exact ⟨(x11_2),(wrap64 (x35_2+1)),tZ,H',⟨by have:=HJ6.out;have:=HK2.out;have:=HJ25.out;omega⟩,⟨tR HO_11.out⟩,⟨tK BK194.out⟩,⟨tK BK195.out⟩,⟨tK BK201.out⟩,⟨tE HB.out⟩⟩
            ·replace c44:=Bool.eq_false_iff.mpr c44
             subst c44
             have H1:(if ((rd_T77 ((rd_T96 l2 a3).f0) x35_2).f0) < 0 then (if x11_2.length < 8796093022208 then (table_deeds.l0 kj25 a4 (x11_2 ++ [(⟨3,0⟩:S53)]) ((rd_T96 l2 a3).f0) (((rd_T96 l2 a3).f0).length:Int) (wrap64 (x35_2+1)) l0_0 l0_1 l0_2 l0_3 a0_4 ((rd_T96 l2 a3).f0) ((rd_T96 l2 a3).f1)) else (none)) else (if x11_2.length < 8796093022208 then (table_deeds.l0 kj25 a4 (x11_2 ++ [(⟨2,((rd_T77 ((rd_T96 l2 a3).f0) x35_2).f0)⟩:S53)]) ((rd_T96 l2 a3).f0) (((rd_T96 l2 a3).f0).length:Int) (wrap64 (x35_2+1)) l0_0 l0_1 l0_2 l0_3 a0_4 ((rd_T96 l2 a3).f0) ((rd_T96 l2 a3).f1)) else (none)))=some r:=by rw [if_neg (show ¬ (false=true) by decide)] at H;exact H
             clear H
             have H:=H1
             clear H1
             by_cases c45:((rd_T77 ((rd_T96 l2 a3).f0) x35_2).f0) < 0
             ·rw [if_pos c45] at H
              have c45b0:decide (((rd_T77 ((rd_T96 l2 a3).f0) x35_2).f0) < 0)=true:=decide_eq_true c45
              clear c45
              by_cases c46:x11_2.length < 8796093022208
              ·rw [if_pos c46] at H
               have LMc46:=jM c46
               clear c46
               obtain ⟨y208,hy208⟩:∃ y_:List (S53),y_=(x11_2 ++ [(⟨3,0⟩:S53)]):=⟨_,rfl⟩
               replace H:(table_deeds.l0 kj25 a4 y208 ((rd_T96 l2 a3).f0) (((rd_T96 l2 a3).f0).length:Int) (wrap64 (x35_2+1)) l0_0 l0_1 l0_2 l0_3 a0_4 ((rd_T96 l2 a3).f0) ((rd_T96 l2 a3).f1))=some r:=by first | (rw [hy208];with_reducible exact H) | (have H2_:=(Option.bind_some _ _).symm.trans H;rw [hy208];with_reducible exact H2_) | (have H2_:=(Option.bind_some _ _).symm.trans H;with_reducible exact H2_) | with_reducible exact H | (rw [hy208];exact H) | exact H
               have Ny208:=jM hy208
               clear hy208
               have H':=jM H
               clear H
               have hnb47:=NB203_194.out
               have hnc47:=NB194_203.out
               have hnb48:=NB203_195.out
               have hnc48:=NB195_203.out
               have hnb49:=NB203_201.out
               have hnc49:=NB201_203.out
               have hcz50_0:wc.cell? ⟨gb203,0,none⟩=some (.int .i64 ((rd_T77 ((rd_T96 l2 a3).f0) x35_2).f0)):=(jC BK203.out 0).trans rfl
               have hcz50_1:wc.cell? ⟨gb203,1,none⟩=some (.int .i64 ((rd_T77 ((rd_T96 l2 a3).f0) x35_2).f1)):=(jC BK203.out 1).trans rfl
               have hfz50_0:=jF BK203.out 0
               have hfz50_1:=jF BK203.out 1
               go_wp2_with (first | ((with_reducible refine gate_builtin (b:=.append) (xs:=#[.tmp 70,.tmp 72]) rfl ?_);at_builtin;refine Kd.R_append k53 (w0:=w) w.heap.size rfl (.tmp 70) (.tmp 72) 49 53 (.agg #[(.int .i64 0),(.int .i64 0)]) 16 rfl Tryz.underlying49 info53 rfl (by decide) (by omega) u11 x11_2 (⟨3,0⟩:S53) [.int .i64 3,.int .i64 0] (fun _=>True) (fun _=>False) rfl rfl ?aP (fun _ hk=>hk.elim) ?aF ?aO ?aB ?aS ?aL ?_;(case aP=>exact k53_mkM _ _ _ (⟨3,0⟩:S53));(case aB=>exact (tE HB.out));(case aF=>exact (fun _ _=>trivial));(case aO=>exact (tR HO_11.out));(case aS=>exact (below_size (tE HB.out)));(case aL=>have:=LMc46.out;omega);intro v209 w51 ho hb hg hat;rw [← Ny208.out] at ho;replace BK194:=jM (blk_grown (g:=gb194) (o:=.cells #[.slice A0_0 l0_0.length c0_0,.slice A0_1 l0_1.length c0_1,.slice A0_2 l0_2.length c0_2,.slice A0_3 l0_3.length c0_3,.int .i64 a0_4] 27 (0,0)) (tK BK194.out) hg (Kd.R_ne HO_11.out BK194.out (by decide)));replace BK195:=jM (blk_grown (g:=gb195) (o:=.cells #[.slice A1_0 l1_0.length c1_0,.slice A1_1 l1_1.length c1_1] 44 (0,0)) (tK BK195.out) hg (Kd.R_ne HO_11.out BK195.out (by decide)));replace BK201:=jM (blk_grown (g:=gb201) (o:=.cells #[.slice (some ad202) ((rd_T96 l2 a3).f0).length c200_0,.slice A200_1 ((rd_T96 l2 a3).f1).length c200_1] 96 (0,0)) (tK BK201.out) hg (Kd.R_ne HO_11.out BK201.out (by decide)));replace BK203:=jM (blk_grown (g:=gb203) (o:=.cells #[.int .i64 ((rd_T77 ((rd_T96 l2 a3).f0) x35_2).f0),.int .i64 ((rd_T77 ((rd_T96 l2 a3).f0) x35_2).f1)] 77 (0,0)) (tK BK203.out) hg (Kd.R_ne HO_11.out BK203.out (by decide)));replace HB:=jM (hb);have HO210:=jM (ho);clear HO_11 ho hb hg hat))
               go_roundg kj25
               case measure=>have:=HJ6.out;have:=HK2.out;have:=HJ25.out;omega
               case rel=>exact ⟨(y208),(wrap64 (x35_2+1)),tZ,H',⟨by have:=HJ6.out;have:=HK2.out;have:=HJ25.out;omega⟩,⟨tR HO210.out⟩,⟨tK BK194.out⟩,⟨tK BK195.out⟩,⟨tK BK201.out⟩,⟨tE HB.out⟩⟩
              ·rw [if_neg c46] at H
               exact absurd H (by simp)
             ·rw [if_neg c45] at H
              have c45b0:decide (((rd_T77 ((rd_T96 l2 a3).f0) x35_2).f0) < 0)=false:=decide_eq_false c45
              clear c45
              by_cases c52:x11_2.length < 8796093022208
              ·rw [if_pos c52] at H
               have LMc52:=jM c52
               clear c52
               obtain ⟨y211,hy211⟩:∃ y_:List (S53),y_=(x11_2 ++ [(⟨2,((rd_T77 ((rd_T96 l2 a3).f0) x35_2).f0)⟩:S53)]):=⟨_,rfl⟩
               replace H:(table_deeds.l0 kj25 a4 y211 ((rd_T96 l2 a3).f0) (((rd_T96 l2 a3).f0).length:Int) (wrap64 (x35_2+1)) l0_0 l0_1 l0_2 l0_3 a0_4 ((rd_T96 l2 a3).f0) ((rd_T96 l2 a3).f1))=some r:=by first | (rw [hy211];with_reducible exact H) | (have H2_:=(Option.bind_some _ _).symm.trans H;rw [hy211];with_reducible exact H2_) | (have H2_:=(Option.bind_some _ _).symm.trans H;with_reducible exact H2_) | with_reducible exact H | (rw [hy211];exact H) | exact H
               have Ny211:=jM hy211
               clear hy211
               have H':=jM H
               clear H
               have hnb53:=NB203_194.out
               have hnc53:=NB194_203.out
               have hnb54:=NB203_195.out
               have hnc54:=NB195_203.out
               have hnb55:=NB203_201.out
               have hnc55:=NB201_203.out
               have hcz56_0:wc.cell? ⟨gb203,0,none⟩=some (.int .i64 ((rd_T77 ((rd_T96 l2 a3).f0) x35_2).f0)):=(jC BK203.out 0).trans rfl
               have hcz56_1:wc.cell? ⟨gb203,1,none⟩=some (.int .i64 ((rd_T77 ((rd_T96 l2 a3).f0) x35_2).f1)):=(jC BK203.out 1).trans rfl
               have hfz56_0:=jF BK203.out 0
               have hfz56_1:=jF BK203.out 1
               go_wp2_with (first | ((with_reducible refine gate_builtin (b:=.append) (xs:=#[.tmp 40,.tmp 44]) rfl ?_);at_builtin;refine Kd.R_append k53 (w0:=w) w.heap.size rfl (.tmp 40) (.tmp 44) 49 53 (.agg #[(.int .i64 0),(.int .i64 0)]) 16 rfl Tryz.underlying49 info53 rfl (by decide) (by omega) u11 x11_2 (⟨2,((rd_T77 ((rd_T96 l2 a3).f0) x35_2).f0)⟩:S53) [.int .i64 2,.int .i64 ((rd_T77 ((rd_T96 l2 a3).f0) x35_2).f0)] (fun _=>True) (fun _=>False) rfl rfl ?aP (fun _ hk=>hk.elim) ?aF ?aO ?aB ?aS ?aL ?_;(case aP=>exact k53_mkM _ _ _ (⟨2,((rd_T77 ((rd_T96 l2 a3).f0) x35_2).f0)⟩:S53));(case aB=>exact (tE HB.out));(case aF=>exact (fun _ _=>trivial));(case aO=>exact (tR HO_11.out));(case aS=>exact (below_size (tE HB.out)));(case aL=>have:=LMc52.out;omega);intro v212 w57 ho hb hg hat;rw [← Ny211.out] at ho;replace BK194:=jM (blk_grown (g:=gb194) (o:=.cells #[.slice A0_0 l0_0.length c0_0,.slice A0_1 l0_1.length c0_1,.slice A0_2 l0_2.length c0_2,.slice A0_3 l0_3.length c0_3,.int .i64 a0_4] 27 (0,0)) (tK BK194.out) hg (Kd.R_ne HO_11.out BK194.out (by decide)));replace BK195:=jM (blk_grown (g:=gb195) (o:=.cells #[.slice A1_0 l1_0.length c1_0,.slice A1_1 l1_1.length c1_1] 44 (0,0)) (tK BK195.out) hg (Kd.R_ne HO_11.out BK195.out (by decide)));replace BK201:=jM (blk_grown (g:=gb201) (o:=.cells #[.slice (some ad202) ((rd_T96 l2 a3).f0).length c200_0,.slice A200_1 ((rd_T96 l2 a3).f1).length c200_1] 96 (0,0)) (tK BK201.out) hg (Kd.R_ne HO_11.out BK201.out (by decide)));replace BK203:=jM (blk_grown (g:=gb203) (o:=.cells #[.int .i64 ((rd_T77 ((rd_T96 l2 a3).f0) x35_2).f0),.int .i64 ((rd_T77 ((rd_T96 l2 a3).f0) x35_2).f1)] 77 (0,0)) (tK BK203.out) hg (Kd.R_ne HO_11.out BK203.out (by decide)));replace HB:=jM (hb);have HO213:=jM (ho);clear HO_11 ho hb hg hat))
               go_roundg kj25
               case measure=>have:=HJ6.out;have:=HK2.out;have:=HJ25.out;omega
               case rel=>exact ⟨(y211),(wrap64 (x35_2+1)),tZ,H',⟨by have:=HJ6.out;have:=HK2.out;have:=HJ25.out;omega⟩,⟨tR HO213.out⟩,⟨tK BK194.out⟩,⟨tK BK195.out⟩,⟨tK BK201.out⟩,⟨tE HB.out⟩⟩
              ·rw [if_neg c52] at H
               exact absurd H (by simp)
         ·rw [if_neg c25] at H
          exact absurd H (by simp)
        ·rw [if_neg c24] at H
         exact absurd H (by simp)
       ·rw [if_neg c23] at H
        have c23b0:decide (x35_2 < (((rd_T96 l2 a3).f0).length:Int))=false:=decide_eq_false c23
        clear c23
        obtain rfl:=Option.some.inj H
        go_wp2
        go_ret
        exact ⟨_,by first | rfl | (simp [errW_none,errW_some] <;> rfl) | (simp [*,errW_none,errW_some] <;> rfl),tR HO_11.out,tE HB.out⟩
    ·rw [if_neg c18] at H
     exact absurd H (by simp)
   ·rw [if_neg c17] at H
    exact absurd H (by simp)
end
end Go.Proofs.YtclollnicbcooaaGreatDoor.P
namespace Go.Proofs.YtclollnicbcooaaGreatDoor.P
open Go.RowKit Go.Lib Go.Sort YtclollnicbcooaaGreatDoorW.PrintWords St Base
abbrev Spt:=Int × Itm
def rngN (n:Int):Prop:=-9223372036854775808≤n∧n≤9223372036854775807
def rngS (s:Spt):Prop:=rngN s.1∧rngI s.2
def valS (s:Spt):Value:=.agg #[.int .i64 s.1,.int .i64 s.2.1,.int .i64 s.2.2]
def encS (s:Spt):List Value:=[.int .i64 s.1,.int .i64 s.2.1,.int .i64 s.2.2]
theorem keyed125:Maps.Keyed Tryz.prog 125 :=
 Maps.Keyed.of_law (deep_law_laid (by kernel_rfl) (m:=3) (by omega) (of_decide_eq_true (by kernel_rfl)) (by kernel_rfl) (by rw [Tryz.underlying125]))
theorem cells_valS (s:Spt):(valS s).cells=#[.int .i64 s.1,.int .i64 s.2.1,.int .i64 s.2.2]:=rfl
theorem key_ofS (s:Spt) (h:rngS s):∃ k,keyOf Tryz.prog 125 (valS s)=some k:=by
 have hk:Tryz.prog.keyType 125=true:=by kernel_rfl
 have hc:Tryz.prog.cellsOf 125=3:=by kernel_rfl
 have hc37:Tryz.prog.cellsOf 77=2:=by kernel_rfl
 have hc3:Tryz.prog.cellsOf 3=1:=by kernel_rfl
 have hf:(valS s).formed Tryz.prog 125=true:=by
  unfold valS Value.formed
  rw [Tryz.underlying125]
  simp [hc]
 have h3:∀ (d:Nat) (n:Int),(-9223372036854775808≤n∧n≤9223372036854775807)→Tryz.prog.keyLits (d+1) 3 [.int .i64 n]=some [.int .i64 n]:=fun d n hn=>by
  unfold Program.keyLits
  rw [Tryz.underlying3]
  simp [wf_i64 hn]
 have h37:∀ (d:Nat),Tryz.prog.keyLits (d+2) 77 [.int .i64 s.2.1,.int .i64 s.2.2]=some [.int .i64 s.2.1,.int .i64 s.2.2]:=fun d=>by
  unfold Program.keyLits
  rw [Tryz.underlying77]
  simp [hc37,hc3,h3 d s.2.1 h.2.1,h3 d s.2.2 h.2.2]
 have hl:Tryz.prog.keyLits (Tryz.prog.types.size+1) 125 [.int .i64 s.1,.int .i64 s.2.1,.int .i64 s.2.2]=some [.int .i64 s.1,.int .i64 s.2.1,.int .i64 s.2.2]:=by
  have hpos:1 < Tryz.prog.types.size:=of_decide_eq_true (by kernel_rfl)
  obtain ⟨d,hd⟩:∃ d,Tryz.prog.types.size=d+2:=⟨Tryz.prog.types.size - 2,by omega⟩
  rw [hd]
  unfold Program.keyLits
  rw [Tryz.underlying125]
  simp [hc,hc37,hc3,h3 (d+1) s.1 h.1,h37 d]
 unfold keyOf
 rw [Tryz.underlying125]
 simp only [hk,hf,Bool.and_self,if_true]
 have hcs:(valS s).cells.toList=[.int .i64 s.1,.int .i64 s.2.1,.int .i64 s.2.2]:=rfl
 rw [hcs,hl]
 exact ⟨_,rfl⟩
theorem valS_inj {x y:Spt} (h:valS x=valS y):x=y:=by
 have h':(valS x).cells.toList=(valS y).cells.toList:=by rw [h]
 rw [cells_valS,cells_valS] at h'
 injection h' with h1 h2
 injection h2 with h2 h3
 injection h3 with h3 _
 injection h1 with _ h1
 injection h2 with _ h2
 injection h3 with _ h3
 exact Prod.ext h1 (Prod.ext h2 h3)

def upd (F:Spt→Int) (s:Spt) (u:Int):Spt→Int:=fun t=>if t=s then u else F t
theorem upd_same (F:Spt→Int) (s:Spt) (u:Int):upd F s u s=u:=if_pos rfl
theorem upd_other (F:Spt→Int) {s t:Spt} (u:Int) (h:t≠s):upd F s u t=F t:=if_neg h

structure Ah (W:World) (r:Nat) (F:Spt→Int):Prop where
 ex:∃ l,Mp Tryz.prog 125 W r l∧(l.map Prod.fst).Nodup∧(∀ p ∈ l,∃ s,rngS s∧p=(valS s,.int .u64 (F s)))∧(∀ s,F s≠0→(valS s,Value.int .u64 (F s)) ∈ l)
theorem Ah.same {W W':World} {r:Nat} {F:Spt→Int} (h:Ah W r F) (he:W'.heap[r]? = W.heap[r]?):Ah W' r F:=by
 obtain ⟨l,hm,hn,h1,h2⟩:=h.ex
 exact ⟨⟨l,hm.same he,hn,h1,h2⟩⟩
theorem Ah.lt {W:World} {r:Nat} {F:Spt→Int} (h:Ah W r F):r < W.heap.size:=by
 obtain ⟨l,hm,_⟩:=h.ex
 exact hm.lt
theorem Ah.new (W:World):Ah (W.alloc (.map #[] 0)) W.heap.size (fun _=>0) :=
 ⟨⟨[],Mp.new Tryz.prog 125 W,List.nodup_nil,(fun p hp=>by cases hp),fun s h=>absurd rfl h⟩⟩
theorem Ah.look {W:World} {r:Nat} {F:Spt→Int} (h:Ah W r F) {s:Spt} (hs:rngS s) (W':World) (he:W'.heap[r]? = W.heap[r]?):(Instr.lookup 119 (.map (some r)) (valS s) false).run Tryz.prog W'=.ok (.int .u64 (F s)) W':=by
 obtain ⟨l,hm,hnd,h1,h2⟩:=h.ex
 obtain ⟨k,hk⟩:=key_ofS s hs
 have hm':=hm.same he
 by_cases hin:∃ p ∈ l,p.1=valS s
 ·obtain ⟨p,hp,e⟩:=hin
  have hu:∀ p ∈ l,p.1=valS s→p.2=.int .u64 (F s):=fun p hp e=>by
   obtain ⟨t,_,rfl⟩:=h1 p hp
   rw [valS_inj e]
  have hi:(valS s,Value.int .u64 (F s)) ∈ l:=by
   have:=hu p hp e
   rw [← e,← this];exact hp
  exact hm'.find (et:=48) Tryz.underlying119 keyed125 hk hi hu false
 ·have hz:F s=0:=Classical.byContradiction fun hne=>hin ⟨_,h2 s hne,rfl⟩
  rw [hz]
  exact hm'.miss (et:=48) Tryz.underlying119 keyed125 hk (Tryz.zeroValue48 W') (fun p hp e=>hin ⟨p,hp,e⟩) false
structure One (W W':World) (r:Nat):Prop where
 size:W'.heap.size=W.heap.size
 other:∀ k,k≠r→W'.heap[k]? = W.heap[k]?
 os:W'.os=W.os
 tape:W'.tape=W.tape
 output:W'.output=W.output
theorem put_one (W:World) (r:Nat) (k v:Value):One W (Mp.put W r k v) r:=by
 obtain ⟨h1,h2⟩:=Mp.put_heap W r k v
 refine ⟨h1,h2, ?_, ?_, ?_⟩ <;> unfold Mp.put <;> split <;> rfl
theorem Ah.store {W:World} {r:Nat} {F:Spt→Int} (h:Ah W r F) {s:Spt} (hs:rngS s) (u:Int) :
  ∃ W',(Instr.mapUpdate 119 (.map (some r)) (valS s) (.int .u64 u)).run Tryz.prog W=.ok () W'∧Ah W' r (upd F s u)∧One W W' r:=by
 obtain ⟨l,hm,hnd,h1,h2⟩:=h.ex
 obtain ⟨k,hk⟩:=key_ofS s hs
 by_cases hin:∃ p ∈ l,p.1=valS s
 ·obtain ⟨es,c,hb,rfl⟩:=hm.holds
  have hks:∀ e ∈ es.toList,∃ l,keyOf Tryz.prog 125 e.key=some l:=fun e he=>hm.keys (e.key,e.val) (List.mem_map.2 ⟨e,he,rfl⟩)
  rcases keyed125.find W hk es.toList hks with ⟨-,hno⟩ | ⟨j,e,hf,hj,hkey⟩
  ·obtain ⟨p,hp,e⟩:=hin
   obtain ⟨e0,he0,rfl⟩:=List.mem_map.1 hp
   exact absurd e (hno e0 he0)
  ·obtain ⟨W',hW'⟩:∃ W':World,W'={ W with heap:=W.heap.setIfInBounds r (.map (es.modify j fun e=>{ e with key:=valS s,val:=.int .u64 u }) c) }:=⟨_,rfl⟩
   have hset:=MapKept.heap_set (w:=W) (o':=.map (es.modify j fun e=>{ e with key:=valS s,val:=.int .u64 u }) c) hb
   have hst:=keyed125.stays W hk
   have hj':es[j]? = some e:=by rw [← hj];simp
   obtain ⟨L,hL⟩:∃ L,L=es.toList.map (fun e=>(e.key,e.val)):=⟨_,rfl⟩
   have hmod:(es.modify j fun e=>{ e with key:=valS s,val:=.int .u64 u }).toList.map (fun e=>(e.key,e.val))=L.set j (valS s,.int .u64 u):=by
    rw [hL]
    apply List.ext_getElem?
    intro i
    simp only [Array.toList_modify,List.getElem?_map,List.getElem?_modify,List.getElem?_set]
    by_cases hji:j=i
    ·subst hji
     rw [if_pos rfl,hj]
     have:=(List.getElem?_eq_some_iff.1 hj).1
     rw [Array.length_toList] at this
     simp [this]
    ·rw [if_neg hji]
     simp [hji]
   have hLj:L[j]? = some (valS s,e.val):=by rw [hL,List.getElem?_map,hj,← hkey];rfl
   rw [← hL] at hnd h1 h2
   have hmem:∀ p ∈ L.set j (valS s,.int .u64 u),p=(valS s,.int .u64 u) ∨ (p ∈ L∧p.1≠valS s):=fun p hp=>by
    obtain ⟨i,hi⟩:=List.mem_iff_getElem?.1 hp
    rw [List.getElem?_set] at hi
    by_cases hji:j=i
    ·subst hji
     rw [if_pos rfl] at hi
     split at hi
     ·injection hi with hi;exact .inl hi.symm
     ·cases hi
    ·rw [if_neg hji] at hi
     refine .inr ⟨List.mem_of_getElem? hi,fun e'=>hji ?_⟩
     have hij:(L.map Prod.fst)[i]? = (L.map Prod.fst)[j]?:=by rw [List.getElem?_map,List.getElem?_map,hi,hLj];simp [e']
     have hlt:i < (L.map Prod.fst).length:=by rw [List.length_map];exact (List.getElem?_eq_some_iff.1 hi).1
     exact ((List.getElem?_inj hlt hnd).1 hij).symm
   refine ⟨W', ?_,⟨⟨L.set j (valS s,.int .u64 u),⟨⟨_,c, ?_,hmod⟩, ?_⟩, ?_, ?_, ?_⟩⟩, ?_⟩
   ·rw [hW']
    simp [Instr.mapUpdate,run_underlying Tryz.underlying119,MapKept.run_getObj_map hb,keyed125.check W _ hk,hf,hj',hkey,hst,MapKept.run_setObj_map _ hb,Result.andThen]
   ·rw [hW'];exact hset.1
   ·intro p hp
    rcases hmem p hp with rfl | ⟨hp,_⟩
    ·exact ⟨k,hk⟩
    ·exact hm.keys p (by rw [← hL];exact hp)
   ·rw [List.map_set]
    have e5:(L.map Prod.fst).set j (valS s)=L.map Prod.fst:=by
     apply List.ext_getElem?
     intro i
     rw [List.getElem?_set]
     by_cases hji:j=i
     ·subst hji
      have:=(List.getElem?_eq_some_iff.1 hLj).1
      rw [if_pos rfl,if_pos (by rw [List.length_map];exact this),List.getElem?_map,hLj]
      rfl
     ·rw [if_neg hji]
    rw [e5]
    exact hnd
   ·intro p hp
    rcases hmem p hp with rfl | ⟨hp,hne⟩
    ·exact ⟨s,hs,by rw [upd_same]⟩
    ·obtain ⟨t,ht,rfl⟩:=h1 p hp
     exact ⟨t,ht,by rw [upd_other F u (fun e=>hne (by rw [e]))]⟩
   ·intro t ht
    by_cases hts:t=s
    ·subst hts
     rw [upd_same]
     exact List.mem_iff_getElem?.2 ⟨j,by rw [List.getElem?_set,if_pos rfl,if_pos (List.getElem?_eq_some_iff.1 hLj).1]⟩
    ·rw [upd_other F u hts] at ht ⊢
     obtain ⟨i,hi⟩:=List.mem_iff_getElem?.1 (h2 t ht)
     refine List.mem_iff_getElem?.2 ⟨i, ?_⟩
     rw [List.getElem?_set,if_neg,hi]
     intro e'
     subst e'
     rw [hLj] at hi
     injection hi with hi
     injection hi with hi _
     exact hts (valS_inj hi).symm
   ·rw [hW']
    exact ⟨by simp,hset.2,rfl,rfl,rfl⟩
 ·have hno:∀ p ∈ l,p.1≠valS s:=fun p hp e=>hin ⟨p,hp,e⟩
  refine ⟨Mp.put W r (valS s) (.int .u64 u),hm.store (et:=48) Tryz.underlying119 keyed125 hk hno _,⟨⟨_,hm.put_is hk (.int .u64 u), ?_, ?_, ?_⟩⟩,put_one W r _ _⟩
  ·rw [List.map_append,List.nodup_append]
   refine ⟨hnd,by simp,fun a ha b hb e=>?_⟩
   obtain ⟨p,hp,rfl⟩:=List.mem_map.1 ha
   simp at hb
   exact hno p hp (e.trans hb)
  ·intro p hp
   rcases List.mem_append.1 hp with hp | hp
   ·obtain ⟨t,ht,rfl⟩:=h1 p hp
    refine ⟨t,ht, ?_⟩
    rw [upd_other F u (fun e=>hno _ hp (by rw [e]))]
   ·rw [List.mem_singleton] at hp
    exact ⟨s,hs,by rw [hp,upd_same]⟩
  ·intro t ht
   by_cases hts:t=s
   ·subst hts
    rw [upd_same]
    exact List.mem_append_right _ (List.mem_singleton.2 rfl)
   ·rw [upd_other F u hts] at ht ⊢
    exact List.mem_append_left _ (h2 t ht)
end Go.Proofs.YtclollnicbcooaaGreatDoor.P
namespace Go.Proofs.YtclollnicbcooaaGreatDoor.P
open Go.RowKit Go.Lib Go.Sort YtclollnicbcooaaGreatDoorW.PrintWords YtclollnicbcooaaGreatDoorW.PrintLast YtclollnicbcooaaGreatDoorW.PrintMore St Base
section
attribute [local go_sem] Oper.semAt_some

structure Lk (w:World) (B:Nat) (g0 g1 g2 g3 g4 Kv Nv:Value) (F:Spt→Int) (q:List Spt) (vq:Value) (ok:Nat→Prop) (W:World):Prop where
 hb:RowKit.Below w.heap.size w W
 hB:w.heap.size≤B
 bg:W.heap[B]? = some (.cells #[g0,g1,g2,g3,g4] 27 (0,0))
 ba:W.heap[B+1]? = some (.cells #[Kv,Nv] 44 (0,0))
 mp:Ah W (B+2) F
 bx:W.heap[B+3]? = some (.cells #[g0,g1,g2,g3,g4,Kv,Nv,.map (some (B+2)),vq] 122 (0,0))
 hq:(Kd.raw 3).Q 125 W (B+4) ok vq (q.map encS)
 ge:∀ k,ok k→B+4≤k
section
variable {w:World} {B:Nat} {g0 g1 g2 g3 g4 Kv Nv:Value} {F F':Spt→Int} {q:List Spt} {vq v1:Value} {ok:Nat→Prop} {W W1:World} {s:Spt}
theorem Lk.size (h:Lk w B g0 g1 g2 g3 g4 Kv Nv F q vq ok W):B+4≤W.heap.size:=by have:=blk_lt h.bx;omega
theorem Lk.below (h:Lk w B g0 g1 g2 g3 g4 Kv Nv F q vq ok W) (hb:RowKit.Below W.heap.size W W1):Lk w B g0 g1 g2 g3 g4 Kv Nv F q vq ok W1 where
 hb:=below_step h.hb hb
 hB:=h.hB
 bg:=blk_below h.bg hb
 ba:=blk_below h.ba hb
 mp:=h.mp.same (hb.block _ h.mp.lt)
 bx:=blk_below h.bx hb
 hq:=Kd.Q_below h.hq hb
 ge:=h.ge
theorem Lk.one (h:Lk w B g0 g1 g2 g3 g4 Kv Nv F q vq ok W) (ho:One W W1 (B+2)) (hF:Ah W1 (B+2) F'):Lk w B g0 g1 g2 g3 g4 Kv Nv F' q vq ok W1 where
 hb:=⟨ho.os.trans h.hb.os,ho.tape.trans h.hb.tape,ho.output.trans h.hb.output,by rw [ho.size];exact h.hb.size,fun i hi=>(ho.other i (by have:=h.hB;omega)).trans (h.hb.block i hi)⟩
 hB:=h.hB
 bg:=(ho.other _ (by omega)).trans h.bg
 ba:=(ho.other _ (by omega)).trans h.ba
 mp:=hF
 bx:=(ho.other _ (by omega)).trans h.bx
 hq:=Kd.Q_step h.hq (fun k hk _=>ho.other k (by have:=h.ge k hk;omega))
 ge:=h.ge
theorem Lk.push (h:Lk w B g0 g1 g2 g3 g4 Kv Nv F q vq ok W) {q':List Spt} (hq:(Kd.raw 3).Q 125 W1 (B+4) ok v1 (q'.map encS)) (hg:W.grownBy W1 vq.ownBlock):Lk w B g0 g1 g2 g3 g4 Kv Nv F q' v1 ok (W1.setCell ⟨B+3,8,none⟩ v1):=by
 have hbs:=fun k hk=>h.ge k (h.hq.1 k hk)
 have hk:∀ k,k < B+4→W1.heap[k]? = W.heap[k]?:=fun k hk=>hg.block k (by have:=h.size;omega) (fun e=>by have:=hbs k e.symm;omega)
 have hf:∀ k,k≠B+3→(W1.setCell ⟨B+3,8,none⟩ v1).heap[k]? = W1.heap[k]?:=fun k hk=>Below.heap_setCell W1 ⟨B+3,8,none⟩ v1 k hk
 have hB:=h.hB
 refine ⟨below_set (below_grown h.hb hg (fun k hk=>by have:=hbs k hk;omega)) (by show w.heap.size≤B+3;omega),hB, ?_, ?_, ?_, ?_, ?_,h.ge⟩
 ·exact ((hf _ (by omega)).trans (hk _ (by omega))).trans h.bg
 ·exact ((hf _ (by omega)).trans (hk _ (by omega))).trans h.ba
 ·exact h.mp.same ((hf _ (by omega)).trans (hk _ (by omega)))
 ·exact blk_put ((hk _ (by omega)).trans h.bx) 8 _ rfl
 ·exact Kd.Q_far hq (fun k hk=>by have:=h.ge k hk;show k≠B+3;omega) _
end
def moreL (F:Spt→Int) (q:List Spt) (s:Spt) (t:Int):(Spt→Int) × List Spt :=
 if Go.bits .or .u64 (F s) t=F s then (F,q) else (upd F s (Go.bits .or .u64 (F s) t),q ++ [s])
theorem raw_enc (s:Spt) {W:World} {b:Nat} {ok:Nat→Prop}:(Kd.raw 3).M W b ok (encS s) (encS s):=⟨rfl,rfl,fun u hu=>by
 simp [encS] at hu
 rcases hu with rfl | rfl | rfl <;> rfl⟩
theorem info125:(Tryz.prog.info? 125).map (fun i=>(i.zero,i.size,i.bytes))=some (some (.agg #[.int .i64 0,.int .i64 0,.int .i64 0]),3,24):=by kernel_rfl

theorem append_spot {w:World} {B:Nat} {g0 g1 g2 g3 g4 Kv Nv:Value} {F:Spt→Int} {q:List Spt} {vq:Value} {ok:Nat→Prop} {W:World} (h:Lk w B g0 g1 g2 g3 g4 Kv Nv F q vq ok W) (s:Spt) (hf:∀ k,W.heap.size≤k→ok k) (hl:q.length≤1000000000)
  (ops:Array Oper) (o:Oper) (ac:Act) (Q:Exit→Act→World→Prop) (Kc:Act→World→Prop) (hw:Region.wanted o (yielded ops ac.tmps)=true)
  (ho:o.op=.call { callee:=.builtin .append,args:=#[.tmp 33,.tmp 35],argTypes:=#[120,120] }) (hs:ac.eval (.tmp 33)=vq) (hx:ac.eval (.tmp 35)=.slice (some ⟨W.heap.size,0,none⟩) 1 1)
  (hk:∀ v1 w1,(Kd.raw 3).Q 125 w1 (B+4) ok v1 ((q ++ [s]).map encS)→W.grownBy w1 vq.ownBlock→(v1.ownBlock=vq.ownBlock ∨ ∃ b,v1.ownBlock=some b∧W.heap.size≤b)→Kc (ac.put o.dst v1) w1) :
  if Region.wanted o (yielded ops ac.tmps)=true then Oper.wp Tryz.prog o ac (W.alloc (.cells #[.int .i64 s.1,.int .i64 s.2.1,.int .i64 s.2.2] 125)) Kc Q else Kc (ac.put o.dst undef) (W.alloc (.cells #[.int .i64 s.1,.int .i64 s.2.1,.int .i64 s.2.2] 125)):=by
 have hsz:=h.size
 refine Kd.Q_append_step (Kd.raw 3) (w0:=W) (B+4) hw (.tmp 33) (.tmp 35) 120 125 _ 24 ho Tryz.underlying120 info125 rfl (by decide) (by decide) vq (q.map encS) (encS s) (encS s) ok (fun _=>False) hs hx (raw_enc s) (fun _ h=>h.elim) hf h.hq (RowKit.Below.refl _ _) hsz (by rw [List.length_map];omega) ?_
 intro v1 w1 hR hB hg hat
 exact hk v1 w1 (by rw [List.map_append];exact hR) hg hat

set_option maxHeartbeats 4000000 in
set_option maxRecDepth 100000 in
theorem more_calls {w:World} {B:Nat} {g0 g1 g2 g3 g4 Kv Nv:Value} {F:Spt→Int} {q:List Spt} {vq:Value} {ok:Nat→Prop} {W:World} (h:Lk w B g0 g1 g2 g3 g4 Kv Nv F q vq ok W) {s:Spt} (hs:rngS s) (t:Int) (hf:∀ k,W.heap.size≤k→ok k) (hl:q.length≤1000000000) :
  Calls Tryz.prog 66 #[.pointer (some ⟨B+3,0,none⟩),valS s,.int .u64 t] W fun e w'=>e=.returned (.tuple #[])∧∃ vq',Lk w B g0 g1 g2 g3 g4 Kv Nv (moreL F q s t).1 (moreL F q s t).2 vq' ok w'∧W.heap.size≤w'.heap.size∧(∀ k,k < W.heap.size→k≠B+2→k≠B+3→some k≠vq.ownBlock→w'.heap[k]? = W.heap[k]?)∧(vq'.ownBlock=vq.ownBlock ∨ ∃ b,vq'.ownBlock=some b∧W.heap.size≤b):=by
 have H:=jM h
 have HS:=jM hs
 have HF:=jM hf
 have HL:=jM hl
 clear h hs hf hl
 have hu125:=Tryz.underlying125
 have hu122:=Tryz.underlying122
 have hu77:=Tryz.underlying77
 unfold valS
 go_enter Tryz.func66,Tryz.ntmps66
 go_upto_region 1 with fail
 have BS:=jM (blk_new W (Obj.cells #[.int .i64 s.1,.int .i64 s.2.1,.int .i64 s.2.2] 125))
 have HB1:=jM (below_alloc (RowKit.Below.refl W.heap.size W) (Obj.cells #[.int .i64 s.1,.int .i64 s.2.1,.int .i64 s.2.2] 125))
 have H1:=jM (H.out.below (below_alloc (RowKit.Below.refl W.heap.size W) (Obj.cells #[.int .i64 s.1,.int .i64 s.2.1,.int .i64 s.2.2] 125)))
 generalize W.alloc (Obj.cells #[.int .i64 s.1,.int .i64 s.2.1,.int .i64 s.2.2] 125)=W1 at *
 obtain ⟨xb,hxb⟩:∃ x,x=W.heap.size:=⟨_,rfl⟩
 rw [← hxb] at BS ⊢
 have HXB:=jM hxb
 clear hxb
 have y0:W1.cell? ⟨xb,0,none⟩=some (.int .i64 s.1):=blk_cell BS.out 0
 have y1:W1.cell? ⟨xb,1,none⟩=some (.int .i64 s.2.1):=blk_cell BS.out 1
 have y2:W1.cell? ⟨xb,2,none⟩=some (.int .i64 s.2.2):=blk_cell BS.out 2
 have ym:W1.cell? ⟨B+3,7,none⟩=some (.map (some (B+2))):=blk_cell H1.out.bx 7
 have hlk0:=H1.out.mp.look HS.out W1 rfl
 have hlk1:=H1.out.mp.look HS.out W1.drew rfl
 unfold valS at hlk0 hlk1
 have hun:=jM fun (W':World)=>bits_Union.calls (F s) t (Go.bits .or .u64 (F s) t) W' rfl
 go_region_with (go_at_call 78;(with_reducible refine (hun.out _).mono ?_);rintro e w2 ⟨rfl,⟨n,rfl⟩⟩)
 all_goals
  have H2:=jM (H1.out.below (pw_below_drewN (RowKit.Below.refl W1.heap.size W1) (1+n)))
  have HB2:=jM (below_step HB1.out (pw_below_drewN (RowKit.Below.refl W1.heap.size W1) (1+n)))
  have BS2:=jM (blk_drewN BS.out (1+n))
  clear y0 y1 y2 ym hlk0 hlk1 hun H1 BS HB1
  generalize W1.drewN (1+n)=W2 at *
  have y0:W2.cell? ⟨xb,0,none⟩=some (.int .i64 s.1):=blk_cell BS2.out 0
  have y1:W2.cell? ⟨xb,1,none⟩=some (.int .i64 s.2.1):=blk_cell BS2.out 1
  have y2:W2.cell? ⟨xb,2,none⟩=some (.int .i64 s.2.2):=blk_cell BS2.out 2
  have ym:W2.cell? ⟨B+3,7,none⟩=some (.map (some (B+2))):=blk_cell H2.out.bx 7
  have hlk0:=H2.out.mp.look HS.out W2 rfl
  have hlk1:=H2.out.mp.look HS.out W2.drew rfl
  unfold valS at hlk0 hlk1
  obtain ⟨u,hu⟩:∃ u,u=Go.bits .or .u64 (F s) t:=⟨_,rfl⟩
  have HU:=jM hu
  rw [← hu]
  clear hu
  by_cases hne:u=F s
  ·have hd:(u == F s)=true:=by simpa using hne
   have hd2:(u != F s)=false:=by simpa using hne
   have HE:=jM hne
   clear hne
   go_wp2_with fail
   go_region_with fail
   all_goals go_wp2_with fail
   all_goals go_end0
   all_goals
    have hm:moreL F q s t=(F,q):=by unfold moreL;rw [← HU.out,if_pos HE.out]
    rw [hm]
    exact ⟨rfl,vq,H2.out.below (below_drew1 (RowKit.Below.refl _ _)),HB2.out.size,fun k hk _ _ _=>HB2.out.block k hk,.inl rfl⟩
  ·have hd:(u == F s)=false:=by simpa using hne
   have hd2:(u != F s)=true:=by simpa using hne
   have HE:=jM hne
   clear hne
   go_wp2_with fail
   go_region_with fail
   all_goals go_wp2_with fail
   all_goals
    have H3:=jM (H2.out.below (below_drew1 (RowKit.Below.refl W2.heap.size W2)))
    have HB3:=jM (below_step HB2.out (below_drew1 (RowKit.Below.refl W2.heap.size W2)))
    have BS3:=jM (blk_drew BS2.out)
    clear y0 y1 y2 ym hlk0 hlk1 hd hd2
    generalize W2.drew=W3 at *
    have y0:W3.cell? ⟨xb,0,none⟩=some (.int .i64 s.1):=blk_cell BS3.out 0
    have y1:W3.cell? ⟨xb,1,none⟩=some (.int .i64 s.2.1):=blk_cell BS3.out 1
    have y2:W3.cell? ⟨xb,2,none⟩=some (.int .i64 s.2.2):=blk_cell BS3.out 2
    have ym:W3.cell? ⟨B+3,7,none⟩=some (.map (some (B+2))):=blk_cell H3.out.bx 7
    obtain ⟨W4,hmu,hah,hone⟩:=(H3.out.mp.same (W':=W3.drew) rfl).store HS.out u
    unfold valS at hmu
    have H4:=jM ((H3.out.below (below_drew1 (RowKit.Below.refl W3.heap.size W3))).one hone hah)
    have BS4:=jM ((hone.other xb (by have:=H.out.size;have:=HXB.out;omega)).trans (blk_drew BS3.out))
    have HB4:=jM (show W.heap.size≤W4.heap.size∧∀ k,k < W.heap.size→k≠B+2→W4.heap[k]? = W.heap[k]? from ⟨by rw [hone.size];exact HB3.out.size,fun k hk h1=>(hone.other k h1).trans (HB3.out.block k hk)⟩)
    clear hah hone
    go_region_with fail
    all_goals go_wp2_with fail
    all_goals
     have H5:=jM (H4.out.below (below_drew1 (RowKit.Below.refl W4.heap.size W4)))
     have HK:=jM (append_spot H5.out s (fun k hk=>HF.out k (Nat.le_trans HB4.out.1 hk)) HL.out)
     clear y0 y1 y2 ym hmu
     have y0:W4.cell? ⟨xb,0,none⟩=some (.int .i64 s.1):=blk_cell BS4.out 0
     have y1:W4.cell? ⟨xb,1,none⟩=some (.int .i64 s.2.1):=blk_cell BS4.out 1
     have y2:W4.cell? ⟨xb,2,none⟩=some (.int .i64 s.2.2):=blk_cell BS4.out 2
     have y8:W4.cell? ⟨B+3,8,none⟩=some vq:=blk_cell H4.out.bx 8
     have hlt:B+3 < W4.heap.size:=blk_lt H4.out.bx
     have hlt2:xb < W4.heap.size:=blk_lt BS4.out
     go_region_law (refine HK.out _ _ _ _ _ (by rfl) rfl (by simp [Act.eval,Act.put]) (by simp [Act.eval,Act.put]) ?_;intro v1 w1 hQ hg hat;obtain ⟨A8,c8,e8,hc8⟩:=Kd.Q_slice hQ;subst e8;have hbx:=(hg.block (B+3) (blk_lt H5.out.bx) (fun e=>by have:=H5.out.ge _ (H5.out.hq.1 _ e.symm);omega)).trans H5.out.bx;have d8:=blk_cell hbx 8;have f8:=blk_frozen hbx 8;have HQ:=jM hQ;have HG:=jM hg;have HAT:=jM hat;clear hQ hg hat hbx hc8)
     all_goals go_wp2_with fail
     all_goals go_end0
     all_goals
      have hm:moreL F q s t=(upd F s u,q ++ [s]):=by unfold moreL;rw [← HU.out,if_neg HE.out]
      rw [hm]
      have hsz:=H.out.size
      have e9:(List.map encS (q ++ [s])).length=q.length+1:=by simp
      rw [e9] at HQ HAT
      refine ⟨rfl,_,H5.out.push HQ.out HG.out, ?_, ?_, ?_⟩
      ·rw [World.size_setCell]
       exact Nat.le_trans HB4.out.1 HG.out.size
      ·intro k hk h1 h2 h3
       rw [Below.heap_setCell _ _ _ k (by show k≠B+3;exact h2)]
       exact (HG.out.block k (Nat.lt_of_lt_of_le hk HB4.out.1) h3).trans (HB4.out.2 k hk h1)
      ·rcases HAT.out with h1 | ⟨b,h1,h2⟩
       ·exact .inl h1
       ·exact .inr ⟨b,h1,Nat.le_trans HB4.out.1 h2⟩
end
section
attribute [local go_sem] Oper.semAt_some

def rightF (st:Int) (l3:List S68) (p:Int):Option (List Int):=if p < 0 then some [wrap64 ((-1) - st)] else if p < (l3.length:Int) then some (rd_T68 l3 p).f2 else none
theorem jL_ (w:World) (a:Addr) {u:Value} (h:w.cell? a=some u):a.block < w.heap.size:=World.block_lt_of_cell? w a h
set_option maxHeartbeats 4000000 in
set_option maxRecDepth 100000 in
theorem right_calls {w:World} {B:Nat} {A0 A1 A2 A3:Option Addr} {c0 c1 c2 c3:Nat} {l0:List S65} {l1:List S73} {l2:List ByteArray} {l3:List S68} {st:Int} {Kv Nv:Value} {F:Spt→Int} {q:List Spt} {vq:Value} {ok:Nat→Prop} {W:World}
  (hr3:Kd.C k68 w A3 l3.length l3) (h:Lk w B (.slice A0 l0.length c0) (.slice A1 l1.length c1) (.slice A2 l2.length c2) (.slice A3 l3.length c3) (.int .i64 st) Kv Nv F q vq ok W) (p:Int) (r:List Int) (hp:rightF st l3 p=some r) :
  Calls Tryz.prog 80 #[.pointer (some ⟨B+3,0,none⟩),.int .i64 p] W fun e w'=>∃ A c,e=.returned (.slice A r.length c)∧r.length≤c∧Kd.C (Kd.int .i64) w' A r.length r∧(p < 0 ∨ Kd.C (Kd.int .i64) w A r.length r)∧RowKit.Below W.heap.size W w':=by
 have hu122:=Tryz.underlying122
 have hu27:=Tryz.underlying27
 have hu68:=Tryz.underlying68
 have hu66:=Tryz.underlying66
 have y3:=blk_cell h.bx 3
 have y4:=blk_cell h.bx 4
 replace y3:W.cell? ⟨B+3,3,none⟩=some (.slice A3 l3.length c3):=y3
 replace y4:W.cell? ⟨B+3,4,none⟩=some (.int .i64 st):=y4
 have H:=jM h
 have HR3:=jM (Kd.C_below hr3 h.hb)
 have HR:=jM hr3
 clear h hr3
 unfold rightF at hp
 by_cases hn:p < 0
 ·have hd:decide (p < 0)=true:=decide_eq_true hn
  rw [if_pos hn] at hp
  obtain rfl:=Option.some.inj hp
  have HN:=jM hn
  clear hn hp
  go_enter Tryz.func80,Tryz.ntmps80
  go_wp2
  go_ret
  exact ⟨_,_,rfl,Nat.le_refl _,C_one (blk_new W _) rfl,.inl HN.out,below_alloc (RowKit.Below.refl _ _) _⟩
 ·have hd:decide (p < 0)=false:=decide_eq_false hn
  rw [if_neg hn] at hp
  split at hp
  ·rename_i hlt
   obtain rfl:=Option.some.inj hp
   obtain ⟨ad,A,c,e,hx0,hx1,hx2,hx3,hle,hC⟩:=at_T68 HR3.out p (by omega) hlt
   obtain ⟨ad',A',c',e',hx0',hx1',hx2',hx3',hle',hC'⟩:=at_T68 HR.out p (by omega) hlt
   have hd2:decide (p < (l3.length:Int))=true:=decide_eq_true hlt
   have hd3:decide (0≤p)=true:=decide_eq_true (by omega)
   subst e
   obtain rfl:=Option.some.inj e'
   have hcell:∀ a v,w.cell? a=some v→W.cell? a=some v:=fun a v hv=>by rw [H.out.hb.cell (jL_ w a hv)];exact hv
   have e2:=(hcell _ _ hx2').symm.trans hx2
   have HX:=jM (Option.some.inj e2)
   have HC:=jM hC
   have HC':=jM hC'
   have HL:=jM hle
   clear hcell e2 hx0' hx1' hx2' hx3' hC hC' hle hle' hp e'
   have h0:0≤p:=by omega
   go_enter Tryz.func80,Tryz.ntmps80
   go_wp2
   go_ret
   refine ⟨_,_,rfl,HL.out,HC.out,.inr ?_,RowKit.Below.refl _ _⟩
   have:=HX.out
   injection this with h1 h2 h3
   subst h1
   exact HC'.out
  ·cases hp
end
section
abbrev Edg:=Spt × List Int
def restF (st:Int) (l3:List S68) (x:Itm):Option (List Int):=if 0≤x.2 then (rightF st l3 x.1).bind fun r=>if x.2+1≤(r.length:Int) then some (r.drop (x.2.toNat+1)) else none else none
def sortsE (l3:List S68) (i sym:Int) (r:List Int) (j:Nat):List Edg:=((List.range j).filter fun (p:Nat)=>(rd_T68 l3 p).f1 == IntKind.i64.wrap (-1 - sym)).map fun (p:Nat)=>((i,((p:Int),0)),r)
def edgesF (l0:List S65) (l1:List S73) (l2:List ByteArray) (l3:List S68) (st:Int) (K:List (List S77)) (N:List (List Int)) (s:Spt):Option (List Edg) :=
 (states_Behind.f l0 l1 l2 l3 st s.2.1 s.2.2).bind fun b=>if b.2=true then (states_Go.f l0 l1 l2 l3 st K N s.1 b.1).bind fun n=>(if b.1 < 0 then (restF st l3 s.2).map fun r=>(((n,(s.2.1,IntKind.i64.wrap (s.2.2+1))),[]) :: sortsE l3 s.1 b.1 r l3.length) else some [((n,(s.2.1,IntKind.i64.wrap (s.2.2+1))),[])]) else some []

def ER (w:World) (e:Edg) (c:List Value):Prop:=∃ A k,c=[.int .i64 e.1.1,.int .i64 e.1.2.1,.int .i64 e.1.2.2,.slice A e.2.length k]∧e.2.length≤k∧(e.2=[] ∨ Kd.C (Kd.int .i64) w A e.2.length e.2)
structure Er (w:World) (b:Nat) (ok:Nat→Prop) (v:Value) (es:List Edg) (W:World):Prop where
 ex:∃ rows,rows.length=es.length∧(∀ (j:Nat) e c,es[j]? = some e→rows[j]? = some c→ER w e c)∧(Kd.raw 4).R 130 W b ok v rows
section
variable {w:World} {b:Nat} {ok:Nat→Prop} {v:Value} {es:List Edg} {W W1:World}
theorem Er.below (h:Er w b ok v es W) (hb:RowKit.Below W.heap.size W W1):Er w b ok v es W1:=by
 obtain ⟨rows,h1,h2,h3⟩:=h.ex
 exact ⟨⟨rows,h1,h2,Kd.R_below h3 hb⟩⟩
theorem Er.nil:Er w b ok (.slice none 0 0) [] W:=⟨⟨[],rfl,fun j e c h=>by simp at h,Kd.R_nil _ _ _ _ _⟩⟩
theorem Er.slice (h:Er w b ok v es W):∃ A c,v=.slice A es.length c∧es.length≤c:=by
 obtain ⟨rows,h1,h2,h3⟩:=h.ex
 obtain ⟨A,c,e,hc,_⟩:=Kd.R_reads h3
 rw [h1] at e hc
 exact ⟨A,c,e,hc⟩
theorem Er.base (h:Er w b ok v es W):∀ k,v.ownBlock=some k→b≤k:=by
 obtain ⟨rows,h1,h2,h3⟩:=h.ex
 exact Kd.R_base h3
theorem Er.lower {b':Nat} (h:Er w b ok v es W) (hb:b'≤b):Er w b' ok v es W:=by
 obtain ⟨rows,h1,h2,h3⟩:=h.ex
 exact ⟨⟨rows,h1,h2,Kd.R_lower h3 hb⟩⟩
theorem Er.mono {ok':Nat→Prop} (h:Er w b ok v es W) (hk:∀ k,ok k→ok' k):Er w b ok' v es W:=by
 obtain ⟨rows,h1,h2,h3⟩:=h.ex
 exact ⟨⟨rows,h1,h2,Kd.R_mono h3 hk⟩⟩
theorem Er.step (h:Er w b ok v es W) (hm:∀ k,some k=v.ownBlock→k < W.heap.size→W1.heap[k]? = W.heap[k]?):Er w b ok v es W1:=by
 obtain ⟨rows,h1,h2,h3⟩:=h.ex
 exact ⟨⟨rows,h1,h2,Kd.R_mono (Kd.R_step (Kd.R_tight2 rfl h3) (fun k hk hlt=>hm k hk.1 hlt)) (fun k hk=>hk.2)⟩⟩
theorem Er.one (e:Edg) (W:World) (A:Option Addr) (k:Nat) (hk:e.2.length≤k) (hr:e.2=[] ∨ Kd.C (Kd.int .i64) w A e.2.length e.2) (hb:b≤W.heap.size):Er w b (fun k=>b≤k) (.slice (some ⟨W.heap.size,0,none⟩) 1 1) [e] (W.alloc (Obj.cells #[.int .i64 e.1.1,.int .i64 e.1.2.1,.int .i64 e.1.2.2,.slice A e.2.length k] 130)):=by
 have hown:=World.ownsRow_lit (base:=b) (e:=130) (size:=4) W #[.int .i64 e.1.1,.int .i64 e.1.2.1,.int .i64 e.1.2.2,.slice A e.2.length k] 1 hb (by decide) rfl
 refine ⟨⟨[[.int .i64 e.1.1,.int .i64 e.1.2.1,.int .i64 e.1.2.2,.slice A e.2.length k]],rfl,fun j e' c h1 h2=>?_,fun k' hk'=>?_,_,hown, ?_⟩⟩
 ·cases j with
  | zero =>
   simp at h1 h2
   subst h1
   subst h2
   exact ⟨A,k,rfl,hk,hr⟩
  | succ j=>simp at h1
 ·have:W.heap.size=k':=by simpa [Value.ownBlock] using hk'
  omega
 ·refine ⟨rfl,fun j p hp=>?_⟩
  cases j with
  | zero =>
   simp at hp
   subst hp
   refine ⟨rfl,rfl,fun u hu=>?_⟩
   replace hu:u ∈ [Value.int .i64 e.1.1,.int .i64 e.1.2.1,.int .i64 e.1.2.2,.slice A e.2.length k]:=hu
   simp at hu
   rcases hu with rfl | rfl | rfl | rfl <;> rfl
  | succ j=>simp at hp
theorem Er.at_ (h:Er w b ok v es W) (j:Nat) {e:Edg} (hj:es[j]? = some e):∃ (ad:Addr) (cap:Nat) (A:Option Addr) (k:Nat),v=.slice (some ad) es.length cap∧W.cell? (ad.add (j * 4))=some (.int .i64 e.1.1)∧W.cell? (ad.add (j * 4+1))=some (.int .i64 e.1.2.1)∧W.cell? (ad.add (j * 4+2))=some (.int .i64 e.1.2.2)∧W.cell? (ad.add (j * 4+3))=some (.slice A e.2.length k)∧e.2.length≤k∧(e.2=[] ∨ Kd.C (Kd.int .i64) w A e.2.length e.2):=by
 obtain ⟨rows,h1,h2,h3⟩:=h.ex
 obtain ⟨A0,cap,ev,hc,hC⟩:=Kd.R_reads h3
 obtain ⟨hlt,_⟩:=List.getElem?_eq_some_iff.1 hj
 obtain ⟨ad,c,e1,hl,hK,hcell⟩:=Kd.C_get hC [] (j:Int) (by omega) (by omega)
 rw [Int.toNat_natCast] at hK hcell
 have hrow:rows[j]? = some c:=by
  have h5:j < rows.length:=by omega
  have hK1:=hK.1
  rw [List.getD_eq_getElem?_getD,List.getElem?_eq_getElem h5] at hK1
  rw [List.getElem?_eq_getElem h5,hK1];rfl
 obtain ⟨A,k,ec,hk,hr⟩:=h2 j e c hj hrow
 subst ec
 refine ⟨ad,cap,A,k,by rw [ev,e1,h1],hcell 0 _ rfl,hcell 1 _ rfl,hcell 2 _ rfl,hcell 3 _ rfl,hk,hr⟩
end
theorem info130:(Tryz.prog.info? 130).map (fun i=>(i.zero,i.size,i.bytes))=some (some (.agg #[.int .i64 0,.int .i64 0,.int .i64 0,.slice none 0 0]),4,48):=by kernel_rfl
theorem append_edge {w:World} {b:Nat} {v:Value} {es:List Edg} {W:World} (h:Er w b (fun k=>b≤k) v es W) (e:Edg) (A:Option Addr) (k:Nat) (hk:e.2.length≤k) (hr:e.2=[] ∨ Kd.C (Kd.int .i64) w A e.2.length e.2) (hb:b≤W.heap.size) (hl:es.length≤1000000)
  (ops:Array Oper) (o:Oper) (ac:Act) (Q:Exit→Act→World→Prop) (Kc:Act→World→Prop) (hw:Region.wanted o (yielded ops ac.tmps)=true)
  (ho:o.op=.call { callee:=.builtin .append,args:=#[.tmp 71,.tmp 88],argTypes:=#[127,127] }) (hs:ac.eval (.tmp 71)=v) (hx:ac.eval (.tmp 88)=.slice (some ⟨W.heap.size,0,none⟩) 1 1)
  (hkc:∀ v1 w1,Er w b (fun k=>b≤k) v1 (es ++ [e]) w1→W.grownBy w1 v.ownBlock→(v1.ownBlock=v.ownBlock ∨ ∃ b,v1.ownBlock=some b∧W.heap.size≤b)→Kc (ac.put o.dst v1) w1) :
  if Region.wanted o (yielded ops ac.tmps)=true then Oper.wp Tryz.prog o ac (W.alloc (.cells #[.int .i64 e.1.1,.int .i64 e.1.2.1,.int .i64 e.1.2.2,.slice A e.2.length k] 130)) Kc Q else Kc (ac.put o.dst undef) (W.alloc (.cells #[.int .i64 e.1.1,.int .i64 e.1.2.1,.int .i64 e.1.2.2,.slice A e.2.length k] 130)):=by
 obtain ⟨rows,h1,h2,h3⟩:=h.ex
 refine Kd.R_append_step (Kd.raw 4) (w0:=W) b hw (.tmp 71) (.tmp 88) 127 130 _ 48 ho Tryz.underlying127 info130 rfl (by decide) (by decide) v rows [.int .i64 e.1.1,.int .i64 e.1.2.1,.int .i64 e.1.2.2,.slice A e.2.length k] [.int .i64 e.1.1,.int .i64 e.1.2.1,.int .i64 e.1.2.2,.slice A e.2.length k] (fun k=>b≤k) (fun _=>False) hs hx ⟨rfl,rfl,fun u hu=>by simp at hu;rcases hu with rfl | rfl | rfl | rfl <;> rfl⟩ (fun _ h=>h.elim) (fun k hk=>by omega) h3 (RowKit.Below.refl _ _) hb (by omega) ?_
 intro v1 w1 hR hB hg hat
 refine hkc v1 w1 ⟨⟨_, ?_, ?_,hR⟩⟩ hg hat
 ·simp [h1]
 ·intro j e' c hj hc
  rcases Nat.lt_or_ge j es.length with hlt | hge
  ·rw [List.getElem?_append_left hlt] at hj
   rw [List.getElem?_append_left (by omega)] at hc
   exact h2 j e' c hj hc
  ·rw [List.getElem?_append_right hge] at hj
   rw [List.getElem?_append_right (by omega)] at hc
   have hz:j - es.length=0:=by
    have:=(List.getElem?_eq_some_iff.1 hj).1
    simp at this
    omega
   rw [h1] at hc
   rw [hz] at hj hc
   simp at hj hc
   subst hj
   subst hc
   exact ⟨A,k,rfl,hk,hr⟩
end
section
attribute [local go_sem] Oper.semAt_some
theorem right_max {w:World} {A3:Option Addr} {l3:List S68} {st:Int} (hr3:Kd.C k68 w A3 l3.length l3) {p:Int} {r:List Int} (h:rightF st l3 p=some r):r.length≤9223372036854775807:=by
 unfold rightF at h
 split at h
 ·obtain rfl:=Option.some.inj h
  simp
 ·split at h
  ·rename_i hn hlt
   obtain rfl:=Option.some.inj h
   obtain ⟨ad,A,c,e,hx0,hx1,hx2,hx3,hle,hC⟩:=at_T68 hr3 p (by omega) hlt
   exact hC.2.1
  ·cases h
theorem right_neg {l3:List S68} {st:Int} {p:Int} {r:List Int} (h:rightF st l3 p=some r) (hp:p < 0):r.length=1:=by
 unfold rightF at h
 rw [if_pos hp] at h
 obtain rfl:=Option.some.inj h
 rfl
theorem rest_ok {w:World} {A5:Option Addr} {c5 m:Nat} {r0:List Int} {p:Int} (hm:m≤r0.length) (hl:r0.length≤c5) (hO:p < 0 ∨ Kd.C (Kd.int .i64) w A5 r0.length r0) (hn:p < 0→r0.length≤m) :
  (r0.drop m).length≤c5 - m∧(r0.drop m=[] ∨ Kd.C (Kd.int .i64) w (if c5=m then A5 else A5.map (·.add (m * (Kd.int .i64).sz))) (r0.drop m).length (r0.drop m)):=by
 refine ⟨by rw [List.length_drop];omega, ?_⟩
 rcases hO with h | h
 ·exact .inl (List.drop_eq_nil_of_le (hn h))
 ·exact .inr (Kd.C_drop (m:=m) h hm hl)
section
variable {w:World} {B:Nat} {A0 A1 A2 A3 AK AN:Option Addr} {c0 c1 c2 c3 cK cN:Nat} {l0:List S65} {l1:List S73} {l2:List ByteArray} {l3:List S68} {st:Int} {K:List (List S77)} {N:List (List Int)} {F:Spt→Int} {q:List Spt} {vq:Value} {ok:Nat→Prop} {W:World}
set_option maxHeartbeats 4000000 in
set_option maxRecDepth 100000 in
theorem edges_calls (hr0:Kd.C k65 w A0 l0.length l0) (hc0:l0.length≤c0) (hr1:Kd.C k73 w A1 l1.length l1) (hc1:l1.length≤c1) (hr2:Kd.C Kd.string w A2 l2.length l2) (hc2:l2.length≤c2) (hr3:Kd.C k68 w A3 l3.length l3) (hc3:l3.length≤c3)
  (hrK:Kd.C (Kd.slice 77 k77) w AK K.length K) (hcK:K.length≤cK) (hrN:Kd.C (Kd.slice 3 (Kd.int .i64)) w AN N.length N) (hcN:N.length≤cN)
  (h:Lk w B (.slice A0 l0.length c0) (.slice A1 l1.length c1) (.slice A2 l2.length c2) (.slice A3 l3.length c3) (.int .i64 st) (.slice AK K.length cK) (.slice AN N.length cN) F q vq ok W) (s:Spt) (es:List Edg) (he:edgesF l0 l1 l2 l3 st K N s=some es) (hl3:l3.length≤100000) :
  Calls Tryz.prog 68 #[.pointer (some ⟨B+3,0,none⟩),valS s] W fun e w'=>∃ A c,e=.returned (.slice A es.length c)∧Er w W.heap.size (fun k=>W.heap.size≤k) (.slice A es.length c) es w'∧RowKit.Below W.heap.size W w':=by
 have H:=jM h
 have HR0:=jM hr0
 have HR1:=jM hr1
 have HR2:=jM hr2
 have HR3:=jM hr3
 have HRK:=jM hrK
 have HRN:=jM hrN
 have HC0:=jM hc0
 have HC1:=jM hc1
 have HC2:=jM hc2
 have HC3:=jM hc3
 have HCK:=jM hcK
 have HCN:=jM hcN
 have HL3:=jM hl3
 unfold edgesF at he
 obtain ⟨⟨sym,okb⟩,hbh,he⟩:=Option.bind_eq_some_iff.1 he
 simp only at he
 have HBH:=jM hbh
 have HE:=jM he
 clear h hr0 hr1 hr2 hr3 hrK hrN hc0 hc1 hc2 hc3 hcK hcN hl3 hbh he
 have hu125:=Tryz.underlying125
 have hu122:=Tryz.underlying122
 have hu77:=Tryz.underlying77
 have hu27:=Tryz.underlying27
 have hu44:=Tryz.underlying44
 have hu66:=Tryz.underlying66
 unfold valS
 go_enter Tryz.func68,Tryz.ntmps68
 go_upto_region 1 with fail
 have BS:=jM (blk_new W (Obj.cells #[.int .i64 s.1,.int .i64 s.2.1,.int .i64 s.2.2] 125))
 have HB1:=jM (below_alloc (RowKit.Below.refl W.heap.size W) (Obj.cells #[.int .i64 s.1,.int .i64 s.2.1,.int .i64 s.2.2] 125))
 have H1:=jM (H.out.below (below_alloc (RowKit.Below.refl W.heap.size W) (Obj.cells #[.int .i64 s.1,.int .i64 s.2.1,.int .i64 s.2.2] 125)))
 generalize W.alloc (Obj.cells #[.int .i64 s.1,.int .i64 s.2.1,.int .i64 s.2.2] 125)=W1 at *
 obtain ⟨xb,hxb⟩:∃ x,x=W.heap.size:=⟨_,rfl⟩
 rw [← hxb] at BS ⊢
 have HXB:=jM hxb
 clear hxb
 have hcells:∀ W':World,W'.heap[xb]? = some (.cells #[.int .i64 s.1,.int .i64 s.2.1,.int .i64 s.2.2] 125 (0,0))→W'.heap[B+3]? = some (.cells #[.slice A0 l0.length c0,.slice A1 l1.length c1,.slice A2 l2.length c2,.slice A3 l3.length c3,.int .i64 st,.slice AK K.length cK,.slice AN N.length cN,.map (some (B+2)),vq] 122 (0,0)) →
   W'.cell? ⟨xb,0,none⟩=some (.int .i64 s.1)∧W'.cell? ⟨xb,1,none⟩=some (.int .i64 s.2.1)∧W'.cell? ⟨xb,2,none⟩=some (.int .i64 s.2.2)∧W'.cell? ⟨B+3,0,none⟩=some (.slice A0 l0.length c0)∧W'.cell? ⟨B+3,1,none⟩=some (.slice A1 l1.length c1)∧W'.cell? ⟨B+3,2,none⟩=some (.slice A2 l2.length c2)∧W'.cell? ⟨B+3,3,none⟩=some (.slice A3 l3.length c3)∧W'.cell? ⟨B+3,4,none⟩=some (.int .i64 st)∧W'.cell? ⟨B+3,5,none⟩=some (.slice AK K.length cK)∧W'.cell? ⟨B+3,6,none⟩=some (.slice AN N.length cN):=fun W' h1 h2 =>
  ⟨blk_cell h1 0,blk_cell h1 1,blk_cell h1 2,blk_cell h2 0,blk_cell h2 1,blk_cell h2 2,blk_cell h2 3,blk_cell h2 4,blk_cell h2 5,blk_cell h2 6⟩
 have HCL:=jM hcells
 clear hcells
 obtain ⟨y0,y1,y2,z0,z1,z2,z3,z4,z5,z6⟩:=HCL.out W1 BS.out H1.out.bx
 have hBe:=jM fun (W':World) (hb:RowKit.Below w.heap.size w W')=>states_Behind.calls A0 c0 l0 A1 c1 l1 A2 c2 l2 A3 c3 l3 st s.2.1 s.2.2 sym okb W' (Kd.C_below HR0.out hb) HC0.out (Kd.C_below HR1.out hb) HC1.out (Kd.C_below HR2.out hb) HC2.out (Kd.C_below HR3.out hb) HC3.out HBH.out
 go_region_held3 (fun w'=>w'.cell? ⟨xb,1,none⟩=some (.int .i64 s.2.1)∧w'.cell? ⟨xb,2,none⟩=some (.int .i64 s.2.2)∧w'.cell? ⟨B+3,0,none⟩=some (.slice A0 l0.length c0)∧w'.cell? ⟨B+3,1,none⟩=some (.slice A1 l1.length c1)∧w'.cell? ⟨B+3,2,none⟩=some (.slice A2 l2.length c2)∧w'.cell? ⟨B+3,3,none⟩=some (.slice A3 l3.length c3)∧w'.cell? ⟨B+3,4,none⟩=some (.int .i64 st)) (go_keep)
  (first | (go_at_call 79;refine (hBe.out _ (by first | exact H1.out.hb | exact below_drew1 H1.out.hb)).mono ?_;rintro e w2 ⟨rfl,hb2⟩;have HB2:=jM hb2;have BS2:=jM (blk_below (w:=W1) BS.out (by first | exact hb2 | exact below_step (below_drew1 (RowKit.Below.refl _ _)) hb2));have H2:=jM (H1.out.below (W1:=w2) (by first | exact hb2 | exact below_step (below_drew1 (RowKit.Below.refl _ _)) hb2));clear hb2 y0 y1 y2 z0 z1 z2 z3 z4 z5 z6;obtain ⟨y0,y1,y2,z0,z1,z2,z3,z4,z5,z6⟩:=HCL.out w2 BS2.out H2.out.bx))
 cases okb with
 | false =>
  have HEE:=jM (show []=es by have:=HE.out;rw [if_neg (by decide)] at this;exact Option.some.inj this)
  go_wp2_with fail
  go_ret
  rw [← HEE.out]
  exact ⟨none,0,rfl,Er.nil,below_step HB1.out (by first | exact HB2.out | exact below_step (below_drew1 (RowKit.Below.refl _ _)) HB2.out)⟩
 | true =>
  have he:=HE.out
  rw [if_pos rfl] at he
  obtain ⟨n,hn,he⟩:=Option.bind_eq_some_iff.1 he
  have HN:=jM hn
  replace HE:=jM he
  clear he hn hBe
  have HBW2:=jM (below_step HB1.out (W:=W1) (w2:=w2) (by first | exact HB2.out | exact below_step (below_drew1 (RowKit.Below.refl _ _)) HB2.out))
  clear HB2 H1 BS HB1 HBH
  go_upto_region 4 with fail
  have hGo:=jM fun (W':World) (hb:RowKit.Below w.heap.size w W')=>states_Go.calls A0 c0 l0 A1 c1 l1 A2 c2 l2 A3 c3 l3 st AK cK K AN cN N s.1 sym n W' (Kd.C_below HR0.out hb) HC0.out (Kd.C_below HR1.out hb) HC1.out (Kd.C_below HR2.out hb) HC2.out (Kd.C_below HR3.out hb) HC3.out (Kd.C_below HRK.out hb) HCK.out (Kd.C_below HRN.out hb) HCN.out HN.out
  have hlt:xb < w2.heap.size:=blk_lt BS2.out
  have hlt2:B+3 < w2.heap.size:=blk_lt H2.out.bx
  have ne1:¬ xb=w2.heap.size:=Nat.ne_of_lt hlt
  have ne2:¬ B+3=w2.heap.size:=Nat.ne_of_lt hlt2
  have ne3:w2.heap.size≠xb:=Nat.ne_of_gt hlt
  have ne4:w2.heap.size≠B+3:=Nat.ne_of_gt hlt2
  go_cut [7] from 22 to 42 (fun s7 wr=>∃ nb:Nat,s7=.pointer (some ⟨nb,0,none⟩)∧Aside0 (w2.heap.size≤nb∧wr.heap[nb]? = some (.cells #[.int .i64 n,.int .i64 s.2.1,.int .i64 (IntKind.i64.wrap (s.2.2+1))] 125 (0,0))∧RowKit.Below w2.heap.size w2 wr))
  case first =>
   go_region_held3 (fun w'=>w'.cell? ⟨xb,0,none⟩=some (.int .i64 s.1)∧w'.cell? ⟨xb,1,none⟩=some (.int .i64 s.2.1)∧w'.cell? ⟨xb,2,none⟩=some (.int .i64 s.2.2)∧w'.cell? ⟨B+3,0,none⟩=some (.slice A0 l0.length c0)∧w'.cell? ⟨B+3,1,none⟩=some (.slice A1 l1.length c1)∧w'.cell? ⟨B+3,2,none⟩=some (.slice A2 l2.length c2)∧w'.cell? ⟨B+3,3,none⟩=some (.slice A3 l3.length c3)∧w'.cell? ⟨B+3,4,none⟩=some (.int .i64 st)∧w'.cell? ⟨B+3,5,none⟩=some (.slice AK K.length cK)∧w'.cell? ⟨B+3,6,none⟩=some (.slice AN N.length cN)) (go_keep)
    (first | (go_at_call 16;refine (hGo.out _ (by repeat (first | exact H2.out.hb | apply below_drew1 | apply below_alloc))).mono ?_;rintro e w4 ⟨rfl,hb4⟩;have hbb:=below_step (w:=w2) (by repeat (first | exact RowKit.Below.refl _ _ | apply below_drew1 | apply below_alloc)) hb4;obtain ⟨t0,t1,t2,s0,s1,s2,s3,s4,s5,s6⟩:=HCL.out w4 (blk_below BS2.out hbb) (blk_below H2.out.bx hbb);(first | (have BZ:=jM (blk_below (g:=w2.heap.size) (o:=.cells #[.int .i64 0,.int .i64 0,.int .i64 0] 125 (0,0)) (by first | exact blk_new w2.drew _ | exact blk_drew (blk_new w2 _)) hb4);have b0:=blk_cell BZ.out 0;have b1:=blk_cell BZ.out 1;have b2:=blk_cell BZ.out 2;have f0:=blk_frozen BZ.out 0;have f1:=blk_frozen BZ.out 1;have f2:=blk_frozen BZ.out 2) | skip);have m1:¬ xb=w4.heap.size:=Nat.ne_of_lt (Nat.lt_of_lt_of_le hlt hbb.size);have m2:¬ B+3=w4.heap.size:=Nat.ne_of_lt (Nat.lt_of_lt_of_le hlt2 hbb.size);have m3:=World.new_ne w4 _ t0;have m4:=World.new_ne w4 _ s0;have HBB:=jM hbb;clear hb4 hbb))
   all_goals go_wp2_with fail
   all_goals go_meet
   ·exact ⟨_,rfl,⟨HBB.out.size,blk_new w4 _,below_alloc HBB.out _⟩⟩
   ·exact ⟨_,rfl,⟨Nat.le_refl _,blk_put (blk_put (blk_put BZ.out 0 _ rfl) 1 _ rfl) 2 _ rfl,below_set (below_set (below_set HBB.out (Nat.le_refl _)) (Nat.le_refl _)) (Nat.le_refl _)⟩⟩
  case rest =>
   obtain ⟨nb,rfl,HX⟩:=hcut
   obtain ⟨d',hd'⟩:∃ d',IntKind.i64.wrap (s.2.2+1)=d':=⟨_,rfl⟩
   have he:=HE.out
   rw [hd'] at he HX
   replace HE:=jM he
   have HD':=jM hd'
   clear he hd'
   have HBc:=jM (show RowKit.Below W.heap.size W wc from below_step HBW2.out (by first | exact HX.out.2.2 | exact HX.out.2.2))
   have HWc:=jM HX.out.2.2
   have hn0:wc.cell? ⟨nb,0,none⟩=some (.int .i64 n):=blk_cell HX.out.2.1 0
   have hn1:wc.cell? ⟨nb,1,none⟩=some (.int .i64 s.2.1):=blk_cell HX.out.2.1 1
   have hn2:wc.cell? ⟨nb,2,none⟩=some (.int .i64 d'):=blk_cell HX.out.2.1 2
   have BSc:=jM (blk_below BS2.out HWc.out)
   have Hc:=jM (H2.out.below HWc.out)
   clear y0 y1 y2 z0 z1 z2 z3 z4 z5 z6 hlt hlt2 ne1 ne2 ne3 ne4 hGo HX
   obtain ⟨fe,hfe⟩:∃ fe:Edg,fe=((n,(s.2.1,d')),[]):=⟨_,rfl⟩
   have hone:=Er.one (w:=w) (b:=wc.heap.size) fe wc none 0 (by rw [hfe];exact Nat.le_refl _) (by rw [hfe];exact .inl rfl) (Nat.le_refl _)
   rw [hfe] at hone
   simp only [List.length_nil] at hone
   have HO:=jM hone
   have HFE:=jM hfe
   clear hone hfe
   go_upto_region 6 with fail
   have HW6:=jM (below_alloc (RowKit.Below.refl wc.heap.size wc) (Obj.cells #[.int .i64 n,.int .i64 s.2.1,.int .i64 d',.slice none 0 0] 130))
   generalize wc.alloc (Obj.cells #[.int .i64 n,.int .i64 s.2.1,.int .i64 d',.slice none 0 0] 130)=W6 at *
   rw [← HFE.out] at HO
   obtain ⟨y0,y1,y2,z0,z1,z2,z3,z4,z5,z6⟩:=HCL.out W6 (blk_below BSc.out HW6.out) (blk_below Hc.out.bx HW6.out)
   by_cases hsym:sym < 0
   ·have hsb:decide (sym < 0)=true:=decide_eq_true hsym
    have he:=HE.out
    rw [if_pos hsym,← HFE.out] at he
    obtain ⟨r,hr,hes⟩:=Option.map_eq_some_iff.1 he
    unfold restF at hr
    split at hr
    ·rename_i hd0
     obtain ⟨r0,hr0',hr⟩:=Option.bind_eq_some_iff.1 hr
     split at hr
     ·rename_i hdr
      obtain ⟨m,hm⟩:∃ m:Nat,m=s.2.2.toNat+1:=⟨_,rfl⟩
      rw [← hm] at hr
      obtain rfl:=Option.some.inj hr
      obtain ⟨r,hrr⟩:∃ r,r=r0.drop m:=⟨_,rfl⟩
      rw [← hrr] at hes
      have HES:=jM hes
      have HRG:=jM fun (W':World) hL=>right_calls (F:=F) (q:=q) (vq:=vq) (ok:=ok) (W:=W') (B:=B) (A0:=A0) (A1:=A1) (A2:=A2) (c0:=c0) (c1:=c1) (c2:=c2) (c3:=c3) (l0:=l0) (l1:=l1) (l2:=l2) (Kv:=.slice AK K.length cK) (Nv:=.slice AN N.length cN) HR3.out hL s.2.1 r0 hr0'
      have hrl:r0.length - m=r.length:=by rw [hrr,List.length_drop]
      have HPR:=jM hr0'
      have HRR:=jM hrr
      have HNG:=jM (show s.2.1 < 0→r0.length≤m from fun hp=>by have:=right_neg hr0' hp;omega)
      have HM:=jM (show m≤r0.length∧1≤m by omega)
      have HDM:=jM (show s.2.2+1=(m:Int) by omega)
      have HMX:=jM hdr
      have HRX:=jM (show r0.length≤9223372036854775807 from right_max HR3.out hr0')
      clear he hes hr hr0' hdr hsym hrr hm hd0
      go_wp2_with fail
      clear z0 z1 z2 z3 z4 z5 z6 y0 y1 y2
      go_loopw [8,52] (fun v8 v52 wr=>∃ j:Nat,v52=.int .i64 j∧j≤l3.length∧Aside0 (Er w wc.heap.size (fun k=>wc.heap.size≤k) v8 (fe :: sortsE l3 s.1 sym r j) wr)∧Aside0 (RowKit.Below wc.heap.size wc wr)) (fun _ v52 _=>l3.length - (intOf v52).toNat)
      case atStart=>exact ⟨0,rfl,Nat.zero_le _,HO,HW6⟩
      case round =>
       obtain ⟨j,rfl,hj,HR,HBr⟩:=hrel
       by_cases hlt:j < l3.length
       ·have hjb:decide (j < l3.length)=true:=decide_eq_true hlt
        have hjw:IntKind.i64.wrap ((j:Int)+1)=((j+1:Nat):Int):=by
         have:=HL3.out
         rw [IntWalk.i64_in _ (by omega)]
         rfl
        obtain ⟨y0,y1,y2,z0,z1,z2,z3,z4,z5,z6⟩:=HCL.out wr (blk_below BSc.out HBr.out) (blk_below Hc.out.bx HBr.out)
        obtain ⟨ad,A',c',e,hx0,hx1,hx2,hx3,hle,hC⟩:=at_T68 (Kd.C_below HR3.out (below_step Hc.out.hb HBr.out)) (j:Int) (by omega) (by omega)
        subst e
        rw [Int.toNat_natCast] at hx0 hx1 hx2 hx3
        clear hx0 hx2 hx3 hle hC
        obtain ⟨A8,c8,e8,hc8⟩:=HR.out.slice
        subst e8
        simp only [List.length_cons] at HR
        by_cases hq:(rd_T68 l3 j).f1=IntKind.i64.wrap (-1 - sym)
        ·have hst:sortsE l3 s.1 sym r (j+1)=sortsE l3 s.1 sym r j ++ [((s.1,((j:Int),0)),r)]:=by
          unfold sortsE
          rw [List.range_succ,List.filter_append,List.map_append]
          congr 1
          rw [List.filter_cons_of_pos (by simpa using hq)]
          rfl
         have HST:=jM hst
         simp only [i64_w] at hq
         have hqb:((rd_T68 l3 j).f1 == wrap64 (-1 - sym))=true:=by rw [hq];simp
         clear hst hq
         go_upto_region 10 with fail
         have HXC:=jM (show xb < wc.heap.size from blk_lt BSc.out)
         have HLN:=jM (show (fe :: sortsE l3 s.1 sym r j).length≤1000000 by
          have h1:(sortsE l3 s.1 sym r j).length≤j:=by unfold sortsE;rw [List.length_map];exact Nat.le_trans (List.length_filter_le _ _) (by simp)
          have:=HL3.out
          rw [List.length_cons];omega)
         have hlx:xb < wr.heap.size:=blk_lt (blk_below BSc.out HBr.out)
         have ne3:=World.new_ne wr _ y0
         have HLr:=jM (Hc.out.below HBr.out)
         have HWR:=jM (blk_below BSc.out HBr.out)
         have hdm:wrap64 (s.2.2+1)=(m:Int):=by
          rw [← i64_w,HDM.out]
          exact IntWalk.i64_in _ (by have:=HM.out;have:=HRX.out;omega)
         have hdm2:IntKind.i64.wrap (s.2.2+1)=(m:Int):=by rw [i64_w];exact hdm
         clear z0 z1 z2 z3 z4 z5 z6
         go_region_held3 (fun w'=>w'.cell? ⟨xb,0,none⟩=some (.int .i64 s.1)∧w'.cell? ⟨xb,1,none⟩=some (.int .i64 s.2.1)∧w'.cell? ⟨xb,2,none⟩=some (.int .i64 s.2.2)) (go_keep)
          (first | (go_at_call 80;refine (HRG.out _ (HLr.out.below (by repeat (first | exact RowKit.Below.refl _ _ | apply below_drew1)))).mono ?_;rintro e w5 ⟨A5,c5,rfl,hl5,hC5,hO5,hb5⟩;have hbb:=below_step (w:=wr) (by repeat (first | exact RowKit.Below.refl _ _ | apply below_drew1)) hb5;obtain ⟨t0,t1,t2,s0,s1,s2,s3,s4,s5,s6⟩:=HCL.out w5 (blk_below HWR.out hbb) (blk_below HLr.out.bx hbb);have hm5:m≤r0.length:=HM.out.1;have hm6:m≤c5:=Nat.le_trans hm5 hl5;have hm7:(0:Int)≤(m:Int):=Int.natCast_nonneg m;have hm8:(m:Int)≤(r0.length:Int):=Int.ofNat_le.2 hm5;have hm9:(r0.length:Int)≤(c5:Int):=Int.ofNat_le.2 hl5;have hm10:(m:Int)≤(c5:Int):=Int.ofNat_le.2 hm6;obtain ⟨hq1,hq2⟩:=rest_ok hm5 hl5 hO5 HNG.out;obtain ⟨T,hTT⟩:∃ T,(if c5=m then A5 else A5.map (·.add (m * (Kd.int .i64).sz)))=T:=⟨_,rfl⟩;obtain ⟨i41,hi41,hsz⟩:=Option.map_eq_some_iff.1 info56;have hsl:=cut_from (P:=Tryz.prog) 66 56 .i64 Tryz.underlying66 hi41 (Kd.int .i64).sz (congrArg (fun z=>z.2.1) hsz) A5 r0.length c5 (m:Int) hm7 hm8;rw [Int.toNat_natCast,hTT] at hsl;rw [hTT,← HRR.out] at hq2;rw [← HRR.out] at hq1;have HQ1:=jM hq1;have HQ2:=jM hq2;clear hq1 hq2 hTT hi41 hsz;have m3:=World.new_ne w5 _ t0;have HBB:=jM hbb;have HO5:=jM hO5;have HR5:=jM (HR.out.below hbb);have HSZ:=jM (show wc.heap.size≤w5.heap.size from Nat.le_trans HBr.out.size hbb.size);have HX5:=jM (blk_below HWR.out hbb);clear hb5 hbb hC5 hO5 s0 s1 s2 s3 s4 s5 s6) | (refine append_edge (w:=w) (b:=wc.heap.size) HR5.out ((s.1,((j:Int),0)),r) T (c5 - m) HQ1.out HQ2.out HSZ.out HLN.out _ _ _ _ _ (by rfl) rfl (by simp [Act.eval,Act.put]) (by simp [Act.eval,Act.put]) ?_;intro v9 w9 hE9 hg9 hat9;obtain ⟨A9,c9,e9,hc9⟩:=hE9.slice;subst e9;have hx9:=(hg9.block xb (blk_lt HX5.out) (fun e=>by have:=HR5.out.base _ e.symm;have:=HXC.out;omega)).trans HX5.out;have t0:=blk_cell hx9 0;have t1:=blk_cell hx9 1;have t2:=blk_cell hx9 2;have HE9:=jM hE9;have HG9:=jM hg9;clear hE9 hg9 hat9 hx9 hc9))
         have e7:((fe :: sortsE l3 s.1 sym r j) ++ [((s.1,((j:Int),0)),r)]).length=(sortsE l3 s.1 sym r j).length+1+1:=by simp
         rw [e7] at HE9
         have HB9:=jM (below_grown (below_step HBr.out HBB.out) HG9.out (fun k hk=>HR5.out.base k hk))
         go_wp2_with fail
         go_roundw
         all_goals first
          | exact ⟨j+1,rfl,by omega,⟨by rw [HST.out];exact HE9.out⟩,HB9⟩
          | (simp [intOf];omega)
        ·have hst:sortsE l3 s.1 sym r (j+1)=sortsE l3 s.1 sym r j:=by
          unfold sortsE
          rw [List.range_succ,List.filter_append,List.map_append]
          rw [List.filter_cons_of_neg (by simpa using hq)]
          simp
         have HST:=jM hst
         simp only [i64_w] at hq
         have hqb:((rd_T68 l3 j).f1 == wrap64 (-1 - sym))=false:=by simpa using hq
         clear hst hq
         go_wp2_with fail
         go_roundw
         all_goals first
          | exact ⟨j+1,rfl,by omega,by rw [HST.out];exact HR,HBr⟩
          | (simp [intOf];omega)
       ·have hjb:decide (j < l3.length)=false:=decide_eq_false hlt
        have hje:j=l3.length:=by omega
        subst hje
        obtain ⟨A8,c8,e8,hc8⟩:=HR.out.slice
        subst e8
        go_wp2_with fail
        go_ret
        rw [← HES.out]
        exact ⟨_,_,rfl,(HR.out.lower HBc.out.size).mono (fun k hk=>Nat.le_trans HBc.out.size hk),below_step HBc.out HBr.out⟩
     ·cases hr
    ·cases hr
   ·have hsb:decide (sym < 0)=false:=decide_eq_false hsym
    have HES:=jM (show [fe]=es by have:=HE.out;rw [if_neg hsym,← HFE.out] at this;exact Option.some.inj this)
    clear hsym
    go_wp2_with fail
    clear z0 z1 z2 z3 z4 z5 z6 y0 y1 y2
    go_loopw [8,52] (fun v8 v52 wr=>∃ j:Nat,v52=.int .i64 j∧j≤l3.length∧Aside0 (Er w wc.heap.size (fun k=>wc.heap.size≤k) v8 [fe] wr)∧Aside0 (RowKit.Below wc.heap.size wc wr)) (fun _ v52 _=>l3.length - (intOf v52).toNat)
    case atStart=>exact ⟨0,rfl,Nat.zero_le _,HO,HW6⟩
    case round =>
     obtain ⟨j,rfl,hj,HR,HBr⟩:=hrel
     by_cases hlt:j < l3.length
     ·have hjb:decide (j < l3.length)=true:=decide_eq_true hlt
      have hjw:IntKind.i64.wrap ((j:Int)+1)=((j+1:Nat):Int):=by
       have:=HL3.out
       rw [IntWalk.i64_in _ (by omega)]
       rfl
      go_wp2_with fail
      go_roundw
      all_goals first
       | exact ⟨j+1,rfl,by omega,HR,HBr⟩
       | (simp [intOf];omega)
     ·have hjb:decide (j < l3.length)=false:=decide_eq_false hlt
      obtain ⟨A8,c8,e8,hc8⟩:=HR.out.slice
      subst e8
      go_wp2_with fail
      go_ret
      rw [← HES.out]
      exact ⟨_,_,rfl,(HR.out.lower HBc.out.size).mono (fun k hk=>Nat.le_trans HBc.out.size hk),below_step HBc.out HBr.out⟩
end
end
end Go.Proofs.YtclollnicbcooaaGreatDoor.P
namespace Go.Proofs.YtclollnicbcooaaGreatDoor.P
open Go.RowKit YtclollnicbcooaaGreatDoorW.PrintWords YtclollnicbcooaaGreatDoorW.PrintLast YtclollnicbcooaaGreatDoorW.PrintMore
def rowF (nT nS:Int) (es:List Bool) (fs:List Int) (behind:Int):List Int→Int→Option Int
 | [],out=>bits_Union.f out behind
 | s :: l,out=>if nT≤s ∨ s < -nS then some out else if 0≤s then bits_With.f out s else
   (bits_Union.f out (rd fs (-1 - s))).bind fun o=>if rdOf false es (-1 - s)=true then rowF nT nS es fs behind l o else some o

theorem rowF_drop (nT nS:Int) (es:List Bool) (fs:List Int) (behind:Int) (l:List Int) (k:Nat) (hk:k < l.length) (out:Int) :
  rowF nT nS es fs behind (l.drop k) out=if nT≤l[k] ∨ l[k] < -nS then some out else if 0≤l[k] then bits_With.f out l[k] else
   (bits_Union.f out (rd fs (-1 - l[k]))).bind fun o=>if rdOf false es (-1 - l[k])=true then rowF nT nS es fs behind (l.drop (k+1)) o else some o:=by
 rw [List.drop_eq_getElem_cons hk];rfl

set_option maxHeartbeats 4000000 in
set_option maxRecDepth 100000 in
theorem row_calls (tb nT nS:Nat) (A0 A2 E F:Option Addr) (c0 c2 cE cF:Nat) (es:List Bool) (fs:List Int) (A:Option Addr) (c:Nat) (l:List Int) (behind r:Int) (w:World)
  (hl:Kd.C (Kd.int .i64) w A l.length l) (hnS:nS≤60) (ht0:w.cell? ⟨tb,0,none⟩=some (.slice A0 nT c0)) (ht2:w.cell? ⟨tb,2,none⟩=some (.slice A2 nS c2)) (ht5:w.cell? ⟨tb,5,none⟩=some (.slice E nS cE)) (ht6:w.cell? ⟨tb,6,none⟩=some (.slice F nS cF))
  (hE:Kd.C Kd.bool w E nS es) (hF:Kd.C (Kd.int .u64) w F nS fs) (h:rowF nT nS es fs behind l 0=some r) :
  Calls Tryz.prog 82 #[.pointer (some ⟨tb,0,none⟩),.slice A l.length c,.int .u64 behind] w fun e w'=>e=.returned (.int .u64 r)∧Drawn0 w w':=by
 have HL:=jM hl
 have HE:=jM hE
 have HF:=jM hF
 have H:=jM h
 have hmx:l.length≤9223372036854775807:=hl.2.1
 have hu156:=Tryz.underlying156
 have hu27:=Tryz.underlying27
 have hneg:IntKind.i64.wrap (-(nS:Int))=-(nS:Int):=IntWalk.i64_in _ (by omega)
 have HnS:=jM hnS
 clear hl hE hF h hnS
 go_enter Tryz.func82,Tryz.ntmps82
 go_wp2
 go_loopw [7,12] (fun v7 v12 wr=>∃ (k:Nat) (out:Int),v7=.int .u64 out∧v12=.int .i64 k∧k≤l.length∧Aside0 (rowF nT nS es fs behind (l.drop k) out=some r)∧Aside0 (∃ m,wr=w.drewN m)) (fun _ v12 _=>l.length - (intOf v12).toNat)
 case atStart=>exact ⟨0,0,rfl,rfl,Nat.zero_le _,⟨by rw [List.drop_zero];exact H.out⟩,⟨⟨0,rfl⟩⟩⟩
 case round =>
  obtain ⟨k,out,rfl,rfl,hk,HT,⟨m,rfl⟩⟩:=hrel
  by_cases hlt:k < l.length
  ·have hltb:decide (k < l.length)=true:=decide_eq_true (by omega)
   obtain ⟨ad,e1,hx1⟩:=Kd.at_int HL.out (k:Int) (by omega) (by omega)
   rw [Int.toNat_natCast] at hx1
   have hrk:rd l (k:Int)=l[k]:=by unfold rd;simp [List.getD,hlt]
   obtain ⟨s,hs⟩:∃ s,l[k]=s:=⟨_,rfl⟩
   rw [hrk,hs] at hx1
   have HT2:=HT.out
   rw [rowF_drop _ _ _ _ _ l k hlt,hs] at HT2
   clear hrk hs
   subst e1
   by_cases h1:(nT:Int)≤s
   ·rw [if_pos (.inl h1)] at HT2
    replace HT2:=jM HT2
    go_wp2
    go_ret
    exact ⟨by have:=HT2.out;injection this with this;rw [← this];rfl,⟨_,rfl⟩⟩
   ·by_cases h2:s < -(nS:Int)
    ·rw [if_pos (.inr h2)] at HT2
     replace HT2:=jM HT2
     have h2b:decide (s < -(nS:Int))=true:=decide_eq_true h2
     go_wp2
     go_ret
     exact ⟨by have:=HT2.out;injection this with this;rw [← this];rfl,⟨_,rfl⟩⟩
    ·rw [if_neg (by rintro (h | h) <;> omega)] at HT2
     have h2b:decide (s < -(nS:Int))=false:=decide_eq_false h2
     by_cases h3:0≤s
     ·rw [if_pos h3] at HT2
      replace HT2:=jM HT2
      have h3b:decide (0≤s)=true:=decide_eq_true h3
      go_wp2_with (go_at_call 15;refine (bits_With.calls _ _ _ _ HT2.out).mono ?_;rintro e wx ⟨rfl,m2,rfl⟩)
      go_ret
      exact ⟨rfl,⟨_,rfl⟩⟩
     ·rw [if_neg h3] at HT2
      have h3b:decide (0≤s)=false:=decide_eq_false h3
      obtain ⟨j,hj⟩:∃ j, -1 - s=j:=⟨_,rfl⟩
      have hw:IntKind.i64.wrap (-1 - s)=j:=by rw [IntWalk.i64_in _ (by have:=HnS.out;omega)];exact hj
      obtain ⟨adf,e2,hx2⟩:=Kd.at_int HF.out j (by omega) (by omega)
      obtain ⟨ade,e3,hx3⟩:=Kd.at_bool HE.out j (by omega) (by omega)
      subst e2
      subst e3
      rw [hj] at HT2
      have q0:(0≤j)=True:=eq_true (by omega)
      have q1:(j < (nS:Int))=True:=eq_true (by omega)
      obtain ⟨o,ho⟩:∃ o,rdOf false es j=o:=⟨_,rfl⟩
      obtain ⟨u,hu⟩:∃ u,bits_Union.f out (rd fs j)=some u:=⟨_,rfl⟩
      rw [ho] at HT2 hx3
      rw [hu] at HT2
      have HU:=jM hu
      clear ho hu hj
      cases o
      ·replace HT2:Aside0 (some u=some r):=⟨by simpa using HT2⟩
       go_wp2_with (go_at_call 78;refine (bits_Union.calls _ _ _ _ HU.out).mono ?_;rintro e wx ⟨rfl,m2,rfl⟩)
       go_ret
       exact ⟨by have:=HT2.out;injection this with this;rw [← this];rfl,⟨_,rfl⟩⟩
      ·replace HT2:Aside0 (rowF nT nS es fs behind (l.drop (k+1)) u=some r):=⟨by simpa using HT2⟩
       go_wp2_with (go_at_call 78;refine (bits_Union.calls _ _ _ _ HU.out).mono ?_;rintro e wx ⟨rfl,m2,rfl⟩)
       exact ⟨⟨k+1,u,rfl,rfl,by omega,HT2,⟨⟨_,rfl⟩⟩⟩,by simp [intOf];omega⟩
  ·have hltb:decide (k < l.length)=false:=decide_eq_false (by omega)
   have HU:Aside0 (bits_Union.f out behind=some r):=⟨by have:=HT.out;rwa [List.drop_eq_nil_of_le (by omega)] at this⟩
   go_wp2_with (go_at_call 78;refine (bits_Union.calls _ _ _ _ HU.out).mono ?_;rintro e wx ⟨rfl,m2,rfl⟩)
   go_ret
   exact ⟨rfl,⟨_,rfl⟩⟩
end Go.Proofs.YtclollnicbcooaaGreatDoor.P
namespace Go.Proofs.YtclollnicbcooaaGreatDoor.P
open YtclollnicbcooaaGreatDoor.Base Go.RowKit YtclollnicbcooaaGreatDoorW.PrintWords YtclollnicbcooaaGreatDoorW.PrintLast YtclollnicbcooaaGreatDoorW.PrintMore
def moreS (nT nS:Int) (es:List Bool) (xs:List Int) (p:S68):Int:=Go.bits .or .u64 (rdOf 0 xs p.f1) ((rowF nT nS es xs 0 p.f2 0).getD 0)

theorem below_drawn {w w':World} (h:Drawn0 w w'):Below w.heap.size w w':=by
 obtain ⟨m,rfl⟩:=h;exact pw_below_drewN (Below.refl _ _) m

set_option maxHeartbeats 4000000 in
set_option maxRecDepth 100000 in
theorem known1_calls (b3 tb nT nS G cap:Nat) (A0 A2 E:Option Addr) (c0 c2 cE:Nat) (es:List Bool) (xs:List Int) (base:Nat) (ok:Nat→Prop) (p:S68) (A:Option Addr) (c:Nat) (w:World)
  (hnS:nS≤60) (h3:w.cell? ⟨b3,0,none⟩=some (.pointer (some ⟨tb,0,none⟩))) (ht0:w.cell? ⟨tb,0,none⟩=some (.slice A0 nT c0)) (ht2:w.cell? ⟨tb,2,none⟩=some (.slice A2 nS c2)) (ht5:w.cell? ⟨tb,5,none⟩=some (.slice E nS cE)) (ht6:w.cell? ⟨tb,6,none⟩=some (.slice (some ⟨G,0,none⟩) nS cap))
  (hE:Kd.C Kd.bool w E nS es) (hR:Kd.R (Kd.int .u64) 48 w base ok (.slice (some ⟨G,0,none⟩) nS cap) xs) (hp:Kd.C (Kd.int .i64) w A p.f2.length p.f2) (h0:0≤p.f1) (h1:p.f1 < nS) (hq:∃ q,rowF nT nS es xs 0 p.f2 0=some q) :
  Calls Tryz.prog 92 #[.agg #[.string p.f0,.int .i64 p.f1,.slice A p.f2.length c,.int .i64 p.f3],.pointer (some ⟨b3,0,none⟩)] w fun e w'=>e=.returned (.tuple #[.int .i64 p.f1,.int .u64 (moreS nT nS es xs p)])∧Below w.heap.size w w':=by
 obtain ⟨q,hq⟩:=hq
 have hmo:Aside0 (moreS nT nS es xs p=Go.bits .or .u64 (rdOf 0 xs p.f1) q):=⟨by unfold moreS;rw [hq];rfl⟩
 have hcell:=(Kd.R_celln 0 hR p.f1 h0 h1).1
 have hC:=(Kd.R_reads' hR).2.2
 rw [← (Kd.R_reads' hR).1] at hC
 have hrow:=fun (w':World) (hb:Below w.heap.size w w')=>row_calls tb nT nS A0 A2 E (some ⟨G,0,none⟩) c0 c2 cE cap es xs A c p.f2 0 q w' (Kd.C_below hp hb) hnS (pw_cell_below hb ht0) (pw_cell_below hb ht2) (pw_cell_below hb ht5) (pw_cell_below hb ht6) (Kd.C_below hE hb) (Kd.C_below hC hb) hq
 have q0:(0≤p.f1)=True:=eq_true h0
 have q1:(p.f1 < (nS:Int))=True:=eq_true h1
 obtain ⟨o,ho⟩:∃ o,rdOf 0 xs p.f1=o:=⟨_,rfl⟩
 obtain ⟨nl,hnl⟩:∃ nl,p.f2.length=nl:=⟨_,rfl⟩
 obtain ⟨lab,hlab⟩:∃ lab,p.f0=lab:=⟨_,rfl⟩
 obtain ⟨srt,hsrt⟩:∃ srt,p.f1=srt:=⟨_,rfl⟩
 obtain ⟨cls,hcls⟩:∃ cls,p.f3=cls:=⟨_,rfl⟩
 have HMO:Aside0 (moreS nT nS es xs p=Go.bits .or .u64 o q):=⟨by rw [hmo.out,ho]⟩
 rw [ho] at hcell
 rw [hsrt] at hcell q0 q1
 rw [hnl] at hrow
 rw [hnl,hlab,hsrt,hcls]
 replace hrow:=jM hrow
 have hu68:=Tryz.underlying68
 have hu156:=Tryz.underlying156
 clear hmo ho hnl hlab hsrt hcls h0 h1 hnS hE hR hp hC hq ht0 ht2 ht5
 go_enter Tryz.func92,Tryz.ntmps92
 go_upto_region 1 with fail
 have HZ:Aside0 (Below w.heap.size w (w.alloc (Obj.cells #[.string lab,.int .i64 srt,.slice A nl c,.int .i64 cls] 68))):=⟨below_alloc (Below.refl _ _) _⟩
 have g1:(w.alloc (Obj.cells #[.string lab,.int .i64 srt,.slice A nl c,.int .i64 cls] 68)).cell? ⟨w.heap.size,1,none⟩=some (.int .i64 srt):=by go_simp
 have g2:(w.alloc (Obj.cells #[.string lab,.int .i64 srt,.slice A nl c,.int .i64 cls] 68)).cell? ⟨w.heap.size,2,none⟩=some (.slice A nl c):=by go_simp
 generalize w.alloc (Obj.cells #[.string lab,.int .i64 srt,.slice A nl c,.int .i64 cls] 68)=wy at *
 replace h3:=cell_below (pw_cell_below HZ.out h3)
 replace ht6:=cell_below (pw_cell_below HZ.out ht6)
 replace hcell:=cell_below (pw_cell_below HZ.out hcell)
 replace g1:=cell_below g1
 replace g2:=cell_below g2
 generalize hg:w.heap.size=gy at g1 g2 ⊢
 clear hg
 refine wp_region_below (by kernel_rfl) (by kernel_rfl) ?_
 repeat (refine wpQuiet_step (fun K hK=>?_);go_simp;(first | (refine hK _ ?_;clear hK K) | (apply Exists.intro;refine ⟨fun wc hwc=>?_,hK _ ?_⟩;(first | exact rfl | (first | (go_at_call 82;exact calls_below hwc hwc.size ((hrow.out _ (below_step HZ.out hwc)).mono fun _ _ h=>⟨h.1,below_drawn h.2⟩)) | (go_at_call 78;exact calls_below hwc hwc.size ((bits_Union.calls _ _ _ _ rfl).mono fun _ _ h=>⟨h.1,below_drawn h.2⟩))) | (go_simp;exact rfl));clear hK K)))
 refine wpQuiet_nil ?_
 intro wq hwq
 go_wp2
 go_ret2
 exact ⟨by rw [HMO.out];rfl,below_step HZ.out hwq⟩
set_option maxHeartbeats 4000000 in
set_option maxRecDepth 100000 in
theorem grow_set (k0 tb nT nS:Nat) (B0 B2 E:Option Addr) (d0 d2 dE:Nat) (es:List Bool) (A0:Option Addr) (c0:Nat) (l0:List S65) (A1:Option Addr) (c1:Nat) (l1:List S73) (A2:Option Addr) (c2:Nat) (l2:List ByteArray) (A3:Option Addr) (c3:Nat) (l3:List S68) (st:Int)
  (b3 G cap base:Nat) (ok:Nat→Prop) (x0 r:List Int) (w W:World) (hr3:Kd.C k68 w A3 l3.length l3) (hbel:Below w.heap.size w W) (hG:w.heap.size≤G) (hGW:G < W.heap.size)
  (hnS:nS≤60) (h3:W.cell? ⟨b3,0,none⟩=some (.pointer (some ⟨tb,0,none⟩))) (ht0:W.cell? ⟨tb,0,none⟩=some (.slice B0 nT d0)) (ht2:W.cell? ⟨tb,2,none⟩=some (.slice B2 nS d2)) (ht5:W.cell? ⟨tb,5,none⟩=some (.slice E nS dE)) (ht6:W.cell? ⟨tb,6,none⟩=some (.slice (some ⟨G,0,none⟩) nS cap)) (hE:∀ wz:World,W.grownBy wz (some G)→Kd.C Kd.bool wz E nS es) (h3G:b3≠G) (htG:tb≠G)
  (hR:Kd.R (Kd.int .u64) 48 W base ok (.slice (some ⟨G,0,none⟩) nS cap) x0)
  (hs:∀ p ∈ l3,(0≤p.f1∧p.f1 < nS)∧∀ xs,∃ q,rowF nT nS es xs 0 p.f2 0=some q)
  (h:growG (0:Int) (moreS nT nS es) l3 k0 x0=some r) :
  Calls Tryz.prog 91 #[.agg #[.slice A0 l0.length c0,.slice A1 l1.length c1,.slice A2 l2.length c2,.slice A3 l3.length c3,.int .i64 st],.slice (some ⟨G,0,none⟩) nS cap,.func (.func 92) #[] #[.pointer (some ⟨b3,0,none⟩)]] W
   fun e w'=>e=.returned (.slice (some ⟨G,0,none⟩) nS cap)∧Kd.R (Kd.int .u64) 48 w' base ok (.slice (some ⟨G,0,none⟩) nS cap) r∧W.grownBy w' (some G):=by
 have HR:=jM hR
 have HR3:=jM hr3
 have HS:=jM hs
 have HBEL:=jM hbel
 have HG:=jM hG
 have HGW:=jM hGW
 have Bt:=jM (And.intro h3 (And.intro ht0 (And.intro ht2 (And.intro ht5 ht6))))
 have NB:=jM (And.intro h3G htG)
 have HE0:=jM hE
 have HNS:=jM hnS
 have H:=jM h
 have hu:=Tryz.underlying68
 have hu27:=Tryz.underlying27
 clear hR hr3 hs hbel hG hGW h3 ht0 ht2 ht5 ht6 hE h3G htG hnS h
 go_enter Tryz.func91,Tryz.ntmps91
 go_wp2
 have HZ:Aside0 (Below W.heap.size W (W.alloc (Obj.cells #[.slice A0 l0.length c0,.slice A1 l1.length c1,.slice A2 l2.length c2,.slice A3 l3.length c3,.int .i64 st] 27))):=⟨below_alloc (Below.refl _ _) _⟩
 have G3:Aside0 ((W.alloc (Obj.cells #[.slice A0 l0.length c0,.slice A1 l1.length c1,.slice A2 l2.length c2,.slice A3 l3.length c3,.int .i64 st] 27)).cell? ⟨W.heap.size,3,none⟩=some (.slice A3 l3.length c3)):=⟨by go_simp⟩
 generalize W.alloc (Obj.cells #[.slice A0 l0.length c0,.slice A1 l1.length c1,.slice A2 l2.length c2,.slice A3 l3.length c3,.int .i64 st] 27)=wy at *
 replace HR:=jM (Kd.R_below HR.out HZ.out)
 have HEE:Aside0 (∀ wz:World,wy.grownBy wz (some G)→Kd.C Kd.bool wz E nS es):=⟨fun wz hz=>HE0.out wz (grown_of HZ.out hz)⟩
 clear HE0
 replace Bt:=jM (And.intro (pw_cell_below HZ.out Bt.out.1) (And.intro (pw_cell_below HZ.out Bt.out.2.1) (And.intro (pw_cell_below HZ.out Bt.out.2.2.1) (And.intro (pw_cell_below HZ.out Bt.out.2.2.2.1) (pw_cell_below HZ.out Bt.out.2.2.2.2)))))
 replace HBEL:=jM (below_step HBEL.out HZ.out)
 have HGN:Aside0 (W.heap.size≠G):=⟨by have:=HGW.out;omega⟩
 generalize hg:W.heap.size=gb at G3 HGN ⊢
 clear hg
 obtain ⟨vg,hvg⟩:∃ vg:Value,vg=.agg #[.slice A0 l0.length c0,.slice A1 l1.length c1,.slice A2 l2.length c2,.slice A3 l3.length c3,.int .i64 st]:=⟨_,rfl⟩
 rw [← hvg]
 clear hvg
 refine wp_scope_label 0 k0 (fun k a wr=>∃ (xs:List Int) (u7 u8 u9 u10 u11 u12 u13 u14 u15 u16 u17 u18 u19 u20 u21 u22 u23 u24 u25 u26 u27 u28 u29 u30 u31 u32 u33 u34 u35 u36 u37:Value),a={ tmps:=#[vg,.slice (some ⟨G,0,none⟩) nS cap,.func (.func 92) #[] #[.pointer (some ⟨b3,0,none⟩)],.pointer (some ⟨gb,0,none⟩),undef,undef,.slice none 0 0,u7,u8,u9,u10,u11,u12,u13,u14,u15,u16,u17,u18,u19,u20,u21,u22,u23,u24,u25,u26,u27,u28,u29,u30,u31,u32,u33,u34,u35,u36,u37],defers:=[] }∧Aside0 (growG (0:Int) (moreS nT nS es) l3 k xs=some r)∧Aside0 (Kd.R (Kd.int .u64) 48 wr base ok (.slice (some ⟨G,0,none⟩) nS cap) xs)∧Aside0 (wy.grownBy wr (some G))) ⟨x0,_,_,_,_,_,_,_,_,_,_,_,_,_,_,_,_,_,_,_,_,_,_,_,_,_,_,_,_,_,_,_,rfl,H,HR,⟨World.grownBy.refl _ _⟩⟩ ?_
 clear HR H
 rintro kk a wq ⟨xs,u7,u8,u9,u10,u11,u12,u13,u14,u15,u16,u17,u18,u19,u20,u21,u22,u23,u24,u25,u26,u27,u28,u29,u30,u31,u32,u33,u34,u35,u36,u37,rfl,H,HR,HY⟩
 go_hide hQ
 replace hQ:=jM hQ
 have g3:wq.cell? ⟨gb,3,none⟩=some (.slice A3 l3.length c3):=HY.out.cell G3.out (by intro e;injection e with e;exact HGN.out e)
 go_wp2
 clear g3
 go_loopw [7,15] (fun v7 v15 wr=>∃ (k:Nat) (ch:Bool) (ys:List Int),v7=.bool ch∧v15=.int .i64 k∧k≤l3.length∧Aside0 (Kd.R (Kd.int .u64) 48 wr base ok (.slice (some ⟨G,0,none⟩) nS cap) ys)∧Aside0 (wy.grownBy wr (some G))∧Aside0 (passG (0:Int) (moreS nT nS es) l3 (xs,false)=passG (0:Int) (moreS nT nS es) (l3.drop k) (ys,ch))) (fun _ v15 _=>l3.length - (intOf v15).toNat)
 case atStart=>exact ⟨0,false,xs,rfl,rfl,Nat.zero_le _,HR,HY,⟨rfl⟩⟩
 case round =>
  obtain ⟨k,ch,ys,rfl,rfl,hk,HRR,HYR,HP⟩:=hrel
  have hmx:l3.length≤9223372036854775807:=HR3.out.2.1
  by_cases hlt:k < l3.length
  ·have hltb:decide (k < l3.length)=true:=decide_eq_true (by omega)
   have hbw:Aside0 (Below w.heap.size w wr):=⟨below_grownS HBEL.out HYR.out HG.out⟩
   obtain ⟨ad,A4,c4,e4,hx1,hx2,hx3,hx4,hcap,hr4⟩:=at_T68 (Kd.C_below HR3.out hbw.out) (k:Int) (by omega) (by omega)
   rw [Int.toNat_natCast] at hx1 hx2 hx3 hx4
   obtain ⟨p,hp⟩:∃ p,rd_T68 l3 k=p:=⟨_,rfl⟩
   rw [hp] at hx1 hx2 hx3 hx4 hr4
   have hpk:l3[k]=p:=by rw [← hp];unfold rd_T68;simp [List.getD,hlt]
   have hmem:p ∈ l3:=by rw [← hpk];exact List.getElem_mem hlt
   have HPK:=jM hpk
   have hsp:=jM (HS.out p hmem)
   have HR4:=jM hr4
   clear hp hpk hr4 hcap hmem
   subst e4
   obtain ⟨m,hm⟩:∃ m,moreS nT nS es ys p=m:=⟨_,rfl⟩
   obtain ⟨o,ho⟩:∃ o,rdOf 0 ys p.f1=o:=⟨_,rfl⟩
   have hstep:Aside0 (passG (0:Int) (moreS nT nS es) l3 (xs,false)=passG (0:Int) (moreS nT nS es) (l3.drop (k+1)) (if o=m then (ys,ch) else (ys.set p.f1.toNat m,true))):=⟨by rw [HP.out,passG_drop _ _ _ k hlt,HPK.out,ho,hm]⟩
   obtain ⟨nl,hnl⟩:∃ nl,p.f2.length=nl:=⟨_,rfl⟩
   obtain ⟨lab,hlab⟩:∃ lab,p.f0=lab:=⟨_,rfl⟩
   obtain ⟨srt,hsrt⟩:∃ srt,p.f1=srt:=⟨_,rfl⟩
   obtain ⟨cls,hcls⟩:∃ cls,p.f3=cls:=⟨_,rfl⟩
   have hcont:Aside0 (∀ wz:World,Below wr.heap.size wr wz→Calls Tryz.prog 92 #[.agg #[.string lab,.int .i64 srt,.slice A4 nl c4,.int .i64 cls],.pointer (some ⟨b3,0,none⟩)] wz fun e w'=>e=.returned (.tuple #[.int .i64 srt,.int .u64 m])∧Below wz.heap.size wz w'∧w'.cell? ⟨G,srt.toNat,none⟩=some (.int .u64 o)∧w'.frozen? ⟨G,srt.toNat,none⟩=false):=⟨fun wz hz=>by
    have hg2:wy.grownBy wz (some G):=grown_below HYR.out hz
    have hc:=known1_calls b3 tb nT nS G cap B0 B2 E d0 d2 dE es ys base ok p A4 c4 wz HNS.out (hg2.cell Bt.out.1 (by intro e;injection e with e;exact NB.out.1 e)) (hg2.cell Bt.out.2.1 (by intro e;injection e with e;exact NB.out.2 e)) (hg2.cell Bt.out.2.2.1 (by intro e;injection e with e;exact NB.out.2 e)) (hg2.cell Bt.out.2.2.2.1 (by intro e;injection e with e;exact NB.out.2 e)) (hg2.cell Bt.out.2.2.2.2 (by intro e;injection e with e;exact NB.out.2 e)) (HEE.out wz hg2) (Kd.R_below HRR.out hz) (Kd.C_below HR4.out hz) hsp.out.1.1 hsp.out.1.2 (hsp.out.2 ys)
    rw [hnl,hlab,hsrt,hcls,hm] at hc
    refine hc.mono ?_
    rintro e w2 ⟨rfl,hb2⟩
    have hcell:=Kd.R_celln 0 (Kd.R_below (Kd.R_below HRR.out hz) hb2) p.f1 hsp.out.1.1 hsp.out.1.2
    rw [ho,hsrt] at hcell
    exact ⟨rfl,hb2,hcell.1,hcell.2⟩⟩
   rw [hlab] at hx1
   rw [hsrt] at hx2
   rw [hnl] at hx3
   rw [hcls] at hx4
   have hsrt2:=jM hsrt
   rw [hsrt] at hsp
   have q0:(0≤srt)=True:=eq_true hsp.out.1.1
   have q1:(srt < (nS:Int))=True:=eq_true hsp.out.1.2
   clear hm ho hlab hnl hcls hsrt
   go_upto_region 5 with fail
   have HZ2:Aside0 (Below wr.heap.size wr (wr.alloc (Obj.cells #[.string lab,.int .i64 srt,.slice A4 nl c4,.int .i64 cls] 68))):=⟨below_alloc (Below.refl _ _) _⟩
   have y0:(wr.alloc (Obj.cells #[.string lab,.int .i64 srt,.slice A4 nl c4,.int .i64 cls] 68)).cell? ⟨wr.heap.size,0,none⟩=some (.string lab):=by go_simp
   have y1:(wr.alloc (Obj.cells #[.string lab,.int .i64 srt,.slice A4 nl c4,.int .i64 cls] 68)).cell? ⟨wr.heap.size,1,none⟩=some (.int .i64 srt):=by go_simp
   have y2:(wr.alloc (Obj.cells #[.string lab,.int .i64 srt,.slice A4 nl c4,.int .i64 cls] 68)).cell? ⟨wr.heap.size,2,none⟩=some (.slice A4 nl c4):=by go_simp
   have y3:(wr.alloc (Obj.cells #[.string lab,.int .i64 srt,.slice A4 nl c4,.int .i64 cls] 68)).cell? ⟨wr.heap.size,3,none⟩=some (.int .i64 cls):=by go_simp
   generalize wr.alloc (Obj.cells #[.string lab,.int .i64 srt,.slice A4 nl c4,.int .i64 cls] 68)=wz at *
   clear hx1 hx2 hx3 hx4
   generalize hgy:wr.heap.size=gy at y0 y1 y2 y3 ⊢
   clear hgy
   have hcall:=hcont.out wz HZ2.out
   clear hcont
   replace hcall:=jM hcall
   have HYZ:=jM (grown_below HYR.out HZ2.out)
   have HRZ:=jM (Kd.R_below HRR.out HZ2.out)
   by_cases hom:o=m
   ·subst hom
    go_wp2_with (go_at_call 92;refine hcall.out.mono ?_;rintro e w2 ⟨rfl,hb2,hc2,hf2⟩;replace hb2:=jM hb2)
    have hR2:=jM (Kd.R_below HRZ.out hb2.out)
    exact ⟨⟨k+1,ch,ys,rfl,rfl,by omega,hR2,⟨grown_below HYZ.out hb2.out⟩,⟨by rw [hstep.out];simp⟩⟩,by simp [intOf];omega⟩
   ·have hom1:decide (o=m)=false:=decide_eq_false hom
    have hom2:(o != m)=true:=by simp [hom]
    go_wp2_with (go_at_call 92;refine hcall.out.mono ?_;rintro e w2 ⟨rfl,hb2,hc2,hf2⟩;replace hb2:=jM hb2)
    have hR2:=jM (Kd.R_putn (Kd.R_below HRZ.out hb2.out) srt m)
    exact ⟨⟨k+1,true,ys.set srt.toNat m,rfl,rfl,by omega,hR2,⟨grown_put (grown_below HYZ.out hb2.out)⟩,⟨by rw [hstep.out,if_neg hom,hsrt2.out]⟩⟩,by simp [intOf];omega⟩
  ·have hltb:decide (k < l3.length)=false:=decide_eq_false (by omega)
   obtain ⟨k',rfl⟩:∃ k',kk=k'+1:=by
    cases kk with
    | zero=>have:=H.out;cases this
    | succ k'=>exact ⟨k',rfl⟩
   have HF:Aside0 (passG (0:Int) (moreS nT nS es) l3 (xs,false)=(ys,ch)):=⟨by rw [HP.out,List.drop_eq_nil_of_le (by omega)];rfl⟩
   cases ch
   ·have HE:Aside0 (ys=r):=⟨by have:=H.out;unfold growG at this;rw [HF.out] at this;simpa using this⟩
    go_wp2
    rw [← hQ.out]
    simp only [Exit.jump]
    go_ret
    exact ⟨rfl,by rw [← HE.out];exact HRR.out,grown_of HZ.out HYR.out⟩
   ·have HE:Aside0 (growG (0:Int) (moreS nT nS es) l3 k' ys=some r):=⟨by have:=H.out;unfold growG at this;rw [HF.out] at this;simpa using this⟩
    go_wp2
    go_step3
    rw [← hQ.out]
    exact ⟨rfl,k',Nat.lt_succ_self _,ys,_,_,_,_,_,_,_,_,_,_,_,_,_,_,_,_,_,_,_,_,_,_,_,_,_,_,_,_,_,_,_,rfl,HE,HRR,HYR⟩
theorem made_sets (n:Nat):madeCells #[.int .u64 0] n=Array.replicate n (Value.int .u64 0):=by
 apply Array.ext
 ·simp [madeCells]
 ·intro i h1 h2
  simp [madeCells,Nat.mod_one]

theorem make_sets (n:Nat) (h:n≤60) (w:World):(Instr.makeSlice 32 (.int .i64 n) (.int .i64 n)).run Tryz.prog w=.ok (.slice (some ⟨w.heap.size,0,none⟩) n n) (w.alloc (.cells (Array.replicate n (.int .u64 0)) 48)):=by
 obtain ⟨i0,hi,hzz⟩:=Option.map_eq_some_iff.1 info48
 simp only [Prod.mk.injEq] at hzz
 obtain ⟨hz0,hz1,hz2⟩:=hzz
 have hr:=run_make (P:=Tryz.prog) w 32 48 i0 (.int .u64 0) Tryz.underlying32 hi hz0 .i64 .i64 (n:Int) (n:Int) (by omega) (by omega) (by rw [hz2];omega) (by omega)
 simp only [Int.toNat_natCast] at hr
 rw [hz1,Nat.mul_one] at hr
 rw [hr,show (Value.int .u64 0).cells=#[.int .u64 0] from rfl,made_sets]

theorem blk_new (w:World) (o:Obj):(w.alloc o).heap[w.heap.size]? = some o:=by
 show (w.heap.push o)[w.heap.size]? = some o
 simp

theorem R_fresh (n base:Nat) (h:n≤60) (w:World) (hb:base≤w.heap.size):Kd.R (Kd.int .u64) 48 (w.alloc (.cells (Array.replicate n (.int .u64 0)) 48)) base (fun k=>k=w.heap.size) (.slice (some ⟨w.heap.size,0,none⟩) n n) (List.replicate n (0:Int)):=by
 refine Kd.R_of_own (enc:=fun x=>Value.int .u64 x) ⟨by simp [encs],.inr ⟨w.heap.size,n,Array.replicate n (.int .u64 0),by simp,hb,blk_new w _,by simp,by simp [maxLen];omega,by simp,by simp [encs]⟩⟩ (fun k hk=>?_)
 simp only [Value.ownBlock] at hk
 injection hk with hk
 exact hk.symm

theorem R_fresh_at (n base g:Nat) (h:n≤60) (w:World) (hg:w.heap.size=g) (hb:base≤g):Kd.R (Kd.int .u64) 48 (w.alloc (.cells (Array.replicate n (.int .u64 0)) 48)) base (fun k=>k=g) (.slice (some ⟨g,0,none⟩) n n) (List.replicate n (0:Int)):=by
 subst hg;exact R_fresh n base h w hb

theorem R_kept {w3 w4:World} {B G b3:Nat} {v:Value} {es:List Bool} (hR:Kd.R Kd.bool 4 w4 B (fun _=>True) v es) (hB:w3.heap.size≤B) (hG:∀ k,B≤k→k < w4.heap.size→k≠G∧k≠b3):Kd.R Kd.bool 4 w4 w3.heap.size (fun k=>k≠G∧k≠b3) v es :=
 Kd.R_lower (Kd.R_mono (Kd.R_bound hR) fun k hk=>hG k hk.2.1 hk.2.2.1) hB

theorem growG_length {β:Type} [DecidableEq β] (z:β) (more:List β→S68→β) (ps:List S68):∀ (k:Nat) (xs r:List β),growG z more ps k xs=some r→r.length=xs.length:=by
 have hp:∀ (ps:List S68) (st:List β × Bool),(passG z more ps st).1.length=st.1.length:=by
  intro ps
  induction ps with
  | nil=>intro st;rfl
  | cons p ps ih =>
   intro st
   unfold passG
   rw [ih]
   split <;> simp
 intro k
 induction k with
 | zero=>intro xs r h;cases h
 | succ k ih =>
  intro xs r h
  unfold growG at h
  split at h
  ·rw [ih _ _ h,hp]
  ·injection h with h;rw [← h,hp]

theorem known_nil (A0:Option Addr) (c0:Nat) (l0:List S65) (A1:Option Addr) (c1:Nat) (l1:List S73) (A2:Option Addr) (c2:Nat) (l2:List ByteArray) (A3:Option Addr) (c3:Nat) (l3:List S68) (st:Int) (w:World)
  (hr0:Kd.C k65 w A0 l0.length l0) (hr1:Kd.C k73 w A1 l1.length l1) (hr2:Kd.C Kd.string w A2 l2.length l2) (hr3:Kd.C k68 w A3 l3.length l3) (hv:validB l0 l1 l2 l3 st=false) :
  Calls Tryz.prog 81 #[.agg #[.slice A0 l0.length c0,.slice A1 l1.length c1,.slice A2 l2.length c2,.slice A3 l3.length c3,.int .i64 st]] w fun e w'=>e=.returned (.pointer none)∧Below w.heap.size w w':=by
 have HB:Aside0 (Below w.heap.size w (w.alloc (Obj.cells #[.slice A0 l0.length c0,.slice A1 l1.length c1,.slice A2 l2.length c2,.slice A3 l3.length c3,.int .i64 st] 27))):=⟨below_alloc (Below.refl _ _) _⟩
 have hval:Aside0 (Calls Tryz.prog 27 #[.agg #[.slice A0 l0.length c0,.slice A1 l1.length c1,.slice A2 l2.length c2,.slice A3 l3.length c3,.int .i64 st]] (w.alloc (Obj.cells #[.slice A0 l0.length c0,.slice A1 l1.length c1,.slice A2 l2.length c2,.slice A3 l3.length c3,.int .i64 st] 27)) fun e w'=>e=.returned (.bool false)∧Below (w.alloc (Obj.cells #[.slice A0 l0.length c0,.slice A1 l1.length c1,.slice A2 l2.length c2,.slice A3 l3.length c3,.int .i64 st] 27)).heap.size (w.alloc (Obj.cells #[.slice A0 l0.length c0,.slice A1 l1.length c1,.slice A2 l2.length c2,.slice A3 l3.length c3,.int .i64 st] 27)) w'):=⟨by
  have:=valid_calls A0 c0 l0 A1 c1 l1 A2 c2 l2 A3 c3 l3 st (w.alloc (Obj.cells #[.slice A0 l0.length c0,.slice A1 l1.length c1,.slice A2 l2.length c2,.slice A3 l3.length c3,.int .i64 st] 27)) (Kd.C_below hr0 HB.out) (Kd.C_below hr1 HB.out) (Kd.C_below hr2 HB.out) (Kd.C_below hr3 HB.out)
  rwa [hv] at this⟩
 have hu27:=Tryz.underlying27
 clear hr0 hr1 hr2 hr3 hv
 go_enter Tryz.func81,Tryz.ntmps81
 go_wp2_with (go_at_call 27;refine hval.out.mono ?_;rintro e w3 ⟨rfl,hb3⟩;replace hb3:=jM hb3)
 go_ret
 exact ⟨rfl,below_step HB.out hb3.out⟩

set_option maxHeartbeats 8000000 in
set_option maxRecDepth 100000 in
theorem known_calls (k:Nat) (A0:Option Addr) (c0:Nat) (l0:List S65) (A1:Option Addr) (c1:Nat) (l1:List S73) (A2:Option Addr) (c2:Nat) (l2:List ByteArray) (A3:Option Addr) (c3:Nat) (l3:List S68) (st:Int) (es:List Bool) (fs:List Int) (w:World)
  (hr0:Kd.C k65 w A0 l0.length l0) (hc0:l0.length≤c0) (hr1:Kd.C k73 w A1 l1.length l1) (hc1:l1.length≤c1) (hr2:Kd.C Kd.string w A2 l2.length l2) (hc2:l2.length≤c2) (hr3:Kd.C k68 w A3 l3.length l3) (hc3:l3.length≤c3)
  (hv:validB l0 l1 l2 l3 st=true) (he:sets_Empty.f k l0 l1 l2 l3 st=some es) (hen:es.length=l2.length) (hf:growG (0:Int) (moreS l0.length l2.length es) l3 k (List.replicate l2.length 0)=some fs)
  (hs:∀ p ∈ l3,(0≤p.f1∧p.f1 < l2.length)∧∀ xs,∃ q,rowF l0.length l2.length es xs 0 p.f2 0=some q) :
  Calls Tryz.prog 81 #[.agg #[.slice A0 l0.length c0,.slice A1 l1.length c1,.slice A2 l2.length c2,.slice A3 l3.length c3,.int .i64 st]] w fun e w'=>∃ (tb G cap dE:Nat) (E:Option Addr),e=.returned (.pointer (some ⟨tb,0,none⟩)) ∧
   w'.cell? ⟨tb,0,none⟩=some (.slice A0 l0.length c0)∧w'.cell? ⟨tb,2,none⟩=some (.slice A2 l2.length c2)∧w'.cell? ⟨tb,5,none⟩=some (.slice E l2.length dE)∧w'.cell? ⟨tb,6,none⟩=some (.slice (some ⟨G,0,none⟩) l2.length cap) ∧
   Kd.C Kd.bool w' E l2.length es∧Kd.R (Kd.int .u64) 48 w' w.heap.size (fun _=>True) (.slice (some ⟨G,0,none⟩) l2.length cap) fs∧Below w.heap.size w w':=by
 have HR0:=jM hr0
 have HR1:=jM hr1
 have HR2:=jM hr2
 have HR3:=jM hr3
 have HC:=jM (And.intro hc0 (And.intro hc1 (And.intro hc2 hc3)))
 have HE:=jM he
 have HF:=jM hf
 have HS:=jM hs
 have hvh:=jM (valid_has hv)
 have HEN:=jM hen
 have HB:Aside0 (Below w.heap.size w (w.alloc (Obj.cells #[.slice A0 l0.length c0,.slice A1 l1.length c1,.slice A2 l2.length c2,.slice A3 l3.length c3,.int .i64 st] 27))):=⟨below_alloc (Below.refl _ _) _⟩
 have hval:Aside0 (Calls Tryz.prog 27 #[.agg #[.slice A0 l0.length c0,.slice A1 l1.length c1,.slice A2 l2.length c2,.slice A3 l3.length c3,.int .i64 st]] (w.alloc (Obj.cells #[.slice A0 l0.length c0,.slice A1 l1.length c1,.slice A2 l2.length c2,.slice A3 l3.length c3,.int .i64 st] 27)) fun e w'=>e=.returned (.bool true)∧Below (w.alloc (Obj.cells #[.slice A0 l0.length c0,.slice A1 l1.length c1,.slice A2 l2.length c2,.slice A3 l3.length c3,.int .i64 st] 27)).heap.size (w.alloc (Obj.cells #[.slice A0 l0.length c0,.slice A1 l1.length c1,.slice A2 l2.length c2,.slice A3 l3.length c3,.int .i64 st] 27)) w'):=⟨by
  have:=valid_calls A0 c0 l0 A1 c1 l1 A2 c2 l2 A3 c3 l3 st (w.alloc (Obj.cells #[.slice A0 l0.length c0,.slice A1 l1.length c1,.slice A2 l2.length c2,.slice A3 l3.length c3,.int .i64 st] 27)) (Kd.C_below hr0 HB.out) (Kd.C_below hr1 HB.out) (Kd.C_below hr2 HB.out) (Kd.C_below hr3 HB.out)
  rwa [hv] at this⟩
 have hu27:=Tryz.underlying27
 have hu156:=Tryz.underlying156
 have f0:(w.alloc (Obj.cells #[.slice A0 l0.length c0,.slice A1 l1.length c1,.slice A2 l2.length c2,.slice A3 l3.length c3,.int .i64 st] 27)).cell? ⟨w.heap.size,0,none⟩=some (.slice A0 l0.length c0):=by go_simp
 have f1:(w.alloc (Obj.cells #[.slice A0 l0.length c0,.slice A1 l1.length c1,.slice A2 l2.length c2,.slice A3 l3.length c3,.int .i64 st] 27)).cell? ⟨w.heap.size,1,none⟩=some (.slice A1 l1.length c1):=by go_simp
 have f2:(w.alloc (Obj.cells #[.slice A0 l0.length c0,.slice A1 l1.length c1,.slice A2 l2.length c2,.slice A3 l3.length c3,.int .i64 st] 27)).cell? ⟨w.heap.size,2,none⟩=some (.slice A2 l2.length c2):=by go_simp
 have f3:(w.alloc (Obj.cells #[.slice A0 l0.length c0,.slice A1 l1.length c1,.slice A2 l2.length c2,.slice A3 l3.length c3,.int .i64 st] 27)).cell? ⟨w.heap.size,3,none⟩=some (.slice A3 l3.length c3):=by go_simp
 have f4:(w.alloc (Obj.cells #[.slice A0 l0.length c0,.slice A1 l1.length c1,.slice A2 l2.length c2,.slice A3 l3.length c3,.int .i64 st] 27)).cell? ⟨w.heap.size,4,none⟩=some (.int .i64 st):=by go_simp
 replace f0:=jM f0
 replace f1:=jM f1
 replace f2:=jM f2
 replace f3:=jM f3
 replace f4:=jM f4
 clear hr0 hr1 hr2 hr3 hv hc0 hc1 hc2 hc3 he hf hs hen
 go_enter Tryz.func81,Tryz.ntmps81
 go_upto_region 3 with (go_at_call 27;refine hval.out.mono ?_;rintro e w3 ⟨rfl,hb3⟩;replace hb3:=jM hb3)
 have F0:=pw_cell_below hb3.out f0.out
 have F1:=pw_cell_below hb3.out f1.out
 have F2:=pw_cell_below hb3.out f2.out
 have F3:=pw_cell_below hb3.out f3.out
 have F4:=pw_cell_below hb3.out f4.out
 have HW3:Aside0 (Below w.heap.size w w3):=⟨below_step HB.out hb3.out⟩
 have hgb:Aside0 (w.heap.size < w3.heap.size):=⟨Nat.lt_of_lt_of_le (by simp) hb3.out.size⟩
 clear f0 f1 f2 f3 f4 hb3 hval HB
 generalize hg:w.heap.size=gb at F0 F1 F2 F3 F4 hgb ⊢
 have HGB:=jM hg
 clear hg
 have E0:=jM F0
 have E1:=jM F1
 have E2:=jM F2
 have E3:=jM F3
 have E4:=jM F4
 go_cut [3] from 7 to 15 (fun s3 wr=>∃ (b3 tb G cap dE:Nat) (E:Option Addr),s3=.pointer (some ⟨b3,0,none⟩)∧Aside0 (wr.cell? ⟨b3,0,none⟩=some (.pointer (some ⟨tb,0,none⟩)) ∧
   wr.cell? ⟨tb,0,none⟩=some (.slice A0 l0.length c0)∧wr.cell? ⟨tb,2,none⟩=some (.slice A2 l2.length c2)∧wr.cell? ⟨tb,5,none⟩=some (.slice E l2.length dE)∧wr.cell? ⟨tb,6,none⟩=some (.slice (some ⟨G,0,none⟩) l2.length cap)) ∧
   Aside0 (Kd.R Kd.bool 4 wr w3.heap.size (fun k=>k≠G) (.slice E l2.length dE) es)∧Aside0 (Kd.R (Kd.int .u64) 48 wr w3.heap.size (fun _=>True) (.slice (some ⟨G,0,none⟩) l2.length cap) (List.replicate l2.length 0))∧Aside0 (b3≠G∧tb≠G∧w3.heap.size≤G∧G < wr.heap.size∧Below w3.heap.size w3 wr))
 case first =>
  have hmk:=make_sets l2.length hvh.out.1
  have X0:=jM (Kd.C_below HR0.out HW3.out)
  have X1:=jM (Kd.C_below HR1.out HW3.out)
  have X2:=jM (Kd.C_below HR2.out HW3.out)
  have X3:=jM (Kd.C_below HR3.out HW3.out)
  have n0:=World.new_ne w3 _ F0
  have n1:¬ w3.heap.size+1=gb:=by have:=hgb.out;omega
  have n2:¬ gb=w3.heap.size:=by have:=hgb.out;omega
  have n3:¬ gb=w3.heap.size+1:=by have:=hgb.out;omega
  go_region_held3 (fun w'=>w'.cell? ⟨gb,0,none⟩=some (.slice A0 l0.length c0)∧w'.cell? ⟨gb,1,none⟩=some (.slice A1 l1.length c1)∧w'.cell? ⟨gb,2,none⟩=some (.slice A2 l2.length c2)∧w'.cell? ⟨gb,3,none⟩=some (.slice A3 l3.length c3)∧w'.cell? ⟨gb,4,none⟩=some (.int .i64 st)) (first | (go_keep;done) | (have hb34':=hb34;exact ⟨pw_cell_below (w:=w3) (by repeat (first | exact hb34.out | exact Below.refl _ _ | apply below_alloc | apply below_drew | refine Below.setCell ?_ (by first | exact Nat.le_refl _ | exact Nat.le_succ _) _)) F0,pw_cell_below (w:=w3) (by repeat (first | exact hb34.out | exact Below.refl _ _ | apply below_alloc | apply below_drew | refine Below.setCell ?_ (by first | exact Nat.le_refl _ | exact Nat.le_succ _) _)) F1,pw_cell_below (w:=w3) (by repeat (first | exact hb34.out | exact Below.refl _ _ | apply below_alloc | apply below_drew | refine Below.setCell ?_ (by first | exact Nat.le_refl _ | exact Nat.le_succ _) _)) F2,pw_cell_below (w:=w3) (by repeat (first | exact hb34.out | exact Below.refl _ _ | apply below_alloc | apply below_drew | refine Below.setCell ?_ (by first | exact Nat.le_refl _ | exact Nat.le_succ _) _)) F3,pw_cell_below (w:=w3) (by repeat (first | exact hb34.out | exact Below.refl _ _ | apply below_alloc | apply below_drew | refine Below.setCell ?_ (by first | exact Nat.le_refl _ | exact Nat.le_succ _) _)) F4⟩) | exact ⟨pw_cell_below (w:=w3) (by repeat (first | exact Below.refl _ _ | apply below_alloc | apply below_drew | refine Below.setCell ?_ (by first | exact Nat.le_refl _ | exact Nat.le_succ _) _)) F0,pw_cell_below (w:=w3) (by repeat (first | exact Below.refl _ _ | apply below_alloc | apply below_drew | refine Below.setCell ?_ (by first | exact Nat.le_refl _ | exact Nat.le_succ _) _)) F1,pw_cell_below (w:=w3) (by repeat (first | exact Below.refl _ _ | apply below_alloc | apply below_drew | refine Below.setCell ?_ (by first | exact Nat.le_refl _ | exact Nat.le_succ _) _)) F2,pw_cell_below (w:=w3) (by repeat (first | exact Below.refl _ _ | apply below_alloc | apply below_drew | refine Below.setCell ?_ (by first | exact Nat.le_refl _ | exact Nat.le_succ _) _)) F3,pw_cell_below (w:=w3) (by repeat (first | exact Below.refl _ _ | apply below_alloc | apply below_drew | refine Below.setCell ?_ (by first | exact Nat.le_refl _ | exact Nat.le_succ _) _)) F4⟩)
   (first | (go_at_call 19;refine (sets_Empty.calls k _ _ l0 _ _ l1 _ _ l2 _ _ l3 st es _ ?_ HC.out.1 ?_ HC.out.2.1 ?_ HC.out.2.2.1 ?_ HC.out.2.2.2 HE.out).mono ?_;exact Kd.C_below X0.out (by repeat (first | exact Below.refl _ _ | apply below_alloc | apply below_drew));exact Kd.C_below X1.out (by repeat (first | exact Below.refl _ _ | apply below_alloc | apply below_drew));exact Kd.C_below X2.out (by repeat (first | exact Below.refl _ _ | apply below_alloc | apply below_drew));exact Kd.C_below X3.out (by repeat (first | exact Below.refl _ _ | apply below_alloc | apply below_drew));rintro e w4 ⟨v0,rfl,hR4,hB4⟩;obtain ⟨EA,dE,rfl⟩:=Kd.R_slice hR4;have hb34:=below_step (w:=w3) (by repeat (first | exact Below.refl _ _ | apply below_alloc | apply below_drew)) hB4;have y0:=pw_cell_below hb34 E0.out;have y1:=pw_cell_below hb34 E1.out;have y2:=pw_cell_below hb34 E2.out;have y3:=pw_cell_below hb34 E3.out;have y4:=pw_cell_below hb34 E4.out;replace hb34:=jM hb34;replace hR4:=jM hR4;replace hB4:=jM hB4;have n4:=World.new_ne w4 _ y0;(first | (by_cases t0:w4.cell? ⟨w3.heap.size,0,none⟩=some (.pointer none);rotate_left;(focus (exfalso;refine t0 (pw_cell_below hB4.out ?_);go_simp;done));(by_cases z0:w4.frozen? ⟨w3.heap.size,0,none⟩=false;rotate_left;(focus (exfalso;refine z0 ((hB4.out.frozen ?_).trans ?_);(focus (first | (simp;done) | (simp;omega) | (simp only [World.size_alloc,World.size_drew];omega)));(focus (go_simp;done)))));have m0:=World.new_ne w4 _ t0;have l0_:w3.heap.size < w4.heap.size:=World.block_lt_of_cell? w4 _ t0;have l0b:w3.heap.size < w4.heap.size+1:=Nat.lt_succ_of_lt l0_;have l0c:w3.heap.size < w4.heap.size+1+1:=Nat.lt_succ_of_lt l0b) | skip);(first | (by_cases t1:w4.cell? ⟨w3.heap.size+1,0,none⟩=some (.pointer none);rotate_left;(focus (exfalso;refine t1 (pw_cell_below hB4.out ?_);go_simp;done));(by_cases z1:w4.frozen? ⟨w3.heap.size+1,0,none⟩=false;rotate_left;(focus (exfalso;refine z1 ((hB4.out.frozen ?_).trans ?_);(focus (first | (simp;done) | (simp;omega) | (simp only [World.size_alloc,World.size_drew];omega)));(focus (go_simp;done)))));have m1:=World.new_ne w4 _ t1;have l1_:w3.heap.size+1 < w4.heap.size:=World.block_lt_of_cell? w4 _ t1;have l1b:w3.heap.size < w4.heap.size:=Nat.lt_of_succ_lt l1_;have l1c:w3.heap.size < w4.heap.size+1:=Nat.lt_succ_of_lt l1b) | skip)))
  ·have hs:=hB4.out.size
   simp at hs
   go_wp2_with fail
   go_meet
   exact ⟨w4.heap.size+1+1,w4.heap.size+1,w4.heap.size,l2.length,dE,EA,rfl,⟨by go_simp,by go_simp,by go_simp,by rw [← HEN.out];go_simp,by go_simp⟩,
    ⟨by rw [← HEN.out];exact Kd.R_mono (ok:=fun k=>k≠w4.heap.size∧k≠w4.heap.size+1+1) (by (repeat (with_reducible first | apply Kd.R_alloc | refine Kd.R_far ?_ (fun k hk=>hk.2) _));exact R_kept hR4.out (by first | omega | (simp;done) | (simp;omega)) (by intro k h1 h2;simp at h1;omega)) (fun k hk=>hk.1)⟩,
    ⟨Kd.R_mono (ok:=fun k=>k=w4.heap.size) (by (repeat (with_reducible first | refine R_fresh_at _ _ _ hvh.out.1 _ ?_ ?_ | apply Kd.R_drew | apply Kd.R_alloc));all_goals (first | omega | (simp;done) | (simp;omega))) (fun _ _=>trivial)⟩,
    ⟨by omega,by omega,by omega,by simp;try omega,by repeat (first | exact hb34.out | apply below_alloc | refine Below.setCell ?_ (by first | exact Nat.le_refl _ | exact Nat.le_succ _) _)⟩⟩
  ·have hs:=hB4.out.size
   simp at hs
   go_wp2_with fail
   go_meet
   exact ⟨w4.heap.size+1,w4.heap.size+1+1,w4.heap.size,l2.length,dE,EA,rfl,⟨by go_simp,by go_simp,by go_simp,by rw [← HEN.out];go_simp,by go_simp⟩,
    ⟨by rw [← HEN.out];exact Kd.R_mono (ok:=fun k=>k≠w4.heap.size∧k≠w4.heap.size+1) (by (repeat (with_reducible first | apply Kd.R_alloc | refine Kd.R_far ?_ (fun k hk=>hk.2) _));exact R_kept hR4.out (by first | omega | (simp;done) | (simp;omega)) (by intro k h1 h2;simp at h1;omega)) (fun k hk=>hk.1)⟩,
    ⟨Kd.R_mono (ok:=fun k=>k=w4.heap.size) (by (repeat (with_reducible first | refine R_fresh_at _ _ _ hvh.out.1 _ ?_ ?_ | apply Kd.R_drew | apply Kd.R_alloc));all_goals (first | omega | (simp;done) | (simp;omega))) (fun _ _=>trivial)⟩,
    ⟨by omega,by omega,by omega,by simp;try omega,by repeat (first | exact hb34.out | apply below_alloc | refine Below.setCell ?_ (by first | exact Nat.le_refl _ | exact Nat.le_succ _) _)⟩⟩
  ·have hs:=hB4.out.size
   simp at hs
   go_wp2_with fail
   go_meet
   exact ⟨w4.heap.size,w4.heap.size+1+1,w4.heap.size+1,l2.length,dE,EA,rfl,⟨by go_simp,by go_simp,by go_simp,by rw [← HEN.out];go_simp,by go_simp⟩,
    ⟨by rw [← HEN.out];exact Kd.R_mono (ok:=fun k=>k≠w4.heap.size+1∧k≠w4.heap.size) (by (repeat (with_reducible first | apply Kd.R_alloc | refine Kd.R_far ?_ (fun k hk=>hk.2) _));exact R_kept hR4.out (by first | omega | (simp;done) | (simp;omega)) (by intro k h1 h2;simp at h1;omega)) (fun k hk=>hk.1)⟩,
    ⟨Kd.R_mono (ok:=fun k=>k=w4.heap.size+1) (by (repeat (with_reducible first | refine R_fresh_at _ _ _ hvh.out.1 _ ?_ ?_ | apply Kd.R_drew | apply Kd.R_alloc));all_goals (first | omega | (simp;done) | (simp;omega))) (fun _ _=>trivial)⟩,
    ⟨by omega,by omega,by omega,by simp;try omega,by repeat (first | exact hb34.out | apply below_alloc | refine Below.setCell ?_ (by first | exact Nat.le_refl _ | exact Nat.le_succ _) _)⟩⟩
  ·have hs:=hB4.out.size
   simp at hs
   go_wp2_with fail
   go_meet
   exact ⟨w4.heap.size+1,w4.heap.size,w3.heap.size,l2.length,dE,EA,rfl,⟨by go_simp,by go_simp,by go_simp,by rw [← HEN.out];go_simp,by go_simp⟩,
    ⟨by rw [← HEN.out];exact Kd.R_mono (ok:=fun k=>k≠w3.heap.size∧k≠w4.heap.size+1) (by (repeat (with_reducible first | apply Kd.R_alloc | refine Kd.R_far ?_ (fun k hk=>hk.2) _));exact R_kept hR4.out (by first | omega | (simp;done) | (simp;omega)) (by intro k h1 h2;simp at h1;omega)) (fun k hk=>hk.1)⟩,
    ⟨Kd.R_mono (ok:=fun k=>k=w3.heap.size) (by (repeat (with_reducible first | apply Kd.R_alloc | refine Kd.R_far ?_ (fun k hk=>by rw [hk];simp) _));refine Kd.R_below ?_ hB4.out;(repeat (with_reducible first | refine R_fresh_at _ _ _ hvh.out.1 _ ?_ ?_ | apply Kd.R_drew | apply Kd.R_alloc));all_goals (first | omega | (simp;done) | (simp;omega))) (fun _ _=>trivial)⟩,
    ⟨by omega,by omega,by omega,by simp;try omega,by repeat (first | exact hb34.out | apply below_alloc | refine Below.setCell ?_ (by first | exact Nat.le_refl _ | exact Nat.le_succ _) _)⟩⟩
  ·have hs:=hB4.out.size
   simp at hs
   go_wp2_with fail
   go_meet
   exact ⟨w4.heap.size,w4.heap.size+1,w3.heap.size,l2.length,dE,EA,rfl,⟨by go_simp,by go_simp,by go_simp,by rw [← HEN.out];go_simp,by go_simp⟩,
    ⟨by rw [← HEN.out];exact Kd.R_mono (ok:=fun k=>k≠w3.heap.size∧k≠w4.heap.size) (by (repeat (with_reducible first | apply Kd.R_alloc | refine Kd.R_far ?_ (fun k hk=>hk.2) _));exact R_kept hR4.out (by first | omega | (simp;done) | (simp;omega)) (by intro k h1 h2;simp at h1;omega)) (fun k hk=>hk.1)⟩,
    ⟨Kd.R_mono (ok:=fun k=>k=w3.heap.size) (by (repeat (with_reducible first | apply Kd.R_alloc | refine Kd.R_far ?_ (fun k hk=>by rw [hk];simp) _));refine Kd.R_below ?_ hB4.out;(repeat (with_reducible first | refine R_fresh_at _ _ _ hvh.out.1 _ ?_ ?_ | apply Kd.R_drew | apply Kd.R_alloc));all_goals (first | omega | (simp;done) | (simp;omega))) (fun _ _=>trivial)⟩,
    ⟨by omega,by omega,by omega,by simp;try omega,by repeat (first | exact hb34.out | apply below_alloc | refine Below.setCell ?_ (by first | exact Nat.le_refl _ | exact Nat.le_succ _) _)⟩⟩
  ·have hs:=hB4.out.size
   simp at hs
   go_wp2_with fail
   go_meet
   exact ⟨w3.heap.size+1,w4.heap.size,w3.heap.size,l2.length,dE,EA,rfl,⟨by go_simp,by go_simp,by go_simp,by rw [← HEN.out];go_simp,by go_simp⟩,
    ⟨by rw [← HEN.out];exact Kd.R_mono (ok:=fun k=>k≠w3.heap.size∧k≠w3.heap.size+1) (by (repeat (with_reducible first | apply Kd.R_alloc | refine Kd.R_far ?_ (fun k hk=>hk.2) _));exact R_kept hR4.out (by first | omega | (simp;done) | (simp;omega)) (by intro k h1 h2;simp at h1;omega)) (fun k hk=>hk.1)⟩,
    ⟨Kd.R_mono (ok:=fun k=>k=w3.heap.size) (by (repeat (with_reducible first | apply Kd.R_alloc | refine Kd.R_far ?_ (fun k hk=>by rw [hk];simp) _));refine Kd.R_below ?_ hB4.out;(repeat (with_reducible first | refine R_fresh_at _ _ _ hvh.out.1 _ ?_ ?_ | apply Kd.R_drew | apply Kd.R_alloc));all_goals (first | omega | (simp;done) | (simp;omega))) (fun _ _=>trivial)⟩,
    ⟨by omega,by omega,by omega,by simp;try omega,by repeat (first | exact hb34.out | apply below_alloc | refine Below.setCell ?_ (by first | exact Nat.le_refl _ | exact Nat.le_succ _) _)⟩⟩
  ·have hs:=hB4.out.size
   simp at hs
   go_wp2_with fail
   go_meet
   exact ⟨w3.heap.size,w4.heap.size+1,w4.heap.size,l2.length,dE,EA,rfl,⟨by go_simp,by go_simp,by go_simp,by rw [← HEN.out];go_simp,by go_simp⟩,
    ⟨by rw [← HEN.out];exact Kd.R_mono (ok:=fun k=>k≠w4.heap.size∧k≠w3.heap.size) (by (repeat (with_reducible first | apply Kd.R_alloc | refine Kd.R_far ?_ (fun k hk=>hk.2) _));exact R_kept hR4.out (by first | omega | (simp;done) | (simp;omega)) (by intro k h1 h2;simp at h1;omega)) (fun k hk=>hk.1)⟩,
    ⟨Kd.R_mono (ok:=fun k=>k=w4.heap.size) (by (repeat (with_reducible first | refine R_fresh_at _ _ _ hvh.out.1 _ ?_ ?_ | apply Kd.R_drew | apply Kd.R_alloc));all_goals (first | omega | (simp;done) | (simp;omega))) (fun _ _=>trivial)⟩,
    ⟨by omega,by omega,by omega,by simp;try omega,by repeat (first | exact hb34.out | apply below_alloc | refine Below.setCell ?_ (by first | exact Nat.le_refl _ | exact Nat.le_succ _) _)⟩⟩
  ·have hs:=hB4.out.size
   simp at hs
   go_wp2_with fail
   go_meet
   exact ⟨w3.heap.size,w4.heap.size,w3.heap.size+1,l2.length,dE,EA,rfl,⟨by go_simp,by go_simp,by go_simp,by rw [← HEN.out];go_simp,by go_simp⟩,
    ⟨by rw [← HEN.out];exact Kd.R_mono (ok:=fun k=>k≠w3.heap.size+1∧k≠w3.heap.size) (by (repeat (with_reducible first | apply Kd.R_alloc | refine Kd.R_far ?_ (fun k hk=>hk.2) _));exact R_kept hR4.out (by first | omega | (simp;done) | (simp;omega)) (by intro k h1 h2;simp at h1;omega)) (fun k hk=>hk.1)⟩,
    ⟨Kd.R_mono (ok:=fun k=>k=w3.heap.size+1) (by (repeat (with_reducible first | apply Kd.R_alloc | refine Kd.R_far ?_ (fun k hk=>by rw [hk];simp) _));refine Kd.R_below ?_ hB4.out;(repeat (with_reducible first | refine R_fresh_at _ _ _ hvh.out.1 _ ?_ ?_ | apply Kd.R_drew | apply Kd.R_alloc));all_goals (first | omega | (simp;done) | (simp;omega))) (fun _ _=>trivial)⟩,
    ⟨by omega,by omega,by omega,by simp;try omega,by repeat (first | exact hb34.out | apply below_alloc | refine Below.setCell ?_ (by first | exact Nat.le_refl _ | exact Nat.le_succ _) _)⟩⟩
 case rest =>
  obtain ⟨b3,tb,G,cap,dE,E,rfl,hcell,hE,hF,hN⟩:=hcut
  have hNB:=jM hN.out.2.2.2.2
  have hsz:Aside0 (b3≠G∧tb≠G∧gb < G∧w3.heap.size≤G∧G < wc.heap.size):=⟨hN.out.1,hN.out.2.1,Nat.lt_of_lt_of_le hgb.out hN.out.2.2.1,hN.out.2.2.1,hN.out.2.2.2.1⟩
  clear F0 F1 F2 F3 F4
  have F0:=pw_cell_below hNB.out E0.out
  have F1:=pw_cell_below hNB.out E1.out
  have F2:=pw_cell_below hNB.out E2.out
  have F3:=pw_cell_below hNB.out E3.out
  have F4:=pw_cell_below hNB.out E4.out
  have F5:=hcell.out.1
  have F6:=hcell.out.2.2.2.2
  have hmf:∀ (fn:Fn) (first cap:Array Value) (w:World),(Instr.makeFunc fn first cap).run Tryz.prog w=.ok (.func fn first cap) w:=fun _ _ _ _=>rfl
  have hEE:Aside0 (∀ wz wy:World,Below wc.heap.size wc wz→wz.grownBy wy (some G)→Kd.C Kd.bool wy E l2.length es):=⟨fun wz wy hz hy=>by
   have h1:=Kd.R_grown (Kd.R_below hE.out hz) hy (fun k hk e=>hk (by injection e))
   have h2:=(Kd.R_reads' h1).2.2
   rwa [← (Kd.R_reads' h1).1] at h2⟩
  have hgrow:Aside0 (∀ wz:World,Below wc.heap.size wc wz→Calls Tryz.prog 91 #[.agg #[.slice A0 l0.length c0,.slice A1 l1.length c1,.slice A2 l2.length c2,.slice A3 l3.length c3,.int .i64 st],.slice (some ⟨G,0,none⟩) l2.length cap,.func (.func 92) #[] #[.pointer (some ⟨b3,0,none⟩)]] wz
    fun e w'=>e=.returned (.slice (some ⟨G,0,none⟩) l2.length cap)∧Kd.R (Kd.int .u64) 48 w' w3.heap.size (fun _=>True) (.slice (some ⟨G,0,none⟩) l2.length cap) fs∧wz.grownBy w' (some G)):=⟨fun wz hz =>
   grow_set k tb l0.length l2.length A0 A2 E c0 c2 dE es A0 c0 l0 A1 c1 l1 A2 c2 l2 A3 c3 l3 st b3 G cap w3.heap.size (fun _=>True) (List.replicate l2.length 0) fs w3 wz (Kd.C_below HR3.out HW3.out) (below_step hNB.out hz) hsz.out.2.2.2.1 (Nat.lt_of_lt_of_le hsz.out.2.2.2.2 hz.size) hvh.out.1
    (pw_cell_below hz hcell.out.1) (pw_cell_below hz hcell.out.2.1) (pw_cell_below hz hcell.out.2.2.1) (pw_cell_below hz hcell.out.2.2.2.1) (pw_cell_below hz hcell.out.2.2.2.2) (fun wy hy=>hEE.out wz wy hz hy) hsz.out.1 hsz.out.2.1 (Kd.R_below hF.out hz) HS.out HF.out⟩
  have X0:=jM F0
  have X1:=jM F1
  have X2:=jM F2
  have X3:=jM F3
  have X4:=jM F4
  have X5:=jM F5
  have X6:=jM F6
  clear E0 E1 E2 E3 E4
  go_upto_region 4 with fail
  go_region_held3 (fun w'=>w'.cell? ⟨gb,0,none⟩=some (.slice A0 l0.length c0)∧w'.cell? ⟨gb,1,none⟩=some (.slice A1 l1.length c1)∧w'.cell? ⟨gb,2,none⟩=some (.slice A2 l2.length c2)∧w'.cell? ⟨gb,3,none⟩=some (.slice A3 l3.length c3)∧w'.cell? ⟨gb,4,none⟩=some (.int .i64 st)∧w'.cell? ⟨b3,0,none⟩=some (.pointer (some ⟨tb,0,none⟩))∧w'.cell? ⟨tb,6,none⟩=some (.slice (some ⟨G,0,none⟩) l2.length cap)) (go_keep)
   (first | (go_at_call 91;refine (hgrow.out _ (by repeat (first | exact Below.refl _ _ | apply below_drew))).mono ?_;rintro e w6 ⟨rfl,hr6,hg6⟩;have hk:=fun {a:Addr} {v:Value} (h:wc.cell? a=some v) (hn:a.block≠G)=>World.grownBy.cell hg6 (a:=a) (v:=v) (pw_cell_below (by repeat (first | exact Below.refl _ _ | apply below_drew)) h) (fun e=>hn (by injection e));have y0:=hk X0.out (Nat.ne_of_lt hsz.out.2.2.1);have y1:=hk X1.out (Nat.ne_of_lt hsz.out.2.2.1);have y2:=hk X2.out (Nat.ne_of_lt hsz.out.2.2.1);have y3:=hk X3.out (Nat.ne_of_lt hsz.out.2.2.1);have y4:=hk X4.out (Nat.ne_of_lt hsz.out.2.2.1);have y5:=hk X5.out hsz.out.1;have y6:=hk X6.out hsz.out.2.1;have y7:=jM (hk hcell.out.2.1 hsz.out.2.1);have y8:=jM (hk hcell.out.2.2.1 hsz.out.2.1);have y9:=jM (hk hcell.out.2.2.2.1 hsz.out.2.1);clear hk;replace hr6:=jM hr6;replace hg6:=jM hg6))
  go_wp2
  go_ret
  exact ⟨tb,G,cap,dE,E,rfl,y7.out,y8.out,y9.out,y6,hEE.out _ _ (by repeat (first | exact Below.refl _ _ | apply below_drew)) hg6.out,Kd.R_lower hr6.out (by first | exact HW3.out.size | (rw [← HGB.out];exact HW3.out.size)),below_grownS (below_drew (below_step HW3.out hNB.out)) hg6.out (by rw [HGB.out];exact Nat.le_of_lt hsz.out.2.2.1)⟩
theorem With_some (out s:Int) (h0:0≤s) (h1:s < 64):∃ q,bits_With.f out s=some q:=by
 unfold bits_With.f bits_bit.f
 rw [if_neg (by omega),if_neg (by omega),if_pos h0]
 exact ⟨_,rfl⟩

theorem rowF_total (nT nS:Int) (hT:nT≤60) (es:List Bool) (fs:List Int) (behind:Int):∀ (l:List Int) (out:Int),∃ q,rowF nT nS es fs behind l out=some q
 | [],out=>⟨_,rfl⟩
 | s :: l,out=>by
  unfold rowF
  split
  ·exact ⟨_,rfl⟩
  ·rename_i hn
   split
   ·exact With_some _ _ (by assumption) (by omega)
   ·have hu:bits_Union.f out (rd fs (-1 - s))=some (Go.bits .or .u64 out (rd fs (-1 - s))):=rfl
    rw [hu]
    simp only [Option.bind_some]
    split
    ·exact rowF_total nT nS hT es fs behind l _
    ·exact ⟨_,rfl⟩

theorem Empty_len {k:Nat} {l0:List S65} {l1:List S73} {l2:List ByteArray} {l3:List S68} {st:Int} {es:List Bool} (hv:validB l0 l1 l2 l3 st=true) (h:sets_Empty.f k l0 l1 l2 l3 st=some es):es.length=l2.length:=by
 unfold sets_Empty.f sets_all.f at h
 rw [if_pos hv] at h
 have h':growG false (moreB false) l3 k (List.replicate l2.length false)=some es:=by simpa using h
 rw [growG_length _ _ _ _ _ _ h',List.length_replicate]

theorem valid_terms {l0:List S65} {l1:List S73} {l2:List ByteArray} {l3:List S68} {st:Int} (h:validB l0 l1 l2 l3 st=true):(l0.length:Int)≤60:=by
 simp only [validB,Bool.and_eq_true,Bool.not_eq_true',decide_eq_false_iff_not,List.all_eq_true] at h
 obtain ⟨⟨⟨⟨⟨⟨⟨⟨h0, -⟩, -⟩, -⟩, -⟩, -⟩, -⟩, -⟩, -⟩:=h
 omega

def sets_First.f (k:Nat) (l0:List S65) (l1:List S73) (l2:List ByteArray) (l3:List S68) (st:Int):Option (List Int) :=
 if validB l0 l1 l2 l3 st=true then (sets_Empty.f k l0 l1 l2 l3 st).bind fun es=>growG (0:Int) (moreS l0.length l2.length es) l3 k (List.replicate l2.length 0) else some []
def sets_Of.f (k:Nat) (l0:List S65) (l1:List S73) (l2:List ByteArray) (l3:List S68) (st:Int) (l:List Int) (behind:Int):Option Int :=
 if validB l0 l1 l2 l3 st=true then (sets_Empty.f k l0 l1 l2 l3 st).bind fun es=>(growG (0:Int) (moreS l0.length l2.length es) l3 k (List.replicate l2.length 0)).bind fun fs=>rowF l0.length l2.length es fs behind l 0 else some 0

theorem sets_Of.mono (l0:List S65) (l1:List S73) (l2:List ByteArray) (l3:List S68) (st:Int) (l:List Int) (behind:Int) (k:Nat):LeO (sets_Of.f k l0 l1 l2 l3 st l behind) (sets_Of.f (k+1) l0 l1 l2 l3 st l behind):=by
 unfold sets_Of.f
 split
 ·intro r h
  obtain ⟨es,he,h⟩:=Option.bind_eq_some_iff.1 h
  obtain ⟨fs,hf,h⟩:=Option.bind_eq_some_iff.1 h
  exact Option.bind_eq_some_iff.2 ⟨es,sets_Empty.mono _ _ _ _ _ _ _ he,Option.bind_eq_some_iff.2 ⟨fs,growG_mono _ _ _ _ _ _ hf,h⟩⟩
 ·exact fun _ h=>h

set_option maxHeartbeats 4000000 in
set_option maxRecDepth 100000 in
theorem sets_Of.calls (k:Nat) (A0:Option Addr) (c0:Nat) (l0:List S65) (A1:Option Addr) (c1:Nat) (l1:List S73) (A2:Option Addr) (c2:Nat) (l2:List ByteArray) (A3:Option Addr) (c3:Nat) (l3:List S68) (st:Int) (A:Option Addr) (c:Nat) (l:List Int) (behind:Int) (r:Int) (w:World)
  (hr0:Kd.C k65 w A0 l0.length l0) (hc0:l0.length≤c0) (hr1:Kd.C k73 w A1 l1.length l1) (hc1:l1.length≤c1) (hr2:Kd.C Kd.string w A2 l2.length l2) (hc2:l2.length≤c2) (hr3:Kd.C k68 w A3 l3.length l3) (hc3:l3.length≤c3) (hr:Kd.C (Kd.int .i64) w A l.length l) (hc:l.length≤c)
  (h:sets_Of.f k l0 l1 l2 l3 st l behind=some r) :
  Calls Tryz.prog 69 #[.agg #[.slice A0 l0.length c0,.slice A1 l1.length c1,.slice A2 l2.length c2,.slice A3 l3.length c3,.int .i64 st],.slice A l.length c,.int .u64 behind] w fun e w'=>e=.returned (.int .u64 r)∧Below w.heap.size w w':=by
 have HB:Aside0 (Below w.heap.size w (w.alloc (Obj.cells #[.slice A0 l0.length c0,.slice A1 l1.length c1,.slice A2 l2.length c2,.slice A3 l3.length c3,.int .i64 st] 27))):=⟨below_alloc (Below.refl _ _) _⟩
 have hsz:Aside0 (w.heap.size≤(w.alloc (Obj.cells #[.slice A0 l0.length c0,.slice A1 l1.length c1,.slice A2 l2.length c2,.slice A3 l3.length c3,.int .i64 st] 27)).heap.size):=⟨HB.out.size⟩
 have r0:=Kd.C_below hr0 HB.out
 have r1:=Kd.C_below hr1 HB.out
 have r2:=Kd.C_below hr2 HB.out
 have r3:=Kd.C_below hr3 HB.out
 have hu27:=Tryz.underlying27
 have hu156:=Tryz.underlying156
 unfold sets_Of.f at h
 cases hv:validB l0 l1 l2 l3 st
 ·have hkn:=jM (known_nil A0 c0 l0 A1 c1 l1 A2 c2 l2 A3 c3 l3 st (w.alloc (Obj.cells #[.slice A0 l0.length c0,.slice A1 l1.length c1,.slice A2 l2.length c2,.slice A3 l3.length c3,.int .i64 st] 27)) r0 r1 r2 r3 hv)
  have hrr:Aside0 ((0:Int)=r):=⟨by rw [hv] at h;simpa using h⟩
  clear hr hr0 hr1 hr2 hr3 r0 r1 r2 r3 hv h
  go_enter Tryz.func69,Tryz.ntmps69
  go_wp2_with (go_at_call 81;refine hkn.out.mono ?_;rintro e w3 ⟨rfl,hb3⟩;replace hb3:=jM hb3)
  go_ret
  exact ⟨by rw [← hrr.out];rfl,below_step HB.out hb3.out⟩
 ·rw [if_pos hv] at h
  obtain ⟨es,he,h⟩:=Option.bind_eq_some_iff.1 h
  obtain ⟨fs,hf,h⟩:=Option.bind_eq_some_iff.1 h
  have HH:=jM h
  have HL:=jM (Kd.C_below hr HB.out)
  have h60:=jM (valid_has hv).1
  have hkn:=jM (known_calls k A0 c0 l0 A1 c1 l1 A2 c2 l2 A3 c3 l3 st es fs (w.alloc (Obj.cells #[.slice A0 l0.length c0,.slice A1 l1.length c1,.slice A2 l2.length c2,.slice A3 l3.length c3,.int .i64 st] 27)) r0 hc0 r1 hc1 r2 hc2 r3 hc3 hv he (Empty_len hv he) hf (fun p hp=>⟨((valid_has hv).2.2 p hp).1,fun xs=>rowF_total _ _ (valid_terms hv) _ _ _ _ _⟩))
  clear hr hr0 hr1 hr2 hr3 r0 r1 r2 r3 hv h he hf
  go_enter Tryz.func69,Tryz.ntmps69
  go_wp2_with (first | (go_at_call 81;refine hkn.out.mono ?_;rintro e w3 ⟨tb,G,cap,dE,E,rfl,y0,y2,y5,y6,hE,hR,hb3⟩;have hrow:=row_calls tb l0.length l2.length A0 A2 E (some ⟨G,0,none⟩) c0 c2 dE cap es fs A c l behind r w3 (Kd.C_below HL.out hb3) h60.out y0 y2 y5 y6 hE (by have:=(Kd.R_reads' hR).2.2;rwa [← (Kd.R_reads' hR).1] at this) HH.out;replace hb3:=jM hb3;replace hR:=jM hR;replace hrow:=jM hrow;clear hE) | (go_at_call 82;refine hrow.out.mono ?_;rintro e w4 ⟨rfl,m,rfl⟩))
  go_ret
  exact ⟨rfl,pw_below_drewN (below_step HB.out hb3.out) _⟩
end Go.Proofs.YtclollnicbcooaaGreatDoor.P
namespace Go.Proofs.YtclollnicbcooaaGreatDoor.P
open Go.RowKit Go.Lib Go.Sort YtclollnicbcooaaGreatDoorW.PrintWords YtclollnicbcooaaGreatDoorW.PrintLast YtclollnicbcooaaGreatDoorW.PrintMore St Base
instance (s:Spt):Decidable (rngS s):=by unfold rngS rngN rngI;infer_instance
def foldE (ofF:List Int→Int→Option Int) (s:Spt):List Edg→(Spt→Int) × List Spt→Option ((Spt→Int) × List Spt)
 | [],Z=>some Z
 | e :: es,Z=>if rngS e.1∧Z.2.length≤1000000000 then (ofF e.2 (Z.1 s)).bind fun t=>foldE ofF s es (moreL Z.1 Z.2 e.1 t) else none
def queueF (ofF:List Int→Int→Option Int) (ed:Spt→Option (List Edg)):Nat→(Spt→Int) × List Spt→Option (Spt→Int)
 | 0,_=>none
 | k+1,(F,q)=>match q with
  | []=>some F
  | s :: q=>(ed s).bind fun es=>if rngS s∧es.length≤1000000 then (foldE ofF s es (F,q)).bind (queueF ofF ed k) else none
def outF (cl:List S77→Option (List S77)) (F:Spt→Int):Nat→List (List S77)→Option (List S96)
 | _,[]=>some []
 | i,c :: K=>(cl c).bind fun items=>if (∀ x ∈ items,rngS ((i:Int),toI x))∧items.length≤1000000 then (outF cl F (i+1) K).map fun r=>⟨items,items.map fun x=>F ((i:Int),toI x)⟩ :: r else none
def beg0:Spt:=(0,(-1,0))
def look_rows.f (k:Nat) (l0:List S65) (l1:List S73) (l2:List ByteArray) (l3:List S68) (st:Int) (K:List (List S77)) (N:List (List Int)):Option (List S96) :=
 if K.length≤1000000∧l3.length≤100000 then (bits_Of.f k [63]).bind fun t0=>(queueF (sets_Of.f k l0 l1 l2 l3 st) (edgesF l0 l1 l2 l3 st K N) k (moreL (fun _=>0) [] beg0 t0)).bind fun F=>outF (states_Close.f l0 l1 l2 l3 st) F 0 K else none
def look_All.f (k:Nat) (l0:List S65) (l1:List S73) (l2:List ByteArray) (l3:List S68) (st:Int):Option (List S96 × Int) :=
 (states_Build.f l0 l1 l2 l3 st).bind fun b=>if b.2.2=0 then (look_rows.f k l0 l1 l2 l3 st b.1 b.2.1).map fun r=>(r,0) else some ([],b.2.2)

theorem foldE_mono {f g:List Int→Int→Option Int} (h:∀ l b,LeO (f l b) (g l b)) (s:Spt):∀ (es:List Edg) (Z:(Spt→Int) × List Spt),LeO (foldE f s es Z) (foldE g s es Z)
 | [],Z=>LeO.refl _
 | e :: es,Z=>by
  unfold foldE
  split
  ·intro r hr
   obtain ⟨t,ht,hr⟩:=Option.bind_eq_some_iff.1 hr
   exact Option.bind_eq_some_iff.2 ⟨t,h _ _ _ ht,foldE_mono h s es _ _ hr⟩
  ·exact LeO.refl _
theorem queueF_mono {f g:List Int→Int→Option Int} (h:∀ l b,LeO (f l b) (g l b)) (ed:Spt→Option (List Edg)):∀ (k:Nat) (Z:(Spt→Int) × List Spt),LeO (queueF f ed k Z) (queueF g ed (k+1) Z)
 | 0,Z=>fun r hr=>by simp [queueF] at hr
 | k+1,(F,[])=>fun r hr=>hr
 | k+1,(F,s :: q)=>fun r hr=>by
  rw [queueF] at hr ⊢
  obtain ⟨es,he,hr⟩:=Option.bind_eq_some_iff.1 hr
  refine Option.bind_eq_some_iff.2 ⟨es,he, ?_⟩
  split at hr
  ·rename_i hg
   rw [if_pos hg]
   obtain ⟨Z,hZ,hr⟩:=Option.bind_eq_some_iff.1 hr
   exact Option.bind_eq_some_iff.2 ⟨Z,foldE_mono h s es _ _ hZ,queueF_mono h ed k Z _ hr⟩
  ·cases hr
theorem look_rows.mono (l0:List S65) (l1:List S73) (l2:List ByteArray) (l3:List S68) (st:Int) (K:List (List S77)) (N:List (List Int)) (k:Nat):LeO (look_rows.f k l0 l1 l2 l3 st K N) (look_rows.f (k+1) l0 l1 l2 l3 st K N):=by
 unfold look_rows.f
 split
 ·intro r h
  obtain ⟨t,ht,h⟩:=Option.bind_eq_some_iff.1 h
  obtain ⟨F,hF,h⟩:=Option.bind_eq_some_iff.1 h
  exact Option.bind_eq_some_iff.2 ⟨t,bits_Of.mono _ _ _ ht,Option.bind_eq_some_iff.2 ⟨F,queueF_mono (fun l b=>sets_Of.mono _ _ _ _ _ _ _ _) _ _ _ _ hF,h⟩⟩
 ·exact LeO.refl _
end Go.Proofs.YtclollnicbcooaaGreatDoor.P
