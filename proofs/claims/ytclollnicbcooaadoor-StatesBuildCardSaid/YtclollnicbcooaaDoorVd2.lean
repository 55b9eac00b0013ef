/- Texts of this claim put together: Num, Bup, Bui, Px6, Px8, Px2, Px11, Px7, Px16, SRefV, Px9. -/
import Derived.Test.YtclollnicbcooaaDoorVd1
import Derived.Test.YtclollnicbcooaaDoorVd0
import Derived.IntWalk
set_option linter.unusedVariables false
set_option linter.unusedSimpArgs false
set_option linter.unusedSectionVars false
section
namespace Go.Proofs.YtclollnicbcooaaDoor.P
open Go.RowKit Go.Lib Go.Sort Go.Proofs.YtclollnicbcooaaDoorW.PrintWords Go.Proofs.YtclollnicbcooaaDoorW.PrintLast Go.Proofs.YtclollnicbcooaaDoorW.PrintMore St Base

theorem info28 : (Tryd.prog.info? 28).map (fun i => (i.zero, i.size, i.bytes)) = some (some (.slice none 0 0), 1, 24) := by kernel_rfl
theorem keyed9 : Maps.Keyed Tryd.prog 9 := Maps.string_keyed Tryd.underlying9
theorem key9 (s : ByteArray) (h : s.size ≤ maxLen) : ∃ x, keyOf Tryd.prog 9 (.string s) = some x := by
 unfold keyOf
 rw [Tryd.underlying9]
 simp only [mapKey, Tryd.underlying9]
 rw [if_pos h]
 exact ⟨_, rfl⟩
theorem dec_len : ∀ (k u : Nat), u < 10 ^ (k + 1) → (decDigits u).length ≤ k + 1
 | 0, u, h => by rw [dec_small u (by omega)]; simp
 | k + 1, u, h => by
  by_cases hu : u < 10
  ·rw [dec_small u hu]; simp
  ·rw [dec_step u hu, List.length_append, List.length_singleton]
   have := dec_len k (u / 10) (by rw [Nat.pow_succ] at h; omega)
   omega
theorem itoa_len (n : Int) (h : -9223372036854775808 ≤ n ∧ n ≤ 9223372036854775807) : (itoa n).length ≤ 20 := by
 unfold itoa
 split
 ·have := dec_len 18 n.natAbs (by omega)
  simp only [List.length_cons]; omega
 ·have := dec_len 18 n.toNat (by omega)
  omega
theorem keyL_len : ∀ l : List Itm, (∀ x ∈ l, rngI x) → (keyL l).length ≤ l.length * 42
 | [], _ => by simp [keyL]
 | x :: l, h => by
  have h1 := keyL_len l (fun y hy => h y (List.mem_cons_of_mem _ hy))
  have h2 := h x (List.mem_cons_self ..)
  have h3 := itoa_len x.1 h2.1
  have h4 := itoa_len x.2 h2.2
  unfold keyL pieceL
  simp only [List.length_append, List.length_cons, List.length_nil]
  omega
theorem keyS_size {l : List Itm} (h : ∀ x ∈ l, rngI x) (hs : l.length ≤ 1000000) : (keyS l).size ≤ maxLen := by
 have := keyL_len l h
 show (keyL l).toArray.size ≤ maxLen
 rw [List.size_toArray]
 unfold maxLen
 omega
/-- The rows' numbers, as the map has them. -/
def numK (K : List (List Itm)) : List (Value × Value) := K.zipIdx.map fun p => (.string (keyS p.1), .int .i64 (p.2 : Int))
theorem numK_snoc (K : List (List Itm)) (l : List Itm) : numK (K ++ [l]) = numK K ++ [(.string (keyS l), .int .i64 (K.length : Int))] := by
 unfold numK
 rw [List.zipIdx_append]
 simp
theorem numK_mem {K : List (List Itm)} {p : Value × Value} (h : p ∈ numK K) : ∃ (i : Nat) (l : List Itm), K[i]? = some l ∧ p = (.string (keyS l), .int .i64 (i : Int)) := by
 unfold numK at h
 obtain ⟨⟨l, i⟩, hm, rfl⟩ := List.mem_map.1 h
 have := List.mem_zipIdx hm
 simp only [Nat.zero_add, Nat.sub_zero] at this
 obtain ⟨_, h2, h3⟩ := this
 exact ⟨i, l, (List.getElem?_eq_getElem h2).trans (congrArg some h3.symm), rfl⟩
theorem numK_has {K : List (List Itm)} {i : Nat} {l : List Itm} (h : K[i]? = some l) : ((.string (keyS l), .int .i64 (i : Int)) : Value × Value) ∈ numK K := by
 unfold numK
 exact List.mem_map.2 ⟨(l, i), List.mem_of_getElem? (by rw [List.getElem?_zipIdx, h, Nat.zero_add]; rfl), rfl⟩
theorem look_has {W : World} {r i : Nat} {K : List (List Itm)} {l : List Itm} (hz : (keyS l).size ≤ maxLen) (h : Mp Tryd.prog 9 W r (numK K)) (hd : K.Nodup) (hi : K[i]? = some l) : (Instr.lookup 87 (.map (some r)) (.string (keyS l)) true).run Tryd.prog W = .ok (.tuple #[.int .i64 (i : Int), .bool true]) W := by
 refine h.find (et := 3) Tryd.underlying87 keyed9 (key9 _ hz).choose_spec (numK_has hi) (fun p hp he => ?_) true
 obtain ⟨j, m, hj, rfl⟩ := numK_mem hp
 injection he with he
 obtain rfl := keyS_inj he
 obtain ⟨h1, h2⟩ := List.getElem?_eq_some_iff.1 hi
 obtain ⟨h3, h4⟩ := List.getElem?_eq_some_iff.1 hj
 have : i = j := (List.getElem_inj hd).1 (h2.trans h4.symm)
 rw [this]
theorem look_not {W : World} {r : Nat} {K : List (List Itm)} {l : List Itm} (hz : (keyS l).size ≤ maxLen) (h : Mp Tryd.prog 9 W r (numK K)) (hn : l ∉ K) : (Instr.lookup 87 (.map (some r)) (.string (keyS l)) true).run Tryd.prog W = .ok (.tuple #[.int .i64 0, .bool false]) W := by
 refine h.miss (et := 3) Tryd.underlying87 keyed9 (key9 _ hz).choose_spec (Tryd.zeroValue3 W) (fun p hp he => ?_) true
 obtain ⟨j, m, hj, rfl⟩ := numK_mem hp
 injection he with he
 obtain rfl := keyS_inj he
 exact hn (List.mem_of_getElem? hj)
theorem look_put {W : World} {r : Nat} {K : List (List Itm)} {l : List Itm} (hz : (keyS l).size ≤ maxLen) (h : Mp Tryd.prog 9 W r (numK K)) (hn : l ∉ K) :
  (Instr.mapUpdate 87 (.map (some r)) (.string (keyS l)) (.int .i64 (K.length : Int))).run Tryd.prog W = .ok () (Mp.put W r (.string (keyS l)) (.int .i64 (K.length : Int))) ∧ Mp Tryd.prog 9 (Mp.put W r (.string (keyS l)) (.int .i64 (K.length : Int))) r (numK (K ++ [l])) := by
 refine ⟨h.store (et := 3) Tryd.underlying87 keyed9 (key9 _ hz).choose_spec (fun p hp he => ?_) _, ?_⟩
 ·obtain ⟨j, m, hj, rfl⟩ := numK_mem hp
  injection he with he
  obtain rfl := keyS_inj he
  exact hn (List.mem_of_getElem? hj)
 ·rw [numK_snoc]
  exact h.put_is (key9 _ hz).choose_spec _

theorem numb_cases (K : List (List Itm)) (l : List Itm) (hn : l ≠ []) : (∃ j : Nat, K[j]? = some l ∧ numb K l = ((j : Int), K)) ∨ (l ∉ K ∧ numb K l = ((K.length : Int), K ++ [l])) := by
 unfold numb
 rw [if_neg hn]
 split
 ·rename_i j hf
  obtain ⟨hj, hp, _⟩ := List.findIdx?_eq_some_iff_getElem.1 hf
  exact .inl ⟨j, by rw [List.getElem?_eq_getElem hj]; exact congrArg some (of_decide_eq_true hp), rfl⟩
 ·rename_i hf
  have hh := List.findIdx?_eq_none_iff.1 hf
  exact .inr ⟨fun hm => by have := hh l hm; simp at this, rfl⟩
/-- What Build has in memory: the grammar, the result, the automaton, the map, the map's variable; behind them the rows. -/
structure Bd (w : World) (B : Nat) (G : Array Value) (Km K : List (List Itm)) (N : List (List Int)) (vK vN : Value) (okK okN : Nat → Prop) (W : World) : Prop where
 hb : RowKit.Below w.heap.size w W
 bg : W.heap[w.heap.size]? = some (.cells G 27 (0, 0))
 br : W.heap[w.heap.size + 1]? = some (.cells #[.slice none 0 0, .slice none 0 0] 49 (0, 0))
 ba : W.heap[B]? = some (.cells #[vK, vN] 49 (0, 0))
 mp : Mp Tryd.prog 9 W (B + 1) (numK Km)
 bn : W.heap[B + 2]? = some (.cells #[.map (some (B + 1))] 87 (0, 0))
 ks : Kd.S (Kd.slice 37 k37) 28 W (B + 3) (fun k => B + 3 ≤ k ∧ okK k) vK (K.map (·.map ofI))
 ns : Kd.S (Kd.slice 3 (Kd.int .i64)) 58 W (B + 3) (fun k => B + 3 ≤ k ∧ okN k) vN N
 nd : Km.Nodup
 hB : w.heap.size + 2 ≤ B
section
variable {w : World} {B : Nat} {G : Array Value} {Km K : List (List Itm)} {N : List (List Int)} {vK vN : Value} {okK okN : Nat → Prop} {W W1 : World}
theorem Bd.size (h : Bd w B G Km K N vK vN okK okN W) : B + 3 ≤ W.heap.size := blk_lt h.bn
theorem Bd.below (h : Bd w B G Km K N vK vN okK okN W) (hb : RowKit.Below W.heap.size W W1) : Bd w B G Km K N vK vN okK okN W1 where
 hb := below_step h.hb hb
 bg := blk_below h.bg hb
 br := blk_below h.br hb
 ba := blk_below h.ba hb
 mp := h.mp.same (hb.block _ h.mp.lt)
 bn := blk_below h.bn hb
 ks := Kd.S_below h.ks hb
 ns := Kd.S_below h.ns hb
 nd := h.nd
 hB := h.hB
theorem Bd.any (h : Bd w B G Km K N vK vN okK okN W) {ok' okN' : Nat → Prop} (hk : ∀ k, okK k → ok' k) (hn : ∀ k, okN k → okN' k) : Bd w B G Km K N vK vN ok' okN' W :=
 ⟨h.hb, h.bg, h.br, h.ba, h.mp, h.bn, Kd.S_mono h.ks (fun k hk' => ⟨hk'.1, hk k hk'.2⟩), Kd.S_mono h.ns (fun k hk' => ⟨hk'.1, hn k hk'.2⟩), h.nd, h.hB⟩
/-- A key more in the map. -/
theorem Bd.put (h : Bd w B G Km K N vK vN okK okN W) {Km' : List (List Itm)} {k v : Value} (hm : Mp Tryd.prog 9 (Mp.put W (B + 1) k v) (B + 1) (numK Km')) (hd : Km'.Nodup) : Bd w B G Km' K N vK vN okK okN (Mp.put W (B + 1) k v) := by
 obtain ⟨hs, hk⟩ := Mp.put_heap W (B + 1) k v
 have hB := h.hB
 have hw : (Mp.put W (B + 1) k v).os = W.os ∧ (Mp.put W (B + 1) k v).tape = W.tape ∧ (Mp.put W (B + 1) k v).output = W.output := by
  unfold Mp.put
  split <;> exact ⟨rfl, rfl, rfl⟩
 refine ⟨⟨hw.1.trans h.hb.os, hw.2.1.trans h.hb.tape, hw.2.2.trans h.hb.output, by rw [hs]; exact h.hb.size, fun i hi => (hk i (by omega)).trans (h.hb.block i hi)⟩, (hk _ (by omega)).trans h.bg, (hk _ (by omega)).trans h.br, (hk _ (by omega)).trans h.ba, hm, (hk _ (by omega)).trans h.bn, ?_, ?_, hd, hB⟩
 ·exact Kd.S_step h.ks (fun i hi hlt => hk i (by omega))
 ·exact Kd.S_step h.ns (fun i hi hlt => hk i (by omega))
/-- A row more. -/
theorem Bd.app (h : Bd w B G Km K N vK vN okK okN W) {K' : List (List Itm)} {v1 : Value} (hs : Kd.S (Kd.slice 37 k37) 28 W1 (B + 3) (fun k => B + 3 ≤ k) v1 (K'.map (·.map ofI))) (hg : W.grownBy W1 vK.ownBlock) : Bd w B G Km K' N v1 vN (fun _ => True) okN (W1.setCell ⟨B, 0, none⟩ v1) := by
 have hbase := Kd.S_base h.ks
 have hB := h.hB
 have hkeep : ∀ k, k < B + 3 → k < W.heap.size → W1.heap[k]? = W.heap[k]? := fun k h1 h2 => hg.block k h2 (fun e => by have := hbase k e.symm; omega)
 have hsz := h.size
 have hfar : ∀ k, k ≠ B → (W1.setCell ⟨B, 0, none⟩ v1).heap[k]? = W1.heap[k]? := fun k hk => Below.heap_setCell W1 ⟨B, 0, none⟩ v1 k hk
 refine ⟨below_set (below_grown h.hb hg (fun k hk => by have := hbase k hk; omega)) (by show w.heap.size ≤ B; omega), ?_, ?_, ?_, ?_, ?_, ?_, ?_, h.nd, hB⟩
 ·exact ((hfar _ (by omega)).trans (hkeep _ (by omega) (by omega))).trans h.bg
 ·exact ((hfar _ (by omega)).trans (hkeep _ (by omega) (by omega))).trans h.br
 ·exact blk_put ((hkeep _ (by omega) (by omega)).trans h.ba) 0 _ rfl
 ·exact h.mp.same ((hfar _ (by omega)).trans (hkeep _ (by omega) (by omega)))
 ·exact ((hfar _ (by omega)).trans (hkeep _ (by omega) (by omega))).trans h.bn
 ·exact Kd.S_mono (Kd.S_far hs (fun k hk => by show k ≠ B; omega) _) (fun k hk => ⟨hk, trivial⟩)
 ·exact Kd.S_far (Kd.S_over' h.ns (Kd.S_typed h.ks) (by decide) hg) (fun k hk => by show k ≠ B; omega) _
end

set_option maxHeartbeats 8000000 in
set_option maxRecDepth 100000 in
theorem number_calls {w W : World} {B : Nat} {G : Array Value} {K : List (List Itm)} {N : List (List Int)} {vK vN vl : Value} {l : List Itm} {okN : Nat → Prop} (hG : GTab w) (h : Bd w B G K K N vK vN (fun k => some k ≠ vl.ownBlock) okN W)
  (hl : Kd.R k37 37 W (B + 3) (fun k => B + 3 ≤ k) vl (l.map ofI)) (hr : ∀ x ∈ l, rngI x) (hs : l.length ≤ 1000000) (hK : K.length ≤ 3000) :
  Calls Tryd.prog 42 #[vl, .pointer (some ⟨B + 2, 0, none⟩), .pointer (some ⟨B, 0, none⟩)] W fun e w' => e = .returned (.int .i64 (numb K l).1) ∧ ∃ vK', Bd w B G (numb K l).2 (numb K l).2 N vK' vN (fun _ => True) okN w' ∧ W.heap.size ≤ w'.heap.size ∧ ∀ k, k < W.heap.size → B + 3 ≤ k → some k ≠ vK.ownBlock → w'.heap[k]? = W.heap[k]? := by
 obtain ⟨A, c, e⟩ := Kd.R_slice hl
 subst e
 rw [List.length_map] at *
 have hrd := Kd.R_reads' hl
 rw [List.length_map] at hrd
 have HL := Aside0.mk hl
 have HRD := Aside0.mk hrd.2.2
 have H := Aside0.mk h
 have HG := Aside0.mk hG
 have HRG := Aside0.mk hr
 have HK := Aside0.mk hK
 clear hl hrd h hG hr hK
 have hu28 := Tryd.underlying28
 have hu37 := Tryd.underlying37
 by_cases hnil : l = []
 ·subst hnil
  have hnb : numb K [] = (-1, K) := by unfold numb; rw [if_pos rfl]
  have HNB := Aside0.mk hnb
  clear hnb
  simp only [List.length_nil] at *
  go_enter Tryd.func42, Tryd.ntmps42
  go_wp2
  go_ret
  rw [HNB.out]
  refine ⟨rfl, vK, H.out.any (fun _ _ => trivial) (fun _ h => h), Nat.le_refl _, fun _ _ _ _ => rfl⟩
 ·have hlen0 : (l.length : Int) ≠ 0 := by
   intro e
   exact hnil (List.eq_nil_of_length_eq_zero (by omega))
  have hlen : ((l.length : Int) == 0) = false := by simpa using hlen0
  have hlen2 : decide ((l.length : Int) = 0) = false := decide_eq_false hlen0
  have HNIL := Aside0.mk hnil
  clear hnil
  go_enter Tryd.func42, Tryd.ntmps42
  go_wp2
  go_loopw [5, 15] (fun v5 v15 wr => ∃ i : Nat, v15 = .int .i64 i ∧ i ≤ l.length ∧ v5 = .string (keyS (l.take i)) ∧ Aside0 (RowKit.Below W.heap.size W wr)) (fun _ v15 _ => l.length - (intOf v15).toNat)
  case atStart => exact ⟨0, rfl, Nat.zero_le _, rfl, ⟨RowKit.Below.refl _ _⟩⟩
  case round =>
   obtain ⟨i, rfl, hi, rfl, HB⟩ := hrel
   by_cases hlt : i < l.length
   ·have hltb : decide (i < l.length) = true := decide_eq_true hlt
    obtain ⟨ad, rfl, hx0, hx1⟩ := at_T37 (Kd.C_below HRD.out HB.out) (i : Int) (by omega) (by omega)
    rw [Int.toNat_natCast] at hx0 hx1
    obtain ⟨x, hx⟩ : ∃ x, l[i] = x := ⟨_, rfl⟩
    have hxe : rd_T37 (l.map ofI) i = ofI x := by rw [← hx]; unfold rd_T37; simp [List.getD, hlt]
    rw [hxe] at hx0 hx1
    have hxr : rngI x := by rw [← hx]; exact HRG.out _ (List.getElem_mem hlt)
    have HSN := Aside0.mk (show keyS (l.take (i + 1)) = keyS (l.take i ++ [x]) by rw [List.take_add_one, List.getElem?_eq_getElem hlt, hx]; rfl)
    unfold rngI at hxr
    have HXR := Aside0.mk hxr
    replace hx0 : wr.cell? (ad.add (i * 2)) = some (.int .i64 x.1) := hx0
    replace hx1 : wr.cell? ⟨(ad.add (i * 2)).block, (ad.add (i * 2)).off + 1, none⟩ = some (.int .i64 x.2) := hx1
    clear hxr hxe hx
    go_upto_region 7 with fail
    have BX := Aside0.mk (blk_new wr (Obj.cells #[.int .i64 x.1, .int .i64 x.2] 37))
    have HB1 := Aside0.mk (below_alloc HB.out (Obj.cells #[.int .i64 x.1, .int .i64 x.2] 37))
    clear hx0 hx1 HB
    generalize wr.alloc (Obj.cells #[.int .i64 x.1, .int .i64 x.2] 37) = w1 at *
    generalize wr.heap.size = xb at *
    have y0 : w1.cell? ⟨xb, 0, none⟩ = some (.int .i64 x.1) := blk_cell BX.out 0
    have y1 : w1.cell? ⟨xb, 1, none⟩ = some (.int .i64 x.2) := blk_cell BX.out 1
    obtain ⟨sa, hsa⟩ : ∃ s : ByteArray, s = ⟨(itoa x.1).toArray⟩ := ⟨_, rfl⟩
    obtain ⟨sb, hsb⟩ : ∃ s : ByteArray, s = ⟨(itoa x.2).toArray⟩ := ⟨_, rfl⟩
    obtain ⟨sk, hsk⟩ : ∃ s : ByteArray, s = keyS (l.take i) := ⟨_, rfl⟩
    have hza : sa.size ≤ 20 := by rw [hsa]; show (itoa x.1).toArray.size ≤ 20; rw [List.size_toArray]; exact itoa_len _ HXR.out.1
    have hzb : sb.size ≤ 20 := by rw [hsb]; show (itoa x.2).toArray.size ≤ 20; rw [List.size_toArray]; exact itoa_len _ HXR.out.2
    have hzk : sk.size ≤ 42000000 := by
     rw [hsk]
     have h1 := keyL_len (l.take i) (fun y hy => HRG.out y (List.mem_of_mem_take hy))
     show (keyL (l.take i)).toArray.size ≤ _
     rw [List.size_toArray]
     have : (l.take i).length ≤ 1000000 := by rw [List.length_take]; omega
     omega
    obtain ⟨s1, hs1⟩ : ∃ s : ByteArray, s = sa ++ ⟨#[46]⟩ := ⟨_, rfl⟩
    have hz1 : s1.size ≤ 21 := by rw [hs1, ByteArray.size_append]; show sa.size + 1 ≤ 21; omega
    obtain ⟨s2, hs2⟩ : ∃ s : ByteArray, s = s1 ++ sb := ⟨_, rfl⟩
    have hz2 : s2.size ≤ 41 := by rw [hs2, ByteArray.size_append]; omega
    obtain ⟨s3, hs3⟩ : ∃ s : ByteArray, s = s2 ++ ⟨#[32]⟩ := ⟨_, rfl⟩
    have hz3 : s3.size ≤ 42 := by rw [hs3, ByteArray.size_append]; show s2.size + 1 ≤ 42; omega
    obtain ⟨s4, hs4⟩ : ∃ s : ByteArray, s = sk ++ s3 := ⟨_, rfl⟩
    have e1 : ∀ W, (Op.stringOp .add sa ⟨#[46]⟩).run Tryd.prog W = .ok (.string s1) W := fun W => by rw [hs1]; exact run_string_add_sum _ _ _ (by show sa.size + 1 ≤ _; omega)
    have e2 : ∀ W, (Op.stringOp .add s1 sb).run Tryd.prog W = .ok (.string s2) W := fun W => by rw [hs2]; exact run_string_add_sum _ _ _ (by omega)
    have e3 : ∀ W, (Op.stringOp .add s2 ⟨#[32]⟩).run Tryd.prog W = .ok (.string s3) W := fun W => by rw [hs3]; exact run_string_add_sum _ _ _ (by show s2.size + 1 ≤ _; omega)
    have e4 : ∀ W, (Op.stringOp .add sk s3).run Tryd.prog W = .ok (.string s4) W := fun W => by rw [hs4]; exact run_string_add_sum _ _ _ (by omega)
    have HS4 := Aside0.mk (show s4 = keyS (l.take (i + 1)) by rw [hs4, hs3, hs2, hs1, hsa, hsb, hsk, HSN.out]; exact keyS_snoc _ _)
    have hI1 := itoa_calls x.1 HXR.out.1.1 HXR.out.1.2
    have hI2 := itoa_calls x.2 HXR.out.2.1 HXR.out.2.2
    rw [← hsa] at hI1
    rw [← hsb] at hI2
    rw [← hsk]
    have HI1 := Aside0.mk hI1
    have HI2 := Aside0.mk hI2
    clear hI1 hI2 hza hzb hzk hz1 hz2 hz3 hsa hsb hsk hs1 hs2 hs3 hs4
    go_region_with (first
     | (go_at_call 43; (with_reducible refine (HI1.out _ ?g1).mono ?_); (case g1 => exact GTab.below HG.out (below_step H.out.hb (by repeat (first | exact HB1.out | apply below_drew1 | apply pw_below_drewN)))); rintro e W1 ⟨rfl, hb⟩; have HB2 := Aside0.mk (below_step (by repeat (first | exact HB1.out | apply below_drew1 | apply pw_below_drewN)) hb); have BX2 := Aside0.mk (blk_below (g := xb) (o := .cells #[.int .i64 x.1, .int .i64 x.2] 37 (0, 0)) (by repeat (first | exact BX.out | refine blk_drew ?_ | refine blk_drewN ?_ _)) hb); have t0 := blk_cell BX2.out 0; have t1 := blk_cell BX2.out 1; clear hb)
     | (go_at_call 43; (with_reducible refine (HI2.out _ ?g1).mono ?_); (case g1 => exact GTab.below HG.out (below_step H.out.hb (by repeat (first | exact HB2.out | apply below_drew1 | apply pw_below_drewN)))); rintro e W2 ⟨rfl, hb⟩; have HB3 := Aside0.mk (below_step (by repeat (first | exact HB2.out | apply below_drew1 | apply pw_below_drewN)) hb); clear hb))
    all_goals go_wp2_with fail
    all_goals go_roundw
    all_goals first
     | exact ⟨i + 1, rfl, by omega, congrArg Value.string HS4.out, HB3⟩
     | (simp [intOf]; omega)
   ·have hltb : decide (i < l.length) = false := decide_eq_false hlt
    have hil : i = l.length := by omega
    subst hil
    rw [List.take_length]
    have hz := keyS_size HRG.out hs
    have H2 := Aside0.mk (H.out.below HB.out)
    have HL2 := Aside0.mk (Kd.R_below HL.out HB.out)
    have b0 : wr.cell? ⟨B + 2, 0, none⟩ = some (.map (some (B + 1))) := blk_cell H2.out.bn 0
    rcases numb_cases K l HNIL.out with ⟨j, hkj, hnb⟩ | ⟨hnin, hnb⟩
    ·have hlk := look_has hz H2.out.mp H2.out.nd hkj
     have HNB := Aside0.mk hnb
     clear hnb hkj hz
     go_wp2
     go_ret
     rw [HNB.out]
     exact ⟨rfl, vK, H2.out.any (fun _ _ => trivial) (fun _ h => h), HB.out.size, fun k h1 _ _ => HB.out.block k h1⟩
    ·have hlk := look_not hz H2.out.mp hnin
     obtain ⟨hmu, hmp⟩ := look_put hz H2.out.mp hnin
     obtain ⟨AK, cK, eK⟩ := Kd.S_slice H2.out.ks
     subst eK
     rw [List.length_map] at *
     have a0 : wr.cell? ⟨B, 0, none⟩ = some (.slice AK K.length cK) := blk_cell H2.out.ba 0
     have HNB := Aside0.mk hnb
     have HNIN := Aside0.mk hnin
     have HMP := Aside0.mk hmp
     clear hnb hnin hmp hz
     go_upto_region 13 with fail
     have hnd : (K ++ [l]).Nodup := by
      rw [List.nodup_append]
      refine ⟨H2.out.nd, by simp, fun a ha b hb e => ?_⟩
      rw [List.mem_singleton] at hb
      subst hb; subst e
      exact HNIN.out ha
     have H5 := Aside0.mk (H2.out.put HMP.out hnd)
     have hph := Mp.put_heap wr (B + 1) (.string (keyS l)) (.int .i64 (K.length : Int))
     have HL5 := Aside0.mk (Kd.R_step HL2.out (fun k hk hlt => hph.2 k (by omega)))
     have HP5 := Aside0.mk hph
     clear hnd hph hlk hmu a0 b0
     generalize Mp.put wr (B + 1) (.string (keyS l)) (.int .i64 (K.length : Int)) = W5 at *
     have a0 : W5.cell? ⟨B, 0, none⟩ = some (.slice AK K.length cK) := blk_cell H5.out.ba 0
     have f0 := blk_frozen H5.out.ba 0
     have hown : ∀ k, some k = (Value.slice A l.length c).ownBlock → some k ≠ (Value.slice AK K.length cK).ownBlock := fun k e e' => by
      obtain ⟨c1, h1⟩ := Kd.R_typed HL5.out k e.symm
      obtain ⟨c2, h2⟩ := Kd.S_typed H5.out.ks k e'.symm
      rw [h1] at h2
      cases h2
     have HOW := Aside0.mk hown
     clear hown
     go_wp2_with (first | ((with_reducible refine gate_builtin (b := .append) (xs := #[.tmp 46, .tmp 48]) rfl ?_); at_builtin; refine Kd.S_append (Kd.slice 37 k37) (w0 := W5) (B + 3) rfl (.tmp 46) (.tmp 48) 46 28 (.slice none 0 0) 24 rfl Tryd.underlying46 info28 rfl (by decide) (by omega) (.slice AK K.length cK) (K.map (·.map ofI)) (l.map ofI) [.slice A l.length c] (fun k => B + 3 ≤ k) (fun k => some k = (Value.slice A l.length c).ownBlock ∧ B + 3 ≤ k) rfl rfl ⟨_, rfl, Kd.R_tight2 rfl HL5.out⟩ (fun k hk => ⟨hk.2, HOW.out k hk.1⟩) (fun k hk => Nat.le_trans H5.out.size hk) (Kd.S_mono H5.out.ks (fun k hk => ⟨hk.1, fun h2 => hk.2 h2.1⟩)) (RowKit.Below.refl _ _) H5.out.size ?aL ?_; (case aL => have := HK.out; rw [List.length_map]; omega); intro v6 w6 ho hb hg hat; obtain ⟨A6, n6, e6⟩ := Kd.S_slice ho; have e7 : (K.map (·.map ofI) ++ [l.map ofI]).length = K.length + 1 := (by simp); rw [e7] at e6; subst e6; clear e7; have HS6 := Aside0.mk ho; have HG6 := Aside0.mk hg; have c6 : w6.cell? ⟨B, 0, none⟩ = some (.slice AK K.length cK) := blk_cell ((hg.block _ (blk_lt H5.out.ba) (fun e => by have := Kd.S_base H5.out.ks _ e.symm; omega)).trans H5.out.ba) 0; have f6 := blk_frozen ((hg.block _ (blk_lt H5.out.ba) (fun e => by have := Kd.S_base H5.out.ks _ e.symm; omega)).trans H5.out.ba) 0; clear ho hb hg hat))
     go_ret
     rw [HNB.out]
     refine ⟨rfl, _, Bd.app H5.out (by rw [List.map_append]; exact HS6.out) HG6.out, ?_, fun k h1 h2 h3 => ?_⟩
     ·rw [World.size_setCell]
      exact Nat.le_trans HB.out.size (Nat.le_trans (Nat.le_of_eq HP5.out.1.symm) HG6.out.size)
     ·refine (Below.heap_setCell w6 ⟨B, 0, none⟩ _ k (by show k ≠ B; omega)).trans ?_
      have h4 : k < wr.heap.size := Nat.lt_of_lt_of_le h1 HB.out.size
      exact ((HG6.out.block k (by rw [HP5.out.1]; exact h4) (fun e => h3 (e.trans (by cases AK <;> rfl)))).trans (HP5.out.2 k (by omega))).trans (HB.out.block k h1)
end Go.Proofs.YtclollnicbcooaaDoor.P
end

section
namespace Go.Proofs.YtclollnicbcooaaDoor.P
open Go.RowKit Go.Lib Go.Sort Go.Proofs.YtclollnicbcooaaDoorW.PrintWords Go.Proofs.YtclollnicbcooaaDoorW.PrintLast Go.Proofs.YtclollnicbcooaaDoorW.PrintMore St Base

theorem nodup_len : ∀ (l m : List Itm), l.Nodup → (∀ x ∈ l, x ∈ m) → l.length ≤ m.length
 | [], m, _, _ => Nat.zero_le _
 | x :: l, m, hd, h => by
  rw [List.nodup_cons] at hd
  have hx := h x (List.mem_cons_self ..)
  have h1 := nodup_len l (m.erase x) hd.2 (fun y hy => by
   have hne : y ≠ x := fun e => hd.1 (e ▸ hy)
   exact (List.mem_erase_of_ne hne).2 (h y (List.mem_cons_of_mem _ hy)))
  have h2 := List.length_erase_of_mem hx
  have h3 : 0 < m.length := List.length_pos_of_mem hx
  rw [List.length_cons]; omega
theorem risen_nodup (l : List Itm) : (risen l).Nodup := List.Pairwise.imp (fun h e => by rw [e] at h; exact lt_irr _ h) (risen_is l).up

/-- One step of the automaton: closed, behind a symbol, rising. -/
def Sg (g : Gr) (c : List Itm) (s : Int) : List Itm := risen (stepL g (risen (closedL g c)) s)
theorem isI_rng {l2 : List ByteArray} {l3 : List S64} {st : Int} (h : Fits l2 l3 st) {x : Itm} (hx : isI (gr st l3) x = true) : -1 ≤ x.1 ∧ x.1 < 120 ∧ 0 ≤ x.2 ∧ x.2 ≤ 12 := by
 have hA := allI_has (gr st l3) x hx
 unfold isI at hx
 cases hr : rightL (gr st l3) x.1 with
 | none => rw [hr] at hx; cases hx
 | some r =>
  rw [hr] at hx
  simp only [decide_eq_true_eq] at hx
  have hf := h.few
  unfold rightL at hr
  rw [gr_len] at hr
  split at hr
  ·injection hr with hr
   rw [← hr] at hx
   simp only [List.length_cons, List.length_nil] at hx
   omega
  ·split at hr
   ·rename_i h1 h2
    rw [gr_at st l3 x.1 h2.1 h2.2] at hr
    injection hr with hr
    have : (rd_T64 l3 x.1).f2.length ≤ 12 := h.short _ (by unfold rd_T64; rw [List.getD_eq_getElem?_getD, List.getElem?_eq_getElem (by omega)]; exact List.getElem_mem (by omega))
    rw [← hr] at hx
    simp only at hx
    omega
   ·cases hr
theorem closed_small {l2 : List ByteArray} {l3 : List S64} {st : Int} (h : Fits l2 l3 st) (c : List Itm) : (risen (closedL (gr st l3) c)).length ≤ 1562 :=
 Nat.le_trans (nodup_len _ _ (risen_nodup _) (fun x hx => allI_has _ x (cl_is _ _ _ ((closedL_rise h c).mem x |>.1 hx)))) (allI_len h)
theorem Sg_small {l2 : List ByteArray} {l3 : List S64} {st : Int} (h : Fits l2 l3 st) (c : List Itm) (s : Int) : (Sg (gr st l3) c s).length ≤ 1562 ∧ ∀ x ∈ Sg (gr st l3) c s, rngI x := by
 have hm : ∀ x ∈ Sg (gr st l3) c s, ∃ y ∈ risen (closedL (gr st l3) c), x = (y.1, y.2 + 1) := fun x hx => by
  obtain ⟨y, h1, h2, h3⟩ := (stepL_mem _ _ _ _).1 (((risen_is _).mem x).1 hx)
  exact ⟨y, h1, h3⟩
 refine ⟨?_, fun x hx => ?_⟩
 ·have h1 : ((Sg (gr st l3) c s).map fun x => ((x.1, x.2 - 1) : Itm)).Nodup := by
   refine List.Pairwise.map _ (fun x y hne e => hne ?_) (risen_nodup _)
   have e1 := congrArg Prod.fst e
   have e2 := congrArg Prod.snd e
   exact Prod.ext e1 (by simp only at e2; omega)
  have h2 := nodup_len _ _ h1 (fun x hx => by
   obtain ⟨y, hy, rfl⟩ := List.mem_map.1 hx
   obtain ⟨z, hz, rfl⟩ := hm y hy
   have : (((z.1, z.2 + 1) : Itm).1, ((z.1, z.2 + 1) : Itm).2 - 1) = z := Prod.ext rfl (by show z.2 + 1 - 1 = z.2; omega)
   rw [this]; exact hz)
  rw [List.length_map] at h2
  exact Nat.le_trans h2 (closed_small h c)
 ·obtain ⟨y, hy, rfl⟩ := hm x hx
  have := isI_rng h (cl_is _ _ _ ((closedL_rise h c).mem y |>.1 hy))
  unfold rngI
  simp only
  omega

/-- All symbols: the terminals, the sorts. -/
def symsL (T S : Nat) : List Int := (List.range T).map (fun (i : Nat) => (i : Int)) ++ (List.range S).map (fun (i : Nat) => -1 - (i : Int))
theorem symsL_len (T S : Nat) : (symsL T S).length = T + S := by unfold symsL; simp
theorem sy1 : ∀ (d k S j : Nat) (x : List Int), S - j ≤ d → j ≤ S → d < k → S ≤ 1000 → x.length + d < 10000 → states_symbols.l1 k x (S : Int) (j : Int) = some (x ++ ((List.range S).drop j).map (fun (i : Nat) => -1 - (i : Int))) := by
 intro d
 induction d with
 | zero =>
  intro k S j x h1 h2 h3 h4 h5
  obtain ⟨k, rfl⟩ : ∃ m, k = m + 1 := ⟨k - 1, by omega⟩
  rw [states_symbols.l1, if_neg (by omega)]
  rw [List.drop_eq_nil_of_le (by simp; omega)]
  simp
 | succ d ih =>
  intro k S j x h1 h2 h3 h4 h5
  obtain ⟨k, rfl⟩ : ∃ m, k = m + 1 := ⟨k - 1, by omega⟩
  rw [states_symbols.l1]
  by_cases hj : (j : Int) < (S : Int)
  ·rw [if_pos hj, if_pos (by omega), IntWalk.wrap64_in _ (by omega), IntWalk.wrap64_in _ (by omega)]
   have := ih k S (j + 1) (x ++ [-1 - (j : Int)]) (by omega) (by omega) (by omega) h4 (by rw [List.length_append, List.length_singleton]; omega)
   rw [show ((j : Int) + 1) = ((j + 1 : Nat) : Int) by omega, this]
   rw [List.drop_eq_getElem_cons (i := j) (l := List.range S) (by simp; omega)]
   simp
  ·rw [if_neg hj]
   rw [List.drop_eq_nil_of_le (by simp; omega)]
   simp
theorem sy0 (l0 : List S82) (l1 : List S101) (l2 : List ByteArray) (l3 : List S64) (st : Int) (hT : l0.length ≤ 1000) (hS : l2.length ≤ 1000) : ∀ (d k j : Nat) (x : List Int), l0.length - j ≤ d → j ≤ l0.length → d + l2.length + 1 < k → x.length + d < 5000 → states_symbols.l0 k x (l0.length : Int) (j : Int) l0 l1 l2 l3 st = some (x ++ ((List.range l0.length).drop j).map (fun (i : Nat) => (i : Int)) ++ (List.range l2.length).map (fun (i : Nat) => -1 - (i : Int))) := by
 intro d
 induction d with
 | zero =>
  intro k j x h1 h2 h3 h5
  obtain ⟨k, rfl⟩ : ∃ m, k = m + 1 := ⟨k - 1, by omega⟩
  rw [states_symbols.l0, if_neg (by omega)]
  rw [List.drop_eq_nil_of_le (by simp; omega)]
  have := sy1 l2.length k l2.length 0 x (by omega) (by omega) (by omega) hS (by omega)
  simpa using this
 | succ d ih =>
  intro k j x h1 h2 h3 h5
  obtain ⟨k, rfl⟩ : ∃ m, k = m + 1 := ⟨k - 1, by omega⟩
  rw [states_symbols.l0]
  by_cases hj : (j : Int) < (l0.length : Int)
  ·rw [if_pos hj, if_pos (by omega), IntWalk.wrap64_in _ (by omega)]
   have := ih k (j + 1) (x ++ [(j : Int)]) (by omega) (by omega) (by omega) (by rw [List.length_append, List.length_singleton]; omega)
   rw [show ((j : Int) + 1) = ((j + 1 : Nat) : Int) by omega, this]
   rw [List.drop_eq_getElem_cons (i := j) (l := List.range l0.length) (by simp; omega)]
   simp
  ·rw [if_neg hj]
   rw [List.drop_eq_nil_of_le (by simp; omega)]
   have := sy1 l2.length k l2.length 0 x (by omega) (by omega) (by omega) hS (by omega)
   simpa using this
theorem symbols_is (l0 : List S82) (l1 : List S101) (l2 : List ByteArray) (l3 : List S64) (st : Int) (hT : l0.length ≤ 60) (hS : l2.length ≤ 60) : states_symbols.f 300 l0 l1 l2 l3 st = some (symsL l0.length l2.length) := by
 unfold states_symbols.f symsL
 have := sy0 l0 l1 l2 l3 st (by omega) (by omega) l0.length 300 0 [] (by omega) (by omega) (by omega) (by simp; omega)
 simpa using this
end Go.Proofs.YtclollnicbcooaaDoor.P
end

section
namespace Go.Proofs.YtclollnicbcooaaDoor.P
open Go.RowKit Go.Lib Go.Sort Go.Proofs.YtclollnicbcooaaDoorW.PrintWords Go.Proofs.YtclollnicbcooaaDoorW.PrintLast Go.Proofs.YtclollnicbcooaaDoorW.PrintMore St Base
attribute [local go_sem] Oper.semAt_some

def builtL (T S : Nat) (g : Gr) : Option (Option (List (List Itm) × List (List Int))) := buildL (Sg g) (symsL T S) 2000 2003 0 [[(-1, 0)]] []
def outB : Option (List (List Itm) × List (List Int)) → List (List S37) × List (List Int) × Int
 | none => ([], [], 4)
 | some (K, N) => (K.map (·.map ofI), N, 0)
def states_Build.f (l0 : List S82) (l1 : List S101) (l2 : List ByteArray) (l3 : List S64) (st : Int) : Option (List (List S37) × List (List Int) × Int) :=
 if validB l0 l1 l2 l3 st = true then (if l3.all okP = true then (builtL l0.length l2.length (gr st l3)).map outB else none) else some ([], [], 1)

/-- Between two rounds of the outer loop. -/
structure Bx (T S : Nat) (g : Gr) (R : Option (List (List Itm) × List (List Int))) (n : Nat) (K : List (List Itm)) (N : List (List Int)) : Prop where
 run : buildL (Sg g) (symsL T S) 2000 n N.length K N = some R
 few : K.length ≤ 2000
 small : ∀ c ∈ K, c.length ≤ 1562 ∧ ∀ x ∈ c, rngI x
 rows : N.length ≤ K.length
 n3 : N.length + n ≤ 2003
theorem Bx.start {T S : Nat} {g : Gr} {R : Option (List (List Itm) × List (List Int))} (h : builtL T S g = some R) : Bx T S g R 2003 [[(-1, 0)]] [] where
 run := h
 few := by simp
 small := fun c hc => by
  rw [List.mem_singleton] at hc
  subst hc
  refine ⟨by simp, fun x hx => ?_⟩
  rw [List.mem_singleton] at hx
  subst hx
  unfold rngI
  simp only
  omega
 rows := by simp
 n3 := by simp
/-- Within a round: the first j symbols are done. -/
structure Rx (f : Int → List Itm) (syms : List Int) (res : List Int × List (List Itm)) (j : Nat) (nums : List Int) (K : List (List Itm)) : Prop where
 run1 : nums ++ (rowL f (syms.drop j) K).1 = res.1
 run2 : (rowL f (syms.drop j) K).2 = res.2
 few : K.length ≤ 2000 + j
 small : ∀ c ∈ K, c.length ≤ 1562 ∧ ∀ x ∈ c, rngI x
 le : j ≤ syms.length
 len : nums.length = j
theorem numb_small {K : List (List Itm)} {l : List Itm} (hK : ∀ c ∈ K, c.length ≤ 1562 ∧ ∀ x ∈ c, rngI x) (hl : l.length ≤ 1562 ∧ ∀ x ∈ l, rngI x) : (∀ c ∈ (numb K l).2, c.length ≤ 1562 ∧ ∀ x ∈ c, rngI x) ∧ (numb K l).2.length ≤ K.length + 1 := by
 by_cases h : l = []
 ·have e : numb K l = (-1, K) := by unfold numb; rw [if_pos h]
  rw [e]
  exact ⟨hK, Nat.le_succ _⟩
 ·rcases numb_cases K l h with ⟨j, _, e⟩ | ⟨_, e⟩
  ·rw [e]; exact ⟨hK, Nat.le_succ _⟩
  ·rw [e]
   refine ⟨fun c hc => ?_, by simp⟩
   rcases List.mem_append.1 hc with h1 | h1
   ·exact hK c h1
   ·rw [List.mem_singleton] at h1
    subst h1; exact hl
theorem Rx.next {f : Int → List Itm} {syms : List Int} {res : List Int × List (List Itm)} {j : Nat} {nums : List Int} {K : List (List Itm)} (h : Rx f syms res j nums K) (hj : j < syms.length) {s : Int} (hs : Go.Proofs.YtclollnicbcooaaDoorW.PrintWords.rd syms j = s) (hf : (f s).length ≤ 1562 ∧ ∀ x ∈ f s, rngI x) :
  Rx f syms res (j + 1) (nums ++ [(numb K (f s)).1]) (numb K (f s)).2 := by
 have e : syms.drop j = s :: syms.drop (j + 1) := by
  rw [List.drop_eq_getElem_cons hj]
  congr 1
  rw [← hs]
  unfold Go.Proofs.YtclollnicbcooaaDoorW.PrintWords.rd
  rw [Int.toNat_natCast, List.getD_eq_getElem?_getD, List.getElem?_eq_getElem hj]
  rfl
 obtain ⟨h1, h2⟩ := numb_small h.small hf
 refine ⟨?_, ?_, by have := h.few; omega, h1, hj, by rw [List.length_append, List.length_singleton, h.len]⟩
 ·have := h.run1
  rw [e, rowL] at this
  rw [← this]
  simp
 ·have := h.run2
  rw [e, rowL] at this
  exact this
theorem Rx.done {f : Int → List Itm} {syms : List Int} {res : List Int × List (List Itm)} {j : Nat} {nums : List Int} {K : List (List Itm)} (h : Rx f syms res j nums K) (hj : j = syms.length) : nums = res.1 ∧ K = res.2 := by
 have h1 := h.run1
 have h2 := h.run2
 rw [hj, List.drop_length] at h1 h2
 rw [rowL] at h1 h2
 rw [List.append_nil] at h1
 exact ⟨h1, h2⟩
theorem Rx.start {T S : Nat} {g : Gr} {R : Option (List (List Itm) × List (List Int))} {n : Nat} {K : List (List Itm)} {N : List (List Int)} (h : Bx T S g R n K N) (f : Int → List Itm) (syms : List Int) : Rx f syms (rowL f syms K) 0 [] K where
 run1 := by simp
 run2 := by simp
 few := h.few
 small := h.small
 le := Nat.zero_le _
 len := rfl
theorem Bx.on {T S : Nat} {g : Gr} {R : Option (List (List Itm) × List (List Int))} {n : Nat} {K : List (List Itm)} {N : List (List Int)} {c : List Itm} (h : Bx T S g R (n + 1) K N) (hc : K[N.length]? = some c) {K' : List (List Itm)} {nums : List Int} (hr : nums = (rowL (Sg g c) (symsL T S) K).1 ∧ K' = (rowL (Sg g c) (symsL T S) K).2) (hs : ∀ c ∈ K', c.length ≤ 1562 ∧ ∀ x ∈ c, rngI x) :
  (2000 < K'.length → R = none) ∧ (¬ 2000 < K'.length → Bx T S g R n K' (N ++ [nums])) := by
 have hr1 := h.run
 rw [buildL, hc] at hr1
 simp only at hr1
 rw [← hr.1, ← hr.2] at hr1
 have hn := h.n3
 constructor
 ·intro hm
  rw [if_pos hm] at hr1
  exact (Option.some.inj hr1).symm
 ·intro hm
  rw [if_neg hm] at hr1
  obtain ⟨M, e, _⟩ := rowL_is (Sg g c) (symsL T S) K
  obtain ⟨hlt, _⟩ := List.getElem?_eq_some_iff.1 hc
  have hl : K.length ≤ K'.length := by rw [hr.2, e, List.length_append]; omega
  refine ⟨?_, by omega, hs, ?_, ?_⟩
  ·rw [List.length_append, List.length_singleton]; exact hr1
  ·rw [List.length_append, List.length_singleton]; omega
  ·rw [List.length_append, List.length_singleton]; omega
theorem Bx.fine {T S : Nat} {g : Gr} {R : Option (List (List Itm) × List (List Int))} {n : Nat} {K : List (List Itm)} {N : List (List Int)} (h : Bx T S g R (n + 1) K N) (hc : K[N.length]? = none) : R = some (K, N) := by
 have hr1 := h.run
 rw [buildL, hc] at hr1
 exact (Option.some.inj hr1).symm
theorem Bx.pos {T S : Nat} {g : Gr} {R : Option (List (List Itm) × List (List Int))} {n : Nat} {K : List (List Itm)} {N : List (List Int)} (h : Bx T S g R n K N) : ∃ m, n = m + 1 := by
 cases n with
 | zero => have := h.run; cases this
 | succ m => exact ⟨m, rfl⟩

theorem Bd.start {w W : World} {G : Array Value} (hb : RowKit.Below w.heap.size w W) (bg : W.heap[w.heap.size]? = some (.cells G 27 (0, 0))) (br : W.heap[w.heap.size + 1]? = some (.cells #[.slice none 0 0, .slice none 0 0] 49 (0, 0))) :
  Bd w W.heap.size G [] [] [] (.slice none 0 0) (.slice none 0 0) (fun _ => True) (fun _ => True) (((W.alloc (Obj.cells #[.slice none 0 0, .slice none 0 0] 49)).alloc (Obj.map #[] 0)).alloc (Obj.cells #[.map (some (W.heap.size + 1))] 87)) where
 hb := below_alloc (below_alloc (below_alloc hb _) _) _
 bg := blk_alloc (blk_alloc (blk_alloc bg _) _) _
 br := blk_alloc (blk_alloc (blk_alloc br _) _) _
 ba := blk_alloc (blk_alloc (blk_new W _) _) _
 mp := by
  have h := Mp.new Tryd.prog 9 (W.alloc (Obj.cells #[.slice none 0 0, .slice none 0 0] 49))
  rw [World.size_alloc] at h
  exact h.same (Below.block (below_alloc (RowKit.Below.refl _ _) _) _ h.lt)
 bn := by
  have h := blk_new ((W.alloc (Obj.cells #[.slice none 0 0, .slice none 0 0] 49)).alloc (Obj.map #[] 0)) (Obj.cells #[.map (some (W.heap.size + 1))] 87)
  rw [World.size_alloc, World.size_alloc] at h
  exact h
 ks := Kd.S_nil _ _ _ _ _
 ns := Kd.S_nil _ _ _ _ _
 nd := List.nodup_nil
 hB := blk_lt br
/-- A row of one item that a call makes. -/
theorem one_row (W : World) (B : Nat) (hB : B + 3 ≤ W.heap.size) : Kd.R k37 37 (W.alloc (Obj.cells #[.int .i64 (-1), .int .i64 0] 37)) (B + 3) (fun k => B + 3 ≤ k) (.slice (some ⟨W.heap.size, 0, none⟩) 1 1) ([((-1, 0) : Itm)].map ofI) := by
 have h := R_of_own2 (W := W.alloc (Obj.cells #[.int .i64 (-1), .int .i64 0] 37)) (base := B + 3) (ok := fun k => B + 3 ≤ k) (v := .slice (some ⟨W.heap.size, 0, none⟩) 1 1) (l := [((-1, 0) : Itm)]) ?_ ?_
 ·exact h
 ·refine ⟨rfl, .inr ⟨W.heap.size, 1, _, rfl, hB, blk_new W _, ?_⟩⟩
  exact ⟨by decide, by decide, rfl, by simp [flatC, encI]⟩
 ·intro k hk
  injection hk with hk
  subst hk
  exact hB
section
variable {w : World} {B Bn : Nat} {G : Array Value} {Km K : List (List Itm)} {N : List (List Int)} {vK vN : Value} {okK okN : Nat → Prop} {W W1 : World}
/-- A row of numbers more. -/
theorem Bd.appN (h : Bd w B G Km K N vK vN okK okN W) {N' : List (List Int)} {v1 : Value} (hs : Kd.S (Kd.slice 3 (Kd.int .i64)) 58 W1 (B + 3) (fun k => B + 3 ≤ k) v1 N') (hg : W.grownBy W1 vN.ownBlock) : Bd w B G Km K N' vK v1 (fun _ => True) (fun _ => True) (W1.setCell ⟨B, 1, none⟩ v1) := by
 have hbase := Kd.S_base h.ns
 have hB := h.hB
 have hkeep : ∀ k, k < B + 3 → k < W.heap.size → W1.heap[k]? = W.heap[k]? := fun k h1 h2 => hg.block k h2 (fun e => by have := hbase k e.symm; omega)
 have hsz := h.size
 have hfar : ∀ k, k ≠ B → (W1.setCell ⟨B, 1, none⟩ v1).heap[k]? = W1.heap[k]? := fun k hk => Below.heap_setCell W1 ⟨B, 1, none⟩ v1 k hk
 refine ⟨below_set (below_grown h.hb hg (fun k hk => by have := hbase k hk; omega)) (by show w.heap.size ≤ B; omega), ?_, ?_, ?_, ?_, ?_, ?_, ?_, h.nd, hB⟩
 ·exact ((hfar _ (by omega)).trans (hkeep _ (by omega) (by omega))).trans h.bg
 ·exact ((hfar _ (by omega)).trans (hkeep _ (by omega) (by omega))).trans h.br
 ·exact blk_put ((hkeep _ (by omega) (by omega)).trans h.ba) 1 _ rfl
 ·exact h.mp.same ((hfar _ (by omega)).trans (hkeep _ (by omega) (by omega)))
 ·exact ((hfar _ (by omega)).trans (hkeep _ (by omega) (by omega))).trans h.bn
 ·exact Kd.S_mono (Kd.S_far (Kd.S_over' h.ks (Kd.S_typed h.ns) (by decide) hg) (fun k hk => by have := hk.1; show k ≠ B; omega) _) (fun k hk => ⟨hk.1, trivial⟩)
 ·exact Kd.S_mono (Kd.S_far hs (fun k hk => by show k ≠ B; omega) _) (fun k hk => ⟨hk, trivial⟩)
/-- Another row of numbers grows. -/
theorem Bd.other (h : Bd w B G Km K N vK vN okK (fun k => k < Bn) W) {v : Value} (hty : ∀ k, v.ownBlock = some k → ∃ cells, W.heap[k]? = some (.cells cells 3 (0, 0))) (hbs : ∀ k, v.ownBlock = some k → Bn ≤ k) (hBn : B + 3 ≤ Bn) (hg : W.grownBy W1 v.ownBlock) : Bd w B G Km K N vK vN okK (fun k => k < Bn) W1 := by
 have hB := h.hB
 have hsz := h.size
 have hkeep : ∀ k, k < B + 3 → W1.heap[k]? = W.heap[k]? := fun k h1 => hg.block k (by omega) (fun e => by have := hbs k e.symm; omega)
 refine ⟨below_grown h.hb hg (fun k hk => by have := hbs k hk; omega), ?_, ?_, ?_, ?_, ?_, ?_, ?_, h.nd, hB⟩
 ·exact (hkeep _ (by omega)).trans h.bg
 ·exact (hkeep _ (by omega)).trans h.br
 ·exact (hkeep _ (by omega)).trans h.ba
 ·exact h.mp.same (hkeep _ (by omega))
 ·exact (hkeep _ (by omega)).trans h.bn
 ·exact Kd.S_over' h.ks hty (by decide) hg
 ·exact Kd.S_grown h.ns hg (fun k hk e => by have := hbs k e.symm; have := hk.2; omega)
theorem Bd.later (h : Bd w B G Km K N vK vN okK okN W) : Bd w B G Km K N vK vN okK (fun k => k < W.heap.size) W :=
 ⟨h.hb, h.bg, h.br, h.ba, h.mp, h.bn, h.ks, Kd.S_mono (Kd.S_bound h.ns) (fun k hk => ⟨hk.1.1, hk.2.2.1⟩), h.nd, h.hB⟩
theorem Bd.apart (h : Bd w B G Km K N vK vN okK okN W) (hb : RowKit.Below W.heap.size W W1) {v : Value} (hbase : ∀ k, v.ownBlock = some k → W.heap.size ≤ k) : Bd w B G Km K N vK vN (fun k => some k ≠ v.ownBlock) okN W1 := by
 have h1 := h.below hb
 exact ⟨h1.hb, h1.bg, h1.br, h1.ba, h1.mp, h1.bn, Kd.S_mono (Kd.S_elder' h.ks hbase hb) (fun k hk => ⟨hk.1.1, hk.2⟩), h1.ns, h1.nd, h1.hB⟩
theorem R_up {α : Type} {d : Kd α} {e b : Nat} {ok : Nat → Prop} {v : Value} {xs : List α} (h : d.R e W b ok v xs) (hb : B + 3 ≤ b) : d.R e W (B + 3) (fun k => B + 3 ≤ k) v xs :=
 Kd.R_mono (Kd.R_lower (Kd.R_bound h) hb) (fun k hk => Nat.le_trans hb hk.2.1)
theorem R_numb {α : Type} {d : Kd α} {e b : Nat} {ok : Nat → Prop} {v : Value} {xs : List α} (h : d.R e W b ok v xs) (hK : ∀ k, vK.ownBlock = some k → ∃ cells, W.heap[k]? = some (.cells cells 28 (0, 0))) (ht : ∀ q, q ∈ e :: d.E → q ≠ 28) (hb : B + 3 ≤ b) (hk : ∀ k, k < W.heap.size → B + 3 ≤ k → some k ≠ vK.ownBlock → W1.heap[k]? = W.heap[k]?) : d.R e W1 b ok v xs := by
 refine Kd.R_mono (Kd.R_move (Kd.R_bound h) (fun k hh => ?_)) (fun k hh => hh.1)
 obtain ⟨_, h1, h2, q, hq, cells, hc⟩ := hh
 refine hk k h2 (by omega) (fun e' => ?_)
 obtain ⟨cells', hc'⟩ := hK k e'.symm
 rw [hc] at hc'
 injection hc' with hc'
 injection hc' with _ hc'
 exact ht q hq hc'
/-- One of the rows of items. -/
theorem kernel_at (h : Bd w B G Km K N vK vN okK okN W) {i : Nat} {c : List Itm} (hc : K[i]? = some c) : ∃ (ad : Addr) (n : Nat) (A : Option Addr) (cc : Nat), vK = .slice (some ad) K.length n ∧ W.cell? (ad.add i) = some (.slice A c.length cc) ∧ c.length ≤ cc ∧ Kd.C k37 W A c.length (c.map ofI) := by
 obtain ⟨A0, n, e, hn, hC⟩ := Kd.S_reads h.ks
 obtain ⟨hlt, _⟩ := List.getElem?_eq_some_iff.1 hc
 rw [List.length_map] at hC e
 obtain ⟨ad, cs, e1, hcl, hK, hcc⟩ := Kd.C_get hC [] (i : Int) (by omega) (by omega)
 have e3 : (K.map (·.map ofI)).getD (i : Int).toNat [] = c.map ofI := by
  rw [Int.toNat_natCast, List.getD_eq_getElem?_getD, List.getElem?_map, hc]
  rfl
 rw [e3] at hK
 obtain ⟨A, cc, e2, hle, hR⟩ := hK
 rw [List.length_map] at e2 hle hR
 have h3 := hcc 0 (.slice A c.length cc) (by rw [e2]; rfl)
 refine ⟨ad, n, A, cc, by rw [e, e1], ?_, hle, hR⟩
 rw [← h3]
 congr 2
 first | rfl | (show i = (i : Int).toNat * 1 + 0; omega) | simp
end
theorem closed_is {l0 : List S82} {l1 : List S101} {l2 : List ByteArray} {l3 : List S64} {st : Int} (hv : validB l0 l1 l2 l3 st = true) (hp : l3.all okP = true) {c : List Itm} (hc : c.length ≤ 1562 ∧ ∀ x ∈ c, rngI x) : states_closed.f l0 l1 l2 l3 st (c.map ofI) = some ((risen (closedL (gr st l3) c)).map ofI) := by
 unfold states_closed.f
 rw [if_pos, map_toI_ofI]
 refine ⟨hv, hp, by rw [List.length_map]; omega, List.all_eq_true.2 (fun x hx => ?_)⟩
 obtain ⟨y, hy, rfl⟩ := List.mem_map.1 hx
 have := hc.2 y hy
 unfold okI
 exact decide_eq_true this
theorem step_is {l0 : List S82} {l1 : List S101} {l2 : List ByteArray} {l3 : List S64} {st : Int} (hv : validB l0 l1 l2 l3 st = true) (c : List Itm) (s : Int) : states_step.f l0 l1 l2 l3 st ((risen (closedL (gr st l3) c)).map ofI) s = some ((Sg (gr st l3) c s).map ofI) := by
 unfold states_step.f
 rw [if_pos, map_toI_ofI]
 ·rfl
 ·refine ⟨hv, ?_⟩
  rw [List.length_map]
  have := closed_small (fits_of hv) c
  omega

theorem terms_few {l0 : List S82} {l1 : List S101} {l2 : List ByteArray} {l3 : List S64} {st : Int} (h : validB l0 l1 l2 l3 st = true) : l0.length ≤ 60 := by
 unfold validB at h
 simp only [Bool.and_eq_true, Bool.not_eq_true', decide_eq_false_iff_not, inB, decide_eq_true_eq] at h
 omega
set_option maxHeartbeats 4000000 in
set_option maxRecDepth 100000 in
theorem build_bad (A0 : Option Addr) (c0 : Nat) (l0 : List S82) (A1 : Option Addr) (c1 : Nat) (l1 : List S101) (A2 : Option Addr) (c2 : Nat) (l2 : List ByteArray) (A3 : Option Addr) (c3 : Nat) (l3 : List S64) (st : Int) (w : World)
  (hr0 : Kd.C k82 w A0 l0.length l0) (hc0 : l0.length ≤ c0) (hr1 : Kd.C k101 w A1 l1.length l1) (hc1 : l1.length ≤ c1) (hr2 : Kd.C Kd.string w A2 l2.length l2) (hc2 : l2.length ≤ c2) (hr3 : Kd.C k64 w A3 l3.length l3) (hc3 : l3.length ≤ c3) (hv : validB l0 l1 l2 l3 st = false) :
  Calls Tryd.prog 23 #[.agg #[.slice A0 l0.length c0, .slice A1 l1.length c1, .slice A2 l2.length c2, .slice A3 l3.length c3, .int .i64 st]] w fun e w' => e = .returned (.tuple #[.agg #[.slice none 0 0, .slice none 0 0], .int .i64 1]) ∧ RowKit.Below w.heap.size w w' := by
 have HR0 := Aside0.mk hr0
 have HR1 := Aside0.mk hr1
 have HR2 := Aside0.mk hr2
 have HR3 := Aside0.mk hr3
 have HC0 := Aside0.mk hc0
 have HC1 := Aside0.mk hc1
 have HC2 := Aside0.mk hc2
 have HC3 := Aside0.mk hc3
 have HV := Aside0.mk (show inst_Valid.f l0 l1 l2 l3 st = some false by unfold inst_Valid.f; rw [hv])
 clear hr0 hr1 hr2 hr3 hc0 hc1 hc2 hc3 hv
 have hu27 := Tryd.underlying27
 have hu49 := Tryd.underlying49
 go_enter Tryd.func23, Tryd.ntmps23
 go_upto_region 1 with fail
 have BG := Aside0.mk (blk_alloc (blk_new w (Obj.cells #[.slice A0 l0.length c0, .slice A1 l1.length c1, .slice A2 l2.length c2, .slice A3 l3.length c3, .int .i64 st] 27)) (Obj.cells #[.slice none 0 0, .slice none 0 0] 49))
 have BR := Aside0.mk (show ((w.alloc (Obj.cells #[.slice A0 l0.length c0, .slice A1 l1.length c1, .slice A2 l2.length c2, .slice A3 l3.length c3, .int .i64 st] 27)).alloc (Obj.cells #[.slice none 0 0, .slice none 0 0] 49)).heap[w.heap.size + 1]? = some (.cells #[.slice none 0 0, .slice none 0 0] 49 (0, 0)) by have h := blk_new (w.alloc (Obj.cells #[.slice A0 l0.length c0, .slice A1 l1.length c1, .slice A2 l2.length c2, .slice A3 l3.length c3, .int .i64 st] 27)) (Obj.cells #[.slice none 0 0, .slice none 0 0] 49); rw [World.size_alloc] at h; exact h)
 have HB := Aside0.mk (below_alloc (below_alloc (RowKit.Below.refl w.heap.size w) (Obj.cells #[.slice A0 l0.length c0, .slice A1 l1.length c1, .slice A2 l2.length c2, .slice A3 l3.length c3, .int .i64 st] 27)) (Obj.cells #[.slice none 0 0, .slice none 0 0] 49))
 generalize (w.alloc (Obj.cells #[.slice A0 l0.length c0, .slice A1 l1.length c1, .slice A2 l2.length c2, .slice A3 l3.length c3, .int .i64 st] 27)).alloc (Obj.cells #[.slice none 0 0, .slice none 0 0] 49) = w1 at *
 obtain ⟨z0, z1, z2, z3, z4⟩ := five5 BG.out
 go_upto_region 2 with (go_at_call 34; (with_reducible refine (inst_Valid.calls _ _ l0 _ _ l1 _ _ l2 _ _ l3 st false w1 (Kd.C_below HR0.out HB.out) HC0.out (Kd.C_below HR1.out HB.out) HC1.out (Kd.C_below HR2.out HB.out) HC2.out (Kd.C_below HR3.out HB.out) HC3.out HV.out).mono ?_); rintro e w2 ⟨rfl, hb⟩; have HB2 := Aside0.mk (below_step HB.out hb); have BR2 := Aside0.mk (blk_below BR.out hb); clear hb)
 clear z0 z1 z2 z3 z4
 have y0 : w2.cell? ⟨w.heap.size + 1, 0, none⟩ = some (.slice none 0 0) := blk_cell BR2.out 0
 have y1 : w2.cell? ⟨w.heap.size + 1, 1, none⟩ = some (.slice none 0 0) := blk_cell BR2.out 1
 have f2 := blk_frozen BR2.out 0
 have f3 := blk_frozen BR2.out 1
 go_wp2
 refine bodyPost_ret (results_ct rfl _ _ (w.heap.size + 1) 49 #[.slice none 0 0, .slice none 0 0] (0, 0) _ rfl (blk_put (blk_put BR2.out 0 _ rfl) 1 _ rfl) Tryd.underlying49 rfl (by kernel_rfl)) rfl ⟨rfl, ?_⟩
 exact below_set (below_set HB2.out (Nat.le_succ _)) (Nat.le_succ _)
set_option maxHeartbeats 16000000 in
set_option maxRecDepth 100000 in
theorem build_good (A0 : Option Addr) (c0 : Nat) (l0 : List S82) (A1 : Option Addr) (c1 : Nat) (l1 : List S101) (A2 : Option Addr) (c2 : Nat) (l2 : List ByteArray) (A3 : Option Addr) (c3 : Nat) (l3 : List S64) (st : Int) (R : Option (List (List Itm) × List (List Int))) (w : World) (hG : GTab w)
  (hr0 : Kd.C k82 w A0 l0.length l0) (hc0 : l0.length ≤ c0) (hr1 : Kd.C k101 w A1 l1.length l1) (hc1 : l1.length ≤ c1) (hr2 : Kd.C Kd.string w A2 l2.length l2) (hc2 : l2.length ≤ c2) (hr3 : Kd.C k64 w A3 l3.length l3) (hc3 : l3.length ≤ c3) (hv : validB l0 l1 l2 l3 st = true) (hp : l3.all okP = true) (h : builtL l0.length l2.length (gr st l3) = some R) :
  Calls Tryd.prog 23 #[.agg #[.slice A0 l0.length c0, .slice A1 l1.length c1, .slice A2 l2.length c2, .slice A3 l3.length c3, .int .i64 st]] w fun e w' => ∃ v0_ v1_ : Value, e = .returned (.tuple #[.agg #[v0_, v1_], .int .i64 (outB R).2.2]) ∧ Kd.S (Kd.slice 37 k37) 28 w' w.heap.size (fun _ => True) v0_ (outB R).1 ∧ Kd.S (Kd.slice 3 (Kd.int .i64)) 58 w' w.heap.size (fun _ => True) v1_ (outB R).2.1 ∧ RowKit.Below w.heap.size w w' := by
 have HR0 := Aside0.mk hr0
 have HR1 := Aside0.mk hr1
 have HR2 := Aside0.mk hr2
 have HR3 := Aside0.mk hr3
 have HC0 := Aside0.mk hc0
 have HC1 := Aside0.mk hc1
 have HC2 := Aside0.mk hc2
 have HC3 := Aside0.mk hc3
 have HG := Aside0.mk hG
 have HVB := Aside0.mk hv
 have HPB := Aside0.mk hp
 have HX := Aside0.mk (Bx.start h)
 have HV := Aside0.mk (show inst_Valid.f l0 l1 l2 l3 st = some true by unfold inst_Valid.f; rw [hv])
 clear hr0 hr1 hr2 hr3 hc0 hc1 hc2 hc3 hv hG hp h
 have hu27 := Tryd.underlying27
 have hu28 := Tryd.underlying28
 have hu37 := Tryd.underlying37
 have hu49 := Tryd.underlying49
 have hmm := @run_makeMap Tryd.prog
 have hmf : ∀ (fn : Fn) (first cap : Array Value) (w : World), (Instr.makeFunc fn first cap).run Tryd.prog w = .ok (.func fn first cap) w := fun _ _ _ _ => rfl
 go_enter Tryd.func23, Tryd.ntmps23
 go_upto_region 1 with fail
 have BG := Aside0.mk (blk_alloc (blk_new w (Obj.cells #[.slice A0 l0.length c0, .slice A1 l1.length c1, .slice A2 l2.length c2, .slice A3 l3.length c3, .int .i64 st] 27)) (Obj.cells #[.slice none 0 0, .slice none 0 0] 49))
 have BR := Aside0.mk (show ((w.alloc (Obj.cells #[.slice A0 l0.length c0, .slice A1 l1.length c1, .slice A2 l2.length c2, .slice A3 l3.length c3, .int .i64 st] 27)).alloc (Obj.cells #[.slice none 0 0, .slice none 0 0] 49)).heap[w.heap.size + 1]? = some (.cells #[.slice none 0 0, .slice none 0 0] 49 (0, 0)) by have h := blk_new (w.alloc (Obj.cells #[.slice A0 l0.length c0, .slice A1 l1.length c1, .slice A2 l2.length c2, .slice A3 l3.length c3, .int .i64 st] 27)) (Obj.cells #[.slice none 0 0, .slice none 0 0] 49); rw [World.size_alloc] at h; exact h)
 have HB := Aside0.mk (below_alloc (below_alloc (RowKit.Below.refl w.heap.size w) (Obj.cells #[.slice A0 l0.length c0, .slice A1 l1.length c1, .slice A2 l2.length c2, .slice A3 l3.length c3, .int .i64 st] 27)) (Obj.cells #[.slice none 0 0, .slice none 0 0] 49))
 generalize (w.alloc (Obj.cells #[.slice A0 l0.length c0, .slice A1 l1.length c1, .slice A2 l2.length c2, .slice A3 l3.length c3, .int .i64 st] 27)).alloc (Obj.cells #[.slice none 0 0, .slice none 0 0] 49) = w1 at *
 obtain ⟨z0, z1, z2, z3, z4⟩ := five5 BG.out
 go_upto_region 3 with (go_at_call 34; (with_reducible refine (inst_Valid.calls _ _ l0 _ _ l1 _ _ l2 _ _ l3 st true w1 (Kd.C_below HR0.out HB.out) HC0.out (Kd.C_below HR1.out HB.out) HC1.out (Kd.C_below HR2.out HB.out) HC2.out (Kd.C_below HR3.out HB.out) HC3.out HV.out).mono ?_); rintro e w2 ⟨rfl, hb⟩; have HB2 := Aside0.mk (below_step HB.out hb); have BG2 := Aside0.mk (blk_below BG.out hb); have BR2 := Aside0.mk (blk_below BR.out hb); clear hb)
 clear z0 z1 z2 z3 z4 HB BG BR
 have H0 := Aside0.mk (Bd.start HB2.out BG2.out BR2.out)
 have HS3 := Aside0.mk (show (((w2.alloc (Obj.cells #[.slice none 0 0, .slice none 0 0] 49)).alloc (Obj.map #[] 0)).alloc (Obj.cells #[.map (some (w2.heap.size + 1))] 87)).heap.size = w2.heap.size + 3 by simp)
 go_upto_region 6 with fail
 rw [show w2.heap.size + 1 + 1 = w2.heap.size + 2 from rfl]
 generalize ((w2.alloc (Obj.cells #[.slice none 0 0, .slice none 0 0] 49)).alloc (Obj.map #[] 0)).alloc (Obj.cells #[.map (some (w2.heap.size + 1))] 87) = W3 at *
 generalize w2.heap.size = B at *
 have hsz3 := HS3.out
 have hnum := number_calls (w := w) (W := W3.alloc (Obj.cells #[.int .i64 (-1), .int .i64 0] 37)) (B := B) (G := #[.slice A0 l0.length c0, .slice A1 l1.length c1, .slice A2 l2.length c2, .slice A3 l3.length c3, .int .i64 st]) (K := []) (N := []) (vK := .slice none 0 0) (vN := .slice none 0 0) (vl := .slice (some ⟨W3.heap.size, 0, none⟩) 1 1) (l := [((-1, 0) : Itm)]) (okN := fun _ => True) HG.out (Bd.apart H0.out (below_alloc (RowKit.Below.refl _ _) _) (fun k hk => by injection hk with hk; exact Nat.le_of_eq hk)) (one_row W3 B (by omega)) (HX.out.small _ (List.mem_singleton.2 rfl)).2 (by simp) (by simp)
 rw [show numb [] [((-1, 0) : Itm)] = (0, [[(-1, 0)]]) from rfl, hsz3] at hnum
 clear BG2 BR2 HB2 H0 HS3
 go_upto_region 7 with (go_at_call 42; (with_reducible refine hnum.mono ?_); rintro e w4 ⟨rfl, vK4, hd, hsz, hk⟩; have H4 := Aside0.mk hd; clear hd hsz hk)
 clear hnum hsz3
 go_wp2_with fail
 refine wp_loop_num (fun n a W => ∃ (vK vN : Value) (K : List (List Itm)) (N : List (List Int)) (u8 u9 u10 u11 u12 u13 u14 u15 u16 u17 u18 u19 u20 u21 u22 u23 u24 u25 u26 u27 u28 u29 u30 u31 u32 u33 u34 u35 u36 u37 u38 u39 u40 u41 u42 u43 u44 u45 u46 u47 u48 u49 u50 u51 u52 u53 u54 u55 u56 u57 u58 u59 u60 u61 u62 u63 u64 : Value), a = { tmps := #[.agg #[.slice A0 l0.length c0, .slice A1 l1.length c1, .slice A2 l2.length c2, .slice A3 l3.length c3, .int .i64 st], .pointer (some ⟨w.heap.size, 0, none⟩), .pointer (some ⟨w.heap.size + 1, 0, none⟩), .int .i64 0, .pointer (some ⟨B, 0, none⟩), .pointer (some ⟨B + 2, 0, none⟩), .func (.func 42) #[] #[.pointer (some ⟨B + 2, 0, none⟩), .pointer (some ⟨B, 0, none⟩)], .int .i64 N.length, u8, u9, u10, u11, u12, u13, u14, u15, u16, u17, u18, u19, u20, u21, u22, u23, u24, u25, u26, u27, u28, u29, u30, u31, u32, u33, u34, u35, u36, u37, u38, u39, u40, u41, u42, u43, u44, u45, u46, u47, u48, u49, u50, u51, u52, u53, u54, u55, u56, u57, u58, u59, u60, u61, u62, u63, u64], defers := [] } ∧ Aside0 (Bx l0.length l2.length (gr st l3) R n K N) ∧ Aside0 (Bd w B #[.slice A0 l0.length c0, .slice A1 l1.length c1, .slice A2 l2.length c2, .slice A3 l3.length c3, .int .i64 st] K K N vK vN (fun _ => True) (fun _ => True) W)) 2003 ⟨_, _, _, _, _, _, _, _, _, _, _, _, _, _, _, _, _, _, _, _, _, _, _, _, _, _, _, _, _, _, _, _, _, _, _, _, _, _, _, _, _, _, _, _, _, _, _, _, _, _, _, _, _, _, _, _, _, _, _, _, _, rfl, HX, H4⟩ ?_
 clear HX H4
 rintro n a W ⟨vK, vN, K, N, u8, u9, u10, u11, u12, u13, u14, u15, u16, u17, u18, u19, u20, u21, u22, u23, u24, u25, u26, u27, u28, u29, u30, u31, u32, u33, u34, u35, u36, u37, u38, u39, u40, u41, u42, u43, u44, u45, u46, u47, u48, u49, u50, u51, u52, u53, u54, u55, u56, u57, u58, u59, u60, u61, u62, u63, u64, rfl, HX, HI⟩
 obtain ⟨n, rfl⟩ := HX.out.pos
 obtain ⟨AK, cK, eK⟩ := Kd.S_slice HI.out.ks
 obtain ⟨AN, cN, eN⟩ := Kd.S_slice HI.out.ns
 subst eK
 subst eN
 rw [List.length_map] at HI
 have a0 : W.cell? ⟨B, 0, none⟩ = some (.slice AK K.length cK) := blk_cell HI.out.ba 0
 cases hc : K[N.length]? with
 | none =>
  have hle := List.getElem?_eq_none_iff.1 hc
  have hltb : decide (N.length < K.length) = false := decide_eq_false (by omega)
  have HRR := Aside0.mk (HX.out.fine hc)
  have a1 : W.cell? ⟨B, 1, none⟩ = some (.slice AN N.length cN) := blk_cell HI.out.ba 1
  have y0 : W.cell? ⟨w.heap.size + 1, 0, none⟩ = some (.slice none 0 0) := blk_cell HI.out.br 0
  have y1 : W.cell? ⟨w.heap.size + 1, 1, none⟩ = some (.slice none 0 0) := blk_cell HI.out.br 1
  have f2 := blk_frozen HI.out.br 0
  have f3 := blk_frozen HI.out.br 1
  clear hle hc
  go_wp2
  refine bodyPost_ret (results_ct rfl _ _ (w.heap.size + 1) 49 #[.slice AK K.length cK, .slice AN N.length cN] (0, 0) _ rfl (blk_put (blk_put HI.out.br 0 _ rfl) 1 _ rfl) Tryd.underlying49 rfl (by kernel_rfl)) rfl ?_
  rw [HRR.out]
  have hB := HI.out.hB
  refine ⟨_, _, rfl, ?_, ?_, ?_⟩
  ·exact Kd.S_mono (Kd.S_lower (Kd.S_far (Kd.S_far HI.out.ks (fun k hk => by have := hk.1; show k ≠ w.heap.size + 1; omega) _) (fun k hk => by have := hk.1; show k ≠ w.heap.size + 1; omega) _) (by omega)) (fun _ _ => trivial)
  ·exact Kd.S_mono (Kd.S_lower (Kd.S_far (Kd.S_far HI.out.ns (fun k hk => by have := hk.1; show k ≠ w.heap.size + 1; omega) _) (fun k hk => by have := hk.1; show k ≠ w.heap.size + 1; omega) _) (by omega)) (fun _ _ => trivial)
  ·exact below_set (below_set HI.out.hb (Nat.le_succ _)) (Nat.le_succ _)
 | some c =>
  obtain ⟨ad, nK, A, cc, eK2, hcell, hcc, hC⟩ := kernel_at HI.out hc
  injection eK2 with e1 e2 e3
  subst e1
  subst e3
  obtain ⟨hlt, -⟩ := List.getElem?_eq_some_iff.1 hc
  have hltb : decide (N.length < K.length) = true := decide_eq_true (by omega)
  have hsm := HX.out.small c (List.mem_of_getElem? hc)
  obtain ⟨all, hall⟩ : ∃ all, all = risen (closedL (gr st l3) c) := ⟨_, rfl⟩
  have hcl := closed_is HVB.out HPB.out hsm
  rw [← hall] at hcl
  have HALL := Aside0.mk hall
  have HCALL : Aside0 (∀ W', RowKit.Below W.heap.size W W' → Calls Tryd.prog 38 #[.agg #[.slice A0 l0.length c0, .slice A1 l1.length c1, .slice A2 l2.length c2, .slice A3 l3.length c3, .int .i64 st], .slice A c.length cc] W' fun e w' => ∃ A8 c8, e = .returned (.slice A8 all.length c8) ∧ Aside0 (Kd.R k37 37 w' (B + 3) (fun k => B + 3 ≤ k) (.slice A8 all.length c8) (all.map ofI)) ∧ Aside0 (RowKit.Below W.heap.size W w')) := ⟨fun W' hb => by
   have hq := states_closed.calls A0 c0 l0 A1 c1 l1 A2 c2 l2 A3 c3 l3 st A cc (c.map ofI) (all.map ofI) W' (Kd.C_below HR0.out (below_step HI.out.hb hb)) HC0.out (Kd.C_below HR1.out (below_step HI.out.hb hb)) HC1.out (Kd.C_below HR2.out (below_step HI.out.hb hb)) HC2.out (Kd.C_below HR3.out (below_step HI.out.hb hb)) HC3.out (by rw [List.length_map]; exact Kd.C_below hC hb) (by rw [List.length_map]; exact hcc) hcl
   rw [List.length_map] at hq
   refine hq.mono ?_
   rintro e w' ⟨v, rfl, hR, hb2⟩
   obtain ⟨A8, c8, rfl⟩ := Kd.R_slice hR
   rw [List.length_map] at hR ⊢
   exact ⟨A8, c8, rfl, ⟨R_up hR (Nat.le_trans HI.out.size hb.size)⟩, ⟨below_step hb hb2⟩⟩⟩
  obtain ⟨z0, z1, z2, z3, z4⟩ := five5 HI.out.bg
  have HCC := Aside0.mk hc
  have HSM := Aside0.mk hsm
  clear hcl hall hC hcc hc hsm e2
  go_upto_region 10 with fail
  obtain ⟨K9, hK9⟩ : ∃ K9 : Act → World → Prop, K9 = (fun a W' => ∃ (A8 : Option Addr) (c8 : Nat) (u9 u10 u11 u12 u13 u14 u15 u16 u17 u18 u19 u20 u21 u22 u23 u24 u25 u26 u27 u28 u29 u30 u31 u32 u33 u34 u35 u36 u37 u38 u39 u40 u41 u42 u43 u44 u45 u46 u47 u48 u49 u50 u51 u52 u53 u54 u55 u56 u57 u58 u59 u60 u61 u62 u63 u64 : Value), a = { tmps := #[.agg #[.slice A0 l0.length c0, .slice A1 l1.length c1, .slice A2 l2.length c2, .slice A3 l3.length c3, .int .i64 st], .pointer (some ⟨w.heap.size, 0, none⟩), .pointer (some ⟨w.heap.size + 1, 0, none⟩), .int .i64 0, .pointer (some ⟨B, 0, none⟩), .pointer (some ⟨B + 2, 0, none⟩), .func (.func 42) #[] #[.pointer (some ⟨B + 2, 0, none⟩), .pointer (some ⟨B, 0, none⟩)], .int .i64 N.length, .slice A8 all.length c8, u9, u10, u11, u12, u13, u14, u15, u16, u17, u18, u19, u20, u21, u22, u23, u24, u25, u26, u27, u28, u29, u30, u31, u32, u33, u34, u35, u36, u37, u38, u39, u40, u41, u42, u43, u44, u45, u46, u47, u48, u49, u50, u51, u52, u53, u54, u55, u56, u57, u58, u59, u60, u61, u62, u63, u64], defers := [] } ∧ Aside0 (RowKit.Below W.heap.size W W') ∧ Aside0 (Kd.R k37 37 W' (B + 3) (fun k => B + 3 ≤ k) (.slice A8 all.length c8) (all.map ofI))) := ⟨_, rfl⟩
  have HK9 := Aside0.mk hK9
  clear hK9
  refine Code.wp_mono (Q := Exit.then K9 (fun _ _ _ => False)) ?post ?reg
  case reg =>
   go_region_with (go_at_call 38; (with_reducible refine (HCALL.out _ (by repeat (first | exact RowKit.Below.refl _ _ | apply below_drew1 | apply pw_below_drewN))).mono ?_); rintro e w5 ⟨A8, c8, rfl, HR8, HB8⟩)
   all_goals (show K9 _ _; rw [HK9.out]; exact ⟨_, _, _, _, _, _, _, _, _, _, _, _, _, _, _, _, _, _, _, _, _, _, _, _, _, _, _, _, _, _, _, _, _, _, _, _, _, _, _, _, _, _, _, _, _, _, _, _, _, _, _, _, _, _, _, _, _, _, rfl, ⟨by repeat (first | exact HB8.out | apply below_drew1 | apply pw_below_drewN)⟩, ⟨by repeat (first | exact HR8.out | apply Kd.R_drew | refine Kd.R_drewN ?_ _)⟩⟩)
  case post =>
   clear z0 z1 z2 z3 z4 hcell HCALL a0 hlt hltb
   intro e a' W1 he
   cases e with
   | normal =>
    replace he : K9 a' W1 := he
    rw [HK9.out] at he
    obtain ⟨A8, c8, u9, u10, u11, u12, u13, u14, u15, u16, u17, u18, u19, u20, u21, u22, u23, u24, u25, u26, u27, u28, u29, u30, u31, u32, u33, u34, u35, u36, u37, u38, u39, u40, u41, u42, u43, u44, u45, u46, u47, u48, u49, u50, u51, u52, u53, u54, u55, u56, u57, u58, u59, u60, u61, u62, u63, u64, rfl, HB9, HA9⟩ := he
    clear HK9
    have HI9 := Aside0.mk (HI.out.below HB9.out)
    clear HI HB9
    obtain ⟨z0, z1, z2, z3, z4⟩ := five5 HI9.out.bg
    obtain ⟨syms, hsyms⟩ : ∃ s, s = symsL l0.length l2.length := ⟨_, rfl⟩
    have hsy := symbols_is l0 l1 l2 l3 st (terms_few HVB.out) (fits_of HVB.out).sorts
    have hsl : syms.length ≤ 120 := by rw [hsyms, symsL_len]; have := terms_few HVB.out; have := (fits_of HVB.out).sorts; omega
    rw [← hsyms] at hsy
    have HSY := Aside0.mk hsyms
    have HSL := Aside0.mk hsl
    clear hsyms hsl
    go_wp2_with (go_at_call 44; (with_reducible refine (states_symbols.calls 300 _ _ l0 _ _ l1 _ _ l2 _ _ l3 st syms W1 (Kd.C_below HR0.out HI9.out.hb) HC0.out (Kd.C_below HR1.out HI9.out.hb) HC1.out (Kd.C_below HR2.out HI9.out.hb) HC2.out (Kd.C_below HR3.out HI9.out.hb) HC3.out hsy).mono ?_); rintro e w10 ⟨v7, rfl, hR7, hb7⟩; obtain ⟨A7, c7, e7⟩ := Kd.R_slice hR7; subst e7; have HS10 := Aside0.mk (R_up hR7 HI9.out.size); have HB10 := Aside0.mk hb7; clear hR7 hb7)
    clear z0 z1 z2 z3 z4 hsy
    have HJ10 := Aside0.mk (Bd.later (HI9.out.below HB10.out))
    have HA10 := Aside0.mk (Kd.R_below HA9.out HB10.out)
    have HBn := Aside0.mk HJ10.out.size
    obtain ⟨Bn, hBn⟩ : ∃ b, b = w10.heap.size := ⟨_, rfl⟩
    have HLE := Aside0.mk (Nat.le_of_eq hBn)
    rw [← hBn] at HBn HJ10
    clear HI9 HA9 HB10 hBn
    refine wp_loop_num (fun n2 a W' => ∃ (j : Nat) (v9 vK' : Value) (nums : List Int) (K' : List (List Itm)) (u10 u11 u12 u13 u14 u15 u16 u17 u18 u19 u20 u21 u22 u23 u24 u25 u26 u27 u28 u29 u30 u31 u32 u33 u34 u35 u36 u40 u41 u42 u43 u44 u45 u46 u47 u48 u49 u50 u51 u52 u53 u54 u55 u56 u57 u58 u59 u60 u61 u62 u63 u64 : Value), a = { tmps := #[.agg #[.slice A0 l0.length c0, .slice A1 l1.length c1, .slice A2 l2.length c2, .slice A3 l3.length c3, .int .i64 st], .pointer (some ⟨w.heap.size, 0, none⟩), .pointer (some ⟨w.heap.size + 1, 0, none⟩), .int .i64 0, .pointer (some ⟨B, 0, none⟩), .pointer (some ⟨B + 2, 0, none⟩), .func (.func 42) #[] #[.pointer (some ⟨B + 2, 0, none⟩), .pointer (some ⟨B, 0, none⟩)], .int .i64 N.length, .slice A8 all.length c8, v9, u10, u11, u12, u13, u14, u15, u16, u17, u18, u19, u20, u21, u22, u23, u24, u25, u26, u27, u28, u29, u30, u31, u32, u33, u34, u35, u36, .slice A7 syms.length c7, .int .i64 syms.length, .int .i64 j, u40, u41, u42, u43, u44, u45, u46, u47, u48, u49, u50, u51, u52, u53, u54, u55, u56, u57, u58, u59, u60, u61, u62, u63, u64], defers := [] } ∧ n2 = syms.length - j ∧ Aside0 (Rx (Sg (gr st l3) c) syms (rowL (Sg (gr st l3) c) syms K) j nums K') ∧ Aside0 (Bd w B #[.slice A0 l0.length c0, .slice A1 l1.length c1, .slice A2 l2.length c2, .slice A3 l3.length c3, .int .i64 st] K' K' N vK' (.slice AN N.length cN) (fun _ => True) (fun k => k < Bn) W') ∧ Aside0 (Kd.R k37 37 W' (B + 3) (fun k => B + 3 ≤ k) (.slice A8 all.length c8) (all.map ofI)) ∧ Aside0 (Kd.R (Kd.int .i64) 29 W' (B + 3) (fun k => B + 3 ≤ k) (.slice A7 syms.length c7) syms) ∧ Aside0 (Kd.R (Kd.int .i64) 3 W' Bn (fun k => Bn ≤ k) v9 nums) ∧ Aside0 (Bn ≤ W'.heap.size)) syms.length ⟨0, _, _, [], K, _, _, _, _, _, _, _, _, _, _, _, _, _, _, _, _, _, _, _, _, _, _, _, _, _, _, _, _, _, _, _, _, _, _, _, _, _, _, _, _, _, _, _, _, _, _, _, _, _, _, _, _, rfl, by omega, ⟨Rx.start HX.out _ _⟩, HJ10, HA10, HS10, ⟨Kd.R_nil _ _ _ _ _⟩, HLE⟩ ?_
    clear HJ10 HA10 HS10 HLE
    rintro n2 a W' ⟨j, v9, vK', nums, K', u10, u11, u12, u13, u14, u15, u16, u17, u18, u19, u20, u21, u22, u23, u24, u25, u26, u27, u28, u29, u30, u31, u32, u33, u34, u35, u36, u40, u41, u42, u43, u44, u45, u46, u47, u48, u49, u50, u51, u52, u53, u54, u55, u56, u57, u58, u59, u60, u61, u62, u63, u64, rfl, hn2, HRX, HJ, HA, HS, HN, HBN⟩
    by_cases hj : j < syms.length
    ·have hjb : decide (j < syms.length) = true := decide_eq_true (by omega)
     obtain ⟨ad7, e7, hx⟩ := Kd.at_int (Kd.R_reads' HS.out).2.2 (j : Int) (by omega) (by omega)
     subst e7
     rw [Int.toNat_natCast] at hx
     obtain ⟨s, hs⟩ : ∃ s, rd syms j = s := ⟨_, rfl⟩
     rw [hs] at hx
     obtain ⟨ls, hls⟩ : ∃ ls, ls = Sg (gr st l3) c s := ⟨_, rfl⟩
     have hsm2 : ls.length ≤ 1562 ∧ ∀ x ∈ ls, rngI x := by rw [hls]; exact Sg_small (fits_of HVB.out) c s
     have HLS := Aside0.mk hls
     have HSM2 := Aside0.mk hsm2
     have HRN := Aside0.mk (hls ▸ Rx.next HRX.out hj hs (by rw [← hls]; exact hsm2))
     have hst := step_is HVB.out c s
     rw [← HALL.out, ← hls] at hst
     have HSTEP : Aside0 (Calls Tryd.prog 41 #[.agg #[.slice A0 l0.length c0, .slice A1 l1.length c1, .slice A2 l2.length c2, .slice A3 l3.length c3, .int .i64 st], .slice A8 all.length c8, .int .i64 s] W' fun e w' => ∃ v0 : Value, e = .returned v0 ∧ Kd.R k37 37 w' W'.heap.size (fun _ => True) v0 (ls.map ofI) ∧ RowKit.Below W'.heap.size W' w') := ⟨by
      have hRA := Kd.R_reads' HA.out
      rw [List.length_map] at hRA
      have hq := states_step.calls A0 c0 l0 A1 c1 l1 A2 c2 l2 A3 c3 l3 st A8 c8 (all.map ofI) s (ls.map ofI) W' (Kd.C_below HR0.out HJ.out.hb) HC0.out (Kd.C_below HR1.out HJ.out.hb) HC1.out (Kd.C_below HR2.out HJ.out.hb) HC2.out (Kd.C_below HR3.out HJ.out.hb) HC3.out (by rw [List.length_map]; exact hRA.2.2) (by rw [List.length_map]; exact hRA.2.1) hst
      rw [List.length_map] at hq
      exact hq⟩
     obtain ⟨z0, z1, z2, z3, z4⟩ := five5 HJ.out.bg
     have hjw : IntKind.i64.wrap ((j : Int) + 1) = ((j + 1 : Nat) : Int) := by
      have := HSL.out
      rw [IntWalk.i64_in _ (by omega)]
      rfl
     have HK := Aside0.mk (show K'.length ≤ 3000 by have := HRX.out.few; have := HSL.out; omega)
     have HNL := Aside0.mk (show nums.length ≤ 120 by have := HRX.out.len; have := HSL.out; omega)
     clear hst hls hsm2 hs
     go_upto_region 16 with (first
      | (go_at_call 41; (with_reducible refine HSTEP.out.mono ?_); rintro e w11 ⟨v11, rfl, hR11, hb11⟩; have HNUM := Aside0.mk (number_calls (okN := fun k => k < Bn) HG.out (Bd.apart HJ.out hb11 (fun k hk => Kd.R_base hR11 k hk)) (R_up hR11 HJ.out.size) HSM2.out.2 (Nat.le_trans HSM2.out.1 (by omega)) HK.out); have HA11 := Aside0.mk (Kd.R_below HA.out hb11); have HS11 := Aside0.mk (Kd.R_below HS.out hb11); have HN11 := Aside0.mk (Kd.R_below HN.out hb11); have HB11 := Aside0.mk (Nat.le_trans HBN.out hb11.size); have HT11 := Aside0.mk (Kd.S_typed (Kd.S_below HJ.out.ks hb11)); clear hR11 hb11)
      | (go_at_call 42; (with_reducible refine HNUM.out.mono ?_); rintro e w12 ⟨rfl, vK2, hd, hsz, hkp⟩; have HJ12 := Aside0.mk hd; have HA12 := Aside0.mk (R_numb HA11.out HT11.out (by decide) (Nat.le_refl _) hkp); have HS12 := Aside0.mk (R_numb HS11.out HT11.out (by decide) (Nat.le_refl _) hkp); have HN12 := Aside0.mk (R_numb HN11.out HT11.out (by decide) HBn.out hkp); have HB12 := Aside0.mk (Nat.le_trans HB11.out hsz); clear hd hsz hkp)
      | ((with_reducible refine gate_builtin (b := .append) (xs := #[.tmp 43, .tmp 50]) rfl ?_); at_builtin; refine Kd.R_append (Kd.int .i64) (w0 := w12) Bn rfl (.tmp 43) (.tmp 50) 58 3 (.int .i64 0) 8 rfl Tryd.underlying58 info3 rfl (by decide) (by omega) v9 nums (numb K' ls).1 [.int .i64 (numb K' ls).1] (fun k => Bn ≤ k) (fun _ => False) rfl rfl rfl (fun _ hk => hk.elim) (fun k hk => Nat.le_trans HB12.out hk) HN12.out (RowKit.Below.refl _ _) HB12.out ?aL ?_; (case aL => have := HNL.out; omega); intro v13 w13 ho hb hg hat; have HN13 := Aside0.mk ho; have HJ13 := Aside0.mk (Bd.other HJ12.out (Kd.R_typed HN12.out) (Kd.R_base HN12.out) HBn.out hg); have HA13 := Aside0.mk (Kd.R_over' HA12.out (Kd.R_typed HN12.out) (by decide) hg); have HS13 := Aside0.mk (Kd.R_over' HS12.out (Kd.R_typed HN12.out) (by decide) hg); have HB13 := Aside0.mk (Nat.le_trans HB12.out hg.size); clear ho hb hg hat))
     go_wp2_with fail
     exact ⟨syms.length - (j + 1), by omega, j + 1, v13, vK2, _, _, _, _, _, _, _, _, _, _, _, _, _, _, _, _, _, _, _, _, _, _, _, _, _, _, _, _, _, _, _, _, _, _, _, _, _, _, _, _, _, _, _, _, _, _, _, _, _, _, _, _, _, _, rfl, rfl, HRN, HJ13, HA13, HS13, HN13, HB13⟩
    ·have hjb : decide (j < syms.length) = false := decide_eq_false (by omega)
     have hjl : j = syms.length := by have := HRX.out.le; omega
     have HDN := Aside0.mk (HRX.out.done hjl)
     have HSM3 := Aside0.mk HRX.out.small
     clear hjl
     obtain ⟨A9, c9, e9⟩ := Kd.R_slice HN.out
     subst e9
     obtain ⟨AK2, cK2, eK2⟩ := Kd.S_slice HJ.out.ks
     subst eK2
     rw [List.length_map] at HJ
     have a1 : W'.cell? ⟨B, 1, none⟩ = some (.slice AN N.length cN) := blk_cell HJ.out.ba 1
     have HN9 := Aside0.mk (R_up HN.out HBn.out)
     have HOW : Aside0 (∀ k, some k = (Value.slice A9 nums.length c9).ownBlock → some k ≠ (Value.slice AN N.length cN).ownBlock) := ⟨fun k e e' => by
      obtain ⟨q1, h1⟩ := Kd.R_typed HN.out k e.symm
      obtain ⟨q2, h2⟩ := Kd.S_typed HJ.out.ns k e'.symm
      rw [h1] at h2
      cases h2⟩
     have HNS := Aside0.mk (Kd.S_mono HJ.out.ns (ok' := fun k => B + 3 ≤ k ∧ ¬ (some k = (Value.slice A9 nums.length c9).ownBlock ∧ B + 3 ≤ k)) (fun k hk => ⟨hk.1, fun h2 => by have := Kd.R_base HN.out k h2.1.symm; have := hk.2; omega⟩))
     have HNL := Aside0.mk (show N.length ≤ 3000 by have := HX.out.n3; omega)
     go_upto_region 18 with (first | ((with_reducible refine gate_builtin (b := .append) (xs := #[.tmp 54, .tmp 56]) rfl ?_); at_builtin; refine Kd.S_append (Kd.slice 3 (Kd.int .i64)) (w0 := W') (B + 3) rfl (.tmp 54) (.tmp 56) 47 58 (.slice none 0 0) 24 rfl Tryd.underlying47 info58 rfl (by decide) (by omega) (.slice AN N.length cN) N nums [.slice A9 nums.length c9] (fun k => B + 3 ≤ k) (fun k => some k = (Value.slice A9 nums.length c9).ownBlock ∧ B + 3 ≤ k) rfl rfl ⟨_, rfl, Kd.R_tight2 rfl HN9.out⟩ (fun k hk => ⟨hk.2, HOW.out k hk.1⟩) (fun k hk => Nat.le_trans HJ.out.size hk) HNS.out (RowKit.Below.refl _ _) HJ.out.size ?aL ?_; (case aL => have := HNL.out; omega); intro v14 w14 ho hb hg hat; obtain ⟨A14, c14, e14⟩ := Kd.S_slice ho; have e15 : (N ++ [nums]).length = N.length + 1 := (by simp); rw [e15] at e14; subst e14; clear e15; have HJ15 := Aside0.mk (Bd.appN HJ.out ho hg); have c6 : w14.cell? ⟨B, 1, none⟩ = some (.slice AN N.length cN) := blk_cell ((hg.block _ (blk_lt HJ.out.ba) (fun e => by have := Kd.S_base HJ.out.ns _ e.symm; omega)).trans HJ.out.ba) 1; have f6 := blk_frozen ((hg.block _ (blk_lt HJ.out.ba) (fun e => by have := Kd.S_base HJ.out.ns _ e.symm; omega)).trans HJ.out.ba) 1; clear ho hb hg hat))
     clear a1
     generalize w14.setCell ⟨B, 1, none⟩ (.slice A14 (N.length + 1) c14) = W15 at *
     clear HS HA HN HJ HN9 HOW HNS c6 f6
     have a0 : W15.cell? ⟨B, 0, none⟩ = some (.slice AK2 K'.length cK2) := blk_cell HJ15.out.ba 0
     have HON := Aside0.mk (HX.out.on HCC.out (K' := K') (nums := nums) (by have := HDN.out; rw [HSY.out] at this; exact this) HSM3.out)
     by_cases hmany : 2000 < K'.length
     ·have hmb : decide (2000 < K'.length) = true := decide_eq_true hmany
      have HRR := Aside0.mk (HON.out.1 hmany)
      have y0 : W15.cell? ⟨w.heap.size + 1, 0, none⟩ = some (.slice none 0 0) := blk_cell HJ15.out.br 0
      have y1 : W15.cell? ⟨w.heap.size + 1, 1, none⟩ = some (.slice none 0 0) := blk_cell HJ15.out.br 1
      have f2 := blk_frozen HJ15.out.br 0
      have f3 := blk_frozen HJ15.out.br 1
      go_wp2
      refine bodyPost_ret (results_ct rfl _ _ (w.heap.size + 1) 49 #[.slice none 0 0, .slice none 0 0] (0, 0) _ rfl (blk_put (blk_put HJ15.out.br 0 _ rfl) 1 _ rfl) Tryd.underlying49 rfl (by kernel_rfl)) rfl ?_
      rw [HRR.out]
      exact ⟨_, _, rfl, Kd.S_nil _ _ _ _ _, Kd.S_nil _ _ _ _ _, below_set (below_set HJ15.out.hb (Nat.le_succ _)) (Nat.le_succ _)⟩
     ·have hmb : decide (2000 < K'.length) = false := decide_eq_false hmany
      have HBX := Aside0.mk (HON.out.2 hmany)
      have hN1 : IntKind.i64.wrap ((N.length : Int) + 1) = (((N ++ [nums]).length : Nat) : Int) := by
       have := HNL.out
       rw [List.length_append, List.length_singleton, IntWalk.i64_in _ (by omega)]
       rfl
      go_wp2_with fail
      exact ⟨n, Nat.lt_succ_self n, _, _, K', N ++ [nums], by rw [List.length_append, List.length_singleton]; rfl, HBX, HJ15⟩
   | _ => exact he.elim

theorem states_Build.calls (A0 : Option Addr) (c0 : Nat) (l0 : List S82) (A1 : Option Addr) (c1 : Nat) (l1 : List S101) (A2 : Option Addr) (c2 : Nat) (l2 : List ByteArray) (A3 : Option Addr) (c3 : Nat) (l3 : List S64) (st : Int) (r1 : List (List S37)) (r2 : List (List Int)) (r3 : Int) (w : World) (hG : GTab w)
  (hr0 : Kd.C k82 w A0 l0.length l0) (hc0 : l0.length ≤ c0) (hr1 : Kd.C k101 w A1 l1.length l1) (hc1 : l1.length ≤ c1) (hr2 : Kd.C Kd.string w A2 l2.length l2) (hc2 : l2.length ≤ c2) (hr3 : Kd.C k64 w A3 l3.length l3) (hc3 : l3.length ≤ c3) (h : states_Build.f l0 l1 l2 l3 st = some (r1, r2, r3)) :
  Calls Tryd.prog 23 #[.agg #[.slice A0 l0.length c0, .slice A1 l1.length c1, .slice A2 l2.length c2, .slice A3 l3.length c3, .int .i64 st]] w fun e w' => ∃ v0_ v1_ : Value, e = .returned (.tuple #[.agg #[v0_, v1_], .int .i64 r3]) ∧ Kd.S (Kd.slice 37 k37) 28 w' w.heap.size (fun _ => True) v0_ r1 ∧ Kd.S (Kd.slice 3 (Kd.int .i64)) 58 w' w.heap.size (fun _ => True) v1_ r2 ∧ Below w.heap.size w w' := by
 unfold states_Build.f at h
 cases hv : validB l0 l1 l2 l3 st with
 | false =>
  rw [hv, if_neg (by decide)] at h
  have h := Option.some.inj h
  obtain ⟨rfl, h2⟩ := Prod.mk.inj h
  obtain ⟨rfl, rfl⟩ := Prod.mk.inj h2
  refine (build_bad A0 c0 l0 A1 c1 l1 A2 c2 l2 A3 c3 l3 st w hr0 hc0 hr1 hc1 hr2 hc2 hr3 hc3 hv).mono ?_
  rintro e w' ⟨rfl, hb⟩
  exact ⟨_, _, rfl, Kd.S_nil _ _ _ _ _, Kd.S_nil _ _ _ _ _, hb⟩
 | true =>
  rw [hv, if_pos rfl] at h
  split at h
  ·rename_i hp
   obtain ⟨R, hR, hO⟩ := Option.map_eq_some_iff.1 h
   have hz := build_good A0 c0 l0 A1 c1 l1 A2 c2 l2 A3 c3 l3 st R w hG hr0 hc0 hr1 hc1 hr2 hc2 hr3 hc3 hv hp hR
   rw [hO] at hz
   exact hz
  ·cases h

end Go.Proofs.YtclollnicbcooaaDoor.P
end

section
namespace Go.Proofs.YtclollnicbcooaaDoor.P
open Go.RowKit Go.Proofs.YtclollnicbcooaaDoorW.PrintWords Go.Proofs.YtclollnicbcooaaDoorW.PrintLast Go.Proofs.YtclollnicbcooaaDoorW.PrintMore
attribute [local go_sem] max2_int min2_int max_two min_two max_three min_three max_four min_four

attribute [local go_sem high] eqA37
/-! ### states_Go: function 25 -/
def states_Go.f (l0_0 : List (S82)) (l0_1 : List (S101)) (l0_2 : List ByteArray) (l0_3 : List (S64)) (a0_4 : Int) (l1_0 : List (List (S37))) (l1_1 : List (List Int)) (a2 : Int) (a3 : Int) : Option (Int) := if a3 < 0 then (if a2 < 0 then (some (-1)) else (if a2 ≥ (l1_1.length : Int) then (some (-1)) else (if (wrap64 ((l0_0.length : Int) + (wrap64 ((-1) - a3)))) < 0 then (some (-1)) else (if 0 ≤ a2 then (if a2 < (l1_1.length : Int) then (if (wrap64 ((l0_0.length : Int) + (wrap64 ((-1) - a3)))) ≥ ((rd_L17 l1_1 a2).length : Int) then (some (-1)) else (if 0 ≤ (wrap64 ((l0_0.length : Int) + (wrap64 ((-1) - a3)))) then (if (wrap64 ((l0_0.length : Int) + (wrap64 ((-1) - a3)))) < ((rd_L17 l1_1 a2).length : Int) then (some (rd (rd_L17 l1_1 a2) (wrap64 ((l0_0.length : Int) + (wrap64 ((-1) - a3)))))) else (none)) else (none))) else (none)) else (none))))) else (if a3 ≥ (l0_0.length : Int) then (some (-1)) else (if a2 < 0 then (some (-1)) else (if a2 ≥ (l1_1.length : Int) then (some (-1)) else (if 0 ≤ a2 then (if a2 < (l1_1.length : Int) then (if a3 ≥ ((rd_L17 l1_1 a2).length : Int) then (some (-1)) else (if 0 ≤ a3 then (if a3 < ((rd_L17 l1_1 a2).length : Int) then (some (rd (rd_L17 l1_1 a2) a3)) else (none)) else (none))) else (none)) else (none)))))
def goF (N : List (List Int)) (a q : Int) : Option Int := if a < 0 then some (-1) else if a ≥ (N.length : Int) then some (-1) else if q < 0 then some (-1) else if q ≥ ((rd_L17 N a).length : Int) then some (-1) else some (Go.Proofs.YtclollnicbcooaaDoorW.PrintWords.rd (rd_L17 N a) q)
theorem go_f (l0 : List S82) (l1 : List S101) (l2 : List ByteArray) (l3 : List S64) (st : Int) (Ka : List (List S37)) (N : List (List Int)) (a s : Int) : states_Go.f l0 l1 l2 l3 st Ka N a s = if s < 0 then goF N a (wrap64 ((l0.length : Int) + (wrap64 ((-1) - s)))) else if s ≥ (l0.length : Int) then some (-1) else goF N a s := by
 unfold states_Go.f goF
 generalize wrap64 ((l0.length : Int) + (wrap64 ((-1) - s))) = w
 by_cases hs : s < 0
 ·simp only [if_pos hs]
  by_cases h1 : a < 0
  ·simp only [if_pos h1]
  ·by_cases h2 : a ≥ (N.length : Int)
   ·simp only [if_neg h1, if_pos h2]
   ·by_cases h3 : w < 0
    ·simp only [if_neg h1, if_neg h2, if_pos h3]
    ·by_cases h4 : w ≥ ((rd_L17 N a).length : Int)
     ·simp only [if_neg h1, if_neg h2, if_neg h3, if_pos h4, if_pos (show 0 ≤ a by omega), if_pos (show a < (N.length : Int) by omega)]
     ·simp only [if_neg h1, if_neg h2, if_neg h3, if_neg h4, if_pos (show 0 ≤ a by omega), if_pos (show a < (N.length : Int) by omega), if_pos (show 0 ≤ w by omega), if_pos (show w < ((rd_L17 N a).length : Int) by omega)]
 ·simp only [if_neg hs]
  by_cases h0 : s ≥ (l0.length : Int)
  ·simp only [if_pos h0]
  ·simp only [if_neg h0]
   by_cases h1 : a < 0
   ·simp only [if_pos h1]
   ·by_cases h2 : a ≥ (N.length : Int)
    ·simp only [if_neg h1, if_pos h2]
    ·by_cases h4 : s ≥ ((rd_L17 N a).length : Int)
     ·simp only [if_neg h1, if_neg h2, if_pos h4, if_pos (show 0 ≤ a by omega), if_pos (show a < (N.length : Int) by omega)]
     ·simp only [if_neg h1, if_neg h2, if_neg h4, if_pos (show 0 ≤ a by omega), if_pos (show a < (N.length : Int) by omega), if_pos (show 0 ≤ s by omega), if_pos (show s < ((rd_L17 N a).length : Int) by omega)]

set_option maxHeartbeats 8000000 in
set_option maxRecDepth 100000 in
theorem go_walk (A0 : Option Addr) (c0 : Nat) (l0 : List S82) (A1 : Option Addr) (c1 : Nat) (l1 : List S101) (A2 : Option Addr) (c2 : Nat) (l2 : List ByteArray) (A3 : Option Addr) (c3 : Nat) (l3 : List S64) (st : Int) (AK : Option Addr) (cK : Nat) (K : List (List S37)) (AN : Option Addr) (cN : Nat) (N : List (List Int)) (a s : Int) (r : Int) (w : World)
  (hn : Kd.C (Kd.slice 3 (Kd.int .i64)) w AN N.length N) (h : states_Go.f l0 l1 l2 l3 st K N a s = some r) :
  Calls Tryd.prog 25 #[.agg #[.slice A0 l0.length c0, .slice A1 l1.length c1, .slice A2 l2.length c2, .slice A3 l3.length c3, .int .i64 st], .agg #[.slice AK K.length cK, .slice AN N.length cN], .int .i64 a, .int .i64 s] w fun e w' => e = .returned (.int .i64 r) ∧ Below w.heap.size w w' := by
 have hu27 := Tryd.underlying27
 have hu49 := Tryd.underlying49
 rw [go_f] at h
 have HN := jM hn
 have HH := jM h
 clear hn h
 go_enter Tryd.func25, Tryd.ntmps25
 go_upto_region 1 with fail
 have B0 := jM (jX (blk_new w (Obj.cells #[.slice A0 l0.length c0, .slice A1 l1.length c1, .slice A2 l2.length c2, .slice A3 l3.length c3, .int .i64 st] 27)) (Obj.cells #[.slice AK K.length cK, .slice AN N.length cN] 49))
 have B1 := jM (blk_new (w.alloc (Obj.cells #[.slice A0 l0.length c0, .slice A1 l1.length c1, .slice A2 l2.length c2, .slice A3 l3.length c3, .int .i64 st] 27)) (Obj.cells #[.slice AK K.length cK, .slice AN N.length cN] 49))
 rw [World.size_alloc] at B1
 have HB := jM (jA (jA (Below.refl w.heap.size w) (Obj.cells #[.slice A0 l0.length c0, .slice A1 l1.length c1, .slice A2 l2.length c2, .slice A3 l3.length c3, .int .i64 st] 27)) (Obj.cells #[.slice AK K.length cK, .slice AN N.length cN] 49))
 generalize (w.alloc (Obj.cells #[.slice A0 l0.length c0, .slice A1 l1.length c1, .slice A2 l2.length c2, .slice A3 l3.length c3, .int .i64 st] 27)).alloc (Obj.cells #[.slice AK K.length cK, .slice AN N.length cN] 49) = w1 at *
 obtain ⟨y0, y1, y2, y3, y4⟩ := five5 B0.out
 have z0 : w1.cell? ⟨w.heap.size + 1, 0, none⟩ = some (.slice AK K.length cK) := jC B1.out 0
 have z1 : w1.cell? ⟨w.heap.size + 1, 1, none⟩ = some (.slice AN N.length cN) := jC B1.out 1
 have h := HH.out
 clear HH
 -- by the symbol: the place q, or none
 by_cases hs : s < 0
 rotate_left
 by_cases h0 : s ≥ (l0.length : Int)
 ·rw [if_neg hs, if_pos h0] at h
  obtain rfl := Option.some.inj h
  have e1 : decide (s < 0) = false := decide_eq_false hs
  have e2 : decide ((l0.length : Int) ≤ s) = true := decide_eq_true h0
  go_wp2_with fail
  go_ret
  exact ⟨rfl, HB.out⟩
 rw [if_neg hs, if_neg h0] at h
 have e1 : decide (s < 0) = false := decide_eq_false hs
 have e2 : decide ((l0.length : Int) ≤ s) = false := decide_eq_false h0
 go_upto_region 6 with fail
 clear e1 e2 hs h0
 generalize s = q at *
 rotate_left
 rw [if_pos hs] at h
 have e1 : decide (s < 0) = true := decide_eq_true hs
 have ew := i64_w (-1 - s)
 have ew2 := i64_w ((l0.length : Int) + wrap64 ((-1) - s))
 go_upto_region 6 with fail
 clear ew ew2 e1
 generalize wrap64 ((l0.length : Int) + (wrap64 ((-1) - s))) = q at *
 all_goals
  unfold goF at h
  by_cases k1 : a < 0
  ·rw [if_pos k1] at h
   obtain rfl := Option.some.inj h
   have f1 : decide (a < 0) = true := decide_eq_true k1
   clear k1
   go_wp2_with fail
   go_ret
   exact ⟨rfl, HB.out⟩
  ·rw [if_neg k1] at h
   have f1 : decide (a < 0) = false := decide_eq_false k1
   by_cases k2 : a ≥ (N.length : Int)
   ·rw [if_pos k2] at h
    obtain rfl := Option.some.inj h
    have f2 : decide ((N.length : Int) ≤ a) = true := decide_eq_true k2
    clear k1 k2
    go_wp2_with fail
    go_ret
    exact ⟨rfl, HB.out⟩
   ·rw [if_neg k2] at h
    have f2 : decide ((N.length : Int) ≤ a) = false := decide_eq_false k2
    by_cases k3 : q < 0
    ·rw [if_pos k3] at h
     obtain rfl := Option.some.inj h
     have f3 : decide (q < 0) = true := decide_eq_true k3
     clear k1 k2 k3
     go_wp2_with fail
     go_ret
     exact ⟨rfl, HB.out⟩
    ·rw [if_neg k3] at h
     have f3 : decide (q < 0) = false := decide_eq_false k3
     have p0 : 0 ≤ a := by omega
     have p1 : a < (N.length : Int) := by omega
     obtain ⟨ad, Ar, cr, rfl, hx, hl, hi⟩ := at_L17 (jB HN.out HB.out) a p0 p1
     generalize rd_L17 N a = row at *
     by_cases k4 : q ≥ (row.length : Int)
     ·rw [if_pos k4] at h
      obtain rfl := Option.some.inj h
      have f4 : decide ((row.length : Int) ≤ q) = true := decide_eq_true k4
      clear k1 k2 k3 k4
      go_wp2_with fail
      go_ret
      exact ⟨rfl, HB.out⟩
     ·rw [if_neg k4] at h
      obtain rfl := Option.some.inj h
      have f4 : decide ((row.length : Int) ≤ q) = false := decide_eq_false k4
      have q0 : 0 ≤ q := by omega
      have q1 : q < (row.length : Int) := by omega
      obtain ⟨ad2, rfl, hx2⟩ := Kd.at_int hi q q0 q1
      clear k1 k2 k3 k4 hi hl
      go_wp2_with fail
      go_ret
      exact ⟨rfl, HB.out⟩
theorem states_Go.calls (A0_0 : Option Addr) (c0_0 : Nat) (l0_0 : List (S82)) (A0_1 : Option Addr) (c0_1 : Nat) (l0_1 : List (S101)) (A0_2 : Option Addr) (c0_2 : Nat) (l0_2 : List ByteArray) (A0_3 : Option Addr) (c0_3 : Nat) (l0_3 : List (S64)) (a0_4 : Int) (A1_0 : Option Addr) (c1_0 : Nat) (l1_0 : List (List (S37))) (A1_1 : Option Addr) (c1_1 : Nat) (l1_1 : List (List Int)) (a2 : Int) (a3 : Int) (r : Int) (w : World) (hr0_0 : Kd.C k82 w A0_0 l0_0.length l0_0) (hc0_0 : l0_0.length ≤ c0_0) (hr0_1 : Kd.C k101 w A0_1 l0_1.length l0_1) (hc0_1 : l0_1.length ≤ c0_1) (hr0_2 : Kd.C Kd.string w A0_2 l0_2.length l0_2) (hc0_2 : l0_2.length ≤ c0_2) (hr0_3 : Kd.C k64 w A0_3 l0_3.length l0_3) (hc0_3 : l0_3.length ≤ c0_3) (hr1_0 : Kd.C (Kd.slice 37 k37) w A1_0 l1_0.length l1_0) (hc1_0 : l1_0.length ≤ c1_0) (hr1_1 : Kd.C (Kd.slice 3 (Kd.int .i64)) w A1_1 l1_1.length l1_1) (hc1_1 : l1_1.length ≤ c1_1) (h : states_Go.f l0_0 l0_1 l0_2 l0_3 a0_4 l1_0 l1_1 a2 a3 = some r) :
  Calls Tryd.prog 25 #[.agg #[.slice A0_0 l0_0.length c0_0, .slice A0_1 l0_1.length c0_1, .slice A0_2 l0_2.length c0_2, .slice A0_3 l0_3.length c0_3, .int .i64 a0_4], .agg #[.slice A1_0 l1_0.length c1_0, .slice A1_1 l1_1.length c1_1], .int .i64 a2, .int .i64 a3] w fun e w' => e = .returned (.int .i64 r) ∧ Below w.heap.size w w' :=
 go_walk A0_0 c0_0 l0_0 A0_1 c0_1 l0_1 A0_2 c0_2 l0_2 A0_3 c0_3 l0_3 a0_4 A1_0 c1_0 l1_0 A1_1 c1_1 l1_1 a2 a3 r w hr1_1 h
def sl14_works.f  : Option (Bool) := (some (([(⟨(⟨#[97]⟩ : ByteArray), (⟨#[]⟩ : ByteArray), false, 0⟩ : S82)] : List (S82)) : List (S82))).bind fun y170 => ((some (([(⟨#[83]⟩ : ByteArray)] : List ByteArray) : List ByteArray)).bind fun y173 => ((some (([(⟨(⟨#[112]⟩ : ByteArray), 0, (([0] : List Int)), 0⟩ : S64)] : List (S64)) : List (S64))).bind fun y179 => ((states_Build.f y170 ([] : List (S101)) y173 y179 0).bind fun bt183 => ((states_Close.f y170 ([] : List (S101)) y173 y179 0 (([(⟨(-1), 0⟩ : S37)] : List (S37)))).bind fun t194 => ((states_Step.f y170 ([] : List (S101)) y173 y179 0 t194 0).bind fun t197 => ((states_Behind.f y170 ([] : List (S101)) y173 y179 0 0 0).bind fun bt200 => (if bt183.2.2 = 0 then (if (bt183.1.length : Int) = 3 then (if (t194.length : Int) = 2 then (if (t197.length : Int) = 1 then (if 0 < (t197.length : Int) then (if (((rd_T37 t197 0).f0) == 0 && (((rd_T37 t197 0).f1) == 1)) = true then (if bt200.2 = true then (if bt200.1 = 0 then ((states_Go.f y170 ([] : List (S101)) y173 y179 0 bt183.1 bt183.2.1 0 0).bind fun t203 => (if t203 = 1 then ((states_Go.f y170 ([] : List (S101)) y173 y179 0 bt183.1 bt183.2.1 0 (-1)).bind fun t204 => (if t204 = 2 then ((states_Go.f y170 ([] : List (S101)) y173 y179 0 bt183.1 bt183.2.1 1 0).bind fun t205 => (some (t205 == (-1)))) else (some false))) else (some false))) else (some false)) else (some false)) else (some false)) else (none)) else (some false)) else (some false)) else (some false)) else (some false))))))))
section
open St
/-! ### told by what can be reckoned -/
def risenC (l : List Itm) : List Itm := riseR l l.length []
theorem risen_c (l : List Itm) : risen l = risenC l := (risen_one (riseR_all l)).symm
def SgC (g : Gr) (c : List Itm) (s : Int) : List Itm := risenC (stepL g (risenC (closedL g c)) s)
theorem Sg_c (g : Gr) : Sg g = SgC g := by
 funext c s
 unfold Sg SgC
 rw [risen_c, risen_c]
theorem built_c (T S : Nat) (g : Gr) : builtL T S g = buildL (SgC g) (symsL T S) 2000 2003 0 [[(-1, 0)]] [] := by
 unfold builtL
 rw [Sg_c]

def e0 : List S82 := [(⟨(⟨#[97]⟩ : ByteArray), (⟨#[]⟩ : ByteArray), false, 0⟩ : S82)]
def e2 : List ByteArray := [(⟨#[83]⟩ : ByteArray)]
def e3 : List S64 := [(⟨(⟨#[112]⟩ : ByteArray), 0, (([0] : List Int)), 0⟩ : S64)]
theorem e_valid : validB e0 [] e2 e3 0 = true := by kernel_rfl
theorem e_okP : e3.all okP = true := by kernel_rfl
theorem e_build : states_Build.f e0 [] e2 e3 0 = some ([[⟨-1, 0⟩], [⟨0, 1⟩], [⟨-1, 1⟩]], [[1, 2], [-1, -1], [-1, -1]], 0) := by
 unfold states_Build.f
 rw [if_pos e_valid, if_pos e_okP, built_c]
 kernel_rfl
theorem e_close : states_Close.f e0 [] e2 e3 0 [⟨-1, 0⟩] = some [⟨-1, 0⟩, ⟨0, 0⟩] := by
 unfold states_Close.f inst_Valid.f states_closed.f
 rw [e_valid, Option.bind_some, if_pos rfl, if_pos ⟨rfl, e_okP, Nat.le_of_ble_eq_true rfl, rfl⟩, risen_c]
 kernel_rfl
theorem e_step : states_Step.f e0 [] e2 e3 0 [⟨-1, 0⟩, ⟨0, 0⟩] 0 = some [⟨0, 1⟩] := by
 unfold states_Step.f inst_Valid.f states_closed.f
 rw [e_valid, Option.bind_some, if_pos rfl, if_pos ⟨rfl, e_okP, Nat.le_of_ble_eq_true rfl, rfl⟩, risen_c, Option.bind_some]
 unfold states_step.f
 rw [e_valid, if_pos ⟨rfl, Nat.le_of_ble_eq_true rfl⟩, risen_c]
 kernel_rfl
theorem C_one {α : Type} {d : Kd α} {W : World} {g t : Nat} {x : α} {c : List Value} (hb : W.heap[g]? = some (.cells c.toArray t (0, 0))) (hK : d.K W x c) : d.C W (some ⟨g, 0, none⟩) 1 [x] := by
 refine ⟨rfl, by decide, fun _ => ⟨⟨g, 0, none⟩, rfl, fun i p hi => ?_⟩⟩
 have h0 : i = 0 := by
  cases i with
  | zero => rfl
  | succ i => simp at hi
 subst h0
 have hp : x = p := by simpa using hi
 subst hp
 refine ⟨c, d.K_len hK, hK, fun j u hu => ?_⟩
 have e : (⟨g, 0, none⟩ : Addr).add (0 * d.sz + j) = ⟨g, j, none⟩ := by
  rw [Nat.zero_mul, Nat.zero_add]
  unfold Addr.add
  simp
  exact fun h => h.symm
 rw [e, jC hb j]
 simpa using hu
/-- The example's grammar in memory. -/
structure Ge (n : Nat) (W : World) : Prop where
 c0 : W.heap[n]? = some (.cells #[.string ⟨#[97]⟩, .string ⟨#[]⟩, .bool false, .int .i64 0] 82 (0, 0))
 c1 : W.heap[n + 1]? = some (.cells #[.string ⟨#[83]⟩] 9 (0, 0))
 c2 : W.heap[n + 1 + 1]? = some (.cells #[.int .i64 0] 29 (0, 0))
 c3 : W.heap[n + 1 + 1 + 1]? = some (.cells #[.string ⟨#[112]⟩, .int .i64 0, .slice (some ⟨n + 1 + 1, 0, none⟩) 1 1, .int .i64 0] 64 (0, 0))
 c4 : W.heap[n + 1 + 1 + 1 + 1]? = some (.cells #[.slice (some ⟨n, 0, none⟩) 1 1, .slice none 0 0, .slice (some ⟨n + 1, 0, none⟩) 1 1, .slice (some ⟨n + 1 + 1 + 1, 0, none⟩) 1 1, .int .i64 0] 27 (0, 0))
abbrev aE (n : Nat) : Value := .agg #[.slice (some ⟨n, 0, none⟩) 1 1, .slice none 0 0, .slice (some ⟨n + 1, 0, none⟩) 1 1, .slice (some ⟨n + 1 + 1 + 1, 0, none⟩) 1 1, .int .i64 0]
theorem Ge.below {n : Nat} {W W1 : World} (h : Ge n W) (hb : Below W.heap.size W W1) : Ge n W1 :=
 ⟨jW h.c0 hb, jW h.c1 hb, jW h.c2 hb, jW h.c3 hb, jW h.c4 hb⟩
theorem Ge.r0 {n : Nat} {W : World} (h : Ge n W) : Kd.C k82 W (some ⟨n, 0, none⟩) e0.length e0 := C_one (c := [.string ⟨#[97]⟩, .string ⟨#[]⟩, .bool false, .int .i64 0]) h.c0 (k82_mk W _)
theorem Ge.r1 {n : Nat} {W : World} (h : Ge n W) : Kd.C Kd.string W (some ⟨n + 1, 0, none⟩) e2.length e2 := C_one (c := [.string ⟨#[83]⟩]) h.c1 rfl
theorem Ge.r3 {n : Nat} {W : World} (h : Ge n W) : Kd.C k64 W (some ⟨n + 1 + 1 + 1, 0, none⟩) e3.length e3 :=
 C_one (c := [.string ⟨#[112]⟩, .int .i64 0, .slice (some ⟨n + 1 + 1, 0, none⟩) 1 1, .int .i64 0]) h.c3 (k64_mk W (⟨⟨#[112]⟩, 0, [0], 0⟩ : S64) (by decide) (C_one (c := [.int .i64 0]) h.c2 rfl))
theorem Ge.start (w : World) : Ge w.heap.size (((((w.alloc (Obj.cells #[.string ⟨#[97]⟩, .string ⟨#[]⟩, .bool false, .int .i64 0] 82)).alloc (Obj.cells #[.string ⟨#[83]⟩] 9)).alloc (Obj.cells #[.int .i64 0] 29)).alloc (Obj.cells #[.string ⟨#[112]⟩, .int .i64 0, .slice (some ⟨w.heap.size + 1 + 1, 0, none⟩) 1 1, .int .i64 0] 64)).alloc (Obj.cells #[.slice (some ⟨w.heap.size, 0, none⟩) 1 1, .slice none 0 0, .slice (some ⟨w.heap.size + 1, 0, none⟩) 1 1, .slice (some ⟨w.heap.size + 1 + 1 + 1, 0, none⟩) 1 1, .int .i64 0] 27)) := by
 have new : ∀ (W : World) (o : Obj) (n : Nat) (r : Option Obj), W.heap.size = n → (W.alloc o).heap[W.heap.size]? = r → (W.alloc o).heap[n]? = r := fun W o n r e h => e ▸ h
 refine ⟨?_, ?_, ?_, ?_, ?_⟩
 ·exact jX (jX (jX (jX (blk_new w _) _) _) _) _
 ·exact jX (jX (jX (new _ _ _ _ (by simp) (blk_new _ _)) _) _) _
 ·exact jX (jX (new _ _ _ _ (by simp) (blk_new _ _)) _) _
 ·exact jX (new _ _ _ _ (by simp) (blk_new _ _)) _
 ·exact new _ _ _ _ (by simp) (blk_new _ _)
def kE : List (List S37) := [[⟨-1, 0⟩], [⟨0, 1⟩], [⟨-1, 1⟩]]
def nE : List (List Int) := [[1, 2], [-1, -1], [-1, -1]]
theorem build_e {n : Nat} {W : World} (h : Ge n W) (hG : GTab W) : Calls Tryd.prog 23 #[aE n] W fun e w' => ∃ A c A' c', e = .returned (.tuple #[.agg #[.slice A 3 c, .slice A' 3 c'], .int .i64 0]) ∧ (3 ≤ c ∧ Kd.C (Kd.slice 37 k37) w' A 3 kE) ∧ (3 ≤ c' ∧ Kd.C (Kd.slice 3 (Kd.int .i64)) w' A' 3 nE) ∧ Below W.heap.size W w' := by
 refine (states_Build.calls _ 1 e0 none 0 [] _ 1 e2 _ 1 e3 0 _ _ _ W hG h.r0 (Nat.le_refl _) (Kd.C_nil _ _) (Nat.le_refl _) h.r1 (Nat.le_refl _) h.r3 (Nat.le_refl _) e_build).mono ?_
 rintro e w' ⟨v0, v1, rfl, h0, h1, hb⟩
 obtain ⟨A, c, rfl, l0, r0⟩ := Kd.S_reads h0
 obtain ⟨A', c', rfl, l1, r1⟩ := Kd.S_reads h1
 exact ⟨A, c, A', c', rfl, ⟨l0, r0⟩, ⟨l1, r1⟩, hb⟩
theorem close_e {n : Nat} {W : World} (h : Ge n W) {A : Option Addr} {c : Nat} (hr : Kd.C k37 W A 1 [⟨-1, 0⟩]) (hc : 1 ≤ c) : Calls Tryd.prog 18 #[aE n, .slice A 1 c] W fun e w' => ∃ A' c', e = .returned (.slice A' 2 c') ∧ (2 ≤ c' ∧ Kd.C k37 w' A' 2 [⟨-1, 0⟩, ⟨0, 0⟩]) ∧ Below W.heap.size W w' := by
 refine (states_Close.calls _ 1 e0 none 0 [] _ 1 e2 _ 1 e3 0 A c [⟨-1, 0⟩] _ W h.r0 (Nat.le_refl _) (Kd.C_nil _ _) (Nat.le_refl _) h.r1 (Nat.le_refl _) h.r3 (Nat.le_refl _) hr hc e_close).mono ?_
 rintro e w' ⟨v0, rfl, h0, hb⟩
 obtain ⟨A', c', rfl, l0, r0⟩ := Kd.R_reads h0
 exact ⟨A', c', rfl, ⟨l0, r0⟩, hb⟩
theorem step_e {n : Nat} {W : World} (h : Ge n W) {A : Option Addr} {c : Nat} (hr : Kd.C k37 W A 2 [⟨-1, 0⟩, ⟨0, 0⟩]) (hc : 2 ≤ c) : Calls Tryd.prog 20 #[aE n, .slice A 2 c, .int .i64 0] W fun e w' => ∃ A' c', e = .returned (.slice A' 1 c') ∧ (1 ≤ c' ∧ Kd.C k37 w' A' 1 [⟨0, 1⟩]) ∧ Below W.heap.size W w' := by
 refine (states_Step.calls _ 1 e0 none 0 [] _ 1 e2 _ 1 e3 0 A c [⟨-1, 0⟩, ⟨0, 0⟩] 0 _ W h.r0 (Nat.le_refl _) (Kd.C_nil _ _) (Nat.le_refl _) h.r1 (Nat.le_refl _) h.r3 (Nat.le_refl _) hr hc e_step).mono ?_
 rintro e w' ⟨v0, rfl, h0, hb⟩
 obtain ⟨A', c', rfl, l0, r0⟩ := Kd.R_reads h0
 exact ⟨A', c', rfl, ⟨l0, r0⟩, hb⟩
theorem behind_e {n : Nat} {W : World} (h : Ge n W) : Calls Tryd.prog 15 #[aE n, .agg #[.int .i64 0, .int .i64 0]] W fun e w' => e = .returned (.tuple #[.int .i64 0, .bool true]) ∧ Below W.heap.size W w' :=
 states_Behind.calls _ 1 e0 none 0 [] _ 1 e2 _ 1 e3 0 0 0 0 true W h.r0 (Nat.le_refl _) (Kd.C_nil _ _) (Nat.le_refl _) h.r1 (Nat.le_refl _) h.r3 (Nat.le_refl _) (by kernel_rfl)
theorem go_e {n : Nat} {W : World} (h : Ge n W) {A A' : Option Addr} {c c' : Nat} (h0 : 3 ≤ c ∧ Kd.C (Kd.slice 37 k37) W A 3 kE) (h1 : 3 ≤ c' ∧ Kd.C (Kd.slice 3 (Kd.int .i64)) W A' 3 nE) (a s q : Int) (hq : states_Go.f e0 [] e2 e3 0 kE nE a s = some q) : Calls Tryd.prog 25 #[aE n, .agg #[.slice A 3 c, .slice A' 3 c'], .int .i64 a, .int .i64 s] W fun e w' => e = .returned (.int .i64 q) ∧ Below W.heap.size W w' :=
 states_Go.calls _ 1 e0 none 0 [] _ 1 e2 _ 1 e3 0 A c kE A' c' nE a s q W h.r0 (Nat.le_refl _) (Kd.C_nil _ _) (Nat.le_refl _) h.r1 (Nat.le_refl _) h.r3 (Nat.le_refl _) h0.2 h0.1 h1.2 h1.1 hq

set_option maxHeartbeats 8000000 in
set_option maxRecDepth 100000 in
theorem works_walk (w : World) (hG : GTab w) : Calls Tryd.prog 12 #[] w fun e w' => e = .returned (.bool true) ∧ Below w.heap.size w w' := by
 have hu82 := Tryd.underlying82
 have hu64 := Tryd.underlying64
 have hu27 := Tryd.underlying27
 have hu49 := Tryd.underlying49
 have hu37 := Tryd.underlying37
 have HG := jM hG
 clear hG
 go_enter Tryd.func12, Tryd.ntmps12
 go_upto_region 2 with fail
 have GE1 := jM (Ge.start w)
 have HB1 := jM (jA (jA (jA (jA (jA (Below.refl w.heap.size w) (Obj.cells #[.string ⟨#[97]⟩, .string ⟨#[]⟩, .bool false, .int .i64 0] 82)) (Obj.cells #[.string ⟨#[83]⟩] 9)) (Obj.cells #[.int .i64 0] 29)) (Obj.cells #[.string ⟨#[112]⟩, .int .i64 0, .slice (some ⟨w.heap.size + 1 + 1, 0, none⟩) 1 1, .int .i64 0] 64)) (Obj.cells #[.slice (some ⟨w.heap.size, 0, none⟩) 1 1, .slice none 0 0, .slice (some ⟨w.heap.size + 1, 0, none⟩) 1 1, .slice (some ⟨w.heap.size + 1 + 1 + 1, 0, none⟩) 1 1, .int .i64 0] 27))
 generalize ((((w.alloc (Obj.cells #[.string ⟨#[97]⟩, .string ⟨#[]⟩, .bool false, .int .i64 0] 82)).alloc (Obj.cells #[.string ⟨#[83]⟩] 9)).alloc (Obj.cells #[.int .i64 0] 29)).alloc (Obj.cells #[.string ⟨#[112]⟩, .int .i64 0, .slice (some ⟨w.heap.size + 1 + 1, 0, none⟩) 1 1, .int .i64 0] 64)).alloc (Obj.cells #[.slice (some ⟨w.heap.size, 0, none⟩) 1 1, .slice none 0 0, .slice (some ⟨w.heap.size + 1, 0, none⟩) 1 1, .slice (some ⟨w.heap.size + 1 + 1 + 1, 0, none⟩) 1 1, .int .i64 0] 27) = W1 at *
 obtain ⟨n, hn⟩ : ∃ n, n = w.heap.size := ⟨_, rfl⟩
 obtain ⟨y0, y1, y2, y3, y4⟩ := five5 GE1.out.c4
 go_upto_region 3 with (go_at_call 23; (with_reducible refine (build_e GE1.out (GTab.below HG.out HB1.out)).mono ?_); rintro e w2 ⟨A, c, A', c', rfl, hk, hn2, hb⟩; have HB2 := jM (jT HB1.out hb); have GE2 := jM (Ge.below GE1.out hb); have HK2 := jM hk; have HN2 := jM hn2; clear hk hn2 hb)
 clear y0 y1 y2 y3 y4
 obtain ⟨g2, hg2⟩ : ∃ g, g = w2.heap.size := ⟨_, rfl⟩
 have BA := jM (hg2 ▸ blk_new w2 (Obj.cells #[.slice A 3 c, .slice A' 3 c'] 49))
 have HA := jA (Below.refl w2.heap.size w2) (Obj.cells #[.slice A 3 c, .slice A' 3 c'] 49)
 have HB3 := jM (jT HB2.out HA)
 have GE3 := jM (Ge.below GE2.out HA)
 have HK3 := jM (And.intro HK2.out.1 (jB HK2.out.2 HA))
 have HN3 := jM (And.intro HN2.out.1 (jB HN2.out.2 HA))
 clear HA HB2 GE2 HK2 HN2 HB1 GE1
 rw [← hg2]
 clear hg2
 generalize w2.alloc (Obj.cells #[.slice A 3 c, .slice A' 3 c'] 49) = w3 at *
 obtain ⟨y0, y1, y2, y3, y4⟩ := five5 GE3.out.c4
 have HA := jA (Below.refl w3.heap.size w3) (Obj.cells #[.int .i64 (-1), .int .i64 0] 37)
 have HCL := jM (close_e (Ge.below GE3.out HA) (C_one (x := (⟨-1, 0⟩ : S37)) (c := [.int .i64 (-1), .int .i64 0]) (blk_new w3 (Obj.cells #[.int .i64 (-1), .int .i64 0] 37)) (k37_mk _ _)) (Nat.le_refl 1))
 have HA3 := jM HA
 clear HA
 go_upto_region 4 with (go_at_call 18; (with_reducible refine HCL.out.mono ?_); rintro e w4 ⟨A4, c4, rfl, h4, hb0⟩; have hb := jT HA3.out hb0; have HB4 := jM (jT HB3.out hb); have GE4 := jM (Ge.below GE3.out hb); have BA4 := jM (jW BA.out hb); have HK4 := jM (And.intro HK3.out.1 (jB HK3.out.2 hb)); have HN4 := jM (And.intro HN3.out.1 (jB HN3.out.2 hb)); have HC4 := jM h4; clear h4 hb hb0)
 clear y0 y1 y2 y3 y4 HCL HA3 HB3 GE3 BA HK3 HN3
 obtain ⟨y0, y1, y2, y3, y4⟩ := five5 GE4.out.c4
 go_upto_region 5 with (go_at_call 20; (with_reducible refine (step_e GE4.out HC4.out.2 HC4.out.1).mono ?_); rintro e w5 ⟨A5, c5, rfl, h5, hb⟩; have HB5 := jM (jT HB4.out hb); have GE5 := jM (Ge.below GE4.out hb); have BA5 := jM (jW BA4.out hb); have HK5 := jM (And.intro HK4.out.1 (jB HK4.out.2 hb)); have HN5 := jM (And.intro HN4.out.1 (jB HN4.out.2 hb)); have HC5 := jM h5; clear h5 hb)
 clear y0 y1 y2 y3 y4 HB4 GE4 BA4 HK4 HN4
 obtain ⟨y0, y1, y2, y3, y4⟩ := five5 GE5.out.c4
 go_upto_region 6 with (go_at_call 15; (with_reducible refine (behind_e GE5.out).mono ?_); rintro e w6 ⟨rfl, hb⟩; have HB6 := jM (jT HB5.out hb); have GE6 := jM (Ge.below GE5.out hb); have BA6 := jM (jW BA5.out hb); have HK6 := jM (And.intro HK5.out.1 (jB HK5.out.2 hb)); have HN6 := jM (And.intro HN5.out.1 (jB HN5.out.2 hb)); have HC6 := jM (jB HC5.out.2 hb); clear hb)
 clear y0 y1 y2 y3 y4 HB5 GE5 BA5 HK5 HN5
 obtain ⟨ad, rfl, x0, x1⟩ := at_T37 HC6.out 0 (by omega) (by omega)
 obtain ⟨y0, y1, y2, y3, y4⟩ := five5 GE6.out.c4
 have z0 := jC BA6.out 0
 have z1 := jC BA6.out 1
 simp only [List.getElem?_toArray, List.getElem?_cons_zero, List.getElem?_cons_succ] at z0 z1
 have x0' : w6.cell? ad = some (.int .i64 0) := by
  have e : ad.add ((0 : Int).toNat * 2) = ad := add_none ad
  rw [e] at x0; exact x0
 have x1' : w6.cell? ⟨ad.block, ad.off + 1, none⟩ = some (.int .i64 1) := by
  have e : ad.add ((0 : Int).toNat * 2) = ad := add_none ad
  rw [e] at x1; exact x1
 clear x0 x1
 go_wp2_with (first
  | (go_at_call 25; (with_reducible refine (go_e GE6.out HK6.out HN6.out 0 0 1 (by kernel_rfl)).mono ?_); rintro e w7 ⟨rfl, hb⟩; have HB7 := jM (jT HB6.out hb); have GE7 := jM (Ge.below GE6.out hb); have BA7 := jM (jW BA6.out hb); have HK7 := jM (And.intro HK6.out.1 (jB HK6.out.2 hb)); have HN7 := jM (And.intro HN6.out.1 (jB HN6.out.2 hb)); clear hb; obtain ⟨p0, p1, p2, p3, p4⟩ := five5 GE7.out.c4; have q0 := jC BA7.out 0; have q1 := jC BA7.out 1; simp only [List.getElem?_toArray, List.getElem?_cons_zero, List.getElem?_cons_succ] at q0 q1)
  | (go_at_call 25; (with_reducible refine (go_e GE7.out HK7.out HN7.out 0 (-1) 2 (by kernel_rfl)).mono ?_); rintro e w8 ⟨rfl, hb⟩; have HB8 := jM (jT HB7.out hb); have GE8 := jM (Ge.below GE7.out hb); have BA8 := jM (jW BA7.out hb); have HK8 := jM (And.intro HK7.out.1 (jB HK7.out.2 hb)); have HN8 := jM (And.intro HN7.out.1 (jB HN7.out.2 hb)); clear hb; obtain ⟨r0, r1, r2, r3, r4⟩ := five5 GE8.out.c4; have t0 := jC BA8.out 0; have t1 := jC BA8.out 1; simp only [List.getElem?_toArray, List.getElem?_cons_zero, List.getElem?_cons_succ] at t0 t1)
  | (go_at_call 25; (with_reducible refine (go_e GE8.out HK8.out HN8.out 1 0 (-1) (by kernel_rfl)).mono ?_); rintro e w9 ⟨rfl, hb⟩; have HB9 := jM (jT HB8.out hb); clear hb))
 go_ret
 exact ⟨rfl, HB9.out⟩
end
theorem sl14_works.calls (r : Bool) (w : World) (hG : GTab w) (hT : r = true) (h : sl14_works.f = some r) :
  Calls Tryd.prog 12 #[] w fun e w' => e = .returned (.bool r) ∧ Below w.heap.size w w' := by
 subst hT
 exact works_walk w hG
end Go.Proofs.YtclollnicbcooaaDoor.P
end

section
namespace Go.Proofs.YtclollnicbcooaaDoor.P
open Go.RowKit Go.Proofs.YtclollnicbcooaaDoorW.PrintWords Go.Proofs.YtclollnicbcooaaDoorW.PrintLast Go.Proofs.YtclollnicbcooaaDoorW.PrintMore
attribute [local go_sem] max2_int min2_int max_two min_two max_three min_three max_four min_four

/-! ### sl14_Row: function 14 -/
def sl14_Row.l0 : Nat → List (S37) → List (S39) → Int → Option ((List (S39)))
 | 0, _, _, _ => none
 | k + 1, x0, x3, x4 => if x4 < (x0.length : Int) then (if 0 ≤ x4 then (if x3.length < 8796093022208 then (sl14_Row.l0 k x0 (x3 ++ [(⟨(rd_T37 x0 x4).f0, (rd_T37 x0 x4).f1⟩ : S39)]) (wrap64 (x4 + 1))) else (none)) else (none)) else (some x3)
def sl14_Row.f (k : Nat) (l0 : List (S37)) : Option ((List (S39))) := sl14_Row.l0 k l0 ([] : List (S39)) 0
def sl14_Row.T5 : Bool × List (List Nat × List Nat) := (true, [([], []), ([], []), ([], []), ([1, 2], [1, 2]), ([3], [3]), ([4], [4]), ([], []), ([], []), ([6, 7], [6, 7]), ([8], [8]), ([9], [9]), ([5, 10], [5, 10]), ([11], [11]), ([0, 12], [0, 12]), ([13, 13, 0, 1, 2, 3, 4, 5, 6, 7, 8, 9, 10, 11, 12, 13], [0, 13])])
def sl14_Row.B5 : List Nat := [0, 0, 0, 6, 14, 30, 0, 0, 192, 448, 960, 2046, 4094, 8191, 16383]
theorem sl14_Row.tab5 : rtab .any (opsOf Tryd.f14 5) = sl14_Row.T5 := by kernel_rfl
theorem sl14_Row.bits5 : waitsOk sl14_Row.T5.2 sl14_Row.B5 = true := by kernel_rfl
set_option maxHeartbeats 8000000 in
set_option maxRecDepth 100000 in
theorem sl14_Row.calls (k : Nat) (A0 : Option Addr) (c0 : Nat) (l0 : List (S37)) (r : List (S39)) (w : World) (hr0 : Kd.C k37 w A0 l0.length l0) (hc0 : l0.length ≤ c0) (h : sl14_Row.f k l0 = some r) :
  Calls Tryd.prog 14 #[.slice A0 l0.length c0] w fun e w' => ∃ v0_ : Value, e = .returned (v0_) ∧ Kd.R k39 39 w' w.heap.size (fun _ => True) v0_ r ∧ Below w.heap.size w w' := by
 have hu39 := Tryd.underlying39
 have HR0 := jM hr0
 have HC0 := jM hc0
 clear hr0 hc0
 have HB := jM (Below.refl w.heap.size w)
 have H : (sl14_Row.l0 k l0 ([] : List (S39)) 0) = some r := h
 clear h
 have H' := jM H
 clear H
 go_enter Tryd.func14, Tryd.ntmps14
 go_wp2
 go_loopg [3, 4] k (fun kq v3 v4 w' => ∃ (x3_1 : List (S39)) (x4_1 : Int), v4 = .int .i64 x4_1 ∧ Aside0 (sl14_Row.l0 kq l0 x3_1 x4_1 = some r) ∧ Aside0 (kq ≤ k) ∧ Aside0 (Kd.R k39 39 w' w.heap.size (fun _ => True) v3 x3_1) ∧ Aside0 (Below w.heap.size w w'))
 case atStart => exact ⟨(([] : List (S39))), (0), tZ, H', ⟨Nat.le_refl _⟩, ⟨by first | exact Kd.R_nil _ _ _ _ _ | exact Kd.N_nil _ _ _ _ _ | exact Kd.V_nil _ _ _ _ _ | exact Kd.Q_nil _ _ _ _ _ | exact Kd.S_nil _ _ _ _ _⟩, ⟨tB HB.out⟩⟩
 case round =>
  clear H'
  try clear c1
  obtain ⟨x3_1, x4_1, rfl, HA, HK1, HO_3, HB⟩ := hrel
  cases gk with
  | zero => exact absurd HA.out (by simp [sl14_Row.l0])
  | succ k1 =>
   have H := HA.out
   clear HA
   simp only [sl14_Row.l0] at H
   by_cases c2 : x4_1 < (l0.length : Int)
   ·rw [if_pos c2] at H
    have c2b0 : decide (x4_1 < (l0.length : Int)) = true := decide_eq_true c2
    clear c2
    by_cases c3 : 0 ≤ x4_1
    ·rw [if_pos c3] at H
     have c3b0 : decide (0 ≤ x4_1) = true := decide_eq_true c3
     clear c3
     by_cases c4 : x3_1.length < 8796093022208
     ·rw [if_pos c4] at H
      have LMc4 := jM c4
      clear c4
      obtain ⟨y210, hy210⟩ : ∃ y_ : List (S39), y_ = (x3_1 ++ [(⟨(rd_T37 l0 x4_1).f0, (rd_T37 l0 x4_1).f1⟩ : S39)]) := ⟨_, rfl⟩
      replace H : (sl14_Row.l0 k1 l0 y210 (wrap64 (x4_1 + 1))) = some r := by first | (rw [hy210]; with_reducible exact H) | (have H2_ := (Option.bind_some _ _).symm.trans H; rw [hy210]; with_reducible exact H2_) | (have H2_ := (Option.bind_some _ _).symm.trans H; with_reducible exact H2_) | with_reducible exact H | (rw [hy210]; exact H) | exact H
      have Ny210 := jM hy210
      clear hy210
      have H' := jM H
      clear H
      try go_wp2
      have n0_ := jM (Kd.R_drew HO_3.out)
      have n1_ := jM (jD HB.out)
      clear HO_3 HB
      have HO_3 := n0_
      have HB := n1_
      clear n0_ n1_
      have p208 : 0 ≤ (x4_1 : Int) := of_decide_eq_true tD
      have q208 : x4_1 < (l0.length : Int) := of_decide_eq_true tD
      obtain ⟨ad208, e208, hx208_0, hx208_1⟩ := at_T37 HR0.out x4_1 p208 q208
      have hw208_1 := hx208_1
      have hw208_0 := hx208_0
      cases e208
      replace hx208_0 := (HB.out.cell (jL w _ hx208_0)).trans hx208_0
      replace hx208_1 := (HB.out.cell (jL w _ hx208_1)).trans hx208_1
      replace p208 := eq_true p208
      replace q208 := eq_true q208
      have p209 : 0 ≤ (x4_1 : Int) := of_decide_eq_true tD
      have q209 : x4_1 < (l0.length : Int) := of_decide_eq_true tD
      obtain ⟨ad209, e209, hx209_0, hx209_1⟩ := at_T37 HR0.out x4_1 p209 q209
      have hw209_1 := hx209_1
      have hw209_0 := hx209_0
      obtain rfl : ad208 = ad209 := (by injection e209)
      replace hx209_0 := (HB.out.cell (jL w _ hx209_0)).trans hx209_0
      replace hx209_1 := (HB.out.cell (jL w _ hx209_1)).trans hx209_1
      replace p209 := eq_true p209
      replace q209 := eq_true q209
      refine start_ (n := 15) (S := fun w' => w'.cell? (ad208.add ((x4_1).toNat * 2)) = some (.int .i64 ((rd_T37 l0 x4_1).f0)) ∧ w'.cell? ⟨(ad208.add ((x4_1).toNat * 2)).block, (ad208.add ((x4_1).toNat * 2)).off + 1, none⟩ = some (.int .i64 ((rd_T37 l0 x4_1).f1)) ∧ w'.cell? (ad208.add ((x4_1).toNat * 2)) = some (.int .i64 ((rd_T37 l0 x4_1).f0)) ∧ w'.cell? ⟨(ad208.add ((x4_1).toNat * 2)).block, (ad208.add ((x4_1).toNat * 2)).off + 1, none⟩ = some (.int .i64 ((rd_T37 l0 x4_1).f1))) (ds := []) (tf 0 15) (by kernel_rfl) rfl rfl ⟨((HB.out.cell (jL w _ hw208_0)).trans hw208_0), ((HB.out.cell (jL w _ hw208_1)).trans hw208_1), ((HB.out.cell (jL w _ hw209_0)).trans hw209_0), ((HB.out.cell (jL w _ hw209_1)).trans hw209_1)⟩ (fun hHeld => ?_); refine with_tabW sl14_Row.tab5 sl14_Row.bits5 (fun HT_ HW_ => ?_)
      generalize wr.drew = w5 at HO_3 HB hx208_0 hx208_1 hx209_0 hx209_1 hHeld ⊢
      refine pU (i:=0) (N:=some 11) (tf 1 14) HT_ ?_
      refine pU (i:=1) (N:=some 12) (tf 2 13) HT_ ?_
      refine pU (i:=2) (N:=some 13) (tf 3 12) HT_ ?_
      refine pU (i:=3) (N:=some 14) (tf 4 11) HT_ ?_
      refine pU (i:=4) (N:=some 15) (tf 5 10) HT_ ?_
      refine pU (i:=6) (N:=some 17) #[true, true, true, true, true, false, true, false, false, false, false, false, false, false, false] HT_ ?_
      refine pU (i:=7) (N:=some 18) #[true, true, true, true, true, false, true, true, false, false, false, false, false, false, false] HT_ ?_
      refine pU (i:=8) (N:=some 19) #[true, true, true, true, true, false, true, true, true, false, false, false, false, false, false] HT_ ?_
      refine pU (i:=9) (N:=some 20) #[true, true, true, true, true, false, true, true, true, true, false, false, false, false, false] HT_ ?_
      refine tU (i:=5) (N:=some 16) (tf 10 5) HT_ HW_ hHeld ?_
      refine tU (i:=10) (N:=some 21) (tf 11 4) HT_ HW_ hHeld ?_
      refine pU (i:=11) (N:=some 22) (tf 12 3) HT_ ?_
      refine one_ (i := 12) (N := some 23) (tf 13 2) rfl rfl (one_of HT_.out (by kernel_rfl)) (by decide) (fun K hK => ?_)
      refine value_ (w1 := ?_) (v := ?_) (by rfl) rfl ?_ ?_
      rotate_left 2
      ·go_simp
       constructor
       ·rfl
       ·rfl
      refine hK.out _ _ ⟨(World.cell?_alloc_lt _ _ _ (jL _ _ (((HB.out.cell (jL w _ hw208_0)).trans hw208_0)))).trans (((HB.out.cell (jL w _ hw208_0)).trans hw208_0)), (World.cell?_alloc_lt _ _ _ (jL _ _ (((HB.out.cell (jL w _ hw208_1)).trans hw208_1)))).trans (((HB.out.cell (jL w _ hw208_1)).trans hw208_1)), (World.cell?_alloc_lt _ _ _ (jL _ _ (((HB.out.cell (jL w _ hw209_0)).trans hw209_0)))).trans (((HB.out.cell (jL w _ hw209_0)).trans hw209_0)), (World.cell?_alloc_lt _ _ _ (jL _ _ (((HB.out.cell (jL w _ hw209_1)).trans hw209_1)))).trans (((HB.out.cell (jL w _ hw209_1)).trans hw209_1))⟩ (fun hHeld => ?_)
      clear hK K
      refine nU (N:=some 23) ?_
      refine one_ (i := 13) (N := some 24) (tf 14 1) rfl rfl (one_of HT_.out (by kernel_rfl)) (by decide) (fun K hK => ?_)
      refine Kd.R_append_step k39 (w0 := w) w.heap.size (by rfl) (.tmp 11) (.tmp 23) 32 39 (.agg #[(.int .i64 0), (.int .i64 0)]) 16 rfl Tryd.underlying32 info39 rfl (by decide) (by omega) u3 x3_1 (⟨(rd_T37 l0 x4_1).f0, (rd_T37 l0 x4_1).f1⟩ : S39) [.int .i64 ((rd_T37 l0 x4_1).f0), .int .i64 ((rd_T37 l0 x4_1).f1)] (fun _ => True) (fun _ => False) rfl rfl ?aP (fun _ hk => hk.elim) ?aF ?aO ?aB ?aS ?aL ?_
      (case aP => exact k39_mkM _ _ _ (⟨(rd_T37 l0 x4_1).f0, (rd_T37 l0 x4_1).f1⟩ : S39))
      (case aB => exact (tB HB.out))
      (case aF => exact (fun _ _ => trivial))
      (case aO => exact (tR HO_3.out))
      (case aS => exact (below_size (tB HB.out)))
      (case aL => have := LMc4.out; omega)
      intro v211 w6 ho hb hg hat
      rw [← Ny210.out] at ho
      have n0_ := jM (hb)
      have n1_ := jM (ho)
      clear HB HO_3
      have HB := n0_
      have HO212 := n1_
      clear n0_ n1_ ho hb hg hat
      refine hK.out _ _ ⟨((HB.out.cell (jL w _ hw208_0)).trans hw208_0), ((HB.out.cell (jL w _ hw208_1)).trans hw208_1), ((HB.out.cell (jL w _ hw209_0)).trans hw209_0), ((HB.out.cell (jL w _ hw209_1)).trans hw209_1)⟩ (fun hHeld => ?_)
      clear hK K
      refine nU (N:=some 24) ?_
      refine pU (i:=14) (N:=some 3) (tf 15 0) HT_ ?_
      refine done_ (done_of HT_.out (by kernel_rfl)) ?_
      try go_wp2
      go_roundg k1
      case measure => have := HK1.out; omega
      case rel => exact ⟨(y210), (wrap64 (x4_1 + 1)), tZ, H', ⟨by have := HK1.out; omega⟩, ⟨tR HO212.out⟩, ⟨tB HB.out⟩⟩
     ·rw [if_neg c4] at H
      exact absurd H (by simp)
    ·rw [if_neg c3] at H
     exact absurd H (by simp)
   ·rw [if_neg c2] at H
    have c2b0 : decide (x4_1 < (l0.length : Int)) = false := decide_eq_false c2
    clear c2
    obtain rfl := Option.some.inj H
    go_wp2
    go_ret
    exact ⟨_, by first | rfl | (simp [errW_none, errW_some] <;> rfl) | (simp [*, errW_none, errW_some] <;> rfl), tR HO_3.out, tB HB.out⟩

/-! ### sr14_Right: function 37 -/
def sr14_Right.f (l0_0 : List (S82)) (l0_1 : List (S101)) (l0_2 : List ByteArray) (l0_3 : List (S64)) (a0_4 : Int) (a1 : Int) : Option (List Int) := if a1 = (-1) then (some (([wrap64 ((-1) - a0_4)] : List Int))) else (if 0 ≤ a1 then (if a1 < (l0_3.length : Int) then (some ((rd_T64 l0_3 a1).f2)) else (none)) else (none))
set_option maxHeartbeats 8000000 in
set_option maxRecDepth 100000 in
theorem sr14_Right.calls (A0_0 : Option Addr) (c0_0 : Nat) (l0_0 : List (S82)) (A0_1 : Option Addr) (c0_1 : Nat) (l0_1 : List (S101)) (A0_2 : Option Addr) (c0_2 : Nat) (l0_2 : List ByteArray) (P0_3_ : Nat → Prop) (A0_3 : Option Addr) (c0_3 : Nat) (l0_3 : List (S64)) (a0_4 : Int) (a1 : Int) (r : List Int) (w : World) (hr0_0 : Kd.C k82 w A0_0 l0_0.length l0_0) (hc0_0 : l0_0.length ≤ c0_0) (hr0_1 : Kd.C k101 w A0_1 l0_1.length l0_1) (hc0_1 : l0_1.length ≤ c0_1) (hr0_2 : Kd.C Kd.string w A0_2 l0_2.length l0_2) (hc0_2 : l0_2.length ≤ c0_2) (hs0_3 : Kd.V k64 64 w w.heap.size (fun k_ => P0_3_ k_) (.slice A0_3 l0_3.length c0_3) l0_3) (h : sr14_Right.f l0_0 l0_1 l0_2 l0_3 a0_4 a1 = some r) :
  Calls Tryd.prog 37 #[.agg #[.slice A0_0 l0_0.length c0_0, .slice A0_1 l0_1.length c0_1, .slice A0_2 l0_2.length c0_2, .slice A0_3 l0_3.length c0_3, .int .i64 a0_4], .int .i64 a1] w fun e w' => ∃ v0_ : Value, e = .returned (v0_) ∧ Kd.V (Kd.int .i64) 29 w' w.heap.size (fun k_ => (P0_3_ k_ ∨ w.heap.size ≤ k_)) v0_ r ∧ Below w.heap.size w w' := by
 have hu27 := Tryd.underlying27
 have HR0_0 := jM hr0_0
 have HC0_0 := jM hc0_0
 clear hr0_0 hc0_0
 have HR0_1 := jM hr0_1
 have HC0_1 := jM hc0_1
 clear hr0_1 hc0_1
 have HR0_2 := jM hr0_2
 have HC0_2 := jM hc0_2
 clear hr0_2 hc0_2
 have HO0_3 := jM (show Kd.V k64 64 w w.heap.size (fun k_ => (P0_3_ k_ ∨ w.heap.size ≤ k_)) (.slice A0_3 l0_3.length c0_3) l0_3 from Kd.V_mono hs0_3 (fun k_ hk => .inl hk))
 have HB := jM (Below.refl w.heap.size w)
 have H : (if a1 = (-1) then (some (([wrap64 ((-1) - a0_4)] : List Int))) else (if 0 ≤ a1 then (if a1 < (l0_3.length : Int) then (some ((rd_T64 l0_3 a1).f2)) else (none)) else (none))) = some r := h
 clear h
 by_cases c3 : a1 = (-1)
 ·rw [if_pos c3] at H
  have c3b0 : (a1 == (-1)) = true := beq_iff_eq.mpr c3
  have c3b1 : (a1 != (-1)) = false := bne_eq_false_iff_eq.mpr c3
  clear c3
  obtain ⟨y214, hy214⟩ : ∃ y_ : List Int, y_ = (([wrap64 ((-1) - a0_4)] : List Int)) := ⟨_, rfl⟩
  replace H : (some y214) = some r := by first | (rw [hy214]; with_reducible exact H) | (have H2_ := (Option.bind_some _ _).symm.trans H; rw [hy214]; with_reducible exact H2_) | (have H2_ := (Option.bind_some _ _).symm.trans H; with_reducible exact H2_) | with_reducible exact H | (rw [hy214]; exact H) | exact H
  have Ny214 := jM hy214
  clear hy214
  obtain rfl := Option.some.inj H
  go_enter Tryd.func37, Tryd.ntmps37
  go_wp2_with (first | ((with_reducible refine gate_dst (N := 2) rfl ?_); refine box_event ?hg (N := 2) ?hd (cs := #[.slice A0_0 l0_0.length c0_0, .slice A0_1 l0_1.length c0_1, .slice A0_2 l0_2.length c0_2, .slice A0_3 l0_3.length c0_3, .int .i64 a0_4]) (t := 27) ?hr ?_; (case hd => rfl); (case hg => rfl); (case hr => first | (go_simp; done) | (go_simp; rfl)); intro gb213 hg w4 hbox hb; have n0_ := jM (Kd.V_below (Kd.V_elderB (by (with_reducible repeat (first | apply jt | apply ju | apply jv)); exact HO0_3.out) gb213 (Nat.le_of_eq hg.symm)) hb); have n1_ := jM (jT (tB HB.out) hb); have n2_ := jM (hbox); have n3_ := jM ((by rw [hg]; exact (below_size (tB HB.out)) : w.heap.size ≤ gb213)); have n4_ := jM ((by rw [hg]; exact (below_size (tB HB.out)) : w.heap.size ≤ gb213)); clear HO0_3; clear HB; have HO0_3 := n0_; have HB := n1_; have BK213 := n2_; have GW213 := n3_; have GE213 := n4_; clear n0_ n1_ n2_ n3_ n4_; clear hb hbox hg; have hcz5_0 : w4.cell? ⟨gb213, 0, none⟩ = some (.slice A0_0 l0_0.length c0_0) := (jC BK213.out 0).trans rfl; have hcz5_1 : w4.cell? ⟨gb213, 1, none⟩ = some (.slice A0_1 l0_1.length c0_1) := (jC BK213.out 1).trans rfl; have hcz5_2 : w4.cell? ⟨gb213, 2, none⟩ = some (.slice A0_2 l0_2.length c0_2) := (jC BK213.out 2).trans rfl; have hcz5_3 : w4.cell? ⟨gb213, 3, none⟩ = some (.slice A0_3 l0_3.length c0_3) := (jC BK213.out 3).trans rfl; have hcz5_4 : w4.cell? ⟨gb213, 4, none⟩ = some (.int .i64 a0_4) := (jC BK213.out 4).trans rfl; have hfz5_0 := jF BK213.out 0; have hfz5_1 := jF BK213.out 1; have hfz5_2 := jF BK213.out 2; have hfz5_3 := jF BK213.out 3; have hfz5_4 := jF BK213.out 4) | ((with_reducible refine gate_dst (N := 10) rfl ?_); refine Kd.R_lit (Kd.int .i64) _ 29 ?hg (N := 10) ?hd (xs := ([wrap64 ((-1) - a0_4)] : List Int)) (inner := [.int .i64 (wrap64 ((-1) - a0_4))]) (ok := fun _ => True) (okp := fun _ => True) ?hr ?hp (fun _ hk => hk) trivial (Below.refl _ _) (Nat.le_refl _) (by simp) ?_; (case hd => rfl); (case hg => rfl); (case hr => first | (go_simp; done) | (go_simp; rfl)); (case hp => exact (Reps.one (show Kd.M (Kd.int .i64) _ _ _ (wrap64 ((-1) - a0_4)) [.int .i64 (wrap64 ((-1) - a0_4))] from rfl) (Reps.none _ _))); intro v215 w6 ho7 hb hg_ hnew_; clear hg_ hnew_; (first | rw [← Ny214.out] at ho7 | (simp only [Int.reduceToNat] at ho7; rw [← Ny214.out] at ho7)); have n0_ := jM (Kd.V_elder' (by (with_reducible repeat (first | apply jt | apply ju | apply jv)); exact HO0_3.out) (Kd.R_base ho7) hb); have n1_ := jM (Kd.R_lower (Kd.R_newM (M := fun k_ => (w.heap.size ≤ k_)) ho7 (below_size (by repeat (first | (with_reducible first | exact HB.out | apply jA | apply jN | apply jD | refine jS ?_ GE213.out) | exact HB.out))) (fun k_ h_ => h_)) (below_size (by repeat (first | (with_reducible first | exact HB.out | apply jA | apply jN | apply jD | refine jS ?_ GE213.out) | exact HB.out)))); have n2_ := jM (jW (g := gb213) (o := .cells #[.slice A0_0 l0_0.length c0_0, .slice A0_1 l0_1.length c0_1, .slice A0_2 l0_2.length c0_2, .slice A0_3 l0_3.length c0_3, .int .i64 a0_4] 27 (0, 0)) (tK BK213.out) hb); have n3_ := jM (jT (by repeat (first | (with_reducible first | exact HB.out | apply jA | apply jN | apply jD | refine jS ?_ GE213.out) | exact HB.out)) hb); clear HO0_3; clear BK213; clear HB; have HO0_3 := n0_; have HO216 := n1_; have BK213 := n2_; have HB := n3_; clear n0_ n1_ n2_ n3_; clear hb ho7))
  go_ret
  exact ⟨_, by first | rfl | (simp [errW_none, errW_some] <;> rfl) | (simp [*, errW_none, errW_some] <;> rfl), Kd.V_mono (Kd.R_V (by (with_reducible repeat (first | apply Kd.R_alloc | apply Kd.R_drewN | apply Kd.R_drew)); exact Kd.R_mono HO216.out (fun _ hk => hk.1))) (fun k_ hk => by first | exact ⟨(.inr (hk.1)), hk.2⟩ | exact (.inr (hk))), by repeat (first | (with_reducible first | exact HB.out | apply jA | apply jN | apply jD | refine jS ?_ GE213.out) | exact HB.out)⟩
 ·rw [if_neg c3] at H
  have c3b0 : (a1 == (-1)) = false := beq_eq_false_iff_ne.mpr c3
  have c3b1 : (a1 != (-1)) = true := bne_iff_ne.mpr c3
  by_cases c8 : 0 ≤ a1
  ·rw [if_pos c8] at H
   have c8b0 : decide (0 ≤ a1) = true := decide_eq_true c8
   clear c8
   by_cases c9 : a1 < (l0_3.length : Int)
   ·rw [if_pos c9] at H
    have c9b0 : decide (a1 < (l0_3.length : Int)) = true := decide_eq_true c9
    clear c9
    obtain rfl := Option.some.inj H
    go_enter Tryd.func37, Tryd.ntmps37
    go_wp2_with (first | ((with_reducible refine gate_dst (N := 2) rfl ?_); refine box_event ?hg (N := 2) ?hd (cs := #[.slice A0_0 l0_0.length c0_0, .slice A0_1 l0_1.length c0_1, .slice A0_2 l0_2.length c0_2, .slice A0_3 l0_3.length c0_3, .int .i64 a0_4]) (t := 27) ?hr ?_; (case hd => rfl); (case hg => rfl); (case hr => first | (go_simp; done) | (go_simp; rfl)); intro gb213 hg w10 hbox hb; have n0_ := jM (Kd.V_below (Kd.V_elderB (by (with_reducible repeat (first | apply jt | apply ju | apply jv)); exact HO0_3.out) gb213 (Nat.le_of_eq hg.symm)) hb); have n1_ := jM (jT (tB HB.out) hb); have n2_ := jM (hbox); have n3_ := jM ((by rw [hg]; exact (below_size (tB HB.out)) : w.heap.size ≤ gb213)); have n4_ := jM ((by rw [hg]; exact (below_size (tB HB.out)) : w.heap.size ≤ gb213)); clear HO0_3; clear HB; have HO0_3 := n0_; have HB := n1_; have BK213 := n2_; have GW213 := n3_; have GE213 := n4_; clear n0_ n1_ n2_ n3_ n4_; clear hb hbox hg; have hcz11_0 : w10.cell? ⟨gb213, 0, none⟩ = some (.slice A0_0 l0_0.length c0_0) := (jC BK213.out 0).trans rfl; have hcz11_1 : w10.cell? ⟨gb213, 1, none⟩ = some (.slice A0_1 l0_1.length c0_1) := (jC BK213.out 1).trans rfl; have hcz11_2 : w10.cell? ⟨gb213, 2, none⟩ = some (.slice A0_2 l0_2.length c0_2) := (jC BK213.out 2).trans rfl; have hcz11_3 : w10.cell? ⟨gb213, 3, none⟩ = some (.slice A0_3 l0_3.length c0_3) := (jC BK213.out 3).trans rfl; have hcz11_4 : w10.cell? ⟨gb213, 4, none⟩ = some (.int .i64 a0_4) := (jC BK213.out 4).trans rfl; have hfz11_0 := jF BK213.out 0; have hfz11_1 := jF BK213.out 1; have hfz11_2 := jF BK213.out 2; have hfz11_3 := jF BK213.out 3; have hfz11_4 := jF BK213.out 4; have p217 : 0 ≤ (a1 : Int) := of_decide_eq_true tD; have q217 : a1 < (l0_3.length : Int) := of_decide_eq_true tD; obtain ⟨ad217, A217_2, c217_2, e217, hx217_0, hx217_1, hx217_2, hx217_3, hl217_2, hi217_2⟩ := at_T64 (Kd.V_reads' HO0_3.out).2.2 a1 p217 q217; cases e217; obtain ⟨ce217, hce217, hMe217, hcc217⟩ := Kd.V_get HO0_3.out z64 a1 p217 (by first | exact q217 | exact of_decide_eq_true tD | (have e_ := (Kd.V_reads' HO0_3.out).1; omega)); obtain ⟨ua217_2, uc217_2, rfl, ul217_2, ge217_2⟩ := k64_openF hMe217; have hv217_2 := hcc217 2 _ rfl; rw [add_field _ _ 2 (by omega)] at hv217_2; replace hv217_2 := Option.some.inj (hv217_2.symm.trans hx217_2); injection hv217_2 with hva_ hvn_ hvc_; rw [hva_] at ge217_2; rw [hvc_] at ul217_2; have HL217_2 := jM (show Kd.V (Kd.int .i64) 29 _ w.heap.size _ _ ((rd_T64 l0_3 a1).f2) from Kd.V_mk ul217_2 ge217_2); clear hva_ hvn_ hvc_ ge217_2 ul217_2; clear hcc217 hce217; have HR217_2 := jM hi217_2; have HC217_2 := jM hl217_2; clear hi217_2 hl217_2; replace p217 := eq_true p217; replace q217 := eq_true q217))
    go_ret
    exact ⟨_, by first | rfl | (simp [errW_none, errW_some] <;> rfl) | (simp [*, errW_none, errW_some] <;> rfl), by (with_reducible repeat (first | apply jt | apply ju | apply jv)); exact Kd.V_mono HL217_2.out (fun _ hk => hk.1), by repeat (first | (with_reducible first | exact HB.out | apply jA | apply jN | apply jD | refine jS ?_ GE213.out) | exact HB.out)⟩
   ·rw [if_neg c9] at H
    exact absurd H (by simp)
  ·rw [if_neg c8] at H
   exact absurd H (by simp)

end Go.Proofs.YtclollnicbcooaaDoor.P
end

section
namespace Go.Proofs.YtclollnicbcooaaDoor.P
open Go.RowKit Go.Proofs.YtclollnicbcooaaDoorW.PrintWords Go.Proofs.YtclollnicbcooaaDoorW.PrintLast Go.Proofs.YtclollnicbcooaaDoorW.PrintMore
attribute [local go_sem] max2_int min2_int max_two min_two max_three min_three max_four min_four

theorem eqA39 (d : Nat) (w : World) (x0 y0 : Int) (x1 y1 : Int) :
  (Op.equalIn (d + 2) 39 (.agg #[.int .i64 x0, .int .i64 x1]) (.agg #[.int .i64 y0, .int .i64 y1])).run Tryd.prog w = .ok (x0 == y0 && (x1 == y1)) w := by
 refine eqA_of Tryd.underlying39 (by kernel_rfl) ?_
 refine eqf_cons (by rfl) (by go_simp; rfl) (by go_simp; rfl) (by go_simp) ?_
 exact eqf_last (by rfl) (by go_simp; rfl) (by go_simp; rfl) (by go_simp)
end Go.Proofs.YtclollnicbcooaaDoor.P
end

section
namespace Go.Proofs.YtclollnicbcooaaDoor.P
open Go.RowKit Go.Proofs.YtclollnicbcooaaDoorW.PrintWords Go.Proofs.YtclollnicbcooaaDoorW.PrintLast Go.Proofs.YtclollnicbcooaaDoorW.PrintMore
attribute [local go_sem] max2_int min2_int max_two min_two max_three min_three max_four min_four

attribute [local go_sem high] eqA39
/-! ### sr14_Row: function 17 -/
def sr14_Row.l0 : Nat → List (S39) → List (S39) → Int → Option (Bool)
 | 0, _, _, _ => none
 | k + 1, x0, x1, x5 => if x5 < (x0.length : Int) then (if 0 ≤ x5 then (if x5 < (x1.length : Int) then (if (!(((rd_T39 x0 x5).f0) == ((rd_T39 x1 x5).f0)) || (!(((rd_T39 x0 x5).f1) == ((rd_T39 x1 x5).f1)))) = true then (some false) else (sr14_Row.l0 k x0 x1 (wrap64 (x5 + 1)))) else (none)) else (none)) else (some true)
def sr14_Row.f (k : Nat) (l0 : List (S39)) (l1 : List (S39)) : Option (Bool) := if (l0.length : Int) = (l1.length : Int) then (sr14_Row.l0 k l0 l1 0) else (some false)
set_option maxHeartbeats 8000000 in
set_option maxRecDepth 100000 in
theorem sr14_Row.calls (k : Nat) (A0 : Option Addr) (c0 : Nat) (l0 : List (S39)) (A1 : Option Addr) (c1 : Nat) (l1 : List (S39)) (r : Bool) (w : World) (hr0 : Kd.C k39 w A0 l0.length l0) (hc0 : l0.length ≤ c0) (hr1 : Kd.C k39 w A1 l1.length l1) (hc1 : l1.length ≤ c1) (h : sr14_Row.f k l0 l1 = some r) :
  Calls Tryd.prog 17 #[.slice A0 l0.length c0, .slice A1 l1.length c1] w fun e w' => e = .returned (.bool r) ∧ Drawn0 w w' := by
 have hu39 := Tryd.underlying39
 have HR0 := jM hr0
 have HC0 := jM hc0
 clear hr0 hc0
 have HR1 := jM hr1
 have HC1 := jM hc1
 clear hr1 hc1
 have H : (if (l0.length : Int) = (l1.length : Int) then (sr14_Row.l0 k l0 l1 0) else (some false)) = some r := h
 clear h
 by_cases c3 : (l0.length : Int) = (l1.length : Int)
 ·rw [if_pos c3] at H
  have c3b0 : ((l0.length : Int) == (l1.length : Int)) = true := beq_iff_eq.mpr c3
  have c3b1 : ((l0.length : Int) != (l1.length : Int)) = false := bne_eq_false_iff_eq.mpr c3
  have c3b2 : (l0.length == l1.length) = true := by first | simpa using c3 | (simp at c3 ⊢; omega)
  clear c3
  have H' := jM H
  clear H
  go_enter Tryd.func17, Tryd.ntmps17
  go_wp2
  repeat (go_quiet (fail); try go_wp2)
  go_loopg [5] k (fun kq v5 w' => ∃ (x5_1 : Int), v5 = .int .i64 x5_1 ∧ Aside0 (sr14_Row.l0 kq l0 l1 x5_1 = some r) ∧ Aside0 (kq ≤ k) ∧ Drawn0 w w')
  case atStart => exact ⟨(0), tZ, H', ⟨Nat.le_refl _⟩, by repeat (first | exact Drawn0.refl _ | apply Drawn0.step)⟩
  case round =>
   clear H'
   try clear c1
   try clear p2
   try clear c3
   try clear c3b0
   try clear c3b1
   try clear c3b2
   obtain ⟨x5_1, rfl, HA, HK1, ⟨m1, rfl⟩⟩ := hrel
   cases gk with
   | zero => exact absurd HA.out (by simp [sr14_Row.l0])
   | succ k1 =>
    have H := HA.out
    clear HA
    simp only [sr14_Row.l0] at H
    by_cases c4 : x5_1 < (l0.length : Int)
    ·rw [if_pos c4] at H
     have c4b0 : decide (x5_1 < (l0.length : Int)) = true := decide_eq_true c4
     clear c4
     by_cases c5 : 0 ≤ x5_1
     ·rw [if_pos c5] at H
      have c5b0 : decide (0 ≤ x5_1) = true := decide_eq_true c5
      clear c5
      by_cases c6 : x5_1 < (l1.length : Int)
      ·rw [if_pos c6] at H
       have c6b0 : decide (x5_1 < (l1.length : Int)) = true := decide_eq_true c6
       clear c6
       by_cases c7 : (!(((rd_T39 l0 x5_1).f0) == ((rd_T39 l1 x5_1).f0)) || (!(((rd_T39 l0 x5_1).f1) == ((rd_T39 l1 x5_1).f1)))) = true
       ·rw [if_pos c7] at H
        have c7b0 : (!(((rd_T39 l0 x5_1).f0) == ((rd_T39 l1 x5_1).f0)) || (!(((rd_T39 l0 x5_1).f1) == ((rd_T39 l1 x5_1).f1)))) = true := c7
        clear c7
        obtain rfl := Option.some.inj H
        have p234 : 0 ≤ (x5_1 : Int) := of_decide_eq_true tD
        have q234 : x5_1 < (l0.length : Int) := of_decide_eq_true tD
        obtain ⟨ad234, e234, hx234_0, hx234_1⟩ := at_T39 HR0.out x5_1 p234 q234
        cases e234
        replace p234 := eq_true p234
        replace q234 := eq_true q234
        have p235 : 0 ≤ (x5_1 : Int) := of_decide_eq_true tD
        have q235 : x5_1 < (l1.length : Int) := of_decide_eq_true tD
        obtain ⟨ad235, e235, hx235_0, hx235_1⟩ := at_T39 HR1.out x5_1 p235 q235
        cases e235
        replace p235 := eq_true p235
        replace q235 := eq_true q235
        go_wp2
        repeat (go_quiet (fail); try go_wp2)
        go_ret
        exact ⟨by first | rfl | (simp; done) | (simp [*]; done), by repeat (first | exact Drawn0.refl _ | apply Drawn0.step)⟩
       ·rw [if_neg c7] at H
        have c7b0 : (!(((rd_T39 l0 x5_1).f0) == ((rd_T39 l1 x5_1).f0)) || (!(((rd_T39 l0 x5_1).f1) == ((rd_T39 l1 x5_1).f1)))) = false := by simpa using c7
        clear c7
        have H' := jM H
        clear H
        have p234 : 0 ≤ (x5_1 : Int) := of_decide_eq_true tD
        have q234 : x5_1 < (l0.length : Int) := of_decide_eq_true tD
        obtain ⟨ad234, e234, hx234_0, hx234_1⟩ := at_T39 HR0.out x5_1 p234 q234
        cases e234
        replace p234 := eq_true p234
        replace q234 := eq_true q234
        have p235 : 0 ≤ (x5_1 : Int) := of_decide_eq_true tD
        have q235 : x5_1 < (l1.length : Int) := of_decide_eq_true tD
        obtain ⟨ad235, e235, hx235_0, hx235_1⟩ := at_T39 HR1.out x5_1 p235 q235
        cases e235
        replace p235 := eq_true p235
        replace q235 := eq_true q235
        go_wp2
        repeat (go_quiet (fail); try go_wp2)
        go_roundg k1
        case measure => have := HK1.out; omega
        case rel => exact ⟨(wrap64 (x5_1 + 1)), tZ, H', ⟨by have := HK1.out; omega⟩, by repeat (first | exact Drawn0.refl _ | apply Drawn0.step)⟩
      ·rw [if_neg c6] at H
       exact absurd H (by simp)
     ·rw [if_neg c5] at H
      exact absurd H (by simp)
    ·rw [if_neg c4] at H
     have c4b0 : decide (x5_1 < (l0.length : Int)) = false := decide_eq_false c4
     clear c4
     obtain rfl := Option.some.inj H
     go_wp2
     repeat (go_quiet (fail); try go_wp2)
     go_ret
     exact ⟨by first | rfl | (simp; done) | (simp [*]; done), by repeat (first | exact Drawn0.refl _ | apply Drawn0.step)⟩
 ·rw [if_neg c3] at H
  have c3b0 : ((l0.length : Int) == (l1.length : Int)) = false := beq_eq_false_iff_ne.mpr c3
  have c3b1 : ((l0.length : Int) != (l1.length : Int)) = true := bne_iff_ne.mpr c3
  have c3b2 : (l0.length == l1.length) = false := by first | simpa using c3 | (simp at c3 ⊢; omega)
  obtain rfl := Option.some.inj H
  go_enter Tryd.func17, Tryd.ntmps17
  go_wp2
  repeat (go_quiet (fail); try go_wp2)
  go_ret
  exact ⟨by first | rfl | (simp; done) | (simp [*]; done), by repeat (first | exact Drawn0.refl _ | apply Drawn0.step)⟩

/-! ### sr14_has: function 39 -/
def sr14_has.l0 : Nat → List (S39) → Int → Int → Int → Option (Bool)
 | 0, _, _, _, _ => none
 | k + 1, x0, x5, xA, xB => if x5 < (x0.length : Int) then (if 0 ≤ x5 then (if (((rd_T39 x0 x5).f0) == xA && (((rd_T39 x0 x5).f1) == xB)) = true then (some true) else (sr14_has.l0 k x0 (wrap64 (x5 + 1)) xA xB)) else (none)) else (some false)
def sr14_has.f (k : Nat) (l0 : List (S39)) (a1_0 : Int) (a1_1 : Int) : Option (Bool) := sr14_has.l0 k l0 0 a1_0 a1_1
set_option maxHeartbeats 8000000 in
set_option maxRecDepth 100000 in
theorem sr14_has.calls (k : Nat) (A0 : Option Addr) (c0 : Nat) (l0 : List (S39)) (a1_0 : Int) (a1_1 : Int) (r : Bool) (w : World) (hr0 : Kd.C k39 w A0 l0.length l0) (hc0 : l0.length ≤ c0) (h : sr14_has.f k l0 a1_0 a1_1 = some r) :
  Calls Tryd.prog 39 #[.slice A0 l0.length c0, .agg #[.int .i64 a1_0, .int .i64 a1_1]] w fun e w' => e = .returned (.bool r) ∧ Below w.heap.size w w' := by
 have hu39 := Tryd.underlying39
 have HR0 := jM hr0
 have HC0 := jM hc0
 clear hr0 hc0
 have HB := jM (Below.refl w.heap.size w)
 have H : (sr14_has.l0 k l0 0 a1_0 a1_1) = some r := h
 clear h
 have H' := jM H
 clear H
 go_enter Tryd.func39, Tryd.ntmps39
 go_wp2_with (first | ((with_reducible refine gate_dst (N := 3) rfl ?_); refine box_event ?hg (N := 3) ?hd (cs := #[.int .i64 a1_0, .int .i64 a1_1]) (t := 39) ?hr ?_; (case hd => rfl); (case hg => rfl); (case hr => first | (go_simp; done) | (go_simp; rfl)); intro gb236 hg w3 hbox hb; have n0_ := jM (jT (tB HB.out) hb); have n1_ := jM (hbox); have n2_ := jM ((by rw [hg]; exact (below_size (tB HB.out)) : w.heap.size ≤ gb236)); have n3_ := jM ((by rw [hg]; exact (below_size (tB HB.out)) : w.heap.size ≤ gb236)); clear HB; have HB := n0_; have BK236 := n1_; have GW236 := n2_; have GE236 := n3_; clear n0_ n1_ n2_ n3_; clear hb hbox hg))
 repeat (go_quiet (first | ((with_reducible refine gate_dst (N := 3) rfl ?_); refine box_event ?hg (N := 3) ?hd (cs := #[.int .i64 a1_0, .int .i64 a1_1]) (t := 39) ?hr ?_; (case hd => rfl); (case hg => rfl); (case hr => first | (go_simp; done) | (go_simp; rfl)); intro gb236 hg w3 hbox hb; have n0_ := jM (jT (tB HB.out) hb); have n1_ := jM (hbox); have n2_ := jM ((by rw [hg]; exact (below_size (tB HB.out)) : w.heap.size ≤ gb236)); have n3_ := jM ((by rw [hg]; exact (below_size (tB HB.out)) : w.heap.size ≤ gb236)); clear HB; have HB := n0_; have BK236 := n1_; have GW236 := n2_; have GE236 := n3_; clear n0_ n1_ n2_ n3_; clear hb hbox hg)); try go_wp2_with (first | ((with_reducible refine gate_dst (N := 3) rfl ?_); refine box_event ?hg (N := 3) ?hd (cs := #[.int .i64 a1_0, .int .i64 a1_1]) (t := 39) ?hr ?_; (case hd => rfl); (case hg => rfl); (case hr => first | (go_simp; done) | (go_simp; rfl)); intro gb236 hg w3 hbox hb; have n0_ := jM (jT (tB HB.out) hb); have n1_ := jM (hbox); have n2_ := jM ((by rw [hg]; exact (below_size (tB HB.out)) : w.heap.size ≤ gb236)); have n3_ := jM ((by rw [hg]; exact (below_size (tB HB.out)) : w.heap.size ≤ gb236)); clear HB; have HB := n0_; have BK236 := n1_; have GW236 := n2_; have GE236 := n3_; clear n0_ n1_ n2_ n3_; clear hb hbox hg)))
 go_loopg [5] k (fun kq v5 w' => ∃ (x5_1 : Int), v5 = .int .i64 x5_1 ∧ Aside0 (sr14_has.l0 kq l0 x5_1 a1_0 a1_1 = some r) ∧ Aside0 (kq ≤ k) ∧ Aside0 (w'.heap[gb236]? = some (.cells #[.int .i64 a1_0, .int .i64 a1_1] 39 (0, 0))) ∧ Aside0 (Below w.heap.size w w'))
 case atStart => exact ⟨(0), tZ, H', ⟨Nat.le_refl _⟩, ⟨tK BK236.out⟩, ⟨by repeat (first | (with_reducible first | exact HB.out | apply jA | apply jN | apply jD | refine jS ?_ GE236.out) | exact HB.out)⟩⟩
 case round =>
  clear H'
  try clear p2
  try clear c3
  obtain ⟨x5_1, rfl, HA, HK1, BK236, HB⟩ := hrel
  cases gk with
  | zero => exact absurd HA.out (by simp [sr14_has.l0])
  | succ k1 =>
   have H := HA.out
   clear HA
   simp only [sr14_has.l0] at H
   by_cases c4 : x5_1 < (l0.length : Int)
   ·rw [if_pos c4] at H
    have c4b0 : decide (x5_1 < (l0.length : Int)) = true := decide_eq_true c4
    clear c4
    by_cases c5 : 0 ≤ x5_1
    ·rw [if_pos c5] at H
     have c5b0 : decide (0 ≤ x5_1) = true := decide_eq_true c5
     clear c5
     by_cases c6 : (((rd_T39 l0 x5_1).f0) == a1_0 && (((rd_T39 l0 x5_1).f1) == a1_1)) = true
     ·rw [if_pos c6] at H
      have c6b0 : (((rd_T39 l0 x5_1).f0) == a1_0 && (((rd_T39 l0 x5_1).f1) == a1_1)) = true := c6
      (try (have c6b1 : decide (((rd_T39 l0 x5_1).f0) = a1_0 && (((rd_T39 l0 x5_1).f1) == a1_1)) = true := by simpa using c6))
      (try (have c6b2 : (((rd_T39 l0 x5_1).f0) == a1_0 && (((rd_T39 l0 x5_1).f1) == a1_1)) = true := by simpa using c6))
      clear c6
      obtain rfl := Option.some.inj H
      have p237 : 0 ≤ (x5_1 : Int) := of_decide_eq_true tD
      have q237 : x5_1 < (l0.length : Int) := of_decide_eq_true tD
      obtain ⟨ad237, e237, hx237_0, hx237_1⟩ := at_T39 HR0.out x5_1 p237 q237
      cases e237
      replace hx237_0 := (HB.out.cell (jL w _ hx237_0)).trans hx237_0
      replace hx237_1 := (HB.out.cell (jL w _ hx237_1)).trans hx237_1
      replace p237 := eq_true p237
      replace q237 := eq_true q237
      have hcz7_0 : wr.cell? ⟨gb236, 0, none⟩ = some (.int .i64 a1_0) := (jC BK236.out 0).trans rfl
      have hcz7_1 : wr.cell? ⟨gb236, 1, none⟩ = some (.int .i64 a1_1) := (jC BK236.out 1).trans rfl
      have hfz7_0 := jF BK236.out 0
      have hfz7_1 := jF BK236.out 1
      go_wp2
      repeat (go_quiet (fail); try go_wp2)
      go_ret
      exact ⟨by first | rfl | (simp [errW_none, errW_some] <;> rfl) | (simp [*, errW_none, errW_some] <;> rfl), by repeat (first | (with_reducible first | exact HB.out | apply jA | apply jN | apply jD | refine jS ?_ GE236.out) | exact HB.out)⟩
     ·rw [if_neg c6] at H
      have c6b0 : (((rd_T39 l0 x5_1).f0) == a1_0 && (((rd_T39 l0 x5_1).f1) == a1_1)) = false := by simpa using c6
      (try (have c6b1 : decide (((rd_T39 l0 x5_1).f0) = a1_0 && (((rd_T39 l0 x5_1).f1) == a1_1)) = false := by simpa using c6))
      (try (have c6b2 : (((rd_T39 l0 x5_1).f0) == a1_0 && (((rd_T39 l0 x5_1).f1) == a1_1)) = false := by simpa using c6))
      (try (have c6b3 : ¬ (((rd_T39 l0 x5_1).f0) = a1_0 && (((rd_T39 l0 x5_1).f1) == a1_1)) := by simpa using c6))
      clear c6
      have H' := jM H
      clear H
      have p237 : 0 ≤ (x5_1 : Int) := of_decide_eq_true tD
      have q237 : x5_1 < (l0.length : Int) := of_decide_eq_true tD
      obtain ⟨ad237, e237, hx237_0, hx237_1⟩ := at_T39 HR0.out x5_1 p237 q237
      cases e237
      replace hx237_0 := (HB.out.cell (jL w _ hx237_0)).trans hx237_0
      replace hx237_1 := (HB.out.cell (jL w _ hx237_1)).trans hx237_1
      replace p237 := eq_true p237
      replace q237 := eq_true q237
      have hcz8_0 : wr.cell? ⟨gb236, 0, none⟩ = some (.int .i64 a1_0) := (jC BK236.out 0).trans rfl
      have hcz8_1 : wr.cell? ⟨gb236, 1, none⟩ = some (.int .i64 a1_1) := (jC BK236.out 1).trans rfl
      have hfz8_0 := jF BK236.out 0
      have hfz8_1 := jF BK236.out 1
      go_wp2
      repeat (go_quiet (fail); try go_wp2)
      go_roundg k1
      case measure => have := HK1.out; omega
      case rel => exact ⟨(wrap64 (x5_1 + 1)), tZ, H', ⟨by have := HK1.out; omega⟩, ⟨tK BK236.out⟩, ⟨by repeat (first | (with_reducible first | exact HB.out | apply jA | apply jN | apply jD | refine jS ?_ GE236.out) | exact HB.out)⟩⟩
    ·rw [if_neg c5] at H
     exact absurd H (by simp)
   ·rw [if_neg c4] at H
    have c4b0 : decide (x5_1 < (l0.length : Int)) = false := decide_eq_false c4
    clear c4
    obtain rfl := Option.some.inj H
    go_wp2
    repeat (go_quiet (fail); try go_wp2)
    go_ret
    exact ⟨by first | rfl | (simp [errW_none, errW_some] <;> rfl) | (simp [*, errW_none, errW_some] <;> rfl), by repeat (first | (with_reducible first | exact HB.out | apply jA | apply jN | apply jD | refine jS ?_ GE236.out) | exact HB.out)⟩

/-! ### sr14_less: function 69 -/
def sr14_less.f (a0_0 : Int) (a0_1 : Int) (a1_0 : Int) (a1_1 : Int) : Option (Bool) := if a0_0 < a1_0 then (some true) else (if a0_0 = a1_0 then (some (decide (a0_1 < a1_1))) else (some false))
set_option maxHeartbeats 8000000 in
set_option maxRecDepth 100000 in
theorem sr14_less.calls (a0_0 : Int) (a0_1 : Int) (a1_0 : Int) (a1_1 : Int) (r : Bool) (w : World) (h : sr14_less.f a0_0 a0_1 a1_0 a1_1 = some r) :
  Calls Tryd.prog 69 #[.agg #[.int .i64 a0_0, .int .i64 a0_1], .agg #[.int .i64 a1_0, .int .i64 a1_1]] w fun e w' => e = .returned (.bool r) ∧ Below w.heap.size w w' := by
 have hu39 := Tryd.underlying39
 have HB := jM (Below.refl w.heap.size w)
 have H : (if a0_0 < a1_0 then (some true) else (if a0_0 = a1_0 then (some (decide (a0_1 < a1_1))) else (some false))) = some r := h
 clear h
 by_cases c3 : a0_0 < a1_0
 ·rw [if_pos c3] at H
  have c3b0 : decide (a0_0 < a1_0) = true := decide_eq_true c3
  clear c3
  obtain rfl := Option.some.inj H
  go_enter Tryd.func69, Tryd.ntmps69
  go_wp2_with (first | ((with_reducible refine gate_dst (N := 2) rfl ?_); refine box_event ?hg (N := 2) ?hd (cs := #[.int .i64 a0_0, .int .i64 a0_1]) (t := 39) ?hr ?_; (case hd => rfl); (case hg => rfl); (case hr => first | (go_simp; done) | (go_simp; rfl)); intro gb238 hg w4 hbox hb; have n0_ := jM (jT (tB HB.out) hb); have n1_ := jM (hbox); have n2_ := jM ((by rw [hg]; exact (below_size (tB HB.out)) : w.heap.size ≤ gb238)); have n3_ := jM ((by rw [hg]; exact (below_size (tB HB.out)) : w.heap.size ≤ gb238)); clear HB; have HB := n0_; have BK238 := n1_; have GW238 := n2_; have GE238 := n3_; clear n0_ n1_ n2_ n3_; clear hb hbox hg) | ((with_reducible refine gate_dst (N := 3) rfl ?_); refine box_event ?hg (N := 3) ?hd (cs := #[.int .i64 a1_0, .int .i64 a1_1]) (t := 39) ?hr ?_; (case hd => rfl); (case hg => rfl); (case hr => first | (go_simp; done) | (go_simp; rfl)); intro gb239 hg w5 hbox hb; have n0_ := jM (jW (g := gb238) (o := .cells #[.int .i64 a0_0, .int .i64 a0_1] 39 (0, 0)) (tK BK238.out) hb); have n1_ := jM (jT (by repeat (first | (with_reducible first | exact HB.out | apply jA | apply jN | apply jD | refine jS ?_ GE238.out) | exact HB.out)) hb); have n2_ := jM (hbox); have n3_ := jM ((by rw [hg]; exact (below_size (by repeat (first | (with_reducible first | exact HB.out | apply jA | apply jN | apply jD | refine jS ?_ GE238.out) | exact HB.out))) : w.heap.size ≤ gb239)); have n4_ := jM ((by rw [hg]; exact (below_size (by repeat (first | (with_reducible first | exact HB.out | apply jA | apply jN | apply jD | refine jS ?_ GE238.out) | exact HB.out))) : w.heap.size ≤ gb239)); have n5_ := jM ((by rw [hg]; exact Nat.ne_of_lt (blk_lt (g := gb238) (o := .cells #[.int .i64 a0_0, .int .i64 a0_1] 39 (0, 0)) (tK BK238.out)) : gb238 ≠ gb239)); have n6_ := jM ((by rw [hg]; exact Nat.ne_of_gt (blk_lt (g := gb238) (o := .cells #[.int .i64 a0_0, .int .i64 a0_1] 39 (0, 0)) (tK BK238.out)) : gb239 ≠ gb238)); clear BK238; clear HB; have BK238 := n0_; have HB := n1_; have BK239 := n2_; have GW239 := n3_; have GE239 := n4_; have NB238_239 := n5_; have NB239_238 := n6_; clear n0_ n1_ n2_ n3_ n4_ n5_ n6_; clear hb hbox hg; have hnb6 := NB238_239.out; have hnc6 := NB239_238.out; have hcz7_0 : w5.cell? ⟨gb238, 0, none⟩ = some (.int .i64 a0_0) := (jC BK238.out 0).trans rfl; have hcz7_1 : w5.cell? ⟨gb238, 1, none⟩ = some (.int .i64 a0_1) := (jC BK238.out 1).trans rfl; have hfz7_0 := jF BK238.out 0; have hfz7_1 := jF BK238.out 1; have hcz8_0 : w5.cell? ⟨gb239, 0, none⟩ = some (.int .i64 a1_0) := (jC BK239.out 0).trans rfl; have hcz8_1 : w5.cell? ⟨gb239, 1, none⟩ = some (.int .i64 a1_1) := (jC BK239.out 1).trans rfl; have hfz8_0 := jF BK239.out 0; have hfz8_1 := jF BK239.out 1))
  go_ret
  exact ⟨by first | rfl | (simp [errW_none, errW_some] <;> rfl) | (simp [*, errW_none, errW_some] <;> rfl), by repeat (first | (with_reducible first | exact HB.out | apply jA | apply jN | apply jD | refine jS ?_ GE238.out | refine jS ?_ GE239.out) | exact HB.out)⟩
 ·rw [if_neg c3] at H
  have c3b0 : decide (a0_0 < a1_0) = false := decide_eq_false c3
  clear c3
  by_cases c9 : a0_0 = a1_0
  ·rw [if_pos c9] at H
   have c9b0 : (a0_0 == a1_0) = true := beq_iff_eq.mpr c9
   have c9b1 : (a0_0 != a1_0) = false := bne_eq_false_iff_eq.mpr c9
   clear c9
   obtain rfl := Option.some.inj H
   go_enter Tryd.func69, Tryd.ntmps69
   go_wp2_with (first | ((with_reducible refine gate_dst (N := 2) rfl ?_); refine box_event ?hg (N := 2) ?hd (cs := #[.int .i64 a0_0, .int .i64 a0_1]) (t := 39) ?hr ?_; (case hd => rfl); (case hg => rfl); (case hr => first | (go_simp; done) | (go_simp; rfl)); intro gb238 hg w10 hbox hb; have n0_ := jM (jT (tB HB.out) hb); have n1_ := jM (hbox); have n2_ := jM ((by rw [hg]; exact (below_size (tB HB.out)) : w.heap.size ≤ gb238)); have n3_ := jM ((by rw [hg]; exact (below_size (tB HB.out)) : w.heap.size ≤ gb238)); clear HB; have HB := n0_; have BK238 := n1_; have GW238 := n2_; have GE238 := n3_; clear n0_ n1_ n2_ n3_; clear hb hbox hg) | ((with_reducible refine gate_dst (N := 3) rfl ?_); refine box_event ?hg (N := 3) ?hd (cs := #[.int .i64 a1_0, .int .i64 a1_1]) (t := 39) ?hr ?_; (case hd => rfl); (case hg => rfl); (case hr => first | (go_simp; done) | (go_simp; rfl)); intro gb239 hg w11 hbox hb; have n0_ := jM (jW (g := gb238) (o := .cells #[.int .i64 a0_0, .int .i64 a0_1] 39 (0, 0)) (tK BK238.out) hb); have n1_ := jM (jT (by repeat (first | (with_reducible first | exact HB.out | apply jA | apply jN | apply jD | refine jS ?_ GE238.out) | exact HB.out)) hb); have n2_ := jM (hbox); have n3_ := jM ((by rw [hg]; exact (below_size (by repeat (first | (with_reducible first | exact HB.out | apply jA | apply jN | apply jD | refine jS ?_ GE238.out) | exact HB.out))) : w.heap.size ≤ gb239)); have n4_ := jM ((by rw [hg]; exact (below_size (by repeat (first | (with_reducible first | exact HB.out | apply jA | apply jN | apply jD | refine jS ?_ GE238.out) | exact HB.out))) : w.heap.size ≤ gb239)); have n5_ := jM ((by rw [hg]; exact Nat.ne_of_lt (blk_lt (g := gb238) (o := .cells #[.int .i64 a0_0, .int .i64 a0_1] 39 (0, 0)) (tK BK238.out)) : gb238 ≠ gb239)); have n6_ := jM ((by rw [hg]; exact Nat.ne_of_gt (blk_lt (g := gb238) (o := .cells #[.int .i64 a0_0, .int .i64 a0_1] 39 (0, 0)) (tK BK238.out)) : gb239 ≠ gb238)); clear BK238; clear HB; have BK238 := n0_; have HB := n1_; have BK239 := n2_; have GW239 := n3_; have GE239 := n4_; have NB238_239 := n5_; have NB239_238 := n6_; clear n0_ n1_ n2_ n3_ n4_ n5_ n6_; clear hb hbox hg; have hnb12 := NB238_239.out; have hnc12 := NB239_238.out; have hcz13_0 : w11.cell? ⟨gb238, 0, none⟩ = some (.int .i64 a0_0) := (jC BK238.out 0).trans rfl; have hcz13_1 : w11.cell? ⟨gb238, 1, none⟩ = some (.int .i64 a0_1) := (jC BK238.out 1).trans rfl; have hfz13_0 := jF BK238.out 0; have hfz13_1 := jF BK238.out 1; have hcz14_0 : w11.cell? ⟨gb239, 0, none⟩ = some (.int .i64 a1_0) := (jC BK239.out 0).trans rfl; have hcz14_1 : w11.cell? ⟨gb239, 1, none⟩ = some (.int .i64 a1_1) := (jC BK239.out 1).trans rfl; have hfz14_0 := jF BK239.out 0; have hfz14_1 := jF BK239.out 1))
   go_ret
   exact ⟨by first | rfl | (simp [errW_none, errW_some] <;> rfl) | (simp [*, errW_none, errW_some] <;> rfl), by repeat (first | (with_reducible first | exact HB.out | apply jA | apply jN | apply jD | refine jS ?_ GE238.out | refine jS ?_ GE239.out) | exact HB.out)⟩
  ·rw [if_neg c9] at H
   have c9b0 : (a0_0 == a1_0) = false := beq_eq_false_iff_ne.mpr c9
   have c9b1 : (a0_0 != a1_0) = true := bne_iff_ne.mpr c9
   obtain rfl := Option.some.inj H
   go_enter Tryd.func69, Tryd.ntmps69
   go_wp2_with (first | ((with_reducible refine gate_dst (N := 2) rfl ?_); refine box_event ?hg (N := 2) ?hd (cs := #[.int .i64 a0_0, .int .i64 a0_1]) (t := 39) ?hr ?_; (case hd => rfl); (case hg => rfl); (case hr => first | (go_simp; done) | (go_simp; rfl)); intro gb238 hg w15 hbox hb; have n0_ := jM (jT (tB HB.out) hb); have n1_ := jM (hbox); have n2_ := jM ((by rw [hg]; exact (below_size (tB HB.out)) : w.heap.size ≤ gb238)); have n3_ := jM ((by rw [hg]; exact (below_size (tB HB.out)) : w.heap.size ≤ gb238)); clear HB; have HB := n0_; have BK238 := n1_; have GW238 := n2_; have GE238 := n3_; clear n0_ n1_ n2_ n3_; clear hb hbox hg) | ((with_reducible refine gate_dst (N := 3) rfl ?_); refine box_event ?hg (N := 3) ?hd (cs := #[.int .i64 a1_0, .int .i64 a1_1]) (t := 39) ?hr ?_; (case hd => rfl); (case hg => rfl); (case hr => first | (go_simp; done) | (go_simp; rfl)); intro gb239 hg w16 hbox hb; have n0_ := jM (jW (g := gb238) (o := .cells #[.int .i64 a0_0, .int .i64 a0_1] 39 (0, 0)) (tK BK238.out) hb); have n1_ := jM (jT (by repeat (first | (with_reducible first | exact HB.out | apply jA | apply jN | apply jD | refine jS ?_ GE238.out) | exact HB.out)) hb); have n2_ := jM (hbox); have n3_ := jM ((by rw [hg]; exact (below_size (by repeat (first | (with_reducible first | exact HB.out | apply jA | apply jN | apply jD | refine jS ?_ GE238.out) | exact HB.out))) : w.heap.size ≤ gb239)); have n4_ := jM ((by rw [hg]; exact (below_size (by repeat (first | (with_reducible first | exact HB.out | apply jA | apply jN | apply jD | refine jS ?_ GE238.out) | exact HB.out))) : w.heap.size ≤ gb239)); have n5_ := jM ((by rw [hg]; exact Nat.ne_of_lt (blk_lt (g := gb238) (o := .cells #[.int .i64 a0_0, .int .i64 a0_1] 39 (0, 0)) (tK BK238.out)) : gb238 ≠ gb239)); have n6_ := jM ((by rw [hg]; exact Nat.ne_of_gt (blk_lt (g := gb238) (o := .cells #[.int .i64 a0_0, .int .i64 a0_1] 39 (0, 0)) (tK BK238.out)) : gb239 ≠ gb238)); clear BK238; clear HB; have BK238 := n0_; have HB := n1_; have BK239 := n2_; have GW239 := n3_; have GE239 := n4_; have NB238_239 := n5_; have NB239_238 := n6_; clear n0_ n1_ n2_ n3_ n4_ n5_ n6_; clear hb hbox hg; have hnb17 := NB238_239.out; have hnc17 := NB239_238.out; have hcz18_0 : w16.cell? ⟨gb238, 0, none⟩ = some (.int .i64 a0_0) := (jC BK238.out 0).trans rfl; have hcz18_1 : w16.cell? ⟨gb238, 1, none⟩ = some (.int .i64 a0_1) := (jC BK238.out 1).trans rfl; have hfz18_0 := jF BK238.out 0; have hfz18_1 := jF BK238.out 1; have hcz19_0 : w16.cell? ⟨gb239, 0, none⟩ = some (.int .i64 a1_0) := (jC BK239.out 0).trans rfl; have hcz19_1 : w16.cell? ⟨gb239, 1, none⟩ = some (.int .i64 a1_1) := (jC BK239.out 1).trans rfl; have hfz19_0 := jF BK239.out 0; have hfz19_1 := jF BK239.out 1))
   go_ret
   exact ⟨by first | rfl | (simp [errW_none, errW_some] <;> rfl) | (simp [*, errW_none, errW_some] <;> rfl), by repeat (first | (with_reducible first | exact HB.out | apply jA | apply jN | apply jD | refine jS ?_ GE238.out | refine jS ?_ GE239.out) | exact HB.out)⟩

end Go.Proofs.YtclollnicbcooaaDoor.P
end

section
namespace Go.Proofs.YtclollnicbcooaaDoor.P
open Go.RowKit Go.Proofs.YtclollnicbcooaaDoorW.PrintWords Go.Proofs.YtclollnicbcooaaDoorW.PrintLast Go.Proofs.YtclollnicbcooaaDoorW.PrintMore
attribute [local go_sem] max2_int min2_int max_two min_two max_three min_three max_four min_four

/-! ### sl13_Few: function 13 -/
mutual
def sl13_Few.l0 : Nat → Int → List (S82) → List (S101) → List ByteArray → List (S64) → Int → Option (Bool)
 | 0, _, _, _, _, _, _ => none
 | k + 1, x3, xA, xB, xC, xD, xE => if x3 < (xD.length : Int) then (sl13_Few.j1 k x3 (decide (x3 < 15)) xA xB xC xD xE) else (sl13_Few.j1 k x3 false xA xB xC xD xE)
def sl13_Few.j1 : Nat → Int → Bool → List (S82) → List (S101) → List ByteArray → List (S64) → Int → Option (Bool)
 | 0, _, _, _, _, _, _, _ => none
 | k + 1, x3, x12, xA, xB, xC, xD, xE => if x12 = true then (if 0 ≤ x3 then (if x3 < (xD.length : Int) then (if (((rd_T64 xD x3).f2).length : Int) > 12 then (some false) else (sl13_Few.l0 k (wrap64 (x3 + 1)) xA xB xC xD xE)) else (none)) else (none)) else (if (xA.length : Int) ≤ 10 then (if (xC.length : Int) ≤ 8 then (if (xD.length : Int) ≤ 14 then (some (decide ((xB.length : Int) ≤ 30))) else (some false)) else (some false)) else (some false))
end
def sl13_Few.f (k : Nat) (l0_0 : List (S82)) (l0_1 : List (S101)) (l0_2 : List ByteArray) (l0_3 : List (S64)) (a0_4 : Int) : Option (Bool) := sl13_Few.l0 k 0 l0_0 l0_1 l0_2 l0_3 a0_4
theorem sl13_Few.mono_l : ∀ k, (∀ y0 y1 y2 y3 y4 y5, LeO (sl13_Few.l0 k y0 y1 y2 y3 y4 y5) (sl13_Few.l0 (k + 1) y0 y1 y2 y3 y4 y5)) ∧ (∀ y0 y1 y2 y3 y4 y5 y6, LeO (sl13_Few.j1 k y0 y1 y2 y3 y4 y5 y6) (sl13_Few.j1 (k + 1) y0 y1 y2 y3 y4 y5 y6))
 | 0 => ⟨fun _ _ _ _ _ _ r h => by simp [sl13_Few.l0] at h, fun _ _ _ _ _ _ _ r h => by simp [sl13_Few.j1] at h⟩
 | k + 1 => by
  obtain ⟨ih0, ih1⟩ := sl13_Few.mono_l k
  refine ⟨?_, ?_⟩
  ·intro y0 y1 y2 y3 y4 y5
   unfold sl13_Few.l0
   repeat' first
   | (with_reducible exact ih0 _ _ _ _ _ _)
   | (with_reducible exact ih1 _ _ _ _ _ _ _)
   | (with_reducible exact LeO.refl _)
   | (with_reducible exact LeO.none _)
   | (with_reducible refine LeO.ite ?_ ?_)
   | (with_reducible refine LeO.bind ?_ (fun _ => ?_))
   | exact ih0 _ _ _ _ _ _
   | exact ih1 _ _ _ _ _ _ _
   | exact LeO.none _
   | refine LeO.ite ?_ ?_
   | refine LeO.bind ?_ (fun _ => ?_)
  ·intro y0 y1 y2 y3 y4 y5 y6
   unfold sl13_Few.j1
   repeat' first
   | (with_reducible exact ih0 _ _ _ _ _ _)
   | (with_reducible exact ih1 _ _ _ _ _ _ _)
   | (with_reducible exact LeO.refl _)
   | (with_reducible exact LeO.none _)
   | (with_reducible refine LeO.ite ?_ ?_)
   | (with_reducible refine LeO.bind ?_ (fun _ => ?_))
   | exact ih0 _ _ _ _ _ _
   | exact ih1 _ _ _ _ _ _ _
   | exact LeO.none _
   | refine LeO.ite ?_ ?_
   | refine LeO.bind ?_ (fun _ => ?_)
theorem sl13_Few.mono : ∀ a0 a1 a2 a3 a4 k, LeO (sl13_Few.f k a0 a1 a2 a3 a4) (sl13_Few.f (k + 1) a0 a1 a2 a3 a4) := by
 intro a0 a1 a2 a3 a4 k
 obtain ⟨ih0, ih1⟩ := sl13_Few.mono_l k
 unfold sl13_Few.f
 repeat' first
   | (with_reducible exact ih0 _ _ _ _ _ _)
   | (with_reducible exact ih1 _ _ _ _ _ _ _)
   | (with_reducible exact LeO.refl _)
   | (with_reducible exact LeO.none _)
   | (with_reducible refine LeO.ite ?_ ?_)
   | (with_reducible refine LeO.bind ?_ (fun _ => ?_))
   | exact ih0 _ _ _ _ _ _
   | exact ih1 _ _ _ _ _ _ _
   | exact LeO.none _
   | refine LeO.ite ?_ ?_
   | refine LeO.bind ?_ (fun _ => ?_)
set_option maxHeartbeats 8000000 in
set_option maxRecDepth 100000 in
theorem sl13_Few.calls (k : Nat) (A0_0 : Option Addr) (c0_0 : Nat) (l0_0 : List (S82)) (A0_1 : Option Addr) (c0_1 : Nat) (l0_1 : List (S101)) (A0_2 : Option Addr) (c0_2 : Nat) (l0_2 : List ByteArray) (A0_3 : Option Addr) (c0_3 : Nat) (l0_3 : List (S64)) (a0_4 : Int) (r : Bool) (w : World) (hr0_0 : Kd.C k82 w A0_0 l0_0.length l0_0) (hc0_0 : l0_0.length ≤ c0_0) (hr0_1 : Kd.C k101 w A0_1 l0_1.length l0_1) (hc0_1 : l0_1.length ≤ c0_1) (hr0_2 : Kd.C Kd.string w A0_2 l0_2.length l0_2) (hc0_2 : l0_2.length ≤ c0_2) (hr0_3 : Kd.C k64 w A0_3 l0_3.length l0_3) (hc0_3 : l0_3.length ≤ c0_3) (h : sl13_Few.f k l0_0 l0_1 l0_2 l0_3 a0_4 = some r) :
  Calls Tryd.prog 13 #[.agg #[.slice A0_0 l0_0.length c0_0, .slice A0_1 l0_1.length c0_1, .slice A0_2 l0_2.length c0_2, .slice A0_3 l0_3.length c0_3, .int .i64 a0_4]] w fun e w' => e = .returned (.bool r) ∧ Below w.heap.size w w' := by
 have hu27 := Tryd.underlying27
 have HR0_0 := jM hr0_0
 have HC0_0 := jM hc0_0
 clear hr0_0 hc0_0
 have HR0_1 := jM hr0_1
 have HC0_1 := jM hc0_1
 clear hr0_1 hc0_1
 have HR0_2 := jM hr0_2
 have HC0_2 := jM hc0_2
 clear hr0_2 hc0_2
 have HR0_3 := jM hr0_3
 have HC0_3 := jM hc0_3
 clear hr0_3 hc0_3
 have HB := jM (Below.refl w.heap.size w)
 have H : (sl13_Few.l0 k 0 l0_0 l0_1 l0_2 l0_3 a0_4) = some r := h
 clear h
 have H' := jM H
 clear H
 go_enter Tryd.func13, Tryd.ntmps13
 go_wp2_with (first | ((with_reducible refine gate_dst (N := 1) rfl ?_); (try (refine gate_guard (by rfl) ?_; dsimp only)); refine box_event ?hg (N := 1) ?hd (cs := #[.slice A0_0 l0_0.length c0_0, .slice A0_1 l0_1.length c0_1, .slice A0_2 l0_2.length c0_2, .slice A0_3 l0_3.length c0_3, .int .i64 a0_4]) (t := 27) ?hr ?_; (case hd => rfl); (case hg => rfl); (case hr => first | (go_simp; done) | (go_simp; rfl)); intro gb206 hg w2 hbox hb; have n0_ := jM (jT (tB HB.out) hb); have n1_ := jM (hbox); have n2_ := jM ((by rw [hg]; exact (below_size (tB HB.out)) : w.heap.size ≤ gb206)); have n3_ := jM ((by rw [hg]; exact (below_size (tB HB.out)) : w.heap.size ≤ gb206)); clear HB; have HB := n0_; have BK206 := n1_; have GW206 := n2_; have GE206 := n3_; clear n0_ n1_ n2_ n3_; clear hb hbox hg))
 go_loopg [3] k (fun kq v3 w' => ∃ (x3_1 : Int), v3 = .int .i64 x3_1 ∧ Aside0 (sl13_Few.l0 kq x3_1 l0_0 l0_1 l0_2 l0_3 a0_4 = some r) ∧ Aside0 (kq ≤ k) ∧ Aside0 (w'.heap[gb206]? = some (.cells #[(.slice A0_0 l0_0.length c0_0), (.slice A0_1 l0_1.length c0_1), (.slice A0_2 l0_2.length c0_2), (.slice A0_3 l0_3.length c0_3), .int .i64 a0_4] 27 (0, 0))) ∧ Aside0 (Below w.heap.size w w'))
 case atStart => exact ⟨(0), tZ, H', ⟨Nat.le_refl _⟩, ⟨tK BK206.out⟩, ⟨by repeat (first | (with_reducible first | exact HB.out | apply jA | apply jN | apply jD | refine jS ?_ GE206.out) | exact HB.out)⟩⟩
 case round =>
  clear H'
  try clear c1
  try clear p2
  obtain ⟨x3_1, rfl, HA, HK1, BK206, HB⟩ := hrel
  cases gk with
  | zero => exact absurd HA.out (by simp [sl13_Few.l0])
  | succ k1 =>
   have H := HA.out
   clear HA
   simp only [sl13_Few.l0] at H
   have HC3 := jM H
   clear H
   go_upto_region 2 with (fail)
   go_cut [12] (fun v12 wc => ∃ (kq : Nat) (x12_2 : Bool), v12 = .bool x12_2 ∧ Aside0 (sl13_Few.j1 kq x3_1 x12_2 l0_0 l0_1 l0_2 l0_3 a0_4 = some r) ∧ Aside0 (kq ≤ k1) ∧ Aside0 (wc.heap[gb206]? = some (.cells #[(.slice A0_0 l0_0.length c0_0), (.slice A0_1 l0_1.length c0_1), (.slice A0_2 l0_2.length c0_2), (.slice A0_3 l0_3.length c0_3), .int .i64 a0_4] 27 (0, 0))) ∧ Aside0 (Below w.heap.size w wc))
   case first =>
    have H := HC3.out
    clear HC3
    by_cases c4 : x3_1 < (l0_3.length : Int)
    ·rw [if_pos c4] at H
     have c4b0 : decide (x3_1 < (l0_3.length : Int)) = true := decide_eq_true c4
     clear c4
     (first | rw [c4b0] | (simp only [i64_w, i32_w]; rw [c4b0]) | skip)
     have H' := jM H
     clear H
     have hcz5_0 : wr.cell? ⟨gb206, 0, none⟩ = some (.slice A0_0 l0_0.length c0_0) := (jC BK206.out 0).trans rfl
     have hcz5_1 : wr.cell? ⟨gb206, 1, none⟩ = some (.slice A0_1 l0_1.length c0_1) := (jC BK206.out 1).trans rfl
     have hcz5_2 : wr.cell? ⟨gb206, 2, none⟩ = some (.slice A0_2 l0_2.length c0_2) := (jC BK206.out 2).trans rfl
     have hcz5_3 : wr.cell? ⟨gb206, 3, none⟩ = some (.slice A0_3 l0_3.length c0_3) := (jC BK206.out 3).trans rfl
     have hcz5_4 : wr.cell? ⟨gb206, 4, none⟩ = some (.int .i64 a0_4) := (jC BK206.out 4).trans rfl
     have hfz5_0 := jF BK206.out 0
     have hfz5_1 := jF BK206.out 1
     have hfz5_2 := jF BK206.out 2
     have hfz5_3 := jF BK206.out 3
     have hfz5_4 := jF BK206.out 4
     go_wp2
     go_meet
     case rel => exact ⟨_, (decide (x3_1 < 15)), tZ, H', ⟨by have := HK1.out; first | omega | exact Nat.le_refl _⟩, ⟨tK BK206.out⟩, ⟨by repeat (first | (with_reducible first | exact HB.out | apply jA | apply jN | apply jD | refine jS ?_ GE206.out) | exact HB.out)⟩⟩
    ·rw [if_neg c4] at H
     have c4b0 : decide (x3_1 < (l0_3.length : Int)) = false := decide_eq_false c4
     clear c4
     (first | rw [c4b0] | (simp only [i64_w, i32_w]; rw [c4b0]) | skip)
     have H' := jM H
     clear H
     have hcz6_0 : wr.cell? ⟨gb206, 0, none⟩ = some (.slice A0_0 l0_0.length c0_0) := (jC BK206.out 0).trans rfl
     have hcz6_1 : wr.cell? ⟨gb206, 1, none⟩ = some (.slice A0_1 l0_1.length c0_1) := (jC BK206.out 1).trans rfl
     have hcz6_2 : wr.cell? ⟨gb206, 2, none⟩ = some (.slice A0_2 l0_2.length c0_2) := (jC BK206.out 2).trans rfl
     have hcz6_3 : wr.cell? ⟨gb206, 3, none⟩ = some (.slice A0_3 l0_3.length c0_3) := (jC BK206.out 3).trans rfl
     have hcz6_4 : wr.cell? ⟨gb206, 4, none⟩ = some (.int .i64 a0_4) := (jC BK206.out 4).trans rfl
     have hfz6_0 := jF BK206.out 0
     have hfz6_1 := jF BK206.out 1
     have hfz6_2 := jF BK206.out 2
     have hfz6_3 := jF BK206.out 3
     have hfz6_4 := jF BK206.out 4
     go_wp2
     go_meet
     case rel => exact ⟨_, (false), tZ, H', ⟨by have := HK1.out; first | omega | exact Nat.le_refl _⟩, ⟨tK BK206.out⟩, ⟨by repeat (first | (with_reducible first | exact HB.out | apply jA | apply jN | apply jD | refine jS ?_ GE206.out) | exact HB.out)⟩⟩
   case rest =>
    clear HC3
    try clear c1
    try clear p2
    try clear c4
    try clear c4b0
    try clear hcz5_0
    try clear hcz5_1
    try clear hcz5_2
    try clear hcz5_3
    try clear hcz5_4
    try clear hcz6_0
    try clear hcz6_1
    try clear hcz6_2
    try clear hcz6_3
    try clear hcz6_4
    try clear hfz5_0
    try clear hfz5_1
    try clear hfz5_2
    try clear hfz5_3
    try clear hfz5_4
    try clear hfz6_0
    try clear hfz6_1
    try clear hfz6_2
    try clear hfz6_3
    try clear hfz6_4
    try clear p2
    obtain ⟨kq, x12_2, rfl, HA, HJ2, BK206, HB⟩ := hcut
    cases kq with
    | zero => exact absurd HA.out (by simp [sl13_Few.j1])
    | succ kj2 =>
     have H := HA.out
     clear HA
     simp only [sl13_Few.j1] at H
     by_cases c7 : x12_2 = true
     ·subst c7
      have H1 : (if 0 ≤ x3_1 then (if x3_1 < (l0_3.length : Int) then (if (((rd_T64 l0_3 x3_1).f2).length : Int) > 12 then (some false) else (sl13_Few.l0 kj2 (wrap64 (x3_1 + 1)) l0_0 l0_1 l0_2 l0_3 a0_4)) else (none)) else (none)) = some r := by rw [if_pos rfl] at H; exact H
      clear H
      have H := H1
      clear H1
      by_cases c8 : 0 ≤ x3_1
      ·rw [if_pos c8] at H
       have c8b0 : decide (0 ≤ x3_1) = true := decide_eq_true c8
       clear c8
       by_cases c9 : x3_1 < (l0_3.length : Int)
       ·rw [if_pos c9] at H
        have c9b0 : decide (x3_1 < (l0_3.length : Int)) = true := decide_eq_true c9
        clear c9
        by_cases c10 : (((rd_T64 l0_3 x3_1).f2).length : Int) > 12
        ·rw [if_pos c10] at H
         have c10b0 : decide (12 < (((rd_T64 l0_3 x3_1).f2).length : Int)) = true := decide_eq_true c10
         have c10b1 : decide (12 < ((rd_T64 l0_3 x3_1).f2).length) = true := decide_eq_true (by omega)
         clear c10
         obtain rfl := Option.some.inj H
         have hcz11_0 : wc.cell? ⟨gb206, 0, none⟩ = some (.slice A0_0 l0_0.length c0_0) := (jC BK206.out 0).trans rfl
         have hcz11_1 : wc.cell? ⟨gb206, 1, none⟩ = some (.slice A0_1 l0_1.length c0_1) := (jC BK206.out 1).trans rfl
         have hcz11_2 : wc.cell? ⟨gb206, 2, none⟩ = some (.slice A0_2 l0_2.length c0_2) := (jC BK206.out 2).trans rfl
         have hcz11_3 : wc.cell? ⟨gb206, 3, none⟩ = some (.slice A0_3 l0_3.length c0_3) := (jC BK206.out 3).trans rfl
         have hcz11_4 : wc.cell? ⟨gb206, 4, none⟩ = some (.int .i64 a0_4) := (jC BK206.out 4).trans rfl
         have hfz11_0 := jF BK206.out 0
         have hfz11_1 := jF BK206.out 1
         have hfz11_2 := jF BK206.out 2
         have hfz11_3 := jF BK206.out 3
         have hfz11_4 := jF BK206.out 4
         have p207 : 0 ≤ (x3_1 : Int) := of_decide_eq_true tD
         have q207 : x3_1 < (l0_3.length : Int) := of_decide_eq_true tD
         obtain ⟨ad207, A207_2, c207_2, e207, hx207_0, hx207_1, hx207_2, hx207_3, hl207_2, hi207_2⟩ := at_T64 HR0_3.out x3_1 p207 q207
         cases e207
         replace hx207_0 := (HB.out.cell (jL w _ hx207_0)).trans hx207_0
         replace hx207_1 := (HB.out.cell (jL w _ hx207_1)).trans hx207_1
         replace hx207_2 := (HB.out.cell (jL w _ hx207_2)).trans hx207_2
         replace hx207_3 := (HB.out.cell (jL w _ hx207_3)).trans hx207_3
         have HR207_2 := jM hi207_2
         have HC207_2 := jM hl207_2
         clear hi207_2 hl207_2
         replace p207 := eq_true p207
         replace q207 := eq_true q207
         go_wp2
         go_ret
         exact ⟨by first | rfl | (simp [errW_none, errW_some] <;> rfl) | (simp [*, errW_none, errW_some] <;> rfl), by repeat (first | (with_reducible first | exact HB.out | apply jA | apply jN | apply jD | refine jS ?_ GE206.out) | exact HB.out)⟩
        ·rw [if_neg c10] at H
         have c10b0 : decide (12 < (((rd_T64 l0_3 x3_1).f2).length : Int)) = false := decide_eq_false c10
         have c10b1 : decide (12 < ((rd_T64 l0_3 x3_1).f2).length) = false := decide_eq_false (by omega)
         clear c10
         have H' := jM H
         clear H
         have hcz12_0 : wc.cell? ⟨gb206, 0, none⟩ = some (.slice A0_0 l0_0.length c0_0) := (jC BK206.out 0).trans rfl
         have hcz12_1 : wc.cell? ⟨gb206, 1, none⟩ = some (.slice A0_1 l0_1.length c0_1) := (jC BK206.out 1).trans rfl
         have hcz12_2 : wc.cell? ⟨gb206, 2, none⟩ = some (.slice A0_2 l0_2.length c0_2) := (jC BK206.out 2).trans rfl
         have hcz12_3 : wc.cell? ⟨gb206, 3, none⟩ = some (.slice A0_3 l0_3.length c0_3) := (jC BK206.out 3).trans rfl
         have hcz12_4 : wc.cell? ⟨gb206, 4, none⟩ = some (.int .i64 a0_4) := (jC BK206.out 4).trans rfl
         have hfz12_0 := jF BK206.out 0
         have hfz12_1 := jF BK206.out 1
         have hfz12_2 := jF BK206.out 2
         have hfz12_3 := jF BK206.out 3
         have hfz12_4 := jF BK206.out 4
         have p207 : 0 ≤ (x3_1 : Int) := of_decide_eq_true tD
         have q207 : x3_1 < (l0_3.length : Int) := of_decide_eq_true tD
         obtain ⟨ad207, A207_2, c207_2, e207, hx207_0, hx207_1, hx207_2, hx207_3, hl207_2, hi207_2⟩ := at_T64 HR0_3.out x3_1 p207 q207
         cases e207
         replace hx207_0 := (HB.out.cell (jL w _ hx207_0)).trans hx207_0
         replace hx207_1 := (HB.out.cell (jL w _ hx207_1)).trans hx207_1
         replace hx207_2 := (HB.out.cell (jL w _ hx207_2)).trans hx207_2
         replace hx207_3 := (HB.out.cell (jL w _ hx207_3)).trans hx207_3
         have HR207_2 := jM hi207_2
         have HC207_2 := jM hl207_2
         clear hi207_2 hl207_2
         replace p207 := eq_true p207
         replace q207 := eq_true q207
         go_wp2
         go_roundg kj2
         case measure => have := HK1.out; have := HJ2.out; omega
         case rel => exact ⟨(wrap64 (x3_1 + 1)), tZ, H', ⟨by have := HK1.out; have := HJ2.out; omega⟩, ⟨tK BK206.out⟩, ⟨by repeat (first | (with_reducible first | exact HB.out | apply jA | apply jN | apply jD | refine jS ?_ GE206.out) | exact HB.out)⟩⟩
       ·rw [if_neg c9] at H
        exact absurd H (by simp)
      ·rw [if_neg c8] at H
       exact absurd H (by simp)
     ·replace c7 := Bool.eq_false_iff.mpr c7
      subst c7
      have H1 : (if (l0_0.length : Int) ≤ 10 then (if (l0_2.length : Int) ≤ 8 then (if (l0_3.length : Int) ≤ 14 then (some (decide ((l0_1.length : Int) ≤ 30))) else (some false)) else (some false)) else (some false)) = some r := by rw [if_neg (show ¬ (false = true) by decide)] at H; exact H
      clear H
      have H := H1
      clear H1
      by_cases c13 : (l0_0.length : Int) ≤ 10
      ·rw [if_pos c13] at H
       have c13b0 : decide ((l0_0.length : Int) ≤ 10) = true := decide_eq_true c13
       have c13b1 : decide (l0_0.length ≤ 10) = true := decide_eq_true (by omega)
       clear c13
       by_cases c14 : (l0_2.length : Int) ≤ 8
       ·rw [if_pos c14] at H
        have c14b0 : decide ((l0_2.length : Int) ≤ 8) = true := decide_eq_true c14
        have c14b1 : decide (l0_2.length ≤ 8) = true := decide_eq_true (by omega)
        clear c14
        by_cases c15 : (l0_3.length : Int) ≤ 14
        ·rw [if_pos c15] at H
         have c15b0 : decide ((l0_3.length : Int) ≤ 14) = true := decide_eq_true c15
         have c15b1 : decide (l0_3.length ≤ 14) = true := decide_eq_true (by omega)
         clear c15
         obtain rfl := Option.some.inj H
         have hcz16_0 : wc.cell? ⟨gb206, 0, none⟩ = some (.slice A0_0 l0_0.length c0_0) := (jC BK206.out 0).trans rfl
         have hcz16_1 : wc.cell? ⟨gb206, 1, none⟩ = some (.slice A0_1 l0_1.length c0_1) := (jC BK206.out 1).trans rfl
         have hcz16_2 : wc.cell? ⟨gb206, 2, none⟩ = some (.slice A0_2 l0_2.length c0_2) := (jC BK206.out 2).trans rfl
         have hcz16_3 : wc.cell? ⟨gb206, 3, none⟩ = some (.slice A0_3 l0_3.length c0_3) := (jC BK206.out 3).trans rfl
         have hcz16_4 : wc.cell? ⟨gb206, 4, none⟩ = some (.int .i64 a0_4) := (jC BK206.out 4).trans rfl
         have hfz16_0 := jF BK206.out 0
         have hfz16_1 := jF BK206.out 1
         have hfz16_2 := jF BK206.out 2
         have hfz16_3 := jF BK206.out 3
         have hfz16_4 := jF BK206.out 4
         go_wp2
         go_ret
         exact ⟨by first | rfl | (simp [errW_none, errW_some] <;> rfl) | (simp [*, errW_none, errW_some] <;> rfl), by repeat (first | (with_reducible first | exact HB.out | apply jA | apply jN | apply jD | refine jS ?_ GE206.out) | exact HB.out)⟩
        ·rw [if_neg c15] at H
         have c15b0 : decide ((l0_3.length : Int) ≤ 14) = false := decide_eq_false c15
         have c15b1 : decide (l0_3.length ≤ 14) = false := decide_eq_false (by omega)
         clear c15
         obtain rfl := Option.some.inj H
         have hcz17_0 : wc.cell? ⟨gb206, 0, none⟩ = some (.slice A0_0 l0_0.length c0_0) := (jC BK206.out 0).trans rfl
         have hcz17_1 : wc.cell? ⟨gb206, 1, none⟩ = some (.slice A0_1 l0_1.length c0_1) := (jC BK206.out 1).trans rfl
         have hcz17_2 : wc.cell? ⟨gb206, 2, none⟩ = some (.slice A0_2 l0_2.length c0_2) := (jC BK206.out 2).trans rfl
         have hcz17_3 : wc.cell? ⟨gb206, 3, none⟩ = some (.slice A0_3 l0_3.length c0_3) := (jC BK206.out 3).trans rfl
         have hcz17_4 : wc.cell? ⟨gb206, 4, none⟩ = some (.int .i64 a0_4) := (jC BK206.out 4).trans rfl
         have hfz17_0 := jF BK206.out 0
         have hfz17_1 := jF BK206.out 1
         have hfz17_2 := jF BK206.out 2
         have hfz17_3 := jF BK206.out 3
         have hfz17_4 := jF BK206.out 4
         go_wp2
         go_ret
         exact ⟨by first | rfl | (simp [errW_none, errW_some] <;> rfl) | (simp [*, errW_none, errW_some] <;> rfl), by repeat (first | (with_reducible first | exact HB.out | apply jA | apply jN | apply jD | refine jS ?_ GE206.out) | exact HB.out)⟩
       ·rw [if_neg c14] at H
        have c14b0 : decide ((l0_2.length : Int) ≤ 8) = false := decide_eq_false c14
        have c14b1 : decide (l0_2.length ≤ 8) = false := decide_eq_false (by omega)
        clear c14
        obtain rfl := Option.some.inj H
        have hcz18_0 : wc.cell? ⟨gb206, 0, none⟩ = some (.slice A0_0 l0_0.length c0_0) := (jC BK206.out 0).trans rfl
        have hcz18_1 : wc.cell? ⟨gb206, 1, none⟩ = some (.slice A0_1 l0_1.length c0_1) := (jC BK206.out 1).trans rfl
        have hcz18_2 : wc.cell? ⟨gb206, 2, none⟩ = some (.slice A0_2 l0_2.length c0_2) := (jC BK206.out 2).trans rfl
        have hcz18_3 : wc.cell? ⟨gb206, 3, none⟩ = some (.slice A0_3 l0_3.length c0_3) := (jC BK206.out 3).trans rfl
        have hcz18_4 : wc.cell? ⟨gb206, 4, none⟩ = some (.int .i64 a0_4) := (jC BK206.out 4).trans rfl
        have hfz18_0 := jF BK206.out 0
        have hfz18_1 := jF BK206.out 1
        have hfz18_2 := jF BK206.out 2
        have hfz18_3 := jF BK206.out 3
        have hfz18_4 := jF BK206.out 4
        go_wp2
        go_ret
        exact ⟨by first | rfl | (simp [errW_none, errW_some] <;> rfl) | (simp [*, errW_none, errW_some] <;> rfl), by repeat (first | (with_reducible first | exact HB.out | apply jA | apply jN | apply jD | refine jS ?_ GE206.out) | exact HB.out)⟩
      ·rw [if_neg c13] at H
       have c13b0 : decide ((l0_0.length : Int) ≤ 10) = false := decide_eq_false c13
       have c13b1 : decide (l0_0.length ≤ 10) = false := decide_eq_false (by omega)
       clear c13
       obtain rfl := Option.some.inj H
       have hcz19_0 : wc.cell? ⟨gb206, 0, none⟩ = some (.slice A0_0 l0_0.length c0_0) := (jC BK206.out 0).trans rfl
       have hcz19_1 : wc.cell? ⟨gb206, 1, none⟩ = some (.slice A0_1 l0_1.length c0_1) := (jC BK206.out 1).trans rfl
       have hcz19_2 : wc.cell? ⟨gb206, 2, none⟩ = some (.slice A0_2 l0_2.length c0_2) := (jC BK206.out 2).trans rfl
       have hcz19_3 : wc.cell? ⟨gb206, 3, none⟩ = some (.slice A0_3 l0_3.length c0_3) := (jC BK206.out 3).trans rfl
       have hcz19_4 : wc.cell? ⟨gb206, 4, none⟩ = some (.int .i64 a0_4) := (jC BK206.out 4).trans rfl
       have hfz19_0 := jF BK206.out 0
       have hfz19_1 := jF BK206.out 1
       have hfz19_2 := jF BK206.out 2
       have hfz19_3 := jF BK206.out 3
       have hfz19_4 := jF BK206.out 4
       go_wp2
       go_ret
       exact ⟨by first | rfl | (simp [errW_none, errW_some] <;> rfl) | (simp [*, errW_none, errW_some] <;> rfl), by repeat (first | (with_reducible first | exact HB.out | apply jA | apply jN | apply jD | refine jS ?_ GE206.out) | exact HB.out)⟩

end Go.Proofs.YtclollnicbcooaaDoor.P
end

section
namespace Go.Proofs.YtclollnicbcooaaDoor.P
open Go.RowKit Go.Proofs.YtclollnicbcooaaDoorW.PrintWords Go.Proofs.YtclollnicbcooaaDoorW.PrintLast Go.Proofs.YtclollnicbcooaaDoorW.PrintMore
attribute [local go_sem] max2_int min2_int max_two min_two max_three min_three max_four min_four

/-! ### sl14_Little: function 22 -/
mutual
def sl14_Little.l0 : Nat → Bool → Int → List (S82) → List (S101) → List ByteArray → List (S64) → Int → Option (Bool)
 | 0, _, _, _, _, _, _, _ => none
 | k + 1, x3, x4, xA, xB, xC, xD, xE => if x4 < (xD.length : Int) then (sl14_Little.j1 k x3 x4 (decide (x4 < 15)) xA xB xC xD xE) else (sl14_Little.j1 k x3 x4 false xA xB xC xD xE)
def sl14_Little.j1 : Nat → Bool → Int → Bool → List (S82) → List (S101) → List ByteArray → List (S64) → Int → Option (Bool)
 | 0, _, _, _, _, _, _, _, _ => none
 | k + 1, x3, x4, x15, xA, xB, xC, xD, xE => if x15 = true then (if 0 ≤ x4 then (if x4 < (xD.length : Int) then (if (((rd_T64 xD x4).f2).length : Int) > 5 then (some false) else (sl14_Little.l0 k x3 (wrap64 (x4 + 1)) xA xB xC xD xE)) else (none)) else (none)) else (if x3 = true then (some (decide ((xD.length : Int) ≤ 10))) else (some false))
end
def sl14_Little.f (k : Nat) (l0_0 : List (S82)) (l0_1 : List (S101)) (l0_2 : List ByteArray) (l0_3 : List (S64)) (a0_4 : Int) : Option (Bool) := (sl13_Few.f k l0_0 l0_1 l0_2 l0_3 a0_4).bind fun t318 => (sl14_Little.l0 k t318 0 l0_0 l0_1 l0_2 l0_3 a0_4)
set_option maxHeartbeats 8000000 in
set_option maxRecDepth 100000 in
theorem sl14_Little.calls (k : Nat) (A0_0 : Option Addr) (c0_0 : Nat) (l0_0 : List (S82)) (A0_1 : Option Addr) (c0_1 : Nat) (l0_1 : List (S101)) (A0_2 : Option Addr) (c0_2 : Nat) (l0_2 : List ByteArray) (A0_3 : Option Addr) (c0_3 : Nat) (l0_3 : List (S64)) (a0_4 : Int) (r : Bool) (w : World) (hr0_0 : Kd.C k82 w A0_0 l0_0.length l0_0) (hc0_0 : l0_0.length ≤ c0_0) (hr0_1 : Kd.C k101 w A0_1 l0_1.length l0_1) (hc0_1 : l0_1.length ≤ c0_1) (hr0_2 : Kd.C Kd.string w A0_2 l0_2.length l0_2) (hc0_2 : l0_2.length ≤ c0_2) (hr0_3 : Kd.C k64 w A0_3 l0_3.length l0_3) (hc0_3 : l0_3.length ≤ c0_3) (h : sl14_Little.f k l0_0 l0_1 l0_2 l0_3 a0_4 = some r) :
  Calls Tryd.prog 22 #[.agg #[.slice A0_0 l0_0.length c0_0, .slice A0_1 l0_1.length c0_1, .slice A0_2 l0_2.length c0_2, .slice A0_3 l0_3.length c0_3, .int .i64 a0_4]] w fun e w' => e = .returned (.bool r) ∧ Below w.heap.size w w' := by
 have hu27 := Tryd.underlying27
 have HR0_0 := jM hr0_0
 have HC0_0 := jM hc0_0
 clear hr0_0 hc0_0
 have HR0_1 := jM hr0_1
 have HC0_1 := jM hc0_1
 clear hr0_1 hc0_1
 have HR0_2 := jM hr0_2
 have HC0_2 := jM hc0_2
 clear hr0_2 hc0_2
 have HR0_3 := jM hr0_3
 have HC0_3 := jM hc0_3
 clear hr0_3 hc0_3
 have HB := jM (Below.refl w.heap.size w)
 have H : ((sl13_Few.f k l0_0 l0_1 l0_2 l0_3 a0_4).bind fun t318 => (sl14_Little.l0 k t318 0 l0_0 l0_1 l0_2 l0_3 a0_4)) = some r := h
 clear h
 replace H := Option.bind_eq_some_iff.mp H
 obtain ⟨t318, A20, H⟩ := H
 replace H : (sl14_Little.l0 k t318 0 l0_0 l0_1 l0_2 l0_3 a0_4) = some r := H
 have A2 := jM A20
 clear A20
 have H' := jM H
 clear H
 go_enter Tryd.func22, Tryd.ntmps22
 go_wp2_with (first | ((with_reducible refine gate_dst (N := 1) rfl ?_); (try (refine gate_guard (by rfl) ?_; dsimp only)); refine box_event ?hg (N := 1) ?hd (cs := #[.slice A0_0 l0_0.length c0_0, .slice A0_1 l0_1.length c0_1, .slice A0_2 l0_2.length c0_2, .slice A0_3 l0_3.length c0_3, .int .i64 a0_4]) (t := 27) ?hr ?_; (case hd => rfl); (case hg => rfl); (case hr => first | (go_simp; done) | (go_simp; rfl)); intro gb317 hg w3 hbox hb; have n0_ := jM (jT (tB HB.out) hb); have n1_ := jM (hbox); have n2_ := jM ((by rw [hg]; exact (below_size (tB HB.out)) : w.heap.size ≤ gb317)); have n3_ := jM ((by rw [hg]; exact (below_size (tB HB.out)) : w.heap.size ≤ gb317)); clear HB; have HB := n0_; have BK317 := n1_; have GW317 := n2_; have GE317 := n3_; clear n0_ n1_ n2_ n3_; clear hb hbox hg; have hcz4_0 : w3.cell? ⟨gb317, 0, none⟩ = some (.slice A0_0 l0_0.length c0_0) := (jC BK317.out 0).trans rfl; have hcz4_1 : w3.cell? ⟨gb317, 1, none⟩ = some (.slice A0_1 l0_1.length c0_1) := (jC BK317.out 1).trans rfl; have hcz4_2 : w3.cell? ⟨gb317, 2, none⟩ = some (.slice A0_2 l0_2.length c0_2) := (jC BK317.out 2).trans rfl; have hcz4_3 : w3.cell? ⟨gb317, 3, none⟩ = some (.slice A0_3 l0_3.length c0_3) := (jC BK317.out 3).trans rfl; have hcz4_4 : w3.cell? ⟨gb317, 4, none⟩ = some (.int .i64 a0_4) := (jC BK317.out 4).trans rfl; have hfz4_0 := jF BK317.out 0; have hfz4_1 := jF BK317.out 1; have hfz4_2 := jF BK317.out 2; have hfz4_3 := jF BK317.out 3; have hfz4_4 := jF BK317.out 4) | ((with_reducible refine gate_callee (f := 13) rfl ?_); refine goesL_ (some 6) rfl rfl Tryd.func13 (by kernel_rfl) rfl #[.agg #[.slice A0_0 l0_0.length c0_0, .slice A0_1 l0_1.length c0_1, .slice A0_2 l0_2.length c0_2, .slice A0_3 l0_3.length c0_3, .int .i64 a0_4]] rfl tM ?_; (with_reducible refine (sl13_Few.calls k _ _ l0_0 _ _ l0_1 _ _ l0_2 _ _ l0_3 a0_4 t318 _ ?side1 ?side2 ?side3 ?side4 ?side5 ?side6 ?side7 ?side8 A2.out).mono ?_); (case side1 => exact tC (jB HR0_0.out HB.out)); (case side2 => exact HC0_0.out); (case side3 => exact tC (jB HR0_1.out HB.out)); (case side4 => exact HC0_1.out); (case side5 => exact tC (jB HR0_2.out HB.out)); (case side6 => exact HC0_2.out); (case side7 => exact tC (jB HR0_3.out HB.out)); (case side8 => exact HC0_3.out); rintro e w5 ⟨rfl, hb⟩; refine ⟨_, rfl, ?_⟩; have n0_ := jM (jW (g := gb317) (o := .cells #[.slice A0_0 l0_0.length c0_0, .slice A0_1 l0_1.length c0_1, .slice A0_2 l0_2.length c0_2, .slice A0_3 l0_3.length c0_3, .int .i64 a0_4] 27 (0, 0)) (tK BK317.out) hb); have n1_ := jM (jT (by repeat (first | (with_reducible first | exact HB.out | apply jA | apply jN | apply jD | refine jS ?_ GE317.out) | exact HB.out)) hb); clear BK317; clear HB; have BK317 := n0_; have HB := n1_; clear n0_ n1_; (try clear hb); (try clear hb2); (try clear hk); (try clear hi)))
 go_loopg [4] k (fun kq v4 w' => ∃ (x4_1 : Int), v4 = .int .i64 x4_1 ∧ Aside0 (sl14_Little.l0 kq t318 x4_1 l0_0 l0_1 l0_2 l0_3 a0_4 = some r) ∧ Aside0 (kq ≤ k) ∧ Aside0 (w'.heap[gb317]? = some (.cells #[(.slice A0_0 l0_0.length c0_0), (.slice A0_1 l0_1.length c0_1), (.slice A0_2 l0_2.length c0_2), (.slice A0_3 l0_3.length c0_3), .int .i64 a0_4] 27 (0, 0))) ∧ Aside0 (Below w.heap.size w w'))
 case atStart => exact ⟨(0), tZ, H', ⟨Nat.le_refl _⟩, ⟨tK BK317.out⟩, ⟨by repeat (first | (with_reducible first | exact HB.out | apply jA | apply jN | apply jD | refine jS ?_ GE317.out) | exact HB.out)⟩⟩
 case round =>
  clear H'
  try clear c1
  try clear c2
  try clear p2
  try clear hcz4_0
  try clear hcz4_1
  try clear hcz4_2
  try clear hcz4_3
  try clear hcz4_4
  try clear hfz4_0
  try clear hfz4_1
  try clear hfz4_2
  try clear hfz4_3
  try clear hfz4_4
  obtain ⟨x4_1, rfl, HA, HK1, BK317, HB⟩ := hrel
  cases gk with
  | zero => exact absurd HA.out (by simp [sl14_Little.l0])
  | succ k1 =>
   have H := HA.out
   clear HA
   simp only [sl14_Little.l0] at H
   have HC6 := jM H
   clear H
   go_upto_region 3 with (fail)
   go_cut [15] (fun v15 wc => ∃ (kq : Nat) (x15_5 : Bool), v15 = .bool x15_5 ∧ Aside0 (sl14_Little.j1 kq t318 x4_1 x15_5 l0_0 l0_1 l0_2 l0_3 a0_4 = some r) ∧ Aside0 (kq ≤ k1) ∧ Aside0 (wc.heap[gb317]? = some (.cells #[(.slice A0_0 l0_0.length c0_0), (.slice A0_1 l0_1.length c0_1), (.slice A0_2 l0_2.length c0_2), (.slice A0_3 l0_3.length c0_3), .int .i64 a0_4] 27 (0, 0))) ∧ Aside0 (Below w.heap.size w wc))
   case first =>
    have H := HC6.out
    clear HC6
    by_cases c7 : x4_1 < (l0_3.length : Int)
    ·rw [if_pos c7] at H
     have c7b0 : decide (x4_1 < (l0_3.length : Int)) = true := decide_eq_true c7
     clear c7
     (first | rw [c7b0] | (simp only [i64_w, i32_w]; rw [c7b0]) | skip)
     have H' := jM H
     clear H
     have hcz8_0 : wr.cell? ⟨gb317, 0, none⟩ = some (.slice A0_0 l0_0.length c0_0) := (jC BK317.out 0).trans rfl
     have hcz8_1 : wr.cell? ⟨gb317, 1, none⟩ = some (.slice A0_1 l0_1.length c0_1) := (jC BK317.out 1).trans rfl
     have hcz8_2 : wr.cell? ⟨gb317, 2, none⟩ = some (.slice A0_2 l0_2.length c0_2) := (jC BK317.out 2).trans rfl
     have hcz8_3 : wr.cell? ⟨gb317, 3, none⟩ = some (.slice A0_3 l0_3.length c0_3) := (jC BK317.out 3).trans rfl
     have hcz8_4 : wr.cell? ⟨gb317, 4, none⟩ = some (.int .i64 a0_4) := (jC BK317.out 4).trans rfl
     have hfz8_0 := jF BK317.out 0
     have hfz8_1 := jF BK317.out 1
     have hfz8_2 := jF BK317.out 2
     have hfz8_3 := jF BK317.out 3
     have hfz8_4 := jF BK317.out 4
     go_wp2
     go_meet
     case rel => exact ⟨_, (decide (x4_1 < 15)), tZ, H', ⟨by have := HK1.out; first | omega | exact Nat.le_refl _⟩, ⟨tK BK317.out⟩, ⟨by repeat (first | (with_reducible first | exact HB.out | apply jA | apply jN | apply jD | refine jS ?_ GE317.out) | exact HB.out)⟩⟩
    ·rw [if_neg c7] at H
     have c7b0 : decide (x4_1 < (l0_3.length : Int)) = false := decide_eq_false c7
     clear c7
     (first | rw [c7b0] | (simp only [i64_w, i32_w]; rw [c7b0]) | skip)
     have H' := jM H
     clear H
     have hcz9_0 : wr.cell? ⟨gb317, 0, none⟩ = some (.slice A0_0 l0_0.length c0_0) := (jC BK317.out 0).trans rfl
     have hcz9_1 : wr.cell? ⟨gb317, 1, none⟩ = some (.slice A0_1 l0_1.length c0_1) := (jC BK317.out 1).trans rfl
     have hcz9_2 : wr.cell? ⟨gb317, 2, none⟩ = some (.slice A0_2 l0_2.length c0_2) := (jC BK317.out 2).trans rfl
     have hcz9_3 : wr.cell? ⟨gb317, 3, none⟩ = some (.slice A0_3 l0_3.length c0_3) := (jC BK317.out 3).trans rfl
     have hcz9_4 : wr.cell? ⟨gb317, 4, none⟩ = some (.int .i64 a0_4) := (jC BK317.out 4).trans rfl
     have hfz9_0 := jF BK317.out 0
     have hfz9_1 := jF BK317.out 1
     have hfz9_2 := jF BK317.out 2
     have hfz9_3 := jF BK317.out 3
     have hfz9_4 := jF BK317.out 4
     go_wp2
     go_meet
     case rel => exact ⟨_, (false), tZ, H', ⟨by have := HK1.out; first | omega | exact Nat.le_refl _⟩, ⟨tK BK317.out⟩, ⟨by repeat (first | (with_reducible first | exact HB.out | apply jA | apply jN | apply jD | refine jS ?_ GE317.out) | exact HB.out)⟩⟩
   case rest =>
    clear HC6
    try clear c1
    try clear c2
    try clear p2
    try clear c7
    try clear c7b0
    try clear hcz4_0
    try clear hcz4_1
    try clear hcz4_2
    try clear hcz4_3
    try clear hcz4_4
    try clear hcz8_0
    try clear hcz8_1
    try clear hcz8_2
    try clear hcz8_3
    try clear hcz8_4
    try clear hcz9_0
    try clear hcz9_1
    try clear hcz9_2
    try clear hcz9_3
    try clear hcz9_4
    try clear hfz4_0
    try clear hfz4_1
    try clear hfz4_2
    try clear hfz4_3
    try clear hfz4_4
    try clear hfz8_0
    try clear hfz8_1
    try clear hfz8_2
    try clear hfz8_3
    try clear hfz8_4
    try clear hfz9_0
    try clear hfz9_1
    try clear hfz9_2
    try clear hfz9_3
    try clear hfz9_4
    try clear p2
    obtain ⟨kq, x15_5, rfl, HA, HJ5, BK317, HB⟩ := hcut
    cases kq with
    | zero => exact absurd HA.out (by simp [sl14_Little.j1])
    | succ kj5 =>
     have H := HA.out
     clear HA
     simp only [sl14_Little.j1] at H
     by_cases c10 : x15_5 = true
     ·subst c10
      have H1 : (if 0 ≤ x4_1 then (if x4_1 < (l0_3.length : Int) then (if (((rd_T64 l0_3 x4_1).f2).length : Int) > 5 then (some false) else (sl14_Little.l0 kj5 t318 (wrap64 (x4_1 + 1)) l0_0 l0_1 l0_2 l0_3 a0_4)) else (none)) else (none)) = some r := by rw [if_pos rfl] at H; exact H
      clear H
      have H := H1
      clear H1
      by_cases c11 : 0 ≤ x4_1
      ·rw [if_pos c11] at H
       have c11b0 : decide (0 ≤ x4_1) = true := decide_eq_true c11
       clear c11
       by_cases c12 : x4_1 < (l0_3.length : Int)
       ·rw [if_pos c12] at H
        have c12b0 : decide (x4_1 < (l0_3.length : Int)) = true := decide_eq_true c12
        clear c12
        by_cases c13 : (((rd_T64 l0_3 x4_1).f2).length : Int) > 5
        ·rw [if_pos c13] at H
         have c13b0 : decide (5 < (((rd_T64 l0_3 x4_1).f2).length : Int)) = true := decide_eq_true c13
         have c13b1 : decide (5 < ((rd_T64 l0_3 x4_1).f2).length) = true := decide_eq_true (by omega)
         clear c13
         obtain rfl := Option.some.inj H
         have hcz14_0 : wc.cell? ⟨gb317, 0, none⟩ = some (.slice A0_0 l0_0.length c0_0) := (jC BK317.out 0).trans rfl
         have hcz14_1 : wc.cell? ⟨gb317, 1, none⟩ = some (.slice A0_1 l0_1.length c0_1) := (jC BK317.out 1).trans rfl
         have hcz14_2 : wc.cell? ⟨gb317, 2, none⟩ = some (.slice A0_2 l0_2.length c0_2) := (jC BK317.out 2).trans rfl
         have hcz14_3 : wc.cell? ⟨gb317, 3, none⟩ = some (.slice A0_3 l0_3.length c0_3) := (jC BK317.out 3).trans rfl
         have hcz14_4 : wc.cell? ⟨gb317, 4, none⟩ = some (.int .i64 a0_4) := (jC BK317.out 4).trans rfl
         have hfz14_0 := jF BK317.out 0
         have hfz14_1 := jF BK317.out 1
         have hfz14_2 := jF BK317.out 2
         have hfz14_3 := jF BK317.out 3
         have hfz14_4 := jF BK317.out 4
         have p319 : 0 ≤ (x4_1 : Int) := of_decide_eq_true tD
         have q319 : x4_1 < (l0_3.length : Int) := of_decide_eq_true tD
         obtain ⟨ad319, A319_2, c319_2, e319, hx319_0, hx319_1, hx319_2, hx319_3, hl319_2, hi319_2⟩ := at_T64 HR0_3.out x4_1 p319 q319
         cases e319
         replace hx319_0 := (HB.out.cell (jL w _ hx319_0)).trans hx319_0
         replace hx319_1 := (HB.out.cell (jL w _ hx319_1)).trans hx319_1
         replace hx319_2 := (HB.out.cell (jL w _ hx319_2)).trans hx319_2
         replace hx319_3 := (HB.out.cell (jL w _ hx319_3)).trans hx319_3
         have HR319_2 := jM hi319_2
         have HC319_2 := jM hl319_2
         clear hi319_2 hl319_2
         replace p319 := eq_true p319
         replace q319 := eq_true q319
         go_wp2
         go_ret
         exact ⟨by first | rfl | (simp [errW_none, errW_some] <;> rfl) | (simp [*, errW_none, errW_some] <;> rfl), by repeat (first | (with_reducible first | exact HB.out | apply jA | apply jN | apply jD | refine jS ?_ GE317.out) | exact HB.out)⟩
        ·rw [if_neg c13] at H
         have c13b0 : decide (5 < (((rd_T64 l0_3 x4_1).f2).length : Int)) = false := decide_eq_false c13
         have c13b1 : decide (5 < ((rd_T64 l0_3 x4_1).f2).length) = false := decide_eq_false (by omega)
         clear c13
         have H' := jM H
         clear H
         have hcz15_0 : wc.cell? ⟨gb317, 0, none⟩ = some (.slice A0_0 l0_0.length c0_0) := (jC BK317.out 0).trans rfl
         have hcz15_1 : wc.cell? ⟨gb317, 1, none⟩ = some (.slice A0_1 l0_1.length c0_1) := (jC BK317.out 1).trans rfl
         have hcz15_2 : wc.cell? ⟨gb317, 2, none⟩ = some (.slice A0_2 l0_2.length c0_2) := (jC BK317.out 2).trans rfl
         have hcz15_3 : wc.cell? ⟨gb317, 3, none⟩ = some (.slice A0_3 l0_3.length c0_3) := (jC BK317.out 3).trans rfl
         have hcz15_4 : wc.cell? ⟨gb317, 4, none⟩ = some (.int .i64 a0_4) := (jC BK317.out 4).trans rfl
         have hfz15_0 := jF BK317.out 0
         have hfz15_1 := jF BK317.out 1
         have hfz15_2 := jF BK317.out 2
         have hfz15_3 := jF BK317.out 3
         have hfz15_4 := jF BK317.out 4
         have p319 : 0 ≤ (x4_1 : Int) := of_decide_eq_true tD
         have q319 : x4_1 < (l0_3.length : Int) := of_decide_eq_true tD
         obtain ⟨ad319, A319_2, c319_2, e319, hx319_0, hx319_1, hx319_2, hx319_3, hl319_2, hi319_2⟩ := at_T64 HR0_3.out x4_1 p319 q319
         cases e319
         replace hx319_0 := (HB.out.cell (jL w _ hx319_0)).trans hx319_0
         replace hx319_1 := (HB.out.cell (jL w _ hx319_1)).trans hx319_1
         replace hx319_2 := (HB.out.cell (jL w _ hx319_2)).trans hx319_2
         replace hx319_3 := (HB.out.cell (jL w _ hx319_3)).trans hx319_3
         have HR319_2 := jM hi319_2
         have HC319_2 := jM hl319_2
         clear hi319_2 hl319_2
         replace p319 := eq_true p319
         replace q319 := eq_true q319
         go_wp2
         go_roundg kj5
         case measure => have := HK1.out; have := HJ5.out; omega
         case rel => exact ⟨(wrap64 (x4_1 + 1)), tZ, H', ⟨by have := HK1.out; have := HJ5.out; omega⟩, ⟨tK BK317.out⟩, ⟨by repeat (first | (with_reducible first | exact HB.out | apply jA | apply jN | apply jD | refine jS ?_ GE317.out) | exact HB.out)⟩⟩
       ·rw [if_neg c12] at H
        exact absurd H (by simp)
      ·rw [if_neg c11] at H
       exact absurd H (by simp)
     ·replace c10 := Bool.eq_false_iff.mpr c10
      subst c10
      have H1 : (if t318 = true then (some (decide ((l0_3.length : Int) ≤ 10))) else (some false)) = some r := by rw [if_neg (show ¬ (false = true) by decide)] at H; exact H
      clear H
      have H := H1
      clear H1
      by_cases c16 : t318 = true
      ·subst c16
       have H1 : (some (decide ((l0_3.length : Int) ≤ 10))) = some r := by rw [if_pos rfl] at H; exact H
       clear H
       have H := H1
       clear H1
       obtain rfl := Option.some.inj H
       have hcz17_0 : wc.cell? ⟨gb317, 0, none⟩ = some (.slice A0_0 l0_0.length c0_0) := (jC BK317.out 0).trans rfl
       have hcz17_1 : wc.cell? ⟨gb317, 1, none⟩ = some (.slice A0_1 l0_1.length c0_1) := (jC BK317.out 1).trans rfl
       have hcz17_2 : wc.cell? ⟨gb317, 2, none⟩ = some (.slice A0_2 l0_2.length c0_2) := (jC BK317.out 2).trans rfl
       have hcz17_3 : wc.cell? ⟨gb317, 3, none⟩ = some (.slice A0_3 l0_3.length c0_3) := (jC BK317.out 3).trans rfl
       have hcz17_4 : wc.cell? ⟨gb317, 4, none⟩ = some (.int .i64 a0_4) := (jC BK317.out 4).trans rfl
       have hfz17_0 := jF BK317.out 0
       have hfz17_1 := jF BK317.out 1
       have hfz17_2 := jF BK317.out 2
       have hfz17_3 := jF BK317.out 3
       have hfz17_4 := jF BK317.out 4
       go_wp2
       go_ret
       exact ⟨by first | rfl | (simp [errW_none, errW_some] <;> rfl) | (simp [*, errW_none, errW_some] <;> rfl), by repeat (first | (with_reducible first | exact HB.out | apply jA | apply jN | apply jD | refine jS ?_ GE317.out) | exact HB.out)⟩
      ·replace c16 := Bool.eq_false_iff.mpr c16
       subst c16
       have H1 : (some false) = some r := by rw [if_neg (show ¬ (false = true) by decide)] at H; exact H
       clear H
       have H := H1
       clear H1
       obtain rfl := Option.some.inj H
       go_wp2
       go_ret
       exact ⟨by first | rfl | (simp [errW_none, errW_some] <;> rfl) | (simp [*, errW_none, errW_some] <;> rfl), by repeat (first | (with_reducible first | exact HB.out | apply jA | apply jN | apply jD | refine jS ?_ GE317.out) | exact HB.out)⟩

end Go.Proofs.YtclollnicbcooaaDoor.P
end

section
namespace Go.Proofs.YtclollnicbcooaaDoor.P
open Go.Proofs.YtclollnicbcooaaDoor.Base Go.RowKit Go.Proofs.YtclollnicbcooaaDoorW.PrintWords Go.Proofs.YtclollnicbcooaaDoorW.PrintLast Go.Proofs.YtclollnicbcooaaDoorW.PrintMore

def bad5 (l0 : List S82) (l2 : List ByteArray) (l3 : List S64) (st : Int) : Bool := decide (60 < l0.length) || decide (60 < l2.length) || decide (120 < l3.length) || decide (st < 0) || decide ((l2.length : Int) ≤ st)
section
variable {l0 : List S82} {l1 : List S101} {l2 : List ByteArray} {l3 : List S64} {st : Int}
theorem not_five (h : bad5 l0 l2 l3 st = true) : validB l0 l1 l2 l3 st = false := by
 simp only [bad5, Bool.or_eq_true, decide_eq_true_eq] at h
 rw [Bool.eq_false_iff]
 intro hv
 simp only [validB, Bool.and_eq_true, Bool.not_eq_true', decide_eq_false_iff_not, inB, decide_eq_true_eq] at hv
 obtain ⟨⟨⟨⟨⟨⟨⟨⟨h0, h1⟩, h2⟩, h3⟩, -⟩, -⟩, -⟩, -⟩, -⟩ := hv
 omega
theorem not_over (h : l1.all (pairB l0.length) = false) : validB l0 l1 l2 l3 st = false := by simp [validB, h]
theorem not_prods (h : l3.all (prodB l0.length l2.length) = false) : validB l0 l1 l2 l3 st = false := by simp [validB, h]
theorem not_sorts (h : rises (rdOf ByteArray.empty l2) l2.length = false) : validB l0 l1 l2 l3 st = false := by simp [validB, h]
theorem not_terms (h : rises (fun i => (rd_T82 l0 i).f0) l0.length = false) : validB l0 l1 l2 l3 st = false := by simp [validB, h]
theorem not_labels (h : rises (fun i => (rd_T64 l3 i).f0) l3.length = false) : validB l0 l1 l2 l3 st = false := by simp [validB, h]
theorem all_valid (h : bad5 l0 l2 l3 st = false) (h1 : l1.all (pairB l0.length) = true) (h2 : l3.all (prodB l0.length l2.length) = true) (h3 : rises (rdOf ByteArray.empty l2) l2.length = true) (h4 : rises (fun i => (rd_T82 l0 i).f0) l0.length = true) (h5 : rises (fun i => (rd_T64 l3 i).f0) l3.length = true) : validB l0 l1 l2 l3 st = true := by
 simp only [bad5, Bool.or_eq_false_iff, decide_eq_false_iff_not] at h
 obtain ⟨⟨⟨⟨g0, g1⟩, g2⟩, g3⟩, g4⟩ := h
 simp only [validB, h1, h2, h3, h4, h5, inB, Bool.and_true, Bool.and_eq_true, Bool.not_eq_true', decide_eq_false_iff_not, decide_eq_true_eq]
 exact ⟨⟨⟨g0, g1⟩, g2⟩, by omega, by omega⟩
theorem odd_is (T S : Nat) (s : Int) (hS : S ≤ 60) (hs : -9223372036854775808 ≤ s ∧ s ≤ 9223372036854775807) : oddB T S s = (decide ((T : Int) ≤ s) || decide (s < -(S : Int))) := by
 unfold oddB inB
 by_cases h0 : 0 ≤ s
 ·rw [decide_eq_true h0, decide_eq_false (by omega : ¬ s < 0), decide_eq_false (by omega : ¬ s < -(S : Int))]
  by_cases h1 : s < T
  ·rw [decide_eq_true h1, decide_eq_false (by omega : ¬ (T : Int) ≤ s)]; rfl
  ·rw [decide_eq_false h1, decide_eq_true (by omega : (T : Int) ≤ s)]; rfl
 ·rw [decide_eq_false h0, decide_eq_true (by omega : s < 0), decide_eq_false (by omega : ¬ (T : Int) ≤ s), IntWalk.i64_in _ (by omega), decide_eq_true (by omega : 0 ≤ -1 - s)]
  by_cases h1 : -1 - s < S
  ·rw [decide_eq_true h1, decide_eq_false (by omega : ¬ s < -(S : Int))]; rfl
  ·rw [decide_eq_false h1, decide_eq_true (by omega : s < -(S : Int))]; rfl
theorem RisesTo.down {f : Int → ByteArray} {k n : Nat} (h : RisesTo f k) (hn : n ≤ k) : RisesTo f n := fun i h0 hi => h i h0 (by omega)
end
theorem fives {w w' : World} {gb : Nat} {u0 u1 u2 u3 u4 : Value} (hb : Below w.heap.size w w') (h : w.cell? ⟨gb, 0, none⟩ = some u0 ∧ w.cell? ⟨gb, 1, none⟩ = some u1 ∧ w.cell? ⟨gb, 2, none⟩ = some u2 ∧ w.cell? ⟨gb, 3, none⟩ = some u3 ∧ w.cell? ⟨gb, 4, none⟩ = some u4) :
  w'.cell? ⟨gb, 0, none⟩ = some u0 ∧ w'.cell? ⟨gb, 1, none⟩ = some u1 ∧ w'.cell? ⟨gb, 2, none⟩ = some u2 ∧ w'.cell? ⟨gb, 3, none⟩ = some u3 ∧ w'.cell? ⟨gb, 4, none⟩ = some u4 :=
 ⟨pw_cell_below hb h.1, pw_cell_below hb h.2.1, pw_cell_below hb h.2.2.1, pw_cell_below hb h.2.2.2.1, pw_cell_below hb h.2.2.2.2⟩

set_option maxHeartbeats 8000000 in
set_option maxRecDepth 100000 in
theorem refv_walk (A0 : Option Addr) (c0 : Nat) (l0 : List S82) (A1 : Option Addr) (c1 : Nat) (l1 : List S101) (A2 : Option Addr) (c2 : Nat) (l2 : List ByteArray) (A3 : Option Addr) (c3 : Nat) (l3 : List S64) (st : Int) (w : World)
  (hr0 : Kd.C k82 w A0 l0.length l0) (hr1 : Kd.C k101 w A1 l1.length l1) (hr2 : Kd.C Kd.string w A2 l2.length l2) (hr3 : Kd.C k64 w A3 l3.length l3) (hrg : ∀ p ∈ l3, ∀ s ∈ p.f2, -9223372036854775808 ≤ s ∧ s ≤ 9223372036854775807) :
  Calls Tryd.prog 45 #[.agg #[.slice A0 l0.length c0, .slice A1 l1.length c1, .slice A2 l2.length c2, .slice A3 l3.length c3, .int .i64 st]] w fun e w' => e = .returned (.bool (validB l0 l1 l2 l3 st)) ∧ Below w.heap.size w w' := by
 have HR0 := Aside0.mk hr0
 have HR1 := Aside0.mk hr1
 have HR2 := Aside0.mk hr2
 have HR3 := Aside0.mk hr3
 have HRG := Aside0.mk hrg
 have hm0 : l0.length ≤ 9223372036854775807 := hr0.2.1
 have hm1 : l1.length ≤ 9223372036854775807 := hr1.2.1
 have hm2 : l2.length ≤ 9223372036854775807 := hr2.2.1
 have hm3 : l3.length ≤ 9223372036854775807 := hr3.2.1
 clear hr0 hr1 hr2 hr3 hrg
 have hu27 := Tryd.underlying27
 have hu64 := Tryd.underlying64
 have hu82 := Tryd.underlying82
 have hu101 := Tryd.underlying101
 go_enter Tryd.func45, Tryd.ntmps45
 go_upto_region 1 with fail
 have HB : Aside0 (Below w.heap.size w (w.alloc (Obj.cells #[.slice A0 l0.length c0, .slice A1 l1.length c1, .slice A2 l2.length c2, .slice A3 l3.length c3, .int .i64 st] 27))) := ⟨below_alloc (Below.refl _ _) _⟩
 have hY : (w.alloc (Obj.cells #[.slice A0 l0.length c0, .slice A1 l1.length c1, .slice A2 l2.length c2, .slice A3 l3.length c3, .int .i64 st] 27)).cell? ⟨w.heap.size, 0, none⟩ = some (.slice A0 l0.length c0) ∧ (w.alloc (Obj.cells #[.slice A0 l0.length c0, .slice A1 l1.length c1, .slice A2 l2.length c2, .slice A3 l3.length c3, .int .i64 st] 27)).cell? ⟨w.heap.size, 1, none⟩ = some (.slice A1 l1.length c1) ∧ (w.alloc (Obj.cells #[.slice A0 l0.length c0, .slice A1 l1.length c1, .slice A2 l2.length c2, .slice A3 l3.length c3, .int .i64 st] 27)).cell? ⟨w.heap.size, 2, none⟩ = some (.slice A2 l2.length c2) ∧ (w.alloc (Obj.cells #[.slice A0 l0.length c0, .slice A1 l1.length c1, .slice A2 l2.length c2, .slice A3 l3.length c3, .int .i64 st] 27)).cell? ⟨w.heap.size, 3, none⟩ = some (.slice A3 l3.length c3) ∧ (w.alloc (Obj.cells #[.slice A0 l0.length c0, .slice A1 l1.length c1, .slice A2 l2.length c2, .slice A3 l3.length c3, .int .i64 st] 27)).cell? ⟨w.heap.size, 4, none⟩ = some (.int .i64 st) := by
  refine ⟨?_, ?_, ?_, ?_, ?_⟩ <;> go_simp
 generalize w.alloc (Obj.cells #[.slice A0 l0.length c0, .slice A1 l1.length c1, .slice A2 l2.length c2, .slice A3 l3.length c3, .int .i64 st] 27) = w1 at *
 replace hY := Aside0.mk hY
 obtain ⟨z0, z1, z2, z3, z4⟩ := hY.out
 go_upto_region 3 with fail
 go_cut [39] from 17 to 39 (fun v39 wc => ∃ b : Bool, v39 = .bool b ∧ Aside0 (Below w1.heap.size w1 wc) ∧ Aside0 (bad5 l0 l2 l3 st = b))
 case first =>
  by_cases g1 : 60 < l0.length
  ·have d1 : decide (60 < l0.length) = true := decide_eq_true g1
   have e1 : Aside0 (bad5 l0 l2 l3 st = true) := ⟨by unfold bad5; rw [d1]; rfl⟩
   go_wp2_with fail
   go_meet
   exact ⟨true, by first | rfl | (simp; omega), ⟨Below.refl _ _⟩, e1⟩
  ·have d1 : decide (60 < l0.length) = false := decide_eq_false g1
   by_cases g2 : 60 < l2.length
   ·have d2 : decide (60 < l2.length) = true := decide_eq_true g2
    have e1 : Aside0 (bad5 l0 l2 l3 st = true) := ⟨by unfold bad5; rw [d1, d2]; rfl⟩
    go_wp2_with fail
    go_meet
    exact ⟨true, by first | rfl | (simp; omega), ⟨Below.refl _ _⟩, e1⟩
   ·have d2 : decide (60 < l2.length) = false := decide_eq_false g2
    by_cases g3 : 120 < l3.length
    ·have d3 : decide (120 < l3.length) = true := decide_eq_true g3
     have e1 : Aside0 (bad5 l0 l2 l3 st = true) := ⟨by unfold bad5; rw [d1, d2, d3]; rfl⟩
     go_wp2_with fail
     go_meet
     exact ⟨true, by first | rfl | (simp; omega), ⟨Below.refl _ _⟩, e1⟩
    ·have d3 : decide (120 < l3.length) = false := decide_eq_false g3
     by_cases g4 : st < 0
     ·have d4 : decide (st < 0) = true := decide_eq_true g4
      have e1 : Aside0 (bad5 l0 l2 l3 st = true) := ⟨by unfold bad5; rw [d1, d2, d3, d4]; rfl⟩
      go_wp2_with fail
      go_meet
      exact ⟨true, by first | rfl | (simp; omega), ⟨Below.refl _ _⟩, e1⟩
     ·have d4 : decide (st < 0) = false := decide_eq_false g4
      by_cases g5 : (l2.length : Int) ≤ st
      ·have d5 : decide ((l2.length : Int) ≤ st) = true := decide_eq_true g5
       have e1 : Aside0 (bad5 l0 l2 l3 st = true) := ⟨by unfold bad5; rw [d1, d2, d3, d4, d5]; rfl⟩
       go_wp2_with fail
       go_meet
       exact ⟨true, by first | rfl | (simp; omega), ⟨Below.refl _ _⟩, e1⟩
      ·have d5 : decide ((l2.length : Int) ≤ st) = false := decide_eq_false g5
       have e1 : Aside0 (bad5 l0 l2 l3 st = false) := ⟨by unfold bad5; rw [d1, d2, d3, d4, d5]; rfl⟩
       go_wp2_with fail
       go_meet
       exact ⟨false, by first | rfl | (simp; omega), ⟨Below.refl _ _⟩, e1⟩
 case rest =>
  obtain ⟨b, rfl, HB1, H5⟩ := hcut
  clear z0 z1 z2 z3 z4
  obtain ⟨w2, rfl⟩ : ∃ x, x = wc := ⟨_, rfl⟩
  have HBw : Aside0 (Below w.heap.size w w2) := ⟨below_step HB.out HB1.out⟩
  have hY2 := Aside0.mk (fives HB1.out hY.out)
  clear hY HB HB1
  cases b
  ·have hS : l2.length ≤ 60 := by
    have := H5.out
    simp only [bad5, Bool.or_eq_false_iff, decide_eq_false_iff_not] at this
    omega
   have HR0' := Aside0.mk (Kd.C_below HR0.out HBw.out)
   have HR1' := Aside0.mk (Kd.C_below HR1.out HBw.out)
   have HR2' := Aside0.mk (Kd.C_below HR2.out HBw.out)
   have HR3' := Aside0.mk (Kd.C_below HR3.out HBw.out)
   clear HR0 HR1 HR2 HR3
   obtain ⟨z0, z1, z2, z3, z4⟩ := hY2.out
   go_wp2
   clear z0 z1 z2 z3 z4
   go_loopw [5] (fun v wr => ∃ i : Nat, v = .int .i64 i ∧ i ≤ l1.length ∧ Aside0 ((l1.take i).all (pairB l0.length) = true) ∧ Aside0 (Below w2.heap.size w2 wr)) (fun v _ => l1.length - (intOf v).toNat)
   case atStart => exact ⟨0, rfl, Nat.zero_le _, ⟨by simp⟩, ⟨Below.refl _ _⟩⟩
   case round =>
    obtain ⟨i, rfl, hi, HA, HBR⟩ := hrel
    obtain ⟨z0, z1, z2, z3, z4⟩ := fives HBR.out hY2.out
    by_cases hlt : i < l1.length
    ·have hltb : decide (i < l1.length) = true := decide_eq_true hlt
     obtain ⟨ad, e1, hx0, hx1⟩ := at_T101 (Kd.C_below HR1'.out HBR.out) (i : Int) (by omega) (by omega)
     rw [Int.toNat_natCast] at hx0 hx1
     obtain ⟨q, hq⟩ : ∃ q, rd_T101 l1 i = q := ⟨_, rfl⟩
     rw [hq] at hx0 hx1
     have HQ : Aside0 (l1[i] = q) := ⟨by rw [← hq, rd63_at l1 i hlt]⟩
     clear hq
     subst e1
     obtain ⟨qa, hqa⟩ : ∃ a, q.f0 = a := ⟨_, rfl⟩
     obtain ⟨qb, hqb⟩ : ∃ a, q.f1 = a := ⟨_, rfl⟩
     rw [hqa] at hx0
     rw [hqb] at hx1
     have HP : Aside0 (pairB l0.length q = (inB qa l0.length && inB qb l0.length)) := ⟨by unfold pairB; rw [hqa, hqb]⟩
     clear hqa hqb
     go_upto_region 8 with fail
     go_cut [82] from 47 to 82 (fun v82 wc => ∃ b : Bool, v82 = .bool b ∧ Aside0 (Below w2.heap.size w2 wc) ∧ Aside0 (pairB l0.length q = !b))
     case first =>
      by_cases g1 : qa < 0
      ·have d1 : decide (qa < 0) = true := decide_eq_true g1
       have e1 : Aside0 (pairB l0.length q = false) := ⟨by rw [HP.out]; unfold inB; rw [decide_eq_false (by omega : ¬ 0 ≤ qa)]; rfl⟩
       go_wp2_with fail
       go_meet
       exact ⟨true, rfl, HBR, e1⟩
      ·have d1 : decide (qa < 0) = false := decide_eq_false g1
       by_cases g2 : (l0.length : Int) ≤ qa
       ·have d2 : decide ((l0.length : Int) ≤ qa) = true := decide_eq_true g2
        have e1 : Aside0 (pairB l0.length q = false) := ⟨by rw [HP.out]; unfold inB; rw [decide_eq_false (by omega : ¬ qa < l0.length), Bool.and_false]; rfl⟩
        go_wp2_with fail
        go_meet
        exact ⟨true, rfl, HBR, e1⟩
       ·have d2 : decide ((l0.length : Int) ≤ qa) = false := decide_eq_false g2
        by_cases g3 : qb < 0
        ·have d3 : decide (qb < 0) = true := decide_eq_true g3
         have e1 : Aside0 (pairB l0.length q = false) := ⟨by rw [HP.out]; unfold inB; rw [decide_eq_false (by omega : ¬ 0 ≤ qb), Bool.false_and, Bool.and_false]⟩
         go_wp2_with fail
         go_meet
         exact ⟨true, rfl, HBR, e1⟩
        ·have d3 : decide (qb < 0) = false := decide_eq_false g3
         by_cases g4 : (l0.length : Int) ≤ qb
         ·have d4 : decide ((l0.length : Int) ≤ qb) = true := decide_eq_true g4
          have e1 : Aside0 (pairB l0.length q = false) := ⟨by rw [HP.out]; unfold inB; rw [decide_eq_false (by omega : ¬ qb < l0.length), Bool.and_false, Bool.and_false]⟩
          go_wp2_with fail
          go_meet
          exact ⟨true, rfl, HBR, e1⟩
         ·have d4 : decide ((l0.length : Int) ≤ qb) = false := decide_eq_false g4
          have e1 : Aside0 (pairB l0.length q = true) := ⟨by rw [HP.out]; unfold inB; rw [decide_eq_true (by omega : 0 ≤ qa), decide_eq_true (by omega : qa < l0.length), decide_eq_true (by omega : 0 ≤ qb), decide_eq_true (by omega : qb < l0.length)]; rfl⟩
          go_wp2_with fail
          go_meet
          exact ⟨false, rfl, HBR, e1⟩
     case rest =>
      obtain ⟨b, rfl, HB2, HP2⟩ := hcut
      cases b
      ·go_wp2
       exact ⟨⟨i + 1, rfl, by omega, ⟨by rw [all_take _ _ i hlt, HA.out, HQ.out, HP2.out]; rfl⟩, HB2⟩, by simp [intOf]; omega⟩
      ·go_wp2
       go_ret
       exact ⟨by rw [not_over (by rw [all_part _ _ i hlt, HQ.out, HP2.out]; simp)]; rfl, below_step HBw.out HB2.out⟩
    ·have hltb : decide (i < l1.length) = false := decide_eq_false hlt
     have HOV : Aside0 (l1.all (pairB l0.length) = true) := ⟨by have := HA.out; rwa [List.take_of_length_le (by omega)] at this⟩
     clear HA hlt
     obtain ⟨w3, rfl⟩ : ∃ x, x = wr := ⟨_, rfl⟩
     have HB3 : Aside0 (Below w.heap.size w w3) := ⟨below_step HBw.out HBR.out⟩
     have hY3 := Aside0.mk (fives HBR.out hY2.out)
     have HR0'' := Aside0.mk (Kd.C_below HR0'.out HBR.out)
     have HR2'' := Aside0.mk (Kd.C_below HR2'.out HBR.out)
     have HR3'' := Aside0.mk (Kd.C_below HR3'.out HBR.out)
     clear HR0' HR1' HR2' HR3' HBw hY2 HBR
     go_wp2
     clear z0 z1 z2 z3 z4 hltb
     go_loopw [6] (fun v wr => ∃ k : Nat, v = .int .i64 k ∧ 1 ≤ k ∧ (k ≤ l0.length ∨ k = 1) ∧ Aside0 (RisesTo (fun i => (rd_T82 l0 i).f0) k) ∧ Aside0 (Below w3.heap.size w3 wr)) (fun v _ => l0.length - (intOf v).toNat)
     case atStart => exact ⟨1, rfl, Nat.le_refl _, .inr rfl, ⟨fun i h0 hi => by omega⟩, ⟨Below.refl _ _⟩⟩
     case round =>
      obtain ⟨k, rfl, hk1, hk, HT, HBR⟩ := hrel
      obtain ⟨z0, z1, z2, z3, z4⟩ := fives HBR.out hY3.out
      by_cases hlt : k < l0.length
      ·have hltb : decide (k < l0.length) = true := decide_eq_true hlt
       obtain ⟨j, hj⟩ : ∃ j : Int, (k : Int) - 1 = j := ⟨_, rfl⟩
       obtain ⟨ad, e1, hx1, -⟩ := at_T82 (Kd.C_below HR0''.out HBR.out) j (by omega) (by omega)
       obtain ⟨ad', e2, hx2, -⟩ := at_T82 (Kd.C_below HR0''.out HBR.out) (k : Int) (by omega) (by omega)
       obtain rfl : ad = ad' := Option.some.inj (e1.symm.trans e2)
       subst e1
       clear e2
       rw [Int.toNat_natCast] at hx2
       have q2 : (0 ≤ j) = True := eq_true (by omega)
       have q3 : (j < (l0.length : Int)) = True := eq_true (by omega)
       have hw : IntKind.i64.wrap ((k : Int) - 1) = j := by rw [IntWalk.i64_in _ (by omega)]; exact hj
       have HJ := Aside0.mk hj
       clear hj
       cases hb : Op.bytesLess (rd_T82 l0 j).f0.toList (rd_T82 l0 (k : Int)).f0.toList
       ·go_wp2
        go_quiet (fail)
        go_wp2
        go_ret
        exact ⟨by rw [not_terms (rises_not k (by omega) hlt (by rw [HJ.out]; exact hb))]; rfl, pw_below_drewN (below_step HB3.out HBR.out) _⟩
       ·go_wp2
        go_quiet (fail)
        go_wp2
        exact ⟨⟨k + 1, rfl, by omega, by omega, ⟨HT.out.step (.inr (by rw [HJ.out]; exact hb))⟩, ⟨pw_below_drewN HBR.out _⟩⟩, by simp [intOf]; omega⟩
      ·have hltb : decide (k < l0.length) = false := decide_eq_false hlt
       have HTE : Aside0 (rises (fun i => (rd_T82 l0 i).f0) l0.length = true) := ⟨rises_all (HT.out.down (by omega))⟩
       clear HT hlt hk hk1
       obtain ⟨w4, rfl⟩ : ∃ x, x = wr := ⟨_, rfl⟩
       have HB4 : Aside0 (Below w.heap.size w w4) := ⟨below_step HB3.out HBR.out⟩
       have hY4 := Aside0.mk (fives HBR.out hY3.out)
       have HR2' := Aside0.mk (Kd.C_below HR2''.out HBR.out)
       have HR3' := Aside0.mk (Kd.C_below HR3''.out HBR.out)
       clear HR0'' HR2'' HR3'' HB3 hY3 HBR
       go_wp2
       clear z0 z1 z2 z3 z4 hltb
       go_loopw [7] (fun v wr => ∃ k : Nat, v = .int .i64 k ∧ 1 ≤ k ∧ (k ≤ l2.length ∨ k = 1) ∧ Aside0 (RisesTo (rdOf ByteArray.empty l2) k) ∧ Aside0 (Below w4.heap.size w4 wr)) (fun v _ => l2.length - (intOf v).toNat)
       case atStart => exact ⟨1, rfl, Nat.le_refl _, .inr rfl, ⟨fun i h0 hi => by omega⟩, ⟨Below.refl _ _⟩⟩
       case round =>
        obtain ⟨k, rfl, hk1, hk, HT, HBR⟩ := hrel
        obtain ⟨z0, z1, z2, z3, z4⟩ := fives HBR.out hY4.out
        by_cases hlt : k < l2.length
        ·have hltb : decide (k < l2.length) = true := decide_eq_true hlt
         obtain ⟨j, hj⟩ : ∃ j : Int, (k : Int) - 1 = j := ⟨_, rfl⟩
         obtain ⟨ad, e1, hx1⟩ := Kd.at_string (Kd.C_below HR2'.out HBR.out) j (by omega) (by omega)
         obtain ⟨ad', e2, hx2⟩ := Kd.at_string (Kd.C_below HR2'.out HBR.out) (k : Int) (by omega) (by omega)
         obtain rfl : ad = ad' := Option.some.inj (e1.symm.trans e2)
         subst e1
         clear e2
         rw [Int.toNat_natCast] at hx2
         have q2 : (0 ≤ j) = True := eq_true (by omega)
         have q3 : (j < (l2.length : Int)) = True := eq_true (by omega)
         have hw : IntKind.i64.wrap ((k : Int) - 1) = j := by rw [IntWalk.i64_in _ (by omega)]; exact hj
         have HJ := Aside0.mk hj
         clear hj
         cases hb : Op.bytesLess (rdOf ByteArray.empty l2 j).toList (rdOf ByteArray.empty l2 (k : Int)).toList
         ·go_wp2
          go_quiet (fail)
          go_wp2
          go_ret
          exact ⟨by rw [not_sorts (rises_not k (by omega) hlt (by rw [HJ.out]; exact hb))]; rfl, pw_below_drewN (below_step HB4.out HBR.out) _⟩
         ·go_wp2
          go_quiet (fail)
          go_wp2
          exact ⟨⟨k + 1, rfl, by omega, by omega, ⟨HT.out.step (.inr (by rw [HJ.out]; exact hb))⟩, ⟨pw_below_drewN HBR.out _⟩⟩, by simp [intOf]; omega⟩
        ·have hltb : decide (k < l2.length) = false := decide_eq_false hlt
         have HSE : Aside0 (rises (rdOf ByteArray.empty l2) l2.length = true) := ⟨rises_all (HT.out.down (by omega))⟩
         clear HT hlt hk hk1
         obtain ⟨w5, rfl⟩ : ∃ x, x = wr := ⟨_, rfl⟩
         have HB5 : Aside0 (Below w.heap.size w w5) := ⟨below_step HB4.out HBR.out⟩
         have hY5 := Aside0.mk (fives HBR.out hY4.out)
         have HR3 := Aside0.mk (Kd.C_below HR3'.out HBR.out)
         clear HR2' HR3' HB4 hY4 HBR
         go_wp2
         clear z0 z1 z2 z3 z4 hltb
         go_loopw [8] (fun v wr => ∃ i : Nat, v = .int .i64 i ∧ i ≤ l3.length ∧ Aside0 (RisesTo (fun i => (rd_T64 l3 i).f0) i) ∧ Aside0 ((l3.take i).all (prodB l0.length l2.length) = true) ∧ Aside0 (Below w5.heap.size w5 wr)) (fun v _ => l3.length - (intOf v).toNat)
         case atStart => exact ⟨0, rfl, Nat.zero_le _, ⟨fun i h0 hi => by omega⟩, ⟨by simp⟩, ⟨Below.refl _ _⟩⟩
         case round =>
          obtain ⟨i, rfl, hi, HT, HA, HBR⟩ := hrel
          obtain ⟨z0, z1, z2, z3, z4⟩ := fives HBR.out hY5.out
          by_cases hlt : i < l3.length
          ·have hltb : decide (i < l3.length) = true := decide_eq_true hlt
           obtain ⟨ad, A4, c4, e4, hx1, hx2, hx3, hx4, hcap, hr4⟩ := at_T64 (Kd.C_below HR3.out HBR.out) (i : Int) (by omega) (by omega)
           rw [Int.toNat_natCast] at hx1 hx2 hx3 hx4
           obtain ⟨p, hp⟩ : ∃ p, rd_T64 l3 i = p := ⟨_, rfl⟩
           rw [hp] at hx1 hx2 hx3 hx4 hr4 hcap
           have HPI := Aside0.mk hp
           have HPK : Aside0 (l3[i] = p) := ⟨by rw [← hp, rd45_at l3 i hlt]⟩
           have HM : Aside0 (p ∈ l3) := ⟨by rw [← HPK.out]; exact List.getElem_mem hlt⟩
           have hbad : prodB l0.length l2.length p = false → validB l0 l1 l2 l3 st = false := fun h => not_prods (by rw [all_part _ _ i hlt, HPK.out, h]; simp)
           have HBD := Aside0.mk hbad
           clear hp hcap hbad
           subst e4
           obtain ⟨nl, hnl⟩ : ∃ nl, p.f2.length = nl := ⟨_, rfl⟩
           obtain ⟨lab, hlab⟩ : ∃ lab, p.f0 = lab := ⟨_, rfl⟩
           obtain ⟨srt, hsrt⟩ : ∃ srt, p.f1 = srt := ⟨_, rfl⟩
           obtain ⟨cls, hcls⟩ : ∃ cls, p.f3 = cls := ⟨_, rfl⟩
           rw [hlab] at hx1
           rw [hsrt] at hx2
           rw [hnl] at hx3
           rw [hcls] at hx4
           have HPB : Aside0 (prodB l0.length l2.length p = (inB srt l2.length && !decide (12 < nl) && !p.f2.any (oddB l0.length l2.length))) := ⟨by unfold prodB; rw [hsrt, hnl]⟩
           have HNL := Aside0.mk hnl
           have HLB := Aside0.mk hlab
           have HR4 := Aside0.mk hr4
           clear hlab hnl hcls hsrt hr4
           go_upto_region 24 with fail
           have HZ : Aside0 (Below wr.heap.size wr (wr.alloc (Obj.cells #[.string lab, .int .i64 srt, .slice A4 nl c4, .int .i64 cls] 64))) := ⟨below_alloc (Below.refl _ _) _⟩
           have x0 : (wr.alloc (Obj.cells #[.string lab, .int .i64 srt, .slice A4 nl c4, .int .i64 cls] 64)).cell? ⟨wr.heap.size, 0, none⟩ = some (.string lab) := by go_simp
           have x1 : (wr.alloc (Obj.cells #[.string lab, .int .i64 srt, .slice A4 nl c4, .int .i64 cls] 64)).cell? ⟨wr.heap.size, 1, none⟩ = some (.int .i64 srt) := by go_simp
           have x2 : (wr.alloc (Obj.cells #[.string lab, .int .i64 srt, .slice A4 nl c4, .int .i64 cls] 64)).cell? ⟨wr.heap.size, 2, none⟩ = some (.slice A4 nl c4) := by go_simp
           generalize wr.alloc (Obj.cells #[.string lab, .int .i64 srt, .slice A4 nl c4, .int .i64 cls] 64) = wz at *
           have HBZ : Aside0 (Below w5.heap.size w5 wz) := ⟨below_step HBR.out HZ.out⟩
           have HBwZ : Aside0 (Below w.heap.size w wz) := ⟨below_step HB5.out HBZ.out⟩
           have HR4Z := Aside0.mk (Kd.C_below HR4.out HZ.out)
           clear hx1 hx2 hx3 hx4 z0 z1 z2 z3 z4
           obtain ⟨z0, z1, z2, z3, z4⟩ := fives HBZ.out hY5.out
           have X2 := Aside0.mk x2
           clear HR4
           generalize wr.heap.size = gy at x0 x1 x2 X2 ⊢
           obtain ⟨wo, rfl⟩ : ∃ wo, wo = wr := ⟨_, rfl⟩
           go_cut [161] from 131 to 161 (fun v161 wc => ∃ b : Bool, v161 = .bool b ∧ Aside0 (Below wz.heap.size wz wc) ∧ Aside0 (b = false → (i = 0 ∨ Op.bytesLess (rd_T64 l3 ((i : Int) - 1)).f0.toList (rd_T64 l3 i).f0.toList = true) ∧ prodB l0.length l2.length p = !p.f2.any (oddB l0.length l2.length)) ∧ Aside0 (b = true → validB l0 l1 l2 l3 st = false))
           case first =>
            have hbad := HBD.out
            by_cases h0 : i = 0
            ·have d0 : decide (0 < i) = false := decide_eq_false (by omega)
             have H0 := Aside0.mk h0
             clear h0
             by_cases g1 : srt < 0
             ·have d1 : decide (srt < 0) = true := decide_eq_true g1
              have e1 : Aside0 (validB l0 l1 l2 l3 st = false) := ⟨hbad (by rw [HPB.out]; unfold inB; rw [decide_eq_false (by omega : ¬ 0 ≤ srt)]; rfl)⟩
              go_quiet (fail)
              go_wp2
              go_meet
              exact ⟨true, by first | rfl | (simp; omega), ⟨pw_below_drewN (Below.refl _ _) _⟩, ⟨fun h => by cases h⟩, ⟨fun _ => e1.out⟩⟩
             ·have d1 : decide (srt < 0) = false := decide_eq_false g1
              by_cases g2 : (l2.length : Int) ≤ srt
              ·have d2 : decide ((l2.length : Int) ≤ srt) = true := decide_eq_true g2
               have e1 : Aside0 (validB l0 l1 l2 l3 st = false) := ⟨hbad (by rw [HPB.out]; unfold inB; rw [decide_eq_false (by omega : ¬ srt < l2.length), Bool.and_false]; rfl)⟩
               go_quiet (fail)
               go_wp2
               go_meet
               exact ⟨true, by first | rfl | (simp; omega), ⟨pw_below_drewN (Below.refl _ _) _⟩, ⟨fun h => by cases h⟩, ⟨fun _ => e1.out⟩⟩
              ·have d2 : decide ((l2.length : Int) ≤ srt) = false := decide_eq_false g2
               by_cases g3 : 12 < nl
               ·have d3 : decide (12 < nl) = true := decide_eq_true g3
                have e1 : Aside0 (validB l0 l1 l2 l3 st = false) := ⟨hbad (by rw [HPB.out, d3]; simp)⟩
                go_quiet (fail)
                go_wp2
                go_meet
                exact ⟨true, by first | rfl | (simp; omega), ⟨pw_below_drewN (Below.refl _ _) _⟩, ⟨fun h => by cases h⟩, ⟨fun _ => e1.out⟩⟩
               ·have d3 : decide (12 < nl) = false := decide_eq_false g3
                have e1 : Aside0 (prodB l0.length l2.length p = !p.f2.any (oddB l0.length l2.length)) := ⟨by rw [HPB.out, d3]; unfold inB; rw [decide_eq_true (by omega : 0 ≤ srt), decide_eq_true (by omega : srt < l2.length)]; simp⟩
                go_quiet (fail)
                go_wp2
                go_meet
                exact ⟨false, by first | rfl | (simp; omega), ⟨pw_below_drewN (Below.refl _ _) _⟩, ⟨fun _ => ⟨.inl H0.out, e1.out⟩⟩, ⟨fun h => by cases h⟩⟩
            ·have d0 : decide (0 < i) = true := decide_eq_true (by omega)
             obtain ⟨j, hj⟩ : ∃ j : Int, (i : Int) - 1 = j := ⟨_, rfl⟩
             obtain ⟨ad', A5, c5, e5, hy1, -⟩ := at_T64 (Kd.C_below HR3.out HBZ.out) j (by omega) (by omega)
             cases e5
             have q2 : (0 ≤ j) = True := eq_true (by omega)
             have q3 : (j < (l3.length : Int)) = True := eq_true (by omega)
             have hw : IntKind.i64.wrap ((i : Int) - 1) = j := by rw [IntWalk.i64_in _ (by omega)]; exact hj
             have HJ := Aside0.mk hj
             clear hj
             cases hb : Op.bytesLess (rd_T64 l3 j).f0.toList lab.toList
             ·have e1 : Aside0 (validB l0 l1 l2 l3 st = false) := ⟨not_labels (rises_not i (by omega) hlt (by rw [HJ.out, HPI.out, HLB.out]; exact hb))⟩
              go_quiet (fail)
              go_wp2
              go_meet
              exact ⟨true, by first | rfl | (simp; omega), ⟨pw_below_drewN (Below.refl _ _) _⟩, ⟨fun h => by cases h⟩, ⟨fun _ => e1.out⟩⟩
             ·have HLT : Aside0 (Op.bytesLess (rd_T64 l3 ((i : Int) - 1)).f0.toList (rd_T64 l3 i).f0.toList = true) := ⟨by rw [HJ.out, HPI.out, HLB.out]; exact hb⟩
              by_cases g1 : srt < 0
              ·have d1 : decide (srt < 0) = true := decide_eq_true g1
               have e1 : Aside0 (validB l0 l1 l2 l3 st = false) := ⟨hbad (by rw [HPB.out]; unfold inB; rw [decide_eq_false (by omega : ¬ 0 ≤ srt)]; rfl)⟩
               go_quiet (fail)
               go_wp2
               go_meet
               exact ⟨true, by first | rfl | (simp; omega), ⟨pw_below_drewN (Below.refl _ _) _⟩, ⟨fun h => by cases h⟩, ⟨fun _ => e1.out⟩⟩
              ·have d1 : decide (srt < 0) = false := decide_eq_false g1
               by_cases g2 : (l2.length : Int) ≤ srt
               ·have d2 : decide ((l2.length : Int) ≤ srt) = true := decide_eq_true g2
                have e1 : Aside0 (validB l0 l1 l2 l3 st = false) := ⟨hbad (by rw [HPB.out]; unfold inB; rw [decide_eq_false (by omega : ¬ srt < l2.length), Bool.and_false]; rfl)⟩
                go_quiet (fail)
                go_wp2
                go_meet
                exact ⟨true, by first | rfl | (simp; omega), ⟨pw_below_drewN (Below.refl _ _) _⟩, ⟨fun h => by cases h⟩, ⟨fun _ => e1.out⟩⟩
               ·have d2 : decide ((l2.length : Int) ≤ srt) = false := decide_eq_false g2
                by_cases g3 : 12 < nl
                ·have d3 : decide (12 < nl) = true := decide_eq_true g3
                 have e1 : Aside0 (validB l0 l1 l2 l3 st = false) := ⟨hbad (by rw [HPB.out, d3]; simp)⟩
                 go_quiet (fail)
                 go_wp2
                 go_meet
                 exact ⟨true, by first | rfl | (simp; omega), ⟨pw_below_drewN (Below.refl _ _) _⟩, ⟨fun h => by cases h⟩, ⟨fun _ => e1.out⟩⟩
                ·have d3 : decide (12 < nl) = false := decide_eq_false g3
                 have e1 : Aside0 (prodB l0.length l2.length p = !p.f2.any (oddB l0.length l2.length)) := ⟨by rw [HPB.out, d3]; unfold inB; rw [decide_eq_true (by omega : 0 ≤ srt), decide_eq_true (by omega : srt < l2.length)]; simp⟩
                 go_quiet (fail)
                 go_wp2
                 go_meet
                 exact ⟨false, by first | rfl | (simp; omega), ⟨pw_below_drewN (Below.refl _ _) _⟩, ⟨fun _ => ⟨.inr HLT.out, e1.out⟩⟩, ⟨fun h => by cases h⟩⟩
           case rest =>
            obtain ⟨b, rfl, HB6, HF, HTR⟩ := hcut
            clear x0 x1 x2 z0 z1 z2 z3 z4
            obtain ⟨w6, rfl⟩ : ∃ x, x = wc := ⟨_, rfl⟩
            have HBw6 : Aside0 (Below w.heap.size w w6) := ⟨below_step HBwZ.out HB6.out⟩
            have x2 := pw_cell_below HB6.out X2.out
            cases b
            ·have HF2 := Aside0.mk (HF.out rfl)
             clear HF HTR
             have hneg : IntKind.i64.wrap (-(l2.length : Int)) = -(l2.length : Int) := IntWalk.i64_in _ (by omega)
             go_wp2
             clear x2 hltb
             go_loopw [10] (fun v wi => ∃ j : Nat, v = .int .i64 j ∧ j ≤ nl ∧ Aside0 ((p.f2.take j).any (oddB l0.length l2.length) = false) ∧ Aside0 (Below w6.heap.size w6 wi)) (fun v _ => nl - (intOf v).toNat)
             case atStart => exact ⟨0, rfl, Nat.zero_le _, ⟨by simp⟩, ⟨Below.refl _ _⟩⟩
             case round =>
              obtain ⟨j, rfl, hj, HO, HBI⟩ := hrel
              have HZI : Aside0 (Below wz.heap.size wz wr) := ⟨below_step HB6.out HBI.out⟩
              have x2 := pw_cell_below HZI.out X2.out
              have hmj : nl ≤ 9223372036854775807 := by have := HR4Z.out.2.1; rw [HNL.out] at this; exact this
              by_cases hjl : j < nl
              ·have hjb : decide (j < nl) = true := decide_eq_true hjl
               have hjl2 : j < p.f2.length := by rw [HNL.out]; exact hjl
               obtain ⟨ad5, e5, hxs⟩ := Kd.at_int (Kd.C_below HR4Z.out HZI.out) (j : Int) (by omega) (by omega)
               rw [Int.toNat_natCast] at hxs
               have hrk : rd p.f2 (j : Int) = p.f2[j] := by unfold rd; simp [List.getD, hjl2]
               have hrs := HRG.out p HM.out p.f2[j] (List.getElem_mem hjl2)
               have hat : Aside0 ((p.f2.take (j + 1)).any (oddB l0.length l2.length) = ((p.f2.take j).any (oddB l0.length l2.length) || oddB l0.length l2.length p.f2[j])) := ⟨by rw [List.take_add_one, List.getElem?_eq_getElem hjl2, List.any_append]; simp⟩
               have han : Aside0 (oddB l0.length l2.length p.f2[j] = true → p.f2.any (oddB l0.length l2.length) = true) := ⟨fun h => List.any_eq_true.2 ⟨_, List.getElem_mem hjl2, h⟩⟩
               obtain ⟨s, hs⟩ : ∃ s, p.f2[j] = s := ⟨_, rfl⟩
               rw [hrk, hs] at hxs
               rw [hs] at hrs hat han
               have HOD := Aside0.mk (odd_is l0.length l2.length s hS hrs)
               clear hrk hs hrs hjl2
               subst e5
               go_upto_region 29 with fail
               go_cut [185] from 169 to 185 (fun v185 wc => ∃ b : Bool, v185 = .bool b ∧ Aside0 (Below w6.heap.size w6 wc) ∧ Aside0 (oddB l0.length l2.length s = b))
               case first =>
                by_cases g1 : (l0.length : Int) ≤ s
                ·have d1 : decide ((l0.length : Int) ≤ s) = true := decide_eq_true g1
                 have e1 : Aside0 (oddB l0.length l2.length s = true) := ⟨by rw [HOD.out, d1]; rfl⟩
                 go_wp2_with fail
                 go_meet
                 exact ⟨true, by first | rfl | (simp; omega), HBI, e1⟩
                ·have d1 : decide ((l0.length : Int) ≤ s) = false := decide_eq_false g1
                 by_cases g2 : s < -(l2.length : Int)
                 ·have d2 : decide (s < -(l2.length : Int)) = true := decide_eq_true g2
                  have e1 : Aside0 (oddB l0.length l2.length s = true) := ⟨by rw [HOD.out, d1, d2]; rfl⟩
                  go_wp2_with fail
                  go_meet
                  exact ⟨true, by first | rfl | (simp; omega), HBI, e1⟩
                 ·have d2 : decide (s < -(l2.length : Int)) = false := decide_eq_false g2
                  have e1 : Aside0 (oddB l0.length l2.length s = false) := ⟨by rw [HOD.out, d1, d2]; rfl⟩
                  go_wp2_with fail
                  go_meet
                  exact ⟨false, by first | rfl | (simp; omega), HBI, e1⟩
               case rest =>
                obtain ⟨b, rfl, HB7, HOS⟩ := hcut
                cases b
                ·go_wp2
                 exact ⟨⟨j + 1, rfl, by omega, ⟨by rw [hat.out, HO.out, HOS.out]; rfl⟩, HB7⟩, by simp [intOf]; omega⟩
                ·go_wp2
                 go_ret
                 exact ⟨by rw [HBD.out (by rw [HF2.out.2, han.out HOS.out]; rfl)]; rfl, below_step HBw6.out HB7.out⟩
              ·have hjb : decide (j < nl) = false := decide_eq_false hjl
               have HPR : Aside0 (prodB l0.length l2.length p = true) := ⟨by have := HO.out; rw [List.take_of_length_le (by have := HNL.out; omega)] at this; rw [HF2.out.2, this]; rfl⟩
               go_wp2
               exact ⟨⟨i + 1, rfl, by omega, ⟨HT.out.step HF2.out.1⟩, ⟨by rw [all_take _ _ i hlt, HA.out, HPK.out, HPR.out]; rfl⟩, ⟨below_step HBZ.out HZI.out⟩⟩, by simp [intOf]; omega⟩
            ·have HTR2 := Aside0.mk (HTR.out rfl)
             clear HF HTR
             go_wp2
             go_ret
             exact ⟨by rw [HTR2.out]; rfl, HBw6.out⟩
          ·have hltb : decide (i < l3.length) = false := decide_eq_false hlt
           have HLE : Aside0 (rises (fun i => (rd_T64 l3 i).f0) l3.length = true) := ⟨rises_all (HT.out.down (by omega))⟩
           have HPE : Aside0 (l3.all (prodB l0.length l2.length) = true) := ⟨by have := HA.out; rwa [List.take_of_length_le (by omega)] at this⟩
           go_wp2
           go_ret
           exact ⟨by rw [all_valid H5.out HOV.out HPE.out HSE.out HTE.out HLE.out]; rfl, below_step HB5.out HBR.out⟩
  ·go_wp2
   go_ret
   exact ⟨by rw [not_five H5.out]; rfl, HBw.out⟩

/-- As a printed function: the answer of symbols within what numbers there are. -/
def sr12_Valid.f (l0 : List S82) (l1 : List S101) (l2 : List ByteArray) (l3 : List S64) (st : Int) : Option Bool :=
 if ∀ p ∈ l3, ∀ s ∈ p.f2, -9223372036854775808 ≤ s ∧ s ≤ 9223372036854775807 then some (validB l0 l1 l2 l3 st) else none
theorem sr12_Valid.calls (A0 : Option Addr) (c0 : Nat) (l0 : List S82) (A1 : Option Addr) (c1 : Nat) (l1 : List S101) (A2 : Option Addr) (c2 : Nat) (l2 : List ByteArray) (A3 : Option Addr) (c3 : Nat) (l3 : List S64) (st : Int) (r : Bool) (w : World)
  (hr0 : Kd.C k82 w A0 l0.length l0) (_ : l0.length ≤ c0) (hr1 : Kd.C k101 w A1 l1.length l1) (_ : l1.length ≤ c1) (hr2 : Kd.C Kd.string w A2 l2.length l2) (_ : l2.length ≤ c2) (hr3 : Kd.C k64 w A3 l3.length l3) (_ : l3.length ≤ c3) (h : sr12_Valid.f l0 l1 l2 l3 st = some r) :
  Calls Tryd.prog 45 #[.agg #[.slice A0 l0.length c0, .slice A1 l1.length c1, .slice A2 l2.length c2, .slice A3 l3.length c3, .int .i64 st]] w fun e w' => e = .returned (.bool r) ∧ Below w.heap.size w w' := by
 unfold sr12_Valid.f at h
 split at h
 ·rw [← Option.some.inj h]
  exact refv_walk A0 c0 l0 A1 c1 l1 A2 c2 l2 A3 c3 l3 st w hr0 hr1 hr2 hr3 (by assumption)
 ·cases h

end Go.Proofs.YtclollnicbcooaaDoor.P
end

section
namespace Go.Proofs.YtclollnicbcooaaDoor.P
open Go.RowKit Go.Proofs.YtclollnicbcooaaDoorW.PrintWords Go.Proofs.YtclollnicbcooaaDoorW.PrintLast Go.Proofs.YtclollnicbcooaaDoorW.PrintMore
attribute [local go_sem] max2_int min2_int max_two min_two max_three min_three max_four min_four

/-! ### sr14_Is: function 36 -/
def sr14_Is.f (l0_0 : List (S82)) (l0_1 : List (S101)) (l0_2 : List ByteArray) (l0_3 : List (S64)) (a0_4 : Int) (a1_0 : Int) (a1_1 : Int) : Option (Bool) := (sr12_Valid.f l0_0 l0_1 l0_2 l0_3 a0_4).bind fun t220 => (if t220 = true then (if a1_0 ≥ (-1) then (if a1_0 < (l0_3.length : Int) then (if a1_1 ≥ 0 then ((sr14_Right.f l0_0 l0_1 l0_2 l0_3 a0_4 a1_0).bind fun t221 => (some (decide (a1_1 ≤ (t221.length : Int))))) else (some false)) else (some false)) else (some false)) else (some false))
def sr14_Is.T2 : Bool × List (List Nat × List Nat) := (true, [([], []), ([0], [0]), ([1], [1]), ([2, 1], [1, 2]), ([3, 1], [1, 3]), ([1, 4], [1, 4]), ([5, 1], [5]), ([6], [6]), ([7, 6], [6, 7]), ([6], [6]), ([9, 6], [6, 9]), ([10, 6], [6, 10]), ([8, 11, 6], [6, 8, 11]), ([6, 12], [6, 12]), ([13, 6], [13]), ([14], [14]), ([15, 14], [14, 15]), ([16, 14], [14, 16]), ([14, 17], [14, 17]), ([18, 14], [18]), ([19], [19]), ([20, 19], [19, 20]), ([19], [19]), ([19], [19]), ([23, 19], [19, 23]), ([22, 24, 19, 19], [19, 22, 24]), ([25, 19], [19, 25]), ([21, 26, 19], [19, 21, 26]), ([19, 27], [19, 27]), ([28, 25, 0, 1, 2, 3, 4, 5, 6, 7, 8, 9, 10, 11, 12, 13, 14, 15, 16, 17, 18, 19, 20, 21, 22, 23, 24, 25, 26, 27, 28], [28])])
def sr14_Is.B2 : List Nat := [0, 1, 3, 7, 15, 31, 63, 127, 255, 127, 639, 1663, 4095, 8191, 16383, 32767, 65535, 131071, 262143, 524287, 1048575, 2097151, 1048575, 1048575, 9437183, 30408703, 63963135, 134217727, 268435455, 536870911]
theorem sr14_Is.tab2 : rtab .any (opsOf Tryd.f36 2) = sr14_Is.T2 := by kernel_rfl
theorem sr14_Is.bits2 : waitsOk sr14_Is.T2.2 sr14_Is.B2 = true := by kernel_rfl
set_option maxHeartbeats 8000000 in
set_option maxRecDepth 100000 in
theorem sr14_Is.calls (A0_0 : Option Addr) (c0_0 : Nat) (l0_0 : List (S82)) (A0_1 : Option Addr) (c0_1 : Nat) (l0_1 : List (S101)) (A0_2 : Option Addr) (c0_2 : Nat) (l0_2 : List ByteArray) (A0_3 : Option Addr) (c0_3 : Nat) (l0_3 : List (S64)) (a0_4 : Int) (a1_0 : Int) (a1_1 : Int) (r : Bool) (w : World) (hr0_0 : Kd.C k82 w A0_0 l0_0.length l0_0) (hc0_0 : l0_0.length ≤ c0_0) (hr0_1 : Kd.C k101 w A0_1 l0_1.length l0_1) (hc0_1 : l0_1.length ≤ c0_1) (hr0_2 : Kd.C Kd.string w A0_2 l0_2.length l0_2) (hc0_2 : l0_2.length ≤ c0_2) (hr0_3 : Kd.C k64 w A0_3 l0_3.length l0_3) (hc0_3 : l0_3.length ≤ c0_3) (h : sr14_Is.f l0_0 l0_1 l0_2 l0_3 a0_4 a1_0 a1_1 = some r) :
  Calls Tryd.prog 36 #[.agg #[.slice A0_0 l0_0.length c0_0, .slice A0_1 l0_1.length c0_1, .slice A0_2 l0_2.length c0_2, .slice A0_3 l0_3.length c0_3, .int .i64 a0_4], .agg #[.int .i64 a1_0, .int .i64 a1_1]] w fun e w' => e = .returned (.bool r) ∧ Below w.heap.size w w' := by
 have hu27 := Tryd.underlying27
 have hu39 := Tryd.underlying39
 have HR0_0 := jM hr0_0
 have HC0_0 := jM hc0_0
 clear hr0_0 hc0_0
 have HR0_1 := jM hr0_1
 have HC0_1 := jM hc0_1
 clear hr0_1 hc0_1
 have HR0_2 := jM hr0_2
 have HC0_2 := jM hc0_2
 clear hr0_2 hc0_2
 have HR0_3 := jM hr0_3
 have HC0_3 := jM hc0_3
 clear hr0_3 hc0_3
 have HB := jM (Below.refl w.heap.size w)
 have H : ((sr12_Valid.f l0_0 l0_1 l0_2 l0_3 a0_4).bind fun t220 => (if t220 = true then (if a1_0 ≥ (-1) then (if a1_0 < (l0_3.length : Int) then (if a1_1 ≥ 0 then ((sr14_Right.f l0_0 l0_1 l0_2 l0_3 a0_4 a1_0).bind fun t221 => (some (decide (a1_1 ≤ (t221.length : Int))))) else (some false)) else (some false)) else (some false)) else (some false))) = some r := h
 clear h
 replace H := Option.bind_eq_some_iff.mp H
 obtain ⟨t220, A30, H⟩ := H
 replace H : (if t220 = true then (if a1_0 ≥ (-1) then (if a1_0 < (l0_3.length : Int) then (if a1_1 ≥ 0 then ((sr14_Right.f l0_0 l0_1 l0_2 l0_3 a0_4 a1_0).bind fun t221 => (some (decide (a1_1 ≤ (t221.length : Int))))) else (some false)) else (some false)) else (some false)) else (some false)) = some r := H
 have A3 := jM A30
 clear A30
 by_cases c4 : t220 = true
 ·subst c4
  have H1 : (if a1_0 ≥ (-1) then (if a1_0 < (l0_3.length : Int) then (if a1_1 ≥ 0 then ((sr14_Right.f l0_0 l0_1 l0_2 l0_3 a0_4 a1_0).bind fun t221 => (some (decide (a1_1 ≤ (t221.length : Int))))) else (some false)) else (some false)) else (some false)) = some r := by rw [if_pos rfl] at H; exact H
  clear H
  have H := H1
  clear H1
  by_cases c5 : a1_0 ≥ (-1)
  ·rw [if_pos c5] at H
   have c5b0 : decide ((-1) ≤ a1_0) = true := decide_eq_true c5
   clear c5
   by_cases c6 : a1_0 < (l0_3.length : Int)
   ·rw [if_pos c6] at H
    have c6b0 : decide (a1_0 < (l0_3.length : Int)) = true := decide_eq_true c6
    clear c6
    by_cases c7 : a1_1 ≥ 0
    ·rw [if_pos c7] at H
     have c7b0 : decide (0 ≤ a1_1) = true := decide_eq_true c7
     clear c7
     replace H := Option.bind_eq_some_iff.mp H
     obtain ⟨t221, A80, H⟩ := H
     replace H : (some (decide (a1_1 ≤ (t221.length : Int)))) = some r := H
     have A8 := jM A80
     clear A80
     obtain rfl := Option.some.inj H
     go_enter Tryd.func36, Tryd.ntmps36
     try go_wp2_with (first | ((with_reducible refine gate_dst (N := 2) rfl ?_); (try (refine gate_guard (by rfl) ?_; dsimp only)); refine box_event ?hg (N := 2) ?hd (cs := #[.slice A0_0 l0_0.length c0_0, .slice A0_1 l0_1.length c0_1, .slice A0_2 l0_2.length c0_2, .slice A0_3 l0_3.length c0_3, .int .i64 a0_4]) (t := 27) ?hr ?_; (case hd => rfl); (case hg => rfl); (case hr => first | (go_simp; done) | (go_simp; rfl)); intro gb218 hg w9 hbox hb; have n0_ := jM (jT (tB HB.out) hb); have n1_ := jM (hbox); have n2_ := jM ((by rw [hg]; exact (below_size (tB HB.out)) : w.heap.size ≤ gb218)); have n3_ := jM ((by rw [hg]; exact (below_size (tB HB.out)) : w.heap.size ≤ gb218)); clear HB; have HB := n0_; have BK218 := n1_; have GW218 := n2_; have GE218 := n3_; clear n0_ n1_ n2_ n3_; clear hb hbox hg) | ((with_reducible refine gate_dst (N := 3) rfl ?_); (try (refine gate_guard (by rfl) ?_; dsimp only)); refine box_event ?hg (N := 3) ?hd (cs := #[.int .i64 a1_0, .int .i64 a1_1]) (t := 39) ?hr ?_; (case hd => rfl); (case hg => rfl); (case hr => first | (go_simp; done) | (go_simp; rfl)); intro gb219 hg w10 hbox hb; have n0_ := jM (jW (g := gb218) (o := .cells #[.slice A0_0 l0_0.length c0_0, .slice A0_1 l0_1.length c0_1, .slice A0_2 l0_2.length c0_2, .slice A0_3 l0_3.length c0_3, .int .i64 a0_4] 27 (0, 0)) (tK BK218.out) hb); have n1_ := jM (jT (by repeat (first | (with_reducible first | exact HB.out | apply jA | apply jN | apply jD | refine jS ?_ GE218.out) | exact HB.out)) hb); have n2_ := jM (hbox); have n3_ := jM ((by rw [hg]; exact (below_size (by repeat (first | (with_reducible first | exact HB.out | apply jA | apply jN | apply jD | refine jS ?_ GE218.out) | exact HB.out))) : w.heap.size ≤ gb219)); have n4_ := jM ((by rw [hg]; exact (below_size (by repeat (first | (with_reducible first | exact HB.out | apply jA | apply jN | apply jD | refine jS ?_ GE218.out) | exact HB.out))) : w.heap.size ≤ gb219)); have n5_ := jM ((by rw [hg]; exact Nat.ne_of_lt (blk_lt (g := gb218) (o := .cells #[.slice A0_0 l0_0.length c0_0, .slice A0_1 l0_1.length c0_1, .slice A0_2 l0_2.length c0_2, .slice A0_3 l0_3.length c0_3, .int .i64 a0_4] 27 (0, 0)) (tK BK218.out)) : gb218 ≠ gb219)); have n6_ := jM ((by rw [hg]; exact Nat.ne_of_gt (blk_lt (g := gb218) (o := .cells #[.slice A0_0 l0_0.length c0_0, .slice A0_1 l0_1.length c0_1, .slice A0_2 l0_2.length c0_2, .slice A0_3 l0_3.length c0_3, .int .i64 a0_4] 27 (0, 0)) (tK BK218.out)) : gb219 ≠ gb218)); clear BK218; clear HB; have BK218 := n0_; have HB := n1_; have BK219 := n2_; have GW219 := n3_; have GE219 := n4_; have NB218_219 := n5_; have NB219_218 := n6_; clear n0_ n1_ n2_ n3_ n4_ n5_ n6_; clear hb hbox hg; have hnb11 := NB218_219.out; have hnc11 := NB219_218.out; have hcz12_0 : w10.cell? ⟨gb218, 0, none⟩ = some (.slice A0_0 l0_0.length c0_0) := (jC BK218.out 0).trans rfl; have hcz12_1 : w10.cell? ⟨gb218, 1, none⟩ = some (.slice A0_1 l0_1.length c0_1) := (jC BK218.out 1).trans rfl; have hcz12_2 : w10.cell? ⟨gb218, 2, none⟩ = some (.slice A0_2 l0_2.length c0_2) := (jC BK218.out 2).trans rfl; have hcz12_3 : w10.cell? ⟨gb218, 3, none⟩ = some (.slice A0_3 l0_3.length c0_3) := (jC BK218.out 3).trans rfl; have hcz12_4 : w10.cell? ⟨gb218, 4, none⟩ = some (.int .i64 a0_4) := (jC BK218.out 4).trans rfl; have hfz12_0 := jF BK218.out 0; have hfz12_1 := jF BK218.out 1; have hfz12_2 := jF BK218.out 2; have hfz12_3 := jF BK218.out 3; have hfz12_4 := jF BK218.out 4) | ((with_reducible refine gate_callee (f := 45) rfl ?_); refine goesL_ (some 7) rfl rfl Tryd.func45 (by kernel_rfl) rfl #[.agg #[.slice A0_0 l0_0.length c0_0, .slice A0_1 l0_1.length c0_1, .slice A0_2 l0_2.length c0_2, .slice A0_3 l0_3.length c0_3, .int .i64 a0_4]] rfl tM ?_; (with_reducible refine (sr12_Valid.calls _ _ l0_0 _ _ l0_1 _ _ l0_2 _ _ l0_3 a0_4 true _ ?side1 ?side2 ?side3 ?side4 ?side5 ?side6 ?side7 ?side8 A3.out).mono ?_); (case side1 => exact tC (jB HR0_0.out HB.out)); (case side2 => exact HC0_0.out); (case side3 => exact tC (jB HR0_1.out HB.out)); (case side4 => exact HC0_1.out); (case side5 => exact tC (jB HR0_2.out HB.out)); (case side6 => exact HC0_2.out); (case side7 => exact tC (jB HR0_3.out HB.out)); (case side8 => exact HC0_3.out); rintro e w13 ⟨rfl, hb⟩; refine ⟨_, rfl, ?_⟩; have n0_ := jM (jW (g := gb218) (o := .cells #[.slice A0_0 l0_0.length c0_0, .slice A0_1 l0_1.length c0_1, .slice A0_2 l0_2.length c0_2, .slice A0_3 l0_3.length c0_3, .int .i64 a0_4] 27 (0, 0)) (tK BK218.out) hb); have n1_ := jM (jW (g := gb219) (o := .cells #[.int .i64 a1_0, .int .i64 a1_1] 39 (0, 0)) (tK BK219.out) hb); have n2_ := jM (jT (by repeat (first | (with_reducible first | exact HB.out | apply jA | apply jN | apply jD | refine jS ?_ GE218.out | refine jS ?_ GE219.out) | exact HB.out)) hb); clear BK218; clear BK219; clear HB; have BK218 := n0_; have BK219 := n1_; have HB := n2_; clear n0_ n1_ n2_; (try clear hb); (try clear hb2); (try clear hk); (try clear hi)))
     have n0_ := jM (jZ BK218.out)
     have n1_ := jM (jZ BK219.out)
     have n2_ := jM (jD HB.out)
     clear BK218 BK219 HB
     have BK218 := n0_
     have BK219 := n1_
     have HB := n2_
     clear n0_ n1_ n2_
     refine start_ (n := 30) (S := fun w' => w'.cell? ⟨gb219, 0, none⟩ = some (.int .i64 a1_0) ∧ w'.cell? ⟨gb219, 1, none⟩ = some (.int .i64 a1_1) ∧ w'.cell? ⟨gb218, 0, none⟩ = some (.slice A0_0 l0_0.length c0_0) ∧ w'.cell? ⟨gb218, 1, none⟩ = some (.slice A0_1 l0_1.length c0_1) ∧ w'.cell? ⟨gb218, 2, none⟩ = some (.slice A0_2 l0_2.length c0_2) ∧ w'.cell? ⟨gb218, 3, none⟩ = some (.slice A0_3 l0_3.length c0_3) ∧ w'.cell? ⟨gb218, 4, none⟩ = some (.int .i64 a0_4)) (ds := []) (tf 0 30) (by kernel_rfl) rfl rfl ⟨(jC BK219.out 0).trans rfl, (jC BK219.out 1).trans rfl, (jC BK218.out 0).trans rfl, (jC BK218.out 1).trans rfl, (jC BK218.out 2).trans rfl, (jC BK218.out 3).trans rfl, (jC BK218.out 4).trans rfl⟩ (fun hHeld => ?_); refine with_tabW sr14_Is.tab2 sr14_Is.bits2 (fun HT_ HW_ => ?_)
     generalize w13.drew = w14 at BK218 BK219 HB hHeld ⊢
     refine pU (i:=0) (N:=some 8) (tf 1 29) HT_ ?_
     refine pU (i:=1) (N:=some 9) (tf 2 28) HT_ ?_
     refine pU (i:=2) (N:=some 10) (tf 3 27) HT_ ?_
     refine tU (i:=3) (N:=some 11) (tf 4 26) HT_ HW_ hHeld ?_
     refine pU (i:=4) (N:=some 12) (tf 5 25) HT_ ?_
     refine pU (i:=5) (N:=some 13) (tf 6 24) HT_ ?_
     refine pU (i:=6) (N:=some 14) (tf 7 23) HT_ ?_
     refine pU (i:=7) (N:=some 15) (tf 8 22) HT_ ?_
     refine pU (i:=9) (N:=some 17) #[true, true, true, true, true, true, true, true, false, true, false, false, false, false, false, false, false, false, false, false, false, false, false, false, false, false, false, false, false, false] HT_ ?_
     refine tU (i:=8) (N:=some 16) (tf 10 20) HT_ HW_ hHeld ?_
     refine tU (i:=10) (N:=some 18) (tf 11 19) HT_ HW_ hHeld ?_
     refine pU (i:=11) (N:=some 19) (tf 12 18) HT_ ?_
     refine pU (i:=12) (N:=some 20) (tf 13 17) HT_ ?_
     refine pU (i:=13) (N:=some 21) (tf 14 16) HT_ ?_
     refine pU (i:=14) (N:=some 22) (tf 15 15) HT_ ?_
     refine pU (i:=15) (N:=some 23) (tf 16 14) HT_ ?_
     refine tU (i:=16) (N:=some 24) (tf 17 13) HT_ HW_ hHeld ?_
     refine pU (i:=17) (N:=some 25) (tf 18 12) HT_ ?_
     refine pU (i:=18) (N:=some 26) (tf 19 11) HT_ ?_
     refine pU (i:=19) (N:=some 27) (tf 20 10) HT_ ?_
     refine pU (i:=20) (N:=some 28) (tf 21 9) HT_ ?_
     refine pU (i:=23) (N:=some 31) #[true, true, true, true, true, true, true, true, true, true, true, true, true, true, true, true, true, true, true, true, true, false, false, true, false, false, false, false, false, false] HT_ ?_
     refine tU (i:=21) (N:=some 29) #[true, true, true, true, true, true, true, true, true, true, true, true, true, true, true, true, true, true, true, true, true, true, false, true, false, false, false, false, false, false] HT_ HW_ hHeld ?_
     refine tU (i:=22) (N:=some 30) (tf 24 6) HT_ HW_ hHeld ?_
     refine tU (i:=24) (N:=some 32) (tf 25 5) HT_ HW_ hHeld ?_
     refine one_ (i := 25) (N := some 33) (tf 26 4) rfl rfl (one_of HT_.out (by kernel_rfl)) (by decide) (fun K hK => ?_)
     refine goes_ Tryd.func37 (by kernel_rfl) rfl #[.agg #[.slice A0_0 l0_0.length c0_0, .slice A0_1 l0_1.length c0_1, .slice A0_2 l0_2.length c0_2, .slice A0_3 l0_3.length c0_3, .int .i64 a0_4], .int .i64 a1_0] (by rfl) rfl rfl tM ?_
     with_reducible refine (sr14_Right.calls _ _ l0_0 _ _ l0_1 _ _ l0_2 (fun k_ => k_ < w.heap.size) _ _ l0_3 a0_4 a1_0 t221 _ ?side1 ?side2 ?side3 ?side4 ?side5 ?side6 ?side7 A8.out).mono ?_
     (case side1 => exact tC (jB HR0_0.out HB.out))
     (case side2 => exact HC0_0.out)
     (case side3 => exact tC (jB HR0_1.out HB.out))
     (case side4 => exact HC0_1.out)
     (case side5 => exact tC (jB HR0_2.out HB.out))
     (case side6 => exact HC0_2.out)
     (case side7 => exact Kd.V_mk HC0_3.out (Kd.F_below (Kd.C_F k64_heap HR0_3.out) (by repeat (first | (with_reducible first | exact HB.out | apply jA | apply jN | apply jD | refine jS ?_ GE218.out | refine jS ?_ GE219.out) | exact HB.out))))
     rintro e w15 ⟨v222, rfl, ho0, hb⟩
     refine ⟨_, rfl, ?_⟩
     have n0_ := jM (Kd.V_lower (Kd.V_mono (ok' := fun k_ => k_ ≠ gb218 ∧ k_ ≠ gb219) ho0 (fun k_ hk_ => ⟨Or.elim hk_ (fun hs_ => fun e_ => Nat.not_le.2 hs_ (by rw [e_]; exact GW218.out)) (fun hn_ => (Kd.freshB (g := gb218) (o := .cells #[.slice A0_0 l0_0.length c0_0, .slice A0_1 l0_1.length c0_1, .slice A0_2 l0_2.length c0_2, .slice A0_3 l0_3.length c0_3, .int .i64 a0_4] 27 (0, 0)) (tK BK218.out) k_ hn_)), Or.elim hk_ (fun hs_ => fun e_ => Nat.not_le.2 hs_ (by rw [e_]; exact GW219.out)) (fun hn_ => (Kd.freshB (g := gb219) (o := .cells #[.int .i64 a1_0, .int .i64 a1_1] 39 (0, 0)) (tK BK219.out) k_ hn_))⟩)) (below_size (by repeat (first | (with_reducible first | exact HB.out | apply jA | apply jN | apply jD | refine jS ?_ GE218.out | refine jS ?_ GE219.out) | exact HB.out))))
     have n1_ := jM (jW (g := gb218) (o := .cells #[.slice A0_0 l0_0.length c0_0, .slice A0_1 l0_1.length c0_1, .slice A0_2 l0_2.length c0_2, .slice A0_3 l0_3.length c0_3, .int .i64 a0_4] 27 (0, 0)) (tK BK218.out) hb)
     have n2_ := jM (jW (g := gb219) (o := .cells #[.int .i64 a1_0, .int .i64 a1_1] 39 (0, 0)) (tK BK219.out) hb)
     have n3_ := jM (jT (by repeat (first | (with_reducible first | exact HB.out | apply jA | apply jN | apply jD | refine jS ?_ GE218.out | refine jS ?_ GE219.out) | exact HB.out)) hb)
     clear BK218 BK219 HB
     have HO223 := n0_
     have BK218 := n1_
     have BK219 := n2_
     have HB := n3_
     clear n0_ n1_ n2_ n3_
     (try clear hb)
     (try clear hb2)
     (try clear hk)
     (try clear hi)
     (try clear ho0)
     obtain ⟨Ao16, co16, eo16⟩ := Kd.V_slice HO223.out
     (first | subst eo16 | (injection eo16 with f1_ f2_ f3_; have f4_ := f1_.symm; have f5_ := f3_.symm; clear f1_ f2_ f3_; subst f4_; subst f5_))
     refine hK.out _ _ ⟨(jC BK219.out 0).trans rfl, (jC BK219.out 1).trans rfl, (jC BK218.out 0).trans rfl, (jC BK218.out 1).trans rfl, (jC BK218.out 2).trans rfl, (jC BK218.out 3).trans rfl, (jC BK218.out 4).trans rfl⟩ (fun hHeld => ?_)
     clear hK K
     refine nU (N:=some 33) ?_
     refine pU (i:=26) (N:=some 34) (tf 27 3) HT_ ?_
     refine pU (i:=27) (N:=some 35) (tf 28 2) HT_ ?_
     refine pU (i:=28) (N:=some 36) (tf 29 1) HT_ ?_
     refine pU (i:=29) (N:=some 4) (tf 30 0) HT_ ?_
     refine done_ (done_of HT_.out (by kernel_rfl)) ?_
     try go_wp2
     go_ret
     exact ⟨by first | rfl | (simp [errW_none, errW_some] <;> rfl) | (simp [*, errW_none, errW_some] <;> rfl), by repeat (first | (with_reducible first | exact HB.out | apply jA | apply jN | apply jD | refine jS ?_ GE218.out | refine jS ?_ GE219.out) | exact HB.out)⟩
    ·rw [if_neg c7] at H
     have c7b0 : decide (0 ≤ a1_1) = false := decide_eq_false c7
     clear c7
     obtain rfl := Option.some.inj H
     go_enter Tryd.func36, Tryd.ntmps36
     try go_wp2_with (first | ((with_reducible refine gate_dst (N := 2) rfl ?_); (try (refine gate_guard (by rfl) ?_; dsimp only)); refine box_event ?hg (N := 2) ?hd (cs := #[.slice A0_0 l0_0.length c0_0, .slice A0_1 l0_1.length c0_1, .slice A0_2 l0_2.length c0_2, .slice A0_3 l0_3.length c0_3, .int .i64 a0_4]) (t := 27) ?hr ?_; (case hd => rfl); (case hg => rfl); (case hr => first | (go_simp; done) | (go_simp; rfl)); intro gb218 hg w17 hbox hb; have n0_ := jM (jT (tB HB.out) hb); have n1_ := jM (hbox); have n2_ := jM ((by rw [hg]; exact (below_size (tB HB.out)) : w.heap.size ≤ gb218)); have n3_ := jM ((by rw [hg]; exact (below_size (tB HB.out)) : w.heap.size ≤ gb218)); clear HB; have HB := n0_; have BK218 := n1_; have GW218 := n2_; have GE218 := n3_; clear n0_ n1_ n2_ n3_; clear hb hbox hg) | ((with_reducible refine gate_dst (N := 3) rfl ?_); (try (refine gate_guard (by rfl) ?_; dsimp only)); refine box_event ?hg (N := 3) ?hd (cs := #[.int .i64 a1_0, .int .i64 a1_1]) (t := 39) ?hr ?_; (case hd => rfl); (case hg => rfl); (case hr => first | (go_simp; done) | (go_simp; rfl)); intro gb219 hg w18 hbox hb; have n0_ := jM (jW (g := gb218) (o := .cells #[.slice A0_0 l0_0.length c0_0, .slice A0_1 l0_1.length c0_1, .slice A0_2 l0_2.length c0_2, .slice A0_3 l0_3.length c0_3, .int .i64 a0_4] 27 (0, 0)) (tK BK218.out) hb); have n1_ := jM (jT (by repeat (first | (with_reducible first | exact HB.out | apply jA | apply jN | apply jD | refine jS ?_ GE218.out) | exact HB.out)) hb); have n2_ := jM (hbox); have n3_ := jM ((by rw [hg]; exact (below_size (by repeat (first | (with_reducible first | exact HB.out | apply jA | apply jN | apply jD | refine jS ?_ GE218.out) | exact HB.out))) : w.heap.size ≤ gb219)); have n4_ := jM ((by rw [hg]; exact (below_size (by repeat (first | (with_reducible first | exact HB.out | apply jA | apply jN | apply jD | refine jS ?_ GE218.out) | exact HB.out))) : w.heap.size ≤ gb219)); have n5_ := jM ((by rw [hg]; exact Nat.ne_of_lt (blk_lt (g := gb218) (o := .cells #[.slice A0_0 l0_0.length c0_0, .slice A0_1 l0_1.length c0_1, .slice A0_2 l0_2.length c0_2, .slice A0_3 l0_3.length c0_3, .int .i64 a0_4] 27 (0, 0)) (tK BK218.out)) : gb218 ≠ gb219)); have n6_ := jM ((by rw [hg]; exact Nat.ne_of_gt (blk_lt (g := gb218) (o := .cells #[.slice A0_0 l0_0.length c0_0, .slice A0_1 l0_1.length c0_1, .slice A0_2 l0_2.length c0_2, .slice A0_3 l0_3.length c0_3, .int .i64 a0_4] 27 (0, 0)) (tK BK218.out)) : gb219 ≠ gb218)); clear BK218; clear HB; have BK218 := n0_; have HB := n1_; have BK219 := n2_; have GW219 := n3_; have GE219 := n4_; have NB218_219 := n5_; have NB219_218 := n6_; clear n0_ n1_ n2_ n3_ n4_ n5_ n6_; clear hb hbox hg; have hnb19 := NB218_219.out; have hnc19 := NB219_218.out; have hcz20_0 : w18.cell? ⟨gb218, 0, none⟩ = some (.slice A0_0 l0_0.length c0_0) := (jC BK218.out 0).trans rfl; have hcz20_1 : w18.cell? ⟨gb218, 1, none⟩ = some (.slice A0_1 l0_1.length c0_1) := (jC BK218.out 1).trans rfl; have hcz20_2 : w18.cell? ⟨gb218, 2, none⟩ = some (.slice A0_2 l0_2.length c0_2) := (jC BK218.out 2).trans rfl; have hcz20_3 : w18.cell? ⟨gb218, 3, none⟩ = some (.slice A0_3 l0_3.length c0_3) := (jC BK218.out 3).trans rfl; have hcz20_4 : w18.cell? ⟨gb218, 4, none⟩ = some (.int .i64 a0_4) := (jC BK218.out 4).trans rfl; have hfz20_0 := jF BK218.out 0; have hfz20_1 := jF BK218.out 1; have hfz20_2 := jF BK218.out 2; have hfz20_3 := jF BK218.out 3; have hfz20_4 := jF BK218.out 4) | ((with_reducible refine gate_callee (f := 45) rfl ?_); refine goesL_ (some 7) rfl rfl Tryd.func45 (by kernel_rfl) rfl #[.agg #[.slice A0_0 l0_0.length c0_0, .slice A0_1 l0_1.length c0_1, .slice A0_2 l0_2.length c0_2, .slice A0_3 l0_3.length c0_3, .int .i64 a0_4]] rfl tM ?_; (with_reducible refine (sr12_Valid.calls _ _ l0_0 _ _ l0_1 _ _ l0_2 _ _ l0_3 a0_4 true _ ?side1 ?side2 ?side3 ?side4 ?side5 ?side6 ?side7 ?side8 A3.out).mono ?_); (case side1 => exact tC (jB HR0_0.out HB.out)); (case side2 => exact HC0_0.out); (case side3 => exact tC (jB HR0_1.out HB.out)); (case side4 => exact HC0_1.out); (case side5 => exact tC (jB HR0_2.out HB.out)); (case side6 => exact HC0_2.out); (case side7 => exact tC (jB HR0_3.out HB.out)); (case side8 => exact HC0_3.out); rintro e w21 ⟨rfl, hb⟩; refine ⟨_, rfl, ?_⟩; have n0_ := jM (jW (g := gb218) (o := .cells #[.slice A0_0 l0_0.length c0_0, .slice A0_1 l0_1.length c0_1, .slice A0_2 l0_2.length c0_2, .slice A0_3 l0_3.length c0_3, .int .i64 a0_4] 27 (0, 0)) (tK BK218.out) hb); have n1_ := jM (jW (g := gb219) (o := .cells #[.int .i64 a1_0, .int .i64 a1_1] 39 (0, 0)) (tK BK219.out) hb); have n2_ := jM (jT (by repeat (first | (with_reducible first | exact HB.out | apply jA | apply jN | apply jD | refine jS ?_ GE218.out | refine jS ?_ GE219.out) | exact HB.out)) hb); clear BK218; clear BK219; clear HB; have BK218 := n0_; have BK219 := n1_; have HB := n2_; clear n0_ n1_ n2_; (try clear hb); (try clear hb2); (try clear hk); (try clear hi)))
     have n0_ := jM (jZ BK218.out)
     have n1_ := jM (jZ BK219.out)
     have n2_ := jM (jD HB.out)
     clear BK218 BK219 HB
     have BK218 := n0_
     have BK219 := n1_
     have HB := n2_
     clear n0_ n1_ n2_
     refine start_ (n := 30) (S := fun w' => w'.cell? ⟨gb219, 0, none⟩ = some (.int .i64 a1_0) ∧ w'.cell? ⟨gb219, 1, none⟩ = some (.int .i64 a1_1) ∧ w'.cell? ⟨gb218, 0, none⟩ = some (.slice A0_0 l0_0.length c0_0) ∧ w'.cell? ⟨gb218, 1, none⟩ = some (.slice A0_1 l0_1.length c0_1) ∧ w'.cell? ⟨gb218, 2, none⟩ = some (.slice A0_2 l0_2.length c0_2) ∧ w'.cell? ⟨gb218, 3, none⟩ = some (.slice A0_3 l0_3.length c0_3) ∧ w'.cell? ⟨gb218, 4, none⟩ = some (.int .i64 a0_4)) (ds := []) (tf 0 30) (by kernel_rfl) rfl rfl ⟨(jC BK219.out 0).trans rfl, (jC BK219.out 1).trans rfl, (jC BK218.out 0).trans rfl, (jC BK218.out 1).trans rfl, (jC BK218.out 2).trans rfl, (jC BK218.out 3).trans rfl, (jC BK218.out 4).trans rfl⟩ (fun hHeld => ?_); refine with_tabW sr14_Is.tab2 sr14_Is.bits2 (fun HT_ HW_ => ?_)
     generalize w21.drew = w22 at BK218 BK219 HB hHeld ⊢
     refine pU (i:=0) (N:=some 8) (tf 1 29) HT_ ?_
     refine pU (i:=1) (N:=some 9) (tf 2 28) HT_ ?_
     refine pU (i:=2) (N:=some 10) (tf 3 27) HT_ ?_
     refine tU (i:=3) (N:=some 11) (tf 4 26) HT_ HW_ hHeld ?_
     refine pU (i:=4) (N:=some 12) (tf 5 25) HT_ ?_
     refine pU (i:=5) (N:=some 13) (tf 6 24) HT_ ?_
     refine pU (i:=6) (N:=some 14) (tf 7 23) HT_ ?_
     refine pU (i:=7) (N:=some 15) (tf 8 22) HT_ ?_
     refine pU (i:=9) (N:=some 17) #[true, true, true, true, true, true, true, true, false, true, false, false, false, false, false, false, false, false, false, false, false, false, false, false, false, false, false, false, false, false] HT_ ?_
     refine tU (i:=8) (N:=some 16) (tf 10 20) HT_ HW_ hHeld ?_
     refine tU (i:=10) (N:=some 18) (tf 11 19) HT_ HW_ hHeld ?_
     refine pU (i:=11) (N:=some 19) (tf 12 18) HT_ ?_
     refine pU (i:=12) (N:=some 20) (tf 13 17) HT_ ?_
     refine pU (i:=13) (N:=some 21) (tf 14 16) HT_ ?_
     refine pU (i:=14) (N:=some 22) (tf 15 15) HT_ ?_
     refine pU (i:=15) (N:=some 23) (tf 16 14) HT_ ?_
     refine tU (i:=16) (N:=some 24) (tf 17 13) HT_ HW_ hHeld ?_
     refine pU (i:=17) (N:=some 25) (tf 18 12) HT_ ?_
     refine pU (i:=18) (N:=some 26) (tf 19 11) HT_ ?_
     refine pU (i:=19) (N:=some 27) (tf 20 10) HT_ ?_
     refine pV (i:=20) (N:=some 28) (tf 21 9) HT_ ?_
     refine pV (i:=21) (N:=some 29) (tf 22 8) HT_ ?_
     refine pV (i:=22) (N:=some 30) (tf 23 7) HT_ ?_
     refine pV (i:=23) (N:=some 31) (tf 24 6) HT_ ?_
     refine pV (i:=24) (N:=some 32) (tf 25 5) HT_ ?_
     refine pV (i:=25) (N:=some 33) (tf 26 4) HT_ ?_
     refine pV (i:=26) (N:=some 34) (tf 27 3) HT_ ?_
     refine pV (i:=27) (N:=some 35) (tf 28 2) HT_ ?_
     refine pU (i:=28) (N:=some 36) (tf 29 1) HT_ ?_
     refine pU (i:=29) (N:=some 4) (tf 30 0) HT_ ?_
     refine done_ (done_of HT_.out (by kernel_rfl)) ?_
     try go_wp2
     go_ret
     exact ⟨by first | rfl | (simp [errW_none, errW_some] <;> rfl) | (simp [*, errW_none, errW_some] <;> rfl), by repeat (first | (with_reducible first | exact HB.out | apply jA | apply jN | apply jD | refine jS ?_ GE218.out | refine jS ?_ GE219.out) | exact HB.out)⟩
   ·rw [if_neg c6] at H
    have c6b0 : decide (a1_0 < (l0_3.length : Int)) = false := decide_eq_false c6
    clear c6
    obtain rfl := Option.some.inj H
    go_enter Tryd.func36, Tryd.ntmps36
    try go_wp2_with (first | ((with_reducible refine gate_dst (N := 2) rfl ?_); (try (refine gate_guard (by rfl) ?_; dsimp only)); refine box_event ?hg (N := 2) ?hd (cs := #[.slice A0_0 l0_0.length c0_0, .slice A0_1 l0_1.length c0_1, .slice A0_2 l0_2.length c0_2, .slice A0_3 l0_3.length c0_3, .int .i64 a0_4]) (t := 27) ?hr ?_; (case hd => rfl); (case hg => rfl); (case hr => first | (go_simp; done) | (go_simp; rfl)); intro gb218 hg w23 hbox hb; have n0_ := jM (jT (tB HB.out) hb); have n1_ := jM (hbox); have n2_ := jM ((by rw [hg]; exact (below_size (tB HB.out)) : w.heap.size ≤ gb218)); have n3_ := jM ((by rw [hg]; exact (below_size (tB HB.out)) : w.heap.size ≤ gb218)); clear HB; have HB := n0_; have BK218 := n1_; have GW218 := n2_; have GE218 := n3_; clear n0_ n1_ n2_ n3_; clear hb hbox hg) | ((with_reducible refine gate_dst (N := 3) rfl ?_); (try (refine gate_guard (by rfl) ?_; dsimp only)); refine box_event ?hg (N := 3) ?hd (cs := #[.int .i64 a1_0, .int .i64 a1_1]) (t := 39) ?hr ?_; (case hd => rfl); (case hg => rfl); (case hr => first | (go_simp; done) | (go_simp; rfl)); intro gb219 hg w24 hbox hb; have n0_ := jM (jW (g := gb218) (o := .cells #[.slice A0_0 l0_0.length c0_0, .slice A0_1 l0_1.length c0_1, .slice A0_2 l0_2.length c0_2, .slice A0_3 l0_3.length c0_3, .int .i64 a0_4] 27 (0, 0)) (tK BK218.out) hb); have n1_ := jM (jT (by repeat (first | (with_reducible first | exact HB.out | apply jA | apply jN | apply jD | refine jS ?_ GE218.out) | exact HB.out)) hb); have n2_ := jM (hbox); have n3_ := jM ((by rw [hg]; exact (below_size (by repeat (first | (with_reducible first | exact HB.out | apply jA | apply jN | apply jD | refine jS ?_ GE218.out) | exact HB.out))) : w.heap.size ≤ gb219)); have n4_ := jM ((by rw [hg]; exact (below_size (by repeat (first | (with_reducible first | exact HB.out | apply jA | apply jN | apply jD | refine jS ?_ GE218.out) | exact HB.out))) : w.heap.size ≤ gb219)); have n5_ := jM ((by rw [hg]; exact Nat.ne_of_lt (blk_lt (g := gb218) (o := .cells #[.slice A0_0 l0_0.length c0_0, .slice A0_1 l0_1.length c0_1, .slice A0_2 l0_2.length c0_2, .slice A0_3 l0_3.length c0_3, .int .i64 a0_4] 27 (0, 0)) (tK BK218.out)) : gb218 ≠ gb219)); have n6_ := jM ((by rw [hg]; exact Nat.ne_of_gt (blk_lt (g := gb218) (o := .cells #[.slice A0_0 l0_0.length c0_0, .slice A0_1 l0_1.length c0_1, .slice A0_2 l0_2.length c0_2, .slice A0_3 l0_3.length c0_3, .int .i64 a0_4] 27 (0, 0)) (tK BK218.out)) : gb219 ≠ gb218)); clear BK218; clear HB; have BK218 := n0_; have HB := n1_; have BK219 := n2_; have GW219 := n3_; have GE219 := n4_; have NB218_219 := n5_; have NB219_218 := n6_; clear n0_ n1_ n2_ n3_ n4_ n5_ n6_; clear hb hbox hg; have hnb25 := NB218_219.out; have hnc25 := NB219_218.out; have hcz26_0 : w24.cell? ⟨gb218, 0, none⟩ = some (.slice A0_0 l0_0.length c0_0) := (jC BK218.out 0).trans rfl; have hcz26_1 : w24.cell? ⟨gb218, 1, none⟩ = some (.slice A0_1 l0_1.length c0_1) := (jC BK218.out 1).trans rfl; have hcz26_2 : w24.cell? ⟨gb218, 2, none⟩ = some (.slice A0_2 l0_2.length c0_2) := (jC BK218.out 2).trans rfl; have hcz26_3 : w24.cell? ⟨gb218, 3, none⟩ = some (.slice A0_3 l0_3.length c0_3) := (jC BK218.out 3).trans rfl; have hcz26_4 : w24.cell? ⟨gb218, 4, none⟩ = some (.int .i64 a0_4) := (jC BK218.out 4).trans rfl; have hfz26_0 := jF BK218.out 0; have hfz26_1 := jF BK218.out 1; have hfz26_2 := jF BK218.out 2; have hfz26_3 := jF BK218.out 3; have hfz26_4 := jF BK218.out 4) | ((with_reducible refine gate_callee (f := 45) rfl ?_); refine goesL_ (some 7) rfl rfl Tryd.func45 (by kernel_rfl) rfl #[.agg #[.slice A0_0 l0_0.length c0_0, .slice A0_1 l0_1.length c0_1, .slice A0_2 l0_2.length c0_2, .slice A0_3 l0_3.length c0_3, .int .i64 a0_4]] rfl tM ?_; (with_reducible refine (sr12_Valid.calls _ _ l0_0 _ _ l0_1 _ _ l0_2 _ _ l0_3 a0_4 true _ ?side1 ?side2 ?side3 ?side4 ?side5 ?side6 ?side7 ?side8 A3.out).mono ?_); (case side1 => exact tC (jB HR0_0.out HB.out)); (case side2 => exact HC0_0.out); (case side3 => exact tC (jB HR0_1.out HB.out)); (case side4 => exact HC0_1.out); (case side5 => exact tC (jB HR0_2.out HB.out)); (case side6 => exact HC0_2.out); (case side7 => exact tC (jB HR0_3.out HB.out)); (case side8 => exact HC0_3.out); rintro e w27 ⟨rfl, hb⟩; refine ⟨_, rfl, ?_⟩; have n0_ := jM (jW (g := gb218) (o := .cells #[.slice A0_0 l0_0.length c0_0, .slice A0_1 l0_1.length c0_1, .slice A0_2 l0_2.length c0_2, .slice A0_3 l0_3.length c0_3, .int .i64 a0_4] 27 (0, 0)) (tK BK218.out) hb); have n1_ := jM (jW (g := gb219) (o := .cells #[.int .i64 a1_0, .int .i64 a1_1] 39 (0, 0)) (tK BK219.out) hb); have n2_ := jM (jT (by repeat (first | (with_reducible first | exact HB.out | apply jA | apply jN | apply jD | refine jS ?_ GE218.out | refine jS ?_ GE219.out) | exact HB.out)) hb); clear BK218; clear BK219; clear HB; have BK218 := n0_; have BK219 := n1_; have HB := n2_; clear n0_ n1_ n2_; (try clear hb); (try clear hb2); (try clear hk); (try clear hi)))
    have n0_ := jM (jZ BK218.out)
    have n1_ := jM (jZ BK219.out)
    have n2_ := jM (jD HB.out)
    clear BK218 BK219 HB
    have BK218 := n0_
    have BK219 := n1_
    have HB := n2_
    clear n0_ n1_ n2_
    refine start_ (n := 30) (S := fun w' => w'.cell? ⟨gb219, 0, none⟩ = some (.int .i64 a1_0) ∧ w'.cell? ⟨gb219, 1, none⟩ = some (.int .i64 a1_1) ∧ w'.cell? ⟨gb218, 0, none⟩ = some (.slice A0_0 l0_0.length c0_0) ∧ w'.cell? ⟨gb218, 1, none⟩ = some (.slice A0_1 l0_1.length c0_1) ∧ w'.cell? ⟨gb218, 2, none⟩ = some (.slice A0_2 l0_2.length c0_2) ∧ w'.cell? ⟨gb218, 3, none⟩ = some (.slice A0_3 l0_3.length c0_3) ∧ w'.cell? ⟨gb218, 4, none⟩ = some (.int .i64 a0_4)) (ds := []) (tf 0 30) (by kernel_rfl) rfl rfl ⟨(jC BK219.out 0).trans rfl, (jC BK219.out 1).trans rfl, (jC BK218.out 0).trans rfl, (jC BK218.out 1).trans rfl, (jC BK218.out 2).trans rfl, (jC BK218.out 3).trans rfl, (jC BK218.out 4).trans rfl⟩ (fun hHeld => ?_); refine with_tabW sr14_Is.tab2 sr14_Is.bits2 (fun HT_ HW_ => ?_)
    generalize w27.drew = w28 at BK218 BK219 HB hHeld ⊢
    refine pU (i:=0) (N:=some 8) (tf 1 29) HT_ ?_
    refine pU (i:=1) (N:=some 9) (tf 2 28) HT_ ?_
    refine pU (i:=2) (N:=some 10) (tf 3 27) HT_ ?_
    refine tU (i:=3) (N:=some 11) (tf 4 26) HT_ HW_ hHeld ?_
    refine pU (i:=4) (N:=some 12) (tf 5 25) HT_ ?_
    refine pU (i:=5) (N:=some 13) (tf 6 24) HT_ ?_
    refine pU (i:=6) (N:=some 14) (tf 7 23) HT_ ?_
    refine pU (i:=7) (N:=some 15) (tf 8 22) HT_ ?_
    refine pU (i:=9) (N:=some 17) #[true, true, true, true, true, true, true, true, false, true, false, false, false, false, false, false, false, false, false, false, false, false, false, false, false, false, false, false, false, false] HT_ ?_
    refine tU (i:=8) (N:=some 16) (tf 10 20) HT_ HW_ hHeld ?_
    refine tU (i:=10) (N:=some 18) (tf 11 19) HT_ HW_ hHeld ?_
    refine pU (i:=11) (N:=some 19) (tf 12 18) HT_ ?_
    refine pU (i:=12) (N:=some 20) (tf 13 17) HT_ ?_
    refine pU (i:=13) (N:=some 21) (tf 14 16) HT_ ?_
    refine pU (i:=14) (N:=some 22) (tf 15 15) HT_ ?_
    refine pV (i:=15) (N:=some 23) (tf 16 14) HT_ ?_
    refine pV (i:=16) (N:=some 24) (tf 17 13) HT_ ?_
    refine pV (i:=17) (N:=some 25) (tf 18 12) HT_ ?_
    refine pU (i:=18) (N:=some 26) (tf 19 11) HT_ ?_
    refine pU (i:=19) (N:=some 27) (tf 20 10) HT_ ?_
    refine pV (i:=20) (N:=some 28) (tf 21 9) HT_ ?_
    refine pV (i:=21) (N:=some 29) (tf 22 8) HT_ ?_
    refine pV (i:=22) (N:=some 30) (tf 23 7) HT_ ?_
    refine pV (i:=23) (N:=some 31) (tf 24 6) HT_ ?_
    refine pV (i:=24) (N:=some 32) (tf 25 5) HT_ ?_
    refine pV (i:=25) (N:=some 33) (tf 26 4) HT_ ?_
    refine pV (i:=26) (N:=some 34) (tf 27 3) HT_ ?_
    refine pV (i:=27) (N:=some 35) (tf 28 2) HT_ ?_
    refine pU (i:=28) (N:=some 36) (tf 29 1) HT_ ?_
    refine pU (i:=29) (N:=some 4) (tf 30 0) HT_ ?_
    refine done_ (done_of HT_.out (by kernel_rfl)) ?_
    try go_wp2
    go_ret
    exact ⟨by first | rfl | (simp [errW_none, errW_some] <;> rfl) | (simp [*, errW_none, errW_some] <;> rfl), by repeat (first | (with_reducible first | exact HB.out | apply jA | apply jN | apply jD | refine jS ?_ GE218.out | refine jS ?_ GE219.out) | exact HB.out)⟩
  ·rw [if_neg c5] at H
   have c5b0 : decide ((-1) ≤ a1_0) = false := decide_eq_false c5
   clear c5
   obtain rfl := Option.some.inj H
   go_enter Tryd.func36, Tryd.ntmps36
   try go_wp2_with (first | ((with_reducible refine gate_dst (N := 2) rfl ?_); (try (refine gate_guard (by rfl) ?_; dsimp only)); refine box_event ?hg (N := 2) ?hd (cs := #[.slice A0_0 l0_0.length c0_0, .slice A0_1 l0_1.length c0_1, .slice A0_2 l0_2.length c0_2, .slice A0_3 l0_3.length c0_3, .int .i64 a0_4]) (t := 27) ?hr ?_; (case hd => rfl); (case hg => rfl); (case hr => first | (go_simp; done) | (go_simp; rfl)); intro gb218 hg w29 hbox hb; have n0_ := jM (jT (tB HB.out) hb); have n1_ := jM (hbox); have n2_ := jM ((by rw [hg]; exact (below_size (tB HB.out)) : w.heap.size ≤ gb218)); have n3_ := jM ((by rw [hg]; exact (below_size (tB HB.out)) : w.heap.size ≤ gb218)); clear HB; have HB := n0_; have BK218 := n1_; have GW218 := n2_; have GE218 := n3_; clear n0_ n1_ n2_ n3_; clear hb hbox hg) | ((with_reducible refine gate_dst (N := 3) rfl ?_); (try (refine gate_guard (by rfl) ?_; dsimp only)); refine box_event ?hg (N := 3) ?hd (cs := #[.int .i64 a1_0, .int .i64 a1_1]) (t := 39) ?hr ?_; (case hd => rfl); (case hg => rfl); (case hr => first | (go_simp; done) | (go_simp; rfl)); intro gb219 hg w30 hbox hb; have n0_ := jM (jW (g := gb218) (o := .cells #[.slice A0_0 l0_0.length c0_0, .slice A0_1 l0_1.length c0_1, .slice A0_2 l0_2.length c0_2, .slice A0_3 l0_3.length c0_3, .int .i64 a0_4] 27 (0, 0)) (tK BK218.out) hb); have n1_ := jM (jT (by repeat (first | (with_reducible first | exact HB.out | apply jA | apply jN | apply jD | refine jS ?_ GE218.out) | exact HB.out)) hb); have n2_ := jM (hbox); have n3_ := jM ((by rw [hg]; exact (below_size (by repeat (first | (with_reducible first | exact HB.out | apply jA | apply jN | apply jD | refine jS ?_ GE218.out) | exact HB.out))) : w.heap.size ≤ gb219)); have n4_ := jM ((by rw [hg]; exact (below_size (by repeat (first | (with_reducible first | exact HB.out | apply jA | apply jN | apply jD | refine jS ?_ GE218.out) | exact HB.out))) : w.heap.size ≤ gb219)); have n5_ := jM ((by rw [hg]; exact Nat.ne_of_lt (blk_lt (g := gb218) (o := .cells #[.slice A0_0 l0_0.length c0_0, .slice A0_1 l0_1.length c0_1, .slice A0_2 l0_2.length c0_2, .slice A0_3 l0_3.length c0_3, .int .i64 a0_4] 27 (0, 0)) (tK BK218.out)) : gb218 ≠ gb219)); have n6_ := jM ((by rw [hg]; exact Nat.ne_of_gt (blk_lt (g := gb218) (o := .cells #[.slice A0_0 l0_0.length c0_0, .slice A0_1 l0_1.length c0_1, .slice A0_2 l0_2.length c0_2, .slice A0_3 l0_3.length c0_3, .int .i64 a0_4] 27 (0, 0)) (tK BK218.out)) : gb219 ≠ gb218)); clear BK218; clear HB; have BK218 := n0_; have HB := n1_; have BK219 := n2_; have GW219 := n3_; have GE219 := n4_; have NB218_219 := n5_; have NB219_218 := n6_; clear n0_ n1_ n2_ n3_ n4_ n5_ n6_; clear hb hbox hg; have hnb31 := NB218_219.out; have hnc31 := NB219_218.out; have hcz32_0 : w30.cell? ⟨gb218, 0, none⟩ = some (.slice A0_0 l0_0.length c0_0) := (jC BK218.out 0).trans rfl; have hcz32_1 : w30.cell? ⟨gb218, 1, none⟩ = some (.slice A0_1 l0_1.length c0_1) := (jC BK218.out 1).trans rfl; have hcz32_2 : w30.cell? ⟨gb218, 2, none⟩ = some (.slice A0_2 l0_2.length c0_2) := (jC BK218.out 2).trans rfl; have hcz32_3 : w30.cell? ⟨gb218, 3, none⟩ = some (.slice A0_3 l0_3.length c0_3) := (jC BK218.out 3).trans rfl; have hcz32_4 : w30.cell? ⟨gb218, 4, none⟩ = some (.int .i64 a0_4) := (jC BK218.out 4).trans rfl; have hfz32_0 := jF BK218.out 0; have hfz32_1 := jF BK218.out 1; have hfz32_2 := jF BK218.out 2; have hfz32_3 := jF BK218.out 3; have hfz32_4 := jF BK218.out 4) | ((with_reducible refine gate_callee (f := 45) rfl ?_); refine goesL_ (some 7) rfl rfl Tryd.func45 (by kernel_rfl) rfl #[.agg #[.slice A0_0 l0_0.length c0_0, .slice A0_1 l0_1.length c0_1, .slice A0_2 l0_2.length c0_2, .slice A0_3 l0_3.length c0_3, .int .i64 a0_4]] rfl tM ?_; (with_reducible refine (sr12_Valid.calls _ _ l0_0 _ _ l0_1 _ _ l0_2 _ _ l0_3 a0_4 true _ ?side1 ?side2 ?side3 ?side4 ?side5 ?side6 ?side7 ?side8 A3.out).mono ?_); (case side1 => exact tC (jB HR0_0.out HB.out)); (case side2 => exact HC0_0.out); (case side3 => exact tC (jB HR0_1.out HB.out)); (case side4 => exact HC0_1.out); (case side5 => exact tC (jB HR0_2.out HB.out)); (case side6 => exact HC0_2.out); (case side7 => exact tC (jB HR0_3.out HB.out)); (case side8 => exact HC0_3.out); rintro e w33 ⟨rfl, hb⟩; refine ⟨_, rfl, ?_⟩; have n0_ := jM (jW (g := gb218) (o := .cells #[.slice A0_0 l0_0.length c0_0, .slice A0_1 l0_1.length c0_1, .slice A0_2 l0_2.length c0_2, .slice A0_3 l0_3.length c0_3, .int .i64 a0_4] 27 (0, 0)) (tK BK218.out) hb); have n1_ := jM (jW (g := gb219) (o := .cells #[.int .i64 a1_0, .int .i64 a1_1] 39 (0, 0)) (tK BK219.out) hb); have n2_ := jM (jT (by repeat (first | (with_reducible first | exact HB.out | apply jA | apply jN | apply jD | refine jS ?_ GE218.out | refine jS ?_ GE219.out) | exact HB.out)) hb); clear BK218; clear BK219; clear HB; have BK218 := n0_; have BK219 := n1_; have HB := n2_; clear n0_ n1_ n2_; (try clear hb); (try clear hb2); (try clear hk); (try clear hi)))
   have n0_ := jM (jZ BK218.out)
   have n1_ := jM (jZ BK219.out)
   have n2_ := jM (jD HB.out)
   clear BK218 BK219 HB
   have BK218 := n0_
   have BK219 := n1_
   have HB := n2_
   clear n0_ n1_ n2_
   refine start_ (n := 30) (S := fun w' => w'.cell? ⟨gb219, 0, none⟩ = some (.int .i64 a1_0) ∧ w'.cell? ⟨gb219, 1, none⟩ = some (.int .i64 a1_1)) (ds := []) (tf 0 30) (by kernel_rfl) rfl rfl ⟨(jC BK219.out 0).trans rfl, (jC BK219.out 1).trans rfl⟩ (fun hHeld => ?_); refine with_tabW sr14_Is.tab2 sr14_Is.bits2 (fun HT_ HW_ => ?_)
   generalize w33.drew = w34 at BK218 BK219 HB hHeld ⊢
   refine pU (i:=0) (N:=some 8) (tf 1 29) HT_ ?_
   refine pU (i:=1) (N:=some 9) (tf 2 28) HT_ ?_
   refine pU (i:=2) (N:=some 10) (tf 3 27) HT_ ?_
   refine tU (i:=3) (N:=some 11) (tf 4 26) HT_ HW_ hHeld ?_
   refine pU (i:=4) (N:=some 12) (tf 5 25) HT_ ?_
   refine pU (i:=5) (N:=some 13) (tf 6 24) HT_ ?_
   refine pU (i:=6) (N:=some 14) (tf 7 23) HT_ ?_
   refine pV (i:=7) (N:=some 15) (tf 8 22) HT_ ?_
   refine pV (i:=8) (N:=some 16) (tf 9 21) HT_ ?_
   refine pV (i:=9) (N:=some 17) (tf 10 20) HT_ ?_
   refine pV (i:=10) (N:=some 18) (tf 11 19) HT_ ?_
   refine pV (i:=11) (N:=some 19) (tf 12 18) HT_ ?_
   refine pV (i:=12) (N:=some 20) (tf 13 17) HT_ ?_
   refine pU (i:=13) (N:=some 21) (tf 14 16) HT_ ?_
   refine pU (i:=14) (N:=some 22) (tf 15 15) HT_ ?_
   refine pV (i:=15) (N:=some 23) (tf 16 14) HT_ ?_
   refine pV (i:=16) (N:=some 24) (tf 17 13) HT_ ?_
   refine pV (i:=17) (N:=some 25) (tf 18 12) HT_ ?_
   refine pU (i:=18) (N:=some 26) (tf 19 11) HT_ ?_
   refine pU (i:=19) (N:=some 27) (tf 20 10) HT_ ?_
   refine pV (i:=20) (N:=some 28) (tf 21 9) HT_ ?_
   refine pV (i:=21) (N:=some 29) (tf 22 8) HT_ ?_
   refine pV (i:=22) (N:=some 30) (tf 23 7) HT_ ?_
   refine pV (i:=23) (N:=some 31) (tf 24 6) HT_ ?_
   refine pV (i:=24) (N:=some 32) (tf 25 5) HT_ ?_
   refine pV (i:=25) (N:=some 33) (tf 26 4) HT_ ?_
   refine pV (i:=26) (N:=some 34) (tf 27 3) HT_ ?_
   refine pV (i:=27) (N:=some 35) (tf 28 2) HT_ ?_
   refine pU (i:=28) (N:=some 36) (tf 29 1) HT_ ?_
   refine pU (i:=29) (N:=some 4) (tf 30 0) HT_ ?_
   refine done_ (done_of HT_.out (by kernel_rfl)) ?_
   try go_wp2
   go_ret
   exact ⟨by first | rfl | (simp [errW_none, errW_some] <;> rfl) | (simp [*, errW_none, errW_some] <;> rfl), by repeat (first | (with_reducible first | exact HB.out | apply jA | apply jN | apply jD | refine jS ?_ GE218.out | refine jS ?_ GE219.out) | exact HB.out)⟩
 ·replace c4 := Bool.eq_false_iff.mpr c4
  subst c4
  have H1 : (some false) = some r := by rw [if_neg (show ¬ (false = true) by decide)] at H; exact H
  clear H
  have H := H1
  clear H1
  obtain rfl := Option.some.inj H
  go_enter Tryd.func36, Tryd.ntmps36
  try go_wp2_with (first | ((with_reducible refine gate_dst (N := 2) rfl ?_); (try (refine gate_guard (by rfl) ?_; dsimp only)); refine box_event ?hg (N := 2) ?hd (cs := #[.slice A0_0 l0_0.length c0_0, .slice A0_1 l0_1.length c0_1, .slice A0_2 l0_2.length c0_2, .slice A0_3 l0_3.length c0_3, .int .i64 a0_4]) (t := 27) ?hr ?_; (case hd => rfl); (case hg => rfl); (case hr => first | (go_simp; done) | (go_simp; rfl)); intro gb218 hg w35 hbox hb; have n0_ := jM (jT (tB HB.out) hb); have n1_ := jM (hbox); have n2_ := jM ((by rw [hg]; exact (below_size (tB HB.out)) : w.heap.size ≤ gb218)); have n3_ := jM ((by rw [hg]; exact (below_size (tB HB.out)) : w.heap.size ≤ gb218)); clear HB; have HB := n0_; have BK218 := n1_; have GW218 := n2_; have GE218 := n3_; clear n0_ n1_ n2_ n3_; clear hb hbox hg) | ((with_reducible refine gate_dst (N := 3) rfl ?_); (try (refine gate_guard (by rfl) ?_; dsimp only)); refine box_event ?hg (N := 3) ?hd (cs := #[.int .i64 a1_0, .int .i64 a1_1]) (t := 39) ?hr ?_; (case hd => rfl); (case hg => rfl); (case hr => first | (go_simp; done) | (go_simp; rfl)); intro gb219 hg w36 hbox hb; have n0_ := jM (jW (g := gb218) (o := .cells #[.slice A0_0 l0_0.length c0_0, .slice A0_1 l0_1.length c0_1, .slice A0_2 l0_2.length c0_2, .slice A0_3 l0_3.length c0_3, .int .i64 a0_4] 27 (0, 0)) (tK BK218.out) hb); have n1_ := jM (jT (by repeat (first | (with_reducible first | exact HB.out | apply jA | apply jN | apply jD | refine jS ?_ GE218.out) | exact HB.out)) hb); have n2_ := jM (hbox); have n3_ := jM ((by rw [hg]; exact (below_size (by repeat (first | (with_reducible first | exact HB.out | apply jA | apply jN | apply jD | refine jS ?_ GE218.out) | exact HB.out))) : w.heap.size ≤ gb219)); have n4_ := jM ((by rw [hg]; exact (below_size (by repeat (first | (with_reducible first | exact HB.out | apply jA | apply jN | apply jD | refine jS ?_ GE218.out) | exact HB.out))) : w.heap.size ≤ gb219)); have n5_ := jM ((by rw [hg]; exact Nat.ne_of_lt (blk_lt (g := gb218) (o := .cells #[.slice A0_0 l0_0.length c0_0, .slice A0_1 l0_1.length c0_1, .slice A0_2 l0_2.length c0_2, .slice A0_3 l0_3.length c0_3, .int .i64 a0_4] 27 (0, 0)) (tK BK218.out)) : gb218 ≠ gb219)); have n6_ := jM ((by rw [hg]; exact Nat.ne_of_gt (blk_lt (g := gb218) (o := .cells #[.slice A0_0 l0_0.length c0_0, .slice A0_1 l0_1.length c0_1, .slice A0_2 l0_2.length c0_2, .slice A0_3 l0_3.length c0_3, .int .i64 a0_4] 27 (0, 0)) (tK BK218.out)) : gb219 ≠ gb218)); clear BK218; clear HB; have BK218 := n0_; have HB := n1_; have BK219 := n2_; have GW219 := n3_; have GE219 := n4_; have NB218_219 := n5_; have NB219_218 := n6_; clear n0_ n1_ n2_ n3_ n4_ n5_ n6_; clear hb hbox hg; have hnb37 := NB218_219.out; have hnc37 := NB219_218.out; have hcz38_0 : w36.cell? ⟨gb218, 0, none⟩ = some (.slice A0_0 l0_0.length c0_0) := (jC BK218.out 0).trans rfl; have hcz38_1 : w36.cell? ⟨gb218, 1, none⟩ = some (.slice A0_1 l0_1.length c0_1) := (jC BK218.out 1).trans rfl; have hcz38_2 : w36.cell? ⟨gb218, 2, none⟩ = some (.slice A0_2 l0_2.length c0_2) := (jC BK218.out 2).trans rfl; have hcz38_3 : w36.cell? ⟨gb218, 3, none⟩ = some (.slice A0_3 l0_3.length c0_3) := (jC BK218.out 3).trans rfl; have hcz38_4 : w36.cell? ⟨gb218, 4, none⟩ = some (.int .i64 a0_4) := (jC BK218.out 4).trans rfl; have hfz38_0 := jF BK218.out 0; have hfz38_1 := jF BK218.out 1; have hfz38_2 := jF BK218.out 2; have hfz38_3 := jF BK218.out 3; have hfz38_4 := jF BK218.out 4) | ((with_reducible refine gate_callee (f := 45) rfl ?_); refine goesL_ (some 7) rfl rfl Tryd.func45 (by kernel_rfl) rfl #[.agg #[.slice A0_0 l0_0.length c0_0, .slice A0_1 l0_1.length c0_1, .slice A0_2 l0_2.length c0_2, .slice A0_3 l0_3.length c0_3, .int .i64 a0_4]] rfl tM ?_; (with_reducible refine (sr12_Valid.calls _ _ l0_0 _ _ l0_1 _ _ l0_2 _ _ l0_3 a0_4 false _ ?side1 ?side2 ?side3 ?side4 ?side5 ?side6 ?side7 ?side8 A3.out).mono ?_); (case side1 => exact tC (jB HR0_0.out HB.out)); (case side2 => exact HC0_0.out); (case side3 => exact tC (jB HR0_1.out HB.out)); (case side4 => exact HC0_1.out); (case side5 => exact tC (jB HR0_2.out HB.out)); (case side6 => exact HC0_2.out); (case side7 => exact tC (jB HR0_3.out HB.out)); (case side8 => exact HC0_3.out); rintro e w39 ⟨rfl, hb⟩; refine ⟨_, rfl, ?_⟩; have n0_ := jM (jW (g := gb218) (o := .cells #[.slice A0_0 l0_0.length c0_0, .slice A0_1 l0_1.length c0_1, .slice A0_2 l0_2.length c0_2, .slice A0_3 l0_3.length c0_3, .int .i64 a0_4] 27 (0, 0)) (tK BK218.out) hb); have n1_ := jM (jW (g := gb219) (o := .cells #[.int .i64 a1_0, .int .i64 a1_1] 39 (0, 0)) (tK BK219.out) hb); have n2_ := jM (jT (by repeat (first | (with_reducible first | exact HB.out | apply jA | apply jN | apply jD | refine jS ?_ GE218.out | refine jS ?_ GE219.out) | exact HB.out)) hb); clear BK218; clear BK219; clear HB; have BK218 := n0_; have BK219 := n1_; have HB := n2_; clear n0_ n1_ n2_; (try clear hb); (try clear hb2); (try clear hk); (try clear hi)))
  have n0_ := jM (jZ BK218.out)
  have n1_ := jM (jZ BK219.out)
  have n2_ := jM (jD HB.out)
  clear BK218 BK219 HB
  have BK218 := n0_
  have BK219 := n1_
  have HB := n2_
  clear n0_ n1_ n2_
  refine start_ (n := 30) (S := fun w' => True) (ds := []) (tf 0 30) (by kernel_rfl) rfl rfl trivial (fun hHeld => ?_); refine with_tabW sr14_Is.tab2 sr14_Is.bits2 (fun HT_ HW_ => ?_)
  generalize w39.drew = w40 at BK218 BK219 HB hHeld ⊢
  refine pU (i:=0) (N:=some 8) (tf 1 29) HT_ ?_
  refine pU (i:=1) (N:=some 9) (tf 2 28) HT_ ?_
  refine pV (i:=2) (N:=some 10) (tf 3 27) HT_ ?_
  refine pV (i:=3) (N:=some 11) (tf 4 26) HT_ ?_
  refine pV (i:=4) (N:=some 12) (tf 5 25) HT_ ?_
  refine pU (i:=5) (N:=some 13) (tf 6 24) HT_ ?_
  refine pU (i:=6) (N:=some 14) (tf 7 23) HT_ ?_
  refine pV (i:=7) (N:=some 15) (tf 8 22) HT_ ?_
  refine pV (i:=8) (N:=some 16) (tf 9 21) HT_ ?_
  refine pV (i:=9) (N:=some 17) (tf 10 20) HT_ ?_
  refine pV (i:=10) (N:=some 18) (tf 11 19) HT_ ?_
  refine pV (i:=11) (N:=some 19) (tf 12 18) HT_ ?_
  refine pV (i:=12) (N:=some 20) (tf 13 17) HT_ ?_
  refine pU (i:=13) (N:=some 21) (tf 14 16) HT_ ?_
  refine pU (i:=14) (N:=some 22) (tf 15 15) HT_ ?_
  refine pV (i:=15) (N:=some 23) (tf 16 14) HT_ ?_
  refine pV (i:=16) (N:=some 24) (tf 17 13) HT_ ?_
  refine pV (i:=17) (N:=some 25) (tf 18 12) HT_ ?_
  refine pU (i:=18) (N:=some 26) (tf 19 11) HT_ ?_
  refine pU (i:=19) (N:=some 27) (tf 20 10) HT_ ?_
  refine pV (i:=20) (N:=some 28) (tf 21 9) HT_ ?_
  refine pV (i:=21) (N:=some 29) (tf 22 8) HT_ ?_
  refine pV (i:=22) (N:=some 30) (tf 23 7) HT_ ?_
  refine pV (i:=23) (N:=some 31) (tf 24 6) HT_ ?_
  refine pV (i:=24) (N:=some 32) (tf 25 5) HT_ ?_
  refine pV (i:=25) (N:=some 33) (tf 26 4) HT_ ?_
  refine pV (i:=26) (N:=some 34) (tf 27 3) HT_ ?_
  refine pV (i:=27) (N:=some 35) (tf 28 2) HT_ ?_
  refine pU (i:=28) (N:=some 36) (tf 29 1) HT_ ?_
  refine pU (i:=29) (N:=some 4) (tf 30 0) HT_ ?_
  refine done_ (done_of HT_.out (by kernel_rfl)) ?_
  try go_wp2
  go_ret
  exact ⟨by first | rfl | (simp [errW_none, errW_some] <;> rfl) | (simp [*, errW_none, errW_some] <;> rfl), by repeat (first | (with_reducible first | exact HB.out | apply jA | apply jN | apply jD | refine jS ?_ GE218.out | refine jS ?_ GE219.out) | exact HB.out)⟩

end Go.Proofs.YtclollnicbcooaaDoor.P
end
