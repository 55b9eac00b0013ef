/- The law SpotLines, walked. Conditions: the theorem's own. -/
import Derived.Test.YtpmgfkgomcpmdaaLt
import Derived.Laws.BytesString
set_option linter.unusedVariables false
set_option linter.unusedSimpArgs false
namespace Go.Proofs.Ytpmgfkgomcpmdaa.Fl
open Go Go.RowKit Go.Lib Go.Proofs.YtpmgfkgomcpmdaaW.PrintWords Go.Proofs.YtpmgfkgomcpmdaaW.PrintLast Go.Proofs.YtpmgfkgomcpmdaaW.PrintMore

theorem joinL_le (l : List Bytes) : ∀ k, (joinL (l.take k)).length ≤ (joinL l).length := by
  induction l with
  | nil => intro k; simp
  | cons a l ih =>
    intro k
    cases k with
    | zero => simp [joinL]
    | succ k =>
      cases l with
      | nil => simp
      | cons b l =>
        have := ih k
        cases k with
        | zero =>
          show a.length ≤ (a ++ 10 :: joinL (b :: l)).length
          simp
        | succ k =>
          show (a ++ 10 :: joinL (b :: l.take k)).length ≤ (a ++ 10 :: joinL (b :: l)).length
          rw [List.length_append, List.length_append, List.length_cons, List.length_cons]
          have e : (b :: l).take (k + 1) = b :: l.take k := rfl
          rw [e] at this
          omega
theorem mkB_app (a b : Bytes) : mkB (a ++ b) = mkB a ++ mkB b := by
  unfold mkB
  apply ByteArray.ext
  rw [ByteArray.data_append]
  simp
theorem mkB_size (a : Bytes) : (mkB a).size = a.length := by unfold mkB; rw [Lib.size_eq]
theorem mkB_data (s : ByteArray) : mkB s.data.toList = s := Lib.mk_data s

/-- The lines ahead of line k, put together. -/
def accL (s : ByteArray) (k : Nat) : ByteArray := mkB (joinL ((cutL s.data.toList).take k))
theorem accL_le (s : ByteArray) (k : Nat) : (accL s k).size ≤ s.size := by
  unfold accL
  rw [mkB_size]
  have := joinL_le (cutL s.data.toList) k
  rw [joinL_cut] at this
  rw [Lib.size_eq]; exact this
theorem lineS_nat (s : ByteArray) (k : Nat) (hk : k < (cutL s.data.toList).length) : lineS s k = mkB (cutL s.data.toList)[k] := by
  unfold lineS mkB
  rw [if_pos (by omega), Int.toNat_natCast]
  simp [List.getD_eq_getElem?_getD, hk]
theorem accL_one (s : ByteArray) : accL s 1 = ByteArray.empty ++ lineS s (0 : Nat) := by
  have hl : 0 < (cutL s.data.toList).length := by rw [cutL_len]; omega
  rw [lineS_nat s 0 hl]
  unfold accL
  rw [show (1 : Nat) = 0 + 1 from rfl, List.take_succ_eq_append_getElem hl, List.take_zero, List.nil_append]
  show mkB _ = _
  rw [ByteArray.empty_append]
  rfl
theorem accL_more (s : ByteArray) (k : Nat) (h0 : 0 < k) (hk : k ≤ cntB s) : accL s (k + 1) = accL s k ++ ⟨#[10]⟩ ++ lineS s k := by
  have hl : k < (cutL s.data.toList).length := by rw [cutL_len]; unfold cntB at hk; omega
  rw [lineS_nat s k hl]
  unfold accL
  rw [List.take_succ_eq_append_getElem hl, joinL_snoc _ _ (by
    intro e
    have := congrArg List.length e
    rw [List.length_take, List.length_nil] at this
    omega), show joinL ((cutL s.data.toList).take k) ++ 10 :: (cutL s.data.toList)[k] = (joinL ((cutL s.data.toList).take k) ++ [10]) ++ (cutL s.data.toList)[k] by simp, mkB_app, mkB_app]
  rfl
theorem accL_all (s : ByteArray) : accL s (cntB s + 1) = s := by
  unfold accL
  rw [List.take_of_length_le (by rw [cutL_len]; unfold cntB; omega), joinL_cut, mkB_data]
theorem lineS_le (s : ByteArray) (k : Nat) (hk : k ≤ cntB s) : (lineS s k).size ≤ s.size := by
  obtain ⟨b, hb, hst⟩ := st_begin s.data.toList k hk
  have hb2 : b ≤ s.size := by rw [Lib.size_eq]; exact hb
  rw [lineS_len s k b hb2 hst]
  obtain ⟨r, hr⟩ := List.takeWhile_prefix (fun x : UInt8 => decide (x ≠ 10)) (l := s.data.toList.drop b)
  have := congrArg List.length hr
  rw [List.length_append, List.length_drop, ← Lib.size_eq] at this
  omega
theorem lineS_no (s : ByteArray) (k j : Nat) (hk : k ≤ cntB s) (hj : j < (lineS s k).size) : (lineS s k)[j] ≠ 10 := by
  have hl : k < (cutL s.data.toList).length := by rw [cutL_len]; unfold cntB at hk; omega
  have e := lineS_nat s k hl
  have hno := cutL_no s.data.toList _ (List.getElem_mem hl)
  generalize (cutL s.data.toList)[k] = x at *
  generalize lineS s k = ln at *
  subst e
  intro h
  apply hno
  rw [mkB_size] at hj
  have : x[j] = 10 := h
  rw [← this]
  exact List.getElem_mem hj

theorem conv_nl (W : World) : (convert 35 9 (.slice (some ⟨W.heap.size, 0, none⟩) 1 1)).run Try.prog (W.alloc (Obj.cells #[.int .u8 10] 5)) = .ok (.string ⟨#[10]⟩) (W.alloc (Obj.cells #[.int .u8 10] 5)) := by
  have hc : (W.alloc (Obj.cells #[.int .u8 10] 5)).cell? ⟨W.heap.size, 0, none⟩ = some (.int .u8 10) := by go_simp
  have hl : (loadCells ⟨W.heap.size, 0, none⟩ 1).run Try.prog (W.alloc (Obj.cells #[.int .u8 10] 5)) = .ok ([10].map (Value.int .u8)).toArray (W.alloc (Obj.cells #[.int .u8 10] 5)) := by
    have := run_loadCells_list (P := Try.prog) (W.alloc (Obj.cells #[.int .u8 10] 5)) ⟨W.heap.size, 0, none⟩ ([10].map (Value.int .u8)) (fun j v hj => by
      cases j with
      | zero =>
        simp at hj
        subst hj
        rw [add_plain]
        exact hc
      | succ j => simp at hj)
    exact this
  rw [run_convert_bytes_string _ 35 9 5 _ 1 1 Try.underlying35 Try.underlying5 Try.underlying9, run_bytesToString _ _ 1 1 [10] hl]
  rfl

set_option maxRecDepth 100000 in
set_option maxHeartbeats 8000000 in
theorem spotLines_calls (s : ByteArray) (hs : s.size ≤ maxLen) (w : World) :
    Calls Try.prog 6 #[.string s] w (Yes w) := by
  unfold maxLen at hs
  by_cases h1 : (300 : Int) < s.size
  · go_enter Try.func6, Try.ntmps6
    go_wp2_with (go_at_call 9; refine (works_calls _).mono ?_; rintro e w' ⟨rfl, k, rfl⟩)
    go_ret
    exact ⟨rfl, below_N _ _⟩
  have l1 := fun w => lines_calls s w (by omega)
  have hc := cntB_le s
  have hall := accL_all s
  obtain ⟨nl, hnl⟩ : ∃ nl, cntB s + 1 = nl := ⟨_, rfl⟩
  have hnl2 : (cntB s : Int) + 1 = (nl : Int) := by omega
  rw [hnl2] at l1
  rw [hnl] at hall
  have hnl3 : (nl : Int) ≤ 301 := by omega
  have HN := Lib.hid hnl
  have L1 := Lib.hid l1
  have HA := Lib.hid hall
  clear l1 hnl hnl2 hc hall
  go_enter Try.func6, Try.ntmps6
  go_wp2_with (go_at_call 9; refine (works_calls _).mono ?_; rintro e w' ⟨rfl, k, rfl⟩)
  go_loopw [4, 5] (fun va vi wr => ∃ (i : Nat) (al : ByteArray), va = .string al ∧ vi = .int .i64 i ∧ i ≤ nl ∧ al.size ≤ 300 ∧ Hid (al = accL s i ∧ Below w.heap.size w wr)) (fun _ vi _ => nl - (RowKit.intOf vi).toNat)
  case atStart => exact ⟨0, ⟨#[]⟩, rfl, rfl, Nat.zero_le _, by decide, ⟨rfl, below_N _ _⟩⟩
  case round =>
    obtain ⟨i, al, rfl, rfl, hi, hal, HR⟩ := hrel
    by_cases hlt : (i : Int) < nl
    · have hic : i ≤ cntB s := by have := HN.out; omega
      have c5 := fun w => line_calls s i w (by omega)
      unfold LineIs at c5
      have hle := lineS_le s i hic
      have hno := fun j => lineS_no s i j hic
      have hnext := accL_more s i
      have hfirst := accL_one s
      have hacl := accL_le s (i + 1)
      obtain ⟨ln, hln⟩ : ∃ ln, lineS s i = ln := ⟨_, rfl⟩
      have hz : i = 0 → accL s (i + 1) = al ++ ln := by
        intro e; subst e; rw [hfirst, hln, HR.out.1]; rfl
      have hp : 0 < i → accL s (i + 1) = al ++ ⟨#[10]⟩ ++ ln := by
        intro e; rw [hnext e hic, hln, HR.out.1]
      rw [hln] at c5 hle
      have hno2 : ∀ (j : Nat) (hj : j < ln.size), ln[j] ≠ 10 := by
        intro j hj; subst hln; exact hno j hj
      have C5 := Lib.hid c5
      have NO := Lib.hid hno2
      have HZ := Lib.hid hz
      have HP := Lib.hid hp
      have HL := Lib.hid hacl
      have hl300 : ln.size ≤ 300 := by omega
      clear c5 hno hno2 hz hp hnext hfirst hacl hln hle hic
      go_wp2_with (first
        | (go_at_call 15; ((with_reducible refine (L1.out _).mono ?_); rintro e w' ⟨rfl, rfl⟩))
        | (go_at_call 16; ((with_reducible refine (C5.out _).mono ?_); rintro e w' ⟨rfl, k3, rfl⟩)))
      obtain ⟨W1, hW1⟩ : ∃ W1 : World, W1 = w'.drewN k3 := ⟨_, rfl⟩
      rw [← hW1]
      have HW : Hid (Below w.heap.size w W1) := Lib.hid (by rw [hW1]; exact pw_below_drewN HR.out.2 _)
      clear hW1
      go_loop [7] (fun vk => ∃ k : Nat, vk = .int .i64 k ∧ k ≤ ln.size) (fun vk => ln.size - (RowKit.intOf vk).toNat)
      case atStart => exact ⟨0, rfl, Nat.zero_le _⟩
      case round =>
        obtain ⟨k, rfl, hk⟩ := hrel
        by_cases hkl : (k : Int) < ln.size
        · have hkn : k < ln.size := by omega
          have hb := NO.out k hkn
          have hb1 : (((ln[k]).toNat : Int) == 10) = false := beq_eq_false_iff_ne.2 fun e => hb (UInt8.toNat_inj.1 (by have : (10 : UInt8).toNat = 10 := rfl; omega))
          clear hb
          go_wp2
          go_round
          case rel => exact ⟨k + 1, by go_num, by omega⟩
          case measure => simp [RowKit.intOf]; omega
        · by_cases hi0 : (0 : Int) < i
          · have HQ := Lib.hid (HP.out (by omega))
            have hcv := conv_nl W1
            go_wp2
            go_roundw
            case rel => exact ⟨i + 1, _, rfl, by go_num, by omega, by rw [← HQ.out]; have := HL.out; omega, ⟨HQ.out.symm, below_alloc HW.out _⟩⟩
            case measure => simp [RowKit.intOf]; omega
          · have HQ := Lib.hid (HZ.out (by omega))
            go_wp2
            go_roundw
            case rel => exact ⟨i + 1, _, rfl, by go_num, by omega, by rw [← HQ.out]; have := HL.out; omega, ⟨HQ.out.symm, HW.out⟩⟩
            case measure => simp [RowKit.intOf]; omega
    · have e : i = nl := by omega
      have hfin : al = s := by rw [HR.out.1, e, HA.out]
      subst hfin
      go_wp2_with (go_at_call 15; ((with_reducible refine (L1.out _).mono ?_); rintro e w' ⟨rfl, rfl⟩))
      go_ret
      exact ⟨rfl, HR.out.2⟩

end Go.Proofs.Ytpmgfkgomcpmdaa.Fl
