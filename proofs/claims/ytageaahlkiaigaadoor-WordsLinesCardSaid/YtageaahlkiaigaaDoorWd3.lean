/- A regex's text; a text as a word: walked. Conditions: each theorem's own. -/
import Derived.Test.YtageaahlkiaigaaDoorWd2
set_option linter.unusedVariables false
set_option linter.unusedSimpArgs false
namespace Go.Proofs.YtageaahlkiaigaaDoor.Wd
open Go Go.RowKit

def mkB (l : Bytes) : ByteArray := ⟨l.toArray⟩

theorem ne_byte {b c : UInt8} (h : b ≠ c) : ((b.toNat : Int) == (c.toNat : Int)) = false := beq_eq_false_iff_ne.2 fun e => h (UInt8.toNat_inj.1 (by omega))
theorem eq_byte {b c : UInt8} (h : b = c) : ((b.toNat : Int) == (c.toNat : Int)) = true := by rw [h]; simp

theorem drop_byte (s : ByteArray) (i : Nat) (h : i < s.size) : s.data.toList.drop i = (s[i]'h) :: s.data.toList.drop (i + 1) := by
  have hl : i < s.data.toList.length := by rw [← Lib.size_eq]; exact h
  rw [List.drop_eq_getElem_cons hl, byte_eq s i h]
theorem drop_all (s : ByteArray) (i : Nat) (h : ¬ i < s.size) : s.data.toList.drop i = [] := List.drop_of_length_le (by rw [← Lib.size_eq]; omega)

theorem rx_stop (l : Bytes) (h : ∀ c r, l = c :: r → c = 10) : rx l = none := by
  cases l with
  | nil => rfl
  | cons c r =>
    obtain rfl := h c r rfl
    cases r with
    | nil => rfl
    | cons d r => rw [rx_two, if_pos rfl]
theorem rx_slash (r : Bytes) : rx (47 :: r) = some ([], 1) := by
  cases r with
  | nil => rfl
  | cons d r => rw [rx_two, if_neg (by decide), if_pos rfl]
/-- A stroke that nothing stands behind. -/
theorem rx_odd (r : Bytes) (h : ∀ d t, r = d :: t → d = 10) : rx (92 :: r) = none ∧ rx r = none := by
  refine ⟨?_, rx_stop r h⟩
  cases r with
  | nil => rfl
  | cons d r =>
    obtain rfl := h d r rfl
    rw [rx_two, if_neg (by decide), if_neg (by decide), if_pos rfl, if_pos rfl]
theorem rx_plain (c : UInt8) (r : Bytes) (h10 : c ≠ 10) (h47 : c ≠ 47) (h92 : c ≠ 92) : rx (c :: r) = (rx r).map fun x => (c :: x.1, x.2 + 1) := by
  cases r with
  | nil => rw [rx_one, if_neg h47]; rfl
  | cons d r => exact rx_cons c (d :: r) h10 h47 h92 (by simp)

/-- What 'regex' answers. -/
def RegexIs (s : ByteArray) (w : World) (e : Ending) (w' : World) : Prop :=
  (match rx (s.data.toList.drop 1) with
    | some (t, m) => e = .returned (.tuple #[.string (mkB t), .int .i64 ((m + 1 : Nat) : Int), .bool true])
    | none => e = .returned (.tuple #[.string ⟨#[]⟩, .int .i64 0, .bool false])) ∧ Below w.heap.size w w'

/-- The state of a reading: at i, with what has been read. -/
def RxAt (s : ByteArray) (w : World) (i : Nat) (acc : Bytes) (wr : World) : Prop :=
  Lib.IsBuilderF 39 5 w.heap.size w.heap.size (Lib.byteCells acc) wr ∧ Below w.heap.size w wr ∧ w.heap.size ≤ wr.heap.size ∧ acc.length ≤ i ∧
    rx (s.data.toList.drop 1) = (rx (s.data.toList.drop i)).map fun x => (acc ++ x.1, i - 1 + x.2)

theorem map_map_rx (o : Option (Bytes × Nat)) (a b : Bytes) (n m : Nat) : ((o.map fun x => (b ++ x.1, x.2 + m)).map fun x => (a ++ x.1, n + x.2)) = o.map fun x => ((a ++ b) ++ x.1, (n + m) + x.2) := by
  cases o with
  | none => rfl
  | some x => simp; omega

theorem c92 : (92 : Int) = ((92 : UInt8).toNat : Int) := rfl
theorem c47 : (47 : Int) = ((47 : UInt8).toNat : Int) := rfl
/-- A builder of the call's own, with what it holds. -/
structure BS (B : Nat) (w : World) (acc : Bytes) (wr : World) : Prop where
  is : Lib.IsBuilderF 39 5 B B (Lib.byteCells acc) wr
  below : Below B w wr
  size : B ≤ wr.heap.size
theorem BS.cells (acc : Bytes) (b : UInt8) : Lib.byteCells acc ++ [.int .u8 (b.toNat : Int)] = Lib.byteCells (acc ++ [b]) := by
  rw [Lib.byteCells_append]; rfl
theorem write_calls {B : Nat} {w : World} {acc : Bytes} {wr : World} (b : UInt8) (c : Int) (hc : c = (b.toNat : Int)) (h : BS B w acc wr) (hl : acc.length ≤ 100000000000000) :
    Calls Tryd.prog 15 #[.pointer (some ⟨B, 0, none⟩), .int .u8 c] wr fun e w' => e = .returned .nilIface ∧ BS B w (acc ++ [b]) w' := by
  subst hc
  refine (Tryd.Builder_WriteByte_k B B _ (b.toNat : Int) wr h.is (by rw [Lib.byteCells_length]; omega) h.size).mono ?_
  rintro e w' ⟨rfl, h1, h2, _⟩
  rw [BS.cells] at h1
  exact ⟨rfl, .inr h1, h.below.trans h2, Nat.le_trans h.size h2.size⟩
theorem RxAt.bs {s : ByteArray} {w : World} {i : Nat} {acc : Bytes} {wr : World} (h : RxAt s w i acc wr) : BS w.heap.size w acc wr := ⟨h.1, h.2.1, h.2.2.1⟩
theorem RxAt.next {s : ByteArray} {w : World} {i : Nat} {acc : Bytes} {wr wr' : World} (h : RxAt s w i acc wr) (t : Bytes) (m : Nat) (hi : 1 ≤ i) (hr : rx (s.data.toList.drop i) = (rx (s.data.toList.drop (i + m))).map fun x => (t ++ x.1, x.2 + m)) (hm : t.length ≤ m)
    (hb : BS w.heap.size w (acc ++ t) wr') : RxAt s w (i + m) (acc ++ t) wr' := by
  obtain ⟨h1, h2, h3, h4, h5⟩ := h
  refine ⟨hb.is, hb.below, hb.size, by rw [List.length_append]; omega, ?_⟩
  rw [h5, hr, map_map_rx]
  congr 1
  funext x
  congr 1
  omega

set_option maxRecDepth 100000 in
set_option maxHeartbeats 8000000 in
theorem regex_calls (s : ByteArray) (w : World) (hs : s.size ≤ 20000) (h1 : 1 ≤ s.size) : Calls Tryd.prog 30 #[.string s] w (RegexIs s w) := by
  go_enter Tryd.func30, Tryd.ntmps30
  go_wp2
  go_loopw [6] (fun vi wr => ∃ (i : Nat) (acc : Bytes), vi = .int .i64 i ∧ 1 ≤ i ∧ i ≤ s.size ∧ Hid (RxAt s w i acc wr)) (fun vi _ => s.size - (intOf vi).toNat)
  case atStart =>
    refine ⟨1, [], rfl, Nat.le_refl _, h1, Lib.IsBuilderF.of (Lib.fresh_isBuilder 39 5 w), (Below.refl _ w).alloc (Nat.le_refl _) _, by simp, Nat.zero_le _, ?_⟩
    cases rx (s.data.toList.drop 1) with
    | none => rfl
    | some x => simp
  case round =>
    obtain ⟨i, acc, rfl, hi1, his, HR⟩ := hrel
    by_cases hlt : i < s.size
    · have hd := drop_byte s i hlt
      by_cases h10 : s[i] = 10
      · have b10 : (((s[i]).toNat : Int) == 10) = true := eq_byte h10
        have b10n : (((s[i]).toNat : Int) != 10) = false := by rw [bne, b10]; rfl
        have hn : rx (s.data.toList.drop 1) = none := by
          rw [HR.out.2.2.2.2, rx_stop (s.data.toList.drop i) (fun c r e => by rw [hd] at e; injection e with e _; rw [← e]; exact h10)]; rfl
        have HN := Lib.hid hn
        clear hn hd h10
        go_wp2
        refine bodyPost_ret (v := .tuple #[.string ⟨#[]⟩, .int .i64 0, .bool false]) (by simp [results, Tryd.results30, go_sem]) rfl ⟨by rw [HN.out], HR.out.2.1⟩
      have b10 : (((s[i]).toNat : Int) == 10) = false := ne_byte (c := 10) h10
      have b10n : (((s[i]).toNat : Int) != 10) = true := by rw [bne, b10]; rfl
      by_cases h47 : s[i] = 47
      · have b47 : (((s[i]).toNat : Int) == 47) = true := eq_byte h47
        have hn : rx (s.data.toList.drop 1) = some (acc, i) := by
          rw [HR.out.2.2.2.2, hd, h47, rx_slash]; simp; omega
        have HN := Lib.hid hn
        clear hn hd h10 h47
        go_wp2_with (go_at_call 16; refine (Tryd.Builder_String_any_k w.heap.size w.heap.size acc _ HR.out.1 HR.out.2.2.1).mono ?_; rintro e W1 ⟨rfl, _, hb1, _⟩; replace hb1 := Lib.hid hb1)
        refine bodyPost_ret (v := .tuple #[.string (mkB acc), .int .i64 ((i + 1 : Nat) : Int), .bool true]) (by simp [results, Tryd.results30, go_sem, mkB]) rfl ⟨by rw [HN.out], HR.out.2.1.trans hb1.out⟩
      have b47 : (((s[i]).toNat : Int) == 47) = false := ne_byte (c := 47) h47
      have hal : acc.length ≤ 20000 := by have := HR.out.2.2.2.1; omega
      have HB := Lib.hid HR.out.bs
      by_cases h92 : s[i] = 92
      · have b92 : (((s[i]).toNat : Int) == 92) = true := eq_byte h92
        by_cases hnx : i + 1 < s.size
        · have hd2 := drop_byte s (i + 1) hnx
          have hnx2 : (i : Int) + 1 < (s.size : Int) := by omega
          by_cases e10 : s[i + 1] = 10
          · have c10 : (((s[i + 1]).toNat : Int) == 10) = true := eq_byte e10
            have c10n : (((s[i + 1]).toNat : Int) != 10) = false := by rw [bne, c10]; rfl
            have hr : rx (s.data.toList.drop i) = (rx (s.data.toList.drop (i + 1))).map fun x => ([92] ++ x.1, x.2 + 1) := by
              have := rx_odd (s.data.toList.drop (i + 1)) (fun d t e => by rw [hd2] at e; injection e with e _; rw [← e]; exact e10)
              rw [hd, h92, this.1, this.2]; rfl
            have HN := Lib.hid (fun wr' (h : BS w.heap.size w (acc ++ [92]) wr') => HR.out.next [92] 1 hi1 hr (Nat.le_refl _) h)
            have hE := Lib.hid h92
            clear hr hd hd2 h10 h47 h92 e10
            go_wp2_with (go_at_call 15; ((with_reducible refine (write_calls 92 _ (by rw [hE.out]) HB.out (by omega)).mono ?_); rintro e W1 ⟨rfl, hb1⟩; replace hb1 := Lib.hid hb1))
            go_roundw
            case rel => exact ⟨i + 1, _, by go_num, by omega, by omega, HN.out _ hb1.out⟩
            case measure => simp [intOf]; omega
          · have c10 : (((s[i + 1]).toNat : Int) == 10) = false := ne_byte (c := 10) e10
            have c10n : (((s[i + 1]).toNat : Int) != 10) = true := by rw [bne, c10]; rfl
            by_cases e47 : s[i + 1] = 47
            · have d47 : (((s[i + 1]).toNat : Int) == 47) = true := eq_byte e47
              have d47n : (((s[i + 1]).toNat : Int) != 47) = false := by rw [bne, d47]; rfl
              have hr : rx (s.data.toList.drop i) = (rx (s.data.toList.drop (i + 2))).map fun x => ([47] ++ x.1, x.2 + 2) := by
                rw [hd, hd2, h92, rx_esc _ _ e10, if_pos e47]
              have HN := Lib.hid (fun wr' (h : BS w.heap.size w (acc ++ [47]) wr') => HR.out.next [47] 2 hi1 hr (by simp) h)
              have hE := Lib.hid e47
              clear hr hd hd2 h10 h47 h92 e10 e47
              go_wp2_with (go_at_call 15; ((with_reducible refine (write_calls 47 _ (by rw [hE.out]) HB.out (by omega)).mono ?_); rintro e W1 ⟨rfl, hb1⟩; replace hb1 := Lib.hid hb1))
              go_roundw
              case rel => exact ⟨i + 2, _, by go_num, by omega, by omega, HN.out _ hb1.out⟩
              case measure => simp [intOf]; omega
            · have d47 : (((s[i + 1]).toNat : Int) == 47) = false := ne_byte (c := 47) e47
              have d47n : (((s[i + 1]).toNat : Int) != 47) = true := by rw [bne, d47]; rfl
              have hr : rx (s.data.toList.drop i) = (rx (s.data.toList.drop (i + 2))).map fun x => ([92, s[i + 1]] ++ x.1, x.2 + 2) := by
                rw [hd, hd2, h92, rx_esc _ _ e10, if_neg e47]
              have HN := Lib.hid (fun wr' (h : BS w.heap.size w (acc ++ [92, s[i + 1]]) wr') => HR.out.next [92, s[i + 1]] 2 hi1 hr (Nat.le_refl _) h)
              clear hr hd hd2 h10 h47 h92 e10 e47
              go_wp2_with (first
                | (go_at_call 15; ((with_reducible refine (write_calls 92 92 c92 HB.out (by omega)).mono ?_); rintro e W1 ⟨rfl, hb1⟩; replace hb1 := Lib.hid hb1))
                | (go_at_call 15; ((with_reducible refine (write_calls s[i + 1] _ rfl hb1.out (by simp; omega)).mono ?_); rintro e W2 ⟨rfl, hb2⟩; replace hb2 := Lib.hid hb2)))
              go_roundw
              case rel => exact ⟨i + 2, _, by go_num, by omega, by omega, HN.out _ (by have := hb2.out; rwa [List.append_assoc] at this)⟩
              case measure => simp [intOf]; omega
        · have hr : rx (s.data.toList.drop i) = (rx (s.data.toList.drop (i + 1))).map fun x => ([92] ++ x.1, x.2 + 1) := by
            have := rx_odd (s.data.toList.drop (i + 1)) (fun d t e => by rw [drop_all s (i + 1) hnx] at e; cases e)
            rw [hd, h92, this.1, this.2]; rfl
          have HN := Lib.hid (fun wr' (h : BS w.heap.size w (acc ++ [92]) wr') => HR.out.next [92] 1 hi1 hr (Nat.le_refl _) h)
          have hE := Lib.hid h92
          have hnx2 : ¬ ((i : Int) + 1 < (s.size : Int)) := by omega
          clear hr hd h10 h47 h92
          go_wp2_with (go_at_call 15; ((with_reducible refine (write_calls 92 _ (by rw [hE.out]) HB.out (by omega)).mono ?_); rintro e W1 ⟨rfl, hb1⟩; replace hb1 := Lib.hid hb1))
          go_roundw
          case rel => exact ⟨i + 1, _, by go_num, by omega, by omega, HN.out _ hb1.out⟩
          case measure => simp [intOf]; omega
      · have b92 : (((s[i]).toNat : Int) == 92) = false := ne_byte (c := 92) h92
        have hr : rx (s.data.toList.drop i) = (rx (s.data.toList.drop (i + 1))).map fun x => ([s[i]] ++ x.1, x.2 + 1) := by
          rw [hd, rx_plain _ _ h10 h47 h92]; rfl
        have HN := Lib.hid (fun wr' (h : BS w.heap.size w (acc ++ [s[i]]) wr') => HR.out.next [s[i]] 1 hi1 hr (Nat.le_refl _) h)
        clear hr hd h10 h47 h92
        go_wp2_with (go_at_call 15; ((with_reducible refine (write_calls s[i] _ rfl HB.out (by omega)).mono ?_); rintro e W1 ⟨rfl, hb1⟩; replace hb1 := Lib.hid hb1))
        go_roundw
        case rel => exact ⟨i + 1, _, by go_num, by omega, by omega, HN.out _ hb1.out⟩
        case measure => simp [intOf]; omega
    · have hn : rx (s.data.toList.drop 1) = none := by
        rw [HR.out.2.2.2.2, drop_all s i hlt]; rfl
      have HN := Lib.hid hn
      clear hn
      go_wp2
      refine bodyPost_ret (v := .tuple #[.string ⟨#[]⟩, .int .i64 0, .bool false]) (by simp [results, Tryd.results30, go_sem]) rfl ⟨by rw [HN.out], HR.out.2.1⟩
end Go.Proofs.YtageaahlkiaigaaDoor.Wd
