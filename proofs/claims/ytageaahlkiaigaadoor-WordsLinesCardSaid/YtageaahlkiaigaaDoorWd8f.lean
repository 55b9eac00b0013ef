/- A word read, whatever it is; all words: walked. Conditions: each theorem's own. -/
import Derived.Test.YtageaahlkiaigaaDoorWd8b
import Derived.Test.YtageaahlkiaigaaDoorWd8c
import Derived.Test.YtageaahlkiaigaaDoorWd8d
import Derived.Test.YtageaahlkiaigaaDoorWd8e
set_option linter.unusedVariables false
set_option linter.unusedSimpArgs false
namespace Go.Proofs.YtageaahlkiaigaaDoor.Wd
open Go Go.RowKit Go.Proofs.YtageaahlkiaigaaDoorW.PrintWords P

theorem word_calls {s : ByteArray} {B X : Nat} {w0 : World} {p : Nat} {acc : List S32} {w : World} (H : RS s B X w0 p acc w) (hl : acc.length < 20002) (hs : s.size ≤ 20000) (hp : p < s.size) :
    Calls Tryd.prog 21 #[.pointer (some ⟨X, 0, none⟩)] w (WordIs s B X w0 p acc (one (s[p]'hp) (s.data.toList.drop (p + 1)))) := by
  obtain ⟨b, hb⟩ : ∃ b, s[p]'hp = b := ⟨_, rfl⟩
  obtain ⟨c, hc⟩ : ∃ c : Int, c = ((s[p]'hp).toNat : Int) := ⟨_, rfl⟩
  have key : ∀ d : UInt8, (c == (d.toNat : Int)) = decide (b = d) := by
    intro d
    rw [hc, hb]
    by_cases h : b = d
    · rw [eq_byte h, decide_eq_true h]
    · rw [ne_byte h, decide_eq_false h]
  have k (d : UInt8) (h : b ≠ d) : (c == (d.toNat : Int)) = false := by rw [key, decide_eq_false h]
  have y (d : UInt8) (h : b = d) : (c == (d.toNat : Int)) = true := by rw [key, decide_eq_true h]
  have hlet : letI_ c = letterB b := by rw [hc, hb, let_byte]
  have hdig : digI c = digitB b := by rw [hc, hb, dig_byte]
  have hmar : markI c = markB b := by rw [hc, hb, mark_byte]
  have hone : one (s[p]'hp) (s.data.toList.drop (p + 1)) = one b (s.data.toList.drop (p + 1)) := by rw [hb]
  rw [hone]
  unfold one
  by_cases e32 : b = 32
  · rw [if_pos (by rw [e32]; rfl)]; exact word_b32 H hl hs hp c hc (y 32 e32)
  by_cases e9 : b = 9
  · rw [if_pos (by rw [e9]; rfl)]; exact word_b9 H hl hs hp c hc (k 32 e32) (y 9 e9)
  by_cases e13 : b = 13
  · rw [if_pos (by rw [e13]; rfl)]; exact word_b13 H hl hs hp c hc (k 32 e32) (k 9 e9) (y 13 e13)
  rw [if_neg (by simp [blankB, e32, e9, e13])]
  by_cases e10 : b = 10
  · rw [if_pos e10]; exact word_nl H hl hs hp c hc (k 32 e32) (k 9 e9) (k 13 e13) (y 10 e10)
  rw [if_neg e10]
  by_cases e35 : b = 35
  · rw [if_pos e35, ← hb]; exact word_rem H hl hs hp c hc (k 32 e32) (k 9 e9) (k 13 e13) (k 10 e10) (y 35 e35)
  rw [if_neg e35]
  cases hL : letterB b
  · rw [if_neg (by decide)]
    rw [hL] at hlet
    cases hD : digitB b
    · rw [if_neg (by decide)]
      rw [hD] at hdig
      cases hM : markB b
      · rw [if_neg (by decide)]
        rw [hM] at hmar
        by_cases e47 : b = 47
        · rw [if_pos e47]
          cases hx : rx (s.data.toList.drop (p + 1)) with
          | none => exact word_norx H hl hs hp c hc (k 32 e32) (k 9 e9) (k 13 e13) (k 10 e10) (k 35 e35) hlet hdig hmar (y 47 e47) hx
          | some x => exact word_rx H hl hs hp c hc (k 32 e32) (k 9 e9) (k 13 e13) (k 10 e10) (k 35 e35) hlet hdig hmar (y 47 e47) x.1 x.2 hx
        · rw [if_neg e47]; exact word_odd H hl hs hp c hc (k 32 e32) (k 9 e9) (k 13 e13) (k 10 e10) (k 35 e35) hlet hdig hmar (k 47 e47)
      · rw [if_pos rfl, ← hb]
        rw [hM] at hmar
        exact word_mark H hl hs hp c hc (k 32 e32) (k 9 e9) (k 13 e13) (k 10 e10) (k 35 e35) hlet hdig hmar
    · rw [if_pos rfl, ← hb]
      rw [hD] at hdig
      split
      · exact word_numl H hl hs hp c hc (k 32 e32) (k 9 e9) (k 13 e13) (k 10 e10) (k 35 e35) hlet hdig (by assumption)
      · exact word_num H hl hs hp c hc (k 32 e32) (k 9 e9) (k 13 e13) (k 10 e10) (k 35 e35) hlet hdig (by rw [hb]; exact hD) (by omega)
  · rw [if_pos rfl, ← hb]
    rw [hL] at hlet
    split
    · exact word_long H hl hs hp c hc (k 32 e32) (k 9 e9) (k 13 e13) (k 10 e10) (k 35 e35) hlet (by assumption)
    · exact word_name H hl hs hp c hc (k 32 e32) (k 9 e9) (k 13 e13) (k 10 e10) (k 35 e35) hlet (by omega)

/-- A word as the program lays it. -/
def toS (w : W) : S32 := ⟨w.k, mkB w.t, w.n, w.a⟩
/-- What 'Words' answers. -/
def wordsL (s : ByteArray) : List W × Nat × Nat := if 20000 < s.size then ([], 4, 0) else rd (s.size + 1) s.data.toList 0 true
def WordsIs (s : ByteArray) (w : World) (e : Ending) (w' : World) : Prop :=
  ∃ v, e = .returned (.tuple #[v, .int .i64 ((wordsL s).2.1 : Int), .int .i64 ((wordsL s).2.2 : Int)]) ∧ k32.R 32 w' w.heap.size (fun _ => True) v ((wordsL s).1.map toS) ∧ Below w.heap.size w w'

/-- The state at p. -/
def At (s : ByteArray) (w : World) (p : Nat) (acc : List S32) (wr : World) : Prop :=
  RS s w.heap.size w.heap.size w p acc wr ∧ acc.length ≤ p ∧
    ∃ ws : List W, acc = ws.map toS ∧ wordsL s = (ws ++ (rd (s.size - p + 1) (s.data.toList.drop p) p (enS acc)).1, (rd (s.size - p + 1) (s.data.toList.drop p) p (enS acc)).2)

def atOf (X : Nat) (w : World) : Nat := match w.cell? ⟨X, 1, none⟩ with | some (.int _ a) => a.toNat | _ => 0
theorem RS.atOf {s : ByteArray} {B X : Nat} {w0 : World} {p : Nat} {acc : List S32} {w : World} (h : RS s B X w0 p acc w) : atOf X w = p := by
  unfold Wd.atOf; rw [h.cells.2.1]; rfl
theorem one_kind (b : UInt8) (r : Bytes) (k : Nat) (t : Bytes) (n m : Nat) (h : one b r = .word k t n m) : k < 4 := by
  unfold one at h
  repeat' split at h
  all_goals first
    | (injection h; omega)
    | cases h
theorem one_some (b : UInt8) (r : Bytes) (hr : r.length < 30000) : (∃ e, one b r = .err e) ∨ (1 ≤ (one b r).long ∧ (one b r).long ≤ r.length + 1) := by
  rcases one_long b r with ⟨e, h, _⟩ | h
  · exact .inl ⟨e, h⟩
  · exact .inr h

/-- One word further. -/
theorem at_next {s : ByteArray} {w : World} {p : Nat} {acc : List S32} {wr : World} (h : At s w p acc wr) (hs : s.size ≤ 20000) (hp : p < s.size) {e : Ending} {w' : World} (hw : WordIs s w.heap.size w.heap.size w p acc (one (s[p]'hp) (s.data.toList.drop (p + 1))) e w') :
    (∃ p' acc', e = .returned (.int .i64 0) ∧ p < p' ∧ p' ≤ s.size ∧ At s w p' acc' w') ∨
    ∃ c : Nat, e = .returned (.int .i64 (c : Int)) ∧ c ≠ 0 ∧ RS s w.heap.size w.heap.size w p acc w' ∧ (wordsL s).2 = (c, p) ∧ (wordsL s).1.map toS = acc := by
  obtain ⟨h1, h2, ws, h3, h4⟩ := h
  have hd := drop_byte s p hp
  obtain ⟨b, hb⟩ : ∃ b, s[p]'hp = b := ⟨_, rfl⟩
  rw [hb] at hw hd
  have hlen : (s.data.toList.drop (p + 1)).length = s.size - (p + 1) := by rw [List.length_drop, Lib.size_eq]
  have step := rd_step (s.size - p) b (s.data.toList.drop (p + 1)) p (enS acc)
  rw [← hd] at step
  rw [step] at h4
  have fuel : ∀ (n : Nat) (q : Nat) (en : Bool), 1 ≤ n → n ≤ s.size - p → rd (s.size - p) ((s.data.toList.drop p).drop n) q en = rd (s.size - (p + n) + 1) (s.data.toList.drop (p + n)) q en := by
    intro n q en hn hm
    rw [List.drop_drop]
    exact rd_fuel _ _ _ _ _ (by rw [List.length_drop, ← Lib.size_eq]; omega) (by rw [List.length_drop, ← Lib.size_eq]; omega)
  rcases one_long b (s.data.toList.drop (p + 1)) with ⟨x, hx, hxx⟩ | ⟨hl1, hl2⟩
  · rw [hx] at hw h4
    obtain ⟨he, hR⟩ := hw
    refine .inr ⟨x, he, by omega, hR, by rw [h4], ?_⟩
    rw [h4, h3]; simp
  · rw [hlen] at hl2
    cases ho : one b (s.data.toList.drop (p + 1)) with
    | skip n =>
      rw [ho] at hw h4 hl1 hl2
      simp only [Tok.long] at hl1 hl2
      obtain ⟨he, hR⟩ := hw
      refine .inl ⟨p + n, acc, he, by omega, by omega, hR, by omega, ws, h3, ?_⟩
      rw [h4, ← fuel n _ _ hl1 (by omega)]
    | nl =>
      rw [ho] at hw h4 hl1 hl2
      obtain ⟨he, hR⟩ := hw
      have f := fuel 1 (p + 1) true (Nat.le_refl _) (by omega)
      rw [List.drop_drop] at f
      cases hen : enS acc
      · rw [hen, if_neg (by decide)] at hR h4
        refine .inl ⟨p + 1, _, he, by omega, by omega, hR, by rw [List.length_append]; simp; omega, ws ++ [⟨4, [], 0, p⟩], by rw [List.map_append, ← h3]; rfl, ?_⟩
        rw [enS_snoc, show (((4 : Int) == 4) : Bool) = true from rfl, h4, ← f, List.append_assoc]
      · rw [hen, if_pos rfl] at hR h4
        refine .inl ⟨p + 1, _, he, by omega, by omega, hR, by omega, ws, h3, ?_⟩
        rw [hen, h4, ← f]; rfl
    | word k t n m =>
      have hk := one_kind _ _ _ _ _ _ ho
      rw [ho] at hw h4 hl1 hl2
      simp only [Tok.long] at hl1 hl2
      obtain ⟨he, hR⟩ := hw
      refine .inl ⟨p + m, _, he, by omega, by omega, hR, by rw [List.length_append]; simp; omega, ws ++ [⟨k, t, n, p⟩], by rw [List.map_append, ← h3]; rfl, ?_⟩
      rw [enS_snoc, show (((k : Int) == 4) : Bool) = false from beq_eq_false_iff_ne.2 (by omega), h4, ← fuel m _ _ hl1 (by omega), List.append_assoc]; rfl
    | err x => rw [ho] at hl1; exact absurd hl1 (by simp [Tok.long])
end Go.Proofs.YtageaahlkiaigaaDoor.Wd
