/- One word read: walked. Conditions: each theorem's own. -/
import Derived.Test.YtageaahlkiaigaaDoorWd7
import Derived.Deep.RegionWith
import Derived.Lib.Strings
set_option linter.unusedVariables false
set_option linter.unusedSimpArgs false
namespace Go.Proofs.YtageaahlkiaigaaDoor.Wd
open Go Go.RowKit Go.Proofs.YtageaahlkiaigaaDoorW.PrintWords P

/-- What 'word' answers, and what the reader holds then. -/
def WordIs (s : ByteArray) (B X : Nat) (w0 : World) (p : Nat) (acc : List S32) (k : Tok) (e : Ending) (w' : World) : Prop :=
  match k with
  | .skip n => e = .returned (.int .i64 0) ∧ RS s B X w0 ((p + n : Nat) : Int) acc w'
  | .nl => e = .returned (.int .i64 0) ∧ RS s B X w0 ((p + 1 : Nat) : Int) (if enS acc then acc else acc ++ [⟨4, ⟨#[]⟩, 0, p⟩]) w'
  | .word k t n m => e = .returned (.int .i64 0) ∧ RS s B X w0 ((p + m : Nat) : Int) (acc ++ [⟨k, mkB t, n, p⟩]) w'
  | .err c => e = .returned (.int .i64 (c : Int)) ∧ RS s B X w0 (p : Int) acc w'

theorem byte_wrap (b : UInt8) : wrap32 (b.toNat : Int) = (b.toNat : Int) := by
  have := b.toNat_lt
  simp only [wrap32]; omega
theorem rest_at (s : ByteArray) (p : Nat) (hp : p < s.size) (h : 0 < (s.extract p s.size).size) : (s.extract p s.size)[0]'h = s[p]'hp := by
  rw [ByteArray.getElem_extract]; rfl
theorem rest_list (s : ByteArray) (p : Nat) (hp : p < s.size) : (s.extract p s.size).data.toList = (s[p]'hp) :: s.data.toList.drop (p + 1) := by
  rw [Lib.extract_data, ← drop_byte s p hp, List.take_of_length_le]
  rw [List.length_drop, Lib.size_eq]; exact Nat.le_refl _
theorem rest_size (s : ByteArray) (p : Nat) (hp : p < s.size) : (s.extract p s.size).size = s.size - p := by
  rw [ByteArray.size_extract]; omega
theorem rest_take (s : ByteArray) (p : Nat) (hp : p < s.size) (n : Nat) : (s.extract p s.size).extract 0 n = mkB (((s[p]'hp) :: s.data.toList.drop (p + 1)).take n) := by
  rw [Lib.extract_eq, rest_list s p hp]; rfl
theorem RS.ride {s : ByteArray} {B X : Nat} {w0 : World} {a : Int} {acc : List S32} {w w' : World} (h : RS s B X w0 a acc w) (hb : Below w.heap.size w w') : RS s B X w0 a acc w' := by
  have hX := h.lt
  obtain ⟨⟨lv, h1, h2⟩, h3, h4⟩ := h
  refine ⟨⟨lv, ?_, Kd.R_below h2 hb⟩, h3.trans (hb.mono (by omega)), h4⟩
  rw [hb.block X hX]; exact h1
theorem RS.cells {s : ByteArray} {B X : Nat} {w0 : World} {a : Int} {acc : List S32} {w : World} (h : RS s B X w0 a acc w) : w.cell? ⟨X, 0, none⟩ = some (.string s) ∧ w.cell? ⟨X, 1, none⟩ = some (.int .i64 a) ∧ w.frozen? ⟨X, 1, none⟩ = false := by
  obtain ⟨lv, h1, h2⟩ := h.at_
  exact ⟨by rw [Joins.cell_of_block h1]; rfl, by rw [Joins.cell_of_block h1]; rfl, froz h1 1⟩
theorem RS.cast {s : ByteArray} {B X : Nat} {w0 : World} {a a' : Int} {acc acc' : List S32} {w : World} (h : RS s B X w0 a acc w) (ha : a = a') (hc : acc = acc') : RS s B X w0 a' acc' w := by subst ha; subst hc; exact h

set_option maxRecDepth 100000 in
set_option maxHeartbeats 4000000 in
theorem word_b32 {s : ByteArray} {B X : Nat} {w0 : World} {p : Nat} {acc : List S32} {w : World} (H : RS s B X w0 p acc w) (hl : acc.length < 20002) (hs : s.size ≤ 20000) (hp : p < s.size) (c : Int) (hc : c = ((s[p]'hp).toNat : Int)) (k32 : (c == 32) = true) :
    Calls Tryd.prog 21 #[.pointer (some ⟨X, 0, none⟩)] w (WordIs s B X w0 p acc (.skip 1)) := by
  obtain ⟨c0, c1, f1⟩ := H.cells
  have h0 : 0 < (s.extract p s.size).size := by rw [rest_size s p hp]; omega
  have hE : wrap32 (((s.extract p s.size)[0]'h0).toNat : Int) = c := by rw [rest_at s p hp h0, byte_wrap, hc]
  have hcc : 0 ≤ c ∧ c ≤ 255 := by have := (s[p]'hp).toNat_lt; omega
  have hL := Lib.hid (rest_list s p hp)
  have hz := rest_size s p hp
  have HH := Lib.hid H
  clear H
  clear hc
  go_enter Tryd.func21, Tryd.ntmps21
  go_wp2_with fail
  go_upto_region 1 with fail
  repeat (refine wp_seq ?_)
  go_quiet (fail)
  go_wp2_with fail
  go_ret
  exact ⟨rfl, (HH.out.drewN nq).to _⟩

set_option maxRecDepth 100000 in
set_option maxHeartbeats 4000000 in
theorem word_b9 {s : ByteArray} {B X : Nat} {w0 : World} {p : Nat} {acc : List S32} {w : World} (H : RS s B X w0 p acc w) (hl : acc.length < 20002) (hs : s.size ≤ 20000) (hp : p < s.size) (c : Int) (hc : c = ((s[p]'hp).toNat : Int)) (k32 : (c == 32) = false) (k9 : (c == 9) = true) :
    Calls Tryd.prog 21 #[.pointer (some ⟨X, 0, none⟩)] w (WordIs s B X w0 p acc (.skip 1)) := by
  obtain ⟨c0, c1, f1⟩ := H.cells
  have h0 : 0 < (s.extract p s.size).size := by rw [rest_size s p hp]; omega
  have hE : wrap32 (((s.extract p s.size)[0]'h0).toNat : Int) = c := by rw [rest_at s p hp h0, byte_wrap, hc]
  have hcc : 0 ≤ c ∧ c ≤ 255 := by have := (s[p]'hp).toNat_lt; omega
  have hL := Lib.hid (rest_list s p hp)
  have hz := rest_size s p hp
  have HH := Lib.hid H
  clear H
  clear hc
  go_enter Tryd.func21, Tryd.ntmps21
  go_wp2_with fail
  go_upto_region 1 with fail
  repeat (refine wp_seq ?_)
  go_quiet (fail)
  go_wp2_with fail
  go_ret
  exact ⟨rfl, (HH.out.drewN nq).to _⟩

set_option maxRecDepth 100000 in
set_option maxHeartbeats 4000000 in
theorem word_b13 {s : ByteArray} {B X : Nat} {w0 : World} {p : Nat} {acc : List S32} {w : World} (H : RS s B X w0 p acc w) (hl : acc.length < 20002) (hs : s.size ≤ 20000) (hp : p < s.size) (c : Int) (hc : c = ((s[p]'hp).toNat : Int)) (k32 : (c == 32) = false) (k9 : (c == 9) = false) (k13 : (c == 13) = true) :
    Calls Tryd.prog 21 #[.pointer (some ⟨X, 0, none⟩)] w (WordIs s B X w0 p acc (.skip 1)) := by
  obtain ⟨c0, c1, f1⟩ := H.cells
  have h0 : 0 < (s.extract p s.size).size := by rw [rest_size s p hp]; omega
  have hE : wrap32 (((s.extract p s.size)[0]'h0).toNat : Int) = c := by rw [rest_at s p hp h0, byte_wrap, hc]
  have hcc : 0 ≤ c ∧ c ≤ 255 := by have := (s[p]'hp).toNat_lt; omega
  have hL := Lib.hid (rest_list s p hp)
  have hz := rest_size s p hp
  have HH := Lib.hid H
  clear H
  clear hc
  go_enter Tryd.func21, Tryd.ntmps21
  go_wp2_with fail
  go_upto_region 1 with fail
  repeat (refine wp_seq ?_)
  go_quiet (fail)
  go_wp2_with fail
  go_ret
  exact ⟨rfl, (HH.out.drewN nq).to _⟩

set_option maxRecDepth 100000 in
set_option maxHeartbeats 4000000 in
theorem word_nl {s : ByteArray} {B X : Nat} {w0 : World} {p : Nat} {acc : List S32} {w : World} (H : RS s B X w0 p acc w) (hl : acc.length < 20002) (hs : s.size ≤ 20000) (hp : p < s.size) (c : Int) (hc : c = ((s[p]'hp).toNat : Int)) (k32 : (c == 32) = false) (k9 : (c == 9) = false) (k13 : (c == 13) = false) (k10 : (c == 10) = true) :
    Calls Tryd.prog 21 #[.pointer (some ⟨X, 0, none⟩)] w (WordIs s B X w0 p acc .nl) := by
  obtain ⟨c0, c1, f1⟩ := H.cells
  have h0 : 0 < (s.extract p s.size).size := by rw [rest_size s p hp]; omega
  have hE : wrap32 (((s.extract p s.size)[0]'h0).toNat : Int) = c := by rw [rest_at s p hp h0, byte_wrap, hc]
  have hcc : 0 ≤ c ∧ c ≤ 255 := by have := (s[p]'hp).toNat_lt; omega
  have hL := Lib.hid (rest_list s p hp)
  have hz := rest_size s p hp
  have HH := Lib.hid H
  clear H
  clear hc
  go_enter Tryd.func21, Tryd.ntmps21
  go_wp2_with fail
  go_upto_region 1 with fail
  repeat (refine wp_seq ?_)
  go_quiet (fail)
  go_wp2_with (go_at_call 22; (with_reducible refine (end_calls (HH.out.drewN nq) hl (by omega) 1 (by omega)).mono ?_); rintro e W1 ⟨rfl, hR⟩; replace hR := Lib.hid hR)
  go_ret
  exact ⟨rfl, hR.out⟩

set_option maxRecDepth 100000 in
set_option maxHeartbeats 4000000 in
theorem word_rem {s : ByteArray} {B X : Nat} {w0 : World} {p : Nat} {acc : List S32} {w : World} (H : RS s B X w0 p acc w) (hl : acc.length < 20002) (hs : s.size ≤ 20000) (hp : p < s.size) (c : Int) (hc : c = ((s[p]'hp).toNat : Int)) (k32 : (c == 32) = false) (k9 : (c == 9) = false) (k13 : (c == 13) = false) (k10 : (c == 10) = false) (k35 : (c == 35) = true) :
    Calls Tryd.prog 21 #[.pointer (some ⟨X, 0, none⟩)] w (WordIs s B X w0 p acc (.skip (((s[p]'hp) :: s.data.toList.drop (p + 1)).takeWhile restB).length)) := by
  obtain ⟨c0, c1, f1⟩ := H.cells
  have h0 : 0 < (s.extract p s.size).size := by rw [rest_size s p hp]; omega
  have hE : wrap32 (((s.extract p s.size)[0]'h0).toNat : Int) = c := by rw [rest_at s p hp h0, byte_wrap, hc]
  have hcc : 0 ≤ c ∧ c ≤ 255 := by have := (s[p]'hp).toNat_lt; omega
  have hL := Lib.hid (rest_list s p hp)
  have hz := rest_size s p hp
  have HH := Lib.hid H
  clear H
  obtain ⟨n, hn⟩ : ∃ n, (((s[p]'hp) :: s.data.toList.drop (p + 1)).takeWhile restB).length = n := ⟨_, rfl⟩
  have hnle : n ≤ (s.extract p s.size).size := by rw [← hn, Lib.size_eq (s.extract p s.size), rest_list s p hp]; exact tw_len _ _
  have hnle2 : n ≤ s.size - p := by omega
  rw [hn]
  have hwr : IntKind.i64.wrap ((p : Int) + (n : Int)) = ((p + n : Nat) : Int) := by rw [IntKind.wrap_i64]; omega
  have hrun := Lib.hid (fun w1 : World => ((run_rest (s.extract p s.size) w1 (by omega)).mono (fun e w' h => ⟨h.1.trans (by rw [rest_list s p hp, hn]), h.2⟩) : Calls Tryd.prog 25 #[.string (s.extract p s.size), .func (.func 26) #[] #[]] w1 fun e w' => e = .returned (.int .i64 (n : Int)) ∧ Below w1.heap.size w1 w'))
  clear hc
  go_enter Tryd.func21, Tryd.ntmps21
  go_wp2_with fail
  go_upto_region 1 with fail
  repeat (refine wp_seq ?_)
  go_quiet (fail)
  go_wp2_with fail
  go_region_with (go_at_call 25; (with_reducible refine (hrun.out _).mono ?_); rintro e W1 ⟨rfl, hb⟩; have hR := Lib.hid ((HH.out.drewN (nq + 1)).ride hb); obtain ⟨d0, d1, g1⟩ := hR.out.cells)
  all_goals go_wp2_with fail
  all_goals go_ret
  all_goals exact ⟨rfl, (hR.out.to _).cast (Int.natCast_add p n).symm rfl⟩

end Go.Proofs.YtageaahlkiaigaaDoor.Wd
