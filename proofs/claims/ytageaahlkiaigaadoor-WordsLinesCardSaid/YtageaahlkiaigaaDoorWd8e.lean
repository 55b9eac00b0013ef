/- One word read: walked. Conditions: each theorem's own. -/
import Derived.Test.YtageaahlkiaigaaDoorWd8
set_option linter.unusedVariables false
set_option linter.unusedSimpArgs false
namespace Go.Proofs.YtageaahlkiaigaaDoor.Wd
open Go Go.RowKit Go.Proofs.YtageaahlkiaigaaDoorW.PrintWords P

set_option maxRecDepth 100000 in
set_option maxHeartbeats 4000000 in
theorem word_rx {s : ByteArray} {B X : Nat} {w0 : World} {p : Nat} {acc : List S32} {w : World} (H : RS s B X w0 p acc w) (hl : acc.length < 20002) (hs : s.size ≤ 20000) (hp : p < s.size) (c : Int) (hc : c = ((s[p]'hp).toNat : Int)) (k32 : (c == 32) = false) (k9 : (c == 9) = false) (k13 : (c == 13) = false) (k10 : (c == 10) = false) (k35 : (c == 35) = false) (kl : letI_ c = false) (kd : digI c = false) (km : markI c = false) (k47 : (c == 47) = true) (t : Bytes) (n : Nat) (hx : rx (s.data.toList.drop (p + 1)) = some (t, n)) :
    Calls Tryd.prog 21 #[.pointer (some ⟨X, 0, none⟩)] w (WordIs s B X w0 p acc (.word 3 t 0 (n + 1))) := by
  obtain ⟨c0, c1, f1⟩ := H.cells
  have h0 : 0 < (s.extract p s.size).size := by rw [rest_size s p hp]; omega
  have hE : wrap32 (((s.extract p s.size)[0]'h0).toNat : Int) = c := by rw [rest_at s p hp h0, byte_wrap, hc]
  have hcc : 0 ≤ c ∧ c ≤ 255 := by have := (s[p]'hp).toNat_lt; omega
  have hL := Lib.hid (rest_list s p hp)
  have hz := rest_size s p hp
  have HH := Lib.hid H
  clear H
  have hkl := Lib.hid (fun w1 : World => ((letter_calls c w1).mono (fun e w' h => ⟨h.1.trans (by rw [kl]), h.2⟩) : Calls Tryd.prog 24 #[.int .i32 c] w1 fun e w' => e = .returned (.bool false) ∧ w' = w1))
  have hkd := Lib.hid (fun w1 : World => ((digit_calls c w1).mono (fun e w' h => ⟨h.1.trans (by rw [kd]), h.2⟩) : Calls Tryd.prog 20 #[.int .i32 c] w1 fun e w' => e = .returned (.bool false) ∧ w' = w1))
  have hkm := Lib.hid (fun w1 : World => ((mark_calls c w1 (by omega) (by omega)).mono (fun e w' h => ⟨h.1.trans (by rw [km]), h.2⟩) : Calls Tryd.prog 29 #[.string ⟨#[61, 40, 41, 59, 44]⟩, .int .i32 c] w1 fun e w' => e = .returned (.bool false) ∧ ∃ m, w' = w1.drewN m))
  have hnl : n + 1 ≤ 20000 := by have := (rx_le _ _ _ hx).2; rw [List.length_drop, ← Lib.size_eq] at this; omega
  have hrx := Lib.hid (fun w1 : World => ((regex_calls (s.extract p s.size) w1 (by omega) (by omega)).mono (fun e w' h => ⟨by have := h.1; rw [rest_list s p hp, List.drop_succ_cons, List.drop_zero, hx] at this; exact this, h.2⟩) : Calls Tryd.prog 30 #[.string (s.extract p s.size)] w1 fun e w' => e = .returned (.tuple #[.string (mkB t), .int .i64 ((n : Int) + 1), .bool true]) ∧ Below w1.heap.size w1 w'))
  clear hc
  go_enter Tryd.func21, Tryd.ntmps21
  go_wp2_with fail
  go_upto_region 1 with fail
  repeat (refine wp_seq ?_)
  go_quiet (fail)
  go_wp2_with (first | (go_at_call 24; (with_reducible refine (hkl.out _).mono ?_); rintro e W1 ⟨rfl, rfl⟩) | (go_at_call 20; (with_reducible refine (hkd.out _).mono ?_); rintro e W1 ⟨rfl, rfl⟩) | (go_at_call 29; (with_reducible refine (hkm.out _).mono ?_); rintro e W1 ⟨rfl, m, rfl⟩) | (go_at_call 30; (with_reducible refine (hrx.out _).mono ?_); rintro e W2 ⟨rfl, hb⟩; have hR := Lib.hid ((HH.out.drewN (nq + m)).ride hb); clear hb) | (go_at_call 27; (with_reducible refine (add_calls hR.out hl (by omega) 3 _ 0 ((n : Int) + 1) (by omega)).mono ?_); rintro e W3 ⟨rfl, hS⟩; replace hS := Lib.hid hS))
  go_ret
  exact ⟨rfl, hS.out.cast (by omega) rfl⟩

set_option maxRecDepth 100000 in
set_option maxHeartbeats 4000000 in
theorem word_norx {s : ByteArray} {B X : Nat} {w0 : World} {p : Nat} {acc : List S32} {w : World} (H : RS s B X w0 p acc w) (hl : acc.length < 20002) (hs : s.size ≤ 20000) (hp : p < s.size) (c : Int) (hc : c = ((s[p]'hp).toNat : Int)) (k32 : (c == 32) = false) (k9 : (c == 9) = false) (k13 : (c == 13) = false) (k10 : (c == 10) = false) (k35 : (c == 35) = false) (kl : letI_ c = false) (kd : digI c = false) (km : markI c = false) (k47 : (c == 47) = true) (hx : rx (s.data.toList.drop (p + 1)) = none) :
    Calls Tryd.prog 21 #[.pointer (some ⟨X, 0, none⟩)] w (WordIs s B X w0 p acc (.err 5)) := by
  obtain ⟨c0, c1, f1⟩ := H.cells
  have h0 : 0 < (s.extract p s.size).size := by rw [rest_size s p hp]; omega
  have hE : wrap32 (((s.extract p s.size)[0]'h0).toNat : Int) = c := by rw [rest_at s p hp h0, byte_wrap, hc]
  have hcc : 0 ≤ c ∧ c ≤ 255 := by have := (s[p]'hp).toNat_lt; omega
  have hL := Lib.hid (rest_list s p hp)
  have hz := rest_size s p hp
  have HH := Lib.hid H
  clear H
  have hkl := Lib.hid (fun w1 : World => ((letter_calls c w1).mono (fun e w' h => ⟨h.1.trans (by rw [kl]), h.2⟩) : Calls Tryd.prog 24 #[.int .i32 c] w1 fun e w' => e = .returned (.bool false) ∧ w' = w1))
  have hkd := Lib.hid (fun w1 : World => ((digit_calls c w1).mono (fun e w' h => ⟨h.1.trans (by rw [kd]), h.2⟩) : Calls Tryd.prog 20 #[.int .i32 c] w1 fun e w' => e = .returned (.bool false) ∧ w' = w1))
  have hkm := Lib.hid (fun w1 : World => ((mark_calls c w1 (by omega) (by omega)).mono (fun e w' h => ⟨h.1.trans (by rw [km]), h.2⟩) : Calls Tryd.prog 29 #[.string ⟨#[61, 40, 41, 59, 44]⟩, .int .i32 c] w1 fun e w' => e = .returned (.bool false) ∧ ∃ m, w' = w1.drewN m))
  have hrx := Lib.hid (fun w1 : World => ((regex_calls (s.extract p s.size) w1 (by omega) (by omega)).mono (fun e w' h => ⟨by have := h.1; rw [rest_list s p hp, List.drop_succ_cons, List.drop_zero, hx] at this; exact this, h.2⟩) : Calls Tryd.prog 30 #[.string (s.extract p s.size)] w1 fun e w' => e = .returned (.tuple #[.string ⟨#[]⟩, .int .i64 0, .bool false]) ∧ Below w1.heap.size w1 w'))
  clear hc
  go_enter Tryd.func21, Tryd.ntmps21
  go_wp2_with fail
  go_upto_region 1 with fail
  repeat (refine wp_seq ?_)
  go_quiet (fail)
  go_wp2_with (first | (go_at_call 24; (with_reducible refine (hkl.out _).mono ?_); rintro e W1 ⟨rfl, rfl⟩) | (go_at_call 20; (with_reducible refine (hkd.out _).mono ?_); rintro e W1 ⟨rfl, rfl⟩) | (go_at_call 29; (with_reducible refine (hkm.out _).mono ?_); rintro e W1 ⟨rfl, m, rfl⟩) | (go_at_call 30; (with_reducible refine (hrx.out _).mono ?_); rintro e W2 ⟨rfl, hb⟩; have hR := Lib.hid ((HH.out.drewN (nq + m)).ride hb); clear hb))
  go_ret
  exact ⟨rfl, hR.out⟩

end Go.Proofs.YtageaahlkiaigaaDoor.Wd
