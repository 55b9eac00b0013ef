/- One word read: walked. Conditions: each theorem's own. -/
import Derived.Test.YtageaahlkiaigaaDoorWd8
set_option linter.unusedVariables false
set_option linter.unusedSimpArgs false
namespace Go.Proofs.YtageaahlkiaigaaDoor.Wd
open Go Go.RowKit Go.Proofs.YtageaahlkiaigaaDoorW.PrintWords P

set_option maxRecDepth 100000 in
set_option maxHeartbeats 4000000 in
theorem word_mark {s : ByteArray} {B X : Nat} {w0 : World} {p : Nat} {acc : List S32} {w : World} (H : RS s B X w0 p acc w) (hl : acc.length < 20002) (hs : s.size ≤ 20000) (hp : p < s.size) (c : Int) (hc : c = ((s[p]'hp).toNat : Int)) (k32 : (c == 32) = false) (k9 : (c == 9) = false) (k13 : (c == 13) = false) (k10 : (c == 10) = false) (k35 : (c == 35) = false) (kl : letI_ c = false) (kd : digI c = false) (km : markI c = true) :
    Calls Tryd.prog 21 #[.pointer (some ⟨X, 0, none⟩)] w (WordIs s B X w0 p acc (.word 2 [s[p]'hp] 0 1)) := by
  obtain ⟨c0, c1, f1⟩ := H.cells
  have h0 : 0 < (s.extract p s.size).size := by rw [rest_size s p hp]; omega
  have hE : wrap32 (((s.extract p s.size)[0]'h0).toNat : Int) = c := by rw [rest_at s p hp h0, byte_wrap, hc]
  have hcc : 0 ≤ c ∧ c ≤ 255 := by have := (s[p]'hp).toNat_lt; omega
  have hL := Lib.hid (rest_list s p hp)
  have hz := rest_size s p hp
  have HH := Lib.hid H
  clear H
  have hT := Lib.hid (show (s.extract p s.size).extract 0 1 = mkB [s[p]'hp] by rw [rest_take s p hp 1]; rfl)
  have h1z : 1 ≤ (s.extract p s.size).size := h0
  have h1z2 : 1 ≤ s.size - p := by omega
  have hkl := Lib.hid (fun w1 : World => ((letter_calls c w1).mono (fun e w' h => ⟨h.1.trans (by rw [kl]), h.2⟩) : Calls Tryd.prog 24 #[.int .i32 c] w1 fun e w' => e = .returned (.bool false) ∧ w' = w1))
  have hkd := Lib.hid (fun w1 : World => ((digit_calls c w1).mono (fun e w' h => ⟨h.1.trans (by rw [kd]), h.2⟩) : Calls Tryd.prog 20 #[.int .i32 c] w1 fun e w' => e = .returned (.bool false) ∧ w' = w1))
  have hkm := Lib.hid (fun w1 : World => ((mark_calls c w1 (by omega) (by omega)).mono (fun e w' h => ⟨h.1.trans (by rw [km]), h.2⟩) : Calls Tryd.prog 29 #[.string ⟨#[61, 40, 41, 59, 44]⟩, .int .i32 c] w1 fun e w' => e = .returned (.bool true) ∧ ∃ m, w' = w1.drewN m))
  clear hc
  go_enter Tryd.func21, Tryd.ntmps21
  go_wp2_with fail
  go_upto_region 1 with fail
  repeat (refine wp_seq ?_)
  go_quiet (fail)
  go_wp2_with (first | (go_at_call 24; (with_reducible refine (hkl.out _).mono ?_); rintro e W1 ⟨rfl, rfl⟩) | (go_at_call 20; (with_reducible refine (hkd.out _).mono ?_); rintro e W1 ⟨rfl, rfl⟩) | (go_at_call 29; (with_reducible refine (hkm.out _).mono ?_); rintro e W1 ⟨rfl, m, rfl⟩) | (go_at_call 27; (with_reducible refine (add_calls (HH.out.drewN (nq + m)) hl (by omega) 2 _ 0 1 (by omega)).mono ?_); rintro e W2 ⟨rfl, hS⟩; replace hS := Lib.hid hS))
  go_ret
  exact ⟨rfl, hS.out.cast rfl (by rw [hT.out]; rfl)⟩

set_option maxRecDepth 100000 in
set_option maxHeartbeats 4000000 in
theorem word_odd {s : ByteArray} {B X : Nat} {w0 : World} {p : Nat} {acc : List S32} {w : World} (H : RS s B X w0 p acc w) (hl : acc.length < 20002) (hs : s.size ≤ 20000) (hp : p < s.size) (c : Int) (hc : c = ((s[p]'hp).toNat : Int)) (k32 : (c == 32) = false) (k9 : (c == 9) = false) (k13 : (c == 13) = false) (k10 : (c == 10) = false) (k35 : (c == 35) = false) (kl : letI_ c = false) (kd : digI c = false) (km : markI c = false) (k47 : (c == 47) = false) :
    Calls Tryd.prog 21 #[.pointer (some ⟨X, 0, none⟩)] w (WordIs s B X w0 p acc (.err 5)) := by
  obtain ⟨c0, c1, f1⟩ := H.cells
  have h0 : 0 < (s.extract p s.size).size := by rw [rest_size s p hp]; omega
  have hE : wrap32 (((s.extract p s.size)[0]'h0).toNat : Int) = c := by rw [rest_at s p hp h0, byte_wrap, hc]
  have hcc : 0 ≤ c ∧ c ≤ 255 := by have := (s[p]'hp).toNat_lt; omega
  have hL := Lib.hid (rest_list s p hp)
  have hz := rest_size s p hp
  have HH := Lib.hid H
  clear H
  have hkl := Lib.hid (fun w1 : World => ((letter_calls c w1).mono (fun e w' h => ⟨h.1.trans (by rw [kl]), h.2⟩) : Calls Tryd.prog 24 #[.int .i32 c] w1 fun e w' => e = .returned (.bool false) ∧ w' = w1))
  have hkd := Lib.hid (fun w1 : World => ((digit_calls c w1).mono (fun e w' h => ⟨h.1.trans (by rw [kd]), h.2⟩) : Calls Tryd.prog 20 #[.int .i32 c] w1 fun e w' => e = .returned (.bool false) ∧ w' = w1))
  have hkm := Lib.hid (fun w1 : World => ((mark_calls c w1 (by omega) (by omega)).mono (fun e w' h => ⟨h.1.trans (by rw [km]), h.2⟩) : Calls Tryd.prog 29 #[.string ⟨#[61, 40, 41, 59, 44]⟩, .int .i32 c] w1 fun e w' => e = .returned (.bool false) ∧ ∃ m, w' = w1.drewN m))
  clear hc
  go_enter Tryd.func21, Tryd.ntmps21
  go_wp2_with fail
  go_upto_region 1 with fail
  repeat (refine wp_seq ?_)
  go_quiet (fail)
  go_wp2_with (first | (go_at_call 24; (with_reducible refine (hkl.out _).mono ?_); rintro e W1 ⟨rfl, rfl⟩) | (go_at_call 20; (with_reducible refine (hkd.out _).mono ?_); rintro e W1 ⟨rfl, rfl⟩) | (go_at_call 29; (with_reducible refine (hkm.out _).mono ?_); rintro e W1 ⟨rfl, m, rfl⟩))
  go_ret
  exact ⟨rfl, HH.out.drewN (nq + m)⟩

end Go.Proofs.YtageaahlkiaigaaDoor.Wd
