/- One word read: walked. Conditions: each theorem's own. -/
import Derived.Test.YtageaahlkiaigaaDoorWd8
set_option linter.unusedVariables false
set_option linter.unusedSimpArgs false
namespace Go.Proofs.YtageaahlkiaigaaDoor.Wd
open Go Go.RowKit Go.Proofs.YtageaahlkiaigaaDoorW.PrintWords P

set_option maxRecDepth 100000 in
set_option maxHeartbeats 4000000 in
theorem word_num {s : ByteArray} {B X : Nat} {w0 : World} {p : Nat} {acc : List S32} {w : World} (H : RS s B X w0 p acc w) (hl : acc.length < 20002) (hs : s.size ≤ 20000) (hp : p < s.size) (c : Int) (hc : c = ((s[p]'hp).toNat : Int)) (k32 : (c == 32) = false) (k9 : (c == 9) = false) (k13 : (c == 13) = false) (k10 : (c == 10) = false) (k35 : (c == 35) = false) (kl : letI_ c = false) (kd : digI c = true) (hdB : digitB (s[p]'hp) = true) (hn9 : (((s[p]'hp) :: s.data.toList.drop (p + 1)).takeWhile digitB).length ≤ 9) :
    Calls Tryd.prog 21 #[.pointer (some ⟨X, 0, none⟩)] w (WordIs s B X w0 p acc (.word 1 (((s[p]'hp) :: s.data.toList.drop (p + 1)).takeWhile digitB) (valL (((s[p]'hp) :: s.data.toList.drop (p + 1)).takeWhile digitB)) (((s[p]'hp) :: s.data.toList.drop (p + 1)).takeWhile digitB).length)) := by
  obtain ⟨c0, c1, f1⟩ := H.cells
  have h0 : 0 < (s.extract p s.size).size := by rw [rest_size s p hp]; omega
  have hE : wrap32 (((s.extract p s.size)[0]'h0).toNat : Int) = c := by rw [rest_at s p hp h0, byte_wrap, hc]
  have hcc : 0 ≤ c ∧ c ≤ 255 := by have := (s[p]'hp).toNat_lt; omega
  have hL := Lib.hid (rest_list s p hp)
  have hz := rest_size s p hp
  have HH := Lib.hid H
  clear H
  have hT := tw_take digitB ((s[p]'hp) :: s.data.toList.drop (p + 1))
  have hpos := tw_pos digitB _ (s.data.toList.drop (p + 1)) hdB
  have hmem := tw_mem digitB ((s[p]'hp) :: s.data.toList.drop (p + 1))
  obtain ⟨n, hn⟩ : ∃ n, (((s[p]'hp) :: s.data.toList.drop (p + 1)).takeWhile digitB).length = n := ⟨_, rfl⟩
  have hnle : n ≤ (s.extract p s.size).size := by rw [← hn, Lib.size_eq (s.extract p s.size), rest_list s p hp]; exact tw_len _ _
  have hnle2 : n ≤ s.size - p := by omega
  rw [hn] at hn9 hT hpos ⊢
  replace hT : (s.extract p s.size).extract 0 n = mkB (((s[p]'hp) :: s.data.toList.drop (p + 1)).takeWhile digitB) := by rw [rest_take s p hp n, hT]
  obtain ⟨v, hv⟩ : ∃ v : Int, v = (valL (((s[p]'hp) :: s.data.toList.drop (p + 1)).takeWhile digitB) : Int) := ⟨_, rfl⟩
  have hat := Lib.hid (fun w1 : World => ((Tryd.strconv_Atoi ((s.extract p s.size).extract 0 n) v (by rw [hT, mkB, Lib.size_eq]; show (((s[p]'hp) :: s.data.toList.drop (p + 1)).takeWhile digitB).toArray.toList.length ≤ 18; rw [List.toList_toArray, hn]; omega) (by rw [hT, hv]; exact atoi_val (((s[p]'hp) :: s.data.toList.drop (p + 1)).takeWhile digitB) (fun e => by rw [e] at hn; simp at hn; omega) hmem) w1).mono (fun e w' h => ⟨h.1, by obtain ⟨t, ht⟩ := h.2; rw [ht]; exact Joins.below_bytesWorld _ _ _ _ (Nat.le_refl _)⟩) : Calls Tryd.prog 28 #[.string ((s.extract p s.size).extract 0 n)] w1 fun e w' => e = .returned (.tuple #[.int .i64 v, .nilIface]) ∧ Below w1.heap.size w1 w'))
  replace hT := Lib.hid hT
  replace hv := Lib.hid hv
  clear hmem hpos
  have hi9 : ¬ (9 < (n : Int)) := by omega
  have hrun := Lib.hid (fun w1 : World => ((run_digit (s.extract p s.size) w1 (by omega)).mono (fun e w' h => ⟨h.1.trans (by rw [rest_list s p hp, hn]), h.2⟩) : Calls Tryd.prog 25 #[.string (s.extract p s.size), .func (.func 20) #[] #[]] w1 fun e w' => e = .returned (.int .i64 (n : Int)) ∧ Below w1.heap.size w1 w'))
  have hkl := Lib.hid (fun w1 : World => ((letter_calls c w1).mono (fun e w' h => ⟨h.1.trans (by rw [kl]), h.2⟩) : Calls Tryd.prog 24 #[.int .i32 c] w1 fun e w' => e = .returned (.bool false) ∧ w' = w1))
  have hkd := Lib.hid (fun w1 : World => ((digit_calls c w1).mono (fun e w' h => ⟨h.1.trans (by rw [kd]), h.2⟩) : Calls Tryd.prog 20 #[.int .i32 c] w1 fun e w' => e = .returned (.bool true) ∧ w' = w1))
  clear hc
  go_enter Tryd.func21, Tryd.ntmps21
  go_wp2_with fail
  go_upto_region 1 with fail
  repeat (refine wp_seq ?_)
  go_quiet (fail)
  go_wp2_with (first | (go_at_call 24; (with_reducible refine (hkl.out _).mono ?_); rintro e W1 ⟨rfl, rfl⟩) | (go_at_call 20; (with_reducible refine (hkd.out _).mono ?_); rintro e W1 ⟨rfl, rfl⟩) | (go_at_call 25; (with_reducible refine (hrun.out _).mono ?_); rintro e W1 ⟨rfl, hb⟩; have hR := Lib.hid ((HH.out.drewN nq).ride hb); clear hb) | (go_at_call 28; (with_reducible refine (hat.out _).mono ?_); rintro e W2 ⟨rfl, hb2⟩; have hR2 := Lib.hid (hR.out.ride hb2); clear hb2) | (go_at_call 27; (with_reducible refine (add_calls hR2.out hl (by omega) 1 _ v n (by omega)).mono ?_); rintro e W3 ⟨rfl, hS⟩; replace hS := Lib.hid hS))
  go_ret
  exact ⟨rfl, hS.out.cast (Int.natCast_add p n).symm (by rw [hT.out, ← hv.out]; rfl)⟩

set_option maxRecDepth 100000 in
set_option maxHeartbeats 4000000 in
theorem word_numl {s : ByteArray} {B X : Nat} {w0 : World} {p : Nat} {acc : List S32} {w : World} (H : RS s B X w0 p acc w) (hl : acc.length < 20002) (hs : s.size ≤ 20000) (hp : p < s.size) (c : Int) (hc : c = ((s[p]'hp).toNat : Int)) (k32 : (c == 32) = false) (k9 : (c == 9) = false) (k13 : (c == 13) = false) (k10 : (c == 10) = false) (k35 : (c == 35) = false) (kl : letI_ c = false) (kd : digI c = true) (hn9 : 9 < (((s[p]'hp) :: s.data.toList.drop (p + 1)).takeWhile digitB).length) :
    Calls Tryd.prog 21 #[.pointer (some ⟨X, 0, none⟩)] w (WordIs s B X w0 p acc (.err 4)) := by
  obtain ⟨c0, c1, f1⟩ := H.cells
  have h0 : 0 < (s.extract p s.size).size := by rw [rest_size s p hp]; omega
  have hE : wrap32 (((s.extract p s.size)[0]'h0).toNat : Int) = c := by rw [rest_at s p hp h0, byte_wrap, hc]
  have hcc : 0 ≤ c ∧ c ≤ 255 := by have := (s[p]'hp).toNat_lt; omega
  have hL := Lib.hid (rest_list s p hp)
  have hz := rest_size s p hp
  have HH := Lib.hid H
  clear H
  obtain ⟨n, hn⟩ : ∃ n, (((s[p]'hp) :: s.data.toList.drop (p + 1)).takeWhile digitB).length = n := ⟨_, rfl⟩
  have hnle : n ≤ (s.extract p s.size).size := by rw [← hn, Lib.size_eq (s.extract p s.size), rest_list s p hp]; exact tw_len _ _
  have hnle2 : n ≤ s.size - p := by omega
  rw [hn] at hn9
  have hi9 : 9 < (n : Int) := by omega
  have hrun := Lib.hid (fun w1 : World => ((run_digit (s.extract p s.size) w1 (by omega)).mono (fun e w' h => ⟨h.1.trans (by rw [rest_list s p hp, hn]), h.2⟩) : Calls Tryd.prog 25 #[.string (s.extract p s.size), .func (.func 20) #[] #[]] w1 fun e w' => e = .returned (.int .i64 (n : Int)) ∧ Below w1.heap.size w1 w'))
  have hkl := Lib.hid (fun w1 : World => ((letter_calls c w1).mono (fun e w' h => ⟨h.1.trans (by rw [kl]), h.2⟩) : Calls Tryd.prog 24 #[.int .i32 c] w1 fun e w' => e = .returned (.bool false) ∧ w' = w1))
  have hkd := Lib.hid (fun w1 : World => ((digit_calls c w1).mono (fun e w' h => ⟨h.1.trans (by rw [kd]), h.2⟩) : Calls Tryd.prog 20 #[.int .i32 c] w1 fun e w' => e = .returned (.bool true) ∧ w' = w1))
  clear hc
  go_enter Tryd.func21, Tryd.ntmps21
  go_wp2_with fail
  go_upto_region 1 with fail
  repeat (refine wp_seq ?_)
  go_quiet (fail)
  go_wp2_with (first | (go_at_call 24; (with_reducible refine (hkl.out _).mono ?_); rintro e W1 ⟨rfl, rfl⟩) | (go_at_call 20; (with_reducible refine (hkd.out _).mono ?_); rintro e W1 ⟨rfl, rfl⟩) | (go_at_call 25; (with_reducible refine (hrun.out _).mono ?_); rintro e W1 ⟨rfl, hb⟩; have hR := Lib.hid ((HH.out.drewN nq).ride hb); clear hb))
  go_ret
  exact ⟨rfl, hR.out⟩

end Go.Proofs.YtageaahlkiaigaaDoor.Wd
