/- Whether a text is a name, and how it is quoted, is what the document says. Conditions: the statement's own. -/
import Derived.Test.YtageaahlkiaigaaDoorWdL
import Derived.Test.YtageaahlkiaigaaDoorPx8
set_option linter.unusedVariables false
set_option linter.unusedSimpArgs false
namespace Go.Proofs.YtageaahlkiaigaaDoor.Pure
open Go Go.RowKit Go.Proofs.YtageaahlkiaigaaDoor.P Go.Proofs.YtageaahlkiaigaaDoorW.PrintWords Wd

theorem bt_is (s : ByteArray) (i : Nat) (h : i < s.size) : bt s (i : Int) = ((s[i]'h).toNat : Int) := by unfold bt; rw [Int.toNat_natCast, dif_pos h]
theorem bt_ne {s : ByteArray} {i : Nat} (h : i < s.size) {c : UInt8} (n : Int) (hn : n = (c.toNat : Int)) (hc : s[i]'h ≠ c) : ¬ bt s (i : Int) = n := by
  rw [bt_is s i h, hn]
  exact fun e => hc (UInt8.toNat_inj.1 (by omega))
theorem bt_eq {s : ByteArray} {i : Nat} (h : i < s.size) {c : UInt8} (n : Int) (hn : n = (c.toNat : Int)) (hc : s[i]'h = c) : bt s (i : Int) = n := by
  rw [bt_is s i h, hn, hc]
theorem ext_data (s : ByteArray) (a b : Nat) : (s.extract a b).data.toList = (s.data.toList.drop a).take (b - a) := Lib.extract_data s a b
theorem ba_ext {a b : ByteArray} (h : a.data.toList = b.data.toList) : a = b := by
  have := congrArg mkB h
  rwa [mkB_of, mkB_of] at this

theorem letter_is (b : UInt8) : syntagmref08_letter.f (b.toNat : Int) = some (letterB b) := by
  rw [← let_byte]
  unfold syntagmref08_letter.f letI_
  by_cases h1 : (b.toNat : Int) ≥ 97 <;> by_cases h2 : (b.toNat : Int) ≤ 122 <;> by_cases h3 : (b.toNat : Int) ≥ 65 <;> by_cases h4 : (b.toNat : Int) ≤ 90 <;> simp [h1, h2, h3, h4, show ((97 : Int) ≤ b.toNat) = ((b.toNat : Int) ≥ 97) from rfl, show ((65 : Int) ≤ b.toNat) = ((b.toNat : Int) ≥ 65) from rfl]
theorem digit_is (b : UInt8) : syntagmref08_digit.f (b.toNat : Int) = some (digitB b) := by
  rw [← dig_byte]
  unfold syntagmref08_digit.f digI
  by_cases h1 : (b.toNat : Int) ≥ 48 <;> simp [h1, show ((48 : Int) ≤ b.toNat) = ((b.toNat : Int) ≥ 48) from rfl]

theorem name_loop (s : ByteArray) (hs : s.size ≤ 400) : ∀ (d i f : Nat), s.size - i = d → i ≤ s.size → d < f → syntagmref08_IsName.l0 f s (i : Int) = some ((s.data.toList.drop i).all innerB) := by
  intro d
  induction d with
  | zero =>
    intro i f hd hi hf
    obtain ⟨f, rfl⟩ : ∃ g, f = g + 1 := ⟨f - 1, by omega⟩
    rw [syntagmref08_IsName.l0, if_neg (by omega), drop_all s i (by omega)]; rfl
  | succ d ih =>
    intro i f hd hi hf
    obtain ⟨f, rfl⟩ : ∃ g, f = g + 1 := ⟨f - 1, by omega⟩
    have hlt : i < s.size := by omega
    rw [syntagmref08_IsName.l0, if_pos (by omega), if_pos (by omega), bt_is s i hlt, letter_is, Option.bind_some, digit_is, drop_byte s i hlt, List.all_cons, w64s i (by omega)]
    have := ih (i + 1) f (by omega) (by omega) (by omega)
    unfold innerB at this ⊢
    cases letterB (s[i]'hlt)
    · rw [if_neg (by decide), Option.bind_some]
      cases digitB (s[i]'hlt)
      · rfl
      · rw [if_pos rfl, this]; rfl
    · rw [if_pos rfl, this]; rfl

theorem letter_digit (b : UInt8) (h : innerB b = true) : letterB b = !digitB b := by
  unfold innerB at h
  cases hl : letterB b
  · rw [hl] at h; simp at h; rw [h]; rfl
  · cases hd : digitB b
    · rfl
    · exfalso
      unfold letterB digitB at *
      simp only [Bool.or_eq_true, Bool.and_eq_true, decide_eq_true_eq, beq_iff_eq, UInt8.le_iff_toNat_le, ← UInt8.toNat_inj] at hl hd
      have e1 : (48 : UInt8).toNat = 48 := rfl
      have e2 : (57 : UInt8).toNat = 57 := rfl
      have e3 : (97 : UInt8).toNat = 97 := rfl
      have e4 : (65 : UInt8).toNat = 65 := rfl
      have e5 : (95 : UInt8).toNat = 95 := rfl
      omega

theorem ref_name (s : ByteArray) (hs : s.size ≤ 400) (f : Nat) (hf : 402 ≤ f) : syntagmref08_IsName.f f s = some (nameL s.data.toList) := by
  obtain ⟨f, rfl⟩ : ∃ g, f = g + 1 := ⟨f - 1, by omega⟩
  have hlen : s.data.toList.length = s.size := (Lib.size_eq s).symm
  unfold syntagmref08_IsName.f
  rw [Lib.toList_data]
  by_cases h0 : s.data.toList = []
  · rw [if_pos h0, syntagmref08_IsName.j0, if_pos rfl, h0]; rfl
  rw [if_neg h0]
  have hpos : 0 < s.size := by rw [← hlen]; exact List.length_pos_iff.2 h0
  by_cases h1 : (s.size : Int) > 32
  · rw [if_pos h1, syntagmref08_IsName.j0, if_pos rfl]
    unfold nameL
    rw [hlen, decide_eq_false (by omega)]; simp
  rw [if_neg h1, if_pos (by omega), show bt s 0 = ((s[0]'hpos).toNat : Int) from bt_is s 0 hpos, letter_is, Option.bind_some, syntagmref08_IsName.j0]
  have hl := name_loop s hs s.size 0 f (by omega) (by omega) (by omega)
  have hd := drop_byte s 0 hpos
  rw [List.drop_zero] at hd hl
  unfold nameL
  rw [hlen, decide_eq_true (show s.size ≤ 32 by omega)]
  rw [show ((0 : Nat) : Int) = 0 from rfl] at hl
  cases hle : letterB (s[0]'hpos)
  · rw [if_pos (by rfl)]
    congr 1
    rw [hd]
    cases ha : (s[0]'hpos :: s.data.toList.drop (0 + 1)).all innerB
    · simp
    · rw [List.all_cons, Bool.and_eq_true] at ha
      have := letter_digit _ ha.1
      rw [hle] at this
      simp only [List.headD_cons]
      simp at this
      rw [this]; simp
  · rw [if_neg (by decide), hl]
    congr 1
    have hdg : digitB (s[0]'hpos) = false := by
      have := letter_digit (s[0]'hpos) (by unfold innerB; rw [hle]; rfl)
      rw [hle] at this; simpa using this.symm
    rw [hd]
    simp only [List.headD_cons]
    rw [hdg]; simp

/-- The answer of a quoting that has come to i. -/
def qAns (acc : Bytes) (o : Option Bytes) : ByteArray × Bool := match o with | some q => (mkB (acc ++ (q ++ [47])), true) | none => (⟨#[]⟩, false)
theorem qAns_map (acc t : Bytes) (o : Option Bytes) : qAns acc (o.map fun x => t ++ x) = qAns (acc ++ t) o := by
  cases o with
  | none => rfl
  | some q => unfold qAns; simp
theorem mk_app (a : Bytes) (b : ByteArray) : mkB a ++ b = mkB (a ++ b.data.toList) := ba_ext (by rw [app_data]; rfl)

theorem quote_loop (s : ByteArray) (hs : s.size ≤ 400) : ∀ (d i f : Nat) (acc : Bytes), s.size - i ≤ d → i ≤ s.size → 2 * d < f → acc.length ≤ 2 * i + 1 →
    syntagmref08_Quote.l0 f s (mkB acc) (i : Int) = some (qAns acc (qt (s.data.toList.drop i))) := by
  intro d
  induction d with
  | zero =>
    intro i f acc hd hi hf ha
    obtain ⟨f, rfl⟩ : ∃ g, f = g + 1 := ⟨f - 1, by omega⟩
    rw [syntagmref08_Quote.l0, if_neg (by omega), drop_all s i (by omega), mkB_size, if_pos (by omega), mk_app]
    rfl
  | succ d ih =>
    intro i f acc hd hi hf ha
    obtain ⟨f, rfl⟩ : ∃ g, f = g + 2 := ⟨f - 2, by omega⟩
    by_cases hlt : i < s.size
    · have hdr := drop_byte s i hlt
      have ex1 : (s.extract i (i + 1)).data.toList = [s[i]'hlt] := by rw [ext_data, hdr]; simp
      have hz1 : (s.extract i (i + 1)).size = 1 := by rw [Lib.size_eq, ex1]; rfl
      have hz1' : (mkB acc).size = acc.length := rfl
      rw [syntagmref08_Quote.l0, if_pos (by omega), if_pos (by omega)]
      by_cases h10 : s[i]'hlt = 10
      · rw [if_pos (bt_eq hlt (c := 10) 10 rfl h10), hdr, h10, qt_feed]; rfl
      rw [if_neg (bt_ne hlt (c := 10) 10 rfl h10)]
      by_cases h92 : s[i]'hlt = 92
      · rw [if_pos (bt_eq hlt (c := 92) 92 rfl h92), w64s i (by omega)]
        by_cases hn : i + 1 < s.size
        · have hdr2 := drop_byte s (i + 1) hn
          rw [if_neg (by omega), if_pos (by omega), if_pos (by omega)]
          by_cases h47 : s[i + 1]'hn = 47
          · rw [if_pos (bt_eq hn (c := 47) 47 rfl h47), syntagmref08_Quote.j1, if_pos rfl, hdr, h92, hdr2, qt_bad _ _ (.inl h47)]; rfl
          rw [if_neg (bt_ne hn (c := 47) 47 rfl h47)]
          by_cases g10 : s[i + 1]'hn = 10
          · rw [bt_eq hn (c := 10) 10 rfl g10, syntagmref08_Quote.j1, if_pos (by rfl), hdr, h92, hdr2, qt_bad _ _ (.inr g10)]; rfl
          · have ex2 : (s.extract i (i + 2)).data.toList = [92, s[i + 1]'hn] := by rw [ext_data, hdr, hdr2, h92]; simp
            have hz2 : (s.extract i (i + 2)).size = 2 := by rw [Lib.size_eq, ex2]; rfl
            have w2 : wrap64 ((i : Int) + 2) = ((i + 2 : Nat) : Int) := by unfold wrap64; omega
            rw [beq_eq_false_iff_ne.2 (bt_ne hn (c := 10) 10 rfl g10), syntagmref08_Quote.j1, if_neg (by decide), if_pos (by omega), w2, if_pos (by omega), if_pos (by omega), Int.toNat_natCast, Int.toNat_natCast, hz1', hz2, if_pos (by omega), mk_app, ex2,
              ih (i + 2) f _ (by omega) (by omega) (by omega) (by rw [List.length_append]; simp; omega), hdr, h92, hdr2, qt_esc _ _ (fun h => h.elim h47 g10), qAns_map]
        · rw [if_pos (by omega), syntagmref08_Quote.j1, if_pos rfl, hdr, h92, drop_all s (i + 1) hn]; rfl
      rw [if_neg (bt_ne hlt (c := 92) 92 rfl h92), w64s i (by omega)]
      by_cases h47 : s[i]'hlt = 47
      · have e92 : strOfNums [92] = mkB [92] := rfl
        rw [if_pos (bt_eq hlt (c := 47) 47 rfl h47)]
        simp only [Option.bind_some]
        have hsz2 : (mkB acc ++ mkB [92]).size = acc.length + 1 := by rw [ByteArray.size_append]; rfl
        have hz3 : (mkB [92]).size = 1 := rfl
        rw [e92, hz1', hz3, if_pos (by omega), if_pos (by omega), if_pos (by omega), Int.toNat_natCast, Int.toNat_natCast, hsz2, hz1, if_pos (by omega), mk_app, mk_app, ex1,
          ih (i + 1) (f + 1) _ (by omega) (by omega) (by omega) (by simp [mkB_data]; omega), hdr, h47, qt_slash, qAns_map, List.append_assoc]
        rfl
      · rw [if_neg (bt_ne hlt (c := 47) 47 rfl h47), if_pos (by omega), if_pos (by omega), Int.toNat_natCast, Int.toNat_natCast, hz1', hz1, if_pos (by omega), mk_app, ex1,
          ih (i + 1) (f + 1) _ (by omega) (by omega) (by omega) (by simp; omega), hdr, qt_plain _ _ h10 h47 h92, qAns_map]
    · rw [syntagmref08_Quote.l0, if_neg (by omega), drop_all s i (by omega), mkB_size, if_pos (by omega), mk_app]
      rfl

theorem WordsNames (a0 : ByteArray) (w0 : a0.size ≤ maxLen) : ∃ k, syntagmlaw08_WordsNames.f k a0 = some true := by
  refine ⟨1000, ?_⟩
  unfold syntagmlaw08_WordsNames.f
  rw [works_is, Option.bind_some, if_pos rfl]
  by_cases h : (a0.size : Int) > 400
  · rw [if_pos h]
  have hq : syntagmref08_Quote.f 1000 a0 = some (quoteL a0) := by
    unfold syntagmref08_Quote.f
    have := quote_loop a0 (by omega) a0.size 0 1000 [47] (by omega) (by omega) (by omega) (by simp)
    rw [List.drop_zero] at this
    exact this
  rw [if_neg h, quote_f a0 (by omega), Option.bind_some, hq, Option.bind_some, ref_name a0 (by omega) 1000 (by omega), Option.bind_some, name_f a0 (by omega), Option.bind_some, if_pos (by simp), if_pos rfl]
  simp
end Go.Proofs.YtageaahlkiaigaaDoor.Pure
