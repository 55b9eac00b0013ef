/- The package spot, walked: Of, Lines, begin, Line, At, Move. Conditions: each theorem's own. -/
import Derived.Test.YtpmgfkgomcpmdaaWh
import Derived.Test.YtpmgfkgomcpmdaaJump
import Derived.ScopeJumps
import Derived.Deep.QuietTactic
import Derived.BigQuiet
import Derived.Laws.Cover3
import Derived.WalkSpells
import Derived.WalkLawsBesides
set_option linter.unusedVariables false
set_option linter.unusedSimpArgs false
namespace Go.Proofs.Ytpmgfkgomcpmdaa.Fl
open Go Go.RowKit Go.Lib Go.Proofs.Ytpmgfkgomcpmdaa.Jp

theorem conv_F (n : Nat) : floatOfInt .f64 (n : Int) = F n := by
  unfold floatOfInt FloatKind.nearest F
  have h1 : decide ((n : Int) < 0) = false := decide_eq_false (by omega)
  rw [Int.natAbs_natCast, h1]; rfl
theorem ret_c {a b c d : Nat} (h1 : a = c) (h2 : b = d) : Ending.returned (.complex .f64 a b) = .returned (.complex .f64 c d) := by rw [h1, h2]

/-- How much of a text is ahead of a place. -/
def upto (s : ByteArray) (at_ : Int) : Nat := min at_.toNat s.size

theorem upto_data (s : ByteArray) (at_ : Int) : (s.extract 0 (min (max at_ 0) (s.size : Int)).toNat).data.toList = s.data.toList.take (upto s at_) := by
  rw [Lib.extract_data]
  unfold upto
  rw [List.drop_zero]
  congr 1
  omega

set_option maxHeartbeats 1000000 in
theorem of_calls (s : ByteArray) (at_ : Int) (w : World) (hs : s.size < 1099511627776) (h1 : -9223372036854775808 ≤ at_) (h2 : at_ ≤ 9223372036854775807) :
    Calls Try.prog 11 #[.string s, .int .i64 at_] w fun e w' => e = .returned (.complex .f64 (F (st (s.data.toList.take (upto s at_))).1) (F (st (s.data.toList.take (upto s at_))).2)) ∧ w' = w := by
  obtain ⟨T, hT⟩ : ∃ T, s.extract 0 (min (max at_ 0) (s.size : Int)).toNat = T := ⟨_, rfl⟩
  have hTd : T.data.toList = s.data.toList.take (upto s at_) := by rw [← hT, upto_data]
  have hTs : T.size ≤ s.size := by
    rw [Lib.size_eq, Lib.size_eq, hTd, List.length_take]; omega
  have hcol := lastIdx_st T T.size (Nat.le_refl _)
  have hcl := st_le T.data.toList
  rw [Lib.size_eq T, List.take_length, ← Lib.size_eq T] at hcol
  rw [← Lib.size_eq T] at hcl
  have hlast : Lib.lastIndexByte T 10 = Lib.lastIdx T 10 T.size := rfl
  have hge : -1 ≤ Lib.lastIndexByte T 10 ∧ Lib.lastIndexByte T 10 < T.size := by omega
  have hcv : ∀ w, (convert 3 24 (.int .i64 ((T.size : Int) - 1 - Lib.lastIndexByte T 10))).run Try.prog w = .ok (.float .f64 (F (st T.data.toList).1)) w := fun w => by
    rw [show (T.size : Int) - 1 - Lib.lastIndexByte T 10 = ((st T.data.toList).1 : Nat) by omega, ← conv_F]
    exact run_convert_int_float w 3 24 .i64 .f64 _ (by kernel_rfl) Try.underlying24
  have hcn : ∀ w, (convert 3 24 (.int .i64 (cntB T))).run Try.prog w = .ok (.float .f64 (F (st T.data.toList).2)) w := fun w => by
    rw [st_count, ← conv_F]
    exact run_convert_int_float w 3 24 .i64 .f64 _ (by kernel_rfl) Try.underlying24
  have hcl1 := hge.1
  have hcl2 := hge.2
  have HTd := Lib.hid hTd
  clear hcol hcl hlast hge hTd
  go_enter Try.func11, Try.ntmps11
  go_wp2_with (first | (go_at_call 19; refine (last_calls _ (by omega) _).mono ?_; rintro e w' ⟨rfl, rfl⟩) | (go_at_call 20; refine (count_calls _ _).mono ?_; rintro e w' ⟨rfl, rfl⟩))
  go_ret
  rw [← HTd.out]
  exact ⟨rfl, rfl⟩

theorem lines_calls (s : ByteArray) (w : World) (hs : s.size < 1099511627776) :
    Calls Try.prog 15 #[.string s] w fun e w' => e = .returned (.int .i64 ((cntB s : Int) + 1)) ∧ w' = w := by
  have hc := cntB_le s
  go_enter Try.func15, Try.ntmps15
  go_wp2_with (go_at_call 20; refine (count_calls _ _).mono ?_; rintro e w' ⟨rfl, rfl⟩)
  go_ret
  exact ⟨rfl, rfl⟩

def BeginIs (s : ByteArray) (n : Nat) (w : World) (e : Ending) (w' : World) : Prop := (∃ b : Nat, e = .returned (.int .i64 b) ∧ b ≤ s.size ∧ st (s.data.toList.take b) = (0, n)) ∧ w' = w

def BJ (s : ByteArray) (n : Nat) (w : World) (k : Nat) (a : Act) (wr : World) : Prop := ∃ (b : Nat) (u6 u7 u8 u9 u10 u11 u12 u13 u14 u15 u16 u17 u18 u19 u20 u21 : Value), a = { tmps := #[.string s, .int .i64 k, undef, undef, .int .i64 0, .int .i64 b, u6, u7, u8, u9, u10, u11, u12, u13, u14, u15, u16, u17, u18, u19, u20, u21], defers := [] } ∧ Hid (wr = w ∧ b ≤ s.size ∧ k ≤ n ∧ st (s.data.toList.take b) = (0, n - k))

set_option maxHeartbeats 4000000 in
theorem begin_calls (s : ByteArray) (n : Nat) (w : World) (hs : s.size < 1099511627776) (hn : n ≤ cntB s) : Calls Try.prog 22 #[.string s, .int .i64 n] w (BeginIs s n w) := by
  have hc := cntB_le s
  have HN := Lib.hid hn
  clear hn
  go_enter Try.func22, Try.ntmps22
  go_wp2
  refine wp_scope_pre 0 n (BJ s n w) rfl ?_ ?_
  · go_wp2
    exact ⟨0, _, _, _, _, _, _, _, _, _, _, _, _, _, _, _, _, rfl, ⟨rfl, Nat.zero_le _, Nat.le_refl _, by rw [Nat.sub_self]; rfl⟩⟩
  rintro k a wr ⟨b, u6, u7, u8, u9, u10, u11, u12, u13, u14, u15, u16, u17, u18, u19, u20, u21, rfl, HJ⟩
  obtain ⟨rfl, hb, hk, hst⟩ := HJ.out
  have HS := Lib.hid hst
  have HK := Lib.hid hk
  have HB := Lib.hid hb
  clear HJ hst hk
  have hlen : b ≤ s.data.toList.length := by rw [← Lib.size_eq]; exact hb
  by_cases h0 : k = 0
  · subst h0
    go_wp2
    simp only [Exit.jump]
    go_ret
    exact ⟨⟨b, rfl, HB.out, by have := HS.out; rwa [Nat.sub_zero] at this⟩, rfl⟩
  · have hcnt : (s.data.toList.drop b).count 10 ≠ 0 := by
      have e : s.data.toList.count 10 = (s.data.toList.take b).count 10 + (s.data.toList.drop b).count 10 := by rw [← List.count_append, List.take_append_drop]
      rw [← st_count (s.data.toList.take b), HS.out] at e
      have h1 := HN.out; have h2 := HK.out
      unfold cntB at h1
      dsimp only at e; omega
    obtain ⟨o, ho, hol⟩ := indexByte_has _ hcnt
    obtain ⟨hb2, hst2⟩ := st_next _ b (n - k) o hlen HS.out ho
    rw [← Lib.size_eq] at hb2
    have hx : idxB (s.extract b s.size) = (o : Int) := by
      unfold idxB
      rw [Lib.extract_data, List.take_of_length_le (by rw [List.length_drop, ← Lib.size_eq]; omega), ho]
    have h2 := HK.out
    have HS2 := Lib.hid hst2
    have hk64 : (k : Int) ≤ 1099511627776 := by have := HN.out; omega
    clear hcnt ho hst2 hlen hol
    go_wp2_with (go_at_call 28; refine (index_calls _ _).mono ?_; rintro e w' ⟨rfl, rfl⟩; rw [hx])
    go_step3
    have hgo : k - 1 < k := by omega
    have e1 : (k : Int) - 1 = ((k - 1 : Nat) : Int) := by omega
    have e2 : (b : Int) + ((o : Int) + 1) = ((b + o + 1 : Nat) : Int) := by omega
    rw [e1, e2]
    exact ⟨rfl, k - 1, hgo, b + o + 1, _, _, _, _, _, _, _, _, _, _, _, _, _, _, _, _, rfl, ⟨rfl, hb2, by omega, by rw [show n - (k - 1) = n - k + 1 by omega]; exact HS2.out⟩⟩

theorem idx_cases (s : ByteArray) : (idxB s = -1 ∧ lnB s.data.toList = s) ∨ ∃ o : Nat, idxB s = o ∧ o < s.size ∧ lnB s.data.toList = s.extract 0 o := by
  have hg := Lib.indexByte_ge s.data.toList 10
  unfold idxB lnB
  by_cases hn : Lib.indexByte s.data.toList 10 = -1
  · exact .inl ⟨hn, by rw [takeWhile_of_none _ hn]⟩
  · obtain ⟨o, ho⟩ : ∃ o : Nat, Lib.indexByte s.data.toList 10 = o := ⟨(Lib.indexByte s.data.toList 10).toNat, by omega⟩
    refine .inr ⟨o, ho, ?_, ?_⟩
    · have := (List.getElem?_eq_some_iff.1 (Lib.indexByte_some ho).1).1
      rw [Lib.size_eq]; exact this
    · rw [takeWhile_of_some _ o ho, Lib.extract_eq, List.drop_zero, Nat.sub_zero]

/-- What strings.Cut answers. -/
def CutIs (s : ByteArray) (w : World) (e : Ending) (w' : World) : Prop := (∃ (x : ByteArray) (c : Bool), e = .returned (.tuple #[.string (lnB s.data.toList), .string x, .bool c])) ∧ ∃ n, w' = w.drewN n

set_option maxHeartbeats 1000000 in
theorem liteCut_calls (s : ByteArray) (w : World) (hs : s.size < 1099511627776) : Calls Try.prog 30 #[.string s, .string ⟨#[10]⟩] w (CutIs s w) := by
  rcases idx_cases s with ⟨h1, h2⟩ | ⟨o, h1, h3, h2⟩
  · have H2 := Lib.hid h2
    clear h2
    go_enter Try.func30, Try.ntmps30
    go_wp2_with (go_at_call 32; refine (lite_calls _ _).mono ?_; rintro e w' ⟨rfl, rfl⟩; rw [h1])
    refine bodyPost_ret (v := .tuple #[.string s, .string ⟨#[]⟩, .bool false]) (by simp [results, Try.results30, go_sem]) rfl ⟨⟨⟨#[]⟩, false, by rw [H2.out]⟩, 0, rfl⟩
  · have H2 := Lib.hid h2
    clear h2
    go_enter Try.func30, Try.ntmps30
    go_wp2_with (go_at_call 32; refine (lite_calls _ _).mono ?_; rintro e w' ⟨rfl, rfl⟩; rw [h1])
    go_quiet (fail)
    go_wp2
    exact bodyPost_ret (v := .tuple #[.string (s.extract 0 o), .string (s.extract (o + 1) s.size), .bool true]) (by simp [results, Try.results30, go_sem]) rfl ⟨⟨_, true, by rw [H2.out]⟩, _, rfl⟩

theorem cut_calls (s : ByteArray) (w : World) (hs : s.size < 1099511627776) : Calls Try.prog 23 #[.string s, .string ⟨#[10]⟩] w (CutIs s w) := by
  go_enter Try.func23, Try.ntmps23
  go_wp2_with (go_at_call 30; refine (liteCut_calls _ _ hs).mono ?_; rintro e w' ⟨⟨x, c, rfl⟩, n, rfl⟩)
  exact bodyPost_ret (v := .tuple #[.string (lnB s.data.toList), .string x, .bool c]) (by simp [results, Try.results23, go_sem]) rfl ⟨⟨_, _, rfl⟩, _, rfl⟩

/-- Line n of a text. -/
def lineS (s : ByteArray) (n : Int) : ByteArray := if 0 ≤ n then ⟨((cutL s.data.toList).getD n.toNat []).toArray⟩ else ⟨#[]⟩

theorem line_out (s : ByteArray) (n : Int) (h : n < 0 ∨ (cntB s : Int) + 1 ≤ n) : lineS s n = ⟨#[]⟩ := by
  unfold lineS
  split
  · have : (cutL s.data.toList).length ≤ n.toNat := by rw [cutL_len]; unfold cntB at h; omega
    rw [List.getD_eq_getElem?_getD, List.getElem?_eq_none this]; rfl
  · rfl
theorem line_in (s : ByteArray) (n b : Nat) (hb : b ≤ s.size) (h : st (s.data.toList.take b) = (0, n)) : lineS s n = lnB (List.take (s.size - b) (List.drop b s.data.toList)) := by
  unfold lineS lnB
  rw [if_pos (by omega), Int.toNat_natCast, List.getD_eq_getElem?_getD, cutL_at _ b n (by rw [← Lib.size_eq]; exact hb) h, List.take_of_length_le (by rw [List.length_drop, ← Lib.size_eq]; omega)]
  rfl

/-- What spot.Line answers. -/
def LineIs (s : ByteArray) (n : Int) (w : World) (e : Ending) (w' : World) : Prop := e = .returned (.string (lineS s n)) ∧ ∃ k, w' = w.drewN k

set_option maxHeartbeats 4000000 in
theorem line_calls (s : ByteArray) (n : Int) (w : World) (hs : s.size < 1099511627776) : Calls Try.prog 16 #[.string s, .int .i64 n] w (LineIs s n w) := by
  have hc := cntB_le s
  by_cases h0 : n < 0
  · have H := Lib.hid (line_out s n (.inl h0))
    go_enter Try.func16, Try.ntmps16
    go_wp2_with (go_at_call 15; refine (lines_calls _ _ hs).mono ?_; rintro e w' ⟨rfl, rfl⟩)
    go_ret
    exact ⟨by rw [H.out]; rfl, 0, rfl⟩
  by_cases h1 : (cntB s : Int) + 1 ≤ n
  · have H := Lib.hid (line_out s n (.inr h1))
    go_enter Try.func16, Try.ntmps16
    go_wp2_with (go_at_call 15; refine (lines_calls _ _ hs).mono ?_; rintro e w' ⟨rfl, rfl⟩)
    go_ret
    exact ⟨by rw [H.out]; rfl, 0, rfl⟩
  · obtain ⟨m, rfl⟩ : ∃ m : Nat, n = m := ⟨n.toNat, by omega⟩
    have hm : m ≤ cntB s := by omega
    have hm2 : (m : Int) < (cntB s : Int) + 1 := by omega
    go_enter Try.func16, Try.ntmps16
    go_wp2_with (first | (go_at_call 15; refine (lines_calls _ _ hs).mono ?_; rintro e w' ⟨rfl, rfl⟩) | (go_at_call 22; refine (begin_calls s m _ hs hm).mono ?_; rintro e w' ⟨⟨b, rfl, hb, hst⟩, rfl⟩; replace hst := Lib.hid (line_in s m b hb hst)) | (go_at_call 23; refine (cut_calls _ _ (by have := Lib.size_eq (s.extract b s.size); simp only [ByteArray.size_extract]; omega)).mono ?_; rintro e w' ⟨⟨x, c, rfl⟩, k, rfl⟩))
    go_ret
    exact ⟨by rw [hst.out]; rfl, _, rfl⟩
open Classical in
/-- The number that a float is, or 0. -/
noncomputable def wn (x : Nat) : Nat := if h : ∃ n, n ≤ 2147483647 ∧ IsN x n then Classical.choose h else 0
theorem wn_le (x : Nat) : wn x ≤ 2147483647 := by
  unfold wn
  split
  · rename_i h; exact (Classical.choose_spec h).1
  · omega
theorem wn_is (x : Nat) (h : wholeB x = true) : IsN x (wn x) := by
  obtain ⟨n, h1, _, h2⟩ := whole_yes x h
  have hx : ∃ n, n ≤ 2147483647 ∧ IsN x n := ⟨n, h1, h2⟩
  unfold wn; rw [dif_pos hx]; exact (Classical.choose_spec hx).2
theorem wn_no (x : Nat) (h : wholeB x = false) : wn x = 0 := by
  unfold wn
  rw [dif_neg]
  rintro ⟨n, h1, h2⟩
  rw [whole_of x n h1 h2] at h; cases h
theorem whole_any (x : Nat) (w : World) : Calls Try.prog 21 #[.float .f64 x] w fun e w' => e = .returned (.tuple #[.int .i64 (wn x), .bool (wholeB x)]) ∧ ∃ k, w' = w.drewN k := by
  refine (whole_calls x w).mono ?_
  rintro e w' ⟨⟨hf, m, _, hm, he⟩ | ⟨hf, he⟩, hw⟩
  · rw [hf, IsN_one (wn_is x hf) hm]
    exact ⟨he, by rcases hw with rfl | rfl; exact ⟨0, rfl⟩; exact ⟨1, rfl⟩⟩
  · rw [hf, wn_no x hf]
    exact ⟨he, by rcases hw with rfl | rfl; exact ⟨0, rfl⟩; exact ⟨1, rfl⟩⟩

/-- What spot.At answers. -/
def AtIs (s : ByteArray) (x y : Nat) (w : World) (e : Ending) (w' : World) : Prop := e = .returned (.int .i64 (atR s.data.toList x y)) ∧ ∃ k, w' = w.drewN k

theorem lineS_len (s : ByteArray) (n b : Nat) (hb : b ≤ s.size) (h : st (s.data.toList.take b) = (0, n)) : (lineS s n).size = ((s.data.toList.drop b).takeWhile (· ≠ 10)).length := by
  rw [line_in s n b hb h, List.take_of_length_le (by rw [List.length_drop, ← Lib.size_eq]; omega), Lib.size_eq]
  unfold lnB
  rfl

theorem atR_no (s : ByteArray) (x y : Nat) (hs : s.size < 2147483647) (h : wholeB x = false ∨ wholeB y = false) : atR s.data.toList x y = -1 := atR_none _ _ _ fun i _ => by
  have hlen : s.data.toList.length = s.size := (Lib.size_eq s).symm
  have := st_le_take s.data.toList i
  unfold isAt
  rcases h with h | h
  · rw [whole_no x h _ (by omega)]; rfl
  · rw [whole_no y h _ (by omega), Bool.and_false]

theorem isAt_iff (s : ByteArray) (x y i : Nat) (hs : s.size < 2147483647) (hx : wholeB x = true) (hy : wholeB y = true) : isAt s.data.toList x y i = true ↔ st (s.data.toList.take i) = (wn x, wn y) := by
  have hlen : s.data.toList.length = s.size := (Lib.size_eq s).symm
  have hb := st_le_take s.data.toList i
  unfold isAt
  rw [Bool.and_eq_true, feq_iff' x _ (by omega), feq_iff' y _ (by omega)]
  constructor
  · rintro ⟨h1, h2⟩
    exact Prod.ext (IsN_one h1 (wn_is x hx)) (IsN_one h2 (wn_is y hy))
  · intro h; rw [h]; exact ⟨wn_is x hx, wn_is y hy⟩

theorem atR_line (s : ByteArray) (x y : Nat) (hs : s.size < 2147483647) (hx : wholeB x = true) (hy : wholeB y = true) (h : cntB s + 1 ≤ wn y) : atR s.data.toList x y = -1 := atR_none _ _ _ fun i hi => by
  cases he : isAt s.data.toList x y i
  · rfl
  · have h1 := congrArg Prod.snd ((isAt_iff s x y i hs hx hy).1 he)
    have h2 : (st (s.data.toList.take i)).2 ≤ cntB s := by
      rw [st_count]; unfold cntB
      exact (List.take_sublist i _).count_le _
    simp only at h1; omega

theorem atR_col (s : ByteArray) (x y b : Nat) (hs : s.size < 2147483647) (hx : wholeB x = true) (hy : wholeB y = true) (hb : b ≤ s.size) (hst : st (s.data.toList.take b) = (0, wn y)) (h : (lineS s (wn y)).size < wn x) : atR s.data.toList x y = -1 := atR_none _ _ _ fun i hi => by
  cases he : isAt s.data.toList x y i
  · rfl
  · have h1 := (isAt_iff s x y i hs hx hy).1 he
    have h2 := (st_line s.data.toList i b hi (by rw [← Lib.size_eq]; exact hb) (by rw [h1]; exact hst)).1
    rw [h1] at h2
    rw [lineS_len s _ b hb hst] at h
    simp only at h2; omega

theorem atR_place (s : ByteArray) (x y b : Nat) (hs : s.size < 2147483647) (hx : wholeB x = true) (hy : wholeB y = true) (hb : b ≤ s.size) (hst : st (s.data.toList.take b) = (0, wn y)) (h : wn x ≤ (lineS s (wn y)).size) : atR s.data.toList x y = (b : Int) + (wn x : Nat) := by
  rw [lineS_len s _ b hb hst] at h
  obtain ⟨h1, h2⟩ := st_on s.data.toList b (wn y) (wn x) (by rw [← Lib.size_eq]; exact hb) hst h
  have hlen : s.data.toList.length = s.size := (Lib.size_eq s).symm
  rw [atR_some _ x y (b + wn x) (by omega) h1 ((isAt_iff s x y _ hs hx hy).2 h2)]
  omega

set_option maxHeartbeats 4000000 in
theorem at_calls (s : ByteArray) (x y : Nat) (w : World) (hs : s.size < 2147483647) : Calls Try.prog 13 #[.string s, .complex .f64 x y] w (AtIs s x y w) := by
  have hc := cntB_le s
  have hs2 : s.size < 1099511627776 := by omega
  have hnx := wn_le x
  have hny := wn_le y
  cases hx : wholeB x
  · have HZ := Lib.hid (atR_no s x y hs (.inl hx))
    go_enter Try.func13, Try.ntmps13
    go_wp2_with (go_at_call 21; refine (whole_any _ _).mono ?_; rintro e w' ⟨rfl, k, rfl⟩)
    all_goals (go_ret; exact ⟨by rw [HZ.out]; rfl, _, rfl⟩)
  cases hy : wholeB y
  · have HZ := Lib.hid (atR_no s x y hs (.inr hy))
    go_enter Try.func13, Try.ntmps13
    go_wp2_with (go_at_call 21; refine (whole_any _ _).mono ?_; rintro e w' ⟨rfl, k, rfl⟩)
    all_goals (go_ret; exact ⟨by rw [HZ.out]; rfl, _, rfl⟩)
  by_cases hl : cntB s + 1 ≤ wn y
  · have HZ := Lib.hid (atR_line s x y hs hx hy hl)
    have hl2 : (cntB s : Int) + 1 ≤ wn y := by omega
    go_enter Try.func13, Try.ntmps13
    go_wp2_with (first | (go_at_call 21; refine (whole_any _ _).mono ?_; rintro e w' ⟨rfl, k, rfl⟩) | (go_at_call 15; refine (lines_calls _ _ hs2).mono ?_; rintro e w' ⟨rfl, rfl⟩))
    all_goals (go_ret; exact ⟨by rw [HZ.out]; rfl, _, rfl⟩)
  · obtain ⟨b, hb, hst⟩ := st_begin s.data.toList (wn y) (by unfold cntB at hl; omega)
    rw [← Lib.size_eq] at hb
    have hl2 : (wn y : Int) < (cntB s : Int) + 1 := by omega
    have hl3 : wn y ≤ cntB s := by omega
    by_cases hcl : (lineS s (wn y)).size < wn x
    · have HZ := Lib.hid (atR_col s x y b hs hx hy hb hst hcl)
      have HS := Lib.hid hst
      clear hst
      go_enter Try.func13, Try.ntmps13
      go_wp2_with (first | (go_at_call 21; refine (whole_any _ _).mono ?_; rintro e w' ⟨rfl, k, rfl⟩) | (go_at_call 15; refine (lines_calls _ _ hs2).mono ?_; rintro e w' ⟨rfl, rfl⟩) | (go_at_call 16; refine (line_calls _ _ _ hs2).mono ?_; rintro e w' ⟨rfl, k, rfl⟩))
      all_goals (go_ret; exact ⟨by rw [HZ.out]; rfl, _, rfl⟩)
    · have HC := Lib.hid (show wn x ≤ (lineS s (wn y)).size by omega)
      clear hst hb
      go_enter Try.func13, Try.ntmps13
      go_wp2_with (first | (go_at_call 21; refine (whole_any _ _).mono ?_; rintro e w' ⟨rfl, k, rfl⟩) | (go_at_call 15; refine (lines_calls _ _ hs2).mono ?_; rintro e w' ⟨rfl, rfl⟩) | (go_at_call 16; refine (line_calls _ _ _ hs2).mono ?_; rintro e w' ⟨rfl, k, rfl⟩) | (go_at_call 22; refine (begin_calls s _ _ hs2 hl3).mono ?_; rintro e w' ⟨⟨b, rfl, hb, hst⟩, rfl⟩; replace hst := Lib.hid (atR_place s x y b hs hx hy hb hst HC.out)))
      all_goals (go_ret; exact ⟨by rw [hst.out]; rfl, _, rfl⟩)

/-- A spot moved by another one. -/
def moveP (p q : Nat × Nat) : Nat × Nat := (if q.2 = 0 then p.1 + q.1 else q.1, p.2 + q.2)

set_option maxHeartbeats 1000000 in
theorem move_calls (p q : Nat × Nat) (w : World) (h : p.1 < 1099511627776 ∧ p.2 < 1099511627776 ∧ q.1 < 1099511627776 ∧ q.2 < 1099511627776) :
    Calls Try.prog 17 #[.complex .f64 (F p.1) (F p.2), .complex .f64 (F q.1) (F q.2)] w fun e w' => e = .returned (.complex .f64 (F (moveP p q).1) (F (moveP p q).2)) ∧ w' = w := by
  obtain ⟨a, b⟩ := p
  obtain ⟨c, d⟩ := q
  simp only at h ⊢
  have hsum : ∀ (x y u v : Nat), x < 1099511627776 → y < 1099511627776 → u < 1099511627776 → v < 1099511627776 → ∀ w, (binOp .add 23 (.complex .f64 (F x) (F y)) (.complex .f64 (F u) (F v))).run Try.prog w = .ok (.complex .f64 (F (x + u)) (F (y + v))) w := fun x y u v h1 h2 h3 h4 w =>
    run_complex_sum w .add (.inl rfl) 23 .f64 _ _ _ _ _ _ (by
      unfold cSumBits
      have e1 : floatBits .add .f64 (F x) (F u) = some (F (x + u)) := sum_F x u (by omega)
      have e2 : floatBits .add .f64 (F y) (F v) = some (F (y + v)) := sum_F y v (by omega)
      rw [e1, e2]; rfl)
  by_cases hd : d = 0
  · subst hd
    have hs1 := hsum a b c 0 h.1 h.2.1 h.2.2.1 (by omega)
    have h0 : (FloatKind.f64.format.order (F 0) 0 == some Ordering.eq) = true := by decide +kernel
    have h1 : FloatKind.f64.format.order (F 0) 0 = some Ordering.eq := beq_iff_eq.1 h0
    go_enter Try.func17, Try.ntmps17
    go_wp2
    go_ret
    exact ⟨rfl, rfl⟩
  · have hs1 := hsum 0 b c d (by omega) h.2.1 h.2.2.1 h.2.2.2
    have hz : (FloatKind.f64.format.order (F d) 0 == some Ordering.eq) = false := by
      have : feq (F d) (F 0) = false := by rw [feq_F d 0 (by omega) (by omega)]; exact decide_eq_false hd
      rw [← zero_eq] at this; exact this
    have h1 : (FloatKind.f64.format.order (F d) 0 != some Ordering.eq) = true := by rw [bne, hz]; rfl
    clear hz
    rw [← zero_eq] at hs1
    go_enter Try.func17, Try.ntmps17
    go_wp2
    go_ret
    exact ⟨by simp only [moveP, hd, if_false, Nat.zero_add]; rfl, rfl⟩
end Go.Proofs.Ytpmgfkgomcpmdaa.Fl
