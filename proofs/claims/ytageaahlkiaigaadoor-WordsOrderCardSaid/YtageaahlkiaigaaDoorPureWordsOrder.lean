/- Words stand in order. Conditions: the statement's own. -/
import Derived.Test.YtageaahlkiaigaaDoorWdM
import Derived.Test.YtageaahlkiaigaaDoorPx9
set_option linter.unusedVariables false
set_option linter.unusedSimpArgs false
namespace Go.Proofs.YtageaahlkiaigaaDoor.Pure
open Go Go.RowKit Go.Proofs.YtageaahlkiaigaaDoor.P Go.Proofs.YtageaahlkiaigaaDoorW.PrintWords Wd

/-- The last word is an end, or there is none. -/
def lastEnd (pre : List W) : Bool := match pre.getLast? with | none => true | some w => w.k == 4

theorem word_ok (s : ByteArray) (hs : s.size ≤ 400) (w : W) (h1 : w.a + w.t.length ≤ s.data.toList.length) (h2 : (s.data.toList.drop w.a).take w.t.length = w.t) : (s.extract w.a (w.a + w.t.length)).toList = (mkB w.t).toList := by
  rw [Lib.toList_data, Lib.extract_data, mkB_list, show w.a + w.t.length - w.a = w.t.length by omega, h2]

theorem ord_low (s T : ByteArray) (l : List S32) (e at_ i kk x2 : Int) (a f : Nat) (hs : s.size ≤ 400) (hpos : 0 < T.size) (hle : a + T.size ≤ s.size) (hx : (s.extract a (a + T.size)).toList = T.toList) (hname : kk = 0 → nameL T.data.toList = true)
    (next : syntagmlaw08_WordsOrder.l0 f s true l e at_ ((a + T.size : Nat) : Int) (wrap64 (i + 1)) = some true) : syntagmlaw08_WordsOrder.j2 (f + 2) s true l e at_ (a : Int) i true kk T x2 (a : Int) = some true := by
  have he1 : wrap64 ((a : Int) + (T.size : Int)) = ((a + T.size : Nat) : Int) := by rw [w64 (by omega) (by omega)]; omega
  have hz0 : ((T.size : Int) == 0) = false := beq_eq_false_iff_ne.2 (by omega)
  rw [syntagmlaw08_WordsOrder.j2, if_pos rfl, he1, if_neg (by omega), if_pos (by omega), if_pos (by omega), if_pos (by omega), Int.toNat_natCast, Int.toNat_natCast, if_pos hx, hz0, syntagmlaw08_WordsOrder.j3, if_neg (by decide)]
  by_cases hk0 : kk = 0
  · rw [if_pos hk0, name_f _ (by omega), Option.bind_some, hname hk0, if_pos rfl]
    exact next
  · rw [if_neg hk0]
    exact next

theorem ord_j1 (s T : ByteArray) (l : List S32) (e at_ i x2 : Int) (k a t1 f : Nat) (hs : s.size ≤ 400) (hlow : k < 3 → 0 < T.size ∧ a + T.size ≤ s.size ∧ (s.extract a (a + T.size)).toList = T.toList ∧ (k = 0 → nameL T.data.toList = true)) (ht : t1 = if k < 3 then a + T.size else a)
    (next : ∀ g, f ≤ g → syntagmlaw08_WordsOrder.l0 g s true l e at_ (t1 : Int) (wrap64 (i + 1)) = some true) : syntagmlaw08_WordsOrder.j1 (f + 3) s true l e at_ i false (k : Int) T x2 (a : Int) = some true := by
  have low : k < 3 → syntagmlaw08_WordsOrder.j2 (f + 2) s true l e at_ (a : Int) i true (k : Int) T x2 (a : Int) = some true := by
    intro hk
    obtain ⟨p1, p2, p3, p4⟩ := hlow hk
    rw [if_pos hk] at ht
    subst ht
    exact ord_low s T l e at_ i k x2 a f hs p1 p2 p3 (fun h => p4 (by omega)) (next f (Nat.le_refl _))
  rw [syntagmlaw08_WordsOrder.j1, if_neg (by decide)]
  by_cases hk0 : k = 0
  · rw [if_pos (by omega)]; exact low (by omega)
  rw [if_neg (by omega)]
  by_cases hk1 : k = 1
  · rw [if_pos (by omega)]; exact low (by omega)
  rw [if_neg (by omega)]
  by_cases hk2 : k = 2
  · rw [beq_iff_eq.2 (show (k : Int) = 2 by omega)]; exact low (by omega)
  · rw [beq_eq_false_iff_ne.2 (show (k : Int) ≠ 2 by omega), syntagmlaw08_WordsOrder.j2, if_neg (by decide), if_neg (by omega)]
    rw [if_neg (by omega)] at ht
    subst ht
    exact next (f + 1) (by omega)

/-- One word. -/
theorem ord_one (s T : ByteArray) (l : List S32) (e at_ x2 : Int) (i k a t0 t1 f : Nat) (hs : s.size ≤ 400) (hi : i < l.length) (hb : i < 100000) (hw : rd_T32 l (i : Int) = ⟨(k : Int), T, x2, (a : Int)⟩) (h1 : t0 ≤ a) (h2 : a ≤ s.size) (h4 : k = 4 → 0 < i ∧ (rd_T32 l ((i - 1 : Nat) : Int)).f0 ≠ 4)
    (hlow : k < 3 → 0 < T.size ∧ a + T.size ≤ s.size ∧ (s.extract a (a + T.size)).toList = T.toList ∧ (k = 0 → nameL T.data.toList = true)) (ht : t1 = if k < 3 then a + T.size else a)
    (next : ∀ g, f ≤ g → syntagmlaw08_WordsOrder.l0 g s true l e at_ (t1 : Int) ((i + 1 : Nat) : Int) = some true) : syntagmlaw08_WordsOrder.l0 (f + 4) s true l e at_ (t0 : Int) (i : Int) = some true := by
  have nx : ∀ g, f ≤ g → syntagmlaw08_WordsOrder.l0 g s true l e at_ (t1 : Int) (wrap64 ((i : Int) + 1)) = some true := fun g hg => by rw [w64s i (by omega)]; exact next g hg
  have tail := ord_j1 s T l e at_ i x2 k a t1 f hs hlow ht nx
  rw [syntagmlaw08_WordsOrder.l0, if_pos (by omega), if_pos (by omega), hw]
  dsimp only
  rw [if_neg (by omega), if_neg (by omega)]
  by_cases hk : k = 4
  · obtain ⟨g1, g2⟩ := h4 hk
    rw [if_pos (by omega), if_neg (by omega), w64 (by omega) (by omega), show ((i : Int) - 1) = ((i - 1 : Nat) : Int) by omega, if_pos (by omega), if_pos (by omega), beq_eq_false_iff_ne.2 g2]
    exact tail
  · rw [if_neg (by omega)]
    exact tail

theorem ord_last (s : ByteArray) (l : List S32) (e at_ : Int) (t0 f : Nat) (hb : l.length ≤ 1000) (he : e = 0 → l.length = 0 ∨ (0 < l.length ∧ (rd_T32 l ((l.length - 1 : Nat) : Int)).f0 = 4)) (hne : e ≠ 0 → (t0 : Int) ≤ at_ ∧ at_ < s.size) :
    syntagmlaw08_WordsOrder.l0 (f + 1) s true l e at_ (t0 : Int) (l.length : Int) = some true := by
  rw [syntagmlaw08_WordsOrder.l0, if_neg (by omega)]
  by_cases h0 : e = 0
  · rw [if_pos h0, if_pos rfl]
    rcases he h0 with hn | ⟨h1, h2⟩
    · rw [if_pos (by omega)]
    · rw [if_neg (by omega), w64 (by omega) (by omega), show ((l.length : Int) - 1) = ((l.length - 1 : Nat) : Int) by omega, if_pos (by omega), if_pos (by omega), h2]; rfl
  · obtain ⟨h1, h2⟩ := hne h0
    rw [if_neg h0, if_pos rfl, if_pos (by omega), decide_eq_true h2]

theorem ord_loop (s : ByteArray) (hs : s.size ≤ 400) (e at_ z : Nat) (l : List W) (hl : l.length ≤ 1000) (hz : z = if e = 0 then s.data.toList.length else at_) (he : e = 0 → l = [] ∨ ∃ ws y, l = ws ++ [⟨4, [], 0, y⟩]) (hne : e ≠ 0 → at_ < s.data.toList.length) :
    ∀ (ws pre : List W) (t0 f : Nat), l = pre ++ ws → Wd.Ord s.data.toList t0 (lastEnd pre) ws z → 4 * ws.length < f → syntagmlaw08_WordsOrder.l0 f s true (l.map toS) (e : Int) (at_ : Int) (t0 : Int) (pre.length : Int) = some true := by
  have hlen : s.data.toList.length = s.size := (Lib.size_eq s).symm
  intro ws
  induction ws with
  | nil =>
    intro pre t0 f hp ho hf
    obtain ⟨f, rfl⟩ : ∃ g, f = g + 1 := ⟨f - 1, by omega⟩
    rw [List.append_nil] at hp
    subst hp
    have hm : (l.map toS).length = l.length := List.length_map _
    have hto : t0 ≤ z := ho
    have := ord_last s (l.map toS) (e : Int) (at_ : Int) t0 f (by omega) (fun h0 => ?_) (fun h0 => ?_)
    · rw [hm] at this; exact this
    · rcases he (by omega) with hn | ⟨v, y, hv⟩
      · left; rw [hn]; rfl
      · right
        have hln : l.length = v.length + 1 := by rw [hv]; simp
        have hlt : v.length < l.length := by omega
        have hg : l[v.length]'hlt = ⟨4, [], 0, y⟩ := by simp [hv]
        refine ⟨by omega, ?_⟩
        rw [hm, show l.length - 1 = v.length by omega, rd_map _ _ hlt, hg]; rfl
    · have h1 : e ≠ 0 := fun h => h0 (by omega)
      have := hne h1
      rw [if_neg h1] at hz
      exact ⟨by omega, by omega⟩
  | cons w ws ih =>
    intro pre t0 f hp ho hf
    rw [List.length_cons] at hf
    obtain ⟨f, rfl⟩ : ∃ g, f = g + 4 := ⟨f - 4, by omega⟩
    obtain ⟨o1, o2, o3, o4, o5⟩ := ho
    have hlt : pre.length < l.length := by rw [hp]; simp
    have hg : l[pre.length]'hlt = w := by simp [hp]
    have hm : (l.map toS).length = l.length := List.length_map _
    refine ord_one s (mkB w.t) (l.map toS) e at_ w.n pre.length w.k w.a t0 (if w.k < 3 then w.a + w.t.length else w.a) f hs (by omega) (by omega) (by rw [rd_map _ _ hlt, hg]; rfl) o1 (by omega) (fun h4 => ?_) (fun hk => ?_) rfl (fun g hgf => ?_)
    · have hen := o3 h4
      unfold lastEnd at hen
      cases hpl : pre.getLast? with
      | none => rw [hpl] at hen; cases hen
      | some u =>
        rw [hpl] at hen
        obtain ⟨q, hq⟩ := List.getLast?_eq_some_iff.1 hpl
        have hpn : pre.length = q.length + 1 := by rw [hq]; simp
        have hlt2 : q.length < l.length := by omega
        have hg2 : l[q.length]'hlt2 = u := by simp [hp, hq]
        refine ⟨by omega, ?_⟩
        rw [show pre.length - 1 = q.length by omega, rd_map _ _ hlt2, hg2]
        show ((u.k : Nat) : Int) ≠ 4
        have : u.k ≠ 4 := by simpa using hen
        omega
    · obtain ⟨p1, p2, p3, p4⟩ := o4 hk
      exact ⟨List.length_pos_iff.2 p1, by rw [hlen] at p2; exact p2, word_ok s hs w p2 p3, p4⟩
    · have := ih (pre ++ [w]) (if w.k < 3 then w.a + w.t.length else w.a) g (by rw [hp, List.append_assoc]; rfl) (by
        unfold lastEnd
        rw [List.getLast?_concat]
        exact o5) (by omega)
      rw [List.length_append, List.length_singleton] at this
      exact this

theorem WordsOrder (a0 : ByteArray) (w0 : a0.size ≤ maxLen) : ∃ k, syntagmlaw08_WordsOrder.f k a0 = some true := by
  refine ⟨4000, ?_⟩
  unfold syntagmlaw08_WordsOrder.f
  rw [works_is, Option.bind_some, if_pos rfl]
  by_cases h : (a0.size : Int) > 400
  · rw [if_pos h]
  rw [if_neg h, words_f _ (by omega), Option.bind_some]
  have hal : a0.data.toList.length = a0.size := (Lib.size_eq a0).symm
  obtain ⟨o1, o2, o3⟩ := rd_ord a0.data.toList (a0.size + 1) a0.data.toList 0 0 true (by omega) List.drop_zero (Nat.zero_le _) (Nat.zero_le _)
  have hlen := rd_few (a0.size + 1) a0.data.toList 0 true
  unfold wordsS
  rw [words_short_is _ (by omega)]
  dsimp only
  refine ord_loop a0 (by omega) _ _ _ _ (Nat.le_trans hlen (by omega)) rfl (fun he => ?_) o2 _ [] 0 4000 rfl o1 (by have : 4 * (Wd.rd (a0.size + 1) a0.data.toList 0 true).1.length ≤ 4 * (a0.data.toList.length + 1) := Nat.mul_le_mul_left 4 hlen; exact Nat.lt_of_le_of_lt this (by omega))
  rcases o3 he with ⟨_, h⟩ | h
  · exact .inl h
  · exact .inr h
end Go.Proofs.YtageaahlkiaigaaDoor.Pure
