/- A loop by goto, by a measure that is no function of the state. -/
import Derived.ScopeJumps
namespace Go.Proofs.Ytggfiopajogiiaa.Base
open Go Classical

theorem Exit.jump_imp {l : Nat} {J J' : Act → World → Prop} {Q : Exit → Act → World → Prop} (h : ∀ a w, J a w → J' a w) : ∀ (e : Exit) (a : Act) (w : World), Exit.jump l J Q e a w → Exit.jump l J' Q e a w := fun e a w hh => by
  unfold Exit.jump at *
  split <;> rename_i h1 <;> simp_all
  all_goals (split <;> simp_all)

theorem exists_least {p : Nat → Prop} (h : ∃ n, p n) : ∃ n, p n ∧ ∀ m, p m → n ≤ m := by
  obtain ⟨n, hn⟩ := h
  induction n using Nat.strongRecOn with
  | _ n ih =>
    by_cases hs : ∃ m, m < n ∧ p m
    · obtain ⟨m, hm, hp⟩ := hs; exact ih m hm hp
    · exact ⟨n, hn, fun m hp => Nat.le_of_not_lt fun hm => hs ⟨m, hm, hp⟩⟩
noncomputable def least (J : Nat → Act → World → Prop) (a : Act) (w : World) : Nat := if h : ∃ n, J n a w then Classical.choose (exists_least h) else 0
theorem least_le {J : Nat → Act → World → Prop} {a : Act} {w : World} {n : Nat} (h : J n a w) : least J a w ≤ n := by
  have hx : ∃ n, J n a w := ⟨n, h⟩
  unfold least; rw [dif_pos hx]; exact (Classical.choose_spec (exists_least hx)).2 n h
theorem least_at {J : Nat → Act → World → Prop} {a : Act} {w : World} (h : ∃ n, J n a w) : J (least J a w) a w := by
  unfold least; rw [dif_pos h]; exact (Classical.choose_spec (exists_least h)).1

theorem wp_scope_ghost {P : Program} {Q : Exit → Act → World → Prop} {a : Act} {w : World} {c rest : Code} (l : Nat) (J : Nat → Act → World → Prop) (hf : findLabel c l = some rest)
    (first : c.wp P (Exit.jump l (fun a w => ∃ n, J n a w) Q) a w)
    (pass : ∀ n a w, J n a w → rest.wp P (Exit.jump l (fun a' w' => ∃ m, m < n ∧ J m a' w') Q) a w) : (Code.scope c).wp P Q a w :=
  wp_scope_jumps l (fun a w => ∃ n, J n a w) (least J) hf first fun a w h =>
    Code.wp_mono (Exit.jump_imp fun _ _ ⟨m, hm, hj⟩ => ⟨⟨m, hj⟩, Nat.lt_of_le_of_lt (least_le hj) hm⟩) (pass _ a w (least_at h))

theorem wp_scope_label {P : Program} {Q : Exit → Act → World → Prop} {a : Act} {w : World} {rest : Code} (l k0 : Nat) (J : Nat → Act → World → Prop) 
    (init : J k0 a w) (pass : ∀ n a w, J n a w → rest.wp P (Exit.jump l (fun a' w' => ∃ m, m < n ∧ J m a' w') Q) a w) : (Code.scope ((Code.label l).seq rest)).wp P Q a w :=
  wp_scope_ghost (rest := Code.skip.seq rest) l J (by simp [findLabel]) (wp_seq (wp_label (Code.wp_mono (Exit.jump_imp fun _ _ ⟨m, _, hj⟩ => ⟨m, hj⟩) (pass k0 a w init)))) fun n a w hj => wp_seq (wp_skip (pass n a w hj))

end Go.Proofs.Ytggfiopajogiiaa.Base
