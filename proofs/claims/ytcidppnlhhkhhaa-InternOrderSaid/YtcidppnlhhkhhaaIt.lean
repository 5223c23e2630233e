/- Rounds over a list's things, by an invariant on what was met. Plain lemmas, no condition. -/
import Derived.Test.YtcidppnlhhkhhaaFMp
set_option linter.unusedVariables false
set_option linter.unusedSimpArgs false
namespace Go.E
open Go
theorem iter_inl {S R : Type} {step : S → Option (S ⊕ R)} {s s' : S} (h : step s = some (.inl s')) : iter step s = iter step s' := by
  cases hr : iter step s' with
  | some r => exact iter_next h hr
  | none =>
    cases hq : iter step s with
    | none => rfl
    | some r =>
      obtain ⟨z, hz, hR⟩ := iter_e hq
      rw [h] at hz; cases hz
      have := (hR.next s' rfl).1
      rw [hr] at this; cases this
/-- Rounds over a list, by an invariant on what was met so far. -/
theorem iter_for {α S T R : Type} {step : T → Option (T ⊕ R)} (g : S → Nat → T) (l : List α) (d : α) (I : List α → S → Prop) (Q : R → Prop)
    (hs : ∀ k s, k < l.length → I (l.take k) s → (∃ s', step (g s k) = some (.inl (g s' (k + 1))) ∧ I (l.take k ++ [nth l k d]) s') ∨ ∃ r, step (g s k) = some (.inr r) ∧ Q r)
    (hd : ∀ s, I l s → ∃ r, step (g s l.length) = some (.inr r) ∧ Q r) {s0 : S} (h0 : I [] s0) : ∃ r, iter step (g s0 0) = some r ∧ Q r := by
  have key : ∀ m k s, l.length - k = m → k ≤ l.length → I (l.take k) s → ∃ r, iter step (g s k) = some r ∧ Q r := by
    intro m
    induction m with
    | zero =>
      intro k s hm hk hI
      have hk : k = l.length := by omega
      subst hk
      rw [List.take_length] at hI
      obtain ⟨r, h1, h2⟩ := hd s hI
      exact ⟨r, iter_done h1, h2⟩
    | succ m ih =>
      intro k s hm hk hI
      rcases hs k s (by omega) hI with ⟨s', h1, h2⟩ | ⟨r, h1, h2⟩
      · rw [← take_snoc l (by omega) d] at h2
        obtain ⟨r, h3, h4⟩ := ih (k + 1) s' (by omega) (by omega) h2
        exact ⟨r, iter_next h1 h3, h4⟩
      · exact ⟨r, iter_done h1, h2⟩
  exact key _ 0 s0 rfl (Nat.zero_le _) h0
theorem take_split {α : Type} (l : List α) {k : Nat} (h : k < l.length) (d : α) : l = l.take k ++ nth l k d :: l.drop (k + 1) := by
  have h1 : l.drop k = nth l k d :: l.drop (k + 1) := by
    have := List.drop_eq_getElem_cons h
    rw [this]; congr 1
    have h2 := getD_some l h d
    rw [List.getElem?_eq_getElem h] at h2; exact Option.some.inj h2
  rw [← h1, List.take_append_drop]
end Go.E
