/- Put in one by one, where they belong. Plain lemmas, no condition. -/
import Derived.Test.YtcidppnlhhkhhaaOnceG
set_option linter.unusedVariables false
set_option linter.unusedSimpArgs false
namespace Go.Proofs.Ytcidppnlhhkhhaa
open Go Go.E
set_option maxRecDepth 100000
set_option linter.unusedSectionVars false

section
variable {α : Type} [DecidableEq α] {d : α} {cf : α → α → Int}
/-- Put in one by one, where they belong: in order, each once. -/
theorem ins_run (hc : GoodCmp cf) (x0 : List α) (step1 : List α × Nat → Option ((List α × Nat) ⊕ List α)) (step2 : List α → Nat → Nat → Option (Nat ⊕ ((List α × Nat) ⊕ List α)))
    (hend : ∀ l k, x0.length ≤ k → step1 (l, k) = some (.inr l)) (hbody : ∀ l k, k < x0.length → step1 (l, k) = iter (step2 l k) 0)
    (hlt : ∀ l k j, k < x0.length → j < l.length → cf (nth l j d) (nth x0 k d) < 0 → step2 l k j = some (.inl (j + 1)))
    (heq : ∀ l k j, k < x0.length → j < l.length → nth l j d = nth x0 k d → step2 l k j = some (.inr (.inl (l, k + 1))))
    (hins : ∀ l k j, k < x0.length → l.length ≤ x0.length → j ≤ l.length → (j < l.length → ¬ cf (nth l j d) (nth x0 k d) < 0 ∧ nth l j d ≠ nth x0 k d) → step2 l k j = some (.inr (.inl (l.take j ++ [nth x0 k d] ++ l.drop j, k + 1)))) :
    iter step1 ([], 0) = some (onceL d cf x0) := by
  refine Exists.elim (iter_run (step := step1) (fun q => q.2 ≤ x0.length ∧ q.1.length ≤ q.2 ∧ (q.1.Pairwise fun x y => cf x y < 0) ∧ ∀ x, x ∈ q.1 ↔ x ∈ x0.take q.2) (fun r => r = onceL d cf x0) (fun q => x0.length - q.2) ?_ ([], 0) ⟨Nat.zero_le _, Nat.le_refl _, List.Pairwise.nil, by simp⟩) (fun r hr => by rw [hr.1, hr.2])
  rintro ⟨l, k⟩ ⟨hk, hl, hp, hm⟩
  simp only at hk hl hp hm
  by_cases hkl : k < x0.length
  · left
    have inner : ∃ r, iter (step2 l k) 0 = some r ∧ ∃ l', r = .inl (l', k + 1) ∧ l'.length ≤ k + 1 ∧ (l'.Pairwise fun x y => cf x y < 0) ∧ ∀ x, x ∈ l' ↔ x ∈ l ∨ x = nth x0 k d := by
      refine iter_run (step := step2 l k) (fun j => j ≤ l.length ∧ ∀ i, i < j → cf (nth l i d) (nth x0 k d) < 0) _ (fun j => l.length - j) ?_ 0 ⟨Nat.zero_le _, fun i hi => absurd hi (Nat.not_lt_zero _)⟩
      rintro j ⟨hj, hI⟩
      by_cases hjl : j < l.length
      · by_cases h1 : cf (nth l j d) (nth x0 k d) < 0
        · left
          refine ⟨j + 1, hlt l k j hkl hjl h1, ⟨by omega, fun i hi => ?_⟩, by omega⟩
          by_cases e : i = j
          · subst e; exact h1
          · exact hI i (by omega)
        · right
          by_cases h2 : nth l j d = nth x0 k d
          · refine ⟨_, heq l k j hkl hjl h2, l, rfl, by omega, hp, fun x => ⟨.inl, ?_⟩⟩
            rintro (h | rfl)
            · exact h
            · rw [← h2]; exact nth_mem' hjl d
          · refine ⟨_, hins l k j hkl (by omega) hj (fun _ => ⟨h1, h2⟩), _, rfl, ?_, ?_, ?_⟩
            · simp only [List.length_append, List.length_take, List.length_drop, List.length_singleton]; omega
            · have hxj : cf (nth x0 k d) (nth l j d) < 0 := by
                have a := hc.anti (nth x0 k d) (nth l j d)
                have b := hc.eq (nth l j d) (nth x0 k d)
                have : cf (nth l j d) (nth x0 k d) ≠ 0 := fun h => h2 (b.1 h)
                omega
              have hd : l.drop j = nth l j d :: l.drop (j + 1) := by
                have := getD_some l hjl d
                rw [List.getElem?_eq_getElem hjl, Option.some.injEq] at this
                rw [← this]; exact List.drop_eq_getElem_cons hjl
              have hpd : (l.drop j).Pairwise fun x y => cf x y < 0 := hp.sublist (List.drop_sublist ..)
              have hgt : ∀ y ∈ l.drop j, cf (nth x0 k d) y < 0 := fun y hy => by
                rw [hd] at hy hpd
                rw [List.pairwise_cons] at hpd
                rcases List.mem_cons.1 hy with rfl | hy
                · exact hxj
                · exact hc.trans _ _ _ hxj (hpd.1 y hy)
              have hls : ∀ y ∈ l.take j, cf y (nth x0 k d) < 0 := fun y hy => by
                obtain ⟨i, hi, rfl⟩ := List.mem_iff_getElem.1 hy
                have hij : i < j := by simp at hi; omega
                have := hI i hij
                have e := getD_some l (show i < l.length by omega) d
                rw [List.getElem?_eq_getElem (show i < l.length by omega), Option.some.injEq] at e
                rw [List.getElem_take, e]; exact this
              rw [List.append_assoc, List.pairwise_append]
              refine ⟨hp.sublist (List.take_sublist ..), ?_, fun x hx y hy => ?_⟩
              · rw [List.singleton_append, List.pairwise_cons]
                exact ⟨hgt, hpd⟩
              · rw [List.singleton_append, List.mem_cons] at hy
                rcases hy with rfl | hy
                · exact hls x hx
                · exact hc.trans _ _ _ (hls x hx) (hgt y hy)
            · intro x
              rw [List.append_assoc, List.mem_append, List.singleton_append, List.mem_cons]
              have : x ∈ l ↔ x ∈ l.take j ∨ x ∈ l.drop j := by rw [← List.mem_append, List.take_append_drop]
              rw [this]
              constructor
              · rintro (h | h | h)
                · exact .inl (.inl h)
                · exact .inr h
                · exact .inl (.inr h)
              · rintro ((h | h) | h)
                · exact .inl h
                · exact .inr (.inr h)
                · exact .inr (.inl h)
      · right
        have hj' : j = l.length := by omega
        subst hj'
        refine ⟨_, hins l k l.length hkl (by omega) hj (fun h => absurd h (Nat.lt_irrefl _)), _, rfl, ?_, ?_, ?_⟩
        · simp only [List.length_append, List.length_take, List.length_drop, List.length_singleton]; omega
        · rw [List.take_length, List.drop_length, List.append_nil, List.pairwise_append]
          refine ⟨hp, List.pairwise_singleton .., fun x hx y hy => ?_⟩
          rw [List.mem_singleton.1 hy]
          obtain ⟨i, hi, rfl⟩ := List.mem_iff_getElem.1 hx
          have := hI i hi
          have e := getD_some l hi d
          rw [List.getElem?_eq_getElem hi, Option.some.injEq] at e
          rw [e]; exact this
        · intro x; simp
    obtain ⟨r, h1, l', rfl, h2, h3, h4⟩ := inner
    refine ⟨(l', k + 1), by rw [hbody l k hkl, h1], ⟨by simp only; omega, h2, h3, fun x => ?_⟩, by simp only; omega⟩
    simp only
    rw [h4, take_snoc x0 hkl d, List.mem_append, List.mem_singleton, hm]
  · right
    refine ⟨l, hend l k (by omega), rising_eq hc hp (sorted_onceL hc x0) fun x => ?_⟩
    rw [hm, mem_onceL, List.take_of_length_le (by omega)]
end

end Go.Proofs.Ytcidppnlhhkhhaa
