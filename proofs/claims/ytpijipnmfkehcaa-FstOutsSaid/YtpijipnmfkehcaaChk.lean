/- What makes an automaton right. Plain lemmas, no condition. -/
import Derived.Test.YtpijipnmfkehcaaNfaSpec
import Derived.Test.YtpijipnmfkehcaaPl
set_option linter.unusedVariables false
set_option linter.unusedSimpArgs false
namespace Go.Proofs.Ytpijipnmfkehcaa
open Go Go.E
set_option maxRecDepth 100000

theorem pw_of_adj {l : List Int} (h : ∀ i, i + 1 < l.length → nth l i 0 < nth l (i + 1) 0) : l.Pairwise (· < ·) := by
  rw [List.pairwise_iff_getElem]
  have hn : ∀ i (hi : i < l.length), l[i] = nth l i 0 := fun i hi => by
    have := getD_some l hi 0
    rw [List.getElem?_eq_getElem hi, Option.some.injEq] at this; exact this
  have key : ∀ d i, i + d + 1 < l.length → nth l i 0 < nth l (i + d + 1) 0 := by
    intro d
    induction d with
    | zero => intro i hi; exact h i hi
    | succ d ih =>
      intro i hi
      have h1 := ih i (by omega)
      have h2 := h (i + d + 1) (by omega)
      rw [show i + (d + 1) + 1 = i + d + 1 + 1 by omega]; omega
  intro i j hi hj hij
  rw [hn i hi, hn j hj]
  have := key (j - i - 1) i (by omega)
  rwa [show i + (j - i - 1) + 1 = j by omega] at this
theorem riseB_iff {l : List Int} {n : Int} : riseB l n = true ↔ (∀ x ∈ l, 0 ≤ x ∧ x < n) ∧ l.Pairwise (· < ·) := by
  have hn : ∀ i (hi : i < l.length), l[i] = nth l i 0 := fun i hi => by
    have := getD_some l hi 0
    rw [List.getElem?_eq_getElem hi, Option.some.injEq] at this; exact this
  constructor
  · intro h
    refine ⟨riseB_state h, pw_of_adj fun i hi => ?_⟩
    unfold riseB at h
    rw [List.all_eq_true] at h
    have := h (i + 1) (List.mem_range.2 hi)
    simp only [riseFrom, stateB, Bool.and_eq_true, Bool.not_eq_true', Bool.and_eq_false_iff, decide_eq_false_iff_not, decide_eq_true_eq, Nat.add_sub_cancel] at this
    omega
  · rintro ⟨h1, h2⟩
    rw [riseB, List.all_eq_true]
    intro i hi
    have hi := List.mem_range.1 hi
    rw [List.pairwise_iff_getElem] at h2
    have hx := h1 _ (nth_mem hi 0)
    have h3 : 0 < i → nth l (i - 1) 0 < nth l i 0 := fun h0 => by
      have := h2 (i - 1) i (by omega) hi (by omega)
      rwa [hn, hn] at this
    simp only [riseFrom, stateB, Bool.and_eq_true, Bool.not_eq_true', Bool.and_eq_false_iff, decide_eq_false_iff_not, decide_eq_true_eq]
    omega
theorem checkB_iff {n : Nfa} : checkB n = true ↔ 0 ≤ n.states ∧ n.states ≤ 4096 ∧ n.edges.length ≤ 65536 ∧ ((∀ x ∈ n.starts, 0 ≤ x ∧ x < n.states) ∧ n.starts.Pairwise (· < ·)) ∧ ((∀ x ∈ n.ends, 0 ≤ x ∧ x < n.states) ∧ n.ends.Pairwise (· < ·)) ∧
    ∀ e ∈ n.edges, 0 ≤ e.frm ∧ e.frm < n.states ∧ 0 ≤ e.to ∧ e.to < n.states ∧ e.set ≠ BSet.zero := by
  simp only [checkB, Bool.and_eq_true, decide_eq_true_eq, riseB_iff, List.all_eq_true, edgeB, stateB, Bool.not_eq_true', decide_eq_false_iff_not]
  constructor
  · rintro ⟨⟨⟨⟨⟨h1, h2⟩, h3⟩, h4⟩, h5⟩, h6⟩
    exact ⟨h1, h2, by omega, h4, h5, fun e he => by have := h6 e he; exact ⟨this.1.1.1, this.1.1.2, this.1.2.1, this.1.2.2, this.2⟩⟩
  · rintro ⟨h1, h2, h3, h4, h5, h6⟩
    exact ⟨⟨⟨⟨⟨h1, h2⟩, by omega⟩, h4⟩, h5⟩, fun e he => by have := h6 e he; exact ⟨⟨⟨this.1, this.2.1⟩, this.2.2.1, this.2.2.2.1⟩, this.2.2.2.2⟩⟩
end Go.Proofs.Ytpijipnmfkehcaa
