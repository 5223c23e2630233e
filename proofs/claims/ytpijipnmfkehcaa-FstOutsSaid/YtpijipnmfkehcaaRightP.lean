/- The reference's Right and Check of a transducer. Plain lemmas, no condition. -/
import Derived.Test.YtpijipnmfkehcaaFstQ
set_option linter.unusedVariables false
set_option linter.unusedSimpArgs false
namespace Go.Proofs.Ytpijipnmfkehcaa
open Go Go.E
set_option maxRecDepth 100000

/-! ### Right, by the reference -/
theorem tips_all (l : List Tip) (n : Int) : whittleref15_tips l n = some (tipsB l n) := by
  unfold whittleref15_tips tipsB
  rw [iter_all (y := decide ((l.length : Int) ≤ 1024)) (no := false) l Tip.zero (tipB n)]
  · cases l.all (tipB n) <;> simp
  · intro k hk hp
    simp only [tipB, Bool.and_eq_true, decide_eq_true_eq] at hp
    simp only [whittleref15_tips_b1, lt_dec hk, iteO_true]
    rw [decide_eq_false (by omega), iteO_false, decide_eq_false (by omega), iteO_false, decide_eq_false (by omega), iteO_false]; rfl
  · intro k hk hp
    simp only [whittleref15_tips_b1, lt_dec hk, iteO_true]
    by_cases h1 : (nth l k Tip.zero).state < 0
    · rw [decide_eq_true h1, iteO_true]; rfl
    rw [decide_eq_false h1, iteO_false]
    by_cases h2 : n ≤ (nth l k Tip.zero).state
    · rw [decide_eq_true h2, iteO_true]; rfl
    rw [decide_eq_false h2, iteO_false]
    simp only [tipB, decide_eq_true (show 0 ≤ (nth l k Tip.zero).state by omega), decide_eq_true (show (nth l k Tip.zero).state < n by omega), Bool.true_and, decide_eq_false_iff_not] at hp
    rw [decide_eq_true (by omega), iteO_true]; rfl
  · simp only [whittleref15_tips_b1, Int.lt_irrefl, decide_false, iteO_false]; rfl
theorem right_eq (t : Fst) : whittleref15_Right t = some (fstB t) := by
  unfold whittleref15_Right
  by_cases h1 : t.states < 0
  · rw [decide_eq_true h1, iteO_true]; simp [fstB, show ¬ 0 ≤ t.states by omega]
  rw [decide_eq_false h1, iteO_false]
  by_cases h2 : 1024 < t.states
  · rw [decide_eq_true h2, iteO_true]; simp [fstB, show ¬ t.states ≤ 1024 by omega]
  rw [decide_eq_false h2, iteO_false, tips_all, bnd, Option.bind_some]
  have e0 : fstB t = (decide ((t.arcs.length : Int) ≤ 16384) && tipsB t.starts t.states && tipsB t.ends t.states && t.arcs.all (arcB t.states)) := by
    simp only [fstB, decide_eq_true (show 0 ≤ t.states by omega), decide_eq_true (show t.states ≤ 1024 by omega), Bool.true_and]
  rw [e0]
  cases h4 : tipsB t.starts t.states
  · simp
  simp only [Bool.not_true, iteO_false, tips_all, bnd, Option.bind_some]
  cases h5 : tipsB t.ends t.states
  · simp
  simp only [Bool.not_true, iteO_false, Bool.and_true]
  by_cases h3 : (16384 : Int) < (t.arcs.length : Int)
  · rw [decide_eq_true h3, iteO_true, decide_eq_false (show ¬ (t.arcs.length : Int) ≤ 16384 by omega), Bool.false_and]
  rw [decide_eq_false h3, iteO_false, decide_eq_true (show (t.arcs.length : Int) ≤ 16384 by omega), Bool.true_and, iter_all (y := true) (no := false) t.arcs Arc.zero (arcB t.states)]
  · cases t.arcs.all (arcB t.states) <;> rfl
  · intro k hk hp
    obtain ⟨p1, p2, p3, p4⟩ := arcB_ok hp
    simp only [whittleref15_Right_b1, lt_dec hk, iteO_true]
    rw [decide_eq_false (by omega), iteO_false, decide_eq_false (by omega), iteO_false, decide_eq_false (by omega), iteO_false, decide_eq_false (by omega), iteO_false, decide_eq_false p3, iteO_false, decide_eq_false (by omega), iteO_false]; rfl
  · intro k hk hp
    simp only [whittleref15_Right_b1, lt_dec hk, iteO_true]
    by_cases q1 : (nth t.arcs k Arc.zero).frm < 0
    · rw [decide_eq_true q1, iteO_true]; rfl
    rw [decide_eq_false q1, iteO_false]
    by_cases q2 : t.states ≤ (nth t.arcs k Arc.zero).frm
    · rw [decide_eq_true q2, iteO_true]; rfl
    rw [decide_eq_false q2, iteO_false]
    by_cases q3 : (nth t.arcs k Arc.zero).to < 0
    · rw [decide_eq_true q3, iteO_true]; rfl
    rw [decide_eq_false q3, iteO_false]
    by_cases q4 : t.states ≤ (nth t.arcs k Arc.zero).to
    · rw [decide_eq_true q4, iteO_true]; rfl
    rw [decide_eq_false q4, iteO_false]
    by_cases q5 : (nth t.arcs k Arc.zero).set = BSet.zero
    · rw [decide_eq_true q5, iteO_true]; rfl
    rw [decide_eq_false q5, iteO_false]
    simp only [arcB, decide_eq_true (show 0 ≤ (nth t.arcs k Arc.zero).frm by omega), decide_eq_true (show (nth t.arcs k Arc.zero).frm < t.states by omega), decide_eq_true (show 0 ≤ (nth t.arcs k Arc.zero).to by omega), decide_eq_true (show (nth t.arcs k Arc.zero).to < t.states by omega), ne_eq, q5, not_false_eq_true, decide_true, Bool.true_and, decide_eq_false_iff_not] at hp
    rw [decide_eq_true (by omega), iteO_true]; rfl
  · simp only [whittleref15_Right_b1, Int.lt_irrefl, decide_false, iteO_false]; rfl
end Go.Proofs.Ytpijipnmfkehcaa
