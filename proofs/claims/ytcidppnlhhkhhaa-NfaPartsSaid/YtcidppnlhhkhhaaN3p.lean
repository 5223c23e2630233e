/- One or the other: what the program's function answers. Plain. -/
import Derived.Test.YtcidppnlhhkhhaaN3
import Derived.Test.YtcidppnlhhkhhaaPl
import Derived.Test.YtcidppnlhhkhhaaRef5
set_option linter.unusedVariables false
set_option linter.unusedSimpArgs false
namespace Go.Proofs.Ytcidppnlhhkhhaa
open Go Go.E
set_option maxRecDepth 100000

theorem wr64 {a : Int} (h : -9223372036854775808 ≤ a ∧ a < 9223372036854775808) : IntKind.i64.wrap a = a := by
  simp only [IntKind.wrap, IntKind.bits, IntKind.signed]; simp; omega

theorem growI_eq (k : Nat) (h : k ≤ 1000000000000) : growI (k : Int) = some [] := by
  unfold growI
  rw [decide_eq_false (by omega), iteO_false]
  have e : IntKind.i64.wrap ((k : Int) - IntKind.i64.wrap (((0 : Nat) : Int) - ((0 : Nat) : Int))) = k := by
    have e0 : IntKind.i64.wrap (((0 : Nat) : Int) - ((0 : Nat) : Int)) = 0 := wr64 (by omega)
    rw [e0, wr64 (by omega)]; omega
  rw [e]
  by_cases hk : k = 0
  · subst hk; rw [decide_eq_false (by omega), iteO_false]; rfl
  · rw [decide_eq_true (by omega), iteO_true, grd_mk (by omega), grd_mk (Nat.zero_le _)]; rfl

theorem concatI_two (a b : List Int) (ha : a.length ≤ 1000000000) (hb : b.length ≤ 1000000000) : concatI [a, b] = some (a ++ b) := by
  unfold concatI
  have hb2 : iter (fun q : (List Int) × Nat => concatI_b2 [a, b] q.1 q.2) ([], 0) = some (a ++ b) := by
    refine iter_next (s' := (a, 1)) ?_ (iter_next (s' := (a ++ b, 2)) ?_ (iter_done ?_))
    · simp only [concatI_b2]
      rw [decide_eq_true (by simp), iteO_true, grd_mk (by simp [nth]; omega)]; simp [nth, nxt]
    · simp only [concatI_b2]
      rw [decide_eq_true (by simp), iteO_true, grd_mk (by simp [nth]; omega)]; simp [nth, nxt]
    · simp only [concatI_b2]
      rw [decide_eq_false (by simp), iteO_false]; rfl
  refine iter_next (s' := ((a.length : Int), 1)) ?_ (iter_next (s' := ((a.length : Int) + b.length, 2)) ?_ (iter_done ?_))
  · simp only [concatI_b1]
    have e : IntKind.i64.wrap (0 + (((nth [a, b] 0 ([] : List Int)).length : Nat) : Int)) = a.length := by simp [nth]; exact wr64 (by omega)
    rw [e, decide_eq_true (by simp), iteO_true, decide_eq_false (by omega), iteO_false]; rfl
  · simp only [concatI_b1]
    have e : IntKind.i64.wrap ((a.length : Int) + (((nth [a, b] 1 ([] : List Int)).length : Nat) : Int)) = a.length + b.length := by simp [nth]; exact wr64 (by omega)
    rw [e, decide_eq_true (by simp), iteO_true, decide_eq_false (by omega), iteO_false]; rfl
  · simp only [concatI_b1]
    have e : ((a.length : Int) + (b.length : Int)) = ((a.length + b.length : Nat) : Int) := by omega
    rw [decide_eq_false (by simp), iteO_false, e, bnd_some (growI_eq _ (by omega)), hb2]; rfl

theorem nfa_shift_eq (l : List Int) (k : Int) (hl : l.length ≤ 1000000000) (hk : 0 ≤ k ∧ k ≤ 1000000) (h : ∀ x ∈ l, 0 ≤ x ∧ x ≤ 1000000) : nfa_shift l k = some (shiftL l k) := by
  unfold nfa_shift
  rw [grd_mk (by omega)]
  refine iter_seq0 (step := fun q : (List Int) × Nat => nfa_shift_b1 l k q.1 q.2) (fun i => (shiftTo l i k, i)) l.length (fun i hi => ?_) ?_ |> Eq.trans (by simp [shiftTo, shiftL])
  · simp only [nfa_shift_b1, decide_eq_true (show ((i : Nat) : Int) < ((l.length : Nat) : Int) by omega), iteO_true]
    have := h _ (nth_mem hi 0)
    rw [grd_mk (by rw [shiftTo_len _ _ _ (by omega)]; exact hi), wr64 (by omega), shiftTo_succ hi]; rfl
  · simp only [nfa_shift_b1, Int.lt_irrefl, decide_false, iteO_false]
    simp [shiftTo, fin]

/-- The program's answer. -/
theorem nfa_Alt_eq (x y : Nfa) : nfa_Alt x y = some (altR x y, altX x y) := by
  unfold nfa_Alt altR altX
  by_cases hx : checkB x = true
  · by_cases hy : checkB y = true
    · obtain ⟨k1, k2, k3, k4, k5, k6⟩ := checkB_spec hx
      obtain ⟨l1, l2, l3, l4, l5, l6⟩ := checkB_spec hy
      have lx := checkB_len hx
      have ly := checkB_len hy
      have hxy : checkB x = true ∧ checkB y = true := ⟨hx, hy⟩
      simp only [if_pos hxy]
      rw [hx, hy]
      have e1 : IntKind.i64.wrap (x.states + y.states) = x.states + y.states := wr64 (by omega)
      have e2 : IntKind.i64.wrap (((x.edges.length : Nat) : Int) + ((y.edges.length : Nat) : Int)) = (x.edges.length : Int) + y.edges.length := wr64 (by omega)
      rw [e1, e2, decide_eq_false (by simp [errB]), iteO_false, iteO_false]
      change iteO (!(altF x y)) _ _ = _
      cases altF x y
      · rfl
      · have s1 := nfa_shift_eq y.starts x.states (by omega) (by omega) (fun u hu => by have := l4 u hu; omega)
        have s2 := nfa_shift_eq y.ends x.states (by omega) (by omega) (fun u hu => by have := l5 u hu; omega)
        rw [Bool.not_true, iteO_false, bnd_some s1, bnd_some (concatI_two _ _ (by omega) (by rw [shiftL_len]; omega)), bnd_some s2, bnd_some (concatI_two _ _ (by omega) (by rw [shiftL_len]; omega)),
          grd_mk (by omega), grd_mk (fun u hu => by have := l6 u hu; omega), grd_mk (by omega), grd_mk (by omega)]; rfl
    · have hy' : checkB y = false := by simpa using hy
      have hxy : ¬ (checkB x = true ∧ checkB y = true) := fun h => hy h.2
      simp only [if_neg hxy]
      rw [hx, hy']; rfl
  · have hx' : checkB x = false := by simpa using hx
    have hxy : ¬ (checkB x = true ∧ checkB y = true) := fun h => hx h.1
    simp only [if_neg hxy]
    rw [hx']; rfl
end Go.Proofs.Ytcidppnlhhkhhaa
