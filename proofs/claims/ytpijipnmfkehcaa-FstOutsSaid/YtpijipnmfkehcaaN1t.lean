/- What an automaton takes: the program's answer. Plain lemmas, no condition. -/
import Derived.Test.YtpijipnmfkehcaaN1a
import Derived.Test.YtpijipnmfkehcaaPl
set_option linter.unusedVariables false
set_option linter.unusedSimpArgs false
namespace Go.Proofs.Ytpijipnmfkehcaa
open Go Go.E
set_option maxRecDepth 100000

/-- The states behind a byte. -/
def aftL (n : Nfa) (at_ : List Int) (b : UInt8) : List Int := (n.edges.filter fun e => e.set.has b.toNat && at_.contains e.frm).map (·.to)
def reachL (n : Nfa) (w : List UInt8) : List Int := w.foldl (aftL n) n.starts
def takesL (n : Nfa) (w : List UInt8) : Bool := n.ends.any fun s => (reachL n w).contains s
theorem mem_aftL {n : Nfa} {l : List Int} {b : UInt8} {s : Int} : s ∈ aftL n l b ↔ ∃ e ∈ n.edges, e.set.has b.toNat = true ∧ e.frm ∈ l ∧ e.to = s := by
  simp only [aftL, List.mem_map, List.mem_filter, Bool.and_eq_true, List.contains_iff_mem]
  constructor
  · rintro ⟨e, ⟨h1, h2, h3⟩, h4⟩; exact ⟨e, h1, h2, h3, h4⟩
  · rintro ⟨e, h1, h2, h3, h4⟩; exact ⟨e, ⟨h1, h2, h3⟩, h4⟩
theorem aftL_congr {n : Nfa} {l m : List Int} {b : UInt8} (h : ∀ s, s ∈ l ↔ s ∈ m) : ∀ s, s ∈ aftL n l b ↔ s ∈ aftL n m b := by
  intro s; rw [mem_aftL, mem_aftL]
  constructor
  · rintro ⟨e, h1, h2, h3, h4⟩; exact ⟨e, h1, h2, (h _).1 h3, h4⟩
  · rintro ⟨e, h1, h2, h3, h4⟩; exact ⟨e, h1, h2, (h _).2 h3, h4⟩
theorem aftL_nil (n : Nfa) (b : UInt8) : aftL n [] b = [] := by simp [aftL]
theorem fold_nil (n : Nfa) (w : List UInt8) : w.foldl (aftL n) [] = [] := by
  induction w with
  | nil => rfl
  | cons b w ih => rw [List.foldl_cons, aftL_nil, ih]
theorem contains_congr {l m : List Int} (h : ∀ s, s ∈ l ↔ s ∈ m) (s : Int) : l.contains s = m.contains s := by
  rw [Bool.eq_iff_iff, List.contains_iff_mem, List.contains_iff_mem]; exact h s

/-- One byte on, the program's way. -/
def insE (m26 : List Int) (b : UInt8) (m : List Int) (e : Arrow) : List Int := if m26.contains e.frm = true ∧ e.set.has b.toNat = true then insK m e.to else m
theorem mem_insE_fold (m26 : List Int) (b : UInt8) (l : List Arrow) : ∀ (m : List Int) (s : Int), s ∈ l.foldl (insE m26 b) m ↔ s ∈ m ∨ ∃ e ∈ l, e.set.has b.toNat = true ∧ e.frm ∈ m26 ∧ e.to = s := by
  induction l with
  | nil => intro m s; simp
  | cons e l ih =>
    intro m s
    rw [List.foldl_cons, ih]
    unfold insE
    by_cases h : m26.contains e.frm = true ∧ e.set.has b.toNat = true
    · rw [if_pos h, mem_insK]
      have h1 : e.frm ∈ m26 := by simpa using h.1
      constructor
      · rintro ((h2 | rfl) | ⟨u, h2, h3⟩)
        · exact .inl h2
        · exact .inr ⟨e, List.mem_cons_self .., h.2, h1, rfl⟩
        · exact .inr ⟨u, List.mem_cons_of_mem _ h2, h3⟩
      · rintro (h2 | ⟨u, h2, h3⟩)
        · exact .inl (.inl h2)
        · rcases List.mem_cons.1 h2 with rfl | h2
          · exact .inl (.inr h3.2.2.symm)
          · exact .inr ⟨u, h2, h3⟩
    · rw [if_neg h]
      constructor
      · rintro (h2 | ⟨u, h2, h3⟩)
        · exact .inl h2
        · exact .inr ⟨u, List.mem_cons_of_mem _ h2, h3⟩
      · rintro (h2 | ⟨u, h2, h3⟩)
        · exact .inl h2
        · rcases List.mem_cons.1 h2 with rfl | h2
          · exact absurd ⟨by simpa using h3.2.1, h3.1⟩ h
          · exact .inr ⟨u, h2, h3⟩

theorem b3_run (n : Nfa) (m26 : List Int) (w : List UInt8) (i : Nat) :
    iter (fun q : (List Int) × Nat => nfa_Takes_b3 n m26 w i q.1 q.2) ([], 0) = some (.inl (n.edges.foldl (insE m26 (nth w i 0)) [], i + 1)) := by
  refine iter_seq0 (fun k => ((n.edges.take k).foldl (insE m26 (nth w i 0)) [], k)) n.edges.length (fun k hk => ?_) ?_
  · simp only [nfa_Takes_b3]
    have h0 : decide (((k : Nat) : Int) < ((n.edges.length : Nat) : Int)) = true := by simpa using hk
    rw [h0, iteO_true, take_snoc _ hk Arrow.zero, List.foldl_append, List.foldl_cons, List.foldl_nil]
    generalize List.foldl (insE m26 (nth w i 0)) [] (List.take k n.edges) = m
    generalize nth n.edges k Arrow.zero = e
    unfold insE nfa_Takes_j2
    cases h1 : m26.contains e.frm <;> cases h2 : e.set.has (nth w i 0).toNat <;> simp [iteO, nxt]
  · simp only [nfa_Takes_b3, List.take_length]
    simp [iteO, nxt]

theorem b4_run (n : Nfa) (m26 : List Int) : nfa_Takes_j1 n m26 = some (n.ends.any fun s => m26.contains s, 0) := by
  unfold nfa_Takes_j1
  have h := iter_any0 (step := fun q : Nat => nfa_Takes_b4 n m26 q) (y := (true, 0)) (no := (false, 0)) (fun k => k) (fun k => m26.contains (nth n.ends k 0)) n.ends.length ?_ ?_ ?_
  · rw [h, range_any n.ends 0 (fun s => m26.contains s)]
    cases n.ends.any fun s => m26.contains s <;> rfl
  · intro k hk hp
    simp only [nfa_Takes_b4, hp, decide_eq_true (show ((k : Nat) : Int) < ((n.ends.length : Nat) : Int) by omega)]; rfl
  · intro k hk hp
    simp only [nfa_Takes_b4, hp, decide_eq_true (show ((k : Nat) : Int) < ((n.ends.length : Nat) : Int) by omega)]; rfl
  · simp only [nfa_Takes_b4, Int.lt_irrefl, decide_false]; rfl

theorem any_congr {l m : List Int} (h : ∀ s, s ∈ l ↔ s ∈ m) (e : List Int) : (e.any fun s => l.contains s) = e.any fun s => m.contains s := by
  have e : (fun s => l.contains s) = fun s => m.contains s := funext fun s => contains_congr h s
  rw [e]
theorem foldl_take_succ (n : Nfa) (w : List UInt8) {k : Nat} (h : k < w.length) (l : List Int) : (w.take (k + 1)).foldl (aftL n) l = aftL n ((w.take k).foldl (aftL n) l) (nth w k 0) := by
  rw [take_snoc w h 0, List.foldl_append]; rfl
theorem foldl_split (n : Nfa) (w : List UInt8) (k : Nat) (l : List Int) : w.foldl (aftL n) l = (w.drop k).foldl (aftL n) ((w.take k).foldl (aftL n) l) := by
  rw [← List.foldl_append, List.take_append_drop]

theorem b2_run (n : Nfa) (w : List UInt8) (m : List Int) (hm : ∀ s, s ∈ m ↔ s ∈ n.starts) : iter (fun q : (List Int) × Nat => nfa_Takes_b2 w n q.1 q.2) (m, 0) = some (takesL n w, 0) := by
  have key := iter_run (step := fun q : (List Int) × Nat => nfa_Takes_b2 w n q.1 q.2) (fun q => q.2 ≤ w.length ∧ ∀ s, s ∈ q.1 ↔ s ∈ (w.take q.2).foldl (aftL n) n.starts) (fun r => r = (takesL n w, 0)) (fun q => w.length - q.2)
  refine Exists.elim (key ?_ (m, 0) ⟨Nat.zero_le _, by simpa using hm⟩) (fun r hr => by rw [hr.1, hr.2])
  · rintro ⟨m, k⟩ ⟨hk, hI⟩
    simp only at hk hI
    have hend : ∀ l : List Int, (∀ s, s ∈ l ↔ s ∈ reachL n w) → fin (nfa_Takes_j1 n l) = (some (.inr (takesL n w, 0)) : Option (((List Int) × Nat) ⊕ (Bool × Int))) := fun l hl => by
      rw [b4_run, any_congr hl]; rfl
    by_cases hlt : k < w.length
    · by_cases h0 : 0 < m.length
      · refine .inl ⟨(n.edges.foldl (insE m (nth w k 0)) [], k + 1), ?_, ?_, ?_⟩
        · simp only [nfa_Takes_b2, decide_eq_true (show ((k : Nat) : Int) < ((w.length : Nat) : Int) by omega), decide_eq_true (show (0 : Int) < ((m.length : Nat) : Int) by omega), iteO_true]
          exact b3_run n m w k
        · refine ⟨by simp only; omega, fun s => ?_⟩
          simp only
          rw [mem_insE_fold, foldl_take_succ n w hlt, mem_aftL]
          simp only [List.not_mem_nil, false_or, hI]
        · simp only; omega
      · refine .inr ⟨(takesL n w, 0), ?_, rfl⟩
        simp only [nfa_Takes_b2, decide_eq_true (show ((k : Nat) : Int) < ((w.length : Nat) : Int) by omega), decide_eq_false (show ¬ (0 : Int) < ((m.length : Nat) : Int) by omega), iteO_true, iteO_false]
        refine hend m fun s => ?_
        have hm0 : m = [] := List.eq_nil_of_length_eq_zero (by omega)
        have hz : (w.take k).foldl (aftL n) n.starts = [] := List.eq_nil_iff_forall_not_mem.2 fun s hs => by have := (hI s).2 hs; rw [hm0] at this; cases this
        rw [reachL, foldl_split n w k, hz, fold_nil, hm0]
    · refine .inr ⟨(takesL n w, 0), ?_, rfl⟩
      simp only [nfa_Takes_b2, decide_eq_false (show ¬ ((k : Nat) : Int) < ((w.length : Nat) : Int) by omega), iteO_false]
      refine hend m fun s => ?_
      rw [hI, List.take_of_length_le (by omega)]; rfl

theorem mem_foldl_insK (l : List Int) : ∀ (m : List Int) (s : Int), s ∈ l.foldl insK m ↔ s ∈ m ∨ s ∈ l := by
  induction l with
  | nil => intro m s; simp
  | cons x l ih =>
    intro m s
    rw [List.foldl_cons, ih, mem_insK, List.mem_cons, or_assoc]
/-- The program's answer. -/
theorem takes_eq (n : Nfa) (w : List UInt8) (hw : w.length ≤ 281474976710656) : nfa_Takes n w = some (if checkB n = true then (takesL n w, 0) else (false, 1)) := by
  unfold nfa_Takes
  rw [grd_mk hw]
  by_cases hc : checkB n = true
  · have h1 : decide (errB (checkB n) ≠ 0) = false := by rw [hc]; rfl
    rw [h1, iteO_false, if_pos hc]
    have := iter_seq0 (step := fun q : (List Int) × Nat => nfa_Takes_b1 n w q.1 q.2) (r := (takesL n w, 0)) (fun k => ((n.starts.take k).foldl insK [], k)) n.starts.length (fun k hk => ?_) ?_
    · exact this
    · simp only [nfa_Takes_b1, decide_eq_true (show ((k : Nat) : Int) < ((n.starts.length : Nat) : Int) by omega), iteO_true]
      rw [take_snoc _ hk (0 : Int), List.foldl_append]; rfl
    · simp only [nfa_Takes_b1, Int.lt_irrefl, decide_false, iteO_false, List.take_length]
      rw [b2_run n w _ (fun s => by rw [mem_foldl_insK]; simp)]; rfl
  · have h1 : decide (errB (checkB n) ≠ 0) = true := by
      have : checkB n = false := by simpa using hc
      rw [this]; rfl
    rw [h1, iteO_true, if_neg hc]
end Go.Proofs.Ytpijipnmfkehcaa
