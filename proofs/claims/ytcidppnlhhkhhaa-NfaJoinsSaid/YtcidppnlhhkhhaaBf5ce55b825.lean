/- Parts of a proof, one behind the other: what a machine reaches, functions decompiled, plain lemmas. Conditions stand with each lemma. -/
import Derived.Test.YtcidppnlhhkhhaaB6e0a8f0098
import Derived.Test.YtcidppnlhhkhhaaB4e8ee06bdf

/- Nfa6 -/
section
/- Contracts of package nfa, part six: one behind another. -/
set_option linter.unusedVariables false
set_option linter.unusedSimpArgs false
namespace Go.Proofs.Ytcidppnlhhkhhaa
open Go Go.E
set_option maxRecDepth 100000

theorem riseB_at {l : List Int} {n : Int} (h : riseB l n = true) {i : Nat} (hi : i < l.length) : riseFrom n l i = true :=
  List.all_eq_true.1 h i (List.mem_range.2 hi)
theorem riseB_len {l : List Int} {n : Int} (h : riseB l n = true) (h0 : 0 ≤ n) : (l.length : Int) ≤ n := by
  have hi : ∀ i, i < l.length → (i : Int) ≤ nth l i 0 ∧ nth l i 0 < n := by
    intro i
    induction i with
    | zero =>
      intro hl
      have := riseB_at h hl
      simp only [riseFrom, stateB, Bool.and_eq_true, decide_eq_true_eq] at this
      omega
    | succ i ih =>
      intro hl
      have h1 := riseB_at h hl
      have h2 := ih (by omega)
      simp only [riseFrom, stateB, Bool.and_eq_true, decide_eq_true_eq, Bool.not_eq_true', Bool.and_eq_false_iff, decide_eq_false_iff_not, Nat.add_sub_cancel] at h1
      omega
  by_cases hl : l.length = 0
  · omega
  · have := hi (l.length - 1) (by omega)
    omega
theorem checkB_len {n : Nfa} (h : checkB n = true) : (n.starts.length : Int) ≤ n.states ∧ (n.ends.length : Int) ≤ n.states := by
  have h0 := (checkB_spec h).1
  simp only [checkB, Bool.and_eq_true, decide_eq_true_eq] at h
  exact ⟨riseB_len h.1.1.2 h0, riseB_len h.1.2 h0⟩

/-- The edges that reach an end. -/
def lastTo (x : Nfa) (k : Nat) : Nat := (x.edges.take k).countP fun u => x.ends.contains u.to
theorem lastTo_zero (x : Nfa) : lastTo x 0 = 0 := by simp [lastTo]
theorem lastTo_le (x : Nfa) (k : Nat) : lastTo x k ≤ x.edges.length := Nat.le_trans List.countP_le_length (by rw [List.length_take]; omega)
theorem endsAt {x : Nfa} {k : Nat} (h : k < x.edges.length) (k6 : ∀ u ∈ x.edges, 0 ≤ u.frm ∧ u.frm < x.states ∧ 0 ≤ u.to ∧ u.to < x.states) :
    nth (marksL x.ends x.states.toNat) (nth x.edges k Arrow.zero).to.toNat false = x.ends.contains (nth x.edges k Arrow.zero).to := (starTo_step h k6).2
theorem lastTo_t {x : Nfa} {k : Nat} (h : k < x.edges.length) (k6 : ∀ u ∈ x.edges, 0 ≤ u.frm ∧ u.frm < x.states ∧ 0 ≤ u.to ∧ u.to < x.states)
    (h1 : nth (marksL x.ends x.states.toNat) (nth x.edges k Arrow.zero).to.toNat false = true) : lastTo x (k + 1) = lastTo x k + 1 := by
  rw [endsAt h k6] at h1
  rw [lastTo, take_succ_nth x.edges h Arrow.zero, List.countP_append, List.countP_singleton, if_pos h1]; rfl
theorem lastTo_f {x : Nfa} {k : Nat} (h : k < x.edges.length) (k6 : ∀ u ∈ x.edges, 0 ≤ u.frm ∧ u.frm < x.states ∧ 0 ≤ u.to ∧ u.to < x.states)
    (h1 : nth (marksL x.ends x.states.toNat) (nth x.edges k Arrow.zero).to.toNat false = false) : lastTo x (k + 1) = lastTo x k := by
  rw [endsAt h k6, ← Bool.not_eq_true] at h1
  rw [lastTo, take_succ_nth x.edges h Arrow.zero, List.countP_append, List.countP_singleton, if_neg h1]; rfl

def catPut (u : Arrow) (l : List Int) : List Arrow := l.map fun s => ⟨u.frm, s, u.set⟩
def catOf (x y : Nfa) (u : Arrow) : List Arrow := if x.ends.contains u.to = true then catPut u (shiftL y.starts x.states) else []
def catTo (x y : Nfa) (k : Nat) : List Arrow := (x.edges ++ shiftE y.edges x.states) ++ (x.edges.take k).flatMap (catOf x y)
theorem catPut_snoc {u : Arrow} {l : List Int} {j : Nat} (h : j < l.length) : catPut u (l.take (j + 1)) = catPut u (l.take j) ++ [⟨u.frm, nth l j 0, u.set⟩] := by
  rw [take_succ_nth l h 0]; simp [catPut]
theorem catPut_len (u : Arrow) (l : List Int) : (catPut u l).length = l.length := by simp [catPut]
theorem catTo_zero (x y : Nfa) : catTo x y 0 = x.edges ++ shiftE y.edges x.states := by simp [catTo]
theorem catTo_t {x y : Nfa} {k : Nat} (h : k < x.edges.length) (k6 : ∀ u ∈ x.edges, 0 ≤ u.frm ∧ u.frm < x.states ∧ 0 ≤ u.to ∧ u.to < x.states)
    (h1 : nth (marksL x.ends x.states.toNat) (nth x.edges k Arrow.zero).to.toNat false = true) : catTo x y (k + 1) = catTo x y k ++ catPut (nth x.edges k Arrow.zero) (shiftL y.starts x.states) := by
  rw [endsAt h k6] at h1
  rw [catTo, take_succ_nth x.edges h Arrow.zero, List.flatMap_append, ← List.append_assoc, List.flatMap_singleton, catOf, if_pos h1]; rfl
theorem catTo_f {x y : Nfa} {k : Nat} (h : k < x.edges.length) (k6 : ∀ u ∈ x.edges, 0 ≤ u.frm ∧ u.frm < x.states ∧ 0 ≤ u.to ∧ u.to < x.states)
    (h1 : nth (marksL x.ends x.states.toNat) (nth x.edges k Arrow.zero).to.toNat false = false) : catTo x y (k + 1) = catTo x y k := by
  rw [endsAt h k6, ← Bool.not_eq_true] at h1
  rw [catTo, take_succ_nth x.edges h Arrow.zero, List.flatMap_append, ← List.append_assoc, List.flatMap_singleton, catOf, if_neg h1, List.append_nil]; rfl
theorem catOf_len (x y : Nfa) (u : Arrow) : (catOf x y u).length ≤ y.starts.length := by
  unfold catOf
  split
  · rw [catPut_len, shiftL_len]; exact Nat.le_refl _
  · exact Nat.zero_le _
theorem catTo_len (x y : Nfa) (k : Nat) (h : k ≤ x.edges.length) (h1 : x.edges.length ≤ 65536) (h2 : y.edges.length ≤ 65536) (h3 : y.starts.length ≤ 4096) : (catTo x y k).length ≤ 131072 + k * 4096 := by
  induction k with
  | zero => rw [catTo_zero, List.length_append, shiftE_len]; omega
  | succ k ih =>
    have hk := ih (by omega)
    have ho := catOf_len x y (nth x.edges k Arrow.zero)
    rw [catTo, take_succ_nth x.edges (by omega) Arrow.zero, List.flatMap_append, ← List.append_assoc, List.flatMap_singleton, List.length_append]
    change (catTo x y k).length + _ ≤ _
    omega
theorem shiftE_ok {l : List Arrow} (h : ∀ u ∈ l, u.set.ok) (k : Int) : ∀ u ∈ shiftE l k, u.set.ok := by
  intro u hu
  simp only [shiftE, List.mem_map] at hu
  obtain ⟨v, hv, rfl⟩ := hu
  exact h v hv
theorem catOf_ok {x y : Nfa} {u : Arrow} (h : u.set.ok) : ∀ v ∈ catOf x y u, v.set.ok := by
  intro v hv
  unfold catOf at hv
  split at hv
  · simp only [catPut, List.mem_map] at hv
    obtain ⟨s, _, rfl⟩ := hv
    exact h
  · simp at hv
theorem catTo_ok {x y : Nfa} (h : ∀ u ∈ x.edges, u.set.ok) (h' : ∀ u ∈ y.edges, u.set.ok) (k : Nat) : ∀ u ∈ catTo x y k, u.set.ok := by
  intro u hu
  simp only [catTo, List.mem_append, List.mem_flatMap] at hu
  rcases hu with (hu | hu) | ⟨v, hv, hu⟩
  · exact h u hu
  · exact shiftE_ok h' _ u hu
  · exact catOf_ok (h v (List.mem_of_mem_take hv)) u hu

def catF (x y : Nfa) : Bool := fitB (x.states + y.states) ((x.edges.length : Int) + (y.edges.length : Int) + ((lastTo x x.edges.length : Nat) : Int) * (y.starts.length : Int))
def catS (x y : Nfa) : List Int := if emptyB x = true then x.starts ++ shiftL y.starts x.states else x.starts
def catD (x y : Nfa) : List Int := if emptyB y = true then x.ends ++ shiftL y.ends x.states else [] ++ shiftL y.ends x.states
def catN (x y : Nfa) : Nfa := ⟨x.states + y.states, catS x y, catD x y, catTo x y x.edges.length⟩
def catR (x y : Nfa) : Nfa := if checkB x = true ∧ checkB y = true then if catF x y = true then catN x y else Nfa.zero else Nfa.zero
def catX (x y : Nfa) : Int := if checkB x = true ∧ checkB y = true then if catF x y = true then 0 else 2 else 1

set_option maxHeartbeats 4000000 in
theorem cat_con (σ : Store) (x y : Nfa) (p q : NfaP) (hx : RNfa σ x p) (hy : RNfa σ y q) : Con Try.prog 27 #[nfaV x p, nfaV y q] σ [] (NfaR (catR x y) (catX x y)) := by
  have hd := hx.d
  refine Con.mk (n := 140) Try.func27 rfl rfl rfl (fun w0 => ?_)
  refine TC.seq ?_
  refine TC.region ?_
  refine TL.op rfl (OpOk.boxA rfl rfl rfl rfl (fun b1 => ?_))
  refine TL.op rfl (OpOk.boxA rfl rfl rfl rfl (fun b3 => ?_))
  refine TL.op rfl (OpOk.alloc rfl ze25 rfl rfl (fun b5 => ?_))
  refine TL.v rfl (OpVal.moveI (.inr rfl) rfl) rfl rfl ?_
  refine TL.nil ?_
  refine S.n ?_
  refine TC.seq ?_
  refine TC.seq ?_
  refine TC.region ?_
  refine TL.v rfl (OpVal.loadAll rfl ag25 sz25 rfl (i := 2) rfl rfl) rfl rfl ?_
  refine TL.op rfl (OpOk.callP (check_con _ _ _ (by first | exact hx | exact hy)) rfl rfl pf18 rfl rfl rfl ?_)
  refine TL.v rfl (OpVal.neq rfl rfl rfl) rfl rfl ?_
  refine TL.v rfl (OpVal.moveB (.inl rfl) rfl) rfl rfl ?_
  refine TL.split 22 rfl (fun h7 => ?_) (fun h7 => ?_)
  · try simp only [decide_eq_true_eq, decide_eq_false_iff_not, Bool.not_eq_true', Bool.not_eq_false', Bool.not_eq_eq_eq_not, Bool.not_true, Bool.not_false, Int.not_lt, Int.not_le, Decidable.not_not] at h7
    refine TL.goff rfl rfl rfl rfl rfl rfl rfl rfl ?_
    refine TL.goff rfl rfl rfl rfl rfl rfl rfl rfl ?_
    refine TL.goff rfl rfl rfl rfl rfl rfl rfl rfl ?_
    refine TL.v rfl (OpVal.pickTB rfl rfl rfl) rfl rfl ?_
    refine TL.nil ?_
    refine S.n ?_
    refine TC.cond rfl (fun _ => ?_) (fun h => Bool.noConfusion h)
    refine TC.seq ?_
    refine TC.region ?_
    refine TL.v rfl (OpVal.buildL rfl pl25 ze25 rfl) rfl rfl ?_
    refine TL.op rfl (OpOk.storeAll rfl sz25 rfl rfl rfl rfl rfl rfl ?_)
    refine TL.v rfl (OpVal.moveI (.inr rfl) rfl) rfl rfl ?_
    refine TL.nil ?_
    refine S.n ?_
    refine TC.ret ?_
    refine S.r ?_
    -- leaf 1 ret [h7: t22=True] H=['q6', 'q4', 'q2']
    have hc := errB_no h7
    have hc : ¬ (checkB x = true ∧ checkB y = true) := fun h => by rw [h.1] at hc; cases hc
    simp only [catR, catX, if_neg hc]
    exact retNfa (p := NfaP.zero) 0 rfl ag25 sz25 rfl rfl rfl rfl (RNfa.zero _)
  · try simp only [decide_eq_true_eq, decide_eq_false_iff_not, Bool.not_eq_true', Bool.not_eq_false', Bool.not_eq_eq_eq_not, Bool.not_true, Bool.not_false, Int.not_lt, Int.not_le, Decidable.not_not] at h7
    refine TL.gv rfl rfl rfl rfl rfl (OpVal.loadAll rfl ag25 sz25 rfl (i := 1) rfl rfl) rfl rfl ?_
    refine TL.gon rfl rfl rfl rfl rfl (OpOk.callP (check_con _ _ _ (by first | exact hx | exact hy)) rfl rfl pf18 rfl rfl rfl ?_)
    refine TL.gv rfl rfl rfl rfl rfl (OpVal.neq rfl rfl rfl) rfl rfl ?_
    refine TL.v rfl (OpVal.pickFB rfl rfl rfl) rfl rfl ?_
    refine TL.nil ?_
    refine S.n ?_
    refine TC.condD rfl (fun h8 => ?_) (fun h8 => ?_)
    · try simp only [decide_eq_true_eq, decide_eq_false_iff_not, Bool.not_eq_true', Bool.not_eq_false', Bool.not_eq_eq_eq_not, Bool.not_true, Bool.not_false, Int.not_lt, Int.not_le, Decidable.not_not] at h8
      refine TC.seq ?_
      refine TC.region ?_
      refine TL.v rfl (OpVal.buildL rfl pl25 ze25 rfl) rfl rfl ?_
      refine TL.op rfl (OpOk.storeAll rfl sz25 rfl rfl rfl rfl rfl rfl ?_)
      refine TL.v rfl (OpVal.moveI (.inr rfl) rfl) rfl rfl ?_
      refine TL.nil ?_
      refine S.n ?_
      refine TC.ret ?_
      refine S.r ?_
      -- leaf 2 ret [h7: t22=False; h8: True] H=['q6', 'q4', 'q2']
      have hc := errB_no h8
      have hc : ¬ (checkB x = true ∧ checkB y = true) := fun h => by rw [h.2] at hc; cases hc
      simp only [catR, catX, if_neg hc]
      exact retNfa (p := NfaP.zero) 0 rfl ag25 sz25 rfl rfl rfl rfl (RNfa.zero _)
    · try simp only [decide_eq_true_eq, decide_eq_false_iff_not, Bool.not_eq_true', Bool.not_eq_false', Bool.not_eq_eq_eq_not, Bool.not_true, Bool.not_false, Int.not_lt, Int.not_le, Decidable.not_not] at h8
      refine TC.skip ?_
      refine S.n ?_
      refine TC.seq ?_
      have hcx : checkB x = true := errB_yes h7
      have hcy : checkB y = true := errB_yes h8
      obtain ⟨k1, k2, k3, k4, k5, k6⟩ := checkB_spec hcx
      obtain ⟨l1, l2, l3, l4, l5, l6⟩ := checkB_spec hcy
      have lx := checkB_len hcx
      have ly := checkB_len hcy
      have me := marksL_len x.ends x.states.toNat
      refine TC.region ?_
      refine TL.v rfl (OpVal.fieldLoc rfl fo25_2 rfl) rfl rfl ?_
      refine TL.v rfl (OpVal.loadLoc rfl ag22 rfl (i := 2) rfl rfl) rfl rfl ?_
      refine TL.v rfl (OpVal.fieldLoc rfl fo25_0 rfl) rfl rfl ?_
      refine TL.v rfl (OpVal.loadLoc rfl ag3 rfl (i := 2) rfl rfl) rfl rfl ?_
      refine TL.op rfl (OpOk.callR (marks_con _ _ _ _ _ hx.e k1 k2 k5) rfl rfl pf60 rfl rfl rfl (fun a9 c10 => ?_))
      refine TL.v rfl (OpVal.moveSl (.inr rfl) rfl) rfl rfl ?_
      refine TL.nil ?_
      refine S.n ?_
      refine TC.seq ?_
      refine TC.region ?_
      refine TL.v rfl (OpVal.moveI (.inr rfl) rfl) rfl rfl ?_
      refine TL.nil ?_
      refine S.n ?_
      refine TC.seq ?_
      refine TC.seq ?_
      refine TC.region ?_
      refine TL.v rfl (OpVal.fieldLoc rfl fo25_3 rfl) rfl rfl ?_
      refine TL.v rfl (OpVal.loadLoc rfl ag23 rfl (i := 3) rfl rfl) rfl rfl ?_
      refine TL.v rfl (OpVal.lenC rfl Try.underlying23 rfl) rfl rfl ?_
      refine TL.v rfl (OpVal.moveI (.inl rfl) rfl) rfl rfl ?_
      refine TL.nil ?_
      refine S.n ?_
      refine TC.block ?_
      refine TC.loopF (α := Nat) [7, 9, 36, 37, 38, 39, 40, 41, 42, 43, 44, 45, 46, 47] (fun g => [(36, .int .i64 (g : Nat)), (7, .int .i64 (lastTo x g : Nat))]) (fun g => [Res.rowS 4 1 encB (.slice a9 (marksL x.ends x.states.toNat).length c10) (marksL x.ends x.states.toNat), Res.cells b5 (nfaA Nfa.zero NfaP.zero) 25, Res.cells b3 (nfaA y q) 25, Res.cells b1 (nfaA x p) 25]) (fun _ => _) (fun g => g ≤ x.edges.length) (fun g => x.edges.length - g) (0) (by first | exact True.intro | omega | (dsimp only; omega) | (simp; done) | (simp; omega)) (by rw [lastTo_zero]; exact ⟨rfl, rfl, trivial⟩) (by rfl) (by rfl) (fun g1 j1 hg1 => ?_)
      have hu1 : g1 < x.edges.length → _ := fun h => k6 _ (nth_mem h Arrow.zero)
      have hl1 := lastTo_le x g1
      refine TC.seq ?_
      refine TC.region ?_
      refine TL.v rfl (OpVal.lss rfl rfl rfl) rfl rfl ?_
      refine TL.nil ?_
      refine S.n ?_
      refine TC.seq ?_
      refine TC.condD rfl (fun h12 => ?_) (fun h12 => ?_)
      · try simp only [decide_eq_true_eq, decide_eq_false_iff_not, Bool.not_eq_true', Bool.not_eq_false', Bool.not_eq_eq_eq_not, Bool.not_true, Bool.not_false, Int.not_lt, Int.not_le, Decidable.not_not] at h12
        refine TC.skip ?_
        refine S.n ?_
        refine TC.seq ?_
        refine TC.block ?_
        refine TC.seq ?_
        refine TC.region ?_
        refine TL.v rfl (OpVal.indexN rfl Try.underlying23 sz80 rfl rfl (by first | assumption | exact (RS.rv (by assumption)).sl) (by omega)) rfl rfl ?_
        refine TL.v rfl (OpVal.loadSA Arrow.zero rfl ag80 sz80 rfl (by assumption) (by omega) (by omega)) rfl rfl ?_
        refine TL.op rfl (OpOk.alloc rfl ze80 rfl rfl (fun b13 => ?_))
        refine TL.op rfl (OpOk.storeAll rfl sz80 rfl rfl rfl rfl rfl rfl ?_)
        refine TL.nil ?_
        refine S.n ?_
        refine TC.seq ?_
        refine TC.region ?_
        refine TL.v rfl (OpVal.moveSl (.inl rfl) rfl) rfl rfl ?_
        refine TL.v rfl (OpVal.fieldLoc rfl fo80_1 rfl) rfl rfl ?_
        refine TL.v rfl (OpVal.loadLoc rfl ag3 rfl (i := 0) rfl rfl) rfl rfl ?_
        refine TL.isSl (i := 1) rfl (fun hs15 _ _ => ?_)
        refine TL.v rfl (OpVal.index rfl Try.underlying47 sz4 rfl rfl (by first | assumption | exact (RS.rv (by assumption)).sl) (by omega) (by omega)) rfl rfl ?_
        refine TL.v rfl (OpVal.loadO1 false rfl ag4 rfl (q := 1) rfl encB_len (by omega) rfl) rfl rfl ?_
        refine TL.nil ?_
        refine S.n ?_
        refine TC.cond rfl (fun h16 => ?_) (fun h16 => ?_)
        · try simp only [decide_eq_true_eq, decide_eq_false_iff_not, Bool.not_eq_true', Bool.not_eq_false', Bool.not_eq_eq_eq_not, Bool.not_true, Bool.not_false, Int.not_lt, Int.not_le, Decidable.not_not] at h16
          refine TC.region ?_
          refine TL.v rfl (OpVal.moveI (.inl rfl) rfl) rfl rfl ?_
          refine TL.v rfl (OpVal.add rfl rfl rfl (by omega) (by omega)) rfl rfl ?_
          refine TL.v rfl (OpVal.moveI (.inr rfl) rfl) rfl rfl ?_
          refine TL.nil ?_
          refine B.n ?_
          refine S.n ?_
          refine TC.region ?_
          refine TL.v rfl (OpVal.succ rfl rfl rfl (by omega)) rfl rfl ?_
          refine TL.v rfl (OpVal.moveI (.inl rfl) rfl) rfl rfl ?_
          refine TL.dropN 1 rfl ?_
          refine TL.nil ?_
          refine S.n ?_
          -- leaf 3 next [h7: t22=False; h8: False; h12: True; h16: True] H=['q11', 'q6', 'q4', 'q2']
          refine ⟨by repeat (first | exact Agr.mask | refine Agr.upd rfl ?_ | refine Agr.maskIn rfl ?_), g1 + 1, ?_, ?_, ?_, ?_, ?_⟩
          · omega
          · first | exact True.intro | omega | (dsimp only; omega) | (simp; done) | (simp; omega)
          · show Has _ [(_, .int .i64 ((g1 + 1 : Nat) : Int)), (7, .int .i64 (lastTo x (g1 + 1) : Nat))]
            rw [lastTo_t (by omega) k6 h16]; exact ⟨rfl, rfl, trivial⟩
          · rfl
          · rfl
        · try simp only [decide_eq_true_eq, decide_eq_false_iff_not, Bool.not_eq_true', Bool.not_eq_false', Bool.not_eq_eq_eq_not, Bool.not_true, Bool.not_false, Int.not_lt, Int.not_le, Decidable.not_not] at h16
          refine TC.skip ?_
          refine B.n ?_
          refine S.n ?_
          refine TC.region ?_
          refine TL.v rfl (OpVal.succ rfl rfl rfl (by omega)) rfl rfl ?_
          refine TL.v rfl (OpVal.moveI (.inl rfl) rfl) rfl rfl ?_
          refine TL.dropN 1 rfl ?_
          refine TL.nil ?_
          refine S.n ?_
          -- leaf 4 next [h7: t22=False; h8: False; h12: True; h16: False] H=['q11', 'q6', 'q4', 'q2']
          refine ⟨by repeat (first | exact Agr.mask | refine Agr.upd rfl ?_ | refine Agr.maskIn rfl ?_), g1 + 1, ?_, ?_, ?_, ?_, ?_⟩
          · omega
          · first | exact True.intro | omega | (dsimp only; omega) | (simp; done) | (simp; omega)
          · show Has _ [(_, .int .i64 ((g1 + 1 : Nat) : Int)), (7, .int .i64 (lastTo x (g1 + 1) : Nat))]
            rw [lastTo_f (by omega) k6 h16]; exact ⟨rfl, rfl, trivial⟩
          · rfl
          · rfl
      · try simp only [decide_eq_true_eq, decide_eq_false_iff_not, Bool.not_eq_true', Bool.not_eq_false', Bool.not_eq_eq_eq_not, Bool.not_true, Bool.not_false, Int.not_lt, Int.not_le, Decidable.not_not] at h12
        refine TC.exit ?_
        refine S.x ?_
        refine S.x ?_
        refine TC.exitHere ?_
        refine S.n ?_
        refine TC.seq ?_
        obtain rfl : g1 = x.edges.length := by omega
        have hm : 0 ≤ ((lastTo x x.edges.length : Nat) : Int) * (y.starts.length : Int) ∧ ((lastTo x x.edges.length : Nat) : Int) * (y.starts.length : Int) ≤ 1000000000 := by
          have := Nat.mul_le_mul (show lastTo x x.edges.length ≤ 65536 by omega) (show y.starts.length ≤ 4096 by omega)
          omega
        refine TC.region ?_
        refine TL.v rfl (OpVal.fieldLoc rfl fo25_0 rfl) rfl rfl ?_
        refine TL.v rfl (OpVal.loadLoc rfl ag3 rfl (i := 3) rfl rfl) rfl rfl ?_
        refine TL.v rfl (OpVal.fieldLoc rfl fo25_0 rfl) rfl rfl ?_
        refine TL.v rfl (OpVal.loadLoc rfl ag3 rfl (i := 2) rfl rfl) rfl rfl ?_
        refine TL.v rfl (OpVal.add rfl rfl rfl (by omega) (by omega)) rfl rfl ?_
        refine TL.v rfl (OpVal.moveI (.inr rfl) rfl) rfl rfl ?_
        refine TL.nil ?_
        refine S.n ?_
        refine TC.seq ?_
        refine TC.seq ?_
        refine TC.region ?_
        refine TL.v rfl (OpVal.moveI (.inl rfl) rfl) rfl rfl ?_
        refine TL.v rfl (OpVal.fieldLoc rfl fo25_3 rfl) rfl rfl ?_
        refine TL.v rfl (OpVal.loadLoc rfl ag23 rfl (i := 3) rfl rfl) rfl rfl ?_
        refine TL.v rfl (OpVal.lenC rfl Try.underlying23 rfl) rfl rfl ?_
        refine TL.v rfl (OpVal.fieldLoc rfl fo25_3 rfl) rfl rfl ?_
        refine TL.v rfl (OpVal.loadLoc rfl ag23 rfl (i := 2) rfl rfl) rfl rfl ?_
        refine TL.v rfl (OpVal.lenC rfl Try.underlying23 rfl) rfl rfl ?_
        refine TL.v rfl (OpVal.add rfl rfl rfl (by omega) (by omega)) rfl rfl ?_
        refine TL.v rfl (OpVal.moveI (.inl rfl) rfl) rfl rfl ?_
        refine TL.v rfl (OpVal.fieldLoc rfl fo25_1 rfl) rfl rfl ?_
        refine TL.v rfl (OpVal.loadLoc rfl ag22 rfl (i := 2) rfl rfl) rfl rfl ?_
        refine TL.v rfl (OpVal.lenC rfl Try.underlying22 rfl) rfl rfl ?_
        refine TL.v rfl (OpVal.mul rfl rfl rfl (by omega) (by omega)) rfl rfl ?_
        refine TL.v rfl (OpVal.add rfl rfl rfl (by omega) (by omega)) rfl rfl ?_
        refine TL.op rfl (OpOk.callP (fits_con _ _ _) rfl rfl pf61 rfl rfl rfl ?_)
        refine TL.v rfl (OpVal.not rfl rfl) rfl rfl ?_
        refine TL.nil ?_
        refine S.n ?_
        refine TC.cond rfl (fun h17 => ?_) (fun h17 => ?_)
        · try simp only [decide_eq_true_eq, decide_eq_false_iff_not, Bool.not_eq_true', Bool.not_eq_false', Bool.not_eq_eq_eq_not, Bool.not_true, Bool.not_false, Int.not_lt, Int.not_le, Decidable.not_not] at h17
          refine TC.seq ?_
          refine TC.region ?_
          refine TL.v rfl (OpVal.buildL rfl pl25 ze25 rfl) rfl rfl ?_
          refine TL.front 1 rfl rfl ?_
          refine TL.op rfl (OpOk.storeAll rfl sz25 rfl rfl rfl rfl rfl rfl ?_)
          refine TL.v rfl (OpVal.moveI (.inr rfl) rfl) rfl rfl ?_
          refine TL.nil ?_
          refine S.n ?_
          refine TC.front 1 rfl rfl ?_
          refine TC.sealS encB_len (fun τ20 hle19 hr18 => ?_)
          refine TC.ret ?_
          refine S.r ?_
          -- leaf 5 ret [h7: t22=False; h8: False; h12: False; h17: True] H=['q6', 'q4', 'q2']
          have hf : ¬ catF x y = true := by rw [show catF x y = false from h17]; exact Bool.false_ne_true
          simp only [catR, catX, if_pos (And.intro hcx hcy), if_neg hf]
          exact retNfa (p := NfaP.zero) 0 rfl ag25 sz25 rfl rfl rfl rfl (RNfa.zero _)
        · try simp only [decide_eq_true_eq, decide_eq_false_iff_not, Bool.not_eq_true', Bool.not_eq_false', Bool.not_eq_eq_eq_not, Bool.not_true, Bool.not_false, Int.not_lt, Int.not_le, Decidable.not_not] at h17
          refine TC.skip ?_
          refine S.n ?_
          refine TC.seq ?_
          refine TC.region ?_
          refine TL.v rfl (OpVal.loadAll rfl ag25 sz25 rfl (i := 3) rfl rfl) rfl rfl ?_
          refine TL.v rfl (OpVal.loadAll rfl ag25 sz25 rfl (i := 2) rfl rfl) rfl rfl ?_
          refine TL.op rfl (OpOk.callM (both_con _ _ _ _ _ hx hy ⟨k1, by omega⟩ (fun u hu => by have := l6 u hu; omega) (by omega) (by omega)) rfl rfl pf62 rfl rfl rfl (fun b21 a22 c23 => ?_))
          refine TL.v rfl (OpVal.moveLoc (.inr rfl) rfl) rfl rfl ?_
          refine TL.nil ?_
          refine S.n ?_
          refine TC.seq ?_
          refine TC.region ?_
          refine TL.v rfl (OpVal.moveLoc (.inl rfl) rfl) rfl rfl ?_
          refine TL.v rfl (OpVal.makeFn rfl) rfl rfl ?_
          refine TL.v rfl (OpVal.moveFn (.inr rfl) rfl) rfl rfl ?_
          refine TL.nil ?_
          refine S.n ?_
          refine TC.seq ?_
          refine TC.region ?_
          refine TL.v rfl (OpVal.fieldLoc rfl fo25_1 rfl) rfl rfl ?_
          refine TL.v rfl (OpVal.loadLoc rfl ag22 rfl (i := 4) rfl rfl) rfl rfl ?_
          refine TL.v rfl (OpVal.fieldLoc rfl fo25_0 rfl) rfl rfl ?_
          refine TL.v rfl (OpVal.loadLoc rfl ag3 rfl (i := 5) rfl rfl) rfl rfl ?_
          refine TL.op rfl (OpOk.callR (shift_con _ _ _ _ _ (by first | exact hy.s | exact hy.e) ⟨k1, by omega⟩ (fun u hu => by first | (have := l4 u hu; omega) | (have := l5 u hu; omega)) (by omega)) rfl rfl pf63 rfl rfl rfl (fun a26 c27 => ?_))
          refine TL.v rfl (OpVal.moveSl (.inr rfl) rfl) rfl rfl ?_
          refine TL.nil ?_
          refine S.n ?_
          refine TC.seq ?_
          refine TC.seq ?_
          refine TC.region ?_
          refine TL.v rfl (OpVal.fieldLoc rfl fo25_3 rfl) rfl rfl ?_
          refine TL.v rfl (OpVal.loadLoc rfl ag23 rfl (i := 6) rfl rfl) rfl rfl ?_
          refine TL.v rfl (OpVal.lenC rfl Try.underlying23 rfl) rfl rfl ?_
          refine TL.v rfl (OpVal.moveI (.inl rfl) rfl) rfl rfl ?_
          refine TL.nil ?_
          refine S.n ?_
          refine TC.block ?_
          refine TC.loopF (α := Nat × Option Addr × Nat) [15, 17, 83, 84, 85, 86, 87, 88, 89, 90, 91, 92, 93, 94, 95, 96, 97, 98, 99, 100, 101, 102, 103, 104, 105, 106, 107] (fun g => [(83, .int .i64 (g.1 : Nat))]) (fun g => [Res.rowS 3 1 Go.E.encI (.slice a26 (shiftL y.starts x.states).length c27) (shiftL y.starts x.states), Res.cells b21 #[.slice g.2.1 (catTo x y g.1).length g.2.2] 74, Res.rowS 80 6 encE (.slice g.2.1 (catTo x y g.1).length g.2.2) (catTo x y g.1), Res.rowS 4 1 encB (.slice a9 (marksL x.ends x.states.toNat).length c10) (marksL x.ends x.states.toNat), Res.cells b5 (nfaA Nfa.zero NfaP.zero) 25, Res.cells b3 (nfaA y q) 25, Res.cells b1 (nfaA x p) 25]) (fun _ => _) (fun g => g.1 ≤ x.edges.length) (fun g => x.edges.length - g.1) ((0, a22, c23)) (by first | exact True.intro | omega | (dsimp only; omega) | (simp; done) | (simp; omega)) (by repeat (first | exact trivial | refine ⟨rfl, ?_⟩)) (by simp only [catTo_zero]) (by rfl) (fun g2 j2 hg2 => ?_)
          obtain ⟨g2, ga2, gc2⟩ := g2
          dsimp only
          have hg2 : g2 ≤ x.edges.length := hg2
          have hu2 : g2 < x.edges.length → _ := fun h => k6 _ (nth_mem h Arrow.zero)
          have hl2 := catTo_len x y g2 hg2 (by omega) (by omega) (by omega)
          have hl3 := shiftL_len y.starts x.states
          have hl4 := shiftL_len y.ends x.states
          refine TC.seq ?_
          refine TC.region ?_
          refine TL.v rfl (OpVal.lss rfl rfl rfl) rfl rfl ?_
          refine TL.nil ?_
          refine S.n ?_
          refine TC.seq ?_
          refine TC.condD rfl (fun h29 => ?_) (fun h29 => ?_)
          · try simp only [decide_eq_true_eq, decide_eq_false_iff_not, Bool.not_eq_true', Bool.not_eq_false', Bool.not_eq_eq_eq_not, Bool.not_true, Bool.not_false, Int.not_lt, Int.not_le, Decidable.not_not] at h29
            refine TC.skip ?_
            refine S.n ?_
            refine TC.seq ?_
            refine TC.block ?_
            refine TC.seq ?_
            refine TC.region ?_
            refine TL.v rfl (OpVal.indexN rfl Try.underlying23 sz80 rfl rfl (by first | assumption | exact (RS.rv (by assumption)).sl) (by omega)) rfl rfl ?_
            refine TL.v rfl (OpVal.loadSA Arrow.zero rfl ag80 sz80 rfl (by assumption) (by omega) (by omega)) rfl rfl ?_
            refine TL.op rfl (OpOk.alloc rfl ze80 rfl rfl (fun b30 => ?_))
            refine TL.op rfl (OpOk.storeAll rfl sz80 rfl rfl rfl rfl rfl rfl ?_)
            refine TL.nil ?_
            refine S.n ?_
            refine TC.seq ?_
            refine TC.seq ?_
            refine TC.region ?_
            refine TL.v rfl (OpVal.moveSl (.inl rfl) rfl) rfl rfl ?_
            refine TL.v rfl (OpVal.fieldLoc rfl fo80_1 rfl) rfl rfl ?_
            refine TL.v rfl (OpVal.loadLoc rfl ag3 rfl (i := 0) rfl rfl) rfl rfl ?_
            refine TL.isSl (i := 4) rfl (fun hs32 _ _ => ?_)
            refine TL.v rfl (OpVal.index rfl Try.underlying47 sz4 rfl rfl (by first | assumption | exact (RS.rv (by assumption)).sl) (by omega) (by omega)) rfl rfl ?_
            refine TL.v rfl (OpVal.loadO1 false rfl ag4 rfl (q := 4) rfl encB_len (by omega) rfl) rfl rfl ?_
            refine TL.v rfl (OpVal.not rfl rfl) rfl rfl ?_
            refine TL.nil ?_
            refine S.n ?_
            refine TC.cond rfl (fun h33 => ?_) (fun h33 => ?_)
            · try simp only [decide_eq_true_eq, decide_eq_false_iff_not, Bool.not_eq_true', Bool.not_eq_false', Bool.not_eq_eq_eq_not, Bool.not_true, Bool.not_false, Int.not_lt, Int.not_le, Decidable.not_not] at h33
              refine TC.exit ?_
              refine S.x ?_
              refine TC.exitHere ?_
              refine S.n ?_
              refine TC.region ?_
              refine TL.v rfl (OpVal.succ rfl rfl rfl (by omega)) rfl rfl ?_
              refine TL.v rfl (OpVal.moveI (.inl rfl) rfl) rfl rfl ?_
              refine TL.dropN 1 rfl ?_
              refine TL.nil ?_
              refine S.n ?_
              -- leaf 6 next [h7: t22=False; h8: False; h12: False; h17: False; h29: True; h33: True] H=['q28', 'q25', 'q24', 'q11', 'q6', 'q4', 'q2']
              refine ⟨by repeat (first | exact Agr.mask | refine Agr.upd rfl ?_ | refine Agr.maskIn rfl ?_), (g2 + 1, ga2, gc2), ?_, ?_, ?_, ?_, ?_⟩
              · show x.edges.length - (g2 + 1) < x.edges.length - g2; omega
              · show g2 + 1 ≤ x.edges.length; omega
              · repeat (first | exact trivial | refine ⟨rfl, ?_⟩)
              · show _ = [_, Res.cells _ #[.slice _ (catTo x y (g2 + 1)).length _] _, Res.rowS _ _ _ (.slice _ (catTo x y (g2 + 1)).length _) (catTo x y (g2 + 1)), _, _, _, _]
                rw [catTo_f (by omega) k6 h33]; rfl
              · rfl
            · try simp only [decide_eq_true_eq, decide_eq_false_iff_not, Bool.not_eq_true', Bool.not_eq_false', Bool.not_eq_eq_eq_not, Bool.not_true, Bool.not_false, Int.not_lt, Int.not_le, Decidable.not_not] at h33
              refine TC.skip ?_
              refine S.n ?_
              refine TC.seq ?_
              refine TC.region ?_
              refine TL.v rfl (OpVal.moveSl (.inl rfl) rfl) rfl rfl ?_
              refine TL.v rfl (OpVal.lenC rfl Try.underlying22 rfl) rfl rfl ?_
              refine TL.v rfl (OpVal.moveI (.inl rfl) rfl) rfl rfl ?_
              refine TL.nil ?_
              refine S.n ?_
              refine TC.block ?_
              refine TC.loopF (α := Nat × Option Addr × Nat) [17, 95, 96, 97, 98, 99, 100, 101, 102, 103, 104, 105, 106] (fun g => [(95, .int .i64 (g.1 : Nat))]) (fun g => [Res.cells b30 (encE (nth x.edges g2 Arrow.zero)).toArray 80, Res.rowS 3 1 Go.E.encI (.slice a26 (shiftL y.starts x.states).length c27) (shiftL y.starts x.states), Res.cells b21 #[.slice g.2.1 (catTo x y g2 ++ catPut (nth x.edges g2 Arrow.zero) ((shiftL y.starts x.states).take g.1)).length g.2.2] 74, Res.rowS 80 6 encE (.slice g.2.1 (catTo x y g2 ++ catPut (nth x.edges g2 Arrow.zero) ((shiftL y.starts x.states).take g.1)).length g.2.2) (catTo x y g2 ++ catPut (nth x.edges g2 Arrow.zero) ((shiftL y.starts x.states).take g.1)), Res.rowS 4 1 encB (.slice a9 (marksL x.ends x.states.toNat).length c10) (marksL x.ends x.states.toNat), Res.cells b5 (nfaA Nfa.zero NfaP.zero) 25, Res.cells b3 (nfaA y q) 25, Res.cells b1 (nfaA x p) 25]) (fun _ => _) (fun g => g.1 ≤ y.starts.length) (fun g => y.starts.length - g.1) ((0, ga2, gc2)) (by first | exact True.intro | omega | (dsimp only; omega) | (simp; done) | (simp; omega)) (by repeat (first | exact trivial | refine ⟨rfl, ?_⟩)) (by simp only [List.take_zero, catPut, List.map_nil, List.append_nil]) (by rfl) (fun g3 j3 hg3 => ?_)
              obtain ⟨g3, ga3, gc3⟩ := g3
              dsimp only
              have hg3 : g3 ≤ y.starts.length := hg3
              refine TC.seq ?_
              refine TC.region ?_
              refine TL.v rfl (OpVal.lss rfl rfl rfl) rfl rfl ?_
              refine TL.nil ?_
              refine S.n ?_
              refine TC.seq ?_
              refine TC.condD rfl (fun h34 => ?_) (fun h34 => ?_)
              · try simp only [decide_eq_true_eq, decide_eq_false_iff_not, Bool.not_eq_true', Bool.not_eq_false', Bool.not_eq_eq_eq_not, Bool.not_true, Bool.not_false, Int.not_lt, Int.not_le, Decidable.not_not] at h34
                refine TC.skip ?_
                refine S.n ?_
                refine TC.seq ?_
                refine TC.block ?_
                refine TC.seq ?_
                refine TC.region ?_
                refine TL.isSl (i := 1) rfl (fun hs35 _ _ => ?_)
                refine TL.v rfl (OpVal.indexN rfl Try.underlying22 sz3 rfl rfl (by first | assumption | exact (RS.rv (by assumption)).sl) (by omega)) rfl rfl ?_
                refine TL.v rfl (OpVal.loadO1 (0 : Int) rfl ag3 rfl (q := 1) rfl encI_len (by omega) rfl) rfl rfl ?_
                refine TL.v rfl (OpVal.moveI (.inr rfl) rfl) rfl rfl ?_
                refine TL.nil ?_
                refine S.n ?_
                refine TC.region ?_
                refine TL.v rfl (OpVal.moveFn (.inl rfl) rfl) rfl rfl ?_
                refine TL.v rfl (OpVal.fieldLoc rfl fo80_0 rfl) rfl rfl ?_
                refine TL.v rfl (OpVal.loadLoc rfl ag3 rfl (i := 0) rfl rfl) rfl rfl ?_
                refine TL.v rfl (OpVal.moveI (.inl rfl) rfl) rfl rfl ?_
                refine TL.v rfl (OpVal.fieldLoc rfl fo80_2 rfl) rfl rfl ?_
                refine TL.v rfl (OpVal.loadLocA rfl ag28 sz28 rfl (i := 0) rfl rfl rfl) rfl rfl ?_
                refine TL.front 3 rfl rfl ?_
                refine TL.front 3 rfl rfl ?_
                refine TL.op rfl (OpOk.callE (edge_con _ _ _ _ _ _ _ (nth x.edges g2 Arrow.zero).set (by rw [List.length_append, catPut_len, List.length_take]; omega)) rfl rfl pf52 rfl rfl rfl rfl (fun a36 c37 => ?_))
                refine TL.nil ?_
                refine B.n ?_
                refine S.n ?_
                refine TC.region ?_
                refine TL.v rfl (OpVal.succ rfl rfl rfl (by omega)) rfl rfl ?_
                refine TL.v rfl (OpVal.moveI (.inl rfl) rfl) rfl rfl ?_
                refine TL.front 7 rfl rfl ?_
                refine TL.front 7 rfl rfl ?_
                refine TL.front 7 rfl rfl ?_
                refine TL.front 7 rfl rfl ?_
                refine TL.front 5 rfl rfl ?_
                refine TL.front 5 rfl rfl ?_
                refine TL.front 7 rfl rfl ?_
                refine TL.front 7 rfl rfl ?_
                refine TL.nil ?_
                refine S.n ?_
                -- leaf 7 next [h7: t22=False; h8: False; h12: False; h17: False; h29: True; h33: False; h34: True] H=['q31', 'q28', 'q25', 'q24', 'q11', 'q6', 'q4', 'q2']
                refine ⟨by repeat (first | exact Agr.mask | refine Agr.upd rfl ?_ | refine Agr.maskIn rfl ?_), (g3 + 1, a36, c37), ?_, ?_, ?_, ?_, ?_⟩
                · show y.starts.length - (g3 + 1) < y.starts.length - g3; omega
                · show g3 + 1 ≤ y.starts.length; omega
                · repeat (first | exact trivial | refine ⟨rfl, ?_⟩)
                · show _ = [_, _, Res.cells _ #[.slice _ (catTo x y g2 ++ catPut (nth x.edges g2 Arrow.zero) ((shiftL y.starts x.states).take (g3 + 1))).length _] _, Res.rowS _ _ _ (.slice _ (catTo x y g2 ++ catPut (nth x.edges g2 Arrow.zero) ((shiftL y.starts x.states).take (g3 + 1))).length _) (catTo x y g2 ++ catPut (nth x.edges g2 Arrow.zero) ((shiftL y.starts x.states).take (g3 + 1))), _, _, _, _]
                  rw [catPut_snoc (by omega), ← List.append_assoc]; rfl
                · rfl
              · try simp only [decide_eq_true_eq, decide_eq_false_iff_not, Bool.not_eq_true', Bool.not_eq_false', Bool.not_eq_eq_eq_not, Bool.not_true, Bool.not_false, Int.not_lt, Int.not_le, Decidable.not_not] at h34
                refine TC.exit ?_
                refine S.x ?_
                refine S.x ?_
                refine TC.exitHere ?_
                refine B.n ?_
                refine S.n ?_
                refine TC.region ?_
                refine TL.v rfl (OpVal.succ rfl rfl rfl (by omega)) rfl rfl ?_
                refine TL.v rfl (OpVal.moveI (.inl rfl) rfl) rfl rfl ?_
                refine TL.dropN 1 rfl ?_
                refine TL.nil ?_
                refine S.n ?_
                -- leaf 8 next [h7: t22=False; h8: False; h12: False; h17: False; h29: True; h33: False; h34: False] H=['q28', 'q25', 'q24', 'q11', 'q6', 'q4', 'q2']
                have ht : (shiftL y.starts x.states).take g3 = shiftL y.starts x.states := List.take_of_length_le (by omega)
                refine ⟨by repeat (first | exact Agr.mask | refine Agr.upd rfl ?_ | refine Agr.maskIn rfl ?_), (g2 + 1, ga3, gc3), ?_, ?_, ?_, ?_, ?_⟩
                · show x.edges.length - (g2 + 1) < x.edges.length - g2; omega
                · show g2 + 1 ≤ x.edges.length; omega
                · repeat (first | exact trivial | refine ⟨rfl, ?_⟩)
                · show _ = [_, Res.cells _ #[.slice _ (catTo x y (g2 + 1)).length _] _, Res.rowS _ _ _ (.slice _ (catTo x y (g2 + 1)).length _) (catTo x y (g2 + 1)), _, _, _, _]
                  rw [catTo_t (by omega) k6 h33, ht]; rfl
                · rfl
          · try simp only [decide_eq_true_eq, decide_eq_false_iff_not, Bool.not_eq_true', Bool.not_eq_false', Bool.not_eq_eq_eq_not, Bool.not_true, Bool.not_false, Int.not_lt, Int.not_le, Decidable.not_not] at h29
            refine TC.exit ?_
            refine S.x ?_
            refine S.x ?_
            refine TC.exitHere ?_
            refine S.n ?_
            refine TC.seq ?_
            refine TC.draw [10] (by kernel_rfl) ?_
            refine TA.takeP 0 rfl (by kernel_rfl) (by kernel_rfl) (by kernel_rfl) rfl (OpVal.moveI (.inl rfl) rfl) rfl rfl ?_
            refine TA.takeP 1 rfl (by kernel_rfl) (by kernel_rfl) (by kernel_rfl) rfl (OpVal.fieldLoc rfl fo25_1 rfl) rfl rfl ?_
            refine TA.take 2 rfl (by kernel_rfl) (by kernel_rfl) (by kernel_rfl) (by kernel_rfl) rfl (OpVal.loadLoc rfl ag22 rfl (i := 6) rfl rfl) rfl rfl ?_
            refine TA.takeP 4 rfl (by kernel_rfl) (by kernel_rfl) (by kernel_rfl) rfl (OpVal.moveLoc (.inl rfl) rfl) rfl rfl ?_
            refine TA.takeP 5 rfl (by kernel_rfl) (by kernel_rfl) (by kernel_rfl) rfl (OpVal.nilCheckLoc rfl rfl) rfl rfl ?_
            refine TA.takeP 6 rfl (by kernel_rfl) (by kernel_rfl) (by kernel_rfl) rfl (OpVal.fieldLoc rfl fo74_0 rfl) rfl rfl ?_
            refine TA.take 7 rfl (by kernel_rfl) (by kernel_rfl) (by kernel_rfl) (by kernel_rfl) rfl (OpVal.loadLoc rfl ag23 rfl (i := 1) rfl rfl) rfl rfl ?_
            refine TA.act2 3 9 (by kernel_rfl) rfl rfl rfl rfl (OpOk.callR (clone_con _ _ _ _ (by first | exact hx.s | exact hx.e) (by omega)) rfl rfl pf64 rfl rfl rfl (fun a38 c39 => ⟨(fun w h => sees_of (by first | exact Store.le.refl _ | assumption) (fun r hr => (List.mem_cons_of_mem _ hr)) w h), ?_⟩)) (OpOk.alloc rfl ze25 rfl rfl (fun b41 => ⟨(fun w h => sees_of (by first | exact Store.le.refl _ | assumption) (fun r hr => (List.mem_cons_of_mem _ hr)) w h), ?_⟩))
            · skip
              refine TA.takeP 8 rfl (by kernel_rfl) (by kernel_rfl) (by kernel_rfl) rfl (OpVal.buildL rfl pl25 ze25 rfl) rfl rfl ?_
              refine TA.act 9 (by kernel_rfl) rfl rfl (OpOk.alloc rfl ze25 rfl rfl (fun b43 => ⟨(fun w h => sees_of (by first | exact Store.le.refl _ | assumption) (fun r hr => (List.mem_cons_of_mem _ (List.mem_cons_of_mem _ hr))) w h), ?_⟩))
              refine TA.last 10 (by kernel_rfl) rfl rfl rfl (OpOk.storeAll rfl sz25 rfl rfl rfl rfl rfl rfl ?_)
              refine TZ.done (by kernel_rfl) ?_
              refine S.n ?_
              refine TC.seq ?_
              refine TC.seq ?_
              refine TC.region ?_
              refine TL.v rfl (OpVal.loadAll rfl ag25 sz25 rfl (i := 8) rfl rfl) rfl rfl ?_
              refine TL.op rfl (OpOk.callP (nempty_con _ _ _ (by first | exact hx | exact hy) (by first | exact hcx | exact hcy)) rfl rfl pf65 rfl rfl rfl ?_)
              refine TL.nilS 3 1 Go.E.encI ?_
              refine TL.nil ?_
              refine S.n ?_
              refine TC.cond rfl (fun h46 => ?_) (fun h46 => ?_)
              · try simp only [decide_eq_true_eq, decide_eq_false_iff_not, Bool.not_eq_true', Bool.not_eq_false', Bool.not_eq_eq_eq_not, Bool.not_true, Bool.not_false, Int.not_lt, Int.not_le, Decidable.not_not] at h46
                refine TC.region ?_
                refine TL.v rfl (OpVal.fieldLoc rfl fo25_1 rfl) rfl rfl ?_
                refine TL.v rfl (OpVal.loadLoc rfl ag22 rfl (i := 1) rfl rfl) rfl rfl ?_
                refine TL.v rfl (OpVal.moveSl (.inl rfl) rfl) rfl rfl ?_
                refine TL.front 2 rfl rfl ?_
                refine TL.op rfl (OpOk.appendS rfl rfl Try.underlying22 sz3 by3 ze3 rfl rfl (by decide) rfl rfl rfl (.inr ⟨_, 2, rfl⟩) (by (try simp only [List.length_cons, List.length_nil, List.length_append]); omega) (by decide) (fun a47 c48 => ?_))
                refine TL.v rfl (OpVal.fieldLoc rfl fo25_1 rfl) rfl rfl ?_
                refine TL.front 2 rfl rfl ?_
                refine TL.op rfl (OpOk.storeSl rfl sz22 rfl rfl rfl rfl rfl ?_)
                refine TL.nil ?_
                refine S.n ?_
                refine TC.seq ?_
                refine TC.seq ?_
                refine TC.region ?_
                refine TL.v rfl (OpVal.loadAll rfl ag25 sz25 rfl (i := 8) rfl rfl) rfl rfl ?_
                refine TL.op rfl (OpOk.callP (nempty_con _ _ _ (by first | exact hx | exact hy) (by first | exact hcx | exact hcy)) rfl rfl pf65 rfl rfl rfl ?_)
                refine TL.nil ?_
                refine S.n ?_
                refine TC.cond rfl (fun h49 => ?_) (fun h49 => ?_)
                · try simp only [decide_eq_true_eq, decide_eq_false_iff_not, Bool.not_eq_true', Bool.not_eq_false', Bool.not_eq_eq_eq_not, Bool.not_true, Bool.not_false, Int.not_lt, Int.not_le, Decidable.not_not] at h49
                  refine TC.region ?_
                  refine TL.v rfl (OpVal.fieldLoc rfl fo25_2 rfl) rfl rfl ?_
                  refine TL.v rfl (OpVal.loadLoc rfl ag22 rfl (i := 9) rfl rfl) rfl rfl ?_
                  refine TL.op rfl (OpOk.callR (clone_con _ _ _ _ (by first | exact hx.s | exact hx.e) (by omega)) rfl rfl pf64 rfl rfl rfl (fun a50 c51 => ?_))
                  refine TL.v rfl (OpVal.fieldLoc rfl fo25_2 rfl) rfl rfl ?_
                  refine TL.front 1 rfl rfl ?_
                  refine TL.op rfl (OpOk.storeSl rfl sz22 rfl rfl rfl rfl rfl ?_)
                  refine TL.nil ?_
                  refine S.n ?_
                  refine TC.seq ?_
                  refine TC.draw [7, 8, 9] (by kernel_rfl) ?_
                  refine TA.takeP 0 rfl (by kernel_rfl) (by kernel_rfl) (by kernel_rfl) rfl (OpVal.fieldLoc rfl fo25_2 rfl) rfl rfl ?_
                  refine TA.take 1 rfl (by kernel_rfl) (by kernel_rfl) (by kernel_rfl) (by kernel_rfl) rfl (OpVal.loadLoc rfl ag22 rfl (i := 0) rfl rfl) rfl rfl ?_
                  refine TA.takeP 2 rfl (by kernel_rfl) (by kernel_rfl) (by kernel_rfl) rfl (OpVal.fieldLoc rfl fo25_2 rfl) rfl rfl ?_
                  refine TA.take 3 rfl (by kernel_rfl) (by kernel_rfl) (by kernel_rfl) (by kernel_rfl) rfl (OpVal.loadLoc rfl ag22 rfl (i := 9) rfl rfl) rfl rfl ?_
                  refine TA.takeP 4 rfl (by kernel_rfl) (by kernel_rfl) (by kernel_rfl) rfl (OpVal.fieldLoc rfl fo25_0 rfl) rfl rfl ?_
                  refine TA.take 5 rfl (by kernel_rfl) (by kernel_rfl) (by kernel_rfl) (by kernel_rfl) rfl (OpVal.loadLoc rfl ag3 rfl (i := 10) rfl rfl) rfl rfl ?_
                  refine TA.act 6 (by kernel_rfl) rfl rfl (OpOk.callR (shift_con _ _ _ _ _ (by first | exact hy.s | exact hy.e) ⟨k1, by omega⟩ (fun u hu => by first | (have := l4 u hu; omega) | (have := l5 u hu; omega)) (by omega)) rfl rfl pf63 rfl rfl rfl (fun a53 c54 => ⟨(fun w h => sees_of (by first | exact Store.le.refl _ | assumption) (fun r hr => (List.mem_cons_of_mem _ hr)) w h), ?_⟩))
                  refine TA.front 2 rfl rfl ?_
                  refine TA.last 7 (by kernel_rfl) rfl rfl rfl (OpOk.appendS rfl rfl Try.underlying22 sz3 by3 ze3 rfl rfl (by decide) rfl rfl rfl (.inr ⟨_, 0, rfl⟩) (by (try simp only [List.length_cons, List.length_nil, List.length_append]); omega) (by decide) (fun a56 c57 => ?_))
                  refine TZ.v 8 (by kernel_rfl) rfl rfl rfl (OpVal.fieldLoc rfl fo25_2 rfl) rfl rfl ?_
                  refine TZ.front 2 rfl rfl ?_
                  refine TZ.last 9 (by kernel_rfl) rfl rfl rfl (OpOk.storeSl rfl sz22 rfl rfl rfl rfl rfl ?_)
                  refine TZ.done (by kernel_rfl) ?_
                  refine S.n ?_
                  refine TC.seq ?_
                  refine TC.region ?_
                  refine TL.v rfl (OpVal.loadAll rfl ag25 sz25 rfl (i := 0) rfl rfl) rfl rfl ?_
                  refine TL.front 9 rfl rfl ?_
                  refine TL.op rfl (OpOk.storeAll rfl sz25 rfl rfl rfl rfl rfl rfl ?_)
                  refine TL.v rfl (OpVal.moveI (.inr rfl) rfl) rfl rfl ?_
                  refine TL.nil ?_
                  refine S.n ?_
                  refine TC.front 2 rfl rfl ?_
                  refine TC.sealS encI_len (fun τ60 hle59 hr58 => ?_)
                  refine TC.front 2 rfl rfl ?_
                  refine TC.sealS encI_len (fun τ63 hle62 hr61 => ?_)
                  replace hr58 := hr58.mono hle62
                  refine TC.front 2 rfl rfl ?_
                  refine TC.sealS encI_len (fun τ66 hle65 hr64 => ?_)
                  replace hr58 := hr58.mono hle65
                  replace hr61 := hr61.mono hle65
                  refine TC.front 2 rfl rfl ?_
                  refine TC.sealS encI_len (fun τ69 hle68 hr67 => ?_)
                  replace hr58 := hr58.mono hle68
                  replace hr61 := hr61.mono hle68
                  replace hr64 := hr64.mono hle68
                  refine TC.front 2 rfl rfl ?_
                  refine TC.sealS encI_len (fun τ72 hle71 hr70 => ?_)
                  replace hr58 := hr58.mono hle71
                  replace hr61 := hr61.mono hle71
                  replace hr64 := hr64.mono hle71
                  replace hr67 := hr67.mono hle71
                  refine TC.front 3 rfl rfl ?_
                  refine TC.sealS encE_len (fun τ75 hle74 hr73 => ?_)
                  replace hr58 := hr58.mono hle74
                  replace hr61 := hr61.mono hle74
                  replace hr64 := hr64.mono hle74
                  replace hr67 := hr67.mono hle74
                  replace hr70 := hr70.mono hle74
                  refine TC.front 3 rfl rfl ?_
                  refine TC.sealS encB_len (fun τ78 hle77 hr76 => ?_)
                  replace hr58 := hr58.mono hle77
                  replace hr61 := hr61.mono hle77
                  replace hr64 := hr64.mono hle77
                  replace hr67 := hr67.mono hle77
                  replace hr70 := hr70.mono hle77
                  replace hr73 := hr73.mono hle77
                  refine TC.ret ?_
                  -- leaf 9 ret [h7: t22=False; h8: False; h12: False; h17: False; h29: False; h46: True; h49: True] H=['q6', 'q44', 'q25', 'q4', 'q2']
                  obtain rfl : g2 = x.edges.length := by omega
                  have hf : catF x y = true := h17
                  have hN : catR x y = ⟨x.states + y.states, x.starts ++ shiftL y.starts x.states, x.ends ++ shiftL y.ends x.states, catTo x y x.edges.length⟩ := by
                    rw [catR, if_pos (And.intro hcx hcy), if_pos hf, catN, catS, catD, if_pos h46, if_pos h49]
                  have hX : catX x y = 0 := by rw [catX, if_pos (And.intro hcx hcy), if_pos hf]
                  rw [hN, hX]
                  exact retNfa (p := ⟨a47, c48, a56, c57, ga2, gc2⟩) 0 rfl ag25 sz25 rfl rfl rfl rfl ⟨hr64, hr58, hr73, catTo_ok hx.ok hy.ok _⟩
                · try simp only [decide_eq_true_eq, decide_eq_false_iff_not, Bool.not_eq_true', Bool.not_eq_false', Bool.not_eq_eq_eq_not, Bool.not_true, Bool.not_false, Int.not_lt, Int.not_le, Decidable.not_not] at h49
                  refine TC.skip ?_
                  refine S.n ?_
                  refine TC.seq ?_
                  refine TC.draw [7, 8, 9] (by kernel_rfl) ?_
                  refine TA.takeP 0 rfl (by kernel_rfl) (by kernel_rfl) (by kernel_rfl) rfl (OpVal.fieldLoc rfl fo25_2 rfl) rfl rfl ?_
                  refine TA.take 1 rfl (by kernel_rfl) (by kernel_rfl) (by kernel_rfl) (by kernel_rfl) rfl (OpVal.loadLoc rfl ag22 rfl (i := 0) rfl rfl) rfl rfl ?_
                  refine TA.takeP 2 rfl (by kernel_rfl) (by kernel_rfl) (by kernel_rfl) rfl (OpVal.fieldLoc rfl fo25_2 rfl) rfl rfl ?_
                  refine TA.take 3 rfl (by kernel_rfl) (by kernel_rfl) (by kernel_rfl) (by kernel_rfl) rfl (OpVal.loadLoc rfl ag22 rfl (i := 8) rfl rfl) rfl rfl ?_
                  refine TA.takeP 4 rfl (by kernel_rfl) (by kernel_rfl) (by kernel_rfl) rfl (OpVal.fieldLoc rfl fo25_0 rfl) rfl rfl ?_
                  refine TA.take 5 rfl (by kernel_rfl) (by kernel_rfl) (by kernel_rfl) (by kernel_rfl) rfl (OpVal.loadLoc rfl ag3 rfl (i := 9) rfl rfl) rfl rfl ?_
                  refine TA.act 6 (by kernel_rfl) rfl rfl (OpOk.callR (shift_con _ _ _ _ _ (by first | exact hy.s | exact hy.e) ⟨k1, by omega⟩ (fun u hu => by first | (have := l4 u hu; omega) | (have := l5 u hu; omega)) (by omega)) rfl rfl pf63 rfl rfl rfl (fun a79 c80 => ⟨(fun w h => sees_of (by first | exact Store.le.refl _ | assumption) (fun r hr => (List.mem_cons_of_mem _ hr)) w h), ?_⟩))
                  refine TA.front 3 rfl rfl ?_
                  refine TA.last 7 (by kernel_rfl) rfl rfl rfl (OpOk.appendS rfl rfl Try.underlying22 sz3 by3 ze3 rfl rfl (by decide) rfl rfl rfl (.inr ⟨_, 0, rfl⟩) (by (try simp only [List.length_cons, List.length_nil, List.length_append]); omega) (by decide) (fun a82 c83 => ?_))
                  refine TZ.v 8 (by kernel_rfl) rfl rfl rfl (OpVal.fieldLoc rfl fo25_2 rfl) rfl rfl ?_
                  refine TZ.front 2 rfl rfl ?_
                  refine TZ.last 9 (by kernel_rfl) rfl rfl rfl (OpOk.storeSl rfl sz22 rfl rfl rfl rfl rfl ?_)
                  refine TZ.done (by kernel_rfl) ?_
                  refine S.n ?_
                  refine TC.seq ?_
                  refine TC.region ?_
                  refine TL.v rfl (OpVal.loadAll rfl ag25 sz25 rfl (i := 0) rfl rfl) rfl rfl ?_
                  refine TL.front 8 rfl rfl ?_
                  refine TL.op rfl (OpOk.storeAll rfl sz25 rfl rfl rfl rfl rfl rfl ?_)
                  refine TL.v rfl (OpVal.moveI (.inr rfl) rfl) rfl rfl ?_
                  refine TL.nil ?_
                  refine S.n ?_
                  refine TC.front 2 rfl rfl ?_
                  refine TC.sealS encI_len (fun τ86 hle85 hr84 => ?_)
                  refine TC.front 2 rfl rfl ?_
                  refine TC.sealS encI_len (fun τ89 hle88 hr87 => ?_)
                  replace hr84 := hr84.mono hle88
                  refine TC.front 2 rfl rfl ?_
                  refine TC.sealS encI_len (fun τ92 hle91 hr90 => ?_)
                  replace hr84 := hr84.mono hle91
                  replace hr87 := hr87.mono hle91
                  refine TC.front 2 rfl rfl ?_
                  refine TC.sealS encI_len (fun τ95 hle94 hr93 => ?_)
                  replace hr84 := hr84.mono hle94
                  replace hr87 := hr87.mono hle94
                  replace hr90 := hr90.mono hle94
                  refine TC.front 3 rfl rfl ?_
                  refine TC.sealS encE_len (fun τ98 hle97 hr96 => ?_)
                  replace hr84 := hr84.mono hle97
                  replace hr87 := hr87.mono hle97
                  replace hr90 := hr90.mono hle97
                  replace hr93 := hr93.mono hle97
                  refine TC.front 3 rfl rfl ?_
                  refine TC.sealS encB_len (fun τ101 hle100 hr99 => ?_)
                  replace hr84 := hr84.mono hle100
                  replace hr87 := hr87.mono hle100
                  replace hr90 := hr90.mono hle100
                  replace hr93 := hr93.mono hle100
                  replace hr96 := hr96.mono hle100
                  refine TC.ret ?_
                  -- leaf 10 ret [h7: t22=False; h8: False; h12: False; h17: False; h29: False; h46: True; h49: False] H=['q6', 'q44', 'q25', 'q4', 'q2']
                  obtain rfl : g2 = x.edges.length := by omega
                  have hf : catF x y = true := h17
                  have hN : catR x y = ⟨x.states + y.states, x.starts ++ shiftL y.starts x.states, [] ++ shiftL y.ends x.states, catTo x y x.edges.length⟩ := by
                    rw [catR, if_pos (And.intro hcx hcy), if_pos hf, catN, catS, catD, if_pos h46, if_neg (by rw [h49]; exact Bool.false_ne_true)]
                  have hX : catX x y = 0 := by rw [catX, if_pos (And.intro hcx hcy), if_pos hf]
                  rw [hN, hX]
                  exact retNfa (p := ⟨a47, c48, a82, c83, ga2, gc2⟩) 0 rfl ag25 sz25 rfl rfl rfl rfl ⟨hr90, hr84, hr96, catTo_ok hx.ok hy.ok _⟩
              · try simp only [decide_eq_true_eq, decide_eq_false_iff_not, Bool.not_eq_true', Bool.not_eq_false', Bool.not_eq_eq_eq_not, Bool.not_true, Bool.not_false, Int.not_lt, Int.not_le, Decidable.not_not] at h46
                refine TC.skip ?_
                refine S.n ?_
                refine TC.seq ?_
                refine TC.seq ?_
                refine TC.region ?_
                refine TL.v rfl (OpVal.loadAll rfl ag25 sz25 rfl (i := 8) rfl rfl) rfl rfl ?_
                refine TL.op rfl (OpOk.callP (nempty_con _ _ _ (by first | exact hx | exact hy) (by first | exact hcx | exact hcy)) rfl rfl pf65 rfl rfl rfl ?_)
                refine TL.nil ?_
                refine S.n ?_
                refine TC.cond rfl (fun h102 => ?_) (fun h102 => ?_)
                · try simp only [decide_eq_true_eq, decide_eq_false_iff_not, Bool.not_eq_true', Bool.not_eq_false', Bool.not_eq_eq_eq_not, Bool.not_true, Bool.not_false, Int.not_lt, Int.not_le, Decidable.not_not] at h102
                  refine TC.region ?_
                  refine TL.v rfl (OpVal.fieldLoc rfl fo25_2 rfl) rfl rfl ?_
                  refine TL.v rfl (OpVal.loadLoc rfl ag22 rfl (i := 9) rfl rfl) rfl rfl ?_
                  refine TL.op rfl (OpOk.callR (clone_con _ _ _ _ (by first | exact hx.s | exact hx.e) (by omega)) rfl rfl pf64 rfl rfl rfl (fun a103 c104 => ?_))
                  refine TL.v rfl (OpVal.fieldLoc rfl fo25_2 rfl) rfl rfl ?_
                  refine TL.front 2 rfl rfl ?_
                  refine TL.op rfl (OpOk.storeSl rfl sz22 rfl rfl rfl rfl rfl ?_)
                  refine TL.nil ?_
                  refine S.n ?_
                  refine TC.seq ?_
                  refine TC.draw [7, 8, 9] (by kernel_rfl) ?_
                  refine TA.takeP 0 rfl (by kernel_rfl) (by kernel_rfl) (by kernel_rfl) rfl (OpVal.fieldLoc rfl fo25_2 rfl) rfl rfl ?_
                  refine TA.take 1 rfl (by kernel_rfl) (by kernel_rfl) (by kernel_rfl) (by kernel_rfl) rfl (OpVal.loadLoc rfl ag22 rfl (i := 0) rfl rfl) rfl rfl ?_
                  refine TA.takeP 2 rfl (by kernel_rfl) (by kernel_rfl) (by kernel_rfl) rfl (OpVal.fieldLoc rfl fo25_2 rfl) rfl rfl ?_
                  refine TA.take 3 rfl (by kernel_rfl) (by kernel_rfl) (by kernel_rfl) (by kernel_rfl) rfl (OpVal.loadLoc rfl ag22 rfl (i := 9) rfl rfl) rfl rfl ?_
                  refine TA.takeP 4 rfl (by kernel_rfl) (by kernel_rfl) (by kernel_rfl) rfl (OpVal.fieldLoc rfl fo25_0 rfl) rfl rfl ?_
                  refine TA.take 5 rfl (by kernel_rfl) (by kernel_rfl) (by kernel_rfl) (by kernel_rfl) rfl (OpVal.loadLoc rfl ag3 rfl (i := 10) rfl rfl) rfl rfl ?_
                  refine TA.act 6 (by kernel_rfl) rfl rfl (OpOk.callR (shift_con _ _ _ _ _ (by first | exact hy.s | exact hy.e) ⟨k1, by omega⟩ (fun u hu => by first | (have := l4 u hu; omega) | (have := l5 u hu; omega)) (by omega)) rfl rfl pf63 rfl rfl rfl (fun a106 c107 => ⟨(fun w h => sees_of (by first | exact Store.le.refl _ | assumption) (fun r hr => (List.mem_cons_of_mem _ hr)) w h), ?_⟩))
                  refine TA.front 2 rfl rfl ?_
                  refine TA.last 7 (by kernel_rfl) rfl rfl rfl (OpOk.appendS rfl rfl Try.underlying22 sz3 by3 ze3 rfl rfl (by decide) rfl rfl rfl (.inr ⟨_, 0, rfl⟩) (by (try simp only [List.length_cons, List.length_nil, List.length_append]); omega) (by decide) (fun a109 c110 => ?_))
                  refine TZ.v 8 (by kernel_rfl) rfl rfl rfl (OpVal.fieldLoc rfl fo25_2 rfl) rfl rfl ?_
                  refine TZ.front 2 rfl rfl ?_
                  refine TZ.last 9 (by kernel_rfl) rfl rfl rfl (OpOk.storeSl rfl sz22 rfl rfl rfl rfl rfl ?_)
                  refine TZ.done (by kernel_rfl) ?_
                  refine S.n ?_
                  refine TC.seq ?_
                  refine TC.region ?_
                  refine TL.v rfl (OpVal.loadAll rfl ag25 sz25 rfl (i := 0) rfl rfl) rfl rfl ?_
                  refine TL.front 9 rfl rfl ?_
                  refine TL.op rfl (OpOk.storeAll rfl sz25 rfl rfl rfl rfl rfl rfl ?_)
                  refine TL.v rfl (OpVal.moveI (.inr rfl) rfl) rfl rfl ?_
                  refine TL.nil ?_
                  refine S.n ?_
                  refine TC.front 2 rfl rfl ?_
                  refine TC.sealS encI_len (fun τ113 hle112 hr111 => ?_)
                  refine TC.front 2 rfl rfl ?_
                  refine TC.sealS encI_len (fun τ116 hle115 hr114 => ?_)
                  replace hr111 := hr111.mono hle115
                  refine TC.front 2 rfl rfl ?_
                  refine TC.sealS encI_len (fun τ119 hle118 hr117 => ?_)
                  replace hr111 := hr111.mono hle118
                  replace hr114 := hr114.mono hle118
                  refine TC.front 2 rfl rfl ?_
                  refine TC.sealS encI_len (fun τ122 hle121 hr120 => ?_)
                  replace hr111 := hr111.mono hle121
                  replace hr114 := hr114.mono hle121
                  replace hr117 := hr117.mono hle121
                  refine TC.front 2 rfl rfl ?_
                  refine TC.sealS encI_len (fun τ125 hle124 hr123 => ?_)
                  replace hr111 := hr111.mono hle124
                  replace hr114 := hr114.mono hle124
                  replace hr117 := hr117.mono hle124
                  replace hr120 := hr120.mono hle124
                  refine TC.front 3 rfl rfl ?_
                  refine TC.sealS encE_len (fun τ128 hle127 hr126 => ?_)
                  replace hr111 := hr111.mono hle127
                  replace hr114 := hr114.mono hle127
                  replace hr117 := hr117.mono hle127
                  replace hr120 := hr120.mono hle127
                  replace hr123 := hr123.mono hle127
                  refine TC.front 3 rfl rfl ?_
                  refine TC.sealS encB_len (fun τ131 hle130 hr129 => ?_)
                  replace hr111 := hr111.mono hle130
                  replace hr114 := hr114.mono hle130
                  replace hr117 := hr117.mono hle130
                  replace hr120 := hr120.mono hle130
                  replace hr123 := hr123.mono hle130
                  replace hr126 := hr126.mono hle130
                  refine TC.ret ?_
                  -- leaf 11 ret [h7: t22=False; h8: False; h12: False; h17: False; h29: False; h46: False; h102: True] H=['q6', 'q44', 'q25', 'q4', 'q2']
                  obtain rfl : g2 = x.edges.length := by omega
                  have hf : catF x y = true := h17
                  have hN : catR x y = ⟨x.states + y.states, x.starts, x.ends ++ shiftL y.ends x.states, catTo x y x.edges.length⟩ := by
                    rw [catR, if_pos (And.intro hcx hcy), if_pos hf, catN, catS, catD, if_neg (by rw [h46]; exact Bool.false_ne_true), if_pos h102]
                  have hX : catX x y = 0 := by rw [catX, if_pos (And.intro hcx hcy), if_pos hf]
                  rw [hN, hX]
                  exact retNfa (p := ⟨a38, c39, a109, c110, ga2, gc2⟩) 0 rfl ag25 sz25 rfl rfl rfl rfl ⟨hr120, hr111, hr126, catTo_ok hx.ok hy.ok _⟩
                · try simp only [decide_eq_true_eq, decide_eq_false_iff_not, Bool.not_eq_true', Bool.not_eq_false', Bool.not_eq_eq_eq_not, Bool.not_true, Bool.not_false, Int.not_lt, Int.not_le, Decidable.not_not] at h102
                  refine TC.skip ?_
                  refine S.n ?_
                  refine TC.seq ?_
                  refine TC.draw [7, 8, 9] (by kernel_rfl) ?_
                  refine TA.takeP 0 rfl (by kernel_rfl) (by kernel_rfl) (by kernel_rfl) rfl (OpVal.fieldLoc rfl fo25_2 rfl) rfl rfl ?_
                  refine TA.take 1 rfl (by kernel_rfl) (by kernel_rfl) (by kernel_rfl) (by kernel_rfl) rfl (OpVal.loadLoc rfl ag22 rfl (i := 1) rfl rfl) rfl rfl ?_
                  refine TA.takeP 2 rfl (by kernel_rfl) (by kernel_rfl) (by kernel_rfl) rfl (OpVal.fieldLoc rfl fo25_2 rfl) rfl rfl ?_
                  refine TA.take 3 rfl (by kernel_rfl) (by kernel_rfl) (by kernel_rfl) (by kernel_rfl) rfl (OpVal.loadLoc rfl ag22 rfl (i := 8) rfl rfl) rfl rfl ?_
                  refine TA.takeP 4 rfl (by kernel_rfl) (by kernel_rfl) (by kernel_rfl) rfl (OpVal.fieldLoc rfl fo25_0 rfl) rfl rfl ?_
                  refine TA.take 5 rfl (by kernel_rfl) (by kernel_rfl) (by kernel_rfl) (by kernel_rfl) rfl (OpVal.loadLoc rfl ag3 rfl (i := 9) rfl rfl) rfl rfl ?_
                  refine TA.act 6 (by kernel_rfl) rfl rfl (OpOk.callR (shift_con _ _ _ _ _ (by first | exact hy.s | exact hy.e) ⟨k1, by omega⟩ (fun u hu => by first | (have := l4 u hu; omega) | (have := l5 u hu; omega)) (by omega)) rfl rfl pf63 rfl rfl rfl (fun a132 c133 => ⟨(fun w h => sees_of (by first | exact Store.le.refl _ | assumption) (fun r hr => (List.mem_cons_of_mem _ hr)) w h), ?_⟩))
                  refine TA.front 1 rfl rfl ?_
                  refine TA.last 7 (by kernel_rfl) rfl rfl rfl (OpOk.appendS rfl rfl Try.underlying22 sz3 by3 ze3 rfl rfl (by decide) rfl rfl rfl (.inr ⟨_, 0, rfl⟩) (by (try simp only [List.length_cons, List.length_nil, List.length_append]); omega) (by decide) (fun a135 c136 => ?_))
                  refine TZ.v 8 (by kernel_rfl) rfl rfl rfl (OpVal.fieldLoc rfl fo25_2 rfl) rfl rfl ?_
                  refine TZ.front 2 rfl rfl ?_
                  refine TZ.last 9 (by kernel_rfl) rfl rfl rfl (OpOk.storeSl rfl sz22 rfl rfl rfl rfl rfl ?_)
                  refine TZ.done (by kernel_rfl) ?_
                  refine S.n ?_
                  refine TC.seq ?_
                  refine TC.region ?_
                  refine TL.v rfl (OpVal.loadAll rfl ag25 sz25 rfl (i := 0) rfl rfl) rfl rfl ?_
                  refine TL.front 8 rfl rfl ?_
                  refine TL.op rfl (OpOk.storeAll rfl sz25 rfl rfl rfl rfl rfl rfl ?_)
                  refine TL.v rfl (OpVal.moveI (.inr rfl) rfl) rfl rfl ?_
                  refine TL.nil ?_
                  refine S.n ?_
                  refine TC.front 2 rfl rfl ?_
                  refine TC.sealS encI_len (fun τ139 hle138 hr137 => ?_)
                  refine TC.front 2 rfl rfl ?_
                  refine TC.sealS encI_len (fun τ142 hle141 hr140 => ?_)
                  replace hr137 := hr137.mono hle141
                  refine TC.front 2 rfl rfl ?_
                  refine TC.sealS encI_len (fun τ145 hle144 hr143 => ?_)
                  replace hr137 := hr137.mono hle144
                  replace hr140 := hr140.mono hle144
                  refine TC.front 2 rfl rfl ?_
                  refine TC.sealS encI_len (fun τ148 hle147 hr146 => ?_)
                  replace hr137 := hr137.mono hle147
                  replace hr140 := hr140.mono hle147
                  replace hr143 := hr143.mono hle147
                  refine TC.front 3 rfl rfl ?_
                  refine TC.sealS encE_len (fun τ151 hle150 hr149 => ?_)
                  replace hr137 := hr137.mono hle150
                  replace hr140 := hr140.mono hle150
                  replace hr143 := hr143.mono hle150
                  replace hr146 := hr146.mono hle150
                  refine TC.front 3 rfl rfl ?_
                  refine TC.sealS encB_len (fun τ154 hle153 hr152 => ?_)
                  replace hr137 := hr137.mono hle153
                  replace hr140 := hr140.mono hle153
                  replace hr143 := hr143.mono hle153
                  replace hr146 := hr146.mono hle153
                  replace hr149 := hr149.mono hle153
                  refine TC.ret ?_
                  -- leaf 12 ret [h7: t22=False; h8: False; h12: False; h17: False; h29: False; h46: False; h102: False] H=['q6', 'q44', 'q25', 'q4', 'q2']
                  obtain rfl : g2 = x.edges.length := by omega
                  have hf : catF x y = true := h17
                  have hN : catR x y = ⟨x.states + y.states, x.starts, [] ++ shiftL y.ends x.states, catTo x y x.edges.length⟩ := by
                    rw [catR, if_pos (And.intro hcx hcy), if_pos hf, catN, catS, catD, if_neg (by rw [h46]; exact Bool.false_ne_true), if_neg (by rw [h102]; exact Bool.false_ne_true)]
                  have hX : catX x y = 0 := by rw [catX, if_pos (And.intro hcx hcy), if_pos hf]
                  rw [hN, hX]
                  exact retNfa (p := ⟨a38, c39, a135, c136, ga2, gc2⟩) 0 rfl ag25 sz25 rfl rfl rfl rfl ⟨hr143, hr137, hr149, catTo_ok hx.ok hy.ok _⟩
            · skip
              refine TA.act 3 (by kernel_rfl) rfl rfl (OpOk.callR (clone_con _ _ _ _ (by first | exact hx.s | exact hx.e) (by omega)) rfl rfl pf64 rfl rfl rfl (fun a155 c156 => ⟨(fun w h => sees_of (by first | exact Store.le.refl _ | assumption) (fun r hr => (List.mem_cons_of_mem _ (List.mem_cons_of_mem _ hr))) w h), ?_⟩))
              refine TA.takeP 8 rfl (by kernel_rfl) (by kernel_rfl) (by kernel_rfl) rfl (OpVal.buildL rfl pl25 ze25 rfl) rfl rfl ?_
              refine TA.front 1 rfl rfl ?_
              refine TA.last 10 (by kernel_rfl) rfl rfl rfl (OpOk.storeAll rfl sz25 rfl rfl rfl rfl rfl rfl ?_)
              refine TZ.done (by kernel_rfl) ?_
              refine S.n ?_
              refine TC.seq ?_
              refine TC.seq ?_
              refine TC.region ?_
              refine TL.v rfl (OpVal.loadAll rfl ag25 sz25 rfl (i := 8) rfl rfl) rfl rfl ?_
              refine TL.op rfl (OpOk.callP (nempty_con _ _ _ (by first | exact hx | exact hy) (by first | exact hcx | exact hcy)) rfl rfl pf65 rfl rfl rfl ?_)
              refine TL.nilS 3 1 Go.E.encI ?_
              refine TL.nil ?_
              refine S.n ?_
              refine TC.cond rfl (fun h159 => ?_) (fun h159 => ?_)
              · try simp only [decide_eq_true_eq, decide_eq_false_iff_not, Bool.not_eq_true', Bool.not_eq_false', Bool.not_eq_eq_eq_not, Bool.not_true, Bool.not_false, Int.not_lt, Int.not_le, Decidable.not_not] at h159
                refine TC.region ?_
                refine TL.v rfl (OpVal.fieldLoc rfl fo25_1 rfl) rfl rfl ?_
                refine TL.v rfl (OpVal.loadLoc rfl ag22 rfl (i := 1) rfl rfl) rfl rfl ?_
                refine TL.v rfl (OpVal.moveSl (.inl rfl) rfl) rfl rfl ?_
                refine TL.front 2 rfl rfl ?_
                refine TL.op rfl (OpOk.appendS rfl rfl Try.underlying22 sz3 by3 ze3 rfl rfl (by decide) rfl rfl rfl (.inr ⟨_, 2, rfl⟩) (by (try simp only [List.length_cons, List.length_nil, List.length_append]); omega) (by decide) (fun a160 c161 => ?_))
                refine TL.v rfl (OpVal.fieldLoc rfl fo25_1 rfl) rfl rfl ?_
                refine TL.front 2 rfl rfl ?_
                refine TL.op rfl (OpOk.storeSl rfl sz22 rfl rfl rfl rfl rfl ?_)
                refine TL.nil ?_
                refine S.n ?_
                refine TC.seq ?_
                refine TC.seq ?_
                refine TC.region ?_
                refine TL.v rfl (OpVal.loadAll rfl ag25 sz25 rfl (i := 8) rfl rfl) rfl rfl ?_
                refine TL.op rfl (OpOk.callP (nempty_con _ _ _ (by first | exact hx | exact hy) (by first | exact hcx | exact hcy)) rfl rfl pf65 rfl rfl rfl ?_)
                refine TL.nil ?_
                refine S.n ?_
                refine TC.cond rfl (fun h162 => ?_) (fun h162 => ?_)
                · try simp only [decide_eq_true_eq, decide_eq_false_iff_not, Bool.not_eq_true', Bool.not_eq_false', Bool.not_eq_eq_eq_not, Bool.not_true, Bool.not_false, Int.not_lt, Int.not_le, Decidable.not_not] at h162
                  refine TC.region ?_
                  refine TL.v rfl (OpVal.fieldLoc rfl fo25_2 rfl) rfl rfl ?_
                  refine TL.v rfl (OpVal.loadLoc rfl ag22 rfl (i := 9) rfl rfl) rfl rfl ?_
                  refine TL.op rfl (OpOk.callR (clone_con _ _ _ _ (by first | exact hx.s | exact hx.e) (by omega)) rfl rfl pf64 rfl rfl rfl (fun a163 c164 => ?_))
                  refine TL.v rfl (OpVal.fieldLoc rfl fo25_2 rfl) rfl rfl ?_
                  refine TL.front 1 rfl rfl ?_
                  refine TL.op rfl (OpOk.storeSl rfl sz22 rfl rfl rfl rfl rfl ?_)
                  refine TL.nil ?_
                  refine S.n ?_
                  refine TC.seq ?_
                  refine TC.draw [7, 8, 9] (by kernel_rfl) ?_
                  refine TA.takeP 0 rfl (by kernel_rfl) (by kernel_rfl) (by kernel_rfl) rfl (OpVal.fieldLoc rfl fo25_2 rfl) rfl rfl ?_
                  refine TA.take 1 rfl (by kernel_rfl) (by kernel_rfl) (by kernel_rfl) (by kernel_rfl) rfl (OpVal.loadLoc rfl ag22 rfl (i := 0) rfl rfl) rfl rfl ?_
                  refine TA.takeP 2 rfl (by kernel_rfl) (by kernel_rfl) (by kernel_rfl) rfl (OpVal.fieldLoc rfl fo25_2 rfl) rfl rfl ?_
                  refine TA.take 3 rfl (by kernel_rfl) (by kernel_rfl) (by kernel_rfl) (by kernel_rfl) rfl (OpVal.loadLoc rfl ag22 rfl (i := 9) rfl rfl) rfl rfl ?_
                  refine TA.takeP 4 rfl (by kernel_rfl) (by kernel_rfl) (by kernel_rfl) rfl (OpVal.fieldLoc rfl fo25_0 rfl) rfl rfl ?_
                  refine TA.take 5 rfl (by kernel_rfl) (by kernel_rfl) (by kernel_rfl) (by kernel_rfl) rfl (OpVal.loadLoc rfl ag3 rfl (i := 10) rfl rfl) rfl rfl ?_
                  refine TA.act 6 (by kernel_rfl) rfl rfl (OpOk.callR (shift_con _ _ _ _ _ (by first | exact hy.s | exact hy.e) ⟨k1, by omega⟩ (fun u hu => by first | (have := l4 u hu; omega) | (have := l5 u hu; omega)) (by omega)) rfl rfl pf63 rfl rfl rfl (fun a166 c167 => ⟨(fun w h => sees_of (by first | exact Store.le.refl _ | assumption) (fun r hr => (List.mem_cons_of_mem _ hr)) w h), ?_⟩))
                  refine TA.front 2 rfl rfl ?_
                  refine TA.last 7 (by kernel_rfl) rfl rfl rfl (OpOk.appendS rfl rfl Try.underlying22 sz3 by3 ze3 rfl rfl (by decide) rfl rfl rfl (.inr ⟨_, 0, rfl⟩) (by (try simp only [List.length_cons, List.length_nil, List.length_append]); omega) (by decide) (fun a169 c170 => ?_))
                  refine TZ.v 8 (by kernel_rfl) rfl rfl rfl (OpVal.fieldLoc rfl fo25_2 rfl) rfl rfl ?_
                  refine TZ.front 2 rfl rfl ?_
                  refine TZ.last 9 (by kernel_rfl) rfl rfl rfl (OpOk.storeSl rfl sz22 rfl rfl rfl rfl rfl ?_)
                  refine TZ.done (by kernel_rfl) ?_
                  refine S.n ?_
                  refine TC.seq ?_
                  refine TC.region ?_
                  refine TL.v rfl (OpVal.loadAll rfl ag25 sz25 rfl (i := 0) rfl rfl) rfl rfl ?_
                  refine TL.front 9 rfl rfl ?_
                  refine TL.op rfl (OpOk.storeAll rfl sz25 rfl rfl rfl rfl rfl rfl ?_)
                  refine TL.v rfl (OpVal.moveI (.inr rfl) rfl) rfl rfl ?_
                  refine TL.nil ?_
                  refine S.n ?_
                  refine TC.front 2 rfl rfl ?_
                  refine TC.sealS encI_len (fun τ173 hle172 hr171 => ?_)
                  refine TC.front 2 rfl rfl ?_
                  refine TC.sealS encI_len (fun τ176 hle175 hr174 => ?_)
                  replace hr171 := hr171.mono hle175
                  refine TC.front 2 rfl rfl ?_
                  refine TC.sealS encI_len (fun τ179 hle178 hr177 => ?_)
                  replace hr171 := hr171.mono hle178
                  replace hr174 := hr174.mono hle178
                  refine TC.front 2 rfl rfl ?_
                  refine TC.sealS encI_len (fun τ182 hle181 hr180 => ?_)
                  replace hr171 := hr171.mono hle181
                  replace hr174 := hr174.mono hle181
                  replace hr177 := hr177.mono hle181
                  refine TC.front 2 rfl rfl ?_
                  refine TC.sealS encI_len (fun τ185 hle184 hr183 => ?_)
                  replace hr171 := hr171.mono hle184
                  replace hr174 := hr174.mono hle184
                  replace hr177 := hr177.mono hle184
                  replace hr180 := hr180.mono hle184
                  refine TC.front 3 rfl rfl ?_
                  refine TC.sealS encE_len (fun τ188 hle187 hr186 => ?_)
                  replace hr171 := hr171.mono hle187
                  replace hr174 := hr174.mono hle187
                  replace hr177 := hr177.mono hle187
                  replace hr180 := hr180.mono hle187
                  replace hr183 := hr183.mono hle187
                  refine TC.front 3 rfl rfl ?_
                  refine TC.sealS encB_len (fun τ191 hle190 hr189 => ?_)
                  replace hr171 := hr171.mono hle190
                  replace hr174 := hr174.mono hle190
                  replace hr177 := hr177.mono hle190
                  replace hr180 := hr180.mono hle190
                  replace hr183 := hr183.mono hle190
                  replace hr186 := hr186.mono hle190
                  refine TC.ret ?_
                  -- leaf 13 ret [h7: t22=False; h8: False; h12: False; h17: False; h29: False; h159: True; h162: True] H=['q6', 'q42', 'q25', 'q4', 'q2']
                  obtain rfl : g2 = x.edges.length := by omega
                  have hf : catF x y = true := h17
                  have hN : catR x y = ⟨x.states + y.states, x.starts ++ shiftL y.starts x.states, x.ends ++ shiftL y.ends x.states, catTo x y x.edges.length⟩ := by
                    rw [catR, if_pos (And.intro hcx hcy), if_pos hf, catN, catS, catD, if_pos h159, if_pos h162]
                  have hX : catX x y = 0 := by rw [catX, if_pos (And.intro hcx hcy), if_pos hf]
                  rw [hN, hX]
                  exact retNfa (p := ⟨a160, c161, a169, c170, ga2, gc2⟩) 0 rfl ag25 sz25 rfl rfl rfl rfl ⟨hr177, hr171, hr186, catTo_ok hx.ok hy.ok _⟩
                · try simp only [decide_eq_true_eq, decide_eq_false_iff_not, Bool.not_eq_true', Bool.not_eq_false', Bool.not_eq_eq_eq_not, Bool.not_true, Bool.not_false, Int.not_lt, Int.not_le, Decidable.not_not] at h162
                  refine TC.skip ?_
                  refine S.n ?_
                  refine TC.seq ?_
                  refine TC.draw [7, 8, 9] (by kernel_rfl) ?_
                  refine TA.takeP 0 rfl (by kernel_rfl) (by kernel_rfl) (by kernel_rfl) rfl (OpVal.fieldLoc rfl fo25_2 rfl) rfl rfl ?_
                  refine TA.take 1 rfl (by kernel_rfl) (by kernel_rfl) (by kernel_rfl) (by kernel_rfl) rfl (OpVal.loadLoc rfl ag22 rfl (i := 0) rfl rfl) rfl rfl ?_
                  refine TA.takeP 2 rfl (by kernel_rfl) (by kernel_rfl) (by kernel_rfl) rfl (OpVal.fieldLoc rfl fo25_2 rfl) rfl rfl ?_
                  refine TA.take 3 rfl (by kernel_rfl) (by kernel_rfl) (by kernel_rfl) (by kernel_rfl) rfl (OpVal.loadLoc rfl ag22 rfl (i := 8) rfl rfl) rfl rfl ?_
                  refine TA.takeP 4 rfl (by kernel_rfl) (by kernel_rfl) (by kernel_rfl) rfl (OpVal.fieldLoc rfl fo25_0 rfl) rfl rfl ?_
                  refine TA.take 5 rfl (by kernel_rfl) (by kernel_rfl) (by kernel_rfl) (by kernel_rfl) rfl (OpVal.loadLoc rfl ag3 rfl (i := 9) rfl rfl) rfl rfl ?_
                  refine TA.act 6 (by kernel_rfl) rfl rfl (OpOk.callR (shift_con _ _ _ _ _ (by first | exact hy.s | exact hy.e) ⟨k1, by omega⟩ (fun u hu => by first | (have := l4 u hu; omega) | (have := l5 u hu; omega)) (by omega)) rfl rfl pf63 rfl rfl rfl (fun a192 c193 => ⟨(fun w h => sees_of (by first | exact Store.le.refl _ | assumption) (fun r hr => (List.mem_cons_of_mem _ hr)) w h), ?_⟩))
                  refine TA.front 3 rfl rfl ?_
                  refine TA.last 7 (by kernel_rfl) rfl rfl rfl (OpOk.appendS rfl rfl Try.underlying22 sz3 by3 ze3 rfl rfl (by decide) rfl rfl rfl (.inr ⟨_, 0, rfl⟩) (by (try simp only [List.length_cons, List.length_nil, List.length_append]); omega) (by decide) (fun a195 c196 => ?_))
                  refine TZ.v 8 (by kernel_rfl) rfl rfl rfl (OpVal.fieldLoc rfl fo25_2 rfl) rfl rfl ?_
                  refine TZ.front 2 rfl rfl ?_
                  refine TZ.last 9 (by kernel_rfl) rfl rfl rfl (OpOk.storeSl rfl sz22 rfl rfl rfl rfl rfl ?_)
                  refine TZ.done (by kernel_rfl) ?_
                  refine S.n ?_
                  refine TC.seq ?_
                  refine TC.region ?_
                  refine TL.v rfl (OpVal.loadAll rfl ag25 sz25 rfl (i := 0) rfl rfl) rfl rfl ?_
                  refine TL.front 8 rfl rfl ?_
                  refine TL.op rfl (OpOk.storeAll rfl sz25 rfl rfl rfl rfl rfl rfl ?_)
                  refine TL.v rfl (OpVal.moveI (.inr rfl) rfl) rfl rfl ?_
                  refine TL.nil ?_
                  refine S.n ?_
                  refine TC.front 2 rfl rfl ?_
                  refine TC.sealS encI_len (fun τ199 hle198 hr197 => ?_)
                  refine TC.front 2 rfl rfl ?_
                  refine TC.sealS encI_len (fun τ202 hle201 hr200 => ?_)
                  replace hr197 := hr197.mono hle201
                  refine TC.front 2 rfl rfl ?_
                  refine TC.sealS encI_len (fun τ205 hle204 hr203 => ?_)
                  replace hr197 := hr197.mono hle204
                  replace hr200 := hr200.mono hle204
                  refine TC.front 2 rfl rfl ?_
                  refine TC.sealS encI_len (fun τ208 hle207 hr206 => ?_)
                  replace hr197 := hr197.mono hle207
                  replace hr200 := hr200.mono hle207
                  replace hr203 := hr203.mono hle207
                  refine TC.front 3 rfl rfl ?_
                  refine TC.sealS encE_len (fun τ211 hle210 hr209 => ?_)
                  replace hr197 := hr197.mono hle210
                  replace hr200 := hr200.mono hle210
                  replace hr203 := hr203.mono hle210
                  replace hr206 := hr206.mono hle210
                  refine TC.front 3 rfl rfl ?_
                  refine TC.sealS encB_len (fun τ214 hle213 hr212 => ?_)
                  replace hr197 := hr197.mono hle213
                  replace hr200 := hr200.mono hle213
                  replace hr203 := hr203.mono hle213
                  replace hr206 := hr206.mono hle213
                  replace hr209 := hr209.mono hle213
                  refine TC.ret ?_
                  -- leaf 14 ret [h7: t22=False; h8: False; h12: False; h17: False; h29: False; h159: True; h162: False] H=['q6', 'q42', 'q25', 'q4', 'q2']
                  obtain rfl : g2 = x.edges.length := by omega
                  have hf : catF x y = true := h17
                  have hN : catR x y = ⟨x.states + y.states, x.starts ++ shiftL y.starts x.states, [] ++ shiftL y.ends x.states, catTo x y x.edges.length⟩ := by
                    rw [catR, if_pos (And.intro hcx hcy), if_pos hf, catN, catS, catD, if_pos h159, if_neg (by rw [h162]; exact Bool.false_ne_true)]
                  have hX : catX x y = 0 := by rw [catX, if_pos (And.intro hcx hcy), if_pos hf]
                  rw [hN, hX]
                  exact retNfa (p := ⟨a160, c161, a195, c196, ga2, gc2⟩) 0 rfl ag25 sz25 rfl rfl rfl rfl ⟨hr203, hr197, hr209, catTo_ok hx.ok hy.ok _⟩
              · try simp only [decide_eq_true_eq, decide_eq_false_iff_not, Bool.not_eq_true', Bool.not_eq_false', Bool.not_eq_eq_eq_not, Bool.not_true, Bool.not_false, Int.not_lt, Int.not_le, Decidable.not_not] at h159
                refine TC.skip ?_
                refine S.n ?_
                refine TC.seq ?_
                refine TC.seq ?_
                refine TC.region ?_
                refine TL.v rfl (OpVal.loadAll rfl ag25 sz25 rfl (i := 8) rfl rfl) rfl rfl ?_
                refine TL.op rfl (OpOk.callP (nempty_con _ _ _ (by first | exact hx | exact hy) (by first | exact hcx | exact hcy)) rfl rfl pf65 rfl rfl rfl ?_)
                refine TL.nil ?_
                refine S.n ?_
                refine TC.cond rfl (fun h215 => ?_) (fun h215 => ?_)
                · try simp only [decide_eq_true_eq, decide_eq_false_iff_not, Bool.not_eq_true', Bool.not_eq_false', Bool.not_eq_eq_eq_not, Bool.not_true, Bool.not_false, Int.not_lt, Int.not_le, Decidable.not_not] at h215
                  refine TC.region ?_
                  refine TL.v rfl (OpVal.fieldLoc rfl fo25_2 rfl) rfl rfl ?_
                  refine TL.v rfl (OpVal.loadLoc rfl ag22 rfl (i := 9) rfl rfl) rfl rfl ?_
                  refine TL.op rfl (OpOk.callR (clone_con _ _ _ _ (by first | exact hx.s | exact hx.e) (by omega)) rfl rfl pf64 rfl rfl rfl (fun a216 c217 => ?_))
                  refine TL.v rfl (OpVal.fieldLoc rfl fo25_2 rfl) rfl rfl ?_
                  refine TL.front 2 rfl rfl ?_
                  refine TL.op rfl (OpOk.storeSl rfl sz22 rfl rfl rfl rfl rfl ?_)
                  refine TL.nil ?_
                  refine S.n ?_
                  refine TC.seq ?_
                  refine TC.draw [7, 8, 9] (by kernel_rfl) ?_
                  refine TA.takeP 0 rfl (by kernel_rfl) (by kernel_rfl) (by kernel_rfl) rfl (OpVal.fieldLoc rfl fo25_2 rfl) rfl rfl ?_
                  refine TA.take 1 rfl (by kernel_rfl) (by kernel_rfl) (by kernel_rfl) (by kernel_rfl) rfl (OpVal.loadLoc rfl ag22 rfl (i := 0) rfl rfl) rfl rfl ?_
                  refine TA.takeP 2 rfl (by kernel_rfl) (by kernel_rfl) (by kernel_rfl) rfl (OpVal.fieldLoc rfl fo25_2 rfl) rfl rfl ?_
                  refine TA.take 3 rfl (by kernel_rfl) (by kernel_rfl) (by kernel_rfl) (by kernel_rfl) rfl (OpVal.loadLoc rfl ag22 rfl (i := 9) rfl rfl) rfl rfl ?_
                  refine TA.takeP 4 rfl (by kernel_rfl) (by kernel_rfl) (by kernel_rfl) rfl (OpVal.fieldLoc rfl fo25_0 rfl) rfl rfl ?_
                  refine TA.take 5 rfl (by kernel_rfl) (by kernel_rfl) (by kernel_rfl) (by kernel_rfl) rfl (OpVal.loadLoc rfl ag3 rfl (i := 10) rfl rfl) rfl rfl ?_
                  refine TA.act 6 (by kernel_rfl) rfl rfl (OpOk.callR (shift_con _ _ _ _ _ (by first | exact hy.s | exact hy.e) ⟨k1, by omega⟩ (fun u hu => by first | (have := l4 u hu; omega) | (have := l5 u hu; omega)) (by omega)) rfl rfl pf63 rfl rfl rfl (fun a219 c220 => ⟨(fun w h => sees_of (by first | exact Store.le.refl _ | assumption) (fun r hr => (List.mem_cons_of_mem _ hr)) w h), ?_⟩))
                  refine TA.front 2 rfl rfl ?_
                  refine TA.last 7 (by kernel_rfl) rfl rfl rfl (OpOk.appendS rfl rfl Try.underlying22 sz3 by3 ze3 rfl rfl (by decide) rfl rfl rfl (.inr ⟨_, 0, rfl⟩) (by (try simp only [List.length_cons, List.length_nil, List.length_append]); omega) (by decide) (fun a222 c223 => ?_))
                  refine TZ.v 8 (by kernel_rfl) rfl rfl rfl (OpVal.fieldLoc rfl fo25_2 rfl) rfl rfl ?_
                  refine TZ.front 2 rfl rfl ?_
                  refine TZ.last 9 (by kernel_rfl) rfl rfl rfl (OpOk.storeSl rfl sz22 rfl rfl rfl rfl rfl ?_)
                  refine TZ.done (by kernel_rfl) ?_
                  refine S.n ?_
                  refine TC.seq ?_
                  refine TC.region ?_
                  refine TL.v rfl (OpVal.loadAll rfl ag25 sz25 rfl (i := 0) rfl rfl) rfl rfl ?_
                  refine TL.front 9 rfl rfl ?_
                  refine TL.op rfl (OpOk.storeAll rfl sz25 rfl rfl rfl rfl rfl rfl ?_)
                  refine TL.v rfl (OpVal.moveI (.inr rfl) rfl) rfl rfl ?_
                  refine TL.nil ?_
                  refine S.n ?_
                  refine TC.front 2 rfl rfl ?_
                  refine TC.sealS encI_len (fun τ226 hle225 hr224 => ?_)
                  refine TC.front 2 rfl rfl ?_
                  refine TC.sealS encI_len (fun τ229 hle228 hr227 => ?_)
                  replace hr224 := hr224.mono hle228
                  refine TC.front 2 rfl rfl ?_
                  refine TC.sealS encI_len (fun τ232 hle231 hr230 => ?_)
                  replace hr224 := hr224.mono hle231
                  replace hr227 := hr227.mono hle231
                  refine TC.front 2 rfl rfl ?_
                  refine TC.sealS encI_len (fun τ235 hle234 hr233 => ?_)
                  replace hr224 := hr224.mono hle234
                  replace hr227 := hr227.mono hle234
                  replace hr230 := hr230.mono hle234
                  refine TC.front 2 rfl rfl ?_
                  refine TC.sealS encI_len (fun τ238 hle237 hr236 => ?_)
                  replace hr224 := hr224.mono hle237
                  replace hr227 := hr227.mono hle237
                  replace hr230 := hr230.mono hle237
                  replace hr233 := hr233.mono hle237
                  refine TC.front 3 rfl rfl ?_
                  refine TC.sealS encE_len (fun τ241 hle240 hr239 => ?_)
                  replace hr224 := hr224.mono hle240
                  replace hr227 := hr227.mono hle240
                  replace hr230 := hr230.mono hle240
                  replace hr233 := hr233.mono hle240
                  replace hr236 := hr236.mono hle240
                  refine TC.front 3 rfl rfl ?_
                  refine TC.sealS encB_len (fun τ244 hle243 hr242 => ?_)
                  replace hr224 := hr224.mono hle243
                  replace hr227 := hr227.mono hle243
                  replace hr230 := hr230.mono hle243
                  replace hr233 := hr233.mono hle243
                  replace hr236 := hr236.mono hle243
                  replace hr239 := hr239.mono hle243
                  refine TC.ret ?_
                  -- leaf 15 ret [h7: t22=False; h8: False; h12: False; h17: False; h29: False; h159: False; h215: True] H=['q6', 'q42', 'q25', 'q4', 'q2']
                  obtain rfl : g2 = x.edges.length := by omega
                  have hf : catF x y = true := h17
                  have hN : catR x y = ⟨x.states + y.states, x.starts, x.ends ++ shiftL y.ends x.states, catTo x y x.edges.length⟩ := by
                    rw [catR, if_pos (And.intro hcx hcy), if_pos hf, catN, catS, catD, if_neg (by rw [h159]; exact Bool.false_ne_true), if_pos h215]
                  have hX : catX x y = 0 := by rw [catX, if_pos (And.intro hcx hcy), if_pos hf]
                  rw [hN, hX]
                  exact retNfa (p := ⟨a155, c156, a222, c223, ga2, gc2⟩) 0 rfl ag25 sz25 rfl rfl rfl rfl ⟨hr233, hr224, hr239, catTo_ok hx.ok hy.ok _⟩
                · try simp only [decide_eq_true_eq, decide_eq_false_iff_not, Bool.not_eq_true', Bool.not_eq_false', Bool.not_eq_eq_eq_not, Bool.not_true, Bool.not_false, Int.not_lt, Int.not_le, Decidable.not_not] at h215
                  refine TC.skip ?_
                  refine S.n ?_
                  refine TC.seq ?_
                  refine TC.draw [7, 8, 9] (by kernel_rfl) ?_
                  refine TA.takeP 0 rfl (by kernel_rfl) (by kernel_rfl) (by kernel_rfl) rfl (OpVal.fieldLoc rfl fo25_2 rfl) rfl rfl ?_
                  refine TA.take 1 rfl (by kernel_rfl) (by kernel_rfl) (by kernel_rfl) (by kernel_rfl) rfl (OpVal.loadLoc rfl ag22 rfl (i := 1) rfl rfl) rfl rfl ?_
                  refine TA.takeP 2 rfl (by kernel_rfl) (by kernel_rfl) (by kernel_rfl) rfl (OpVal.fieldLoc rfl fo25_2 rfl) rfl rfl ?_
                  refine TA.take 3 rfl (by kernel_rfl) (by kernel_rfl) (by kernel_rfl) (by kernel_rfl) rfl (OpVal.loadLoc rfl ag22 rfl (i := 8) rfl rfl) rfl rfl ?_
                  refine TA.takeP 4 rfl (by kernel_rfl) (by kernel_rfl) (by kernel_rfl) rfl (OpVal.fieldLoc rfl fo25_0 rfl) rfl rfl ?_
                  refine TA.take 5 rfl (by kernel_rfl) (by kernel_rfl) (by kernel_rfl) (by kernel_rfl) rfl (OpVal.loadLoc rfl ag3 rfl (i := 9) rfl rfl) rfl rfl ?_
                  refine TA.act 6 (by kernel_rfl) rfl rfl (OpOk.callR (shift_con _ _ _ _ _ (by first | exact hy.s | exact hy.e) ⟨k1, by omega⟩ (fun u hu => by first | (have := l4 u hu; omega) | (have := l5 u hu; omega)) (by omega)) rfl rfl pf63 rfl rfl rfl (fun a245 c246 => ⟨(fun w h => sees_of (by first | exact Store.le.refl _ | assumption) (fun r hr => (List.mem_cons_of_mem _ hr)) w h), ?_⟩))
                  refine TA.front 1 rfl rfl ?_
                  refine TA.last 7 (by kernel_rfl) rfl rfl rfl (OpOk.appendS rfl rfl Try.underlying22 sz3 by3 ze3 rfl rfl (by decide) rfl rfl rfl (.inr ⟨_, 0, rfl⟩) (by (try simp only [List.length_cons, List.length_nil, List.length_append]); omega) (by decide) (fun a248 c249 => ?_))
                  refine TZ.v 8 (by kernel_rfl) rfl rfl rfl (OpVal.fieldLoc rfl fo25_2 rfl) rfl rfl ?_
                  refine TZ.front 2 rfl rfl ?_
                  refine TZ.last 9 (by kernel_rfl) rfl rfl rfl (OpOk.storeSl rfl sz22 rfl rfl rfl rfl rfl ?_)
                  refine TZ.done (by kernel_rfl) ?_
                  refine S.n ?_
                  refine TC.seq ?_
                  refine TC.region ?_
                  refine TL.v rfl (OpVal.loadAll rfl ag25 sz25 rfl (i := 0) rfl rfl) rfl rfl ?_
                  refine TL.front 8 rfl rfl ?_
                  refine TL.op rfl (OpOk.storeAll rfl sz25 rfl rfl rfl rfl rfl rfl ?_)
                  refine TL.v rfl (OpVal.moveI (.inr rfl) rfl) rfl rfl ?_
                  refine TL.nil ?_
                  refine S.n ?_
                  refine TC.front 2 rfl rfl ?_
                  refine TC.sealS encI_len (fun τ252 hle251 hr250 => ?_)
                  refine TC.front 2 rfl rfl ?_
                  refine TC.sealS encI_len (fun τ255 hle254 hr253 => ?_)
                  replace hr250 := hr250.mono hle254
                  refine TC.front 2 rfl rfl ?_
                  refine TC.sealS encI_len (fun τ258 hle257 hr256 => ?_)
                  replace hr250 := hr250.mono hle257
                  replace hr253 := hr253.mono hle257
                  refine TC.front 2 rfl rfl ?_
                  refine TC.sealS encI_len (fun τ261 hle260 hr259 => ?_)
                  replace hr250 := hr250.mono hle260
                  replace hr253 := hr253.mono hle260
                  replace hr256 := hr256.mono hle260
                  refine TC.front 3 rfl rfl ?_
                  refine TC.sealS encE_len (fun τ264 hle263 hr262 => ?_)
                  replace hr250 := hr250.mono hle263
                  replace hr253 := hr253.mono hle263
                  replace hr256 := hr256.mono hle263
                  replace hr259 := hr259.mono hle263
                  refine TC.front 3 rfl rfl ?_
                  refine TC.sealS encB_len (fun τ267 hle266 hr265 => ?_)
                  replace hr250 := hr250.mono hle266
                  replace hr253 := hr253.mono hle266
                  replace hr256 := hr256.mono hle266
                  replace hr259 := hr259.mono hle266
                  replace hr262 := hr262.mono hle266
                  refine TC.ret ?_
                  -- leaf 16 ret [h7: t22=False; h8: False; h12: False; h17: False; h29: False; h159: False; h215: False] H=['q6', 'q42', 'q25', 'q4', 'q2']
                  obtain rfl : g2 = x.edges.length := by omega
                  have hf : catF x y = true := h17
                  have hN : catR x y = ⟨x.states + y.states, x.starts, [] ++ shiftL y.ends x.states, catTo x y x.edges.length⟩ := by
                    rw [catR, if_pos (And.intro hcx hcy), if_pos hf, catN, catS, catD, if_neg (by rw [h159]; exact Bool.false_ne_true), if_neg (by rw [h215]; exact Bool.false_ne_true)]
                  have hX : catX x y = 0 := by rw [catX, if_pos (And.intro hcx hcy), if_pos hf]
                  rw [hN, hX]
                  exact retNfa (p := ⟨a155, c156, a248, c249, ga2, gc2⟩) 0 rfl ag25 sz25 rfl rfl rfl rfl ⟨hr256, hr250, hr262, catTo_ok hx.ok hy.ok _⟩

end Go.Proofs.Ytcidppnlhhkhhaa
end

/- Ref1 -/
section
/- Contracts of the reference of nfa, part one: text, set, star. -/
set_option linter.unusedVariables false
set_option linter.unusedSimpArgs false
namespace Go.E
open Go
theorem OpOk.callN {X : Ctx} {e : Env} {σ : Store} {H : List Res} {o : Oper} {x : Operand} {K : Env → Store → List Res → Prop} {f d : Nat} {ps : Array Operand} {ts : Array TypeId} {first cap : Array Value} {args : List Value} {m : Nfa} {v : Int} (hc : Con X.P f args.toArray σ [] (NfaR m v)) (ho : o.op = .call { callee := .value x, args := ps, argTypes := ts })
    (hx : ev e x = .func (.func f) first cap) (hp : plainF X.P f = true) (hargs : first.toList ++ (ps.toList.map (ev e) ++ cap.toList) = args) (hd : o.dst = some d) (hn : Nat.blt d X.n = true)
    (k : ∀ p σ', σ.le σ' → RNfa σ' m p → K (upd e d (.tuple #[nfaV m p, .int .i64 v])) σ' H) : OpOk X o e σ H K :=
  OpOk.call (H1 := []) hc ho hx hp hargs hd hn rfl fun r σ' H' hle ⟨p, h1, h2, h3⟩ => by subst h1 h3; exact k p σ' hle h2
end Go.E
namespace Go.Proofs.Ytcidppnlhhkhhaa
open Go Go.E
set_option maxRecDepth 100000

def endR (n : Nfa) : Nfa := if fitB n.states n.edges.length = true then n else Nfa.zero
def endX (n : Nfa) : Int := if fitB n.states n.edges.length = true then 0 else 2
theorem end_con (σ : Store) (n : Nfa) (p : NfaP) (hn : RNfa σ n p) : Con Try.prog 71 #[nfaV n p] σ [] (NfaR (endR n) (endX n)) := by
  refine Con.mk (n := 15) Try.func71 rfl rfl rfl (fun w0 => ?_)
  refine TC.seq ?_
  refine TC.region ?_
  refine TL.op rfl (OpOk.boxA rfl rfl rfl rfl (fun b1 => ?_))
  refine TL.op rfl (OpOk.alloc rfl ze25 rfl rfl (fun b3 => ?_))
  refine TL.v rfl (OpVal.moveI (.inr rfl) rfl) rfl rfl ?_
  refine TL.nil ?_
  refine S.n ?_
  refine TC.seq ?_
  refine TC.seq ?_
  refine TC.region ?_
  refine TL.v rfl (OpVal.fieldLoc rfl fo25_0 rfl) rfl rfl ?_
  refine TL.v rfl (OpVal.loadLoc rfl ag3 rfl (i := 1) rfl rfl) rfl rfl ?_
  refine TL.v rfl (OpVal.gtr rfl rfl rfl) rfl rfl ?_
  refine TL.v rfl (OpVal.moveB (.inl rfl) rfl) rfl rfl ?_
  refine TL.split 7 rfl (fun h5 => ?_) (fun h5 => ?_)
  · try simp only [decide_eq_true_eq, decide_eq_false_iff_not, Bool.not_eq_true', Bool.not_eq_false', Bool.not_eq_eq_eq_not, Bool.not_true, Bool.not_false, Int.not_lt, Int.not_le, Decidable.not_not] at h5
    refine TL.goff rfl rfl rfl rfl rfl rfl rfl rfl ?_
    refine TL.goff rfl rfl rfl rfl rfl rfl rfl rfl ?_
    refine TL.goff rfl rfl rfl rfl rfl rfl rfl rfl ?_
    refine TL.goff rfl rfl rfl rfl rfl rfl rfl rfl ?_
    refine TL.v rfl (OpVal.pickTB rfl rfl rfl) rfl rfl ?_
    refine TL.nil ?_
    refine S.n ?_
    refine TC.cond rfl (fun _ => ?_) (fun h => Bool.noConfusion h)
    refine TC.seq ?_
    refine TC.region ?_
    refine TL.v rfl (OpVal.buildL rfl pl25 ze25 rfl) rfl rfl ?_
    refine TL.op rfl (OpOk.storeAll rfl sz25 rfl rfl rfl rfl rfl rfl ?_)
    refine TL.v rfl (OpVal.moveI (.inr rfl) rfl) rfl rfl ?_
    refine TL.nil ?_
    refine S.n ?_
    refine TC.ret ?_
    refine S.r ?_
    -- leaf 1 ret [h5: t7=True] H=['q4', 'q2']
    have hf : ¬ fitB n.states n.edges.length = true := by simp only [fitB, Bool.and_eq_true, decide_eq_true_eq]; omega
    simp only [endR, endX, if_neg hf]
    exact retNfa (p := NfaP.zero) 0 rfl ag25 sz25 rfl rfl rfl rfl (RNfa.zero _)
  · try simp only [decide_eq_true_eq, decide_eq_false_iff_not, Bool.not_eq_true', Bool.not_eq_false', Bool.not_eq_eq_eq_not, Bool.not_true, Bool.not_false, Int.not_lt, Int.not_le, Decidable.not_not] at h5
    refine TL.gv rfl rfl rfl rfl rfl (OpVal.fieldLoc rfl fo25_3 rfl) rfl rfl ?_
    refine TL.gv rfl rfl rfl rfl rfl (OpVal.loadLoc rfl ag23 rfl (i := 1) rfl rfl) rfl rfl ?_
    refine TL.gv rfl rfl rfl rfl rfl (OpVal.lenC rfl Try.underlying23 rfl) rfl rfl ?_
    refine TL.gv rfl rfl rfl rfl rfl (OpVal.gtr rfl rfl rfl) rfl rfl ?_
    refine TL.v rfl (OpVal.pickFB rfl rfl rfl) rfl rfl ?_
    refine TL.nil ?_
    refine S.n ?_
    refine TC.condD rfl (fun h6 => ?_) (fun h6 => ?_)
    · try simp only [decide_eq_true_eq, decide_eq_false_iff_not, Bool.not_eq_true', Bool.not_eq_false', Bool.not_eq_eq_eq_not, Bool.not_true, Bool.not_false, Int.not_lt, Int.not_le, Decidable.not_not] at h6
      refine TC.seq ?_
      refine TC.region ?_
      refine TL.v rfl (OpVal.buildL rfl pl25 ze25 rfl) rfl rfl ?_
      refine TL.op rfl (OpOk.storeAll rfl sz25 rfl rfl rfl rfl rfl rfl ?_)
      refine TL.v rfl (OpVal.moveI (.inr rfl) rfl) rfl rfl ?_
      refine TL.nil ?_
      refine S.n ?_
      refine TC.ret ?_
      refine S.r ?_
      -- leaf 2 ret [h5: t7=False; h6: True] H=['q4', 'q2']
      have hf : ¬ fitB n.states n.edges.length = true := by simp only [fitB, Bool.and_eq_true, decide_eq_true_eq]; omega
      simp only [endR, endX, if_neg hf]
      exact retNfa (p := NfaP.zero) 0 rfl ag25 sz25 rfl rfl rfl rfl (RNfa.zero _)
    · try simp only [decide_eq_true_eq, decide_eq_false_iff_not, Bool.not_eq_true', Bool.not_eq_false', Bool.not_eq_eq_eq_not, Bool.not_true, Bool.not_false, Int.not_lt, Int.not_le, Decidable.not_not] at h6
      refine TC.skip ?_
      refine S.n ?_
      refine TC.seq ?_
      refine TC.region ?_
      refine TL.v rfl (OpVal.loadAll rfl ag25 sz25 rfl (i := 1) rfl rfl) rfl rfl ?_
      refine TL.op rfl (OpOk.storeAll rfl sz25 rfl rfl rfl rfl rfl rfl ?_)
      refine TL.v rfl (OpVal.moveI (.inr rfl) rfl) rfl rfl ?_
      refine TL.nil ?_
      refine S.n ?_
      refine TC.ret ?_
      -- leaf 3 ret [h5: t7=False; h6: False] H=['q4', 'q2']
      have hf : fitB n.states n.edges.length = true := by simp only [fitB, Bool.and_eq_true, decide_eq_true_eq]; omega
      simp only [endR, endX, if_pos hf]
      exact retNfa (p := p) 0 rfl ag25 sz25 rfl rfl rfl rfl hn

theorem starC_tt {a : Nfa} {k : Nat} (h : k < a.edges.length) (h1 : a.starts.contains (nth a.edges k Arrow.zero).frm = true) (h2 : a.ends.contains (nth a.edges k Arrow.zero).to = true) :
    starTo a (k + 1) = starTo a k ++ [⟨a.states, (nth a.edges k Arrow.zero).to, (nth a.edges k Arrow.zero).set⟩] ++ [⟨(nth a.edges k Arrow.zero).frm, a.states, (nth a.edges k Arrow.zero).set⟩] ++ [⟨a.states, a.states, (nth a.edges k Arrow.zero).set⟩] := by
  rw [starTo_succ h, starOf, if_pos h1, if_pos h2, if_pos ⟨h1, h2⟩]; simp only [List.append_assoc]
theorem starC_tf {a : Nfa} {k : Nat} (h : k < a.edges.length) (h1 : a.starts.contains (nth a.edges k Arrow.zero).frm = true) (h2 : a.ends.contains (nth a.edges k Arrow.zero).to = false) :
    starTo a (k + 1) = starTo a k ++ [⟨a.states, (nth a.edges k Arrow.zero).to, (nth a.edges k Arrow.zero).set⟩] := by
  rw [← Bool.not_eq_true] at h2
  rw [starTo_succ h, starOf, if_pos h1, if_neg h2, if_neg (fun x => h2 x.2)]; rfl
theorem starC_ft {a : Nfa} {k : Nat} (h : k < a.edges.length) (h1 : a.starts.contains (nth a.edges k Arrow.zero).frm = false) (h2 : a.ends.contains (nth a.edges k Arrow.zero).to = true) :
    starTo a (k + 1) = starTo a k ++ [⟨(nth a.edges k Arrow.zero).frm, a.states, (nth a.edges k Arrow.zero).set⟩] := by
  rw [← Bool.not_eq_true] at h1
  rw [starTo_succ h, starOf, if_neg h1, if_pos h2, if_neg (fun x => h1 x.1)]; rfl
theorem starC_ff {a : Nfa} {k : Nat} (h : k < a.edges.length) (h1 : a.starts.contains (nth a.edges k Arrow.zero).frm = false) (h2 : a.ends.contains (nth a.edges k Arrow.zero).to = false) :
    starTo a (k + 1) = starTo a k := by
  rw [← Bool.not_eq_true] at h1 h2
  rw [starTo_succ h, starOf, if_neg h1, if_neg h2, if_neg (fun x => h1 x.1), List.append_nil, List.append_nil, List.append_nil]

theorem rstar_con (σ : Store) (n : Nfa) (p : NfaP) (hn : RNfa σ n p) : Con Try.prog 32 #[nfaV n p] σ [] (NfaR (starR n) (starX n)) := by
  have hd := hn.d
  refine Con.mk (n := 93) Try.func32 rfl rfl rfl (fun w0 => ?_)
  refine TC.seq ?_
  refine TC.region ?_
  refine TL.op rfl (OpOk.boxA rfl rfl rfl rfl (fun b1 => ?_))
  refine TL.op rfl (OpOk.alloc rfl ze25 rfl rfl (fun b3 => ?_))
  refine TL.v rfl (OpVal.moveI (.inr rfl) rfl) rfl rfl ?_
  refine TL.nil ?_
  refine S.n ?_
  refine TC.seq ?_
  refine TC.seq ?_
  refine TC.region ?_
  refine TL.v rfl (OpVal.loadAll rfl ag25 sz25 rfl (i := 1) rfl rfl) rfl rfl ?_
  refine TL.op rfl (OpOk.callP (right_con _ _ _ hn) rfl rfl pf57 rfl rfl rfl ?_)
  refine TL.v rfl (OpVal.not rfl rfl) rfl rfl ?_
  refine TL.nil ?_
  refine S.n ?_
  refine TC.cond rfl (fun h5 => ?_) (fun h5 => ?_)
  · try simp only [decide_eq_true_eq, decide_eq_false_iff_not, Bool.not_eq_true', Bool.not_eq_false', Bool.not_eq_eq_eq_not, Bool.not_true, Bool.not_false, Int.not_lt, Int.not_le, Decidable.not_not] at h5
    refine TC.seq ?_
    refine TC.region ?_
    refine TL.v rfl (OpVal.buildL rfl pl25 ze25 rfl) rfl rfl ?_
    refine TL.op rfl (OpOk.storeAll rfl sz25 rfl rfl rfl rfl rfl rfl ?_)
    refine TL.v rfl (OpVal.moveI (.inr rfl) rfl) rfl rfl ?_
    refine TL.nil ?_
    refine S.n ?_
    refine TC.ret ?_
    refine S.r ?_
    -- leaf 1 ret [h5: True] H=['q4', 'q2']
    have hc : ¬ checkB n = true := by rw [h5]; exact Bool.false_ne_true
    simp only [starR, starX, if_neg hc]
    exact retNfa (p := NfaP.zero) 0 rfl ag25 sz25 rfl rfl rfl rfl (RNfa.zero _)
  · try simp only [decide_eq_true_eq, decide_eq_false_iff_not, Bool.not_eq_true', Bool.not_eq_false', Bool.not_eq_eq_eq_not, Bool.not_true, Bool.not_false, Int.not_lt, Int.not_le, Decidable.not_not] at h5
    refine TC.skip ?_
    refine S.n ?_
    refine TC.seq ?_
    obtain ⟨k1, k2, k3, k4, k5, k6⟩ := checkB_spec (by assumption)
    refine TC.region ?_
    refine TL.v rfl (OpVal.fieldLoc rfl fo25_0 rfl) rfl rfl ?_
    refine TL.v rfl (OpVal.loadLoc rfl ag3 rfl (i := 1) rfl rfl) rfl rfl ?_
    refine TL.v rfl (OpVal.moveI (.inr rfl) rfl) rfl rfl ?_
    refine TL.nil ?_
    refine S.n ?_
    refine TC.seq ?_
    refine TC.region ?_
    refine TL.v rfl (OpVal.moveI (.inl rfl) rfl) rfl rfl ?_
    refine TL.v rfl (OpVal.add rfl rfl rfl (by omega) (by omega)) rfl rfl ?_
    refine TL.v rfl (OpVal.moveI (.inl rfl) rfl) rfl rfl ?_
    refine TL.op rfl (OpOk.lit (enc := Go.E.encI) [_] rfl Try.underlying22 sz3 ze3 rfl rfl rfl encI_len (by decide) (by decide) (0 : Int) rfl (by decide) rfl (by decide) encI_one (fun a6 c7 => ?_))
    refine TL.v rfl (OpVal.moveI (.inl rfl) rfl) rfl rfl ?_
    refine TL.op rfl (OpOk.lit (enc := Go.E.encI) [_] rfl Try.underlying22 sz3 ze3 rfl rfl rfl encI_len (by decide) (by decide) (0 : Int) rfl (by decide) rfl (by decide) encI_one (fun a9 c10 => ?_))
    refine TL.v rfl (OpVal.buildL rfl pl25 ze25 rfl) rfl rfl ?_
    refine TL.op rfl (OpOk.alloc rfl ze25 rfl rfl (fun b12 => ?_))
    refine TL.op rfl (OpOk.storeAll rfl sz25 rfl rfl rfl rfl rfl rfl ?_)
    refine TL.nilS 80 6 encE ?_
    refine TL.nil ?_
    refine S.n ?_
    refine TC.seq ?_
    refine TC.region ?_
    refine TL.v rfl (OpVal.fieldLoc rfl fo25_3 rfl) rfl rfl ?_
    refine TL.v rfl (OpVal.loadLoc rfl ag23 rfl (i := 1) rfl rfl) rfl rfl ?_
    refine TL.v rfl (OpVal.fieldLoc rfl fo25_3 rfl) rfl rfl ?_
    refine TL.v rfl (OpVal.loadLoc rfl ag23 rfl (i := 5) rfl rfl) rfl rfl ?_
    refine TL.op rfl (OpOk.appendS rfl rfl Try.underlying23 sz80 by80 ze80 rfl rfl (by decide) rfl rfl rfl (.inl (by assumption)) (by (try simp only [List.length_cons, List.length_nil, List.length_append]); omega) (by decide) (fun a15 c16 => ?_))
    refine TL.v rfl (OpVal.fieldLoc rfl fo25_3 rfl) rfl rfl ?_
    refine TL.front 1 rfl rfl ?_
    refine TL.op rfl (OpOk.storeSl rfl sz23 rfl rfl rfl rfl rfl ?_)
    refine TL.nil ?_
    refine S.n ?_
    refine TC.seq ?_
    refine TC.seq ?_
    refine TC.region ?_
    refine TL.v rfl (OpVal.moveI (.inr rfl) rfl) rfl rfl ?_
    refine TL.nil ?_
    refine S.n ?_
    refine TC.block ?_
    refine TC.loopF (α := Nat × Option Addr × Nat) [6, 7, 8, 9, 29, 30, 31, 32, 33, 34, 35, 36, 37, 38, 39, 40, 41, 42, 43, 44, 45, 46, 47, 48, 49, 50, 51, 52, 53, 54, 55, 56, 57, 58, 59, 60, 61, 62, 63, 64, 65, 66, 67, 68, 69, 70, 71, 72, 73, 74, 75, 76, 77, 78, 79, 80, 81, 82, 83, 84, 85, 86, 87, 88] (fun g => [(6, .int .i64 (g.1 : Nat))]) (fun g => [Res.cells b12 #[.int .i64 (n.states + 1), .slice a6 1 c7, .slice a9 1 c10, .slice g.2.1 (starTo n g.1).length g.2.2] 25, Res.rowS 80 6 encE (.slice g.2.1 (starTo n g.1).length g.2.2) (starTo n g.1), Res.rowS 3 1 Go.E.encI (.slice a9 1 c10) [n.states], Res.rowS 3 1 Go.E.encI (.slice a6 1 c7) [n.states], Res.cells b3 (nfaA Nfa.zero NfaP.zero) 25, Res.cells b1 (nfaA n p) 25]) (fun _ => _) (fun g => g.1 ≤ n.edges.length) (fun g => n.edges.length - g.1) ((0, a15, c16)) (by first | exact True.intro | omega | (dsimp only; omega) | (simp; done) | (simp; omega)) (by repeat (first | exact trivial | refine ⟨rfl, ?_⟩)) (by simp only [starTo_zero]; rfl) (by rfl) (fun g1 j1 hg1 => ?_)
    obtain ⟨g1, ga, gc⟩ := g1
    dsimp only
    have hg1 : g1 ≤ n.edges.length := hg1
    have hu : g1 < n.edges.length → _ := fun h => k6 _ (nth_mem h Arrow.zero)
    have hl := starTo_len n g1 hg1
    refine TC.seq ?_
    refine TC.seq ?_
    refine TC.region ?_
    refine TL.v rfl (OpVal.moveI (.inl rfl) rfl) rfl rfl ?_
    refine TL.v rfl (OpVal.fieldLoc rfl fo25_3 rfl) rfl rfl ?_
    refine TL.v rfl (OpVal.loadLoc rfl ag23 rfl (i := 5) rfl rfl) rfl rfl ?_
    refine TL.v rfl (OpVal.lenC rfl Try.underlying23 rfl) rfl rfl ?_
    refine TL.v rfl (OpVal.lss rfl rfl rfl) rfl rfl ?_
    refine TL.nil ?_
    refine S.n ?_
    refine TC.condD rfl (fun h17 => ?_) (fun h17 => ?_)
    · try simp only [decide_eq_true_eq, decide_eq_false_iff_not, Bool.not_eq_true', Bool.not_eq_false', Bool.not_eq_eq_eq_not, Bool.not_true, Bool.not_false, Int.not_lt, Int.not_le, Decidable.not_not] at h17
      refine TC.skip ?_
      refine S.n ?_
      refine TC.seq ?_
      refine TC.block ?_
      refine TC.seq ?_
      refine TC.region ?_
      refine TL.v rfl (OpVal.fieldLoc rfl fo25_3 rfl) rfl rfl ?_
      refine TL.v rfl (OpVal.loadLoc rfl ag23 rfl (i := 5) rfl rfl) rfl rfl ?_
      refine TL.v rfl (OpVal.moveI (.inl rfl) rfl) rfl rfl ?_
      refine TL.v rfl (OpVal.indexN rfl Try.underlying23 sz80 rfl rfl (by first | assumption | exact (RS.rv (by assumption)).sl) (by omega)) rfl rfl ?_
      refine TL.v rfl (OpVal.loadSA Arrow.zero rfl ag80 sz80 rfl (by assumption) (by omega) (by omega)) rfl rfl ?_
      refine TL.op rfl (OpOk.alloc rfl ze80 rfl rfl (fun b18 => ?_))
      refine TL.op rfl (OpOk.storeAll rfl sz80 rfl rfl rfl rfl rfl rfl ?_)
      refine TL.nil ?_
      refine S.n ?_
      refine TC.seq ?_
      refine TC.region ?_
      refine TL.v rfl (OpVal.fieldLoc rfl fo80_0 rfl) rfl rfl ?_
      refine TL.v rfl (OpVal.loadLoc rfl ag3 rfl (i := 0) rfl rfl) rfl rfl ?_
      refine TL.v rfl (OpVal.fieldLoc rfl fo25_1 rfl) rfl rfl ?_
      refine TL.v rfl (OpVal.loadLoc rfl ag22 rfl (i := 6) rfl rfl) rfl rfl ?_
      refine TL.op rfl (OpOk.callP (in_con _ _ _ _ _ (by first | exact hn.s | exact hn.e)) rfl rfl pf59 rfl rfl rfl ?_)
      refine TL.v rfl (OpVal.moveB (.inr rfl) rfl) rfl rfl ?_
      refine TL.nil ?_
      refine S.n ?_
      refine TC.seq ?_
      refine TC.region ?_
      refine TL.v rfl (OpVal.fieldLoc rfl fo80_1 rfl) rfl rfl ?_
      refine TL.v rfl (OpVal.loadLoc rfl ag3 rfl (i := 0) rfl rfl) rfl rfl ?_
      refine TL.v rfl (OpVal.fieldLoc rfl fo25_2 rfl) rfl rfl ?_
      refine TL.v rfl (OpVal.loadLoc rfl ag22 rfl (i := 6) rfl rfl) rfl rfl ?_
      refine TL.op rfl (OpOk.callP (in_con _ _ _ _ _ (by first | exact hn.s | exact hn.e)) rfl rfl pf59 rfl rfl rfl ?_)
      refine TL.v rfl (OpVal.moveB (.inr rfl) rfl) rfl rfl ?_
      refine TL.nil ?_
      refine S.n ?_
      refine TC.seq ?_
      refine TC.seq ?_
      refine TC.region ?_
      refine TL.v rfl (OpVal.moveB (.inl rfl) rfl) rfl rfl ?_
      refine TL.nil ?_
      refine S.n ?_
      refine TC.cond rfl (fun h20 => ?_) (fun h20 => ?_)
      · try simp only [decide_eq_true_eq, decide_eq_false_iff_not, Bool.not_eq_true', Bool.not_eq_false', Bool.not_eq_eq_eq_not, Bool.not_true, Bool.not_false, Int.not_lt, Int.not_le, Decidable.not_not] at h20
        refine TC.region ?_
        refine TL.v rfl (OpVal.fieldLoc rfl fo25_3 rfl) rfl rfl ?_
        refine TL.v rfl (OpVal.loadLoc rfl ag23 rfl (i := 1) rfl rfl) rfl rfl ?_
        refine TL.v rfl (OpVal.moveI (.inl rfl) rfl) rfl rfl ?_
        refine TL.v rfl (OpVal.fieldLoc rfl fo80_1 rfl) rfl rfl ?_
        refine TL.v rfl (OpVal.loadLoc rfl ag3 rfl (i := 0) rfl rfl) rfl rfl ?_
        refine TL.v rfl (OpVal.fieldLoc rfl fo80_2 rfl) rfl rfl ?_
        refine TL.v rfl (OpVal.loadLocA rfl ag28 sz28 rfl (i := 0) rfl rfl rfl) rfl rfl ?_
        refine TL.v rfl (OpVal.buildL rfl pl80 ze80 rfl) rfl rfl ?_
        refine TL.op rfl (OpOk.lit (enc := encE) [⟨n.states, (nth n.edges g1 Arrow.zero).to, (nth n.edges g1 Arrow.zero).set⟩] rfl Try.underlying23 sz80 ze80 rfl rfl rfl encE_len (by decide) (by decide) Arrow.zero rfl (by decide) rfl (by decide) encE_one (fun a21 c22 => ?_))
        refine TL.front 3 rfl rfl ?_
        refine TL.op rfl (OpOk.appendS rfl rfl Try.underlying23 sz80 by80 ze80 rfl rfl (by decide) rfl rfl rfl (.inr ⟨_, 0, rfl⟩) (by (try simp only [List.length_cons, List.length_nil, List.length_append]); omega) (by decide) (fun a24 c25 => ?_))
        refine TL.v rfl (OpVal.fieldLoc rfl fo25_3 rfl) rfl rfl ?_
        refine TL.front 3 rfl rfl ?_
        refine TL.op rfl (OpOk.storeSl rfl sz23 rfl rfl rfl rfl rfl ?_)
        refine TL.nil ?_
        refine S.n ?_
        refine TC.seq ?_
        refine TC.seq ?_
        refine TC.region ?_
        refine TL.v rfl (OpVal.moveB (.inl rfl) rfl) rfl rfl ?_
        refine TL.nil ?_
        refine S.n ?_
        refine TC.cond rfl (fun h26 => ?_) (fun h26 => ?_)
        · try simp only [decide_eq_true_eq, decide_eq_false_iff_not, Bool.not_eq_true', Bool.not_eq_false', Bool.not_eq_eq_eq_not, Bool.not_true, Bool.not_false, Int.not_lt, Int.not_le, Decidable.not_not] at h26
          refine TC.region ?_
          refine TL.v rfl (OpVal.fieldLoc rfl fo25_3 rfl) rfl rfl ?_
          refine TL.v rfl (OpVal.loadLoc rfl ag23 rfl (i := 0) rfl rfl) rfl rfl ?_
          refine TL.v rfl (OpVal.fieldLoc rfl fo80_0 rfl) rfl rfl ?_
          refine TL.v rfl (OpVal.loadLoc rfl ag3 rfl (i := 3) rfl rfl) rfl rfl ?_
          refine TL.v rfl (OpVal.moveI (.inl rfl) rfl) rfl rfl ?_
          refine TL.v rfl (OpVal.fieldLoc rfl fo80_2 rfl) rfl rfl ?_
          refine TL.v rfl (OpVal.loadLocA rfl ag28 sz28 rfl (i := 3) rfl rfl rfl) rfl rfl ?_
          refine TL.v rfl (OpVal.buildL rfl pl80 ze80 rfl) rfl rfl ?_
          refine TL.op rfl (OpOk.lit (enc := encE) [⟨(nth n.edges g1 Arrow.zero).frm, n.states, (nth n.edges g1 Arrow.zero).set⟩] rfl Try.underlying23 sz80 ze80 rfl rfl rfl encE_len (by decide) (by decide) Arrow.zero rfl (by decide) rfl (by decide) encE_one (fun a27 c28 => ?_))
          refine TL.front 2 rfl rfl ?_
          refine TL.op rfl (OpOk.appendS rfl rfl Try.underlying23 sz80 by80 ze80 rfl rfl (by decide) rfl rfl rfl (.inr ⟨_, 0, rfl⟩) (by (try simp only [List.length_cons, List.length_nil, List.length_append]); omega) (by decide) (fun a30 c31 => ?_))
          refine TL.v rfl (OpVal.fieldLoc rfl fo25_3 rfl) rfl rfl ?_
          refine TL.front 2 rfl rfl ?_
          refine TL.op rfl (OpOk.storeSl rfl sz23 rfl rfl rfl rfl rfl ?_)
          refine TL.nil ?_
          refine S.n ?_
          refine TC.seq ?_
          refine TC.region ?_
          refine TL.v rfl (OpVal.moveB (.inl rfl) rfl) rfl rfl ?_
          refine TL.v rfl (OpVal.moveB (.inl rfl) rfl) rfl rfl ?_
          refine TL.split 76 rfl (fun h32 => ?_) (fun h32 => ?_)
          · try simp only [decide_eq_true_eq, decide_eq_false_iff_not, Bool.not_eq_true', Bool.not_eq_false', Bool.not_eq_eq_eq_not, Bool.not_true, Bool.not_false, Int.not_lt, Int.not_le, Decidable.not_not] at h32
            refine TL.gv rfl rfl rfl rfl rfl (OpVal.moveB (.inl rfl) rfl) rfl rfl ?_
            refine TL.v rfl (OpVal.pickTB rfl rfl rfl) rfl rfl ?_
            refine TL.nil ?_
            refine S.n ?_
            refine TC.cond rfl (fun h33 => ?_) (fun h33 => ?_)
            · try simp only [decide_eq_true_eq, decide_eq_false_iff_not, Bool.not_eq_true', Bool.not_eq_false', Bool.not_eq_eq_eq_not, Bool.not_true, Bool.not_false, Int.not_lt, Int.not_le, Decidable.not_not] at h33
              refine TC.region ?_
              refine TL.v rfl (OpVal.fieldLoc rfl fo25_3 rfl) rfl rfl ?_
              refine TL.v rfl (OpVal.loadLoc rfl ag23 rfl (i := 0) rfl rfl) rfl rfl ?_
              refine TL.v rfl (OpVal.moveI (.inl rfl) rfl) rfl rfl ?_
              refine TL.v rfl (OpVal.moveI (.inl rfl) rfl) rfl rfl ?_
              refine TL.v rfl (OpVal.fieldLoc rfl fo80_2 rfl) rfl rfl ?_
              refine TL.v rfl (OpVal.loadLocA rfl ag28 sz28 rfl (i := 4) rfl rfl rfl) rfl rfl ?_
              refine TL.v rfl (OpVal.buildL rfl pl80 ze80 rfl) rfl rfl ?_
              refine TL.op rfl (OpOk.lit (enc := encE) [⟨n.states, n.states, (nth n.edges g1 Arrow.zero).set⟩] rfl Try.underlying23 sz80 ze80 rfl rfl rfl encE_len (by decide) (by decide) Arrow.zero rfl (by decide) rfl (by decide) encE_one (fun a34 c35 => ?_))
              refine TL.front 2 rfl rfl ?_
              refine TL.op rfl (OpOk.appendS rfl rfl Try.underlying23 sz80 by80 ze80 rfl rfl (by decide) rfl rfl rfl (.inr ⟨_, 0, rfl⟩) (by (try simp only [List.length_cons, List.length_nil, List.length_append]); omega) (by decide) (fun a37 c38 => ?_))
              refine TL.v rfl (OpVal.fieldLoc rfl fo25_3 rfl) rfl rfl ?_
              refine TL.front 2 rfl rfl ?_
              refine TL.op rfl (OpOk.storeSl rfl sz23 rfl rfl rfl rfl rfl ?_)
              refine TL.nil ?_
              refine B.n ?_
              refine S.n ?_
              refine TC.region ?_
              refine TL.v rfl (OpVal.moveI (.inl rfl) rfl) rfl rfl ?_
              refine TL.v rfl (OpVal.succ rfl rfl rfl (by omega)) rfl rfl ?_
              refine TL.v rfl (OpVal.moveI (.inr rfl) rfl) rfl rfl ?_
              refine TL.front 9 rfl rfl ?_
              refine TL.front 9 rfl rfl ?_
              refine TL.front 9 rfl rfl ?_
              refine TL.front 9 rfl rfl ?_
              refine TL.front 5 rfl rfl ?_
              refine TL.front 5 rfl rfl ?_
              refine TL.takeN 6 rfl ?_
              refine TL.nil ?_
              refine S.n ?_
              -- leaf 2 next [h5: False; h17: True; h20: True; h26: True; h32: t76=True; h33: True] H=['q13', 'q14', 'q11', 'q8', 'q4', 'q2']
              refine ⟨by repeat (first | exact Agr.mask | refine Agr.upd rfl ?_ | refine Agr.maskIn rfl ?_), (g1 + 1, a37, c38), ?_, ?_, ?_, ?_, ?_⟩
              · show n.edges.length - (g1 + 1) < n.edges.length - g1; omega
              · show g1 + 1 ≤ n.edges.length; omega
              · repeat (first | exact trivial | refine ⟨rfl, ?_⟩)
              · show _ = [Res.cells _ #[_, _, _, .slice _ (starTo n (g1 + 1)).length _] _, Res.rowS _ _ _ (.slice _ (starTo n (g1 + 1)).length _) (starTo n (g1 + 1)), _, _, _, _]
                rw [starC_tt (by omega) h20 h26]; rfl
              · rfl
            · try simp only [decide_eq_true_eq, decide_eq_false_iff_not, Bool.not_eq_true', Bool.not_eq_false', Bool.not_eq_eq_eq_not, Bool.not_true, Bool.not_false, Int.not_lt, Int.not_le, Decidable.not_not] at h33
              refine TC.skip ?_
              refine B.n ?_
              refine S.n ?_
              refine TC.region ?_
              refine TL.v rfl (OpVal.moveI (.inl rfl) rfl) rfl rfl ?_
              refine TL.v rfl (OpVal.succ rfl rfl rfl (by omega)) rfl rfl ?_
              refine TL.v rfl (OpVal.moveI (.inr rfl) rfl) rfl rfl ?_
              refine TL.front 8 rfl rfl ?_
              refine TL.front 8 rfl rfl ?_
              refine TL.front 8 rfl rfl ?_
              refine TL.front 8 rfl rfl ?_
              refine TL.front 5 rfl rfl ?_
              refine TL.front 5 rfl rfl ?_
              refine TL.takeN 6 rfl ?_
              refine TL.nil ?_
              refine S.n ?_
              -- leaf 3 next [h5: False; h17: True; h20: True; h26: True; h32: t76=True; h33: False] H=['q13', 'q14', 'q11', 'q8', 'q4', 'q2']
              exact absurd (h33.symm.trans h26) Bool.false_ne_true
          · try simp only [decide_eq_true_eq, decide_eq_false_iff_not, Bool.not_eq_true', Bool.not_eq_false', Bool.not_eq_eq_eq_not, Bool.not_true, Bool.not_false, Int.not_lt, Int.not_le, Decidable.not_not] at h32
            refine TL.goff rfl rfl rfl rfl rfl rfl rfl rfl ?_
            refine TL.v rfl (OpVal.pickFB rfl rfl rfl) rfl rfl ?_
            refine TL.nil ?_
            refine S.n ?_
            refine TC.cond rfl (fun h => Bool.noConfusion h) (fun _ => ?_)
            refine TC.skip ?_
            refine B.n ?_
            refine S.n ?_
            refine TC.region ?_
            refine TL.v rfl (OpVal.moveI (.inl rfl) rfl) rfl rfl ?_
            refine TL.v rfl (OpVal.succ rfl rfl rfl (by omega)) rfl rfl ?_
            refine TL.v rfl (OpVal.moveI (.inr rfl) rfl) rfl rfl ?_
            refine TL.front 8 rfl rfl ?_
            refine TL.front 8 rfl rfl ?_
            refine TL.front 8 rfl rfl ?_
            refine TL.front 8 rfl rfl ?_
            refine TL.front 5 rfl rfl ?_
            refine TL.front 5 rfl rfl ?_
            refine TL.takeN 6 rfl ?_
            refine TL.nil ?_
            refine S.n ?_
            -- leaf 4 next [h5: False; h17: True; h20: True; h26: True; h32: t76=False] H=['q13', 'q14', 'q11', 'q8', 'q4', 'q2']
            exact absurd (h32.symm.trans h20) Bool.false_ne_true
        · try simp only [decide_eq_true_eq, decide_eq_false_iff_not, Bool.not_eq_true', Bool.not_eq_false', Bool.not_eq_eq_eq_not, Bool.not_true, Bool.not_false, Int.not_lt, Int.not_le, Decidable.not_not] at h26
          refine TC.skip ?_
          refine S.n ?_
          refine TC.seq ?_
          refine TC.region ?_
          refine TL.v rfl (OpVal.moveB (.inl rfl) rfl) rfl rfl ?_
          refine TL.v rfl (OpVal.moveB (.inl rfl) rfl) rfl rfl ?_
          refine TL.split 76 rfl (fun h39 => ?_) (fun h39 => ?_)
          · try simp only [decide_eq_true_eq, decide_eq_false_iff_not, Bool.not_eq_true', Bool.not_eq_false', Bool.not_eq_eq_eq_not, Bool.not_true, Bool.not_false, Int.not_lt, Int.not_le, Decidable.not_not] at h39
            refine TL.gv rfl rfl rfl rfl rfl (OpVal.moveB (.inl rfl) rfl) rfl rfl ?_
            refine TL.v rfl (OpVal.pickTB rfl rfl rfl) rfl rfl ?_
            refine TL.nil ?_
            refine S.n ?_
            refine TC.cond rfl (fun h40 => ?_) (fun h40 => ?_)
            · try simp only [decide_eq_true_eq, decide_eq_false_iff_not, Bool.not_eq_true', Bool.not_eq_false', Bool.not_eq_eq_eq_not, Bool.not_true, Bool.not_false, Int.not_lt, Int.not_le, Decidable.not_not] at h40
              refine TC.region ?_
              refine TL.v rfl (OpVal.fieldLoc rfl fo25_3 rfl) rfl rfl ?_
              refine TL.v rfl (OpVal.loadLoc rfl ag23 rfl (i := 0) rfl rfl) rfl rfl ?_
              refine TL.v rfl (OpVal.moveI (.inl rfl) rfl) rfl rfl ?_
              refine TL.v rfl (OpVal.moveI (.inl rfl) rfl) rfl rfl ?_
              refine TL.v rfl (OpVal.fieldLoc rfl fo80_2 rfl) rfl rfl ?_
              refine TL.v rfl (OpVal.loadLocA rfl ag28 sz28 rfl (i := 3) rfl rfl rfl) rfl rfl ?_
              refine TL.v rfl (OpVal.buildL rfl pl80 ze80 rfl) rfl rfl ?_
              refine TL.op rfl (OpOk.lit (enc := encE) [⟨n.states, n.states, (nth n.edges g1 Arrow.zero).set⟩] rfl Try.underlying23 sz80 ze80 rfl rfl rfl encE_len (by decide) (by decide) Arrow.zero rfl (by decide) rfl (by decide) encE_one (fun a41 c42 => ?_))
              refine TL.front 2 rfl rfl ?_
              refine TL.op rfl (OpOk.appendS rfl rfl Try.underlying23 sz80 by80 ze80 rfl rfl (by decide) rfl rfl rfl (.inr ⟨_, 0, rfl⟩) (by (try simp only [List.length_cons, List.length_nil, List.length_append]); omega) (by decide) (fun a44 c45 => ?_))
              refine TL.v rfl (OpVal.fieldLoc rfl fo25_3 rfl) rfl rfl ?_
              refine TL.front 2 rfl rfl ?_
              refine TL.op rfl (OpOk.storeSl rfl sz23 rfl rfl rfl rfl rfl ?_)
              refine TL.nil ?_
              refine B.n ?_
              refine S.n ?_
              refine TC.region ?_
              refine TL.v rfl (OpVal.moveI (.inl rfl) rfl) rfl rfl ?_
              refine TL.v rfl (OpVal.succ rfl rfl rfl (by omega)) rfl rfl ?_
              refine TL.v rfl (OpVal.moveI (.inr rfl) rfl) rfl rfl ?_
              refine TL.front 8 rfl rfl ?_
              refine TL.front 8 rfl rfl ?_
              refine TL.front 8 rfl rfl ?_
              refine TL.front 8 rfl rfl ?_
              refine TL.front 5 rfl rfl ?_
              refine TL.front 5 rfl rfl ?_
              refine TL.takeN 6 rfl ?_
              refine TL.nil ?_
              refine S.n ?_
              -- leaf 5 next [h5: False; h17: True; h20: True; h26: False; h39: t76=True; h40: True] H=['q13', 'q14', 'q11', 'q8', 'q4', 'q2']
              exact absurd (h26.symm.trans h40) Bool.false_ne_true
            · try simp only [decide_eq_true_eq, decide_eq_false_iff_not, Bool.not_eq_true', Bool.not_eq_false', Bool.not_eq_eq_eq_not, Bool.not_true, Bool.not_false, Int.not_lt, Int.not_le, Decidable.not_not] at h40
              refine TC.skip ?_
              refine B.n ?_
              refine S.n ?_
              refine TC.region ?_
              refine TL.v rfl (OpVal.moveI (.inl rfl) rfl) rfl rfl ?_
              refine TL.v rfl (OpVal.succ rfl rfl rfl (by omega)) rfl rfl ?_
              refine TL.v rfl (OpVal.moveI (.inr rfl) rfl) rfl rfl ?_
              refine TL.front 7 rfl rfl ?_
              refine TL.front 7 rfl rfl ?_
              refine TL.front 7 rfl rfl ?_
              refine TL.front 7 rfl rfl ?_
              refine TL.front 5 rfl rfl ?_
              refine TL.front 5 rfl rfl ?_
              refine TL.takeN 6 rfl ?_
              refine TL.nil ?_
              refine S.n ?_
              -- leaf 6 next [h5: False; h17: True; h20: True; h26: False; h39: t76=True; h40: False] H=['q13', 'q14', 'q11', 'q8', 'q4', 'q2']
              refine ⟨by repeat (first | exact Agr.mask | refine Agr.upd rfl ?_ | refine Agr.maskIn rfl ?_), (g1 + 1, a24, c25), ?_, ?_, ?_, ?_, ?_⟩
              · show n.edges.length - (g1 + 1) < n.edges.length - g1; omega
              · show g1 + 1 ≤ n.edges.length; omega
              · repeat (first | exact trivial | refine ⟨rfl, ?_⟩)
              · show _ = [Res.cells _ #[_, _, _, .slice _ (starTo n (g1 + 1)).length _] _, Res.rowS _ _ _ (.slice _ (starTo n (g1 + 1)).length _) (starTo n (g1 + 1)), _, _, _, _]
                rw [starC_tf (by omega) h20 h26]; rfl
              · rfl
          · try simp only [decide_eq_true_eq, decide_eq_false_iff_not, Bool.not_eq_true', Bool.not_eq_false', Bool.not_eq_eq_eq_not, Bool.not_true, Bool.not_false, Int.not_lt, Int.not_le, Decidable.not_not] at h39
            refine TL.goff rfl rfl rfl rfl rfl rfl rfl rfl ?_
            refine TL.v rfl (OpVal.pickFB rfl rfl rfl) rfl rfl ?_
            refine TL.nil ?_
            refine S.n ?_
            refine TC.cond rfl (fun h => Bool.noConfusion h) (fun _ => ?_)
            refine TC.skip ?_
            refine B.n ?_
            refine S.n ?_
            refine TC.region ?_
            refine TL.v rfl (OpVal.moveI (.inl rfl) rfl) rfl rfl ?_
            refine TL.v rfl (OpVal.succ rfl rfl rfl (by omega)) rfl rfl ?_
            refine TL.v rfl (OpVal.moveI (.inr rfl) rfl) rfl rfl ?_
            refine TL.front 7 rfl rfl ?_
            refine TL.front 7 rfl rfl ?_
            refine TL.front 7 rfl rfl ?_
            refine TL.front 7 rfl rfl ?_
            refine TL.front 5 rfl rfl ?_
            refine TL.front 5 rfl rfl ?_
            refine TL.takeN 6 rfl ?_
            refine TL.nil ?_
            refine S.n ?_
            -- leaf 7 next [h5: False; h17: True; h20: True; h26: False; h39: t76=False] H=['q13', 'q14', 'q11', 'q8', 'q4', 'q2']
            exact absurd (h39.symm.trans h20) Bool.false_ne_true
      · try simp only [decide_eq_true_eq, decide_eq_false_iff_not, Bool.not_eq_true', Bool.not_eq_false', Bool.not_eq_eq_eq_not, Bool.not_true, Bool.not_false, Int.not_lt, Int.not_le, Decidable.not_not] at h20
        refine TC.skip ?_
        refine S.n ?_
        refine TC.seq ?_
        refine TC.seq ?_
        refine TC.region ?_
        refine TL.v rfl (OpVal.moveB (.inl rfl) rfl) rfl rfl ?_
        refine TL.nil ?_
        refine S.n ?_
        refine TC.cond rfl (fun h46 => ?_) (fun h46 => ?_)
        · try simp only [decide_eq_true_eq, decide_eq_false_iff_not, Bool.not_eq_true', Bool.not_eq_false', Bool.not_eq_eq_eq_not, Bool.not_true, Bool.not_false, Int.not_lt, Int.not_le, Decidable.not_not] at h46
          refine TC.region ?_
          refine TL.v rfl (OpVal.fieldLoc rfl fo25_3 rfl) rfl rfl ?_
          refine TL.v rfl (OpVal.loadLoc rfl ag23 rfl (i := 1) rfl rfl) rfl rfl ?_
          refine TL.v rfl (OpVal.fieldLoc rfl fo80_0 rfl) rfl rfl ?_
          refine TL.v rfl (OpVal.loadLoc rfl ag3 rfl (i := 0) rfl rfl) rfl rfl ?_
          refine TL.v rfl (OpVal.moveI (.inl rfl) rfl) rfl rfl ?_
          refine TL.v rfl (OpVal.fieldLoc rfl fo80_2 rfl) rfl rfl ?_
          refine TL.v rfl (OpVal.loadLocA rfl ag28 sz28 rfl (i := 0) rfl rfl rfl) rfl rfl ?_
          refine TL.v rfl (OpVal.buildL rfl pl80 ze80 rfl) rfl rfl ?_
          refine TL.op rfl (OpOk.lit (enc := encE) [⟨(nth n.edges g1 Arrow.zero).frm, n.states, (nth n.edges g1 Arrow.zero).set⟩] rfl Try.underlying23 sz80 ze80 rfl rfl rfl encE_len (by decide) (by decide) Arrow.zero rfl (by decide) rfl (by decide) encE_one (fun a47 c48 => ?_))
          refine TL.front 3 rfl rfl ?_
          refine TL.op rfl (OpOk.appendS rfl rfl Try.underlying23 sz80 by80 ze80 rfl rfl (by decide) rfl rfl rfl (.inr ⟨_, 0, rfl⟩) (by (try simp only [List.length_cons, List.length_nil, List.length_append]); omega) (by decide) (fun a50 c51 => ?_))
          refine TL.v rfl (OpVal.fieldLoc rfl fo25_3 rfl) rfl rfl ?_
          refine TL.front 3 rfl rfl ?_
          refine TL.op rfl (OpOk.storeSl rfl sz23 rfl rfl rfl rfl rfl ?_)
          refine TL.nil ?_
          refine S.n ?_
          refine TC.seq ?_
          refine TC.region ?_
          refine TL.v rfl (OpVal.moveB (.inl rfl) rfl) rfl rfl ?_
          refine TL.v rfl (OpVal.moveB (.inl rfl) rfl) rfl rfl ?_
          refine TL.split 76 rfl (fun h52 => ?_) (fun h52 => ?_)
          · try simp only [decide_eq_true_eq, decide_eq_false_iff_not, Bool.not_eq_true', Bool.not_eq_false', Bool.not_eq_eq_eq_not, Bool.not_true, Bool.not_false, Int.not_lt, Int.not_le, Decidable.not_not] at h52
            refine TL.gv rfl rfl rfl rfl rfl (OpVal.moveB (.inl rfl) rfl) rfl rfl ?_
            refine TL.v rfl (OpVal.pickTB rfl rfl rfl) rfl rfl ?_
            refine TL.nil ?_
            refine S.n ?_
            refine TC.cond rfl (fun h53 => ?_) (fun h53 => ?_)
            · try simp only [decide_eq_true_eq, decide_eq_false_iff_not, Bool.not_eq_true', Bool.not_eq_false', Bool.not_eq_eq_eq_not, Bool.not_true, Bool.not_false, Int.not_lt, Int.not_le, Decidable.not_not] at h53
              refine TC.region ?_
              refine TL.v rfl (OpVal.fieldLoc rfl fo25_3 rfl) rfl rfl ?_
              refine TL.v rfl (OpVal.loadLoc rfl ag23 rfl (i := 0) rfl rfl) rfl rfl ?_
              refine TL.v rfl (OpVal.moveI (.inl rfl) rfl) rfl rfl ?_
              refine TL.v rfl (OpVal.moveI (.inl rfl) rfl) rfl rfl ?_
              refine TL.v rfl (OpVal.fieldLoc rfl fo80_2 rfl) rfl rfl ?_
              refine TL.v rfl (OpVal.loadLocA rfl ag28 sz28 rfl (i := 3) rfl rfl rfl) rfl rfl ?_
              refine TL.v rfl (OpVal.buildL rfl pl80 ze80 rfl) rfl rfl ?_
              refine TL.op rfl (OpOk.lit (enc := encE) [⟨n.states, n.states, (nth n.edges g1 Arrow.zero).set⟩] rfl Try.underlying23 sz80 ze80 rfl rfl rfl encE_len (by decide) (by decide) Arrow.zero rfl (by decide) rfl (by decide) encE_one (fun a54 c55 => ?_))
              refine TL.front 2 rfl rfl ?_
              refine TL.op rfl (OpOk.appendS rfl rfl Try.underlying23 sz80 by80 ze80 rfl rfl (by decide) rfl rfl rfl (.inr ⟨_, 0, rfl⟩) (by (try simp only [List.length_cons, List.length_nil, List.length_append]); omega) (by decide) (fun a57 c58 => ?_))
              refine TL.v rfl (OpVal.fieldLoc rfl fo25_3 rfl) rfl rfl ?_
              refine TL.front 2 rfl rfl ?_
              refine TL.op rfl (OpOk.storeSl rfl sz23 rfl rfl rfl rfl rfl ?_)
              refine TL.nil ?_
              refine B.n ?_
              refine S.n ?_
              refine TC.region ?_
              refine TL.v rfl (OpVal.moveI (.inl rfl) rfl) rfl rfl ?_
              refine TL.v rfl (OpVal.succ rfl rfl rfl (by omega)) rfl rfl ?_
              refine TL.v rfl (OpVal.moveI (.inr rfl) rfl) rfl rfl ?_
              refine TL.front 8 rfl rfl ?_
              refine TL.front 8 rfl rfl ?_
              refine TL.front 8 rfl rfl ?_
              refine TL.front 8 rfl rfl ?_
              refine TL.front 5 rfl rfl ?_
              refine TL.front 5 rfl rfl ?_
              refine TL.takeN 6 rfl ?_
              refine TL.nil ?_
              refine S.n ?_
              -- leaf 8 next [h5: False; h17: True; h20: False; h46: True; h52: t76=True; h53: True] H=['q13', 'q14', 'q11', 'q8', 'q4', 'q2']
              exact absurd (h20.symm.trans h52) Bool.false_ne_true
            · try simp only [decide_eq_true_eq, decide_eq_false_iff_not, Bool.not_eq_true', Bool.not_eq_false', Bool.not_eq_eq_eq_not, Bool.not_true, Bool.not_false, Int.not_lt, Int.not_le, Decidable.not_not] at h53
              refine TC.skip ?_
              refine B.n ?_
              refine S.n ?_
              refine TC.region ?_
              refine TL.v rfl (OpVal.moveI (.inl rfl) rfl) rfl rfl ?_
              refine TL.v rfl (OpVal.succ rfl rfl rfl (by omega)) rfl rfl ?_
              refine TL.v rfl (OpVal.moveI (.inr rfl) rfl) rfl rfl ?_
              refine TL.front 7 rfl rfl ?_
              refine TL.front 7 rfl rfl ?_
              refine TL.front 7 rfl rfl ?_
              refine TL.front 7 rfl rfl ?_
              refine TL.front 5 rfl rfl ?_
              refine TL.front 5 rfl rfl ?_
              refine TL.takeN 6 rfl ?_
              refine TL.nil ?_
              refine S.n ?_
              -- leaf 9 next [h5: False; h17: True; h20: False; h46: True; h52: t76=True; h53: False] H=['q13', 'q14', 'q11', 'q8', 'q4', 'q2']
              exact absurd (h20.symm.trans h52) Bool.false_ne_true
          · try simp only [decide_eq_true_eq, decide_eq_false_iff_not, Bool.not_eq_true', Bool.not_eq_false', Bool.not_eq_eq_eq_not, Bool.not_true, Bool.not_false, Int.not_lt, Int.not_le, Decidable.not_not] at h52
            refine TL.goff rfl rfl rfl rfl rfl rfl rfl rfl ?_
            refine TL.v rfl (OpVal.pickFB rfl rfl rfl) rfl rfl ?_
            refine TL.nil ?_
            refine S.n ?_
            refine TC.cond rfl (fun h => Bool.noConfusion h) (fun _ => ?_)
            refine TC.skip ?_
            refine B.n ?_
            refine S.n ?_
            refine TC.region ?_
            refine TL.v rfl (OpVal.moveI (.inl rfl) rfl) rfl rfl ?_
            refine TL.v rfl (OpVal.succ rfl rfl rfl (by omega)) rfl rfl ?_
            refine TL.v rfl (OpVal.moveI (.inr rfl) rfl) rfl rfl ?_
            refine TL.front 7 rfl rfl ?_
            refine TL.front 7 rfl rfl ?_
            refine TL.front 7 rfl rfl ?_
            refine TL.front 7 rfl rfl ?_
            refine TL.front 5 rfl rfl ?_
            refine TL.front 5 rfl rfl ?_
            refine TL.takeN 6 rfl ?_
            refine TL.nil ?_
            refine S.n ?_
            -- leaf 10 next [h5: False; h17: True; h20: False; h46: True; h52: t76=False] H=['q13', 'q14', 'q11', 'q8', 'q4', 'q2']
            refine ⟨by repeat (first | exact Agr.mask | refine Agr.upd rfl ?_ | refine Agr.maskIn rfl ?_), (g1 + 1, a50, c51), ?_, ?_, ?_, ?_, ?_⟩
            · show n.edges.length - (g1 + 1) < n.edges.length - g1; omega
            · show g1 + 1 ≤ n.edges.length; omega
            · repeat (first | exact trivial | refine ⟨rfl, ?_⟩)
            · show _ = [Res.cells _ #[_, _, _, .slice _ (starTo n (g1 + 1)).length _] _, Res.rowS _ _ _ (.slice _ (starTo n (g1 + 1)).length _) (starTo n (g1 + 1)), _, _, _, _]
              rw [starC_ft (by omega) h20 h46]; rfl
            · rfl
        · try simp only [decide_eq_true_eq, decide_eq_false_iff_not, Bool.not_eq_true', Bool.not_eq_false', Bool.not_eq_eq_eq_not, Bool.not_true, Bool.not_false, Int.not_lt, Int.not_le, Decidable.not_not] at h46
          refine TC.skip ?_
          refine S.n ?_
          refine TC.seq ?_
          refine TC.region ?_
          refine TL.v rfl (OpVal.moveB (.inl rfl) rfl) rfl rfl ?_
          refine TL.v rfl (OpVal.moveB (.inl rfl) rfl) rfl rfl ?_
          refine TL.split 76 rfl (fun h59 => ?_) (fun h59 => ?_)
          · try simp only [decide_eq_true_eq, decide_eq_false_iff_not, Bool.not_eq_true', Bool.not_eq_false', Bool.not_eq_eq_eq_not, Bool.not_true, Bool.not_false, Int.not_lt, Int.not_le, Decidable.not_not] at h59
            refine TL.gv rfl rfl rfl rfl rfl (OpVal.moveB (.inl rfl) rfl) rfl rfl ?_
            refine TL.v rfl (OpVal.pickTB rfl rfl rfl) rfl rfl ?_
            refine TL.nil ?_
            refine S.n ?_
            refine TC.cond rfl (fun h60 => ?_) (fun h60 => ?_)
            · try simp only [decide_eq_true_eq, decide_eq_false_iff_not, Bool.not_eq_true', Bool.not_eq_false', Bool.not_eq_eq_eq_not, Bool.not_true, Bool.not_false, Int.not_lt, Int.not_le, Decidable.not_not] at h60
              refine TC.region ?_
              refine TL.v rfl (OpVal.fieldLoc rfl fo25_3 rfl) rfl rfl ?_
              refine TL.v rfl (OpVal.loadLoc rfl ag23 rfl (i := 1) rfl rfl) rfl rfl ?_
              refine TL.v rfl (OpVal.moveI (.inl rfl) rfl) rfl rfl ?_
              refine TL.v rfl (OpVal.moveI (.inl rfl) rfl) rfl rfl ?_
              refine TL.v rfl (OpVal.fieldLoc rfl fo80_2 rfl) rfl rfl ?_
              refine TL.v rfl (OpVal.loadLocA rfl ag28 sz28 rfl (i := 0) rfl rfl rfl) rfl rfl ?_
              refine TL.v rfl (OpVal.buildL rfl pl80 ze80 rfl) rfl rfl ?_
              refine TL.op rfl (OpOk.lit (enc := encE) [⟨n.states, n.states, (nth n.edges g1 Arrow.zero).set⟩] rfl Try.underlying23 sz80 ze80 rfl rfl rfl encE_len (by decide) (by decide) Arrow.zero rfl (by decide) rfl (by decide) encE_one (fun a61 c62 => ?_))
              refine TL.front 3 rfl rfl ?_
              refine TL.op rfl (OpOk.appendS rfl rfl Try.underlying23 sz80 by80 ze80 rfl rfl (by decide) rfl rfl rfl (.inr ⟨_, 0, rfl⟩) (by (try simp only [List.length_cons, List.length_nil, List.length_append]); omega) (by decide) (fun a64 c65 => ?_))
              refine TL.v rfl (OpVal.fieldLoc rfl fo25_3 rfl) rfl rfl ?_
              refine TL.front 3 rfl rfl ?_
              refine TL.op rfl (OpOk.storeSl rfl sz23 rfl rfl rfl rfl rfl ?_)
              refine TL.nil ?_
              refine B.n ?_
              refine S.n ?_
              refine TC.region ?_
              refine TL.v rfl (OpVal.moveI (.inl rfl) rfl) rfl rfl ?_
              refine TL.v rfl (OpVal.succ rfl rfl rfl (by omega)) rfl rfl ?_
              refine TL.v rfl (OpVal.moveI (.inr rfl) rfl) rfl rfl ?_
              refine TL.front 7 rfl rfl ?_
              refine TL.front 7 rfl rfl ?_
              refine TL.front 7 rfl rfl ?_
              refine TL.front 7 rfl rfl ?_
              refine TL.front 5 rfl rfl ?_
              refine TL.front 5 rfl rfl ?_
              refine TL.takeN 6 rfl ?_
              refine TL.nil ?_
              refine S.n ?_
              -- leaf 11 next [h5: False; h17: True; h20: False; h46: False; h59: t76=True; h60: True] H=['q13', 'q14', 'q11', 'q8', 'q4', 'q2']
              exact absurd (h20.symm.trans h59) Bool.false_ne_true
            · try simp only [decide_eq_true_eq, decide_eq_false_iff_not, Bool.not_eq_true', Bool.not_eq_false', Bool.not_eq_eq_eq_not, Bool.not_true, Bool.not_false, Int.not_lt, Int.not_le, Decidable.not_not] at h60
              refine TC.skip ?_
              refine B.n ?_
              refine S.n ?_
              refine TC.region ?_
              refine TL.v rfl (OpVal.moveI (.inl rfl) rfl) rfl rfl ?_
              refine TL.v rfl (OpVal.succ rfl rfl rfl (by omega)) rfl rfl ?_
              refine TL.v rfl (OpVal.moveI (.inr rfl) rfl) rfl rfl ?_
              refine TL.dropN 1 rfl ?_
              refine TL.nil ?_
              refine S.n ?_
              -- leaf 12 next [h5: False; h17: True; h20: False; h46: False; h59: t76=True; h60: False] H=['q13', 'q14', 'q11', 'q8', 'q4', 'q2']
              exact absurd (h20.symm.trans h59) Bool.false_ne_true
          · try simp only [decide_eq_true_eq, decide_eq_false_iff_not, Bool.not_eq_true', Bool.not_eq_false', Bool.not_eq_eq_eq_not, Bool.not_true, Bool.not_false, Int.not_lt, Int.not_le, Decidable.not_not] at h59
            refine TL.goff rfl rfl rfl rfl rfl rfl rfl rfl ?_
            refine TL.v rfl (OpVal.pickFB rfl rfl rfl) rfl rfl ?_
            refine TL.nil ?_
            refine S.n ?_
            refine TC.cond rfl (fun h => Bool.noConfusion h) (fun _ => ?_)
            refine TC.skip ?_
            refine B.n ?_
            refine S.n ?_
            refine TC.region ?_
            refine TL.v rfl (OpVal.moveI (.inl rfl) rfl) rfl rfl ?_
            refine TL.v rfl (OpVal.succ rfl rfl rfl (by omega)) rfl rfl ?_
            refine TL.v rfl (OpVal.moveI (.inr rfl) rfl) rfl rfl ?_
            refine TL.dropN 1 rfl ?_
            refine TL.nil ?_
            refine S.n ?_
            -- leaf 13 next [h5: False; h17: True; h20: False; h46: False; h59: t76=False] H=['q13', 'q14', 'q11', 'q8', 'q4', 'q2']
            refine ⟨by repeat (first | exact Agr.mask | refine Agr.upd rfl ?_ | refine Agr.maskIn rfl ?_), (g1 + 1, ga, gc), ?_, ?_, ?_, ?_, ?_⟩
            · show n.edges.length - (g1 + 1) < n.edges.length - g1; omega
            · show g1 + 1 ≤ n.edges.length; omega
            · repeat (first | exact trivial | refine ⟨rfl, ?_⟩)
            · show _ = [Res.cells _ #[_, _, _, .slice _ (starTo n (g1 + 1)).length _] _, Res.rowS _ _ _ (.slice _ (starTo n (g1 + 1)).length _) (starTo n (g1 + 1)), _, _, _, _]
              rw [starC_ff (by omega) h20 h46]; rfl
            · rfl
    · try simp only [decide_eq_true_eq, decide_eq_false_iff_not, Bool.not_eq_true', Bool.not_eq_false', Bool.not_eq_eq_eq_not, Bool.not_true, Bool.not_false, Int.not_lt, Int.not_le, Decidable.not_not] at h17
      refine TC.exit ?_
      refine S.x ?_
      refine S.x ?_
      refine TC.exitHere ?_
      refine S.n ?_
      refine TC.seq ?_
      obtain rfl : g1 = n.edges.length := by omega
      refine TC.front 1 rfl rfl ?_
      refine TC.sealS encE_len (fun τ68 hle67 hr66 => ?_)
      replace hn := hn.mono hle67
      refine TC.front 1 rfl rfl ?_
      refine TC.sealS encI_len (fun τ71 hle70 hr69 => ?_)
      replace hn := hn.mono hle70
      replace hr66 := hr66.mono hle70
      refine TC.front 1 rfl rfl ?_
      refine TC.sealS encI_len (fun τ74 hle73 hr72 => ?_)
      replace hn := hn.mono hle73
      replace hr66 := hr66.mono hle73
      replace hr69 := hr69.mono hle73
      refine TC.region ?_
      refine TL.v rfl (OpVal.loadAll rfl ag25 sz25 rfl (i := 0) rfl rfl) rfl rfl ?_
      refine TL.op rfl (OpOk.callN (end_con _ (starN n) ⟨a6, c7, a9, c10, ga, gc⟩ ⟨hr72, hr69, hr66, starTo_ok hn.ok _⟩) rfl rfl pf71 rfl rfl rfl (fun pe τ76 hle75 he => ?_))
      replace hn := hn.mono hle75
      replace hr66 := hr66.mono hle75
      replace hr69 := hr69.mono hle75
      replace hr72 := hr72.mono hle75
      refine TL.v rfl (OpVal.extract rfl rfl rfl) rfl rfl ?_
      refine TL.v rfl (OpVal.extract rfl rfl rfl) rfl rfl ?_
      refine TL.front 1 rfl rfl ?_
      refine TL.op rfl (OpOk.storeAll rfl sz25 rfl rfl rfl rfl rfl rfl ?_)
      refine TL.v rfl (OpVal.moveI (.inr rfl) rfl) rfl rfl ?_
      refine TL.nil ?_
      refine S.n ?_
      refine TC.ret ?_
      -- leaf 14 ret [h5: False; h17: False] H=['q4', 'q13', 'q2']
      have hc : checkB n = true := by assumption
      simp only [starR, starX, if_pos hc]
      exact retNfa (m := endR (starN n)) (p := pe) 0 rfl ag25 sz25 rfl rfl rfl rfl he

end Go.Proofs.Ytcidppnlhhkhhaa
end

/- Ref2 -/
section
/- Contracts of the reference of nfa, part two: numbers alike, how often. -/
set_option linter.unusedVariables false
set_option linter.unusedSimpArgs false
namespace Go.Proofs.Ytcidppnlhhkhhaa
open Go Go.E
set_option maxRecDepth 100000

def oftB (least most : Int) : Bool := if most = -1 then decide (least = 0 ∨ least = 1) else decide (0 ≤ least ∧ least ≤ most ∧ most ≤ 64)

theorem often_con (σ : Store) (a b : Int) : Con Try.prog 73 #[.int .i64 a, .int .i64 b] σ [] (PureP (.bool (oftB a b)) σ) := by
  refine Con.mk (n := 24) Try.func73 rfl rfl rfl (fun w0 => ?_)
  refine TC.seq ?_
  refine TC.region ?_
  refine TL.v rfl (OpVal.moveB (.inr rfl) rfl) rfl rfl ?_
  refine TL.nil ?_
  refine S.n ?_
  refine TC.seq ?_
  refine TC.seq ?_
  refine TC.region ?_
  refine TL.v rfl (OpVal.moveI (.inl rfl) rfl) rfl rfl ?_
  refine TL.v rfl (OpVal.eql rfl rfl rfl) rfl rfl ?_
  refine TL.nil ?_
  refine S.n ?_
  refine TC.condD rfl (fun h1 => ?_) (fun h1 => ?_)
  · try simp only [decide_eq_true_eq, decide_eq_false_iff_not, Bool.not_eq_true', Bool.not_eq_false', Bool.not_eq_eq_eq_not, Bool.not_true, Bool.not_false, Int.not_lt, Int.not_le, Decidable.not_not] at h1
    refine TC.seq ?_
    refine TC.region ?_
    refine TL.v rfl (OpVal.moveI (.inl rfl) rfl) rfl rfl ?_
    refine TL.v rfl (OpVal.eql rfl rfl rfl) rfl rfl ?_
    refine TL.v rfl (OpVal.moveB (.inl rfl) rfl) rfl rfl ?_
    refine TL.split 9 rfl (fun h2 => ?_) (fun h2 => ?_)
    · try simp only [decide_eq_true_eq, decide_eq_false_iff_not, Bool.not_eq_true', Bool.not_eq_false', Bool.not_eq_eq_eq_not, Bool.not_true, Bool.not_false, Int.not_lt, Int.not_le, Decidable.not_not] at h2
      refine TL.goff rfl rfl rfl rfl rfl rfl rfl rfl ?_
      refine TL.goff rfl rfl rfl rfl rfl rfl rfl rfl ?_
      refine TL.v rfl (OpVal.pickTB rfl rfl rfl) rfl rfl ?_
      refine TL.v rfl (OpVal.moveB (.inr rfl) rfl) rfl rfl ?_
      refine TL.nil ?_
      refine S.n ?_
      refine TC.ret ?_
      refine S.r ?_
      -- leaf 1 ret [h1: True; h2: t9=True] H=[]
      refine ret1P rfl (congrArg Value.bool ?_)
      unfold oftB
      split <;> first | exact decide_eq_decide.2 (by omega) | (simp <;> omega)
    · try simp only [decide_eq_true_eq, decide_eq_false_iff_not, Bool.not_eq_true', Bool.not_eq_false', Bool.not_eq_eq_eq_not, Bool.not_true, Bool.not_false, Int.not_lt, Int.not_le, Decidable.not_not] at h2
      refine TL.gv rfl rfl rfl rfl rfl (OpVal.moveI (.inl rfl) rfl) rfl rfl ?_
      refine TL.gv rfl rfl rfl rfl rfl (OpVal.eql rfl rfl rfl) rfl rfl ?_
      refine TL.v rfl (OpVal.pickFB rfl rfl rfl) rfl rfl ?_
      refine TL.v rfl (OpVal.moveB (.inr rfl) rfl) rfl rfl ?_
      refine TL.nil ?_
      refine S.n ?_
      refine TC.ret ?_
      refine S.r ?_
      -- leaf 2 ret [h1: True; h2: t9=False] H=[]
      refine ret1P rfl (congrArg Value.bool ?_)
      unfold oftB
      split <;> first | exact decide_eq_decide.2 (by omega) | (simp <;> omega)
  · try simp only [decide_eq_true_eq, decide_eq_false_iff_not, Bool.not_eq_true', Bool.not_eq_false', Bool.not_eq_eq_eq_not, Bool.not_true, Bool.not_false, Int.not_lt, Int.not_le, Decidable.not_not] at h1
    refine TC.skip ?_
    refine S.n ?_
    refine TC.seq ?_
    refine TC.region ?_
    refine TL.v rfl (OpVal.moveI (.inl rfl) rfl) rfl rfl ?_
    refine TL.v rfl (OpVal.leq rfl rfl rfl) rfl rfl ?_
    refine TL.v rfl (OpVal.moveB (.inl rfl) rfl) rfl rfl ?_
    refine TL.split 15 rfl (fun h3 => ?_) (fun h3 => ?_)
    · try simp only [decide_eq_true_eq, decide_eq_false_iff_not, Bool.not_eq_true', Bool.not_eq_false', Bool.not_eq_eq_eq_not, Bool.not_true, Bool.not_false, Int.not_lt, Int.not_le, Decidable.not_not] at h3
      refine TL.gv rfl rfl rfl rfl rfl (OpVal.moveI (.inl rfl) rfl) rfl rfl ?_
      refine TL.gv rfl rfl rfl rfl rfl (OpVal.moveI (.inl rfl) rfl) rfl rfl ?_
      refine TL.gv rfl rfl rfl rfl rfl (OpVal.leq rfl rfl rfl) rfl rfl ?_
      refine TL.v rfl (OpVal.pickTB rfl rfl rfl) rfl rfl ?_
      refine TL.v rfl (OpVal.moveB (.inl rfl) rfl) rfl rfl ?_
      refine TL.split 20 rfl (fun h4 => ?_) (fun h4 => ?_)
      · try simp only [decide_eq_true_eq, decide_eq_false_iff_not, Bool.not_eq_true', Bool.not_eq_false', Bool.not_eq_eq_eq_not, Bool.not_true, Bool.not_false, Int.not_lt, Int.not_le, Decidable.not_not] at h4
        refine TL.gv rfl rfl rfl rfl rfl (OpVal.moveI (.inl rfl) rfl) rfl rfl ?_
        refine TL.gv rfl rfl rfl rfl rfl (OpVal.leq rfl rfl rfl) rfl rfl ?_
        refine TL.v rfl (OpVal.pickTB rfl rfl rfl) rfl rfl ?_
        refine TL.v rfl (OpVal.moveB (.inr rfl) rfl) rfl rfl ?_
        refine TL.nil ?_
        refine S.n ?_
        refine TC.ret ?_
        -- leaf 3 ret [h1: False; h3: t15=True; h4: t20=True] H=[]
        refine ret1P rfl (congrArg Value.bool ?_)
        unfold oftB
        split <;> first | exact decide_eq_decide.2 (by omega) | (simp <;> omega)
      · try simp only [decide_eq_true_eq, decide_eq_false_iff_not, Bool.not_eq_true', Bool.not_eq_false', Bool.not_eq_eq_eq_not, Bool.not_true, Bool.not_false, Int.not_lt, Int.not_le, Decidable.not_not] at h4
        refine TL.goff rfl rfl rfl rfl rfl rfl rfl rfl ?_
        refine TL.goff rfl rfl rfl rfl rfl rfl rfl rfl ?_
        refine TL.v rfl (OpVal.pickFB rfl rfl rfl) rfl rfl ?_
        refine TL.v rfl (OpVal.moveB (.inr rfl) rfl) rfl rfl ?_
        refine TL.nil ?_
        refine S.n ?_
        refine TC.ret ?_
        -- leaf 4 ret [h1: False; h3: t15=True; h4: t20=False] H=[]
        refine ret1P rfl (congrArg Value.bool ?_)
        unfold oftB
        split <;> first | exact decide_eq_decide.2 (by omega) | (simp <;> omega)
    · try simp only [decide_eq_true_eq, decide_eq_false_iff_not, Bool.not_eq_true', Bool.not_eq_false', Bool.not_eq_eq_eq_not, Bool.not_true, Bool.not_false, Int.not_lt, Int.not_le, Decidable.not_not] at h3
      refine TL.goff rfl rfl rfl rfl rfl rfl rfl rfl ?_
      refine TL.goff rfl rfl rfl rfl rfl rfl rfl rfl ?_
      refine TL.goff rfl rfl rfl rfl rfl rfl rfl rfl ?_
      refine TL.v rfl (OpVal.pickFB rfl rfl rfl) rfl rfl ?_
      refine TL.v rfl (OpVal.moveB (.inl rfl) rfl) rfl rfl ?_
      refine TL.goff rfl rfl rfl rfl rfl rfl rfl rfl ?_
      refine TL.goff rfl rfl rfl rfl rfl rfl rfl rfl ?_
      refine TL.v rfl (OpVal.pickFB rfl rfl rfl) rfl rfl ?_
      refine TL.v rfl (OpVal.moveB (.inr rfl) rfl) rfl rfl ?_
      refine TL.nil ?_
      refine S.n ?_
      refine TC.ret ?_
      -- leaf 5 ret [h1: False; h3: t15=False] H=[]
      refine ret1P rfl (congrArg Value.bool ?_)
      unfold oftB
      split <;> first | exact decide_eq_decide.2 (by omega) | (simp <;> omega)

theorem times_con (σ : Store) (a b : Int) : Con Try.prog 75 #[.int .i64 a, .int .i64 b] σ [] (PureP (.bool (oftB a b)) σ) := by
  refine Con.mk (n := 28) Try.func75 rfl rfl rfl (fun w0 => ?_)
  refine TC.seq ?_
  refine TC.region ?_
  refine TL.v rfl (OpVal.moveB (.inr rfl) rfl) rfl rfl ?_
  refine TL.nil ?_
  refine S.n ?_
  refine TC.seq ?_
  refine TC.region ?_
  refine TL.v rfl (OpVal.moveI (.inl rfl) rfl) rfl rfl ?_
  refine TL.v rfl (OpVal.geq rfl rfl rfl) rfl rfl ?_
  refine TL.v rfl (OpVal.moveB (.inl rfl) rfl) rfl rfl ?_
  refine TL.split 7 rfl (fun h1 => ?_) (fun h1 => ?_)
  · try simp only [decide_eq_true_eq, decide_eq_false_iff_not, Bool.not_eq_true', Bool.not_eq_false', Bool.not_eq_eq_eq_not, Bool.not_true, Bool.not_false, Int.not_lt, Int.not_le, Decidable.not_not] at h1
    refine TL.gv rfl rfl rfl rfl rfl (OpVal.moveI (.inl rfl) rfl) rfl rfl ?_
    refine TL.gv rfl rfl rfl rfl rfl (OpVal.leq rfl rfl rfl) rfl rfl ?_
    refine TL.v rfl (OpVal.pickTB rfl rfl rfl) rfl rfl ?_
    refine TL.v rfl (OpVal.moveB (.inl rfl) rfl) rfl rfl ?_
    refine TL.split 11 rfl (fun h2 => ?_) (fun h2 => ?_)
    · try simp only [decide_eq_true_eq, decide_eq_false_iff_not, Bool.not_eq_true', Bool.not_eq_false', Bool.not_eq_eq_eq_not, Bool.not_true, Bool.not_false, Int.not_lt, Int.not_le, Decidable.not_not] at h2
      refine TL.gv rfl rfl rfl rfl rfl (OpVal.moveI (.inl rfl) rfl) rfl rfl ?_
      refine TL.gv rfl rfl rfl rfl rfl (OpVal.eql rfl rfl rfl) rfl rfl ?_
      refine TL.gv rfl rfl rfl rfl rfl (OpVal.moveB (.inl rfl) rfl) rfl rfl ?_
      refine TL.split 14 rfl (fun h3 => ?_) (fun h3 => ?_)
      · try simp only [decide_eq_true_eq, decide_eq_false_iff_not, Bool.not_eq_true', Bool.not_eq_false', Bool.not_eq_eq_eq_not, Bool.not_true, Bool.not_false, Int.not_lt, Int.not_le, Decidable.not_not] at h3
        refine TL.gv rfl rfl rfl rfl rfl (OpVal.moveI (.inl rfl) rfl) rfl rfl ?_
        refine TL.gv rfl rfl rfl rfl rfl (OpVal.leq rfl rfl rfl) rfl rfl ?_
        refine TL.gv rfl rfl rfl rfl rfl (OpVal.pickTB rfl rfl rfl) rfl rfl ?_
        refine TL.gv rfl rfl rfl rfl rfl (OpVal.moveB (.inl rfl) rfl) rfl rfl ?_
        refine TL.split 18 rfl (fun h4 => ?_) (fun h4 => ?_)
        · try simp only [decide_eq_true_eq, decide_eq_false_iff_not, Bool.not_eq_true', Bool.not_eq_false', Bool.not_eq_eq_eq_not, Bool.not_true, Bool.not_false, Int.not_lt, Int.not_le, Decidable.not_not] at h4
          refine TL.goff rfl rfl rfl rfl rfl rfl rfl rfl ?_
          refine TL.goff rfl rfl rfl rfl rfl rfl rfl rfl ?_
          refine TL.goff rfl rfl rfl rfl rfl rfl rfl rfl ?_
          refine TL.goff rfl rfl rfl rfl rfl rfl rfl rfl ?_
          refine TL.goff' rfl rfl rfl rfl rfl rfl rfl ?_
          refine TL.goff' rfl rfl rfl rfl rfl rfl rfl ?_
          refine TL.goff rfl rfl rfl rfl rfl rfl rfl rfl ?_
          refine TL.gv rfl rfl rfl rfl rfl (OpVal.pickTB rfl rfl rfl) rfl rfl ?_
          refine TL.v rfl (OpVal.pickTB rfl rfl rfl) rfl rfl ?_
          refine TL.v rfl (OpVal.moveB (.inr rfl) rfl) rfl rfl ?_
          refine TL.nil ?_
          refine S.n ?_
          refine TC.ret ?_
          -- leaf 1 ret [h1: t7=True; h2: t11=True; h3: t14=True; h4: t18=True] H=[]
          refine ret1P rfl (congrArg Value.bool ?_)
          unfold oftB
          split <;> first | exact decide_eq_decide.2 (by omega) | (simp <;> omega)
        · try simp only [decide_eq_true_eq, decide_eq_false_iff_not, Bool.not_eq_true', Bool.not_eq_false', Bool.not_eq_eq_eq_not, Bool.not_true, Bool.not_false, Int.not_lt, Int.not_le, Decidable.not_not] at h4
          refine TL.gv rfl rfl rfl rfl rfl (OpVal.moveI (.inl rfl) rfl) rfl rfl ?_
          refine TL.gv rfl rfl rfl rfl rfl (OpVal.moveI (.inl rfl) rfl) rfl rfl ?_
          refine TL.gv rfl rfl rfl rfl rfl (OpVal.geq rfl rfl rfl) rfl rfl ?_
          refine TL.gv rfl rfl rfl rfl rfl (OpVal.moveB (.inl rfl) rfl) rfl rfl ?_
          refine TL.split 22 rfl (fun h5 => ?_) (fun h5 => ?_)
          · try simp only [decide_eq_true_eq, decide_eq_false_iff_not, Bool.not_eq_true', Bool.not_eq_false', Bool.not_eq_eq_eq_not, Bool.not_true, Bool.not_false, Int.not_lt, Int.not_le, Decidable.not_not] at h5
            refine TL.gv rfl rfl rfl rfl rfl (OpVal.moveI (.inl rfl) rfl) rfl rfl ?_
            refine TL.gv rfl rfl rfl rfl rfl (OpVal.leq rfl rfl rfl) rfl rfl ?_
            refine TL.gv rfl rfl rfl rfl rfl (OpVal.pickTB rfl rfl rfl) rfl rfl ?_
            refine TL.gv rfl rfl rfl rfl rfl (OpVal.pickFB rfl rfl rfl) rfl rfl ?_
            refine TL.v rfl (OpVal.pickTB rfl rfl rfl) rfl rfl ?_
            refine TL.v rfl (OpVal.moveB (.inr rfl) rfl) rfl rfl ?_
            refine TL.nil ?_
            refine S.n ?_
            refine TC.ret ?_
            -- leaf 2 ret [h1: t7=True; h2: t11=True; h3: t14=True; h4: t18=False; h5: t22=True] H=[]
            refine ret1P rfl (congrArg Value.bool ?_)
            unfold oftB
            split <;> first | exact decide_eq_decide.2 (by omega) | (simp <;> omega)
          · try simp only [decide_eq_true_eq, decide_eq_false_iff_not, Bool.not_eq_true', Bool.not_eq_false', Bool.not_eq_eq_eq_not, Bool.not_true, Bool.not_false, Int.not_lt, Int.not_le, Decidable.not_not] at h5
            refine TL.goff rfl rfl rfl rfl rfl rfl rfl rfl ?_
            refine TL.goff rfl rfl rfl rfl rfl rfl rfl rfl ?_
            refine TL.gv rfl rfl rfl rfl rfl (OpVal.pickFB rfl rfl rfl) rfl rfl ?_
            refine TL.gv rfl rfl rfl rfl rfl (OpVal.pickFB rfl rfl rfl) rfl rfl ?_
            refine TL.v rfl (OpVal.pickTB rfl rfl rfl) rfl rfl ?_
            refine TL.v rfl (OpVal.moveB (.inr rfl) rfl) rfl rfl ?_
            refine TL.nil ?_
            refine S.n ?_
            refine TC.ret ?_
            -- leaf 3 ret [h1: t7=True; h2: t11=True; h3: t14=True; h4: t18=False; h5: t22=False] H=[]
            refine ret1P rfl (congrArg Value.bool ?_)
            unfold oftB
            split <;> first | exact decide_eq_decide.2 (by omega) | (simp <;> omega)
      · try simp only [decide_eq_true_eq, decide_eq_false_iff_not, Bool.not_eq_true', Bool.not_eq_false', Bool.not_eq_eq_eq_not, Bool.not_true, Bool.not_false, Int.not_lt, Int.not_le, Decidable.not_not] at h3
        refine TL.goff rfl rfl rfl rfl rfl rfl rfl rfl ?_
        refine TL.goff rfl rfl rfl rfl rfl rfl rfl rfl ?_
        refine TL.gv rfl rfl rfl rfl rfl (OpVal.pickFB rfl rfl rfl) rfl rfl ?_
        refine TL.gv rfl rfl rfl rfl rfl (OpVal.moveB (.inl rfl) rfl) rfl rfl ?_
        refine TL.gv rfl rfl rfl rfl rfl (OpVal.moveI (.inl rfl) rfl) rfl rfl ?_
        refine TL.gv rfl rfl rfl rfl rfl (OpVal.moveI (.inl rfl) rfl) rfl rfl ?_
        refine TL.gv rfl rfl rfl rfl rfl (OpVal.geq rfl rfl rfl) rfl rfl ?_
        refine TL.gv rfl rfl rfl rfl rfl (OpVal.moveB (.inl rfl) rfl) rfl rfl ?_
        refine TL.split 22 rfl (fun h6 => ?_) (fun h6 => ?_)
        · try simp only [decide_eq_true_eq, decide_eq_false_iff_not, Bool.not_eq_true', Bool.not_eq_false', Bool.not_eq_eq_eq_not, Bool.not_true, Bool.not_false, Int.not_lt, Int.not_le, Decidable.not_not] at h6
          refine TL.gv rfl rfl rfl rfl rfl (OpVal.moveI (.inl rfl) rfl) rfl rfl ?_
          refine TL.gv rfl rfl rfl rfl rfl (OpVal.leq rfl rfl rfl) rfl rfl ?_
          refine TL.gv rfl rfl rfl rfl rfl (OpVal.pickTB rfl rfl rfl) rfl rfl ?_
          refine TL.gv rfl rfl rfl rfl rfl (OpVal.pickFB rfl rfl rfl) rfl rfl ?_
          refine TL.v rfl (OpVal.pickTB rfl rfl rfl) rfl rfl ?_
          refine TL.v rfl (OpVal.moveB (.inr rfl) rfl) rfl rfl ?_
          refine TL.nil ?_
          refine S.n ?_
          refine TC.ret ?_
          -- leaf 4 ret [h1: t7=True; h2: t11=True; h3: t14=False; h6: t22=True] H=[]
          refine ret1P rfl (congrArg Value.bool ?_)
          unfold oftB
          split <;> first | exact decide_eq_decide.2 (by omega) | (simp <;> omega)
        · try simp only [decide_eq_true_eq, decide_eq_false_iff_not, Bool.not_eq_true', Bool.not_eq_false', Bool.not_eq_eq_eq_not, Bool.not_true, Bool.not_false, Int.not_lt, Int.not_le, Decidable.not_not] at h6
          refine TL.goff rfl rfl rfl rfl rfl rfl rfl rfl ?_
          refine TL.goff rfl rfl rfl rfl rfl rfl rfl rfl ?_
          refine TL.gv rfl rfl rfl rfl rfl (OpVal.pickFB rfl rfl rfl) rfl rfl ?_
          refine TL.gv rfl rfl rfl rfl rfl (OpVal.pickFB rfl rfl rfl) rfl rfl ?_
          refine TL.v rfl (OpVal.pickTB rfl rfl rfl) rfl rfl ?_
          refine TL.v rfl (OpVal.moveB (.inr rfl) rfl) rfl rfl ?_
          refine TL.nil ?_
          refine S.n ?_
          refine TC.ret ?_
          -- leaf 5 ret [h1: t7=True; h2: t11=True; h3: t14=False; h6: t22=False] H=[]
          refine ret1P rfl (congrArg Value.bool ?_)
          unfold oftB
          split <;> first | exact decide_eq_decide.2 (by omega) | (simp <;> omega)
    · try simp only [decide_eq_true_eq, decide_eq_false_iff_not, Bool.not_eq_true', Bool.not_eq_false', Bool.not_eq_eq_eq_not, Bool.not_true, Bool.not_false, Int.not_lt, Int.not_le, Decidable.not_not] at h2
      refine TL.goff rfl rfl rfl rfl rfl rfl rfl rfl ?_
      refine TL.goff rfl rfl rfl rfl rfl rfl rfl rfl ?_
      refine TL.goff rfl rfl rfl rfl rfl rfl rfl rfl ?_
      refine TL.goff' rfl rfl rfl rfl rfl rfl rfl ?_
      refine TL.goff' rfl rfl rfl rfl rfl rfl rfl ?_
      refine TL.goff rfl rfl rfl rfl rfl rfl rfl rfl ?_
      refine TL.goff rfl rfl rfl rfl rfl rfl rfl rfl ?_
      refine TL.goff' rfl rfl rfl rfl rfl rfl rfl ?_
      refine TL.goff' rfl rfl rfl rfl rfl rfl rfl ?_
      refine TL.goff' rfl rfl rfl rfl rfl rfl rfl ?_
      refine TL.goff' rfl rfl rfl rfl rfl rfl rfl ?_
      refine TL.goff' rfl rfl rfl rfl rfl rfl rfl ?_
      refine TL.goff' rfl rfl rfl rfl rfl rfl rfl ?_
      refine TL.goff' rfl rfl rfl rfl rfl rfl rfl ?_
      refine TL.goff rfl rfl rfl rfl rfl rfl rfl rfl ?_
      refine TL.v rfl (OpVal.pickFB rfl rfl rfl) rfl rfl ?_
      refine TL.v rfl (OpVal.moveB (.inr rfl) rfl) rfl rfl ?_
      refine TL.nil ?_
      refine S.n ?_
      refine TC.ret ?_
      -- leaf 6 ret [h1: t7=True; h2: t11=False] H=[]
      refine ret1P rfl (congrArg Value.bool ?_)
      unfold oftB
      split <;> first | exact decide_eq_decide.2 (by omega) | (simp <;> omega)
  · try simp only [decide_eq_true_eq, decide_eq_false_iff_not, Bool.not_eq_true', Bool.not_eq_false', Bool.not_eq_eq_eq_not, Bool.not_true, Bool.not_false, Int.not_lt, Int.not_le, Decidable.not_not] at h1
    refine TL.goff rfl rfl rfl rfl rfl rfl rfl rfl ?_
    refine TL.goff rfl rfl rfl rfl rfl rfl rfl rfl ?_
    refine TL.v rfl (OpVal.pickFB rfl rfl rfl) rfl rfl ?_
    refine TL.v rfl (OpVal.moveB (.inl rfl) rfl) rfl rfl ?_
    refine TL.goff rfl rfl rfl rfl rfl rfl rfl rfl ?_
    refine TL.goff rfl rfl rfl rfl rfl rfl rfl rfl ?_
    refine TL.goff rfl rfl rfl rfl rfl rfl rfl rfl ?_
    refine TL.goff' rfl rfl rfl rfl rfl rfl rfl ?_
    refine TL.goff' rfl rfl rfl rfl rfl rfl rfl ?_
    refine TL.goff rfl rfl rfl rfl rfl rfl rfl rfl ?_
    refine TL.goff rfl rfl rfl rfl rfl rfl rfl rfl ?_
    refine TL.goff' rfl rfl rfl rfl rfl rfl rfl ?_
    refine TL.goff' rfl rfl rfl rfl rfl rfl rfl ?_
    refine TL.goff' rfl rfl rfl rfl rfl rfl rfl ?_
    refine TL.goff' rfl rfl rfl rfl rfl rfl rfl ?_
    refine TL.goff' rfl rfl rfl rfl rfl rfl rfl ?_
    refine TL.goff' rfl rfl rfl rfl rfl rfl rfl ?_
    refine TL.goff' rfl rfl rfl rfl rfl rfl rfl ?_
    refine TL.goff rfl rfl rfl rfl rfl rfl rfl rfl ?_
    refine TL.v rfl (OpVal.pickFB rfl rfl rfl) rfl rfl ?_
    refine TL.v rfl (OpVal.moveB (.inr rfl) rfl) rfl rfl ?_
    refine TL.nil ?_
    refine S.n ?_
    refine TC.ret ?_
    -- leaf 7 ret [h1: t7=False] H=[]
    refine ret1P rfl (congrArg Value.bool ?_)
    unfold oftB
    split <;> first | exact decide_eq_decide.2 (by omega) | (simp <;> omega)

theorem list_eq_nth {α : Type} {l m : List α} (d : α) (h : l.length = m.length) (hi : ∀ i, i < l.length → nth l i d = nth m i d) : l = m := by
  apply List.ext_getElem? 
  intro i
  by_cases hl : i < l.length
  · rw [getD_some l hl d, getD_some m (by omega) d, hi i hl]
  · rw [List.getElem?_eq_none (by omega), List.getElem?_eq_none (by omega)]

theorem ints_con (σ : Store) (a : Option Addr) (c : Nat) (l : List Int) (a' : Option Addr) (c' : Nat) (m : List Int) (hl : RS σ 1 Go.E.encI (.slice a l.length c) l) (hm : RS σ 1 Go.E.encI (.slice a' m.length c') m) :
    Con Try.prog 46 #[.slice a l.length c, .slice a' m.length c'] σ [] (PureP (.bool (decide (l = m))) σ) := by
  have hb := hl.rv.big
  refine Con.mk (n := 26) Try.func46 rfl rfl rfl (fun w0 => ?_)
  refine TC.seq ?_
  refine TC.region ?_
  refine TL.v rfl (OpVal.moveB (.inr rfl) rfl) rfl rfl ?_
  refine TL.nil ?_
  refine S.n ?_
  refine TC.seq ?_
  refine TC.seq ?_
  refine TC.region ?_
  refine TL.v rfl (OpVal.moveSl (.inl rfl) rfl) rfl rfl ?_
  refine TL.v rfl (OpVal.lenC rfl Try.underlying22 rfl) rfl rfl ?_
  refine TL.v rfl (OpVal.moveSl (.inl rfl) rfl) rfl rfl ?_
  refine TL.v rfl (OpVal.lenC rfl Try.underlying22 rfl) rfl rfl ?_
  refine TL.v rfl (OpVal.neq rfl rfl rfl) rfl rfl ?_
  refine TL.nil ?_
  refine S.n ?_
  refine TC.condD rfl (fun h1 => ?_) (fun h1 => ?_)
  · try simp only [decide_eq_true_eq, decide_eq_false_iff_not, Bool.not_eq_true', Bool.not_eq_false', Bool.not_eq_eq_eq_not, Bool.not_true, Bool.not_false, Int.not_lt, Int.not_le, Decidable.not_not] at h1
    refine TC.seq ?_
    refine TC.region ?_
    refine TL.v rfl (OpVal.moveB (.inr rfl) rfl) rfl rfl ?_
    refine TL.nil ?_
    refine S.n ?_
    refine TC.ret ?_
    refine S.r ?_
    -- leaf 1 ret [h1: True] H=[]
    refine ret1P rfl (congrArg Value.bool ?_)
    exact (decide_eq_false fun h => by subst h; omega).symm
  · try simp only [decide_eq_true_eq, decide_eq_false_iff_not, Bool.not_eq_true', Bool.not_eq_false', Bool.not_eq_eq_eq_not, Bool.not_true, Bool.not_false, Int.not_lt, Int.not_le, Decidable.not_not] at h1
    refine TC.skip ?_
    refine S.n ?_
    refine TC.seq ?_
    refine TC.seq ?_
    refine TC.region ?_
    refine TL.v rfl (OpVal.moveI (.inr rfl) rfl) rfl rfl ?_
    refine TL.nil ?_
    refine S.n ?_
    refine TC.block ?_
    refine TC.loopF (α := Nat) [4, 5, 11, 12, 13, 14, 15, 16, 17, 18, 19, 20, 21, 22, 23, 24, 25] (fun k => [(5, .int .i64 (k : Nat))]) (fun _ => _) (fun _ => _) (fun k => k ≤ l.length ∧ ∀ i, i < k → nth l i 0 = nth m i 0) (fun k => l.length - k) (0) (by first | exact True.intro | omega | (dsimp only; omega) | (simp; done) | (simp; omega)) (by repeat (first | exact trivial | refine ⟨rfl, ?_⟩)) (by rfl) (by rfl) (fun g1 j1 hg1 => ?_)
    obtain ⟨hk, hi⟩ := hg1
    refine TC.seq ?_
    refine TC.seq ?_
    refine TC.region ?_
    refine TL.v rfl (OpVal.moveI (.inl rfl) rfl) rfl rfl ?_
    refine TL.v rfl (OpVal.moveSl (.inl rfl) rfl) rfl rfl ?_
    refine TL.v rfl (OpVal.lenC rfl Try.underlying22 rfl) rfl rfl ?_
    refine TL.v rfl (OpVal.lss rfl rfl rfl) rfl rfl ?_
    refine TL.nil ?_
    refine S.n ?_
    refine TC.condD rfl (fun h2 => ?_) (fun h2 => ?_)
    · try simp only [decide_eq_true_eq, decide_eq_false_iff_not, Bool.not_eq_true', Bool.not_eq_false', Bool.not_eq_eq_eq_not, Bool.not_true, Bool.not_false, Int.not_lt, Int.not_le, Decidable.not_not] at h2
      refine TC.skip ?_
      refine S.n ?_
      refine TC.seq ?_
      refine TC.block ?_
      refine TC.seq ?_
      refine TC.draw [] (by kernel_rfl) ?_
      refine TA.takeP 0 rfl (by kernel_rfl) (by kernel_rfl) (by kernel_rfl) rfl (OpVal.moveSl (.inl rfl) rfl) rfl rfl ?_
      refine TA.takeP 1 rfl (by kernel_rfl) (by kernel_rfl) (by kernel_rfl) rfl (OpVal.moveI (.inl rfl) rfl) rfl rfl ?_
      refine TA.takeP 2 rfl (by kernel_rfl) (by kernel_rfl) (by kernel_rfl) rfl (OpVal.indexN rfl Try.underlying22 sz3 rfl rfl (by first | assumption | exact (RS.rv (by assumption)).sl) (by omega)) rfl rfl ?_
      refine TA.take 3 rfl (by kernel_rfl) (by kernel_rfl) (by kernel_rfl) (by kernel_rfl) rfl (OpVal.loadS1 (0 : Int) rfl ag3 rfl (by assumption) (by omega) rfl) rfl rfl ?_
      refine TA.takeP 4 rfl (by kernel_rfl) (by kernel_rfl) (by kernel_rfl) rfl (OpVal.moveSl (.inl rfl) rfl) rfl rfl ?_
      refine TA.takeP 5 rfl (by kernel_rfl) (by kernel_rfl) (by kernel_rfl) rfl (OpVal.moveI (.inl rfl) rfl) rfl rfl ?_
      refine TA.takeP 6 rfl (by kernel_rfl) (by kernel_rfl) (by kernel_rfl) rfl (OpVal.indexN rfl Try.underlying22 sz3 rfl rfl (by first | assumption | exact (RS.rv (by assumption)).sl) (by omega)) rfl rfl ?_
      refine TA.take 7 rfl (by kernel_rfl) (by kernel_rfl) (by kernel_rfl) (by kernel_rfl) rfl (OpVal.loadS1 (0 : Int) rfl ag3 rfl (by assumption) (by omega) rfl) rfl rfl ?_
      refine TA.takeP 8 rfl (by kernel_rfl) (by kernel_rfl) (by kernel_rfl) rfl (OpVal.neq rfl rfl rfl) rfl rfl ?_
      refine TA.done (by kernel_rfl) ?_
      refine S.n ?_
      refine TC.condD rfl (fun h3 => ?_) (fun h3 => ?_)
      · try simp only [decide_eq_true_eq, decide_eq_false_iff_not, Bool.not_eq_true', Bool.not_eq_false', Bool.not_eq_eq_eq_not, Bool.not_true, Bool.not_false, Int.not_lt, Int.not_le, Decidable.not_not] at h3
        refine TC.seq ?_
        refine TC.region ?_
        refine TL.v rfl (OpVal.moveB (.inr rfl) rfl) rfl rfl ?_
        refine TL.nil ?_
        refine S.n ?_
        refine TC.ret ?_
        refine B.r ?_
        refine S.r ?_
        refine S.r ?_
        refine B.r ?_
        refine S.r ?_
        -- leaf 2 ret [h1: False; h2: True; h3: True] H=[]
        refine ret1P rfl (congrArg Value.bool ?_)
        exact (decide_eq_false fun h => by subst h; omega).symm
      · try simp only [decide_eq_true_eq, decide_eq_false_iff_not, Bool.not_eq_true', Bool.not_eq_false', Bool.not_eq_eq_eq_not, Bool.not_true, Bool.not_false, Int.not_lt, Int.not_le, Decidable.not_not] at h3
        refine TC.skip ?_
        refine B.n ?_
        refine S.n ?_
        refine TC.region ?_
        refine TL.v rfl (OpVal.moveI (.inl rfl) rfl) rfl rfl ?_
        refine TL.v rfl (OpVal.succ rfl rfl rfl (by omega)) rfl rfl ?_
        refine TL.v rfl (OpVal.moveI (.inr rfl) rfl) rfl rfl ?_
        refine TL.nil ?_
        refine S.n ?_
        -- leaf 3 next [h1: False; h2: True; h3: False] H=[]
        refine ⟨by repeat (first | exact Agr.mask | refine Agr.upd rfl ?_ | refine Agr.maskIn rfl ?_), g1 + 1, ?_, ?_, ?_, ?_, ?_⟩
        · omega
        · exact ⟨by omega, fun j hj => by rcases Nat.lt_succ_iff_lt_or_eq.1 hj with h | rfl; exact hi j h; omega⟩
        · repeat (first | exact trivial | refine ⟨rfl, ?_⟩)
        · rfl
        · rfl
    · try simp only [decide_eq_true_eq, decide_eq_false_iff_not, Bool.not_eq_true', Bool.not_eq_false', Bool.not_eq_eq_eq_not, Bool.not_true, Bool.not_false, Int.not_lt, Int.not_le, Decidable.not_not] at h2
      refine TC.exit ?_
      refine S.x ?_
      refine S.x ?_
      refine TC.exitHere ?_
      refine S.n ?_
      refine TC.seq ?_
      refine TC.region ?_
      refine TL.v rfl (OpVal.moveB (.inr rfl) rfl) rfl rfl ?_
      refine TL.nil ?_
      refine S.n ?_
      refine TC.ret ?_
      -- leaf 4 ret [h1: False; h2: False] H=[]
      refine ret1P rfl (congrArg Value.bool ?_)
      exact (decide_eq_true (list_eq_nth 0 (by omega) (fun i h => hi i (by omega)))).symm

end Go.Proofs.Ytcidppnlhhkhhaa
end

/- Ref3 -/
section
/- Contracts of the reference of nfa, part three: two automatons alike. -/
set_option linter.unusedVariables false
set_option linter.unusedSimpArgs false
namespace Go.E
open Go
instance : DecidableEq Arrow := fun a b => decidable_of_iff (a.frm = b.frm ∧ a.to = b.to ∧ a.set = b.set) (by cases a; cases b; simp)
theorem Arrow.eq_iff (u v : Arrow) : u = v ↔ u.frm = v.frm ∧ u.to = v.to ∧ u.set = v.set := by cases u; cases v; simp
section
variable {P : Program}
theorem run_eqEdge {T TI TS TU : TypeId} {f1 f2 f3 : Field} (d : Nat) (hu : P.underlying T = some (.struct (P.fieldsOf T))) (hp : P.stoodInHeld T = false) (hf : (P.fieldsOf T).toList = [f1, f2, f3])
    (hn : f1.name ≠ "_" ∧ f2.name ≠ "_" ∧ f3.name ≠ "_") (ht : f1.type = TI ∧ f2.type = TI ∧ f3.type = TS) (ho : f1.offset = 0 ∧ f2.offset = 1 ∧ f3.offset = 2)
    (hI : P.underlying TI = some (.int .i64)) (hIA : aggOf P TI = some false) (hS : P.underlying TS = some (.array 4 TU)) (hSA : aggOf P TS = some true) (hSz : szOf P TS = some 4)
    (hU : P.underlying TU = some (.int .u64)) (hUA : aggOf P TU = some false) (hUz : szOf P TU = some 1) (u v : Arrow) (w : World) :
    (Op.equalIn (d + 3) T (.agg (encE u).toArray) (.agg (encE v).toArray)).run P w = .ok (decide (u = v)) w := by
  obtain ⟨n1, n2, n3⟩ := hn
  obtain ⟨t1, t2, t3⟩ := ht
  obtain ⟨o1, o2, o3⟩ := ho
  rw [run_equalIn_struct w (d + 2) T _ _ hu hp, hf]
  have h0 : ∀ (a b : Int), (Op.equalIn (d + 2) TI (.int .i64 a) (.int .i64 b)).run P w = .ok (decide (a = b)) w := fun a b => by
    rw [run_equalIn_int w (d + 1) TI .i64 .i64 a b hI]; rfl
  have p : ∀ (cs : Array Value) (i : Nat) (x : Value), cs[i]? = some x → (part TI cs i).run P w = .ok x w := fun cs i x h => run_part_one hIA h w
  simp only [Op.eqFields, n1, n2, n3, t1, t2, t3, o1, o2, o3, ne_eq, not_false_eq_true, if_true, Sem.run_bind]
  rw [p _ 0 (.int .i64 u.frm) rfl, Result.andThen_ok, p _ 0 (.int .i64 v.frm) rfl, Result.andThen_ok, h0, Result.andThen_ok]
  by_cases e0 : u.frm = v.frm
  · simp only [e0, decide_true, Bool.not_true, Bool.false_eq_true, if_false, Sem.run_bind]
    rw [p _ 1 (.int .i64 u.to) rfl, Result.andThen_ok, p _ 1 (.int .i64 v.to) rfl, Result.andThen_ok, h0, Result.andThen_ok]
    by_cases e1 : u.to = v.to
    · simp only [e1, decide_true, Bool.not_true, Bool.false_eq_true, if_false, Sem.run_bind]
      rw [run_part_agg hSA hSz, Result.andThen_ok, run_part_agg hSA hSz, Result.andThen_ok]
      have h4 := run_eqArr4 (P := P) d hS hU hUA hUz (u.set.a : Nat) (u.set.b : Nat) (u.set.c : Nat) (u.set.d : Nat) (v.set.a : Nat) (v.set.b : Nat) (v.set.c : Nat) (v.set.d : Nat) w
      rw [show (encE u).toArray.extract 2 (2 + 4) = #[.int .u64 (u.set.a : Nat), .int .u64 (u.set.b : Nat), .int .u64 (u.set.c : Nat), .int .u64 (u.set.d : Nat)] from rfl,
        show (encE v).toArray.extract 2 (2 + 4) = #[.int .u64 (v.set.a : Nat), .int .u64 (v.set.b : Nat), .int .u64 (v.set.c : Nat), .int .u64 (v.set.d : Nat)] from rfl, h4, Result.andThen_ok]
      by_cases e2 : u.set = v.set
      · have e3 := (BSet.eq_iff _ _).1 e2
        have e4 : u = v := (Arrow.eq_iff u v).2 ⟨e0, e1, e2⟩
        simp [e3, e4]
      · have e3 : ¬ _ := fun h => e2 ((BSet.eq_iff _ _).2 h)
        have e4 : ¬ u = v := fun h => e2 (by rw [h])
        rw [decide_eq_false e3, decide_eq_false e4]; simp
    · have e4 : ¬ u = v := fun h => e1 (by rw [h])
      simp [e1, e4]
  · have e4 : ¬ u = v := fun h => e0 (by rw [h])
    simp [e0, e4]
variable {n : Nat} {e : Env} {σ : Store} {H : List Res} {o : Oper} {x y : Operand}
theorem OpVal.neqEdge {T T' TI TS TU : TypeId} {f1 f2 f3 : Field} {xs ys : Array Value} {u v : Arrow} (ho : o.op = .binOp .neq T x y T') (hu : P.underlying T = some (.struct (P.fieldsOf T))) (hp : P.stoodInHeld T = false) (hf : (P.fieldsOf T).toList = [f1, f2, f3])
    (hn : f1.name ≠ "_" ∧ f2.name ≠ "_" ∧ f3.name ≠ "_") (ht : f1.type = TI ∧ f2.type = TI ∧ f3.type = TS) (hof : f1.offset = 0 ∧ f2.offset = 1 ∧ f3.offset = 2)
    (hI : P.underlying TI = some (.int .i64)) (hIA : aggOf P TI = some false) (hS : P.underlying TS = some (.array 4 TU)) (hSA : aggOf P TS = some true) (hSz : szOf P TS = some 4)
    (hU : P.underlying TU = some (.int .u64)) (hUA : aggOf P TU = some false) (hUz : szOf P TU = some 1) (hg : P.eqGuardType P.depth T = false)
    (hx : ev e x = .agg xs) (hy : ev e y = .agg ys) (hxs : xs = (encE u).toArray) (hys : ys = (encE v).toArray) : OpVal P n o e σ H (.bool (!decide (u = v))) := fun w _ => by
  subst hxs hys
  have h := run_eqEdge (P := P) 9997 hu hp hf hn ht hof hI hIA hS hSA hSz hU hUA hUz u v w
  simp only [execOp, ho, hx, hy, Sem.run_bind, run_eqGuard_agg _ _ _ _ _ _ _ hg, Result.andThen_ok]
  rw [run_neq_agg' (by simp) h rfl]; rfl
end
end Go.E
namespace Go.Proofs.Ytcidppnlhhkhhaa
open Go Go.E
set_option maxRecDepth 100000

def fE1 : Field := { name := "From", type := 3, offset := 0, embedded := false, tag := "", pkgPath := "", byteOffset := 0 }
def fE2 : Field := { name := "To", type := 3, offset := 1, embedded := false, tag := "", pkgPath := "", byteOffset := 8 }
def fE3 : Field := { name := "Set", type := 28, offset := 2, embedded := false, tag := "", pkgPath := "", byteOffset := 16 }
theorem unE : Try.prog.underlying 80 = some (.struct (Try.prog.fieldsOf 80)) := by kernel_rfl
theorem stE : Try.prog.stoodInHeld 80 = false := by kernel_rfl
theorem egE : Try.prog.eqGuardType Try.prog.depth 80 = false := by kernel_rfl
theorem fsE : (Try.prog.fieldsOf 80).toList = [fE1, fE2, fE3] := by kernel_rfl

def sameB (x y : Nfa) : Bool := decide (x.states = y.states) && decide (x.starts = y.starts) && decide (x.ends = y.ends) && decide (x.edges = y.edges)
theorem sameB_iff (x y : Nfa) : sameB x y = true ↔ x = y := by
  cases x; cases y
  simp [sameB, and_assoc]
theorem same_con (σ : Store) (x y : Nfa) (p q : NfaP) (hx : RNfa σ x p) (hy : RNfa σ y q) : Con Try.prog 20 #[nfaV x p, nfaV y q] σ [] (PureP (.bool (sameB x y)) σ) := by
  have hd := hx.d
  have hd' := hy.d
  have hb := hx.d.rv.big
  refine Con.mk (n := 54) Try.func20 rfl rfl rfl (fun w0 => ?_)
  refine TC.seq ?_
  refine TC.region ?_
  refine TL.op rfl (OpOk.boxA rfl rfl rfl rfl (fun b1 => ?_))
  refine TL.op rfl (OpOk.boxA rfl rfl rfl rfl (fun b3 => ?_))
  refine TL.v rfl (OpVal.moveB (.inr rfl) rfl) rfl rfl ?_
  refine TL.nil ?_
  refine S.n ?_
  refine TC.seq ?_
  refine TC.seq ?_
  refine TC.region ?_
  refine TL.v rfl (OpVal.fieldLoc rfl fo25_0 rfl) rfl rfl ?_
  refine TL.v rfl (OpVal.loadLoc rfl ag3 rfl (i := 1) rfl rfl) rfl rfl ?_
  refine TL.v rfl (OpVal.fieldLoc rfl fo25_0 rfl) rfl rfl ?_
  refine TL.v rfl (OpVal.loadLoc rfl ag3 rfl (i := 0) rfl rfl) rfl rfl ?_
  refine TL.v rfl (OpVal.neq rfl rfl rfl) rfl rfl ?_
  refine TL.v rfl (OpVal.moveB (.inl rfl) rfl) rfl rfl ?_
  refine TL.split 11 rfl (fun h5 => ?_) (fun h5 => ?_)
  · try simp only [decide_eq_true_eq, decide_eq_false_iff_not, Bool.not_eq_true', Bool.not_eq_false', Bool.not_eq_eq_eq_not, Bool.not_true, Bool.not_false, Int.not_lt, Int.not_le, Decidable.not_not] at h5
    refine TL.goff rfl rfl rfl rfl rfl rfl rfl rfl ?_
    refine TL.goff rfl rfl rfl rfl rfl rfl rfl rfl ?_
    refine TL.goff rfl rfl rfl rfl rfl rfl rfl rfl ?_
    refine TL.goff rfl rfl rfl rfl rfl rfl rfl rfl ?_
    refine TL.goff rfl rfl rfl rfl rfl rfl rfl rfl ?_
    refine TL.goff rfl rfl rfl rfl rfl rfl rfl rfl ?_
    refine TL.v rfl (OpVal.pickTB rfl rfl rfl) rfl rfl ?_
    refine TL.v rfl (OpVal.moveB (.inl rfl) rfl) rfl rfl ?_
    refine TL.goff rfl rfl rfl rfl rfl rfl rfl rfl ?_
    refine TL.goff rfl rfl rfl rfl rfl rfl rfl rfl ?_
    refine TL.goff rfl rfl rfl rfl rfl rfl rfl rfl ?_
    refine TL.goff rfl rfl rfl rfl rfl rfl rfl rfl ?_
    refine TL.goff rfl rfl rfl rfl rfl rfl rfl rfl ?_
    refine TL.goff rfl rfl rfl rfl rfl rfl rfl rfl ?_
    refine TL.v rfl (OpVal.pickTB rfl rfl rfl) rfl rfl ?_
    refine TL.v rfl (OpVal.moveB (.inl rfl) rfl) rfl rfl ?_
    refine TL.goff rfl rfl rfl rfl rfl rfl rfl rfl ?_
    refine TL.goff rfl rfl rfl rfl rfl rfl rfl rfl ?_
    refine TL.goff rfl rfl rfl rfl rfl rfl rfl rfl ?_
    refine TL.goff rfl rfl rfl rfl rfl rfl rfl rfl ?_
    refine TL.goff rfl rfl rfl rfl rfl rfl rfl rfl ?_
    refine TL.goff rfl rfl rfl rfl rfl rfl rfl rfl ?_
    refine TL.goff rfl rfl rfl rfl rfl rfl rfl rfl ?_
    refine TL.v rfl (OpVal.pickTB rfl rfl rfl) rfl rfl ?_
    refine TL.nil ?_
    refine S.n ?_
    refine TC.cond rfl (fun _ => ?_) (fun h => Bool.noConfusion h)
    refine TC.seq ?_
    refine TC.region ?_
    refine TL.v rfl (OpVal.moveB (.inr rfl) rfl) rfl rfl ?_
    refine TL.nil ?_
    refine S.n ?_
    refine TC.ret ?_
    refine S.r ?_
    -- leaf 1 ret [h5: t11=True] H=['q4', 'q2']
    refine ret1P rfl (congrArg Value.bool ?_)
    refine (Bool.eq_false_iff.2 fun h => ?_).symm
    obtain rfl := (sameB_iff x y).1 h
    first | omega | (simp at h5; done)
  · try simp only [decide_eq_true_eq, decide_eq_false_iff_not, Bool.not_eq_true', Bool.not_eq_false', Bool.not_eq_eq_eq_not, Bool.not_true, Bool.not_false, Int.not_lt, Int.not_le, Decidable.not_not] at h5
    refine TL.gv rfl rfl rfl rfl rfl (OpVal.fieldLoc rfl fo25_1 rfl) rfl rfl ?_
    refine TL.gv rfl rfl rfl rfl rfl (OpVal.loadLoc rfl ag22 rfl (i := 1) rfl rfl) rfl rfl ?_
    refine TL.gv rfl rfl rfl rfl rfl (OpVal.fieldLoc rfl fo25_1 rfl) rfl rfl ?_
    refine TL.gv rfl rfl rfl rfl rfl (OpVal.loadLoc rfl ag22 rfl (i := 0) rfl rfl) rfl rfl ?_
    refine TL.gon rfl rfl rfl rfl rfl (OpOk.callP (ints_con _ _ _ _ _ _ _ (by first | exact hx.s | exact hx.e) (by first | exact hy.s | exact hy.e)) rfl rfl pf46 rfl rfl rfl ?_)
    refine TL.gv rfl rfl rfl rfl rfl (OpVal.not rfl rfl) rfl rfl ?_
    refine TL.v rfl (OpVal.pickFB rfl rfl rfl) rfl rfl ?_
    refine TL.v rfl (OpVal.moveB (.inl rfl) rfl) rfl rfl ?_
    refine TL.split 19 rfl (fun h6 => ?_) (fun h6 => ?_)
    · try simp only [decide_eq_true_eq, decide_eq_false_iff_not, Bool.not_eq_true', Bool.not_eq_false', Bool.not_eq_eq_eq_not, Bool.not_true, Bool.not_false, Int.not_lt, Int.not_le, Decidable.not_not] at h6
      refine TL.goff rfl rfl rfl rfl rfl rfl rfl rfl ?_
      refine TL.goff rfl rfl rfl rfl rfl rfl rfl rfl ?_
      refine TL.goff rfl rfl rfl rfl rfl rfl rfl rfl ?_
      refine TL.goff rfl rfl rfl rfl rfl rfl rfl rfl ?_
      refine TL.goff rfl rfl rfl rfl rfl rfl rfl rfl ?_
      refine TL.goff rfl rfl rfl rfl rfl rfl rfl rfl ?_
      refine TL.v rfl (OpVal.pickTB rfl rfl rfl) rfl rfl ?_
      refine TL.v rfl (OpVal.moveB (.inl rfl) rfl) rfl rfl ?_
      refine TL.goff rfl rfl rfl rfl rfl rfl rfl rfl ?_
      refine TL.goff rfl rfl rfl rfl rfl rfl rfl rfl ?_
      refine TL.goff rfl rfl rfl rfl rfl rfl rfl rfl ?_
      refine TL.goff rfl rfl rfl rfl rfl rfl rfl rfl ?_
      refine TL.goff rfl rfl rfl rfl rfl rfl rfl rfl ?_
      refine TL.goff rfl rfl rfl rfl rfl rfl rfl rfl ?_
      refine TL.goff rfl rfl rfl rfl rfl rfl rfl rfl ?_
      refine TL.v rfl (OpVal.pickTB rfl rfl rfl) rfl rfl ?_
      refine TL.nil ?_
      refine S.n ?_
      refine TC.cond rfl (fun _ => ?_) (fun h => Bool.noConfusion h)
      refine TC.seq ?_
      refine TC.region ?_
      refine TL.v rfl (OpVal.moveB (.inr rfl) rfl) rfl rfl ?_
      refine TL.nil ?_
      refine S.n ?_
      refine TC.ret ?_
      refine S.r ?_
      -- leaf 2 ret [h5: t11=False; h6: t19=True] H=['q4', 'q2']
      refine ret1P rfl (congrArg Value.bool ?_)
      refine (Bool.eq_false_iff.2 fun h => ?_).symm
      obtain rfl := (sameB_iff x y).1 h
      first | omega | (simp at h6; done)
    · try simp only [decide_eq_true_eq, decide_eq_false_iff_not, Bool.not_eq_true', Bool.not_eq_false', Bool.not_eq_eq_eq_not, Bool.not_true, Bool.not_false, Int.not_lt, Int.not_le, Decidable.not_not] at h6
      refine TL.gv rfl rfl rfl rfl rfl (OpVal.fieldLoc rfl fo25_2 rfl) rfl rfl ?_
      refine TL.gv rfl rfl rfl rfl rfl (OpVal.loadLoc rfl ag22 rfl (i := 1) rfl rfl) rfl rfl ?_
      refine TL.gv rfl rfl rfl rfl rfl (OpVal.fieldLoc rfl fo25_2 rfl) rfl rfl ?_
      refine TL.gv rfl rfl rfl rfl rfl (OpVal.loadLoc rfl ag22 rfl (i := 0) rfl rfl) rfl rfl ?_
      refine TL.gon rfl rfl rfl rfl rfl (OpOk.callP (ints_con _ _ _ _ _ _ _ (by first | exact hx.s | exact hx.e) (by first | exact hy.s | exact hy.e)) rfl rfl pf46 rfl rfl rfl ?_)
      refine TL.gv rfl rfl rfl rfl rfl (OpVal.not rfl rfl) rfl rfl ?_
      refine TL.v rfl (OpVal.pickFB rfl rfl rfl) rfl rfl ?_
      refine TL.v rfl (OpVal.moveB (.inl rfl) rfl) rfl rfl ?_
      refine TL.split 27 rfl (fun h7 => ?_) (fun h7 => ?_)
      · try simp only [decide_eq_true_eq, decide_eq_false_iff_not, Bool.not_eq_true', Bool.not_eq_false', Bool.not_eq_eq_eq_not, Bool.not_true, Bool.not_false, Int.not_lt, Int.not_le, Decidable.not_not] at h7
        refine TL.goff rfl rfl rfl rfl rfl rfl rfl rfl ?_
        refine TL.goff rfl rfl rfl rfl rfl rfl rfl rfl ?_
        refine TL.goff rfl rfl rfl rfl rfl rfl rfl rfl ?_
        refine TL.goff rfl rfl rfl rfl rfl rfl rfl rfl ?_
        refine TL.goff rfl rfl rfl rfl rfl rfl rfl rfl ?_
        refine TL.goff rfl rfl rfl rfl rfl rfl rfl rfl ?_
        refine TL.goff rfl rfl rfl rfl rfl rfl rfl rfl ?_
        refine TL.v rfl (OpVal.pickTB rfl rfl rfl) rfl rfl ?_
        refine TL.nil ?_
        refine S.n ?_
        refine TC.cond rfl (fun _ => ?_) (fun h => Bool.noConfusion h)
        refine TC.seq ?_
        refine TC.region ?_
        refine TL.v rfl (OpVal.moveB (.inr rfl) rfl) rfl rfl ?_
        refine TL.nil ?_
        refine S.n ?_
        refine TC.ret ?_
        refine S.r ?_
        -- leaf 3 ret [h5: t11=False; h6: t19=False; h7: t27=True] H=['q4', 'q2']
        refine ret1P rfl (congrArg Value.bool ?_)
        refine (Bool.eq_false_iff.2 fun h => ?_).symm
        obtain rfl := (sameB_iff x y).1 h
        first | omega | (simp at h7; done)
      · try simp only [decide_eq_true_eq, decide_eq_false_iff_not, Bool.not_eq_true', Bool.not_eq_false', Bool.not_eq_eq_eq_not, Bool.not_true, Bool.not_false, Int.not_lt, Int.not_le, Decidable.not_not] at h7
        refine TL.gv rfl rfl rfl rfl rfl (OpVal.fieldLoc rfl fo25_3 rfl) rfl rfl ?_
        refine TL.gv rfl rfl rfl rfl rfl (OpVal.loadLoc rfl ag23 rfl (i := 1) rfl rfl) rfl rfl ?_
        refine TL.gv rfl rfl rfl rfl rfl (OpVal.lenC rfl Try.underlying23 rfl) rfl rfl ?_
        refine TL.gv rfl rfl rfl rfl rfl (OpVal.fieldLoc rfl fo25_3 rfl) rfl rfl ?_
        refine TL.gv rfl rfl rfl rfl rfl (OpVal.loadLoc rfl ag23 rfl (i := 0) rfl rfl) rfl rfl ?_
        refine TL.gv rfl rfl rfl rfl rfl (OpVal.lenC rfl Try.underlying23 rfl) rfl rfl ?_
        refine TL.gv rfl rfl rfl rfl rfl (OpVal.neq rfl rfl rfl) rfl rfl ?_
        refine TL.v rfl (OpVal.pickFB rfl rfl rfl) rfl rfl ?_
        refine TL.nil ?_
        refine S.n ?_
        refine TC.condD rfl (fun h8 => ?_) (fun h8 => ?_)
        · try simp only [decide_eq_true_eq, decide_eq_false_iff_not, Bool.not_eq_true', Bool.not_eq_false', Bool.not_eq_eq_eq_not, Bool.not_true, Bool.not_false, Int.not_lt, Int.not_le, Decidable.not_not] at h8
          refine TC.seq ?_
          refine TC.region ?_
          refine TL.v rfl (OpVal.moveB (.inr rfl) rfl) rfl rfl ?_
          refine TL.nil ?_
          refine S.n ?_
          refine TC.ret ?_
          refine S.r ?_
          -- leaf 4 ret [h5: t11=False; h6: t19=False; h7: t27=False; h8: True] H=['q4', 'q2']
          refine ret1P rfl (congrArg Value.bool ?_)
          refine (Bool.eq_false_iff.2 fun h => ?_).symm
          obtain rfl := (sameB_iff x y).1 h
          first | omega | (simp at h8; done)
        · try simp only [decide_eq_true_eq, decide_eq_false_iff_not, Bool.not_eq_true', Bool.not_eq_false', Bool.not_eq_eq_eq_not, Bool.not_true, Bool.not_false, Int.not_lt, Int.not_le, Decidable.not_not] at h8
          refine TC.skip ?_
          refine S.n ?_
          refine TC.seq ?_
          refine TC.seq ?_
          refine TC.region ?_
          refine TL.v rfl (OpVal.moveI (.inr rfl) rfl) rfl rfl ?_
          refine TL.nil ?_
          refine S.n ?_
          refine TC.block ?_
          refine TC.loopF (α := Nat) [4, 5, 36, 37, 38, 39, 40, 41, 42, 43, 44, 45, 46, 47, 48, 49, 50, 51, 52, 53] (fun k => [(5, .int .i64 (k : Nat))]) (fun _ => _) (fun _ => _) (fun k => k ≤ x.edges.length ∧ ∀ i, i < k → nth x.edges i Arrow.zero = nth y.edges i Arrow.zero) (fun k => x.edges.length - k) (0) (by first | exact True.intro | omega | (dsimp only; omega) | (simp; done) | (simp; omega)) (by repeat (first | exact trivial | refine ⟨rfl, ?_⟩)) (by rfl) (by rfl) (fun g1 j1 hg1 => ?_)
          obtain ⟨hk, hi⟩ := hg1
          refine TC.seq ?_
          refine TC.seq ?_
          refine TC.region ?_
          refine TL.v rfl (OpVal.moveI (.inl rfl) rfl) rfl rfl ?_
          refine TL.v rfl (OpVal.fieldLoc rfl fo25_3 rfl) rfl rfl ?_
          refine TL.v rfl (OpVal.loadLoc rfl ag23 rfl (i := 1) rfl rfl) rfl rfl ?_
          refine TL.v rfl (OpVal.lenC rfl Try.underlying23 rfl) rfl rfl ?_
          refine TL.v rfl (OpVal.lss rfl rfl rfl) rfl rfl ?_
          refine TL.nil ?_
          refine S.n ?_
          refine TC.condD rfl (fun h9 => ?_) (fun h9 => ?_)
          · try simp only [decide_eq_true_eq, decide_eq_false_iff_not, Bool.not_eq_true', Bool.not_eq_false', Bool.not_eq_eq_eq_not, Bool.not_true, Bool.not_false, Int.not_lt, Int.not_le, Decidable.not_not] at h9
            refine TC.skip ?_
            refine S.n ?_
            refine TC.seq ?_
            refine TC.block ?_
            refine TC.seq ?_
            refine TC.draw [] (by kernel_rfl) ?_
            refine TA.takeP 0 rfl (by kernel_rfl) (by kernel_rfl) (by kernel_rfl) rfl (OpVal.fieldLoc rfl fo25_3 rfl) rfl rfl ?_
            refine TA.take 1 rfl (by kernel_rfl) (by kernel_rfl) (by kernel_rfl) (by kernel_rfl) rfl (OpVal.loadLoc rfl ag23 rfl (i := 1) rfl rfl) rfl rfl ?_
            refine TA.takeP 2 rfl (by kernel_rfl) (by kernel_rfl) (by kernel_rfl) rfl (OpVal.moveI (.inl rfl) rfl) rfl rfl ?_
            refine TA.takeP 3 rfl (by kernel_rfl) (by kernel_rfl) (by kernel_rfl) rfl (OpVal.indexN rfl Try.underlying23 sz80 rfl rfl (by first | assumption | exact (RS.rv (by assumption)).sl) (by omega)) rfl rfl ?_
            refine TA.take 4 rfl (by kernel_rfl) (by kernel_rfl) (by kernel_rfl) (by kernel_rfl) rfl (OpVal.loadSA Arrow.zero rfl ag80 sz80 rfl (by assumption) (by omega) (by omega)) rfl rfl ?_
            refine TA.takeP 5 rfl (by kernel_rfl) (by kernel_rfl) (by kernel_rfl) rfl (OpVal.fieldLoc rfl fo25_3 rfl) rfl rfl ?_
            refine TA.take 6 rfl (by kernel_rfl) (by kernel_rfl) (by kernel_rfl) (by kernel_rfl) rfl (OpVal.loadLoc rfl ag23 rfl (i := 0) rfl rfl) rfl rfl ?_
            refine TA.takeP 7 rfl (by kernel_rfl) (by kernel_rfl) (by kernel_rfl) rfl (OpVal.moveI (.inl rfl) rfl) rfl rfl ?_
            refine TA.takeP 8 rfl (by kernel_rfl) (by kernel_rfl) (by kernel_rfl) rfl (OpVal.indexN rfl Try.underlying23 sz80 rfl rfl (by first | assumption | exact (RS.rv (by assumption)).sl) (by omega)) rfl rfl ?_
            refine TA.take 9 rfl (by kernel_rfl) (by kernel_rfl) (by kernel_rfl) (by kernel_rfl) rfl (OpVal.loadSA Arrow.zero rfl ag80 sz80 rfl (by assumption) (by omega) (by omega)) rfl rfl ?_
            refine TA.takeP 10 rfl (by kernel_rfl) (by kernel_rfl) (by kernel_rfl) rfl (OpVal.neqEdge (u := nth x.edges g1 Arrow.zero) (v := nth y.edges g1 Arrow.zero) rfl unE stE fsE ⟨by decide, by decide, by decide⟩ ⟨rfl, rfl, rfl⟩ ⟨rfl, rfl, rfl⟩ Try.underlying3 ag3 Try.underlying28 ag28 sz28 Try.underlying26 ag26 sz26 egE rfl rfl rfl rfl) rfl rfl ?_
            refine TA.done (by kernel_rfl) ?_
            refine S.n ?_
            refine TC.cond rfl (fun h10 => ?_) (fun h10 => ?_)
            · try simp only [decide_eq_true_eq, decide_eq_false_iff_not, Bool.not_eq_true', Bool.not_eq_false', Bool.not_eq_eq_eq_not, Bool.not_true, Bool.not_false, Int.not_lt, Int.not_le, Decidable.not_not] at h10
              refine TC.seq ?_
              refine TC.region ?_
              refine TL.v rfl (OpVal.moveB (.inr rfl) rfl) rfl rfl ?_
              refine TL.nil ?_
              refine S.n ?_
              refine TC.ret ?_
              refine B.r ?_
              refine S.r ?_
              refine S.r ?_
              refine B.r ?_
              refine S.r ?_
              -- leaf 5 ret [h5: t11=False; h6: t19=False; h7: t27=False; h8: False; h9: True; h10: True] H=['q4', 'q2']
              refine ret1P rfl (congrArg Value.bool ?_)
              refine (Bool.eq_false_iff.2 fun h => ?_).symm
              obtain rfl := (sameB_iff x y).1 h
              first | omega | (simp at h10; done)
            · try simp only [decide_eq_true_eq, decide_eq_false_iff_not, Bool.not_eq_true', Bool.not_eq_false', Bool.not_eq_eq_eq_not, Bool.not_true, Bool.not_false, Int.not_lt, Int.not_le, Decidable.not_not] at h10
              refine TC.skip ?_
              refine B.n ?_
              refine S.n ?_
              refine TC.region ?_
              refine TL.v rfl (OpVal.moveI (.inl rfl) rfl) rfl rfl ?_
              refine TL.v rfl (OpVal.succ rfl rfl rfl (by omega)) rfl rfl ?_
              refine TL.v rfl (OpVal.moveI (.inr rfl) rfl) rfl rfl ?_
              refine TL.nil ?_
              refine S.n ?_
              -- leaf 6 next [h5: t11=False; h6: t19=False; h7: t27=False; h8: False; h9: True; h10: False] H=['q4', 'q2']
              refine ⟨by repeat (first | exact Agr.mask | refine Agr.upd rfl ?_ | refine Agr.maskIn rfl ?_), g1 + 1, ?_, ?_, ?_, ?_, ?_⟩
              · omega
              · exact ⟨by omega, fun j hj => by rcases Nat.lt_succ_iff_lt_or_eq.1 hj with h | rfl; exact hi j h; exact h10⟩
              · repeat (first | exact trivial | refine ⟨rfl, ?_⟩)
              · rfl
              · rfl
          · try simp only [decide_eq_true_eq, decide_eq_false_iff_not, Bool.not_eq_true', Bool.not_eq_false', Bool.not_eq_eq_eq_not, Bool.not_true, Bool.not_false, Int.not_lt, Int.not_le, Decidable.not_not] at h9
            refine TC.exit ?_
            refine S.x ?_
            refine S.x ?_
            refine TC.exitHere ?_
            refine S.n ?_
            refine TC.seq ?_
            refine TC.region ?_
            refine TL.v rfl (OpVal.moveB (.inr rfl) rfl) rfl rfl ?_
            refine TL.nil ?_
            refine S.n ?_
            refine TC.ret ?_
            -- leaf 7 ret [h5: t11=False; h6: t19=False; h7: t27=False; h8: False; h9: False] H=['q4', 'q2']
            refine ret1P rfl (congrArg Value.bool ?_)
            have he := list_eq_nth Arrow.zero (l := x.edges) (m := y.edges) (by omega) (fun i h => hi i (by omega))
            simp [sameB, h5, h6, h7, he]

end Go.Proofs.Ytcidppnlhhkhhaa
end
