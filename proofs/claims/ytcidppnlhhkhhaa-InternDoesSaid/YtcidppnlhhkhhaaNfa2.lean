/- Contracts of package nfa and of its reference, part two. -/
import Derived.Test.YtcidppnlhhkhhaaNfa1
set_option linter.unusedVariables false
set_option linter.unusedSimpArgs false
namespace Go.Proofs.Ytcidppnlhhkhhaa
open Go Go.E
set_option maxRecDepth 100000

theorem right_con (σ : Store) (n : Nfa) (p : NfaP) (hn : RNfa σ n p) : Con Try.prog 57 #[nfaV n p] σ [] (PureP (.bool (checkB n)) σ) := by
  have hb := hn.d.rv.big
  have hd := hn.d
  refine Con.mk (n := 75) Try.func57 rfl rfl rfl (fun w0 => ?_)
  refine TC.seq ?_
  refine TC.region ?_
  refine TL.op rfl (OpOk.boxA rfl rfl rfl rfl (fun b1 => ?_))
  refine TL.v rfl (OpVal.moveB (.inr rfl) rfl) rfl rfl ?_
  refine TL.nil ?_
  refine S.n ?_
  refine TC.seq ?_
  refine TC.seq ?_
  refine TC.region ?_
  refine TL.v rfl (OpVal.fieldLoc rfl fo25_0 rfl) rfl rfl ?_
  refine TL.v rfl (OpVal.loadLoc rfl ag3 rfl (i := 0) rfl rfl) rfl rfl ?_
  refine TL.v rfl (OpVal.lss rfl rfl rfl) rfl rfl ?_
  refine TL.v rfl (OpVal.moveB (.inl rfl) rfl) rfl rfl ?_
  refine TL.split 8 rfl (fun h3 => ?_) (fun h3 => ?_)
  · try simp only [decide_eq_true_eq, decide_eq_false_iff_not, Bool.not_eq_true', Bool.not_eq_false', Bool.not_eq_eq_eq_not, Bool.not_true, Bool.not_false, Int.not_lt, Int.not_le, Decidable.not_not] at h3
    refine TL.goff rfl rfl rfl rfl rfl rfl rfl rfl ?_
    refine TL.goff rfl rfl rfl rfl rfl rfl rfl rfl ?_
    refine TL.goff rfl rfl rfl rfl rfl rfl rfl rfl ?_
    refine TL.v rfl (OpVal.pickTB rfl rfl rfl) rfl rfl ?_
    refine TL.v rfl (OpVal.moveB (.inl rfl) rfl) rfl rfl ?_
    refine TL.goff rfl rfl rfl rfl rfl rfl rfl rfl ?_
    refine TL.goff rfl rfl rfl rfl rfl rfl rfl rfl ?_
    refine TL.goff rfl rfl rfl rfl rfl rfl rfl rfl ?_
    refine TL.goff rfl rfl rfl rfl rfl rfl rfl rfl ?_
    refine TL.goff rfl rfl rfl rfl rfl rfl rfl rfl ?_
    refine TL.goff rfl rfl rfl rfl rfl rfl rfl rfl ?_
    refine TL.v rfl (OpVal.pickTB rfl rfl rfl) rfl rfl ?_
    refine TL.v rfl (OpVal.moveB (.inl rfl) rfl) rfl rfl ?_
    refine TL.goff rfl rfl rfl rfl rfl rfl rfl rfl ?_
    refine TL.goff rfl rfl rfl rfl rfl rfl rfl rfl ?_
    refine TL.goff rfl rfl rfl rfl rfl rfl rfl rfl ?_
    refine TL.goff rfl rfl rfl rfl rfl rfl rfl rfl ?_
    refine TL.goff rfl rfl rfl rfl rfl rfl rfl rfl ?_
    refine TL.goff rfl rfl rfl rfl rfl rfl rfl rfl ?_
    refine TL.v rfl (OpVal.pickTB rfl rfl rfl) rfl rfl ?_
    refine TL.v rfl (OpVal.moveB (.inl rfl) rfl) rfl rfl ?_
    refine TL.goff rfl rfl rfl rfl rfl rfl rfl rfl ?_
    refine TL.goff rfl rfl rfl rfl rfl rfl rfl rfl ?_
    refine TL.goff rfl rfl rfl rfl rfl rfl rfl rfl ?_
    refine TL.goff rfl rfl rfl rfl rfl rfl rfl rfl ?_
    refine TL.v rfl (OpVal.pickTB rfl rfl rfl) rfl rfl ?_
    refine TL.nil ?_
    refine S.n ?_
    refine TC.cond rfl (fun _ => ?_) (fun h => Bool.noConfusion h)
    refine TC.seq ?_
    refine TC.region ?_
    refine TL.v rfl (OpVal.moveB (.inr rfl) rfl) rfl rfl ?_
    refine TL.nil ?_
    refine S.n ?_
    refine TC.ret ?_
    refine S.r ?_
    -- leaf 1 ret [h3: t8=True] H=['q2']
    refine ret1P rfl (congrArg Value.bool ?_)
    exact (show checkB n = false from by simp only [checkB, Bool.and_eq_false_iff, decide_eq_false_iff_not]; omega).symm
  · try simp only [decide_eq_true_eq, decide_eq_false_iff_not, Bool.not_eq_true', Bool.not_eq_false', Bool.not_eq_eq_eq_not, Bool.not_true, Bool.not_false, Int.not_lt, Int.not_le, Decidable.not_not] at h3
    refine TL.gv rfl rfl rfl rfl rfl (OpVal.fieldLoc rfl fo25_0 rfl) rfl rfl ?_
    refine TL.gv rfl rfl rfl rfl rfl (OpVal.loadLoc rfl ag3 rfl (i := 0) rfl rfl) rfl rfl ?_
    refine TL.gv rfl rfl rfl rfl rfl (OpVal.gtr rfl rfl rfl) rfl rfl ?_
    refine TL.v rfl (OpVal.pickFB rfl rfl rfl) rfl rfl ?_
    refine TL.v rfl (OpVal.moveB (.inl rfl) rfl) rfl rfl ?_
    refine TL.split 13 rfl (fun h4 => ?_) (fun h4 => ?_)
    · try simp only [decide_eq_true_eq, decide_eq_false_iff_not, Bool.not_eq_true', Bool.not_eq_false', Bool.not_eq_eq_eq_not, Bool.not_true, Bool.not_false, Int.not_lt, Int.not_le, Decidable.not_not] at h4
      refine TL.goff rfl rfl rfl rfl rfl rfl rfl rfl ?_
      refine TL.goff rfl rfl rfl rfl rfl rfl rfl rfl ?_
      refine TL.goff rfl rfl rfl rfl rfl rfl rfl rfl ?_
      refine TL.goff rfl rfl rfl rfl rfl rfl rfl rfl ?_
      refine TL.goff rfl rfl rfl rfl rfl rfl rfl rfl ?_
      refine TL.goff rfl rfl rfl rfl rfl rfl rfl rfl ?_
      refine TL.v rfl (OpVal.pickTB rfl rfl rfl) rfl rfl ?_
      refine TL.v rfl (OpVal.moveB (.inl rfl) rfl) rfl rfl ?_
      refine TL.goff rfl rfl rfl rfl rfl rfl rfl rfl ?_
      refine TL.goff rfl rfl rfl rfl rfl rfl rfl rfl ?_
      refine TL.goff rfl rfl rfl rfl rfl rfl rfl rfl ?_
      refine TL.goff rfl rfl rfl rfl rfl rfl rfl rfl ?_
      refine TL.goff rfl rfl rfl rfl rfl rfl rfl rfl ?_
      refine TL.goff rfl rfl rfl rfl rfl rfl rfl rfl ?_
      refine TL.v rfl (OpVal.pickTB rfl rfl rfl) rfl rfl ?_
      refine TL.v rfl (OpVal.moveB (.inl rfl) rfl) rfl rfl ?_
      refine TL.goff rfl rfl rfl rfl rfl rfl rfl rfl ?_
      refine TL.goff rfl rfl rfl rfl rfl rfl rfl rfl ?_
      refine TL.goff rfl rfl rfl rfl rfl rfl rfl rfl ?_
      refine TL.goff rfl rfl rfl rfl rfl rfl rfl rfl ?_
      refine TL.v rfl (OpVal.pickTB rfl rfl rfl) rfl rfl ?_
      refine TL.nil ?_
      refine S.n ?_
      refine TC.cond rfl (fun _ => ?_) (fun h => Bool.noConfusion h)
      refine TC.seq ?_
      refine TC.region ?_
      refine TL.v rfl (OpVal.moveB (.inr rfl) rfl) rfl rfl ?_
      refine TL.nil ?_
      refine S.n ?_
      refine TC.ret ?_
      refine S.r ?_
      -- leaf 2 ret [h3: t8=False; h4: t13=True] H=['q2']
      refine ret1P rfl (congrArg Value.bool ?_)
      exact (show checkB n = false from by simp only [checkB, Bool.and_eq_false_iff, decide_eq_false_iff_not]; omega).symm
    · try simp only [decide_eq_true_eq, decide_eq_false_iff_not, Bool.not_eq_true', Bool.not_eq_false', Bool.not_eq_eq_eq_not, Bool.not_true, Bool.not_false, Int.not_lt, Int.not_le, Decidable.not_not] at h4
      refine TL.gv rfl rfl rfl rfl rfl (OpVal.fieldLoc rfl fo25_1 rfl) rfl rfl ?_
      refine TL.gv rfl rfl rfl rfl rfl (OpVal.loadLoc rfl ag22 rfl (i := 0) rfl rfl) rfl rfl ?_
      refine TL.gv rfl rfl rfl rfl rfl (OpVal.fieldLoc rfl fo25_0 rfl) rfl rfl ?_
      refine TL.gv rfl rfl rfl rfl rfl (OpVal.loadLoc rfl ag3 rfl (i := 0) rfl rfl) rfl rfl ?_
      refine TL.gon rfl rfl rfl rfl rfl (OpOk.callP (states_con _ _ _ _ _ hn.s) rfl rfl pf83 rfl rfl rfl ?_)
      refine TL.gv rfl rfl rfl rfl rfl (OpVal.not rfl rfl) rfl rfl ?_
      refine TL.v rfl (OpVal.pickFB rfl rfl rfl) rfl rfl ?_
      refine TL.v rfl (OpVal.moveB (.inl rfl) rfl) rfl rfl ?_
      refine TL.split 21 rfl (fun h5 => ?_) (fun h5 => ?_)
      · try simp only [decide_eq_true_eq, decide_eq_false_iff_not, Bool.not_eq_true', Bool.not_eq_false', Bool.not_eq_eq_eq_not, Bool.not_true, Bool.not_false, Int.not_lt, Int.not_le, Decidable.not_not] at h5
        refine TL.goff rfl rfl rfl rfl rfl rfl rfl rfl ?_
        refine TL.goff rfl rfl rfl rfl rfl rfl rfl rfl ?_
        refine TL.goff rfl rfl rfl rfl rfl rfl rfl rfl ?_
        refine TL.goff rfl rfl rfl rfl rfl rfl rfl rfl ?_
        refine TL.goff rfl rfl rfl rfl rfl rfl rfl rfl ?_
        refine TL.goff rfl rfl rfl rfl rfl rfl rfl rfl ?_
        refine TL.v rfl (OpVal.pickTB rfl rfl rfl) rfl rfl ?_
        refine TL.v rfl (OpVal.moveB (.inl rfl) rfl) rfl rfl ?_
        refine TL.goff rfl rfl rfl rfl rfl rfl rfl rfl ?_
        refine TL.goff rfl rfl rfl rfl rfl rfl rfl rfl ?_
        refine TL.goff rfl rfl rfl rfl rfl rfl rfl rfl ?_
        refine TL.goff rfl rfl rfl rfl rfl rfl rfl rfl ?_
        refine TL.v rfl (OpVal.pickTB rfl rfl rfl) rfl rfl ?_
        refine TL.nil ?_
        refine S.n ?_
        refine TC.cond rfl (fun _ => ?_) (fun h => Bool.noConfusion h)
        refine TC.seq ?_
        refine TC.region ?_
        refine TL.v rfl (OpVal.moveB (.inr rfl) rfl) rfl rfl ?_
        refine TL.nil ?_
        refine S.n ?_
        refine TC.ret ?_
        refine S.r ?_
        -- leaf 3 ret [h3: t8=False; h4: t13=False; h5: t21=True] H=['q2']
        refine ret1P rfl (congrArg Value.bool ?_)
        exact (show checkB n = false from by simp [checkB, h5]).symm
      · try simp only [decide_eq_true_eq, decide_eq_false_iff_not, Bool.not_eq_true', Bool.not_eq_false', Bool.not_eq_eq_eq_not, Bool.not_true, Bool.not_false, Int.not_lt, Int.not_le, Decidable.not_not] at h5
        refine TL.gv rfl rfl rfl rfl rfl (OpVal.fieldLoc rfl fo25_2 rfl) rfl rfl ?_
        refine TL.gv rfl rfl rfl rfl rfl (OpVal.loadLoc rfl ag22 rfl (i := 0) rfl rfl) rfl rfl ?_
        refine TL.gv rfl rfl rfl rfl rfl (OpVal.fieldLoc rfl fo25_0 rfl) rfl rfl ?_
        refine TL.gv rfl rfl rfl rfl rfl (OpVal.loadLoc rfl ag3 rfl (i := 0) rfl rfl) rfl rfl ?_
        refine TL.gon rfl rfl rfl rfl rfl (OpOk.callP (states_con _ _ _ _ _ hn.e) rfl rfl pf83 rfl rfl rfl ?_)
        refine TL.gv rfl rfl rfl rfl rfl (OpVal.not rfl rfl) rfl rfl ?_
        refine TL.v rfl (OpVal.pickFB rfl rfl rfl) rfl rfl ?_
        refine TL.v rfl (OpVal.moveB (.inl rfl) rfl) rfl rfl ?_
        refine TL.split 29 rfl (fun h6 => ?_) (fun h6 => ?_)
        · try simp only [decide_eq_true_eq, decide_eq_false_iff_not, Bool.not_eq_true', Bool.not_eq_false', Bool.not_eq_eq_eq_not, Bool.not_true, Bool.not_false, Int.not_lt, Int.not_le, Decidable.not_not] at h6
          refine TL.goff rfl rfl rfl rfl rfl rfl rfl rfl ?_
          refine TL.goff rfl rfl rfl rfl rfl rfl rfl rfl ?_
          refine TL.goff rfl rfl rfl rfl rfl rfl rfl rfl ?_
          refine TL.goff rfl rfl rfl rfl rfl rfl rfl rfl ?_
          refine TL.v rfl (OpVal.pickTB rfl rfl rfl) rfl rfl ?_
          refine TL.nil ?_
          refine S.n ?_
          refine TC.cond rfl (fun _ => ?_) (fun h => Bool.noConfusion h)
          refine TC.seq ?_
          refine TC.region ?_
          refine TL.v rfl (OpVal.moveB (.inr rfl) rfl) rfl rfl ?_
          refine TL.nil ?_
          refine S.n ?_
          refine TC.ret ?_
          refine S.r ?_
          -- leaf 4 ret [h3: t8=False; h4: t13=False; h5: t21=False; h6: t29=True] H=['q2']
          refine ret1P rfl (congrArg Value.bool ?_)
          exact (show checkB n = false from by simp [checkB, h6]).symm
        · try simp only [decide_eq_true_eq, decide_eq_false_iff_not, Bool.not_eq_true', Bool.not_eq_false', Bool.not_eq_eq_eq_not, Bool.not_true, Bool.not_false, Int.not_lt, Int.not_le, Decidable.not_not] at h6
          refine TL.gv rfl rfl rfl rfl rfl (OpVal.fieldLoc rfl fo25_3 rfl) rfl rfl ?_
          refine TL.gv rfl rfl rfl rfl rfl (OpVal.loadLoc rfl ag23 rfl (i := 0) rfl rfl) rfl rfl ?_
          refine TL.gv rfl rfl rfl rfl rfl (OpVal.lenC rfl Try.underlying23 rfl) rfl rfl ?_
          refine TL.gv rfl rfl rfl rfl rfl (OpVal.gtr rfl rfl rfl) rfl rfl ?_
          refine TL.v rfl (OpVal.pickFB rfl rfl rfl) rfl rfl ?_
          refine TL.nil ?_
          refine S.n ?_
          refine TC.condD rfl (fun h7 => ?_) (fun h7 => ?_)
          · try simp only [decide_eq_true_eq, decide_eq_false_iff_not, Bool.not_eq_true', Bool.not_eq_false', Bool.not_eq_eq_eq_not, Bool.not_true, Bool.not_false, Int.not_lt, Int.not_le, Decidable.not_not] at h7
            refine TC.seq ?_
            refine TC.region ?_
            refine TL.v rfl (OpVal.moveB (.inr rfl) rfl) rfl rfl ?_
            refine TL.nil ?_
            refine S.n ?_
            refine TC.ret ?_
            refine S.r ?_
            -- leaf 5 ret [h3: t8=False; h4: t13=False; h5: t21=False; h6: t29=False; h7: True] H=['q2']
            refine ret1P rfl (congrArg Value.bool ?_)
            exact (show checkB n = false from by simp only [checkB, Bool.and_eq_false_iff, decide_eq_false_iff_not]; omega).symm
          · try simp only [decide_eq_true_eq, decide_eq_false_iff_not, Bool.not_eq_true', Bool.not_eq_false', Bool.not_eq_eq_eq_not, Bool.not_true, Bool.not_false, Int.not_lt, Int.not_le, Decidable.not_not] at h7
            refine TC.skip ?_
            refine S.n ?_
            refine TC.seq ?_
            refine TC.seq ?_
            refine TC.region ?_
            refine TL.v rfl (OpVal.moveI (.inr rfl) rfl) rfl rfl ?_
            refine TL.nil ?_
            refine S.n ?_
            refine TC.block ?_
            refine TC.loopF (α := Nat) [2, 3, 4, 35, 36, 37, 38, 39, 40, 41, 42, 43, 44, 45, 46, 47, 48, 49, 50, 51, 52, 53, 54, 55, 56, 57, 58, 59, 60, 61, 62, 63, 64, 65, 66, 67, 68, 69, 70, 71, 72, 73, 74] (fun k => [(3, .int .i64 (k : Nat))]) (fun _ => _) (fun _ => _) (fun k => k ≤ n.edges.length ∧ ∀ i, i < k → edgeB n.states (nth n.edges i Arrow.zero) = true) (fun k => n.edges.length - k) (0) (by first | exact True.intro | omega | (dsimp only; omega) | (simp; done) | (simp; omega)) (by repeat (first | exact trivial | refine ⟨rfl, ?_⟩)) (by rfl) (by rfl) (fun g1 j1 hg1 => ?_)
            obtain ⟨hk, hi⟩ := hg1
            refine TC.seq ?_
            refine TC.seq ?_
            refine TC.region ?_
            refine TL.v rfl (OpVal.moveI (.inl rfl) rfl) rfl rfl ?_
            refine TL.v rfl (OpVal.fieldLoc rfl fo25_3 rfl) rfl rfl ?_
            refine TL.v rfl (OpVal.loadLoc rfl ag23 rfl (i := 0) rfl rfl) rfl rfl ?_
            refine TL.v rfl (OpVal.lenC rfl Try.underlying23 rfl) rfl rfl ?_
            refine TL.v rfl (OpVal.lss rfl rfl rfl) rfl rfl ?_
            refine TL.nil ?_
            refine S.n ?_
            refine TC.condD rfl (fun h8 => ?_) (fun h8 => ?_)
            · try simp only [decide_eq_true_eq, decide_eq_false_iff_not, Bool.not_eq_true', Bool.not_eq_false', Bool.not_eq_eq_eq_not, Bool.not_true, Bool.not_false, Int.not_lt, Int.not_le, Decidable.not_not] at h8
              refine TC.skip ?_
              refine S.n ?_
              refine TC.seq ?_
              refine TC.block ?_
              refine TC.seq ?_
              refine TC.region ?_
              refine TL.v rfl (OpVal.fieldLoc rfl fo25_3 rfl) rfl rfl ?_
              refine TL.v rfl (OpVal.loadLoc rfl ag23 rfl (i := 0) rfl rfl) rfl rfl ?_
              refine TL.v rfl (OpVal.moveI (.inl rfl) rfl) rfl rfl ?_
              refine TL.v rfl (OpVal.indexN rfl Try.underlying23 sz80 rfl rfl (by first | assumption | exact (RS.rv (by assumption)).sl) (by omega)) rfl rfl ?_
              refine TL.v rfl (OpVal.loadSA Arrow.zero rfl ag80 sz80 rfl (by assumption) (by omega) (by omega)) rfl rfl ?_
              refine TL.op rfl (OpOk.alloc rfl ze80 rfl rfl (fun b9 => ?_))
              refine TL.op rfl (OpOk.storeAll rfl sz80 rfl rfl rfl rfl rfl rfl ?_)
              refine TL.nil ?_
              refine S.n ?_
              refine TC.seq ?_
              refine TC.region ?_
              refine TL.v rfl (OpVal.fieldLoc rfl fo80_0 rfl) rfl rfl ?_
              refine TL.v rfl (OpVal.loadLoc rfl ag3 rfl (i := 0) rfl rfl) rfl rfl ?_
              refine TL.v rfl (OpVal.lss rfl rfl rfl) rfl rfl ?_
              refine TL.v rfl (OpVal.moveB (.inl rfl) rfl) rfl rfl ?_
              refine TL.split 50 rfl (fun h11 => ?_) (fun h11 => ?_)
              · try simp only [decide_eq_true_eq, decide_eq_false_iff_not, Bool.not_eq_true', Bool.not_eq_false', Bool.not_eq_eq_eq_not, Bool.not_true, Bool.not_false, Int.not_lt, Int.not_le, Decidable.not_not] at h11
                refine TL.goff rfl rfl rfl rfl rfl rfl rfl rfl ?_
                refine TL.goff rfl rfl rfl rfl rfl rfl rfl rfl ?_
                refine TL.goff rfl rfl rfl rfl rfl rfl rfl rfl ?_
                refine TL.goff rfl rfl rfl rfl rfl rfl rfl rfl ?_
                refine TL.goff rfl rfl rfl rfl rfl rfl rfl rfl ?_
                refine TL.v rfl (OpVal.pickTB rfl rfl rfl) rfl rfl ?_
                refine TL.v rfl (OpVal.moveB (.inl rfl) rfl) rfl rfl ?_
                refine TL.goff rfl rfl rfl rfl rfl rfl rfl rfl ?_
                refine TL.goff rfl rfl rfl rfl rfl rfl rfl rfl ?_
                refine TL.goff rfl rfl rfl rfl rfl rfl rfl rfl ?_
                refine TL.v rfl (OpVal.pickTB rfl rfl rfl) rfl rfl ?_
                refine TL.v rfl (OpVal.moveB (.inl rfl) rfl) rfl rfl ?_
                refine TL.goff rfl rfl rfl rfl rfl rfl rfl rfl ?_
                refine TL.goff rfl rfl rfl rfl rfl rfl rfl rfl ?_
                refine TL.goff rfl rfl rfl rfl rfl rfl rfl rfl ?_
                refine TL.goff rfl rfl rfl rfl rfl rfl rfl rfl ?_
                refine TL.goff rfl rfl rfl rfl rfl rfl rfl rfl ?_
                refine TL.v rfl (OpVal.pickTB rfl rfl rfl) rfl rfl ?_
                refine TL.v rfl (OpVal.moveB (.inl rfl) rfl) rfl rfl ?_
                refine TL.goff rfl rfl rfl rfl rfl rfl rfl rfl ?_
                refine TL.goff rfl rfl rfl rfl rfl rfl rfl rfl ?_
                refine TL.goff rfl rfl rfl rfl rfl rfl rfl rfl ?_
                refine TL.goff rfl rfl rfl rfl rfl rfl rfl rfl ?_
                refine TL.v rfl (OpVal.pickTB rfl rfl rfl) rfl rfl ?_
                refine TL.nil ?_
                refine S.n ?_
                refine TC.cond rfl (fun _ => ?_) (fun h => Bool.noConfusion h)
                refine TC.seq ?_
                refine TC.region ?_
                refine TL.v rfl (OpVal.moveB (.inr rfl) rfl) rfl rfl ?_
                refine TL.nil ?_
                refine S.n ?_
                refine TC.ret ?_
                refine B.r ?_
                refine S.r ?_
                refine S.r ?_
                refine B.r ?_
                refine S.r ?_
                -- leaf 6 ret [h3: t8=False; h4: t13=False; h5: t21=False; h6: t29=False; h7: False; h8: True; h11: t50=True] H=['q10', 'q2']
                refine ret1P rfl (congrArg Value.bool ?_)
                exact (show checkB n = false from by rw [checkB, edges_no (n := n) (k := g1) (by omega) (by simp [edgeB, stateB]; omega), Bool.and_false]).symm
              · try simp only [decide_eq_true_eq, decide_eq_false_iff_not, Bool.not_eq_true', Bool.not_eq_false', Bool.not_eq_eq_eq_not, Bool.not_true, Bool.not_false, Int.not_lt, Int.not_le, Decidable.not_not] at h11
                refine TL.gv rfl rfl rfl rfl rfl (OpVal.fieldLoc rfl fo80_0 rfl) rfl rfl ?_
                refine TL.gv rfl rfl rfl rfl rfl (OpVal.loadLoc rfl ag3 rfl (i := 0) rfl rfl) rfl rfl ?_
                refine TL.gv rfl rfl rfl rfl rfl (OpVal.fieldLoc rfl fo25_0 rfl) rfl rfl ?_
                refine TL.gv rfl rfl rfl rfl rfl (OpVal.loadLoc rfl ag3 rfl (i := 1) rfl rfl) rfl rfl ?_
                refine TL.gv rfl rfl rfl rfl rfl (OpVal.geq rfl rfl rfl) rfl rfl ?_
                refine TL.v rfl (OpVal.pickFB rfl rfl rfl) rfl rfl ?_
                refine TL.v rfl (OpVal.moveB (.inl rfl) rfl) rfl rfl ?_
                refine TL.split 57 rfl (fun h12 => ?_) (fun h12 => ?_)
                · try simp only [decide_eq_true_eq, decide_eq_false_iff_not, Bool.not_eq_true', Bool.not_eq_false', Bool.not_eq_eq_eq_not, Bool.not_true, Bool.not_false, Int.not_lt, Int.not_le, Decidable.not_not] at h12
                  refine TL.goff rfl rfl rfl rfl rfl rfl rfl rfl ?_
                  refine TL.goff rfl rfl rfl rfl rfl rfl rfl rfl ?_
                  refine TL.goff rfl rfl rfl rfl rfl rfl rfl rfl ?_
                  refine TL.v rfl (OpVal.pickTB rfl rfl rfl) rfl rfl ?_
                  refine TL.v rfl (OpVal.moveB (.inl rfl) rfl) rfl rfl ?_
                  refine TL.goff rfl rfl rfl rfl rfl rfl rfl rfl ?_
                  refine TL.goff rfl rfl rfl rfl rfl rfl rfl rfl ?_
                  refine TL.goff rfl rfl rfl rfl rfl rfl rfl rfl ?_
                  refine TL.goff rfl rfl rfl rfl rfl rfl rfl rfl ?_
                  refine TL.goff rfl rfl rfl rfl rfl rfl rfl rfl ?_
                  refine TL.v rfl (OpVal.pickTB rfl rfl rfl) rfl rfl ?_
                  refine TL.v rfl (OpVal.moveB (.inl rfl) rfl) rfl rfl ?_
                  refine TL.goff rfl rfl rfl rfl rfl rfl rfl rfl ?_
                  refine TL.goff rfl rfl rfl rfl rfl rfl rfl rfl ?_
                  refine TL.goff rfl rfl rfl rfl rfl rfl rfl rfl ?_
                  refine TL.goff rfl rfl rfl rfl rfl rfl rfl rfl ?_
                  refine TL.v rfl (OpVal.pickTB rfl rfl rfl) rfl rfl ?_
                  refine TL.nil ?_
                  refine S.n ?_
                  refine TC.cond rfl (fun _ => ?_) (fun h => Bool.noConfusion h)
                  refine TC.seq ?_
                  refine TC.region ?_
                  refine TL.v rfl (OpVal.moveB (.inr rfl) rfl) rfl rfl ?_
                  refine TL.nil ?_
                  refine S.n ?_
                  refine TC.ret ?_
                  refine B.r ?_
                  refine S.r ?_
                  refine S.r ?_
                  refine B.r ?_
                  refine S.r ?_
                  -- leaf 7 ret [h3: t8=False; h4: t13=False; h5: t21=False; h6: t29=False; h7: False; h8: True; h11: t50=False; h12: t57=True] H=['q10', 'q2']
                  refine ret1P rfl (congrArg Value.bool ?_)
                  exact (show checkB n = false from by rw [checkB, edges_no (n := n) (k := g1) (by omega) (by simp [edgeB, stateB]; omega), Bool.and_false]).symm
                · try simp only [decide_eq_true_eq, decide_eq_false_iff_not, Bool.not_eq_true', Bool.not_eq_false', Bool.not_eq_eq_eq_not, Bool.not_true, Bool.not_false, Int.not_lt, Int.not_le, Decidable.not_not] at h12
                  refine TL.gv rfl rfl rfl rfl rfl (OpVal.fieldLoc rfl fo80_1 rfl) rfl rfl ?_
                  refine TL.gv rfl rfl rfl rfl rfl (OpVal.loadLoc rfl ag3 rfl (i := 0) rfl rfl) rfl rfl ?_
                  refine TL.gv rfl rfl rfl rfl rfl (OpVal.lss rfl rfl rfl) rfl rfl ?_
                  refine TL.v rfl (OpVal.pickFB rfl rfl rfl) rfl rfl ?_
                  refine TL.v rfl (OpVal.moveB (.inl rfl) rfl) rfl rfl ?_
                  refine TL.split 62 rfl (fun h13 => ?_) (fun h13 => ?_)
                  · try simp only [decide_eq_true_eq, decide_eq_false_iff_not, Bool.not_eq_true', Bool.not_eq_false', Bool.not_eq_eq_eq_not, Bool.not_true, Bool.not_false, Int.not_lt, Int.not_le, Decidable.not_not] at h13
                    refine TL.goff rfl rfl rfl rfl rfl rfl rfl rfl ?_
                    refine TL.goff rfl rfl rfl rfl rfl rfl rfl rfl ?_
                    refine TL.goff rfl rfl rfl rfl rfl rfl rfl rfl ?_
                    refine TL.goff rfl rfl rfl rfl rfl rfl rfl rfl ?_
                    refine TL.goff rfl rfl rfl rfl rfl rfl rfl rfl ?_
                    refine TL.v rfl (OpVal.pickTB rfl rfl rfl) rfl rfl ?_
                    refine TL.v rfl (OpVal.moveB (.inl rfl) rfl) rfl rfl ?_
                    refine TL.goff rfl rfl rfl rfl rfl rfl rfl rfl ?_
                    refine TL.goff rfl rfl rfl rfl rfl rfl rfl rfl ?_
                    refine TL.goff rfl rfl rfl rfl rfl rfl rfl rfl ?_
                    refine TL.goff rfl rfl rfl rfl rfl rfl rfl rfl ?_
                    refine TL.v rfl (OpVal.pickTB rfl rfl rfl) rfl rfl ?_
                    refine TL.nil ?_
                    refine S.n ?_
                    refine TC.cond rfl (fun _ => ?_) (fun h => Bool.noConfusion h)
                    refine TC.seq ?_
                    refine TC.region ?_
                    refine TL.v rfl (OpVal.moveB (.inr rfl) rfl) rfl rfl ?_
                    refine TL.nil ?_
                    refine S.n ?_
                    refine TC.ret ?_
                    refine B.r ?_
                    refine S.r ?_
                    refine S.r ?_
                    refine B.r ?_
                    refine S.r ?_
                    -- leaf 8 ret [h3: t8=False; h4: t13=False; h5: t21=False; h6: t29=False; h7: False; h8: True; h11: t50=False; h12: t57=False; h13: t62=True] H=['q10', 'q2']
                    refine ret1P rfl (congrArg Value.bool ?_)
                    exact (show checkB n = false from by rw [checkB, edges_no (n := n) (k := g1) (by omega) (by simp [edgeB, stateB]; omega), Bool.and_false]).symm
                  · try simp only [decide_eq_true_eq, decide_eq_false_iff_not, Bool.not_eq_true', Bool.not_eq_false', Bool.not_eq_eq_eq_not, Bool.not_true, Bool.not_false, Int.not_lt, Int.not_le, Decidable.not_not] at h13
                    refine TL.gv rfl rfl rfl rfl rfl (OpVal.fieldLoc rfl fo80_1 rfl) rfl rfl ?_
                    refine TL.gv rfl rfl rfl rfl rfl (OpVal.loadLoc rfl ag3 rfl (i := 0) rfl rfl) rfl rfl ?_
                    refine TL.gv rfl rfl rfl rfl rfl (OpVal.fieldLoc rfl fo25_0 rfl) rfl rfl ?_
                    refine TL.gv rfl rfl rfl rfl rfl (OpVal.loadLoc rfl ag3 rfl (i := 1) rfl rfl) rfl rfl ?_
                    refine TL.gv rfl rfl rfl rfl rfl (OpVal.geq rfl rfl rfl) rfl rfl ?_
                    refine TL.v rfl (OpVal.pickFB rfl rfl rfl) rfl rfl ?_
                    refine TL.v rfl (OpVal.moveB (.inl rfl) rfl) rfl rfl ?_
                    refine TL.split 69 rfl (fun h14 => ?_) (fun h14 => ?_)
                    · try simp only [decide_eq_true_eq, decide_eq_false_iff_not, Bool.not_eq_true', Bool.not_eq_false', Bool.not_eq_eq_eq_not, Bool.not_true, Bool.not_false, Int.not_lt, Int.not_le, Decidable.not_not] at h14
                      refine TL.goff rfl rfl rfl rfl rfl rfl rfl rfl ?_
                      refine TL.goff rfl rfl rfl rfl rfl rfl rfl rfl ?_
                      refine TL.goff rfl rfl rfl rfl rfl rfl rfl rfl ?_
                      refine TL.goff rfl rfl rfl rfl rfl rfl rfl rfl ?_
                      refine TL.v rfl (OpVal.pickTB rfl rfl rfl) rfl rfl ?_
                      refine TL.nil ?_
                      refine S.n ?_
                      refine TC.cond rfl (fun _ => ?_) (fun h => Bool.noConfusion h)
                      refine TC.seq ?_
                      refine TC.region ?_
                      refine TL.v rfl (OpVal.moveB (.inr rfl) rfl) rfl rfl ?_
                      refine TL.nil ?_
                      refine S.n ?_
                      refine TC.ret ?_
                      refine B.r ?_
                      refine S.r ?_
                      refine S.r ?_
                      refine B.r ?_
                      refine S.r ?_
                      -- leaf 9 ret [h3: t8=False; h4: t13=False; h5: t21=False; h6: t29=False; h7: False; h8: True; h11: t50=False; h12: t57=False; h13: t62=False; h14: t69=True] H=['q10', 'q2']
                      refine ret1P rfl (congrArg Value.bool ?_)
                      exact (show checkB n = false from by rw [checkB, edges_no (n := n) (k := g1) (by omega) (by simp [edgeB, stateB]; omega), Bool.and_false]).symm
                    · try simp only [decide_eq_true_eq, decide_eq_false_iff_not, Bool.not_eq_true', Bool.not_eq_false', Bool.not_eq_eq_eq_not, Bool.not_true, Bool.not_false, Int.not_lt, Int.not_le, Decidable.not_not] at h14
                      refine TL.gv rfl rfl rfl rfl rfl (OpVal.fieldLoc rfl fo80_2 rfl) rfl rfl ?_
                      refine TL.gv rfl rfl rfl rfl rfl (OpVal.loadLocA rfl ag28 sz28 rfl (i := 0) rfl rfl rfl) rfl rfl ?_
                      refine TL.gv rfl rfl rfl rfl rfl (OpVal.buildArrL rfl Try.underlying28 sz26 ze28 rfl) rfl rfl ?_
                      refine TL.gv rfl rfl rfl rfl rfl (OpVal.eqlArr4 rfl Try.underlying28 Try.underlying26 ag26 sz26 eg28 rfl rfl rfl rfl) rfl rfl ?_
                      refine TL.v rfl (OpVal.pickFB rfl rfl rfl) rfl rfl ?_
                      refine TL.nil ?_
                      refine S.n ?_
                      refine TC.condD rfl (fun h15 => ?_) (fun h15 => ?_)
                      · try simp only [decide_eq_true_eq, decide_eq_false_iff_not, Bool.not_eq_true', Bool.not_eq_false', Bool.not_eq_eq_eq_not, Bool.not_true, Bool.not_false, Int.not_lt, Int.not_le, Decidable.not_not] at h15
                        refine TC.seq ?_
                        refine TC.region ?_
                        refine TL.v rfl (OpVal.moveB (.inr rfl) rfl) rfl rfl ?_
                        refine TL.nil ?_
                        refine S.n ?_
                        refine TC.ret ?_
                        refine B.r ?_
                        refine S.r ?_
                        refine S.r ?_
                        refine B.r ?_
                        refine S.r ?_
                        -- leaf 10 ret [h3: t8=False; h4: t13=False; h5: t21=False; h6: t29=False; h7: False; h8: True; h11: t50=False; h12: t57=False; h13: t62=False; h14: t69=False; h15: True] H=['q10', 'q2']
                        refine ret1P rfl (congrArg Value.bool ?_)
                        exact (show checkB n = false from by rw [checkB, edges_no (n := n) (k := g1) (by omega) (by simp [edgeB, (BSet.zero_iff _).1 h15]), Bool.and_false]).symm
                      · try simp only [decide_eq_true_eq, decide_eq_false_iff_not, Bool.not_eq_true', Bool.not_eq_false', Bool.not_eq_eq_eq_not, Bool.not_true, Bool.not_false, Int.not_lt, Int.not_le, Decidable.not_not] at h15
                        refine TC.skip ?_
                        refine B.n ?_
                        refine S.n ?_
                        refine TC.region ?_
                        refine TL.v rfl (OpVal.moveI (.inl rfl) rfl) rfl rfl ?_
                        refine TL.v rfl (OpVal.succ rfl rfl rfl (by omega)) rfl rfl ?_
                        refine TL.v rfl (OpVal.moveI (.inr rfl) rfl) rfl rfl ?_
                        refine TL.dropN 1 rfl ?_
                        refine TL.nil ?_
                        refine S.n ?_
                        -- leaf 11 next [h3: t8=False; h4: t13=False; h5: t21=False; h6: t29=False; h7: False; h8: True; h11: t50=False; h12: t57=False; h13: t62=False; h14: t69=False; h15: False] H=['q2']
                        refine ⟨by repeat (first | exact Agr.mask | refine Agr.upd rfl ?_ | refine Agr.maskIn rfl ?_), g1 + 1, ?_, ?_, ?_, ?_, ?_⟩
                        · omega
                        · refine ⟨by omega, all_step (p := fun i => edgeB n.states (nth n.edges i Arrow.zero)) hi ?_⟩
                          have hz : ¬ (nth n.edges g1 Arrow.zero).set = BSet.zero := fun hx => h15 ((BSet.zero_iff _).2 hx)
                          simp [edgeB, stateB, hz]; omega
                        · repeat (first | exact trivial | refine ⟨rfl, ?_⟩)
                        · rfl
                        · rfl
            · try simp only [decide_eq_true_eq, decide_eq_false_iff_not, Bool.not_eq_true', Bool.not_eq_false', Bool.not_eq_eq_eq_not, Bool.not_true, Bool.not_false, Int.not_lt, Int.not_le, Decidable.not_not] at h8
              refine TC.exit ?_
              refine S.x ?_
              refine S.x ?_
              refine TC.exitHere ?_
              refine S.n ?_
              refine TC.seq ?_
              refine TC.region ?_
              refine TL.v rfl (OpVal.moveB (.inr rfl) rfl) rfl rfl ?_
              refine TL.nil ?_
              refine S.n ?_
              refine TC.ret ?_
              -- leaf 12 ret [h3: t8=False; h4: t13=False; h5: t21=False; h6: t29=False; h7: False; h8: False] H=['q2']
              refine ret1P rfl (congrArg Value.bool ?_)
              have he := edges_yes (n := n) (fun i h => hi i (by omega))
              simp [checkB, h3, h4, h5, h6, h7, he]

theorem rcheck_con (σ : Store) (n : Nfa) (p : NfaP) (hn : RNfa σ n p) : Con Try.prog 19 #[nfaV n p] σ [] (PureP (.int .i64 (errB (checkB n))) σ) := by
  refine Con.mk (n := 6) Try.func19 rfl rfl rfl (fun w0 => ?_)
  refine TC.seq ?_
  refine TC.region ?_
  refine TL.op rfl (OpOk.boxA rfl rfl rfl rfl (fun b1 => ?_))
  refine TL.v rfl (OpVal.moveI (.inr rfl) rfl) rfl rfl ?_
  refine TL.nil ?_
  refine S.n ?_
  refine TC.seq ?_
  refine TC.seq ?_
  refine TC.region ?_
  refine TL.v rfl (OpVal.loadAll rfl ag25 sz25 rfl (i := 0) rfl rfl) rfl rfl ?_
  refine TL.op rfl (OpOk.callP (right_con _ _ _ hn) rfl rfl pf57 rfl rfl rfl ?_)
  refine TL.v rfl (OpVal.not rfl rfl) rfl rfl ?_
  refine TL.nil ?_
  refine S.n ?_
  refine TC.cond rfl (fun h3 => ?_) (fun h3 => ?_)
  · try simp only [decide_eq_true_eq, decide_eq_false_iff_not, Bool.not_eq_true', Bool.not_eq_false', Bool.not_eq_eq_eq_not, Bool.not_true, Bool.not_false, Int.not_lt, Int.not_le, Decidable.not_not] at h3
    refine TC.seq ?_
    refine TC.region ?_
    refine TL.v rfl (OpVal.moveI (.inr rfl) rfl) rfl rfl ?_
    refine TL.nil ?_
    refine S.n ?_
    refine TC.ret ?_
    refine S.r ?_
    -- leaf 1 ret [h3: True] H=['q2']
    refine ret1P rfl (congrArg (Value.int _) ?_)
    simp [errB, h3]
  · try simp only [decide_eq_true_eq, decide_eq_false_iff_not, Bool.not_eq_true', Bool.not_eq_false', Bool.not_eq_eq_eq_not, Bool.not_true, Bool.not_false, Int.not_lt, Int.not_le, Decidable.not_not] at h3
    refine TC.skip ?_
    refine S.n ?_
    refine TC.seq ?_
    refine TC.region ?_
    refine TL.v rfl (OpVal.moveI (.inr rfl) rfl) rfl rfl ?_
    refine TL.nil ?_
    refine S.n ?_
    refine TC.ret ?_
    -- leaf 2 ret [h3: False] H=['q2']
    refine ret1P rfl (congrArg (Value.int _) ?_)
    simp [errB, h3]

theorem few_con (σ : Store) (n : Nfa) (p : NfaP) (hn : RNfa σ n p) : Con Try.prog 14 #[nfaV n p] σ [] (PureP (.bool (fewB n)) σ) := by
  have hb := hn.d.rv.big
  have hb1 := hn.s.rv.big
  have hb2 := hn.e.rv.big
  refine Con.mk (n := 27) Try.func14 rfl rfl rfl (fun w0 => ?_)
  refine TC.seq ?_
  refine TC.region ?_
  refine TL.op rfl (OpOk.boxA rfl rfl rfl rfl (fun b1 => ?_))
  refine TL.v rfl (OpVal.moveB (.inr rfl) rfl) rfl rfl ?_
  refine TL.nil ?_
  refine S.n ?_
  refine TC.seq ?_
  refine TC.region ?_
  refine TL.v rfl (OpVal.fieldLoc rfl fo25_0 rfl) rfl rfl ?_
  refine TL.v rfl (OpVal.loadLoc rfl ag3 rfl (i := 0) rfl rfl) rfl rfl ?_
  refine TL.v rfl (OpVal.leq rfl rfl rfl) rfl rfl ?_
  refine TL.v rfl (OpVal.moveB (.inl rfl) rfl) rfl rfl ?_
  refine TL.split 6 rfl (fun h3 => ?_) (fun h3 => ?_)
  · try simp only [decide_eq_true_eq, decide_eq_false_iff_not, Bool.not_eq_true', Bool.not_eq_false', Bool.not_eq_eq_eq_not, Bool.not_true, Bool.not_false, Int.not_lt, Int.not_le, Decidable.not_not] at h3
    refine TL.goff rfl rfl rfl rfl rfl rfl rfl rfl ?_
    refine TL.goff rfl rfl rfl rfl rfl rfl rfl rfl ?_
    refine TL.goff rfl rfl rfl rfl rfl rfl rfl rfl ?_
    refine TL.v rfl (OpVal.pickTB rfl rfl rfl) rfl rfl ?_
    refine TL.v rfl (OpVal.moveB (.inl rfl) rfl) rfl rfl ?_
    refine TL.gv rfl rfl rfl rfl rfl (OpVal.fieldLoc rfl fo25_3 rfl) rfl rfl ?_
    refine TL.gv rfl rfl rfl rfl rfl (OpVal.loadLoc rfl ag23 rfl (i := 0) rfl rfl) rfl rfl ?_
    refine TL.gv rfl rfl rfl rfl rfl (OpVal.lenC rfl Try.underlying23 rfl) rfl rfl ?_
    refine TL.gv rfl rfl rfl rfl rfl (OpVal.leq rfl rfl rfl) rfl rfl ?_
    refine TL.v rfl (OpVal.pickTB rfl rfl rfl) rfl rfl ?_
    refine TL.v rfl (OpVal.moveB (.inl rfl) rfl) rfl rfl ?_
    refine TL.split 17 rfl (fun h4 => ?_) (fun h4 => ?_)
    · try simp only [decide_eq_true_eq, decide_eq_false_iff_not, Bool.not_eq_true', Bool.not_eq_false', Bool.not_eq_eq_eq_not, Bool.not_true, Bool.not_false, Int.not_lt, Int.not_le, Decidable.not_not] at h4
      refine TL.gv rfl rfl rfl rfl rfl (OpVal.fieldLoc rfl fo25_1 rfl) rfl rfl ?_
      refine TL.gv rfl rfl rfl rfl rfl (OpVal.loadLoc rfl ag22 rfl (i := 0) rfl rfl) rfl rfl ?_
      refine TL.gv rfl rfl rfl rfl rfl (OpVal.lenC rfl Try.underlying22 rfl) rfl rfl ?_
      refine TL.gv rfl rfl rfl rfl rfl (OpVal.fieldLoc rfl fo25_2 rfl) rfl rfl ?_
      refine TL.gv rfl rfl rfl rfl rfl (OpVal.loadLoc rfl ag22 rfl (i := 0) rfl rfl) rfl rfl ?_
      refine TL.gv rfl rfl rfl rfl rfl (OpVal.lenC rfl Try.underlying22 rfl) rfl rfl ?_
      refine TL.gv rfl rfl rfl rfl rfl (OpVal.add rfl rfl rfl (by omega) (by omega)) rfl rfl ?_
      refine TL.gv rfl rfl rfl rfl rfl (OpVal.leq rfl rfl rfl) rfl rfl ?_
      refine TL.v rfl (OpVal.pickTB rfl rfl rfl) rfl rfl ?_
      refine TL.v rfl (OpVal.moveB (.inr rfl) rfl) rfl rfl ?_
      refine TL.nil ?_
      refine S.n ?_
      refine TC.ret ?_
      -- leaf 1 ret [h3: t6=True; h4: t17=True] H=['q2']
      refine ret1P rfl (congrArg Value.bool ?_)
      simp [fewB, *] <;> omega
    · try simp only [decide_eq_true_eq, decide_eq_false_iff_not, Bool.not_eq_true', Bool.not_eq_false', Bool.not_eq_eq_eq_not, Bool.not_true, Bool.not_false, Int.not_lt, Int.not_le, Decidable.not_not] at h4
      refine TL.goff rfl rfl rfl rfl rfl rfl rfl rfl ?_
      refine TL.goff rfl rfl rfl rfl rfl rfl rfl rfl ?_
      refine TL.goff rfl rfl rfl rfl rfl rfl rfl rfl ?_
      refine TL.goff rfl rfl rfl rfl rfl rfl rfl rfl ?_
      refine TL.goff rfl rfl rfl rfl rfl rfl rfl rfl ?_
      refine TL.goff rfl rfl rfl rfl rfl rfl rfl rfl ?_
      refine TL.goff rfl rfl rfl rfl rfl rfl rfl rfl ?_
      refine TL.goff rfl rfl rfl rfl rfl rfl rfl rfl ?_
      refine TL.v rfl (OpVal.pickFB rfl rfl rfl) rfl rfl ?_
      refine TL.v rfl (OpVal.moveB (.inr rfl) rfl) rfl rfl ?_
      refine TL.nil ?_
      refine S.n ?_
      refine TC.ret ?_
      -- leaf 2 ret [h3: t6=True; h4: t17=False] H=['q2']
      refine ret1P rfl (congrArg Value.bool ?_)
      simp [fewB, *] <;> omega
  · try simp only [decide_eq_true_eq, decide_eq_false_iff_not, Bool.not_eq_true', Bool.not_eq_false', Bool.not_eq_eq_eq_not, Bool.not_true, Bool.not_false, Int.not_lt, Int.not_le, Decidable.not_not] at h3
    refine TL.gv rfl rfl rfl rfl rfl (OpVal.fieldLoc rfl fo25_0 rfl) rfl rfl ?_
    refine TL.gv rfl rfl rfl rfl rfl (OpVal.loadLoc rfl ag3 rfl (i := 0) rfl rfl) rfl rfl ?_
    refine TL.gv rfl rfl rfl rfl rfl (OpVal.gtr rfl rfl rfl) rfl rfl ?_
    refine TL.v rfl (OpVal.pickFB rfl rfl rfl) rfl rfl ?_
    refine TL.v rfl (OpVal.moveB (.inl rfl) rfl) rfl rfl ?_
    refine TL.split 11 rfl (fun h5 => ?_) (fun h5 => ?_)
    · try simp only [decide_eq_true_eq, decide_eq_false_iff_not, Bool.not_eq_true', Bool.not_eq_false', Bool.not_eq_eq_eq_not, Bool.not_true, Bool.not_false, Int.not_lt, Int.not_le, Decidable.not_not] at h5
      refine TL.gv rfl rfl rfl rfl rfl (OpVal.fieldLoc rfl fo25_3 rfl) rfl rfl ?_
      refine TL.gv rfl rfl rfl rfl rfl (OpVal.loadLoc rfl ag23 rfl (i := 0) rfl rfl) rfl rfl ?_
      refine TL.gv rfl rfl rfl rfl rfl (OpVal.lenC rfl Try.underlying23 rfl) rfl rfl ?_
      refine TL.gv rfl rfl rfl rfl rfl (OpVal.leq rfl rfl rfl) rfl rfl ?_
      refine TL.v rfl (OpVal.pickTB rfl rfl rfl) rfl rfl ?_
      refine TL.v rfl (OpVal.moveB (.inl rfl) rfl) rfl rfl ?_
      refine TL.split 17 rfl (fun h6 => ?_) (fun h6 => ?_)
      · try simp only [decide_eq_true_eq, decide_eq_false_iff_not, Bool.not_eq_true', Bool.not_eq_false', Bool.not_eq_eq_eq_not, Bool.not_true, Bool.not_false, Int.not_lt, Int.not_le, Decidable.not_not] at h6
        refine TL.gv rfl rfl rfl rfl rfl (OpVal.fieldLoc rfl fo25_1 rfl) rfl rfl ?_
        refine TL.gv rfl rfl rfl rfl rfl (OpVal.loadLoc rfl ag22 rfl (i := 0) rfl rfl) rfl rfl ?_
        refine TL.gv rfl rfl rfl rfl rfl (OpVal.lenC rfl Try.underlying22 rfl) rfl rfl ?_
        refine TL.gv rfl rfl rfl rfl rfl (OpVal.fieldLoc rfl fo25_2 rfl) rfl rfl ?_
        refine TL.gv rfl rfl rfl rfl rfl (OpVal.loadLoc rfl ag22 rfl (i := 0) rfl rfl) rfl rfl ?_
        refine TL.gv rfl rfl rfl rfl rfl (OpVal.lenC rfl Try.underlying22 rfl) rfl rfl ?_
        refine TL.gv rfl rfl rfl rfl rfl (OpVal.add rfl rfl rfl (by omega) (by omega)) rfl rfl ?_
        refine TL.gv rfl rfl rfl rfl rfl (OpVal.leq rfl rfl rfl) rfl rfl ?_
        refine TL.v rfl (OpVal.pickTB rfl rfl rfl) rfl rfl ?_
        refine TL.v rfl (OpVal.moveB (.inr rfl) rfl) rfl rfl ?_
        refine TL.nil ?_
        refine S.n ?_
        refine TC.ret ?_
        -- leaf 3 ret [h3: t6=False; h5: t11=True; h6: t17=True] H=['q2']
        refine ret1P rfl (congrArg Value.bool ?_)
        simp [fewB, *] <;> omega
      · try simp only [decide_eq_true_eq, decide_eq_false_iff_not, Bool.not_eq_true', Bool.not_eq_false', Bool.not_eq_eq_eq_not, Bool.not_true, Bool.not_false, Int.not_lt, Int.not_le, Decidable.not_not] at h6
        refine TL.goff rfl rfl rfl rfl rfl rfl rfl rfl ?_
        refine TL.goff rfl rfl rfl rfl rfl rfl rfl rfl ?_
        refine TL.goff rfl rfl rfl rfl rfl rfl rfl rfl ?_
        refine TL.goff rfl rfl rfl rfl rfl rfl rfl rfl ?_
        refine TL.goff rfl rfl rfl rfl rfl rfl rfl rfl ?_
        refine TL.goff rfl rfl rfl rfl rfl rfl rfl rfl ?_
        refine TL.goff rfl rfl rfl rfl rfl rfl rfl rfl ?_
        refine TL.goff rfl rfl rfl rfl rfl rfl rfl rfl ?_
        refine TL.v rfl (OpVal.pickFB rfl rfl rfl) rfl rfl ?_
        refine TL.v rfl (OpVal.moveB (.inr rfl) rfl) rfl rfl ?_
        refine TL.nil ?_
        refine S.n ?_
        refine TC.ret ?_
        -- leaf 4 ret [h3: t6=False; h5: t11=True; h6: t17=False] H=['q2']
        refine ret1P rfl (congrArg Value.bool ?_)
        simp [fewB, *] <;> omega
    · try simp only [decide_eq_true_eq, decide_eq_false_iff_not, Bool.not_eq_true', Bool.not_eq_false', Bool.not_eq_eq_eq_not, Bool.not_true, Bool.not_false, Int.not_lt, Int.not_le, Decidable.not_not] at h5
      refine TL.goff rfl rfl rfl rfl rfl rfl rfl rfl ?_
      refine TL.goff rfl rfl rfl rfl rfl rfl rfl rfl ?_
      refine TL.goff rfl rfl rfl rfl rfl rfl rfl rfl ?_
      refine TL.goff rfl rfl rfl rfl rfl rfl rfl rfl ?_
      refine TL.v rfl (OpVal.pickFB rfl rfl rfl) rfl rfl ?_
      refine TL.v rfl (OpVal.moveB (.inl rfl) rfl) rfl rfl ?_
      refine TL.goff rfl rfl rfl rfl rfl rfl rfl rfl ?_
      refine TL.goff rfl rfl rfl rfl rfl rfl rfl rfl ?_
      refine TL.goff rfl rfl rfl rfl rfl rfl rfl rfl ?_
      refine TL.goff rfl rfl rfl rfl rfl rfl rfl rfl ?_
      refine TL.goff rfl rfl rfl rfl rfl rfl rfl rfl ?_
      refine TL.goff rfl rfl rfl rfl rfl rfl rfl rfl ?_
      refine TL.goff rfl rfl rfl rfl rfl rfl rfl rfl ?_
      refine TL.goff rfl rfl rfl rfl rfl rfl rfl rfl ?_
      refine TL.v rfl (OpVal.pickFB rfl rfl rfl) rfl rfl ?_
      refine TL.v rfl (OpVal.moveB (.inr rfl) rfl) rfl rfl ?_
      refine TL.nil ?_
      refine S.n ?_
      refine TC.ret ?_
      -- leaf 5 ret [h3: t6=False; h5: t11=False] H=['q2']
      refine ret1P rfl (congrArg Value.bool ?_)
      simp [fewB, *] <;> omega

theorem fits_con (σ : Store) (s d : Int) : Con Try.prog 61 #[.int .i64 s, .int .i64 d] σ [] (PureP (.bool (decide (s ≤ 4096) && decide (d ≤ 65536))) σ) := by
  refine Con.mk (n := 11) Try.func61 rfl rfl rfl (fun w0 => ?_)
  refine TC.seq ?_
  refine TC.region ?_
  refine TL.v rfl (OpVal.moveB (.inr rfl) rfl) rfl rfl ?_
  refine TL.nil ?_
  refine S.n ?_
  refine TC.seq ?_
  refine TC.region ?_
  refine TL.v rfl (OpVal.moveI (.inl rfl) rfl) rfl rfl ?_
  refine TL.v rfl (OpVal.leq rfl rfl rfl) rfl rfl ?_
  refine TL.v rfl (OpVal.moveB (.inl rfl) rfl) rfl rfl ?_
  refine TL.split 7 rfl (fun h1 => ?_) (fun h1 => ?_)
  · try simp only [decide_eq_true_eq, decide_eq_false_iff_not, Bool.not_eq_true', Bool.not_eq_false', Bool.not_eq_eq_eq_not, Bool.not_true, Bool.not_false, Int.not_lt, Int.not_le, Decidable.not_not] at h1
    refine TL.gv rfl rfl rfl rfl rfl (OpVal.moveI (.inl rfl) rfl) rfl rfl ?_
    refine TL.gv rfl rfl rfl rfl rfl (OpVal.leq rfl rfl rfl) rfl rfl ?_
    refine TL.v rfl (OpVal.pickTB rfl rfl rfl) rfl rfl ?_
    refine TL.v rfl (OpVal.moveB (.inr rfl) rfl) rfl rfl ?_
    refine TL.nil ?_
    refine S.n ?_
    refine TC.ret ?_
    -- leaf 1 ret [h1: t7=True] H=[]
    refine ret1P rfl (congrArg Value.bool ?_)
    simp [*] <;> omega
  · try simp only [decide_eq_true_eq, decide_eq_false_iff_not, Bool.not_eq_true', Bool.not_eq_false', Bool.not_eq_eq_eq_not, Bool.not_true, Bool.not_false, Int.not_lt, Int.not_le, Decidable.not_not] at h1
    refine TL.goff rfl rfl rfl rfl rfl rfl rfl rfl ?_
    refine TL.goff rfl rfl rfl rfl rfl rfl rfl rfl ?_
    refine TL.v rfl (OpVal.pickFB rfl rfl rfl) rfl rfl ?_
    refine TL.v rfl (OpVal.moveB (.inr rfl) rfl) rfl rfl ?_
    refine TL.nil ?_
    refine S.n ?_
    refine TC.ret ?_
    -- leaf 2 ret [h1: t7=False] H=[]
    refine ret1P rfl (congrArg Value.bool ?_)
    simp [*] <;> omega

theorem marks_con (σ : Store) (a : Option Addr) (c : Nat) (l : List Int) (st : Int) (hl : RS σ 1 encI (.slice a l.length c) l) (h0 : 0 ≤ st) (h1 : st ≤ 4096) (hs : ∀ x ∈ l, 0 ≤ x ∧ x < st) :
    Con Try.prog 60 #[.slice a l.length c, .int .i64 st] σ [] (RowP 4 1 encB (marksL l st.toNat) σ) := by
  have hb := hl.rv.big
  obtain ⟨m, rfl⟩ := Int.eq_ofNat_of_zero_le h0
  refine Con.mk (n := 21) Try.func60 rfl rfl rfl (fun w0 => ?_)
  refine TC.seq ?_
  refine TC.region ?_
  refine TL.v rfl (OpVal.moveSl (.inr rfl) rfl) rfl rfl ?_
  refine TL.nil ?_
  refine S.n ?_
  refine TC.seq ?_
  refine TC.region ?_
  refine TL.v rfl (OpVal.moveI (.inl rfl) rfl) rfl rfl ?_
  refine TL.op rfl (OpOk.makeS (enc := encB) false rfl Try.underlying47 sz4 by4 ze4 rfl rfl rfl rfl (by omega) (by decide) encB_len (by decide) rfl encB_one (fun a1 c2 => ?_))
  refine TL.v rfl (OpVal.moveSl (.inr rfl) rfl) rfl rfl ?_
  refine TL.nil ?_
  refine S.n ?_
  refine TC.seq ?_
  refine TC.seq ?_
  refine TC.region ?_
  refine TL.v rfl (OpVal.moveSl (.inl rfl) rfl) rfl rfl ?_
  refine TL.v rfl (OpVal.lenC rfl Try.underlying22 rfl) rfl rfl ?_
  refine TL.v rfl (OpVal.moveI (.inl rfl) rfl) rfl rfl ?_
  refine TL.nil ?_
  refine S.n ?_
  refine TC.block ?_
  refine TC.loopF (α := Nat) [7, 12, 13, 14, 15, 16, 17, 18, 19] (fun k => [(12, .int .i64 (k : Nat))]) (fun k => [Res.rowS 4 1 encB (.slice a1 m c2) (marksTo l k m)]) (fun _ => _) (fun k => k ≤ l.length) (fun k => l.length - k) (0) (by first | exact True.intro | omega | (dsimp only; omega) | (simp; done) | (simp; omega)) (by repeat (first | exact trivial | refine ⟨rfl, ?_⟩)) (by rw [marksTo_zero]) (by rfl) (fun g1 j1 hg1 => ?_)
  have hx : g1 < l.length → 0 ≤ nth l g1 0 ∧ nth l g1 0 < m := fun h => hs _ (nth_mem h 0)
  have hml := marksTo_len l g1 m
  refine TC.seq ?_
  refine TC.region ?_
  refine TL.v rfl (OpVal.lss rfl rfl rfl) rfl rfl ?_
  refine TL.nil ?_
  refine S.n ?_
  refine TC.seq ?_
  refine TC.condD rfl (fun h4 => ?_) (fun h4 => ?_)
  · try simp only [decide_eq_true_eq, decide_eq_false_iff_not, Bool.not_eq_true', Bool.not_eq_false', Bool.not_eq_eq_eq_not, Bool.not_true, Bool.not_false, Int.not_lt, Int.not_le, Decidable.not_not] at h4
    refine TC.skip ?_
    refine S.n ?_
    refine TC.seq ?_
    refine TC.block ?_
    refine TC.seq ?_
    refine TC.region ?_
    refine TL.v rfl (OpVal.indexN rfl Try.underlying22 sz3 rfl rfl (by first | assumption | exact (RS.rv (by assumption)).sl) (by omega)) rfl rfl ?_
    refine TL.v rfl (OpVal.loadS1 (0 : Int) rfl ag3 rfl (by assumption) (by omega) rfl) rfl rfl ?_
    refine TL.v rfl (OpVal.moveI (.inr rfl) rfl) rfl rfl ?_
    refine TL.nil ?_
    refine S.n ?_
    refine TC.region ?_
    refine TL.v rfl (OpVal.moveSl (.inl rfl) rfl) rfl rfl ?_
    refine TL.v rfl (OpVal.moveI (.inl rfl) rfl) rfl rfl ?_
    refine TL.isSl (i := 0) rfl (fun hs5 _ _ => ?_)
    refine TL.v rfl (OpVal.index rfl Try.underlying47 sz4 rfl rfl (by first | assumption | exact (RS.rv (by assumption)).sl) (by omega) (by omega)) rfl rfl ?_
    refine TL.op rfl (OpOk.storeS _ rfl sz4 rfl rfl rfl rfl encB_len encB_one (by omega) (by omega) ?_)
    refine TL.nil ?_
    refine B.n ?_
    refine S.n ?_
    refine TC.region ?_
    refine TL.v rfl (OpVal.succ rfl rfl rfl (by omega)) rfl rfl ?_
    refine TL.v rfl (OpVal.moveI (.inl rfl) rfl) rfl rfl ?_
    refine TL.nil ?_
    refine S.n ?_
    -- leaf 1 next [h4: True] H=['q3']
    refine ⟨by repeat (first | exact Agr.mask | refine Agr.upd rfl ?_ | refine Agr.maskIn rfl ?_), g1 + 1, ?_, ?_, ?_, ?_, ?_⟩
    · omega
    · first | exact True.intro | omega | (dsimp only; omega) | (simp; done) | (simp; omega)
    · repeat (first | exact trivial | refine ⟨rfl, ?_⟩)
    · rw [marksTo_succ (by omega) (by omega)]
    · rfl
  · try simp only [decide_eq_true_eq, decide_eq_false_iff_not, Bool.not_eq_true', Bool.not_eq_false', Bool.not_eq_eq_eq_not, Bool.not_true, Bool.not_false, Int.not_lt, Int.not_le, Decidable.not_not] at h4
    refine TC.exit ?_
    refine S.x ?_
    refine S.x ?_
    refine TC.exitHere ?_
    refine S.n ?_
    refine TC.seq ?_
    refine TC.region ?_
    refine TL.v rfl (OpVal.moveSl (.inl rfl) rfl) rfl rfl ?_
    refine TL.v rfl (OpVal.moveSl (.inr rfl) rfl) rfl rfl ?_
    refine TL.nil ?_
    refine S.n ?_
    refine TC.ret ?_
    -- leaf 2 ret [h4: False] H=['q3']
    obtain rfl : g1 = l.length := by omega
    simp only [Int.toNat_natCast, marksTo_all]
    exact ret1R' rfl rfl (marksL_len l m)

theorem shift_con (σ : Store) (a : Option Addr) (c : Nat) (l : List Int) (k : Int) (hl : RS σ 1 encI (.slice a l.length c) l) (hk : 0 ≤ k ∧ k ≤ 1000000) (hs : ∀ x ∈ l, 0 ≤ x ∧ x ≤ 1000000) (hsz : l.length ≤ 1000000000000) :
    Con Try.prog 63 #[.slice a l.length c, .int .i64 k] σ [] (RowP 3 1 encI (shiftL l k) σ) := by
  have hb := hl.rv.big
  refine Con.mk (n := 26) Try.func63 rfl rfl rfl (fun w0 => ?_)
  refine TC.seq ?_
  refine TC.region ?_
  refine TL.v rfl (OpVal.moveSl (.inr rfl) rfl) rfl rfl ?_
  refine TL.nil ?_
  refine S.n ?_
  refine TC.seq ?_
  refine TC.region ?_
  refine TL.v rfl (OpVal.moveSl (.inl rfl) rfl) rfl rfl ?_
  refine TL.v rfl (OpVal.lenC rfl Try.underlying22 rfl) rfl rfl ?_
  refine TL.op rfl (OpOk.makeS (enc := encI) (0 : Int) rfl Try.underlying22 sz3 by3 ze3 rfl rfl rfl rfl (by omega) (by decide) encI_len (by decide) rfl encI_one (fun a1 c2 => ?_))
  refine TL.v rfl (OpVal.moveSl (.inr rfl) rfl) rfl rfl ?_
  refine TL.nil ?_
  refine S.n ?_
  refine TC.seq ?_
  refine TC.seq ?_
  refine TC.region ?_
  refine TL.v rfl (OpVal.moveSl (.inl rfl) rfl) rfl rfl ?_
  refine TL.v rfl (OpVal.lenC rfl Try.underlying22 rfl) rfl rfl ?_
  refine TL.v rfl (OpVal.moveI (.inl rfl) rfl) rfl rfl ?_
  refine TL.nil ?_
  refine S.n ?_
  refine TC.block ?_
  refine TC.loopF (α := Nat) [6, 7, 13, 14, 15, 16, 17, 18, 19, 20, 21, 22, 23, 24] (fun i => [(13, .int .i64 (i : Nat))]) (fun i => [Res.rowS 3 1 encI (.slice a1 l.length c2) (shiftTo l i k)]) (fun _ => _) (fun i => i ≤ l.length) (fun i => l.length - i) (0) (by first | exact True.intro | omega | (dsimp only; omega) | (simp; done) | (simp; omega)) (by repeat (first | exact trivial | refine ⟨rfl, ?_⟩)) (by simp [shiftTo, shiftL]) (by rfl) (fun g1 j1 hg1 => ?_)
  have hx : g1 < l.length → 0 ≤ nth l g1 0 ∧ nth l g1 0 ≤ 1000000 := fun h => hs _ (nth_mem h 0)
  have hml := fun h => shiftTo_len l g1 k h
  refine TC.seq ?_
  refine TC.region ?_
  refine TL.v rfl (OpVal.lss rfl rfl rfl) rfl rfl ?_
  refine TL.nil ?_
  refine S.n ?_
  refine TC.seq ?_
  refine TC.condD rfl (fun h4 => ?_) (fun h4 => ?_)
  · try simp only [decide_eq_true_eq, decide_eq_false_iff_not, Bool.not_eq_true', Bool.not_eq_false', Bool.not_eq_eq_eq_not, Bool.not_true, Bool.not_false, Int.not_lt, Int.not_le, Decidable.not_not] at h4
    refine TC.skip ?_
    refine S.n ?_
    refine TC.seq ?_
    refine TC.block ?_
    refine TC.seq ?_
    refine TC.region ?_
    refine TL.v rfl (OpVal.moveI (.inl rfl) rfl) rfl rfl ?_
    refine TL.v rfl (OpVal.indexN rfl Try.underlying22 sz3 rfl rfl (by first | assumption | exact (RS.rv (by assumption)).sl) (by omega)) rfl rfl ?_
    refine TL.v rfl (OpVal.loadS1 (0 : Int) rfl ag3 rfl (by assumption) (by omega) rfl) rfl rfl ?_
    refine TL.v rfl (OpVal.moveI (.inr rfl) rfl) rfl rfl ?_
    refine TL.v rfl (OpVal.moveI (.inr rfl) rfl) rfl rfl ?_
    refine TL.nil ?_
    refine S.n ?_
    refine TC.region ?_
    refine TL.v rfl (OpVal.moveSl (.inl rfl) rfl) rfl rfl ?_
    refine TL.v rfl (OpVal.moveI (.inl rfl) rfl) rfl rfl ?_
    refine TL.v rfl (OpVal.moveI (.inl rfl) rfl) rfl rfl ?_
    refine TL.v rfl (OpVal.moveI (.inl rfl) rfl) rfl rfl ?_
    refine TL.v rfl (OpVal.add rfl rfl rfl (by omega) (by omega)) rfl rfl ?_
    refine TL.isSl (i := 0) rfl (fun hs5 _ _ => ?_)
    refine TL.v rfl (OpVal.indexN rfl Try.underlying22 sz3 rfl rfl (by first | assumption | exact (RS.rv (by assumption)).sl) (by omega)) rfl rfl ?_
    refine TL.op rfl (OpOk.storeS _ rfl sz3 rfl rfl rfl rfl encI_len encI_one (by omega) (by omega) ?_)
    refine TL.nil ?_
    refine B.n ?_
    refine S.n ?_
    refine TC.region ?_
    refine TL.v rfl (OpVal.succ rfl rfl rfl (by omega)) rfl rfl ?_
    refine TL.v rfl (OpVal.moveI (.inl rfl) rfl) rfl rfl ?_
    refine TL.nil ?_
    refine S.n ?_
    -- leaf 1 next [h4: True] H=['q3']
    refine ⟨by repeat (first | exact Agr.mask | refine Agr.upd rfl ?_ | refine Agr.maskIn rfl ?_), g1 + 1, ?_, ?_, ?_, ?_, ?_⟩
    · omega
    · first | exact True.intro | omega | (dsimp only; omega) | (simp; done) | (simp; omega)
    · repeat (first | exact trivial | refine ⟨rfl, ?_⟩)
    · rw [shiftTo_succ (by omega)]
    · rfl
  · try simp only [decide_eq_true_eq, decide_eq_false_iff_not, Bool.not_eq_true', Bool.not_eq_false', Bool.not_eq_eq_eq_not, Bool.not_true, Bool.not_false, Int.not_lt, Int.not_le, Decidable.not_not] at h4
    refine TC.exit ?_
    refine S.x ?_
    refine S.x ?_
    refine TC.exitHere ?_
    refine S.n ?_
    refine TC.seq ?_
    refine TC.region ?_
    refine TL.v rfl (OpVal.moveSl (.inl rfl) rfl) rfl rfl ?_
    refine TL.v rfl (OpVal.moveSl (.inr rfl) rfl) rfl rfl ?_
    refine TL.nil ?_
    refine S.n ?_
    refine TC.ret ?_
    -- leaf 2 ret [h4: False] H=['q3']
    obtain rfl : g1 = l.length := by omega
    simp only [shiftTo_all]
    exact ret1R' rfl rfl (shiftL_len l k)

theorem rshift_con (σ : Store) (a : Option Addr) (c : Nat) (l : List Int) (k : Int) (hl : RS σ 1 encI (.slice a l.length c) l) (hk : 0 ≤ k ∧ k ≤ 1000000) (hs : ∀ x ∈ l, 0 ≤ x ∧ x ≤ 1000000) (hsz : l.length ≤ 1000000000000) :
    Con Try.prog 67 #[.slice a l.length c, .int .i64 k] σ [] (RowP 3 1 encI (shiftL l k) σ) := by
  have hb := hl.rv.big
  refine Con.mk (n := 23) Try.func67 rfl rfl rfl (fun w0 => ?_)
  refine TC.seq ?_
  refine TC.region ?_
  refine TL.v rfl (OpVal.moveSl (.inr rfl) rfl) rfl rfl ?_
  refine TL.nil ?_
  refine S.n ?_
  refine TC.seq ?_
  refine TC.region ?_
  refine TL.v rfl (OpVal.moveSl (.inr rfl) rfl) rfl rfl ?_
  refine TL.nilS 3 1 encI ?_
  refine TL.nil ?_
  refine S.n ?_
  refine TC.seq ?_
  refine TC.seq ?_
  refine TC.region ?_
  refine TL.v rfl (OpVal.moveI (.inr rfl) rfl) rfl rfl ?_
  refine TL.nil ?_
  refine S.n ?_
  refine TC.block ?_
  refine TC.loopF (α := Nat × Option Addr × Nat) [5, 6, 7, 8, 9, 10, 11, 12, 13, 14, 15, 16, 17, 18, 19, 20, 21] (fun g => [(6, .int .i64 (g.1 : Nat)), (5, .slice g.2.1 (shiftL (l.take g.1) k).length g.2.2)]) (fun g => [Res.rowS 3 1 encI (.slice g.2.1 (shiftL (l.take g.1) k).length g.2.2) (shiftL (l.take g.1) k)]) (fun _ => _) (fun g => g.1 ≤ l.length) (fun g => l.length - g.1) ((0, none, 0)) (by first | exact True.intro | omega | (dsimp only; omega) | (simp; done) | (simp; omega)) (by repeat (first | exact trivial | refine ⟨rfl, ?_⟩)) (by rfl) (by rfl) (fun g1 j1 hg1 => ?_)
  obtain ⟨g1, ga, gc⟩ := g1
  dsimp only
  have hg1 : g1 ≤ l.length := hg1
  have hx : g1 < l.length → 0 ≤ nth l g1 0 ∧ nth l g1 0 ≤ 1000000 := fun h => hs _ (nth_mem h 0)
  have hml : (shiftL (l.take g1) k).length = min g1 l.length := by simp [shiftL]
  refine TC.seq ?_
  refine TC.seq ?_
  refine TC.region ?_
  refine TL.v rfl (OpVal.moveI (.inl rfl) rfl) rfl rfl ?_
  refine TL.v rfl (OpVal.moveSl (.inl rfl) rfl) rfl rfl ?_
  refine TL.v rfl (OpVal.lenC rfl Try.underlying22 rfl) rfl rfl ?_
  refine TL.v rfl (OpVal.lss rfl rfl rfl) rfl rfl ?_
  refine TL.nil ?_
  refine S.n ?_
  refine TC.condD rfl (fun h2 => ?_) (fun h2 => ?_)
  · try simp only [decide_eq_true_eq, decide_eq_false_iff_not, Bool.not_eq_true', Bool.not_eq_false', Bool.not_eq_eq_eq_not, Bool.not_true, Bool.not_false, Int.not_lt, Int.not_le, Decidable.not_not] at h2
    refine TC.skip ?_
    refine S.n ?_
    refine TC.seq ?_
    refine TC.block ?_
    refine TC.region ?_
    refine TL.v rfl (OpVal.moveSl (.inl rfl) rfl) rfl rfl ?_
    refine TL.v rfl (OpVal.moveSl (.inl rfl) rfl) rfl rfl ?_
    refine TL.v rfl (OpVal.moveI (.inl rfl) rfl) rfl rfl ?_
    refine TL.v rfl (OpVal.indexN rfl Try.underlying22 sz3 rfl rfl (by first | assumption | exact (RS.rv (by assumption)).sl) (by omega)) rfl rfl ?_
    refine TL.v rfl (OpVal.loadS1 (0 : Int) rfl ag3 rfl (by assumption) (by omega) rfl) rfl rfl ?_
    refine TL.v rfl (OpVal.moveI (.inl rfl) rfl) rfl rfl ?_
    refine TL.v rfl (OpVal.add rfl rfl rfl (by omega) (by omega)) rfl rfl ?_
    refine TL.op rfl (OpOk.lit (enc := encI) [_] rfl Try.underlying22 sz3 ze3 rfl rfl rfl encI_len (by decide) (by decide) (0 : Int) rfl (by decide) rfl (by decide) encI_one (fun a3 c4 => ?_))
    refine TL.front 1 rfl rfl ?_
    refine TL.op rfl (OpOk.appendS rfl rfl Try.underlying22 sz3 by3 ze3 rfl rfl (by decide) rfl rfl rfl (.inr ⟨_, 0, rfl⟩) (by (try simp only [List.length_cons, List.length_nil, List.length_append]); omega) (by decide) (fun a6 c7 => ?_))
    refine TL.v rfl (OpVal.moveSl (.inr rfl) rfl) rfl rfl ?_
    refine TL.nil ?_
    refine B.n ?_
    refine S.n ?_
    refine TC.region ?_
    refine TL.v rfl (OpVal.moveI (.inl rfl) rfl) rfl rfl ?_
    refine TL.v rfl (OpVal.succ rfl rfl rfl (by omega)) rfl rfl ?_
    refine TL.v rfl (OpVal.moveI (.inr rfl) rfl) rfl rfl ?_
    refine TL.takeN 1 rfl ?_
    refine TL.nil ?_
    refine S.n ?_
    -- leaf 1 next [h2: True] H=['q1']
    refine ⟨by repeat (first | exact Agr.mask | refine Agr.upd rfl ?_ | refine Agr.maskIn rfl ?_), (g1 + 1, a6, c7), ?_, ?_, ?_, ?_, ?_⟩
    · show l.length - (g1 + 1) < l.length - g1; omega
    · show g1 + 1 ≤ l.length; omega
    · show Has _ [(_, .int .i64 ((g1 + 1 : Nat) : Int)), (5, .slice _ (shiftL (l.take (g1 + 1)) k).length _)]
      rw [shiftL_snoc (l := l) (i := g1) (k := k) (by omega)]; exact ⟨rfl, rfl, trivial⟩
    · show _ = [Res.rowS _ _ _ (.slice _ (shiftL (l.take (g1 + 1)) k).length _) (shiftL (l.take (g1 + 1)) k)]
      rw [shiftL_snoc (l := l) (i := g1) (k := k) (by omega)]; rfl
    · rfl
  · try simp only [decide_eq_true_eq, decide_eq_false_iff_not, Bool.not_eq_true', Bool.not_eq_false', Bool.not_eq_eq_eq_not, Bool.not_true, Bool.not_false, Int.not_lt, Int.not_le, Decidable.not_not] at h2
    refine TC.exit ?_
    refine S.x ?_
    refine S.x ?_
    refine TC.exitHere ?_
    refine S.n ?_
    refine TC.seq ?_
    refine TC.region ?_
    refine TL.v rfl (OpVal.moveSl (.inl rfl) rfl) rfl rfl ?_
    refine TL.v rfl (OpVal.moveSl (.inr rfl) rfl) rfl rfl ?_
    refine TL.nil ?_
    refine S.n ?_
    refine TC.ret ?_
    -- leaf 2 ret [h2: False] H=['q1']
    obtain rfl : g1 = l.length := by omega
    rw [List.take_length]
    exact ret1R rfl rfl

theorem empty_con (σ : Store) (n : Nfa) (p : NfaP) (hn : RNfa σ n p) : Con Try.prog 69 #[nfaV n p] σ [] (PureP (.bool (emptyB n)) σ) := by
  have hb1 := hn.s.rv.big
  have hs := hn.s
  refine Con.mk (n := 19) Try.func69 rfl rfl rfl (fun w0 => ?_)
  refine TC.seq ?_
  refine TC.region ?_
  refine TL.op rfl (OpOk.boxA rfl rfl rfl rfl (fun b1 => ?_))
  refine TL.v rfl (OpVal.moveB (.inr rfl) rfl) rfl rfl ?_
  refine TL.nil ?_
  refine S.n ?_
  refine TC.seq ?_
  refine TC.seq ?_
  refine TC.region ?_
  refine TL.v rfl (OpVal.moveI (.inr rfl) rfl) rfl rfl ?_
  refine TL.nil ?_
  refine S.n ?_
  refine TC.block ?_
  refine TC.loopF (α := Nat) [2, 3, 4, 5, 6, 7, 8, 9, 10, 11, 12, 13, 14, 15, 16, 17, 18] (fun k => [(3, .int .i64 (k : Nat))]) (fun _ => _) (fun _ => _) (fun k => k ≤ n.starts.length ∧ ∀ i, i < k → n.ends.contains (nth n.starts i 0) = false) (fun k => n.starts.length - k) (0) (by first | exact True.intro | omega | (dsimp only; omega) | (simp; done) | (simp; omega)) (by repeat (first | exact trivial | refine ⟨rfl, ?_⟩)) (by rfl) (by rfl) (fun g1 j1 hg1 => ?_)
  obtain ⟨hk, hi⟩ := hg1
  refine TC.seq ?_
  refine TC.seq ?_
  refine TC.region ?_
  refine TL.v rfl (OpVal.moveI (.inl rfl) rfl) rfl rfl ?_
  refine TL.v rfl (OpVal.fieldLoc rfl fo25_1 rfl) rfl rfl ?_
  refine TL.v rfl (OpVal.loadLoc rfl ag22 rfl (i := 0) rfl rfl) rfl rfl ?_
  refine TL.v rfl (OpVal.lenC rfl Try.underlying22 rfl) rfl rfl ?_
  refine TL.v rfl (OpVal.lss rfl rfl rfl) rfl rfl ?_
  refine TL.nil ?_
  refine S.n ?_
  refine TC.condD rfl (fun h3 => ?_) (fun h3 => ?_)
  · try simp only [decide_eq_true_eq, decide_eq_false_iff_not, Bool.not_eq_true', Bool.not_eq_false', Bool.not_eq_eq_eq_not, Bool.not_true, Bool.not_false, Int.not_lt, Int.not_le, Decidable.not_not] at h3
    refine TC.skip ?_
    refine S.n ?_
    refine TC.seq ?_
    refine TC.block ?_
    refine TC.seq ?_
    refine TC.draw [] (by kernel_rfl) ?_
    refine TA.takeP 0 rfl (by kernel_rfl) (by kernel_rfl) (by kernel_rfl) rfl (OpVal.fieldLoc rfl fo25_1 rfl) rfl rfl ?_
    refine TA.take 1 rfl (by kernel_rfl) (by kernel_rfl) (by kernel_rfl) (by kernel_rfl) rfl (OpVal.loadLoc rfl ag22 rfl (i := 0) rfl rfl) rfl rfl ?_
    refine TA.takeP 2 rfl (by kernel_rfl) (by kernel_rfl) (by kernel_rfl) rfl (OpVal.moveI (.inl rfl) rfl) rfl rfl ?_
    refine TA.takeP 3 rfl (by kernel_rfl) (by kernel_rfl) (by kernel_rfl) rfl (OpVal.indexN rfl Try.underlying22 sz3 rfl rfl (by first | assumption | exact (RS.rv (by assumption)).sl) (by omega)) rfl rfl ?_
    refine TA.take 4 rfl (by kernel_rfl) (by kernel_rfl) (by kernel_rfl) (by kernel_rfl) rfl (OpVal.loadS1 (0 : Int) rfl ag3 rfl (by assumption) (by omega) rfl) rfl rfl ?_
    refine TA.takeP 5 rfl (by kernel_rfl) (by kernel_rfl) (by kernel_rfl) rfl (OpVal.fieldLoc rfl fo25_2 rfl) rfl rfl ?_
    refine TA.take 6 rfl (by kernel_rfl) (by kernel_rfl) (by kernel_rfl) (by kernel_rfl) rfl (OpVal.loadLoc rfl ag22 rfl (i := 0) rfl rfl) rfl rfl ?_
    refine TA.act 7 (by kernel_rfl) rfl rfl (OpOk.callP (in_con _ _ _ _ _ hn.e) rfl rfl pf59 rfl rfl rfl ⟨(fun w h => sees_of (by first | exact Store.le.refl _ | assumption) (fun r hr => hr) w h), ?_⟩)
    refine TA.done (by kernel_rfl) ?_
    refine S.n ?_
    refine TC.cond rfl (fun h4 => ?_) (fun h4 => ?_)
    · try simp only [decide_eq_true_eq, decide_eq_false_iff_not, Bool.not_eq_true', Bool.not_eq_false', Bool.not_eq_eq_eq_not, Bool.not_true, Bool.not_false, Int.not_lt, Int.not_le, Decidable.not_not] at h4
      refine TC.seq ?_
      refine TC.region ?_
      refine TL.v rfl (OpVal.moveB (.inr rfl) rfl) rfl rfl ?_
      refine TL.nil ?_
      refine S.n ?_
      refine TC.ret ?_
      refine B.r ?_
      refine S.r ?_
      refine S.r ?_
      refine B.r ?_
      refine S.r ?_
      -- leaf 1 ret [h3: True; h4: True] H=['q2']
      refine ret1P rfl (congrArg Value.bool ?_)
      exact (emptyB_yes (k := g1) (by omega) h4).symm
    · try simp only [decide_eq_true_eq, decide_eq_false_iff_not, Bool.not_eq_true', Bool.not_eq_false', Bool.not_eq_eq_eq_not, Bool.not_true, Bool.not_false, Int.not_lt, Int.not_le, Decidable.not_not] at h4
      refine TC.skip ?_
      refine B.n ?_
      refine S.n ?_
      refine TC.region ?_
      refine TL.v rfl (OpVal.moveI (.inl rfl) rfl) rfl rfl ?_
      refine TL.v rfl (OpVal.succ rfl rfl rfl (by omega)) rfl rfl ?_
      refine TL.v rfl (OpVal.moveI (.inr rfl) rfl) rfl rfl ?_
      refine TL.nil ?_
      refine S.n ?_
      -- leaf 2 next [h3: True; h4: False] H=['q2']
      refine ⟨by repeat (first | exact Agr.mask | refine Agr.upd rfl ?_ | refine Agr.maskIn rfl ?_), g1 + 1, ?_, ?_, ?_, ?_, ?_⟩
      · omega
      · exact ⟨by omega, fun j hj => by rcases Nat.lt_succ_iff_lt_or_eq.1 hj with h | rfl; exact hi j h; exact h4⟩
      · repeat (first | exact trivial | refine ⟨rfl, ?_⟩)
      · rfl
      · rfl
  · try simp only [decide_eq_true_eq, decide_eq_false_iff_not, Bool.not_eq_true', Bool.not_eq_false', Bool.not_eq_eq_eq_not, Bool.not_true, Bool.not_false, Int.not_lt, Int.not_le, Decidable.not_not] at h3
    refine TC.exit ?_
    refine S.x ?_
    refine S.x ?_
    refine TC.exitHere ?_
    refine S.n ?_
    refine TC.seq ?_
    refine TC.region ?_
    refine TL.v rfl (OpVal.moveB (.inr rfl) rfl) rfl rfl ?_
    refine TL.nil ?_
    refine S.n ?_
    refine TC.ret ?_
    -- leaf 3 ret [h3: False] H=['q2']
    refine ret1P rfl (congrArg Value.bool ?_)
    exact (emptyB_no (fun j hj => hi j (by omega))).symm

theorem clone_con (σ : Store) (a : Option Addr) (c : Nat) (l : List Int) (hl : RS σ 1 encI (.slice a l.length c) l) (hsz : l.length ≤ 1000000000000) :
    Con Try.prog 64 #[.slice a l.length c] σ [] (RowP 3 1 encI l σ) := by
  have hb := hl.rv.big
  refine Con.mk (n := 8) Try.func64 rfl rfl rfl (fun w0 => ?_)
  refine TC.seq ?_
  refine TC.region ?_
  refine TL.v rfl (OpVal.moveSl (.inr rfl) rfl) rfl rfl ?_
  refine TL.nilS 3 1 encI ?_
  refine TL.nil ?_
  refine S.n ?_
  refine TC.seq ?_
  refine TC.seq ?_
  refine TC.region ?_
  refine TL.v rfl (OpVal.moveSl (.inl rfl) rfl) rfl rfl ?_
  refine TL.v rfl (OpVal.eqlNilSl rfl Try.underlying22 rfl rfl) rfl rfl ?_
  refine TL.nil ?_
  refine S.n ?_
  refine TC.cond rfl (fun h2 => ?_) (fun h2 => ?_)
  · try simp only [decide_eq_true_eq, decide_eq_false_iff_not, Bool.not_eq_true', Bool.not_eq_false', Bool.not_eq_eq_eq_not, Bool.not_true, Bool.not_false, Int.not_lt, Int.not_le, Decidable.not_not] at h2
    refine TC.seq ?_
    refine TC.region ?_
    refine TL.v rfl (OpVal.moveSl (.inr rfl) rfl) rfl rfl ?_
    refine TL.nilS 3 1 encI ?_
    refine TL.nil ?_
    refine S.n ?_
    refine TC.ret ?_
    refine S.r ?_
    -- leaf 1 ret [h2: True] H=['q3', 'q1']
    cases a with
    | some _ => simp at h2
    | none =>
      obtain rfl := hl.none_nil
      exact ret1R rfl rfl
  · try simp only [decide_eq_true_eq, decide_eq_false_iff_not, Bool.not_eq_true', Bool.not_eq_false', Bool.not_eq_eq_eq_not, Bool.not_true, Bool.not_false, Int.not_lt, Int.not_le, Decidable.not_not] at h2
    refine TC.skip ?_
    refine S.n ?_
    refine TC.seq ?_
    refine TC.region ?_
    refine TL.op rfl (OpOk.lit0 (enc := encI) rfl rfl Try.underlying22 sz3 rfl rfl (fun a4 c5 => ?_))
    refine TL.v rfl (OpVal.moveSl (.inl rfl) rfl) rfl rfl ?_
    refine TL.op rfl (OpOk.appendS rfl rfl Try.underlying22 sz3 by3 ze3 rfl rfl (by decide) rfl rfl rfl (.inl (by assumption)) (by (try simp only [List.length_cons, List.length_nil, List.length_append]); omega) (by decide) (fun a7 c8 => ?_))
    refine TL.v rfl (OpVal.moveSl (.inr rfl) rfl) rfl rfl ?_
    refine TL.nil ?_
    refine S.n ?_
    refine TC.ret ?_
    -- leaf 2 ret [h2: False] H=['q6', 'q1']
    exact ret1R rfl rfl

theorem clonee_con (σ : Store) (a : Option Addr) (c : Nat) (l : List Arrow) (hl : RS σ 6 encE (.slice a l.length c) l) (hsz : l.length ≤ 1000000000000) :
    Con Try.prog 72 #[.slice a l.length c] σ [] (RowP 80 6 encE l σ) := by
  have hb := hl.rv.big
  refine Con.mk (n := 8) Try.func72 rfl rfl rfl (fun w0 => ?_)
  refine TC.seq ?_
  refine TC.region ?_
  refine TL.v rfl (OpVal.moveSl (.inr rfl) rfl) rfl rfl ?_
  refine TL.nilS 80 6 encE ?_
  refine TL.nil ?_
  refine S.n ?_
  refine TC.seq ?_
  refine TC.seq ?_
  refine TC.region ?_
  refine TL.v rfl (OpVal.moveSl (.inl rfl) rfl) rfl rfl ?_
  refine TL.v rfl (OpVal.eqlNilSl rfl Try.underlying23 rfl rfl) rfl rfl ?_
  refine TL.nil ?_
  refine S.n ?_
  refine TC.cond rfl (fun h2 => ?_) (fun h2 => ?_)
  · try simp only [decide_eq_true_eq, decide_eq_false_iff_not, Bool.not_eq_true', Bool.not_eq_false', Bool.not_eq_eq_eq_not, Bool.not_true, Bool.not_false, Int.not_lt, Int.not_le, Decidable.not_not] at h2
    refine TC.seq ?_
    refine TC.region ?_
    refine TL.v rfl (OpVal.moveSl (.inr rfl) rfl) rfl rfl ?_
    refine TL.nilS 80 6 encE ?_
    refine TL.nil ?_
    refine S.n ?_
    refine TC.ret ?_
    refine S.r ?_
    -- leaf 1 ret [h2: True] H=['q3', 'q1']
    cases a with
    | some _ => simp at h2
    | none =>
      obtain rfl := hl.none_nil
      exact ret1R rfl rfl
  · try simp only [decide_eq_true_eq, decide_eq_false_iff_not, Bool.not_eq_true', Bool.not_eq_false', Bool.not_eq_eq_eq_not, Bool.not_true, Bool.not_false, Int.not_lt, Int.not_le, Decidable.not_not] at h2
    refine TC.skip ?_
    refine S.n ?_
    refine TC.seq ?_
    refine TC.region ?_
    refine TL.op rfl (OpOk.lit0 (enc := encE) rfl rfl Try.underlying23 sz80 rfl rfl (fun a4 c5 => ?_))
    refine TL.v rfl (OpVal.moveSl (.inl rfl) rfl) rfl rfl ?_
    refine TL.op rfl (OpOk.appendS rfl rfl Try.underlying23 sz80 by80 ze80 rfl rfl (by decide) rfl rfl rfl (.inl (by assumption)) (by (try simp only [List.length_cons, List.length_nil, List.length_append]); omega) (by decide) (fun a7 c8 => ?_))
    refine TL.v rfl (OpVal.moveSl (.inr rfl) rfl) rfl rfl ?_
    refine TL.nil ?_
    refine S.n ?_
    refine TC.ret ?_
    -- leaf 2 ret [h2: False] H=['q6', 'q1']
    exact ret1R rfl rfl

theorem rboth_con (σ : Store) (a : Option Addr) (c : Nat) (l : List Int) (a' : Option Addr) (c' : Nat) (l' : List Int) (hl : RS σ 1 encI (.slice a l.length c) l) (hl' : RS σ 1 encI (.slice a' l'.length c') l') (hsz : l.length ≤ 1000000000000) (hsz' : l'.length ≤ 1000000000000) :
    Con Try.prog 68 #[.slice a l.length c, .slice a' l'.length c'] σ [] (RowP 3 1 encI (l ++ l') σ) := by
  refine Con.mk (n := 13) Try.func68 rfl rfl rfl (fun w0 => ?_)
  refine TC.seq ?_
  refine TC.region ?_
  refine TL.v rfl (OpVal.moveSl (.inr rfl) rfl) rfl rfl ?_
  refine TL.nil ?_
  refine S.n ?_
  refine TC.seq ?_
  refine TC.region ?_
  refine TL.v rfl (OpVal.moveSl (.inr rfl) rfl) rfl rfl ?_
  refine TL.nilS 3 1 encI ?_
  refine TL.nil ?_
  refine S.n ?_
  refine TC.seq ?_
  refine TC.region ?_
  refine TL.v rfl (OpVal.moveSl (.inl rfl) rfl) rfl rfl ?_
  refine TL.v rfl (OpVal.moveSl (.inl rfl) rfl) rfl rfl ?_
  refine TL.op rfl (OpOk.appendS rfl rfl Try.underlying22 sz3 by3 ze3 rfl rfl (by decide) rfl rfl rfl (.inl (by assumption)) (by (try simp only [List.length_cons, List.length_nil, List.length_append]); omega) (by decide) (fun a2 c3 => ?_))
  refine TL.v rfl (OpVal.moveSl (.inr rfl) rfl) rfl rfl ?_
  refine TL.nil ?_
  refine S.n ?_
  refine TC.seq ?_
  refine TC.region ?_
  refine TL.v rfl (OpVal.moveSl (.inl rfl) rfl) rfl rfl ?_
  refine TL.v rfl (OpVal.moveSl (.inl rfl) rfl) rfl rfl ?_
  refine TL.op rfl (OpOk.appendS rfl rfl Try.underlying22 sz3 by3 ze3 rfl rfl (by decide) rfl rfl rfl (.inl (by assumption)) (by (try simp only [List.length_cons, List.length_nil, List.length_append]); omega) (by decide) (fun a4 c5 => ?_))
  refine TL.v rfl (OpVal.moveSl (.inr rfl) rfl) rfl rfl ?_
  refine TL.nil ?_
  refine S.n ?_
  refine TC.seq ?_
  refine TC.region ?_
  refine TL.v rfl (OpVal.moveSl (.inl rfl) rfl) rfl rfl ?_
  refine TL.v rfl (OpVal.moveSl (.inr rfl) rfl) rfl rfl ?_
  refine TL.nil ?_
  refine S.n ?_
  refine TC.ret ?_
  -- leaf 1 ret [] H=['q1']
  exact ret1R rfl rfl

theorem shifted_con (σ : Store) (a : Option Addr) (c : Nat) (l : List Arrow) (k : Int) (hl : RS σ 6 encE (.slice a l.length c) l) (hk : 0 ≤ k ∧ k ≤ 1000000) (hs : ∀ x ∈ l, 0 ≤ x.frm ∧ x.frm ≤ 1000000 ∧ 0 ≤ x.to ∧ x.to ≤ 1000000) (hsz : l.length ≤ 1000000000) :
    Con Try.prog 70 #[.slice a l.length c, .int .i64 k] σ [] (RowP 80 6 encE (shiftE l k) σ) := by
  have hb := hl.rv.big
  refine Con.mk (n := 37) Try.func70 rfl rfl rfl (fun w0 => ?_)
  refine TC.seq ?_
  refine TC.region ?_
  refine TL.v rfl (OpVal.moveSl (.inr rfl) rfl) rfl rfl ?_
  refine TL.nil ?_
  refine S.n ?_
  refine TC.seq ?_
  refine TC.region ?_
  refine TL.v rfl (OpVal.moveSl (.inr rfl) rfl) rfl rfl ?_
  refine TL.nilS 80 6 encE ?_
  refine TL.nil ?_
  refine S.n ?_
  refine TC.seq ?_
  refine TC.seq ?_
  refine TC.region ?_
  refine TL.v rfl (OpVal.moveI (.inr rfl) rfl) rfl rfl ?_
  refine TL.nil ?_
  refine S.n ?_
  refine TC.block ?_
  refine TC.loopF (α := Nat × Option Addr × Nat) [5, 6, 7, 8, 9, 10, 11, 12, 13, 14, 15, 16, 17, 18, 19, 20, 21, 22, 23, 24, 25, 26, 27, 28, 29, 30, 31, 32, 33, 34, 35] (fun g => [(6, .int .i64 (g.1 : Nat)), (5, .slice g.2.1 (shiftE (l.take g.1) k).length g.2.2)]) (fun g => [Res.rowS 80 6 encE (.slice g.2.1 (shiftE (l.take g.1) k).length g.2.2) (shiftE (l.take g.1) k)]) (fun _ => _) (fun g => g.1 ≤ l.length) (fun g => l.length - g.1) ((0, none, 0)) (by first | exact True.intro | omega | (dsimp only; omega) | (simp; done) | (simp; omega)) (by repeat (first | exact trivial | refine ⟨rfl, ?_⟩)) (by rfl) (by rfl) (fun g1 j1 hg1 => ?_)
  obtain ⟨g1, ga, gc⟩ := g1
  dsimp only
  have hg1 : g1 ≤ l.length := hg1
  have hx : g1 < l.length → 0 ≤ (nth l g1 Arrow.zero).frm ∧ (nth l g1 Arrow.zero).frm ≤ 1000000 ∧ 0 ≤ (nth l g1 Arrow.zero).to ∧ (nth l g1 Arrow.zero).to ≤ 1000000 := fun h => hs _ (nth_mem h Arrow.zero)
  have hml : (shiftE (l.take g1) k).length = min g1 l.length := by simp [shiftE]
  refine TC.seq ?_
  refine TC.seq ?_
  refine TC.region ?_
  refine TL.v rfl (OpVal.moveI (.inl rfl) rfl) rfl rfl ?_
  refine TL.v rfl (OpVal.moveSl (.inl rfl) rfl) rfl rfl ?_
  refine TL.v rfl (OpVal.lenC rfl Try.underlying23 rfl) rfl rfl ?_
  refine TL.v rfl (OpVal.lss rfl rfl rfl) rfl rfl ?_
  refine TL.nil ?_
  refine S.n ?_
  refine TC.condD rfl (fun h2 => ?_) (fun h2 => ?_)
  · try simp only [decide_eq_true_eq, decide_eq_false_iff_not, Bool.not_eq_true', Bool.not_eq_false', Bool.not_eq_eq_eq_not, Bool.not_true, Bool.not_false, Int.not_lt, Int.not_le, Decidable.not_not] at h2
    refine TC.skip ?_
    refine S.n ?_
    refine TC.seq ?_
    refine TC.block ?_
    refine TC.draw [22, 23] (by kernel_rfl) ?_
    refine TA.takeP 0 rfl (by kernel_rfl) (by kernel_rfl) (by kernel_rfl) rfl (OpVal.moveSl (.inl rfl) rfl) rfl rfl ?_
    refine TA.takeP 1 rfl (by kernel_rfl) (by kernel_rfl) (by kernel_rfl) rfl (OpVal.moveSl (.inl rfl) rfl) rfl rfl ?_
    refine TA.takeP 2 rfl (by kernel_rfl) (by kernel_rfl) (by kernel_rfl) rfl (OpVal.moveI (.inl rfl) rfl) rfl rfl ?_
    refine TA.takeP 3 rfl (by kernel_rfl) (by kernel_rfl) (by kernel_rfl) rfl (OpVal.indexN rfl Try.underlying23 sz80 rfl rfl (by first | assumption | exact (RS.rv (by assumption)).sl) (by omega)) rfl rfl ?_
    refine TA.takeP 4 rfl (by kernel_rfl) (by kernel_rfl) (by kernel_rfl) rfl (OpVal.fieldElem rfl fo80_0 rfl (by first | assumption | exact (RS.rv (by assumption)).sl) (by omega)) rfl rfl ?_
    refine TA.take 5 rfl (by kernel_rfl) (by kernel_rfl) (by kernel_rfl) (by kernel_rfl) rfl (OpVal.loadS Arrow.zero rfl ag3 rfl (by assumption) (by omega) (by omega) rfl) rfl rfl ?_
    refine TA.takeP 6 rfl (by kernel_rfl) (by kernel_rfl) (by kernel_rfl) rfl (OpVal.moveI (.inl rfl) rfl) rfl rfl ?_
    refine TA.takeP 7 rfl (by kernel_rfl) (by kernel_rfl) (by kernel_rfl) rfl (OpVal.add rfl rfl rfl (by omega) (by omega)) rfl rfl ?_
    refine TA.takeP 8 rfl (by kernel_rfl) (by kernel_rfl) (by kernel_rfl) rfl (OpVal.moveSl (.inl rfl) rfl) rfl rfl ?_
    refine TA.takeP 9 rfl (by kernel_rfl) (by kernel_rfl) (by kernel_rfl) rfl (OpVal.moveI (.inl rfl) rfl) rfl rfl ?_
    refine TA.takeP 10 rfl (by kernel_rfl) (by kernel_rfl) (by kernel_rfl) rfl (OpVal.indexN rfl Try.underlying23 sz80 rfl rfl (by first | assumption | exact (RS.rv (by assumption)).sl) (by omega)) rfl rfl ?_
    refine TA.takeP 11 rfl (by kernel_rfl) (by kernel_rfl) (by kernel_rfl) rfl (OpVal.fieldElem rfl fo80_1 rfl (by first | assumption | exact (RS.rv (by assumption)).sl) (by omega)) rfl rfl ?_
    refine TA.take 12 rfl (by kernel_rfl) (by kernel_rfl) (by kernel_rfl) (by kernel_rfl) rfl (OpVal.loadS Arrow.zero rfl ag3 rfl (by assumption) (by omega) (by omega) rfl) rfl rfl ?_
    refine TA.takeP 13 rfl (by kernel_rfl) (by kernel_rfl) (by kernel_rfl) rfl (OpVal.moveI (.inl rfl) rfl) rfl rfl ?_
    refine TA.takeP 14 rfl (by kernel_rfl) (by kernel_rfl) (by kernel_rfl) rfl (OpVal.add rfl rfl rfl (by omega) (by omega)) rfl rfl ?_
    refine TA.takeP 15 rfl (by kernel_rfl) (by kernel_rfl) (by kernel_rfl) rfl (OpVal.moveSl (.inl rfl) rfl) rfl rfl ?_
    refine TA.takeP 16 rfl (by kernel_rfl) (by kernel_rfl) (by kernel_rfl) rfl (OpVal.moveI (.inl rfl) rfl) rfl rfl ?_
    refine TA.takeP 17 rfl (by kernel_rfl) (by kernel_rfl) (by kernel_rfl) rfl (OpVal.indexN rfl Try.underlying23 sz80 rfl rfl (by first | assumption | exact (RS.rv (by assumption)).sl) (by omega)) rfl rfl ?_
    refine TA.takeP 18 rfl (by kernel_rfl) (by kernel_rfl) (by kernel_rfl) rfl (OpVal.fieldElem rfl fo80_2 rfl (by first | assumption | exact (RS.rv (by assumption)).sl) (by omega)) rfl rfl ?_
    refine TA.take 19 rfl (by kernel_rfl) (by kernel_rfl) (by kernel_rfl) (by kernel_rfl) rfl (OpVal.loadSub Arrow.zero rfl ag28 sz28 rfl (by assumption) (by omega) (by omega) (by omega) rfl rfl) rfl rfl ?_
    refine TA.takeP 20 rfl (by kernel_rfl) (by kernel_rfl) (by kernel_rfl) rfl (OpVal.buildL rfl pl80 ze80 rfl) rfl rfl ?_
    refine TA.act 21 (by kernel_rfl) rfl rfl (OpOk.lit (enc := encE) [⟨(nth l g1 Arrow.zero).frm + k, (nth l g1 Arrow.zero).to + k, (nth l g1 Arrow.zero).set⟩] rfl Try.underlying23 sz80 ze80 rfl rfl rfl encE_len (by decide) (by decide) Arrow.zero rfl (by decide) rfl (by decide) encE_one (fun a3 c4 => ⟨(fun w h => sees_of (by first | exact Store.le.refl _ | assumption) (fun r hr => (List.mem_cons_of_mem _ hr)) w h), ?_⟩))
    refine TA.front 1 rfl rfl ?_
    refine TA.last 22 (by kernel_rfl) rfl rfl rfl (OpOk.appendS rfl rfl Try.underlying23 sz80 by80 ze80 rfl rfl (by decide) rfl rfl rfl (.inr ⟨_, 0, rfl⟩) (by (try simp only [List.length_cons, List.length_nil, List.length_append]); omega) (by decide) (fun a6 c7 => ?_))
    refine TZ.v 23 (by kernel_rfl) rfl rfl rfl (OpVal.moveSl (.inr rfl) rfl) rfl rfl ?_
    refine TZ.done (by kernel_rfl) ?_
    refine B.n ?_
    refine S.n ?_
    refine TC.region ?_
    refine TL.v rfl (OpVal.moveI (.inl rfl) rfl) rfl rfl ?_
    refine TL.v rfl (OpVal.succ rfl rfl rfl (by omega)) rfl rfl ?_
    refine TL.v rfl (OpVal.moveI (.inr rfl) rfl) rfl rfl ?_
    refine TL.takeN 1 rfl ?_
    refine TL.nil ?_
    refine S.n ?_
    -- leaf 1 next [h2: True] H=['q1']
    refine ⟨by repeat (first | exact Agr.mask | refine Agr.upd rfl ?_ | refine Agr.maskIn rfl ?_), (g1 + 1, a6, c7), ?_, ?_, ?_, ?_, ?_⟩
    · show l.length - (g1 + 1) < l.length - g1; omega
    · show g1 + 1 ≤ l.length; omega
    · show Has _ [(_, .int .i64 ((g1 + 1 : Nat) : Int)), (5, .slice _ (shiftE (l.take (g1 + 1)) k).length _)]
      rw [shiftE_snoc (l := l) (i := g1) (k := k) (by omega)]; exact ⟨rfl, rfl, trivial⟩
    · show _ = [Res.rowS _ _ _ (.slice _ (shiftE (l.take (g1 + 1)) k).length _) (shiftE (l.take (g1 + 1)) k)]
      rw [shiftE_snoc (l := l) (i := g1) (k := k) (by omega)]; rfl
    · rfl
  · try simp only [decide_eq_true_eq, decide_eq_false_iff_not, Bool.not_eq_true', Bool.not_eq_false', Bool.not_eq_eq_eq_not, Bool.not_true, Bool.not_false, Int.not_lt, Int.not_le, Decidable.not_not] at h2
    refine TC.exit ?_
    refine S.x ?_
    refine S.x ?_
    refine TC.exitHere ?_
    refine S.n ?_
    refine TC.seq ?_
    refine TC.region ?_
    refine TL.v rfl (OpVal.moveSl (.inl rfl) rfl) rfl rfl ?_
    refine TL.v rfl (OpVal.moveSl (.inr rfl) rfl) rfl rfl ?_
    refine TL.nil ?_
    refine S.n ?_
    refine TC.ret ?_
    -- leaf 2 ret [h2: False] H=['q1']
    obtain rfl : g1 = l.length := by omega
    rw [List.take_length]
    exact ret1R rfl rfl

end Go.Proofs.Ytcidppnlhhkhhaa
