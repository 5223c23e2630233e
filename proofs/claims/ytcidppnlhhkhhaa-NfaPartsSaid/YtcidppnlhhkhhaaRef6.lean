/- Contracts of the reference of nfa, part six: text. -/
import Derived.Test.YtcidppnlhhkhhaaRef5
set_option linter.unusedVariables false
set_option linter.unusedSimpArgs false
namespace Go.Proofs.Ytcidppnlhhkhhaa
open Go Go.E
set_option maxRecDepth 100000

/-- The reference's set of bytes, of a slice that is only read. -/
theorem rofs_con (σ : Store) (a : Option Addr) (c : Nat) (l : List UInt8) (hl : RS σ 1 encU8 (.slice a l.length c) l) (hsz : l.length ≤ 1000000000000) :
    Con Try.prog 54 #[.slice a l.length c] σ [] (PureP (setV (BSet.ofL l)) σ) := by
  refine Con.mk (n := 20) Try.func54 rfl rfl rfl (fun w0 => ?_)
  refine TC.seq ?_
  refine TC.region ?_
  refine TL.op rfl (OpOk.alloc rfl ze28 rfl rfl (fun b1 => ?_))
  refine TL.nil ?_
  refine S.n ?_
  refine TC.seq ?_
  refine TC.region ?_
  refine TL.op rfl (OpOk.makeS (m := 256) (enc := encB) false rfl Try.underlying47 sz4 by4 ze4 rfl rfl rfl rfl (by omega) (by decide) encB_len (by decide) rfl encB_one (fun a3 c4 => ?_))
  refine TL.v rfl (OpVal.moveSl (.inr rfl) rfl) rfl rfl ?_
  refine TL.nil ?_
  refine S.n ?_
  refine TC.seq ?_
  refine TC.seq ?_
  refine TC.region ?_
  refine TL.v rfl (OpVal.moveI (.inr rfl) rfl) rfl rfl ?_
  refine TL.nil ?_
  refine S.n ?_
  refine TC.block ?_
  refine TC.loopF (α := Nat) [4, 6, 7, 8, 9, 10, 11, 12, 13, 14, 15, 16, 17] (fun k => [(4, .int .i64 (k : Nat))]) (fun k => [Res.rowS 4 1 encB (.slice a3 256 c4) (boolTo l k), Res.cells b1 (setA BSet.zero) 28]) (fun _ => _) (fun k => k ≤ l.length) (fun k => l.length - k) (0) (by first | exact True.intro | omega | (dsimp only; omega) | (simp; done) | (simp; omega)) (by repeat (first | exact trivial | refine ⟨rfl, ?_⟩)) (by rw [← boolTo_zero]; rfl) (by rfl) (fun g1 j1 hg1 => ?_)
  have hu : (nth l g1 (0 : UInt8)).toNat < 256 := UInt8.toNat_lt _
  have hbl := boolTo_len l g1
  refine TC.seq ?_
  refine TC.seq ?_
  refine TC.region ?_
  refine TL.v rfl (OpVal.moveI (.inl rfl) rfl) rfl rfl ?_
  refine TL.v rfl (OpVal.moveSl (.inl rfl) rfl) rfl rfl ?_
  refine TL.v rfl (OpVal.lenC rfl Try.underlying78 rfl) rfl rfl ?_
  refine TL.v rfl (OpVal.lss rfl rfl rfl) rfl rfl ?_
  refine TL.nil ?_
  refine S.n ?_
  refine TC.condD rfl (fun h6 => ?_) (fun h6 => ?_)
  · try simp only [decide_eq_true_eq, decide_eq_false_iff_not, Bool.not_eq_true', Bool.not_eq_false', Bool.not_eq_eq_eq_not, Bool.not_true, Bool.not_false, Int.not_lt, Int.not_le, Decidable.not_not] at h6
    refine TC.skip ?_
    refine S.n ?_
    refine TC.seq ?_
    refine TC.block ?_
    refine TC.region ?_
    refine TL.v rfl (OpVal.moveSl (.inl rfl) rfl) rfl rfl ?_
    refine TL.v rfl (OpVal.moveSl (.inl rfl) rfl) rfl rfl ?_
    refine TL.v rfl (OpVal.moveI (.inl rfl) rfl) rfl rfl ?_
    refine TL.v rfl (OpVal.indexN rfl Try.underlying78 sz5 rfl rfl (by first | assumption | exact (RS.rv (by assumption)).sl) (by omega)) rfl rfl ?_
    refine TL.v rfl (OpVal.loadS1 (0 : UInt8) rfl ag5 rfl (by assumption) (by omega) rfl) rfl rfl ?_
    refine TL.isSl (i := 0) rfl (fun hs7 _ _ => ?_)
    refine TL.v rfl (OpVal.indexN rfl Try.underlying47 sz4 rfl rfl (by first | assumption | exact (RS.rv (by assumption)).sl) (by omega)) rfl rfl ?_
    refine TL.op rfl (OpOk.storeS _ rfl sz4 rfl rfl rfl rfl encB_len encB_one (by omega) (by omega) ?_)
    refine TL.nil ?_
    refine B.n ?_
    refine S.n ?_
    refine TC.region ?_
    refine TL.v rfl (OpVal.moveI (.inl rfl) rfl) rfl rfl ?_
    refine TL.v rfl (OpVal.succ rfl rfl rfl (by omega)) rfl rfl ?_
    refine TL.v rfl (OpVal.moveI (.inr rfl) rfl) rfl rfl ?_
    refine TL.nil ?_
    refine S.n ?_
    -- leaf 1 next [h6: True] H=['q5', 'q2']
    refine ⟨by repeat (first | exact Agr.mask | refine Agr.upd rfl ?_ | refine Agr.maskIn rfl ?_), g1 + 1, ?_, ?_, ?_, ?_, ?_⟩
    · omega
    · first | exact True.intro | omega | (dsimp only; omega) | (simp; done) | (simp; omega)
    · repeat (first | exact trivial | refine ⟨rfl, ?_⟩)
    · rw [boolTo_succ (by omega)]
    · rfl
  · try simp only [decide_eq_true_eq, decide_eq_false_iff_not, Bool.not_eq_true', Bool.not_eq_false', Bool.not_eq_eq_eq_not, Bool.not_true, Bool.not_false, Int.not_lt, Int.not_le, Decidable.not_not] at h6
    refine TC.exit ?_
    refine S.x ?_
    refine S.x ?_
    refine TC.exitHere ?_
    refine S.n ?_
    refine TC.seq ?_
    refine TC.region ?_
    refine TL.v rfl (OpVal.moveSl (.inl rfl) rfl) rfl rfl ?_
    refine TL.op rfl (OpOk.callT (make_con _ _ _ (boolTo l g1) (boolTo_len _ _)) rfl rfl pf82 rfl rfl rfl rfl ?_)
    refine TL.op rfl (OpOk.storeAll rfl sz28 rfl rfl rfl rfl rfl rfl ?_)
    refine TL.nil ?_
    refine S.n ?_
    refine TC.ret ?_
    -- leaf 2 ret [h6: False] H=['q2']
    obtain rfl : g1 = l.length := by omega
    exact retCellP 0 rfl ag28 sz28 rfl rfl rfl (congrArg setV (boolTo_make l))

end Go.Proofs.Ytcidppnlhhkhhaa
