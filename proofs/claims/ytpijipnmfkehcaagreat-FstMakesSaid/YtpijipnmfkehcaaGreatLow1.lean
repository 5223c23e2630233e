/- Contracts: bytes and sets of bytes. -/
import Derived.Test.YtpijipnmfkehcaaGreatTy
import Derived.Test.YtpijipnmfkehcaaGreatDec0
set_option linter.unusedVariables false
set_option linter.unusedSimpArgs false
namespace Go.Proofs.YtpijipnmfkehcaaGreat
open Go Go.E
set_option maxRecDepth 100000

theorem and_one (a : Nat) : a &&& 1 = a % 2 := Nat.and_one_is_mod a

theorem has_con (σ : Store) (s : BSet) (b : Nat) (hs : s.ok) (hb : b < 256) : Con Tryz.prog 58 #[setV s, .int .u8 (b : Nat)] σ [] (PureP (.bool (s.has b)) σ) := by
  have hw : s.word (b / 64) < 18446744073709551616 := BSet.word_lt hs _
  have hw2 : s.word (b / 64) / 2 ^ (b % 64) < 18446744073709551616 := Nat.lt_of_le_of_lt (Nat.div_le_self _ _) hw
  refine Con.mk (n := 14) Tryz.func58 rfl rfl rfl (fun w0 => ?_)
  refine TC.seq ?_
  refine TC.region ?_
  refine TL.op rfl (OpOk.boxA rfl rfl rfl rfl (fun b1 => ?_))
  refine TL.v rfl (OpVal.moveB (.inr rfl) rfl) rfl rfl ?_
  refine TL.nil ?_
  refine S.n ?_
  refine TC.seq ?_
  refine TC.region ?_
  refine TL.v rfl (OpVal.moveI (.inl rfl) rfl) rfl rfl ?_
  refine TL.v rfl (OpVal.quoN (b := 64) rfl rfl rfl (by omega) (by simp only [kmax]; omega)) rfl rfl ?_
  refine TL.v rfl (OpVal.indexArrN rfl Tryz.underlying43 sz41 rfl rfl (by omega)) rfl rfl ?_
  refine TL.v rfl (OpVal.loadWord rfl ag41 rfl (j := 0) rfl (by omega)) rfl rfl ?_
  refine TL.v rfl (OpVal.moveI (.inl rfl) rfl) rfl rfl ?_
  refine TL.v rfl (OpVal.remN (b := 64) rfl rfl rfl (by omega)) rfl rfl ?_
  refine TL.v rfl (OpVal.shrN rfl rfl rfl (by show _ < 64; omega)) rfl rfl ?_
  refine TL.v rfl (OpVal.andN (b := 1) rfl rfl rfl (by omega) (by omega)) rfl rfl ?_
  refine TL.v rfl (OpVal.eqlN (b := 1) rfl rfl rfl) rfl rfl ?_
  refine TL.v rfl (OpVal.moveB (.inr rfl) rfl) rfl rfl ?_
  refine TL.nil ?_
  refine S.n ?_
  refine TC.ret ?_
  -- leaf 1 ret [] H=['q2']
  refine ret1P rfl (congrArg Value.bool ?_)
  unfold BSet.has; rw [decide_eq_decide, and_one]

theorem in_yes {l : List Int} {x : Int} {k : Nat} (hk : k < l.length) (h : nth l k 0 = x) : l.contains x = true := by
  rw [List.contains_iff_mem, ← h]
  have := getD_some l hk 0
  exact List.mem_of_getElem? this
theorem in_no {l : List Int} {x : Int} (h : ∀ j, j < l.length → nth l j 0 ≠ x) : l.contains x = false := by
  rw [Bool.eq_false_iff]
  intro hc
  rw [List.contains_iff_mem] at hc
  obtain ⟨j, hj, hx⟩ := List.mem_iff_getElem.1 hc
  refine h j hj ?_
  have := getD_some l hj 0
  rw [List.getElem?_eq_getElem hj, hx] at this
  exact (Option.some.inj this).symm
end Go.Proofs.YtpijipnmfkehcaaGreat
