/- Contracts: bytes and sets of bytes. -/
import Derived.Test.YtcidppnlhhkhhaaTy
import Derived.Test.YtcidppnlhhkhhaaDec0
set_option linter.unusedVariables false
set_option linter.unusedSimpArgs false
namespace Go.Proofs.Ytcidppnlhhkhhaa
open Go Go.E
set_option maxRecDepth 100000

theorem and_one (a : Nat) : a &&& 1 = a % 2 := Nat.and_one_is_mod a

theorem has_con (σ : Store) (s : BSet) (b : Nat) (hs : s.ok) (hb : b < 256) : Con Try.prog 26 #[setV s, .int .u8 (b : Nat)] σ [] (PureP (.bool (s.has b)) σ) := by
  have hw : s.word (b / 64) < 18446744073709551616 := BSet.word_lt hs _
  have hw2 : s.word (b / 64) / 2 ^ (b % 64) < 18446744073709551616 := Nat.lt_of_le_of_lt (Nat.div_le_self _ _) hw
  refine Con.mk (n := 14) Try.func26 rfl rfl rfl (fun w0 => ?_)
  refine TC.seq ?_
  refine TC.region ?_
  refine TL.op rfl (OpOk.boxA rfl rfl rfl rfl (fun b1 => ?_))
  refine TL.v rfl (OpVal.moveB (.inr rfl) rfl) rfl rfl ?_
  refine TL.nil ?_
  refine S.n ?_
  refine TC.seq ?_
  refine TC.region ?_
  refine TL.v rfl (OpVal.moveI (.inl rfl) rfl) rfl rfl ?_
  refine TL.v rfl (OpVal.quoN (b := 64) rfl rfl rfl (by omega) (by simp only [kmax]; omega)) rfl rfl ?_
  refine TL.v rfl (OpVal.indexArrN rfl Try.underlying28 sz26 rfl rfl (by omega)) rfl rfl ?_
  refine TL.v rfl (OpVal.loadWord rfl ag26 rfl (j := 0) rfl (by omega)) rfl rfl ?_
  refine TL.v rfl (OpVal.moveI (.inl rfl) rfl) rfl rfl ?_
  refine TL.v rfl (OpVal.remN (b := 64) rfl rfl rfl (by omega)) rfl rfl ?_
  refine TL.v rfl (OpVal.shrN rfl rfl rfl (by show _ < 64; omega)) rfl rfl ?_
  refine TL.v rfl (OpVal.andN (b := 1) rfl rfl rfl (by omega) (by omega)) rfl rfl ?_
  refine TL.v rfl (OpVal.eqlN (b := 1) rfl rfl rfl) rfl rfl ?_
  refine TL.v rfl (OpVal.moveB (.inr rfl) rfl) rfl rfl ?_
  refine TL.nil ?_
  refine S.n ?_
  refine TC.ret ?_
  -- leaf 1 ret [] H=['q2']
  refine ret1P rfl (congrArg Value.bool ?_)
  unfold BSet.has; rw [decide_eq_decide, and_one]

/-- Two to some number. -/
theorem power_con (σ : Store) (k : Nat) (hk : k < 64) : Con Try.prog 84 #[.int .i64 (k : Nat)] σ [] (PureP (.int .u64 ((2 ^ k : Nat) : Int)) σ) := by
  have hp : ∀ i, i < k → 2 * 2 ^ i < 18446744073709551616 := fun i hi => by
    have : 2 * 2 ^ i = 2 ^ (i + 1) := by rw [Nat.pow_succ]; omega
    rw [this]
    exact Nat.lt_of_le_of_lt (Nat.pow_le_pow_right (by omega) (show i + 1 ≤ 63 by omega)) (by decide)
  refine Con.mk (n := 13) Try.func84 rfl rfl rfl (fun w0 => ?_)
  refine TC.seq ?_
  refine TC.region ?_
  refine TL.v rfl (OpVal.moveI (.inr rfl) rfl) rfl rfl ?_
  refine TL.nil ?_
  refine S.n ?_
  refine TC.seq ?_
  refine TC.region ?_
  refine TL.v rfl (OpVal.moveI (.inr rfl) rfl) rfl rfl ?_
  refine TL.nil ?_
  refine S.n ?_
  refine TC.seq ?_
  refine TC.seq ?_
  refine TC.region ?_
  refine TL.v rfl (OpVal.moveI (.inr rfl) rfl) rfl rfl ?_
  refine TL.nil ?_
  refine S.n ?_
  refine TC.block ?_
  refine TC.loopF (α := Nat) [3, 4, 5, 6, 7, 8, 9, 10, 11] (fun i => [(3, .int .u64 ((2 ^ i : Nat) : Int)), (4, .int .i64 (i : Nat))]) (fun _ => _) (fun _ => _) (fun i => i ≤ k) (fun i => k - i) (0) (by first | exact True.intro | omega | (dsimp only; omega) | (simp; done) | (simp; omega)) (by repeat (first | exact trivial | refine ⟨rfl, ?_⟩)) (by rfl) (by rfl) (fun g1 j1 hg1 => ?_)
  have hp1 : g1 < k → 2 * 2 ^ g1 < 18446744073709551616 := hp g1
  refine TC.seq ?_
  refine TC.seq ?_
  refine TC.region ?_
  refine TL.v rfl (OpVal.moveI (.inl rfl) rfl) rfl rfl ?_
  refine TL.v rfl (OpVal.moveI (.inl rfl) rfl) rfl rfl ?_
  refine TL.v rfl (OpVal.lss rfl rfl rfl) rfl rfl ?_
  refine TL.nil ?_
  refine S.n ?_
  refine TC.condD rfl (fun h1 => ?_) (fun h1 => ?_)
  · try simp only [decide_eq_true_eq, decide_eq_false_iff_not, Bool.not_eq_true', Bool.not_eq_false', Bool.not_eq_eq_eq_not, Bool.not_true, Bool.not_false, Int.not_lt, Int.not_le, Decidable.not_not] at h1
    refine TC.skip ?_
    refine S.n ?_
    refine TC.seq ?_
    refine TC.block ?_
    refine TC.region ?_
    refine TL.v rfl (OpVal.moveI (.inl rfl) rfl) rfl rfl ?_
    refine TL.v rfl (OpVal.mulN (a := 2) rfl rfl rfl (by simp only [kmax]; omega)) rfl rfl ?_
    refine TL.v rfl (OpVal.moveI (.inr rfl) rfl) rfl rfl ?_
    refine TL.nil ?_
    refine B.n ?_
    refine S.n ?_
    refine TC.region ?_
    refine TL.v rfl (OpVal.moveI (.inl rfl) rfl) rfl rfl ?_
    refine TL.v rfl (OpVal.succ rfl rfl rfl (by omega)) rfl rfl ?_
    refine TL.v rfl (OpVal.moveI (.inr rfl) rfl) rfl rfl ?_
    refine TL.nil ?_
    refine S.n ?_
    -- leaf 1 next [h1: True] H=[]
    refine ⟨by repeat (first | exact Agr.mask | refine Agr.upd rfl ?_ | refine Agr.maskIn rfl ?_), g1 + 1, ?_, ?_, ?_, ?_, ?_⟩
    · omega
    · first | exact True.intro | omega | (dsimp only; omega) | (simp; done) | (simp; omega)
    · exact ⟨congrArg (fun x : Nat => Value.int .u64 (x : Int)) (by rw [Nat.pow_succ]; omega), rfl, trivial⟩
    · rfl
    · rfl
  · try simp only [decide_eq_true_eq, decide_eq_false_iff_not, Bool.not_eq_true', Bool.not_eq_false', Bool.not_eq_eq_eq_not, Bool.not_true, Bool.not_false, Int.not_lt, Int.not_le, Decidable.not_not] at h1
    refine TC.exit ?_
    refine S.x ?_
    refine S.x ?_
    refine TC.exitHere ?_
    refine S.n ?_
    refine TC.seq ?_
    refine TC.region ?_
    refine TL.v rfl (OpVal.moveI (.inl rfl) rfl) rfl rfl ?_
    refine TL.v rfl (OpVal.moveI (.inr rfl) rfl) rfl rfl ?_
    refine TL.nil ?_
    refine S.n ?_
    refine TC.ret ?_
    -- leaf 2 ret [h1: False] H=[]
    have : g1 = k := by omega
    subst this
    exact ret1P rfl rfl

/-- The reference's membership. -/
theorem rhas_con (σ : Store) (s : BSet) (b : Nat) (hs : s.ok) (hb : b < 256) : Con Try.prog 58 #[setV s, .int .i64 (b : Nat)] σ [] (PureP (.bool (s.has b)) σ) := by
  have hw : s.word (b / 64) < 18446744073709551616 := BSet.word_lt hs _
  have hd : ((b : Int)).tdiv 64 = ((b / 64 : Nat) : Int) := by rw [Int.tdiv_eq_ediv_of_nonneg (by omega)]; omega
  have hp : 0 < 2 ^ (b % 64) := Nat.pow_pos (by omega)
  have hq : s.word (b / 64) / 2 ^ (b % 64) < 18446744073709551616 := Nat.lt_of_le_of_lt (Nat.div_le_self _ _) hw
  refine Con.mk (n := 15) Try.func58 rfl rfl rfl (fun w0 => ?_)
  refine TC.seq ?_
  refine TC.region ?_
  refine TL.op rfl (OpOk.boxA rfl rfl rfl rfl (fun b1 => ?_))
  refine TL.v rfl (OpVal.moveB (.inr rfl) rfl) rfl rfl ?_
  refine TL.nil ?_
  refine S.n ?_
  refine TC.seq ?_
  refine TC.draw [] (by kernel_rfl) ?_
  refine TA.takeP 0 rfl (by kernel_rfl) (by kernel_rfl) (by kernel_rfl) rfl (OpVal.moveI (.inl rfl) rfl) rfl rfl ?_
  refine TA.takeP 1 rfl (by kernel_rfl) (by kernel_rfl) (by kernel_rfl) rfl (OpVal.quoN (b := 64) rfl rfl rfl (by omega) (by simp only [kmax]; omega)) rfl rfl ?_
  refine TA.takeP 2 rfl (by kernel_rfl) (by kernel_rfl) (by kernel_rfl) rfl (OpVal.indexArrN rfl Try.underlying28 sz26 rfl rfl (by omega)) rfl rfl ?_
  refine TA.take 3 rfl (by kernel_rfl) (by kernel_rfl) (by kernel_rfl) (by kernel_rfl) rfl (OpVal.loadWord rfl ag26 rfl (j := 0) rfl (by omega)) rfl rfl ?_
  refine TA.takeP 4 rfl (by kernel_rfl) (by kernel_rfl) (by kernel_rfl) rfl (OpVal.moveI (.inl rfl) rfl) rfl rfl ?_
  refine TA.takeP 5 rfl (by kernel_rfl) (by kernel_rfl) (by kernel_rfl) rfl (OpVal.remN (b := 64) rfl rfl rfl (by omega)) rfl rfl ?_
  refine TA.act 6 (by kernel_rfl) rfl rfl (OpOk.callP (power_con _ (b % 64) (by omega)) rfl rfl pf84 rfl rfl rfl ⟨(fun w h => sees_of (by first | exact Store.le.refl _ | assumption) (fun r hr => hr) w h), ?_⟩)
  refine TA.takeP 7 rfl (by kernel_rfl) (by kernel_rfl) (by kernel_rfl) rfl (OpVal.quoN rfl rfl rfl (by omega) (by simp only [kmax]; omega)) rfl rfl ?_
  refine TA.takeP 8 rfl (by kernel_rfl) (by kernel_rfl) (by kernel_rfl) rfl (OpVal.remN (b := 2) rfl rfl rfl (by omega)) rfl rfl ?_
  refine TA.takeP 9 rfl (by kernel_rfl) (by kernel_rfl) (by kernel_rfl) rfl (OpVal.eqlN (b := 1) rfl rfl rfl) rfl rfl ?_
  refine TA.takeP 10 rfl (by kernel_rfl) (by kernel_rfl) (by kernel_rfl) rfl (OpVal.moveB (.inr rfl) rfl) rfl rfl ?_
  refine TA.done (by kernel_rfl) ?_
  refine S.n ?_
  refine TC.ret ?_
  -- leaf 1 ret [] H=['q2']
  refine ret1P rfl (congrArg Value.bool ?_)
  unfold BSet.has; rfl

theorem in_yes {l : List Int} {x : Int} {k : Nat} (hk : k < l.length) (h : nth l k 0 = x) : l.contains x = true := by
  rw [List.contains_iff_mem, ← h]
  have := getD_some l hk 0
  exact List.mem_of_getElem? this
theorem in_no {l : List Int} {x : Int} (h : ∀ j, j < l.length → nth l j 0 ≠ x) : l.contains x = false := by
  rw [Bool.eq_false_iff]
  intro hc
  rw [List.contains_iff_mem] at hc
  obtain ⟨j, hj, hx⟩ := List.mem_iff_getElem.1 hc
  refine h j hj ?_
  have := getD_some l hj 0
  rw [List.getElem?_eq_getElem hj, hx] at this
  exact (Option.some.inj this).symm
/-- One of some numbers. -/
theorem in_con (σ : Store) (a : Option Addr) (c : Nat) (l : List Int) (x : Int) (hl : RS σ 1 encI (.slice a l.length c) l) : Con Try.prog 59 #[.int .i64 x, .slice a l.length c] σ [] (PureP (.bool (l.contains x)) σ) := by
  have hb := hl.rv.big
  refine Con.mk (n := 18) Try.func59 rfl rfl rfl (fun w0 => ?_)
  refine TC.seq ?_
  refine TC.region ?_
  refine TL.v rfl (OpVal.moveB (.inr rfl) rfl) rfl rfl ?_
  refine TL.nil ?_
  refine S.n ?_
  refine TC.seq ?_
  refine TC.seq ?_
  refine TC.region ?_
  refine TL.v rfl (OpVal.moveI (.inr rfl) rfl) rfl rfl ?_
  refine TL.nil ?_
  refine S.n ?_
  refine TC.block ?_
  refine TC.loopF (α := Nat) [4, 5, 6, 7, 8, 9, 10, 11, 12, 13, 14, 15, 16, 17] (fun i => [(5, .int .i64 (i : Nat))]) (fun _ => _) (fun _ => _) (fun i => i ≤ l.length ∧ ∀ j, j < i → nth l j 0 ≠ x) (fun i => l.length - i) (0) (by first | exact True.intro | omega | (dsimp only; omega) | (simp; done) | (simp; omega)) (by repeat (first | exact trivial | refine ⟨rfl, ?_⟩)) (by rfl) (by rfl) (fun g1 j1 hg1 => ?_)
  obtain ⟨hk, hi⟩ := hg1
  refine TC.seq ?_
  refine TC.seq ?_
  refine TC.region ?_
  refine TL.v rfl (OpVal.moveI (.inl rfl) rfl) rfl rfl ?_
  refine TL.v rfl (OpVal.moveSl (.inl rfl) rfl) rfl rfl ?_
  refine TL.v rfl (OpVal.lenC rfl Try.underlying22 rfl) rfl rfl ?_
  refine TL.v rfl (OpVal.lss rfl rfl rfl) rfl rfl ?_
  refine TL.nil ?_
  refine S.n ?_
  refine TC.condD rfl (fun h1 => ?_) (fun h1 => ?_)
  · try simp only [decide_eq_true_eq, decide_eq_false_iff_not, Bool.not_eq_true', Bool.not_eq_false', Bool.not_eq_eq_eq_not, Bool.not_true, Bool.not_false, Int.not_lt, Int.not_le, Decidable.not_not] at h1
    refine TC.skip ?_
    refine S.n ?_
    refine TC.seq ?_
    refine TC.block ?_
    refine TC.seq ?_
    refine TC.region ?_
    refine TL.v rfl (OpVal.moveSl (.inl rfl) rfl) rfl rfl ?_
    refine TL.v rfl (OpVal.moveI (.inl rfl) rfl) rfl rfl ?_
    refine TL.v rfl (OpVal.indexN rfl Try.underlying22 sz3 rfl rfl (by first | assumption | exact (RS.rv (by assumption)).sl) (by omega)) rfl rfl ?_
    refine TL.v rfl (OpVal.loadS1 (0 : Int) rfl ag3 rfl (by assumption) (by omega) rfl) rfl rfl ?_
    refine TL.v rfl (OpVal.moveI (.inl rfl) rfl) rfl rfl ?_
    refine TL.v rfl (OpVal.eql rfl rfl rfl) rfl rfl ?_
    refine TL.nil ?_
    refine S.n ?_
    refine TC.condD rfl (fun h2 => ?_) (fun h2 => ?_)
    · try simp only [decide_eq_true_eq, decide_eq_false_iff_not, Bool.not_eq_true', Bool.not_eq_false', Bool.not_eq_eq_eq_not, Bool.not_true, Bool.not_false, Int.not_lt, Int.not_le, Decidable.not_not] at h2
      refine TC.seq ?_
      refine TC.region ?_
      refine TL.v rfl (OpVal.moveB (.inr rfl) rfl) rfl rfl ?_
      refine TL.nil ?_
      refine S.n ?_
      refine TC.ret ?_
      refine B.r ?_
      refine S.r ?_
      refine S.r ?_
      refine B.r ?_
      refine S.r ?_
      -- leaf 1 ret [h1: True; h2: True] H=[]
      refine ret1P rfl (congrArg Value.bool ?_)
      exact (in_yes (k := g1) (by omega) h2).symm
    · try simp only [decide_eq_true_eq, decide_eq_false_iff_not, Bool.not_eq_true', Bool.not_eq_false', Bool.not_eq_eq_eq_not, Bool.not_true, Bool.not_false, Int.not_lt, Int.not_le, Decidable.not_not] at h2
      refine TC.skip ?_
      refine B.n ?_
      refine S.n ?_
      refine TC.region ?_
      refine TL.v rfl (OpVal.moveI (.inl rfl) rfl) rfl rfl ?_
      refine TL.v rfl (OpVal.succ rfl rfl rfl (by omega)) rfl rfl ?_
      refine TL.v rfl (OpVal.moveI (.inr rfl) rfl) rfl rfl ?_
      refine TL.nil ?_
      refine S.n ?_
      -- leaf 2 next [h1: True; h2: False] H=[]
      refine ⟨by repeat (first | exact Agr.mask | refine Agr.upd rfl ?_ | refine Agr.maskIn rfl ?_), g1 + 1, ?_, ?_, ?_, ?_, ?_⟩
      · omega
      · exact ⟨by omega, fun j hj => by rcases Nat.lt_succ_iff_lt_or_eq.1 hj with h | rfl; exact hi j h; exact h2⟩
      · repeat (first | exact trivial | refine ⟨rfl, ?_⟩)
      · rfl
      · rfl
  · try simp only [decide_eq_true_eq, decide_eq_false_iff_not, Bool.not_eq_true', Bool.not_eq_false', Bool.not_eq_eq_eq_not, Bool.not_true, Bool.not_false, Int.not_lt, Int.not_le, Decidable.not_not] at h1
    refine TC.exit ?_
    refine S.x ?_
    refine S.x ?_
    refine TC.exitHere ?_
    refine S.n ?_
    refine TC.seq ?_
    refine TC.region ?_
    refine TL.v rfl (OpVal.moveB (.inr rfl) rfl) rfl rfl ?_
    refine TL.nil ?_
    refine S.n ?_
    refine TC.ret ?_
    -- leaf 3 ret [h1: False] H=[]
    refine ret1P rfl (congrArg Value.bool ?_)
    exact (in_no (fun j hj => hi j (by omega))).symm

end Go.Proofs.Ytcidppnlhhkhhaa
