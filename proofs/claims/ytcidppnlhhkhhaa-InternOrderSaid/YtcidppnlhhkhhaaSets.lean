/- Contracts of sets of bytes that are made. -/
import Derived.Test.YtcidppnlhhkhhaaNfa2
set_option linter.unusedVariables false
set_option linter.unusedSimpArgs false
namespace Go.Proofs.Ytcidppnlhhkhhaa
open Go Go.E
set_option maxRecDepth 100000

def inTo (l : List UInt8) (k : Nat) : Nat → Bool := fun i => (l.take k).any fun u => decide (i = u.toNat)
theorem inTo_zero (l : List UInt8) : BSet.make (inTo l 0) = BSet.zero := by
  rw [show inTo l 0 = fun _ => false from by funext i; simp [inTo]]; exact BSet.make_zero
theorem inTo_succ {l : List UInt8} {k : Nat} (h : k < l.length) : (fun i => inTo l k i || decide (i = (nth l k 0).toNat)) = inTo l (k + 1) := by
  funext i; simp [inTo, take_succ_nth l h 0]
theorem inTo_all (l : List UInt8) : BSet.make (inTo l l.length) = BSet.ofL l := by
  unfold inTo BSet.ofL; rw [List.take_length]
theorem two_pow_lt {a : Nat} (h : a < 64) : 2 ^ a < 18446744073709551616 := Nat.lt_of_le_of_lt (Nat.pow_le_pow_right (by omega) (show a ≤ 63 by omega)) (by decide)

theorem of_con (σ : Store) (a : Option Addr) (c : Nat) (l : List UInt8) (hsz : l.length ≤ 1000000000000) :
    Con Try.prog 53 #[.slice a l.length c] σ [Res.rowS 5 1 encU8 (.slice a l.length c) l] (PureP (setV (BSet.ofL l)) σ) := by
  refine Con.mk (n := 23) Try.func53 rfl rfl rfl (fun w0 => ?_)
  refine TC.seq ?_
  refine TC.region ?_
  refine TL.op rfl (OpOk.alloc rfl ze28 rfl rfl (fun b1 => ?_))
  refine TL.nil ?_
  refine S.n ?_
  refine TC.seq ?_
  refine TC.region ?_
  refine TL.op rfl (OpOk.alloc rfl ze28 rfl rfl (fun b3 => ?_))
  refine TL.nil ?_
  refine S.n ?_
  refine TC.seq ?_
  refine TC.seq ?_
  refine TC.region ?_
  refine TL.v rfl (OpVal.moveSl (.inl rfl) rfl) rfl rfl ?_
  refine TL.v rfl (OpVal.lenC rfl Try.underlying78 rfl) rfl rfl ?_
  refine TL.v rfl (OpVal.moveI (.inl rfl) rfl) rfl rfl ?_
  refine TL.nil ?_
  refine S.n ?_
  refine TC.block ?_
  refine TC.loopF (α := Nat) [5, 8, 9, 10, 11, 12, 13, 14, 15, 16, 17, 18, 19, 20, 21] (fun k => [(8, .int .i64 (k : Nat))]) (fun k => [Res.cells b3 (setA (BSet.make (inTo l k))) 28, Res.cells b1 (setA BSet.zero) 28, Res.rowS 5 1 encU8 (.slice a l.length c) l]) (fun _ => _) (fun k => k ≤ l.length) (fun k => l.length - k) (0) (by first | exact True.intro | omega | (dsimp only; omega) | (simp; done) | (simp; omega)) (by repeat (first | exact trivial | refine ⟨rfl, ?_⟩)) (by rw [inTo_zero]; rfl) (by rfl) (fun g1 j1 hg1 => ?_)
  have hu : (nth l g1 (0 : UInt8)).toNat < 256 := UInt8.toNat_lt _
  have hp := two_pow_lt (Nat.mod_lt (nth l g1 (0 : UInt8)).toNat (show 0 < 64 by omega))
  have hw := BSet.word_lt (BSet.make_ok (inTo l g1)) ((nth l g1 (0 : UInt8)).toNat / 64)
  refine TC.seq ?_
  refine TC.region ?_
  refine TL.v rfl (OpVal.lss rfl rfl rfl) rfl rfl ?_
  refine TL.nil ?_
  refine S.n ?_
  refine TC.seq ?_
  refine TC.condD rfl (fun h5 => ?_) (fun h5 => ?_)
  · try simp only [decide_eq_true_eq, decide_eq_false_iff_not, Bool.not_eq_true', Bool.not_eq_false', Bool.not_eq_eq_eq_not, Bool.not_true, Bool.not_false, Int.not_lt, Int.not_le, Decidable.not_not] at h5
    refine TC.skip ?_
    refine S.n ?_
    refine TC.seq ?_
    refine TC.block ?_
    refine TC.seq ?_
    refine TC.region ?_
    refine TL.isSl (i := 2) rfl (fun hs6 _ _ => ?_)
    refine TL.v rfl (OpVal.indexN rfl Try.underlying78 sz5 rfl rfl (by first | assumption | exact (RS.rv (by assumption)).sl) (by omega)) rfl rfl ?_
    refine TL.v rfl (OpVal.loadO1 (0 : UInt8) rfl ag5 rfl (q := 2) rfl encU8_len (by omega) rfl) rfl rfl ?_
    refine TL.v rfl (OpVal.moveI (.inr rfl) rfl) rfl rfl ?_
    refine TL.nil ?_
    refine S.n ?_
    refine TC.region ?_
    refine TL.v rfl (OpVal.moveI (.inl rfl) rfl) rfl rfl ?_
    refine TL.v rfl (OpVal.quoN (b := 64) rfl rfl rfl (by omega) (by simp only [kmax]; omega)) rfl rfl ?_
    refine TL.v rfl (OpVal.indexArrN rfl Try.underlying28 sz26 rfl rfl (by omega)) rfl rfl ?_
    refine TL.v rfl (OpVal.loadWord rfl ag26 rfl (j := 0) rfl (by omega)) rfl rfl ?_
    refine TL.v rfl (OpVal.moveI (.inl rfl) rfl) rfl rfl ?_
    refine TL.v rfl (OpVal.remN (b := 64) rfl rfl rfl (by omega)) rfl rfl ?_
    refine TL.v rfl (OpVal.shlN (a := 1) rfl rfl rfl (by show _ < 64; omega) (by simp only [kmax]; omega)) rfl rfl ?_
    refine TL.v rfl (OpVal.orN rfl rfl rfl (by omega) (by omega)) rfl rfl ?_
    refine TL.v rfl (OpVal.indexArrN rfl Try.underlying28 sz26 rfl rfl (by omega)) rfl rfl ?_
    refine TL.op rfl (OpOk.storeWord rfl sz26 rfl rfl rfl (by omega) (Nat.or_lt_two_pow (n := 64) hw (by omega)) ?_)
    refine TL.nil ?_
    refine B.n ?_
    refine S.n ?_
    refine TC.region ?_
    refine TL.v rfl (OpVal.succ rfl rfl rfl (by omega)) rfl rfl ?_
    refine TL.v rfl (OpVal.moveI (.inl rfl) rfl) rfl rfl ?_
    refine TL.nil ?_
    refine S.n ?_
    -- leaf 1 next [h5: True] H=['q4', 'q2', 'r0']
    refine ⟨by repeat (first | exact Agr.mask | refine Agr.upd rfl ?_ | refine Agr.maskIn rfl ?_), g1 + 1, ?_, ?_, ?_, ?_, ?_⟩
    · omega
    · first | exact True.intro | omega | (dsimp only; omega) | (simp; done) | (simp; omega)
    · repeat (first | exact trivial | refine ⟨rfl, ?_⟩)
    · rw [BSet.make_or _ hu, inTo_succ (by omega)]
    · rfl
  · try simp only [decide_eq_true_eq, decide_eq_false_iff_not, Bool.not_eq_true', Bool.not_eq_false', Bool.not_eq_eq_eq_not, Bool.not_true, Bool.not_false, Int.not_lt, Int.not_le, Decidable.not_not] at h5
    refine TC.exit ?_
    refine S.x ?_
    refine S.x ?_
    refine TC.exitHere ?_
    refine S.n ?_
    refine TC.seq ?_
    refine TC.region ?_
    refine TL.v rfl (OpVal.loadAll rfl ag28 sz28 rfl (i := 0) rfl rfl) rfl rfl ?_
    refine TL.front 1 rfl rfl ?_
    refine TL.op rfl (OpOk.storeAll rfl sz28 rfl rfl rfl rfl rfl rfl ?_)
    refine TL.nil ?_
    refine S.n ?_
    refine TC.ret ?_
    -- leaf 2 ret [h5: False] H=['q2', 'q4', 'r0']
    obtain rfl : g1 = l.length := by omega
    rw [inTo_all]
    exact retCellP 0 rfl ag28 sz28 rfl rfl rfl rfl

/-- The sums so far: all bytes below b. -/
def setTo (f : Nat → Bool) (b : Nat) : BSet := BSet.make fun i => f i && decide (i < b)
theorem setTo_zero (f : Nat → Bool) : setTo f 0 = BSet.zero := by
  rw [show setTo f 0 = BSet.make (fun _ => false) from by unfold setTo; congr 1; funext i; simp]; exact BSet.make_zero
theorem setTo_all (f : Nat → Bool) : setTo f 256 = BSet.make f := BSet.make_congr fun i hi => by simp [hi]
theorem setTo_no {f : Nat → Bool} {b : Nat} (h : f b = false) : setTo f (b + 1) = setTo f b := by
  unfold setTo; congr 1; funext i
  by_cases hi : i = b
  · subst hi; simp [h]
  · have : decide (i < b + 1) = decide (i < b) := by rw [decide_eq_decide]; omega
    rw [this]
theorem setTo_bit (f : Nat → Bool) {b i j : Nat} (hi : i < 4) : ((setTo f b).word i).testBit j = (decide (j < 64) && (f (64 * i + j) && decide (64 * i + j < b))) := by
  unfold setTo; rw [BSet.make_word _ hi, sumTo_bit]
/-- What was there is less than the byte's bit. -/
theorem setTo_lt (f : Nat → Bool) {b : Nat} (hb : b < 256) : (setTo f b).word (b / 64) < 2 ^ (b % 64) := by
  apply Nat.lt_pow_two_of_testBit
  intro j hj
  rw [setTo_bit f (by omega)]
  have : ¬ 64 * (b / 64) + j < b := by omega
  simp [this]
theorem setTo_yes {f : Nat → Bool} {b : Nat} (hb : b < 256) (h : f b = true) : (setTo f b).setWord (b / 64) ((setTo f b).word (b / 64) + 2 ^ (b % 64)) = setTo f (b + 1) := by
  refine BSet.ext_word fun i hi => ?_
  have hlt := setTo_lt f hb
  have hw : (setTo f b).word (b / 64) + 2 ^ (b % 64) < 18446744073709551616 := by
    have h2 : 2 ^ (b % 64) ≤ 2 ^ 63 := Nat.pow_le_pow_right (by omega) (by omega)
    have h3 : (2 : Nat) ^ 63 = 9223372036854775808 := by decide
    omega
  rw [BSet.word_set _ (by omega) _ _ hw hi]
  split
  · subst_vars
    refine Nat.eq_of_testBit_eq fun j => ?_
    rw [setTo_bit f (by omega), Nat.add_comm]
    rcases Nat.lt_trichotomy j (b % 64) with hj | hj | hj
    · rw [Nat.testBit_two_pow_add_gt hj, setTo_bit f (by omega)]
      have h1 : 64 * (b / 64) + j < b := by omega
      have h2 : 64 * (b / 64) + j < b + 1 := by omega
      simp [h1, h2]
    · subst hj
      rw [Nat.testBit_two_pow_add_eq, setTo_bit f (by omega)]
      have h1 : 64 * (b / 64) + b % 64 = b := by omega
      have h2 : b % 64 < 64 := by omega
      rw [h1]; simp [h, h2]
    · rw [Nat.testBit_lt_two_pow (Nat.lt_of_lt_of_le (show 2 ^ (b % 64) + (setTo f b).word (b / 64) < 2 ^ (b % 64 + 1) from by rw [Nat.pow_succ]; omega) (Nat.pow_le_pow_right (by omega) hj))]
      by_cases hj2 : j < 64
      · have : ¬ 64 * (b / 64) + j < b + 1 := by omega
        simp [this]
      · simp [hj2]
  · refine Nat.eq_of_testBit_eq fun j => ?_
    rw [setTo_bit f hi, setTo_bit f hi]
    by_cases hj : j < 64
    · have : decide (64 * i + j < b) = decide (64 * i + j < b + 1) := by rw [decide_eq_decide]; omega
      rw [this]
    · simp [hj]

theorem make_con (σ : Store) (a : Option Addr) (c : Nat) (l : List Bool) (h256 : l.length = 256) :
    Con Try.prog 82 #[.slice a 256 c] σ [Res.rowS 4 1 encB (.slice a 256 c) l] (PureP (setV (BSet.make fun i => nth l i false)) σ) := by
  refine Con.mk (n := 25) Try.func82 rfl rfl rfl (fun w0 => ?_)
  refine TC.seq ?_
  refine TC.region ?_
  refine TL.op rfl (OpOk.alloc rfl ze28 rfl rfl (fun b1 => ?_))
  refine TL.nil ?_
  refine S.n ?_
  refine TC.seq ?_
  refine TC.region ?_
  refine TL.op rfl (OpOk.alloc rfl ze28 rfl rfl (fun b3 => ?_))
  refine TL.nil ?_
  refine S.n ?_
  refine TC.seq ?_
  refine TC.seq ?_
  refine TC.region ?_
  refine TL.v rfl (OpVal.moveI (.inr rfl) rfl) rfl rfl ?_
  refine TL.nil ?_
  refine S.n ?_
  refine TC.block ?_
  refine TC.loopF (α := Nat) [4, 5, 6, 7, 8, 9, 10, 11, 12, 13, 14, 15, 16, 17, 18, 19, 20, 21, 22, 23] (fun k => [(4, .int .i64 (k : Nat))]) (fun k => [Res.cells b3 (setA (setTo (fun i => nth l i false) k)) 28, Res.cells b1 (setA BSet.zero) 28, Res.rowS 4 1 encB (.slice a 256 c) l]) (fun _ => _) (fun k => k ≤ 256) (fun k => 256 - k) (0) (by first | exact True.intro | omega | (dsimp only; omega) | (simp; done) | (simp; omega)) (by repeat (first | exact trivial | refine ⟨rfl, ?_⟩)) (by rw [setTo_zero]; rfl) (by rfl) (fun g1 j1 hg1 => ?_)
  have hp := two_pow_lt (Nat.mod_lt g1 (show 0 < 64 by omega))
  have hw : g1 < 256 → (setTo (fun i => nth l i false) g1).word (g1 / 64) + 2 ^ (g1 % 64) < 18446744073709551616 := fun h => by
    have h1 := setTo_lt (fun i => nth l i false) h
    have h2 : 2 ^ (g1 % 64) ≤ 2 ^ 63 := Nat.pow_le_pow_right (by omega) (by omega)
    have h3 : (2 : Nat) ^ 63 = 9223372036854775808 := by decide
    omega
  refine TC.seq ?_
  refine TC.seq ?_
  refine TC.region ?_
  refine TL.v rfl (OpVal.moveI (.inl rfl) rfl) rfl rfl ?_
  refine TL.v rfl (OpVal.lss rfl rfl rfl) rfl rfl ?_
  refine TL.nil ?_
  refine S.n ?_
  refine TC.condD rfl (fun h5 => ?_) (fun h5 => ?_)
  · try simp only [decide_eq_true_eq, decide_eq_false_iff_not, Bool.not_eq_true', Bool.not_eq_false', Bool.not_eq_eq_eq_not, Bool.not_true, Bool.not_false, Int.not_lt, Int.not_le, Decidable.not_not] at h5
    refine TC.skip ?_
    refine S.n ?_
    refine TC.seq ?_
    refine TC.block ?_
    refine TC.seq ?_
    refine TC.region ?_
    refine TL.v rfl (OpVal.moveSl (.inl rfl) rfl) rfl rfl ?_
    refine TL.v rfl (OpVal.moveI (.inl rfl) rfl) rfl rfl ?_
    refine TL.isSl (i := 2) rfl (fun hs6 _ _ => ?_)
    refine TL.v rfl (OpVal.indexN rfl Try.underlying47 sz4 rfl rfl (by first | assumption | exact (RS.rv (by assumption)).sl) (by omega)) rfl rfl ?_
    refine TL.v rfl (OpVal.loadO1 false rfl ag4 rfl (q := 2) rfl encB_len (by omega) rfl) rfl rfl ?_
    refine TL.nil ?_
    refine S.n ?_
    refine TC.cond rfl (fun h7 => ?_) (fun h7 => ?_)
    · try simp only [decide_eq_true_eq, decide_eq_false_iff_not, Bool.not_eq_true', Bool.not_eq_false', Bool.not_eq_eq_eq_not, Bool.not_true, Bool.not_false, Int.not_lt, Int.not_le, Decidable.not_not] at h7
      refine TC.draw [11] (by kernel_rfl) ?_
      refine TA.takeP 0 rfl (by kernel_rfl) (by kernel_rfl) (by kernel_rfl) rfl (OpVal.moveI (.inl rfl) rfl) rfl rfl ?_
      refine TA.takeP 1 rfl (by kernel_rfl) (by kernel_rfl) (by kernel_rfl) rfl (OpVal.quoN (b := 64) rfl rfl rfl (by omega) (by simp only [kmax]; omega)) rfl rfl ?_
      refine TA.takeP 2 rfl (by kernel_rfl) (by kernel_rfl) (by kernel_rfl) rfl (OpVal.moveI (.inl rfl) rfl) rfl rfl ?_
      refine TA.takeP 3 rfl (by kernel_rfl) (by kernel_rfl) (by kernel_rfl) rfl (OpVal.quoN (b := 64) rfl rfl rfl (by omega) (by simp only [kmax]; omega)) rfl rfl ?_
      refine TA.takeP 4 rfl (by kernel_rfl) (by kernel_rfl) (by kernel_rfl) rfl (OpVal.indexArrN rfl Try.underlying28 sz26 rfl rfl (by omega)) rfl rfl ?_
      refine TA.take 5 rfl (by kernel_rfl) (by kernel_rfl) (by kernel_rfl) (by kernel_rfl) rfl (OpVal.loadWord rfl ag26 rfl (j := 0) rfl (by omega)) rfl rfl ?_
      refine TA.takeP 6 rfl (by kernel_rfl) (by kernel_rfl) (by kernel_rfl) rfl (OpVal.moveI (.inl rfl) rfl) rfl rfl ?_
      refine TA.takeP 7 rfl (by kernel_rfl) (by kernel_rfl) (by kernel_rfl) rfl (OpVal.remN (b := 64) rfl rfl rfl (by omega)) rfl rfl ?_
      refine TA.act 8 (by kernel_rfl) rfl rfl (OpOk.callP (power_con _ (g1 % 64) (by omega)) rfl rfl pf84 rfl rfl rfl ⟨(fun w h => sees_of (by first | exact Store.le.refl _ | assumption) (fun r hr => hr) w h), ?_⟩)
      refine TA.takeP 9 rfl (by kernel_rfl) (by kernel_rfl) (by kernel_rfl) rfl (OpVal.addN rfl rfl rfl (by simp only [kmax]; omega)) rfl rfl ?_
      refine TA.takeP 10 rfl (by kernel_rfl) (by kernel_rfl) (by kernel_rfl) rfl (OpVal.indexArrN rfl Try.underlying28 sz26 rfl rfl (by omega)) rfl rfl ?_
      refine TA.last 11 (by kernel_rfl) rfl rfl rfl (OpOk.storeWord rfl sz26 rfl rfl rfl (by omega) (hw (by omega)) ?_)
      refine TZ.done (by kernel_rfl) ?_
      refine B.n ?_
      refine S.n ?_
      refine TC.region ?_
      refine TL.v rfl (OpVal.moveI (.inl rfl) rfl) rfl rfl ?_
      refine TL.v rfl (OpVal.succ rfl rfl rfl (by omega)) rfl rfl ?_
      refine TL.v rfl (OpVal.moveI (.inr rfl) rfl) rfl rfl ?_
      refine TL.nil ?_
      refine S.n ?_
      -- leaf 1 next [h5: True; h7: True] H=['q4', 'q2', 'r0']
      refine ⟨by repeat (first | exact Agr.mask | refine Agr.upd rfl ?_ | refine Agr.maskIn rfl ?_), g1 + 1, ?_, ?_, ?_, ?_, ?_⟩
      · omega
      · first | exact True.intro | omega | (dsimp only; omega) | (simp; done) | (simp; omega)
      · repeat (first | exact trivial | refine ⟨rfl, ?_⟩)
      · rw [setTo_yes (by omega) h7]
      · rfl
    · try simp only [decide_eq_true_eq, decide_eq_false_iff_not, Bool.not_eq_true', Bool.not_eq_false', Bool.not_eq_eq_eq_not, Bool.not_true, Bool.not_false, Int.not_lt, Int.not_le, Decidable.not_not] at h7
      refine TC.skip ?_
      refine B.n ?_
      refine S.n ?_
      refine TC.region ?_
      refine TL.v rfl (OpVal.moveI (.inl rfl) rfl) rfl rfl ?_
      refine TL.v rfl (OpVal.succ rfl rfl rfl (by omega)) rfl rfl ?_
      refine TL.v rfl (OpVal.moveI (.inr rfl) rfl) rfl rfl ?_
      refine TL.nil ?_
      refine S.n ?_
      -- leaf 2 next [h5: True; h7: False] H=['q4', 'q2', 'r0']
      refine ⟨by repeat (first | exact Agr.mask | refine Agr.upd rfl ?_ | refine Agr.maskIn rfl ?_), g1 + 1, ?_, ?_, ?_, ?_, ?_⟩
      · omega
      · first | exact True.intro | omega | (dsimp only; omega) | (simp; done) | (simp; omega)
      · repeat (first | exact trivial | refine ⟨rfl, ?_⟩)
      · rw [setTo_no h7]
      · rfl
  · try simp only [decide_eq_true_eq, decide_eq_false_iff_not, Bool.not_eq_true', Bool.not_eq_false', Bool.not_eq_eq_eq_not, Bool.not_true, Bool.not_false, Int.not_lt, Int.not_le, Decidable.not_not] at h5
    refine TC.exit ?_
    refine S.x ?_
    refine S.x ?_
    refine TC.exitHere ?_
    refine S.n ?_
    refine TC.seq ?_
    refine TC.region ?_
    refine TL.v rfl (OpVal.loadAll rfl ag28 sz28 rfl (i := 0) rfl rfl) rfl rfl ?_
    refine TL.front 1 rfl rfl ?_
    refine TL.op rfl (OpOk.storeAll rfl sz28 rfl rfl rfl rfl rfl rfl ?_)
    refine TL.nil ?_
    refine S.n ?_
    refine TC.ret ?_
    -- leaf 3 ret [h5: False] H=['q2', 'q4', 'r0']
    obtain rfl : g1 = 256 := by omega
    rw [setTo_all]
    exact retCellP 0 rfl ag28 sz28 rfl rfl rfl rfl

def boolTo (l : List UInt8) (k : Nat) : List Bool := (List.range 256).map (inTo l k)
theorem boolTo_len (l : List UInt8) (k : Nat) : (boolTo l k).length = 256 := by simp [boolTo]
theorem boolTo_zero' (l : List UInt8) (n : Nat) : List.replicate n false = (List.range n).map (inTo l 0) := by
  apply List.ext_getElem?
  intro i
  by_cases h : i < n <;> simp [inTo, h]
theorem boolTo_zero (l : List UInt8) : List.replicate 256 false = boolTo l 0 := boolTo_zero' l 256
theorem boolTo_succ {l : List UInt8} {k : Nat} (h : k < l.length) : (boolTo l k).set (nth l k 0).toNat true = boolTo l (k + 1) := by
  apply List.ext_getElem?
  intro i
  have hu : (nth l k (0 : UInt8)).toNat < 256 := UInt8.toNat_lt _
  simp only [boolTo, List.getElem?_set, List.getElem?_map, List.length_map, List.length_range, ← inTo_succ h]
  by_cases h1 : i < 256
  · simp only [List.getElem?_range h1, Option.map_some]
    by_cases he : (nth l k 0).toNat = i
    · simp [he, h1]
    · have : ¬ i = (nth l k 0).toNat := fun hx => he hx.symm
      simp [he, this]
  · rw [List.getElem?_eq_none (by simpa using h1)]
    have : ¬ (nth l k 0).toNat = i := by omega
    simp [this]
theorem boolTo_make (l : List UInt8) : BSet.make (fun i => nth (boolTo l l.length) i false) = BSet.ofL l := by
  rw [← inTo_all]
  refine BSet.make_congr fun i hi => ?_
  simp [nth, boolTo, hi]

theorem rof_con (σ : Store) (a : Option Addr) (c : Nat) (l : List UInt8) (hsz : l.length ≤ 1000000000000) :
    Con Try.prog 54 #[.slice a l.length c] σ [Res.rowS 5 1 encU8 (.slice a l.length c) l] (PureP (setV (BSet.ofL l)) σ) := by
  refine Con.mk (n := 20) Try.func54 rfl rfl rfl (fun w0 => ?_)
  refine TC.seq ?_
  refine TC.region ?_
  refine TL.op rfl (OpOk.alloc rfl ze28 rfl rfl (fun b1 => ?_))
  refine TL.nil ?_
  refine S.n ?_
  refine TC.seq ?_
  refine TC.region ?_
  refine TL.op rfl (OpOk.makeS (m := 256) (enc := encB) false rfl Try.underlying47 sz4 by4 ze4 rfl rfl rfl rfl (by omega) (by decide) encB_len (by decide) rfl encB_one (fun a3 c4 => ?_))
  refine TL.v rfl (OpVal.moveSl (.inr rfl) rfl) rfl rfl ?_
  refine TL.nil ?_
  refine S.n ?_
  refine TC.seq ?_
  refine TC.seq ?_
  refine TC.region ?_
  refine TL.v rfl (OpVal.moveI (.inr rfl) rfl) rfl rfl ?_
  refine TL.nil ?_
  refine S.n ?_
  refine TC.block ?_
  refine TC.loopF (α := Nat) [4, 6, 7, 8, 9, 10, 11, 12, 13, 14, 15, 16, 17] (fun k => [(4, .int .i64 (k : Nat))]) (fun k => [Res.rowS 4 1 encB (.slice a3 256 c4) (boolTo l k), Res.cells b1 (setA BSet.zero) 28, Res.rowS 5 1 encU8 (.slice a l.length c) l]) (fun _ => _) (fun k => k ≤ l.length) (fun k => l.length - k) (0) (by first | exact True.intro | omega | (dsimp only; omega) | (simp; done) | (simp; omega)) (by repeat (first | exact trivial | refine ⟨rfl, ?_⟩)) (by rw [← boolTo_zero]; rfl) (by rfl) (fun g1 j1 hg1 => ?_)
  have hu : (nth l g1 (0 : UInt8)).toNat < 256 := UInt8.toNat_lt _
  have hbl := boolTo_len l g1
  refine TC.seq ?_
  refine TC.seq ?_
  refine TC.region ?_
  refine TL.v rfl (OpVal.moveI (.inl rfl) rfl) rfl rfl ?_
  refine TL.v rfl (OpVal.moveSl (.inl rfl) rfl) rfl rfl ?_
  refine TL.v rfl (OpVal.lenC rfl Try.underlying78 rfl) rfl rfl ?_
  refine TL.v rfl (OpVal.lss rfl rfl rfl) rfl rfl ?_
  refine TL.nil ?_
  refine S.n ?_
  refine TC.condD rfl (fun h6 => ?_) (fun h6 => ?_)
  · try simp only [decide_eq_true_eq, decide_eq_false_iff_not, Bool.not_eq_true', Bool.not_eq_false', Bool.not_eq_eq_eq_not, Bool.not_true, Bool.not_false, Int.not_lt, Int.not_le, Decidable.not_not] at h6
    refine TC.skip ?_
    refine S.n ?_
    refine TC.seq ?_
    refine TC.block ?_
    refine TC.region ?_
    refine TL.v rfl (OpVal.moveSl (.inl rfl) rfl) rfl rfl ?_
    refine TL.v rfl (OpVal.moveSl (.inl rfl) rfl) rfl rfl ?_
    refine TL.v rfl (OpVal.moveI (.inl rfl) rfl) rfl rfl ?_
    refine TL.isSl (i := 2) rfl (fun hs7 _ _ => ?_)
    refine TL.v rfl (OpVal.indexN rfl Try.underlying78 sz5 rfl rfl (by first | assumption | exact (RS.rv (by assumption)).sl) (by omega)) rfl rfl ?_
    refine TL.v rfl (OpVal.loadO1 (0 : UInt8) rfl ag5 rfl (q := 2) rfl encU8_len (by omega) rfl) rfl rfl ?_
    refine TL.isSl (i := 0) rfl (fun hs8 _ _ => ?_)
    refine TL.v rfl (OpVal.indexN rfl Try.underlying47 sz4 rfl rfl (by first | assumption | exact (RS.rv (by assumption)).sl) (by omega)) rfl rfl ?_
    refine TL.op rfl (OpOk.storeS _ rfl sz4 rfl rfl rfl rfl encB_len encB_one (by omega) (by omega) ?_)
    refine TL.nil ?_
    refine B.n ?_
    refine S.n ?_
    refine TC.region ?_
    refine TL.v rfl (OpVal.moveI (.inl rfl) rfl) rfl rfl ?_
    refine TL.v rfl (OpVal.succ rfl rfl rfl (by omega)) rfl rfl ?_
    refine TL.v rfl (OpVal.moveI (.inr rfl) rfl) rfl rfl ?_
    refine TL.nil ?_
    refine S.n ?_
    -- leaf 1 next [h6: True] H=['q5', 'q2', 'r0']
    refine ⟨by repeat (first | exact Agr.mask | refine Agr.upd rfl ?_ | refine Agr.maskIn rfl ?_), g1 + 1, ?_, ?_, ?_, ?_, ?_⟩
    · omega
    · first | exact True.intro | omega | (dsimp only; omega) | (simp; done) | (simp; omega)
    · repeat (first | exact trivial | refine ⟨rfl, ?_⟩)
    · rw [boolTo_succ (by omega)]
    · rfl
  · try simp only [decide_eq_true_eq, decide_eq_false_iff_not, Bool.not_eq_true', Bool.not_eq_false', Bool.not_eq_eq_eq_not, Bool.not_true, Bool.not_false, Int.not_lt, Int.not_le, Decidable.not_not] at h6
    refine TC.exit ?_
    refine S.x ?_
    refine S.x ?_
    refine TC.exitHere ?_
    refine S.n ?_
    refine TC.seq ?_
    refine TC.region ?_
    refine TL.v rfl (OpVal.moveSl (.inl rfl) rfl) rfl rfl ?_
    refine TL.op rfl (OpOk.callT (make_con _ _ _ (boolTo l g1) (boolTo_len _ _)) rfl rfl pf82 rfl rfl rfl rfl ?_)
    refine TL.op rfl (OpOk.storeAll rfl sz28 rfl rfl rfl rfl rfl rfl ?_)
    refine TL.nil ?_
    refine S.n ?_
    refine TC.ret ?_
    -- leaf 2 ret [h6: False] H=['q2', 'r0']
    obtain rfl : g1 = l.length := by omega
    exact retCellP 0 rfl ag28 sz28 rfl rfl rfl (congrArg setV (boolTo_make l))

end Go.Proofs.Ytcidppnlhhkhhaa
