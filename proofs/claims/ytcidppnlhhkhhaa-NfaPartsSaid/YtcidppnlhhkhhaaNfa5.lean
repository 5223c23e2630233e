/- Contracts of package nfa, part five: again and again. -/
import Derived.Test.YtcidppnlhhkhhaaNfa4
set_option linter.unusedVariables false
set_option linter.unusedSimpArgs false
namespace Go.Proofs.Ytcidppnlhhkhhaa
open Go Go.E
set_option maxRecDepth 100000

theorem errB_no {b : Bool} (h : errB b ≠ 0) : b = false := by
  cases b
  · rfl
  · exact absurd rfl h
theorem errB_yes {b : Bool} (h : errB b = 0) : b = true := by
  cases b
  · exact absurd h (by decide)
  · rfl
theorem errB_no' {b : Bool} (h : ¬ errB b = 0) : b = false := errB_no h

/-- May an automaton be so big? -/
def fitB (s d : Int) : Bool := decide (s ≤ 4096) && decide (d ≤ 65536)

def starOf (a : Nfa) (x : Arrow) : List Arrow :=
  (if a.starts.contains x.frm = true then [⟨a.states, x.to, x.set⟩] else []) ++ ((if a.ends.contains x.to = true then [⟨x.frm, a.states, x.set⟩] else []) ++
    (if a.starts.contains x.frm = true ∧ a.ends.contains x.to = true then [⟨a.states, a.states, x.set⟩] else []))
def starTo (a : Nfa) (k : Nat) : List Arrow := a.edges ++ (a.edges.take k).flatMap (starOf a)
theorem starTo_zero (a : Nfa) : starTo a 0 = a.edges := by simp [starTo]
theorem starTo_succ {a : Nfa} {k : Nat} (h : k < a.edges.length) : starTo a (k + 1) = starTo a k ++ starOf a (nth a.edges k Arrow.zero) := by
  simp [starTo, take_succ_nth a.edges h Arrow.zero]
theorem starOf_len (a : Nfa) (x : Arrow) : (starOf a x).length ≤ 3 := by
  unfold starOf
  repeat' split
  all_goals simp
theorem starTo_len (a : Nfa) (k : Nat) (h : k ≤ a.edges.length) : (starTo a k).length ≤ a.edges.length + 3 * k := by
  induction k with
  | zero => simp [starTo]
  | succ k ih =>
    rw [starTo_succ (by omega), List.length_append]
    have := starOf_len a (nth a.edges k Arrow.zero)
    have := ih (by omega)
    omega
theorem starOf_ok {a : Nfa} {x : Arrow} (h : x.set.ok) : ∀ y ∈ starOf a x, y.set.ok := by
  intro y hy
  unfold starOf at hy
  simp only [List.mem_append] at hy
  rcases hy with hy | hy | hy <;> (split at hy <;> simp at hy <;> subst hy <;> exact h)
theorem starTo_ok {a : Nfa} (h : ∀ x ∈ a.edges, x.set.ok) (k : Nat) : ∀ y ∈ starTo a k, y.set.ok := by
  intro y hy
  simp only [starTo, List.mem_append, List.mem_flatMap] at hy
  rcases hy with hy | ⟨x, hx, hy⟩
  · exact h y hy
  · exact starOf_ok (h x (List.mem_of_mem_take hx)) y hy

theorem starTo_step {a : Nfa} {k : Nat} (h : k < a.edges.length) (k6 : ∀ x ∈ a.edges, 0 ≤ x.frm ∧ x.frm < a.states ∧ 0 ≤ x.to ∧ x.to < a.states) :
    nth (marksL a.starts a.states.toNat) (nth a.edges k Arrow.zero).frm.toNat false = a.starts.contains (nth a.edges k Arrow.zero).frm ∧
    nth (marksL a.ends a.states.toNat) (nth a.edges k Arrow.zero).to.toNat false = a.ends.contains (nth a.edges k Arrow.zero).to := by
  have hu := k6 _ (nth_mem h Arrow.zero)
  rw [marksL_get (by omega), marksL_get (by omega), Int.toNat_of_nonneg hu.1, Int.toNat_of_nonneg hu.2.2.1]
  exact ⟨rfl, rfl⟩
theorem starTo_tt {a : Nfa} {k : Nat} (h : k < a.edges.length) (k6 : ∀ x ∈ a.edges, 0 ≤ x.frm ∧ x.frm < a.states ∧ 0 ≤ x.to ∧ x.to < a.states)
    (h1 : nth (marksL a.starts a.states.toNat) (nth a.edges k Arrow.zero).frm.toNat false = true) (h2 : nth (marksL a.ends a.states.toNat) (nth a.edges k Arrow.zero).to.toNat false = true) :
    starTo a (k + 1) = starTo a k ++ [⟨a.states, (nth a.edges k Arrow.zero).to, (nth a.edges k Arrow.zero).set⟩] ++ [⟨(nth a.edges k Arrow.zero).frm, a.states, (nth a.edges k Arrow.zero).set⟩] ++ [⟨a.states, a.states, (nth a.edges k Arrow.zero).set⟩] := by
  rw [(starTo_step h k6).1] at h1
  rw [(starTo_step h k6).2] at h2
  rw [starTo_succ h, starOf, if_pos h1, if_pos h2, if_pos ⟨h1, h2⟩]; simp only [List.append_assoc]
theorem starTo_tf {a : Nfa} {k : Nat} (h : k < a.edges.length) (k6 : ∀ x ∈ a.edges, 0 ≤ x.frm ∧ x.frm < a.states ∧ 0 ≤ x.to ∧ x.to < a.states)
    (h1 : nth (marksL a.starts a.states.toNat) (nth a.edges k Arrow.zero).frm.toNat false = true) (h2 : nth (marksL a.ends a.states.toNat) (nth a.edges k Arrow.zero).to.toNat false = false) :
    starTo a (k + 1) = starTo a k ++ [⟨a.states, (nth a.edges k Arrow.zero).to, (nth a.edges k Arrow.zero).set⟩] := by
  rw [(starTo_step h k6).1] at h1
  rw [(starTo_step h k6).2, ← Bool.not_eq_true] at h2
  rw [starTo_succ h, starOf, if_pos h1, if_neg h2, if_neg (fun x => h2 x.2)]; rfl
theorem starTo_ft {a : Nfa} {k : Nat} (h : k < a.edges.length) (k6 : ∀ x ∈ a.edges, 0 ≤ x.frm ∧ x.frm < a.states ∧ 0 ≤ x.to ∧ x.to < a.states)
    (h1 : nth (marksL a.starts a.states.toNat) (nth a.edges k Arrow.zero).frm.toNat false = false) (h2 : nth (marksL a.ends a.states.toNat) (nth a.edges k Arrow.zero).to.toNat false = true) :
    starTo a (k + 1) = starTo a k ++ [⟨(nth a.edges k Arrow.zero).frm, a.states, (nth a.edges k Arrow.zero).set⟩] := by
  rw [(starTo_step h k6).1, ← Bool.not_eq_true] at h1
  rw [(starTo_step h k6).2] at h2
  rw [starTo_succ h, starOf, if_neg h1, if_pos h2, if_neg (fun x => h1 x.1)]; rfl
theorem starTo_ff {a : Nfa} {k : Nat} (h : k < a.edges.length) (k6 : ∀ x ∈ a.edges, 0 ≤ x.frm ∧ x.frm < a.states ∧ 0 ≤ x.to ∧ x.to < a.states)
    (h1 : nth (marksL a.starts a.states.toNat) (nth a.edges k Arrow.zero).frm.toNat false = false) (h2 : nth (marksL a.ends a.states.toNat) (nth a.edges k Arrow.zero).to.toNat false = false) :
    starTo a (k + 1) = starTo a k := by
  rw [(starTo_step h k6).1, ← Bool.not_eq_true] at h1
  rw [(starTo_step h k6).2, ← Bool.not_eq_true] at h2
  rw [starTo_succ h, starOf, if_neg h1, if_neg h2, if_neg (fun x => h1 x.1), List.append_nil, List.append_nil, List.append_nil]

def starE (a : Nfa) : List Arrow := starTo a a.edges.length
def starN (a : Nfa) : Nfa := ⟨a.states + 1, [a.states], [a.states], starE a⟩
def starF (a : Nfa) : Bool := fitB (a.states + 1) (starE a).length
def starR (a : Nfa) : Nfa := if checkB a = true then if starF a = true then starN a else Nfa.zero else Nfa.zero
def starX (a : Nfa) : Int := if checkB a = true then if starF a = true then 0 else 2 else 1

theorem star_con (σ : Store) (n : Nfa) (p : NfaP) (hn : RNfa σ n p) : Con Try.prog 31 #[nfaV n p] σ [] (NfaR (starR n) (starX n)) := by
  have hd := hn.d
  refine Con.mk (n := 105) Try.func31 rfl rfl rfl (fun w0 => ?_)
  refine TC.seq ?_
  refine TC.region ?_
  refine TL.op rfl (OpOk.boxA rfl rfl rfl rfl (fun b1 => ?_))
  refine TL.op rfl (OpOk.alloc rfl ze25 rfl rfl (fun b3 => ?_))
  refine TL.v rfl (OpVal.moveI (.inr rfl) rfl) rfl rfl ?_
  refine TL.nil ?_
  refine S.n ?_
  refine TC.seq ?_
  refine TC.seq ?_
  refine TC.region ?_
  refine TL.v rfl (OpVal.loadAll rfl ag25 sz25 rfl (i := 1) rfl rfl) rfl rfl ?_
  refine TL.op rfl (OpOk.callP (check_con _ _ _ hn) rfl rfl pf18 rfl rfl rfl ?_)
  refine TL.v rfl (OpVal.neq rfl rfl rfl) rfl rfl ?_
  refine TL.nil ?_
  refine S.n ?_
  refine TC.condD rfl (fun h5 => ?_) (fun h5 => ?_)
  · try simp only [decide_eq_true_eq, decide_eq_false_iff_not, Bool.not_eq_true', Bool.not_eq_false', Bool.not_eq_eq_eq_not, Bool.not_true, Bool.not_false, Int.not_lt, Int.not_le, Decidable.not_not] at h5
    refine TC.seq ?_
    refine TC.region ?_
    refine TL.v rfl (OpVal.buildL rfl pl25 ze25 rfl) rfl rfl ?_
    refine TL.op rfl (OpOk.storeAll rfl sz25 rfl rfl rfl rfl rfl rfl ?_)
    refine TL.v rfl (OpVal.moveI (.inr rfl) rfl) rfl rfl ?_
    refine TL.nil ?_
    refine S.n ?_
    refine TC.ret ?_
    refine S.r ?_
    -- leaf 1 ret [h5: True] H=['q4', 'q2']
    have hc := errB_no h5
    have hc : ¬ checkB n = true := by rw [hc]; exact Bool.false_ne_true
    simp only [starR, starX, if_neg hc]
    exact retNfa (p := NfaP.zero) 0 rfl ag25 sz25 rfl rfl rfl rfl (RNfa.zero _)
  · try simp only [decide_eq_true_eq, decide_eq_false_iff_not, Bool.not_eq_true', Bool.not_eq_false', Bool.not_eq_eq_eq_not, Bool.not_true, Bool.not_false, Int.not_lt, Int.not_le, Decidable.not_not] at h5
    refine TC.skip ?_
    refine S.n ?_
    refine TC.seq ?_
    have hc : checkB n = true := by first | exact errB_yes h2 | exact errB_yes h3 | exact errB_yes h5
    obtain ⟨k1, k2, k3, k4, k5, k6⟩ := checkB_spec hc
    have ms := marksL_len n.starts n.states.toNat
    have me := marksL_len n.ends n.states.toNat
    refine TC.region ?_
    refine TL.v rfl (OpVal.fieldLoc rfl fo25_1 rfl) rfl rfl ?_
    refine TL.v rfl (OpVal.loadLoc rfl ag22 rfl (i := 1) rfl rfl) rfl rfl ?_
    refine TL.v rfl (OpVal.fieldLoc rfl fo25_0 rfl) rfl rfl ?_
    refine TL.v rfl (OpVal.loadLoc rfl ag3 rfl (i := 1) rfl rfl) rfl rfl ?_
    refine TL.op rfl (OpOk.callR (marks_con _ _ _ _ _ (by first | exact hn.s | exact hn.e) k1 k2 (by first | exact k4 | exact k5)) rfl rfl pf60 rfl rfl rfl (fun a6 c7 => ?_))
    refine TL.v rfl (OpVal.moveSl (.inr rfl) rfl) rfl rfl ?_
    refine TL.nil ?_
    refine S.n ?_
    refine TC.seq ?_
    refine TC.region ?_
    refine TL.v rfl (OpVal.fieldLoc rfl fo25_2 rfl) rfl rfl ?_
    refine TL.v rfl (OpVal.loadLoc rfl ag22 rfl (i := 2) rfl rfl) rfl rfl ?_
    refine TL.v rfl (OpVal.fieldLoc rfl fo25_0 rfl) rfl rfl ?_
    refine TL.v rfl (OpVal.loadLoc rfl ag3 rfl (i := 2) rfl rfl) rfl rfl ?_
    refine TL.op rfl (OpOk.callR (marks_con _ _ _ _ _ (by first | exact hn.s | exact hn.e) k1 k2 (by first | exact k4 | exact k5)) rfl rfl pf60 rfl rfl rfl (fun a9 c10 => ?_))
    refine TL.v rfl (OpVal.moveSl (.inr rfl) rfl) rfl rfl ?_
    refine TL.nil ?_
    refine S.n ?_
    refine TC.seq ?_
    refine TC.region ?_
    refine TL.v rfl (OpVal.fieldLoc rfl fo25_0 rfl) rfl rfl ?_
    refine TL.v rfl (OpVal.loadLoc rfl ag3 rfl (i := 3) rfl rfl) rfl rfl ?_
    refine TL.v rfl (OpVal.moveI (.inr rfl) rfl) rfl rfl ?_
    refine TL.nil ?_
    refine S.n ?_
    refine TC.seq ?_
    refine TC.region ?_
    refine TL.v rfl (OpVal.fieldLoc rfl fo25_3 rfl) rfl rfl ?_
    refine TL.v rfl (OpVal.loadLoc rfl ag23 rfl (i := 3) rfl rfl) rfl rfl ?_
    refine TL.op rfl (OpOk.callR (clonee_con _ _ _ _ hn.d (by omega)) rfl rfl pf72 rfl rfl rfl (fun a12 c13 => ?_))
    refine TL.v rfl (OpVal.buildL rfl pl74 ze74 rfl) rfl rfl ?_
    refine TL.op rfl (OpOk.boxA rfl rfl rfl rfl (fun b15 => ?_))
    refine TL.v rfl (OpVal.moveLoc (.inr rfl) rfl) rfl rfl ?_
    refine TL.nil ?_
    refine S.n ?_
    refine TC.seq ?_
    refine TC.region ?_
    refine TL.v rfl (OpVal.moveLoc (.inl rfl) rfl) rfl rfl ?_
    refine TL.v rfl (OpVal.makeFn rfl) rfl rfl ?_
    refine TL.v rfl (OpVal.moveFn (.inr rfl) rfl) rfl rfl ?_
    refine TL.nil ?_
    refine S.n ?_
    refine TC.seq ?_
    refine TC.seq ?_
    refine TC.region ?_
    refine TL.v rfl (OpVal.fieldLoc rfl fo25_3 rfl) rfl rfl ?_
    refine TL.v rfl (OpVal.loadLoc rfl ag23 rfl (i := 5) rfl rfl) rfl rfl ?_
    refine TL.v rfl (OpVal.lenC rfl Try.underlying23 rfl) rfl rfl ?_
    refine TL.v rfl (OpVal.moveI (.inl rfl) rfl) rfl rfl ?_
    refine TL.nil ?_
    refine S.n ?_
    refine TC.block ?_
    refine TC.loopF (α := Nat × Option Addr × Nat) [10, 37, 38, 39, 40, 41, 42, 43, 44, 45, 46, 47, 48, 49, 50, 51, 52, 53, 54, 55, 56, 57, 58, 59, 60, 61, 62, 63, 64, 65, 66, 67, 68, 69, 70, 71, 72, 73, 74, 75, 76, 77, 78, 79, 80, 81, 82, 83] (fun g => [(37, .int .i64 (g.1 : Nat))]) (fun g => [Res.cells b15 #[.slice g.2.1 (starTo n g.1).length g.2.2] 74, Res.rowS 80 6 encE (.slice g.2.1 (starTo n g.1).length g.2.2) (starTo n g.1), Res.rowS 4 1 encB (.slice a9 (marksL n.ends n.states.toNat).length c10) (marksL n.ends n.states.toNat), Res.rowS 4 1 encB (.slice a6 (marksL n.starts n.states.toNat).length c7) (marksL n.starts n.states.toNat), Res.cells b3 (nfaA Nfa.zero NfaP.zero) 25, Res.cells b1 (nfaA n p) 25]) (fun _ => _) (fun g => g.1 ≤ n.edges.length) (fun g => n.edges.length - g.1) ((0, a12, c13)) (by first | exact True.intro | omega | (dsimp only; omega) | (simp; done) | (simp; omega)) (by repeat (first | exact trivial | refine ⟨rfl, ?_⟩)) (by simp only [starTo_zero]; rfl) (by rfl) (fun g1 j1 hg1 => ?_)
    obtain ⟨g1, ga, gc⟩ := g1
    dsimp only
    have hg1 : g1 ≤ n.edges.length := hg1
    have hu : g1 < n.edges.length → _ := fun h => k6 _ (nth_mem h Arrow.zero)
    have hl := starTo_len n g1 hg1
    refine TC.seq ?_
    refine TC.region ?_
    refine TL.v rfl (OpVal.lss rfl rfl rfl) rfl rfl ?_
    refine TL.nil ?_
    refine S.n ?_
    refine TC.seq ?_
    refine TC.condD rfl (fun h17 => ?_) (fun h17 => ?_)
    · try simp only [decide_eq_true_eq, decide_eq_false_iff_not, Bool.not_eq_true', Bool.not_eq_false', Bool.not_eq_eq_eq_not, Bool.not_true, Bool.not_false, Int.not_lt, Int.not_le, Decidable.not_not] at h17
      refine TC.skip ?_
      refine S.n ?_
      refine TC.seq ?_
      refine TC.block ?_
      refine TC.seq ?_
      refine TC.region ?_
      refine TL.v rfl (OpVal.indexN rfl Try.underlying23 sz80 rfl rfl (by first | assumption | exact (RS.rv (by assumption)).sl) (by omega)) rfl rfl ?_
      refine TL.v rfl (OpVal.loadSA Arrow.zero rfl ag80 sz80 rfl (by assumption) (by omega) (by omega)) rfl rfl ?_
      refine TL.op rfl (OpOk.alloc rfl ze80 rfl rfl (fun b18 => ?_))
      refine TL.op rfl (OpOk.storeAll rfl sz80 rfl rfl rfl rfl rfl rfl ?_)
      refine TL.nil ?_
      refine S.n ?_
      refine TC.seq ?_
      refine TC.seq ?_
      refine TC.region ?_
      refine TL.v rfl (OpVal.moveSl (.inl rfl) rfl) rfl rfl ?_
      refine TL.v rfl (OpVal.fieldLoc rfl fo80_0 rfl) rfl rfl ?_
      refine TL.v rfl (OpVal.loadLoc rfl ag3 rfl (i := 0) rfl rfl) rfl rfl ?_
      refine TL.isSl (i := 4) rfl (fun hs20 _ _ => ?_)
      refine TL.v rfl (OpVal.index rfl Try.underlying47 sz4 rfl rfl (by first | assumption | exact (RS.rv (by assumption)).sl) (by omega) (by omega)) rfl rfl ?_
      refine TL.v rfl (OpVal.loadO1 false rfl ag4 rfl (q := 4) rfl encB_len (by omega) rfl) rfl rfl ?_
      refine TL.nil ?_
      refine S.n ?_
      refine TC.cond rfl (fun h21 => ?_) (fun h21 => ?_)
      · try simp only [decide_eq_true_eq, decide_eq_false_iff_not, Bool.not_eq_true', Bool.not_eq_false', Bool.not_eq_eq_eq_not, Bool.not_true, Bool.not_false, Int.not_lt, Int.not_le, Decidable.not_not] at h21
        refine TC.region ?_
        refine TL.v rfl (OpVal.moveFn (.inl rfl) rfl) rfl rfl ?_
        refine TL.v rfl (OpVal.moveI (.inl rfl) rfl) rfl rfl ?_
        refine TL.v rfl (OpVal.fieldLoc rfl fo80_1 rfl) rfl rfl ?_
        refine TL.v rfl (OpVal.loadLoc rfl ag3 rfl (i := 0) rfl rfl) rfl rfl ?_
        refine TL.v rfl (OpVal.fieldLoc rfl fo80_2 rfl) rfl rfl ?_
        refine TL.v rfl (OpVal.loadLocA rfl ag28 sz28 rfl (i := 0) rfl rfl rfl) rfl rfl ?_
        refine TL.front 2 rfl rfl ?_
        refine TL.front 2 rfl rfl ?_
        refine TL.op rfl (OpOk.callE (edge_con _ _ _ _ _ _ _ (nth n.edges g1 Arrow.zero).set (by (try simp only [List.length_append, List.length_singleton, Nat.add_assoc]); omega)) rfl rfl pf52 rfl rfl rfl rfl (fun a22 c23 => ?_))
        refine TL.nil ?_
        refine S.n ?_
        refine TC.seq ?_
        refine TC.seq ?_
        refine TC.region ?_
        refine TL.v rfl (OpVal.moveSl (.inl rfl) rfl) rfl rfl ?_
        refine TL.v rfl (OpVal.fieldLoc rfl fo80_1 rfl) rfl rfl ?_
        refine TL.v rfl (OpVal.loadLoc rfl ag3 rfl (i := 2) rfl rfl) rfl rfl ?_
        refine TL.isSl (i := 3) rfl (fun hs24 _ _ => ?_)
        refine TL.v rfl (OpVal.index rfl Try.underlying47 sz4 rfl rfl (by first | assumption | exact (RS.rv (by assumption)).sl) (by omega) (by omega)) rfl rfl ?_
        refine TL.v rfl (OpVal.loadO1 false rfl ag4 rfl (q := 3) rfl encB_len (by omega) rfl) rfl rfl ?_
        refine TL.nil ?_
        refine S.n ?_
        refine TC.cond rfl (fun h25 => ?_) (fun h25 => ?_)
        · try simp only [decide_eq_true_eq, decide_eq_false_iff_not, Bool.not_eq_true', Bool.not_eq_false', Bool.not_eq_eq_eq_not, Bool.not_true, Bool.not_false, Int.not_lt, Int.not_le, Decidable.not_not] at h25
          refine TC.region ?_
          refine TL.v rfl (OpVal.moveFn (.inl rfl) rfl) rfl rfl ?_
          refine TL.v rfl (OpVal.fieldLoc rfl fo80_0 rfl) rfl rfl ?_
          refine TL.v rfl (OpVal.loadLoc rfl ag3 rfl (i := 2) rfl rfl) rfl rfl ?_
          refine TL.v rfl (OpVal.moveI (.inl rfl) rfl) rfl rfl ?_
          refine TL.v rfl (OpVal.fieldLoc rfl fo80_2 rfl) rfl rfl ?_
          refine TL.v rfl (OpVal.loadLocA rfl ag28 sz28 rfl (i := 2) rfl rfl rfl) rfl rfl ?_
          refine TL.front 1 rfl rfl ?_
          refine TL.front 1 rfl rfl ?_
          refine TL.op rfl (OpOk.callE (edge_con _ _ _ _ _ _ _ (nth n.edges g1 Arrow.zero).set (by (try simp only [List.length_append, List.length_singleton, Nat.add_assoc]); omega)) rfl rfl pf52 rfl rfl rfl rfl (fun a26 c27 => ?_))
          refine TL.nil ?_
          refine S.n ?_
          refine TC.seq ?_
          refine TC.region ?_
          refine TL.v rfl (OpVal.moveSl (.inl rfl) rfl) rfl rfl ?_
          refine TL.v rfl (OpVal.fieldLoc rfl fo80_0 rfl) rfl rfl ?_
          refine TL.v rfl (OpVal.loadLoc rfl ag3 rfl (i := 2) rfl rfl) rfl rfl ?_
          refine TL.isSl (i := 4) rfl (fun hs28 _ _ => ?_)
          refine TL.v rfl (OpVal.index rfl Try.underlying47 sz4 rfl rfl (by first | assumption | exact (RS.rv (by assumption)).sl) (by omega) (by omega)) rfl rfl ?_
          refine TL.v rfl (OpVal.loadO1 false rfl ag4 rfl (q := 4) rfl encB_len (by omega) rfl) rfl rfl ?_
          refine TL.v rfl (OpVal.moveB (.inl rfl) rfl) rfl rfl ?_
          refine TL.split 70 rfl (fun h29 => ?_) (fun h29 => ?_)
          · try simp only [decide_eq_true_eq, decide_eq_false_iff_not, Bool.not_eq_true', Bool.not_eq_false', Bool.not_eq_eq_eq_not, Bool.not_true, Bool.not_false, Int.not_lt, Int.not_le, Decidable.not_not] at h29
            refine TL.gv rfl rfl rfl rfl rfl (OpVal.moveSl (.inl rfl) rfl) rfl rfl ?_
            refine TL.gv rfl rfl rfl rfl rfl (OpVal.fieldLoc rfl fo80_1 rfl) rfl rfl ?_
            refine TL.gv rfl rfl rfl rfl rfl (OpVal.loadLoc rfl ag3 rfl (i := 2) rfl rfl) rfl rfl ?_
            refine TL.isSl (i := 3) rfl (fun hs30 _ _ => ?_)
            refine TL.gv rfl rfl rfl rfl rfl (OpVal.index rfl Try.underlying47 sz4 rfl rfl (by first | assumption | exact (RS.rv (by assumption)).sl) (by omega) (by omega)) rfl rfl ?_
            refine TL.gv rfl rfl rfl rfl rfl (OpVal.loadO1 false rfl ag4 rfl (q := 3) rfl encB_len (by omega) rfl) rfl rfl ?_
            refine TL.v rfl (OpVal.pickTB rfl rfl rfl) rfl rfl ?_
            refine TL.nil ?_
            refine S.n ?_
            refine TC.cond rfl (fun h31 => ?_) (fun h31 => ?_)
            · try simp only [decide_eq_true_eq, decide_eq_false_iff_not, Bool.not_eq_true', Bool.not_eq_false', Bool.not_eq_eq_eq_not, Bool.not_true, Bool.not_false, Int.not_lt, Int.not_le, Decidable.not_not] at h31
              refine TC.region ?_
              refine TL.v rfl (OpVal.moveFn (.inl rfl) rfl) rfl rfl ?_
              refine TL.v rfl (OpVal.moveI (.inl rfl) rfl) rfl rfl ?_
              refine TL.v rfl (OpVal.moveI (.inl rfl) rfl) rfl rfl ?_
              refine TL.v rfl (OpVal.fieldLoc rfl fo80_2 rfl) rfl rfl ?_
              refine TL.v rfl (OpVal.loadLocA rfl ag28 sz28 rfl (i := 2) rfl rfl rfl) rfl rfl ?_
              refine TL.front 1 rfl rfl ?_
              refine TL.front 1 rfl rfl ?_
              refine TL.op rfl (OpOk.callE (edge_con _ _ _ _ _ _ _ (nth n.edges g1 Arrow.zero).set (by (try simp only [List.length_append, List.length_singleton, Nat.add_assoc]); omega)) rfl rfl pf52 rfl rfl rfl rfl (fun a32 c33 => ?_))
              refine TL.nil ?_
              refine B.n ?_
              refine S.n ?_
              refine TC.region ?_
              refine TL.v rfl (OpVal.succ rfl rfl rfl (by omega)) rfl rfl ?_
              refine TL.v rfl (OpVal.moveI (.inl rfl) rfl) rfl rfl ?_
              refine TL.front 6 rfl rfl ?_
              refine TL.front 6 rfl rfl ?_
              refine TL.front 6 rfl rfl ?_
              refine TL.front 6 rfl rfl ?_
              refine TL.front 5 rfl rfl ?_
              refine TL.front 5 rfl rfl ?_
              refine TL.takeN 6 rfl ?_
              refine TL.nil ?_
              refine S.n ?_
              -- leaf 2 next [h5: False; h17: True; h21: True; h25: True; h29: t70=True; h31: True] H=['q16', 'q14', 'q11', 'q8', 'q4', 'q2']
              refine ⟨by repeat (first | exact Agr.mask | refine Agr.upd rfl ?_ | refine Agr.maskIn rfl ?_), (g1 + 1, a32, c33), ?_, ?_, ?_, ?_, ?_⟩
              · show n.edges.length - (g1 + 1) < n.edges.length - g1; omega
              · show g1 + 1 ≤ n.edges.length; omega
              · repeat (first | exact trivial | refine ⟨rfl, ?_⟩)
              · show _ = [Res.cells _ #[.slice _ (starTo n (g1 + 1)).length _] _, Res.rowS _ _ _ (.slice _ (starTo n (g1 + 1)).length _) (starTo n (g1 + 1)), _, _, _, _]
                rw [starTo_tt (by omega) k6 h21 h25]; rfl
              · rfl
            · try simp only [decide_eq_true_eq, decide_eq_false_iff_not, Bool.not_eq_true', Bool.not_eq_false', Bool.not_eq_eq_eq_not, Bool.not_true, Bool.not_false, Int.not_lt, Int.not_le, Decidable.not_not] at h31
              refine TC.skip ?_
              refine B.n ?_
              refine S.n ?_
              refine TC.region ?_
              refine TL.v rfl (OpVal.succ rfl rfl rfl (by omega)) rfl rfl ?_
              refine TL.v rfl (OpVal.moveI (.inl rfl) rfl) rfl rfl ?_
              refine TL.front 6 rfl rfl ?_
              refine TL.front 6 rfl rfl ?_
              refine TL.front 6 rfl rfl ?_
              refine TL.front 6 rfl rfl ?_
              refine TL.front 5 rfl rfl ?_
              refine TL.front 5 rfl rfl ?_
              refine TL.takeN 6 rfl ?_
              refine TL.nil ?_
              refine S.n ?_
              -- leaf 3 next [h5: False; h17: True; h21: True; h25: True; h29: t70=True; h31: False] H=['q16', 'q14', 'q11', 'q8', 'q4', 'q2']
              exact absurd (h31.symm.trans h25) Bool.false_ne_true
          · try simp only [decide_eq_true_eq, decide_eq_false_iff_not, Bool.not_eq_true', Bool.not_eq_false', Bool.not_eq_eq_eq_not, Bool.not_true, Bool.not_false, Int.not_lt, Int.not_le, Decidable.not_not] at h29
            refine TL.goff rfl rfl rfl rfl rfl rfl rfl rfl ?_
            refine TL.goff rfl rfl rfl rfl rfl rfl rfl rfl ?_
            refine TL.goff rfl rfl rfl rfl rfl rfl rfl rfl ?_
            refine TL.goff rfl rfl rfl rfl rfl rfl rfl rfl ?_
            refine TL.goff rfl rfl rfl rfl rfl rfl rfl rfl ?_
            refine TL.v rfl (OpVal.pickFB rfl rfl rfl) rfl rfl ?_
            refine TL.nil ?_
            refine S.n ?_
            refine TC.cond rfl (fun h => Bool.noConfusion h) (fun _ => ?_)
            refine TC.skip ?_
            refine B.n ?_
            refine S.n ?_
            refine TC.region ?_
            refine TL.v rfl (OpVal.succ rfl rfl rfl (by omega)) rfl rfl ?_
            refine TL.v rfl (OpVal.moveI (.inl rfl) rfl) rfl rfl ?_
            refine TL.front 6 rfl rfl ?_
            refine TL.front 6 rfl rfl ?_
            refine TL.front 6 rfl rfl ?_
            refine TL.front 6 rfl rfl ?_
            refine TL.front 5 rfl rfl ?_
            refine TL.front 5 rfl rfl ?_
            refine TL.takeN 6 rfl ?_
            refine TL.nil ?_
            refine S.n ?_
            -- leaf 4 next [h5: False; h17: True; h21: True; h25: True; h29: t70=False] H=['q16', 'q14', 'q11', 'q8', 'q4', 'q2']
            exact absurd (h29.symm.trans h21) Bool.false_ne_true
        · try simp only [decide_eq_true_eq, decide_eq_false_iff_not, Bool.not_eq_true', Bool.not_eq_false', Bool.not_eq_eq_eq_not, Bool.not_true, Bool.not_false, Int.not_lt, Int.not_le, Decidable.not_not] at h25
          refine TC.skip ?_
          refine S.n ?_
          refine TC.seq ?_
          refine TC.region ?_
          refine TL.v rfl (OpVal.moveSl (.inl rfl) rfl) rfl rfl ?_
          refine TL.v rfl (OpVal.fieldLoc rfl fo80_0 rfl) rfl rfl ?_
          refine TL.v rfl (OpVal.loadLoc rfl ag3 rfl (i := 2) rfl rfl) rfl rfl ?_
          refine TL.isSl (i := 4) rfl (fun hs34 _ _ => ?_)
          refine TL.v rfl (OpVal.index rfl Try.underlying47 sz4 rfl rfl (by first | assumption | exact (RS.rv (by assumption)).sl) (by omega) (by omega)) rfl rfl ?_
          refine TL.v rfl (OpVal.loadO1 false rfl ag4 rfl (q := 4) rfl encB_len (by omega) rfl) rfl rfl ?_
          refine TL.v rfl (OpVal.moveB (.inl rfl) rfl) rfl rfl ?_
          refine TL.split 70 rfl (fun h35 => ?_) (fun h35 => ?_)
          · try simp only [decide_eq_true_eq, decide_eq_false_iff_not, Bool.not_eq_true', Bool.not_eq_false', Bool.not_eq_eq_eq_not, Bool.not_true, Bool.not_false, Int.not_lt, Int.not_le, Decidable.not_not] at h35
            refine TL.gv rfl rfl rfl rfl rfl (OpVal.moveSl (.inl rfl) rfl) rfl rfl ?_
            refine TL.gv rfl rfl rfl rfl rfl (OpVal.fieldLoc rfl fo80_1 rfl) rfl rfl ?_
            refine TL.gv rfl rfl rfl rfl rfl (OpVal.loadLoc rfl ag3 rfl (i := 2) rfl rfl) rfl rfl ?_
            refine TL.isSl (i := 3) rfl (fun hs36 _ _ => ?_)
            refine TL.gv rfl rfl rfl rfl rfl (OpVal.index rfl Try.underlying47 sz4 rfl rfl (by first | assumption | exact (RS.rv (by assumption)).sl) (by omega) (by omega)) rfl rfl ?_
            refine TL.gv rfl rfl rfl rfl rfl (OpVal.loadO1 false rfl ag4 rfl (q := 3) rfl encB_len (by omega) rfl) rfl rfl ?_
            refine TL.v rfl (OpVal.pickTB rfl rfl rfl) rfl rfl ?_
            refine TL.nil ?_
            refine S.n ?_
            refine TC.cond rfl (fun h37 => ?_) (fun h37 => ?_)
            · try simp only [decide_eq_true_eq, decide_eq_false_iff_not, Bool.not_eq_true', Bool.not_eq_false', Bool.not_eq_eq_eq_not, Bool.not_true, Bool.not_false, Int.not_lt, Int.not_le, Decidable.not_not] at h37
              refine TC.region ?_
              refine TL.v rfl (OpVal.moveFn (.inl rfl) rfl) rfl rfl ?_
              refine TL.v rfl (OpVal.moveI (.inl rfl) rfl) rfl rfl ?_
              refine TL.v rfl (OpVal.moveI (.inl rfl) rfl) rfl rfl ?_
              refine TL.v rfl (OpVal.fieldLoc rfl fo80_2 rfl) rfl rfl ?_
              refine TL.v rfl (OpVal.loadLocA rfl ag28 sz28 rfl (i := 2) rfl rfl rfl) rfl rfl ?_
              refine TL.front 1 rfl rfl ?_
              refine TL.front 1 rfl rfl ?_
              refine TL.op rfl (OpOk.callE (edge_con _ _ _ _ _ _ _ (nth n.edges g1 Arrow.zero).set (by (try simp only [List.length_append, List.length_singleton, Nat.add_assoc]); omega)) rfl rfl pf52 rfl rfl rfl rfl (fun a38 c39 => ?_))
              refine TL.nil ?_
              refine B.n ?_
              refine S.n ?_
              refine TC.region ?_
              refine TL.v rfl (OpVal.succ rfl rfl rfl (by omega)) rfl rfl ?_
              refine TL.v rfl (OpVal.moveI (.inl rfl) rfl) rfl rfl ?_
              refine TL.front 6 rfl rfl ?_
              refine TL.front 6 rfl rfl ?_
              refine TL.front 6 rfl rfl ?_
              refine TL.front 6 rfl rfl ?_
              refine TL.front 5 rfl rfl ?_
              refine TL.front 5 rfl rfl ?_
              refine TL.takeN 6 rfl ?_
              refine TL.nil ?_
              refine S.n ?_
              -- leaf 5 next [h5: False; h17: True; h21: True; h25: False; h35: t70=True; h37: True] H=['q16', 'q14', 'q11', 'q8', 'q4', 'q2']
              exact absurd (h25.symm.trans h37) Bool.false_ne_true
            · try simp only [decide_eq_true_eq, decide_eq_false_iff_not, Bool.not_eq_true', Bool.not_eq_false', Bool.not_eq_eq_eq_not, Bool.not_true, Bool.not_false, Int.not_lt, Int.not_le, Decidable.not_not] at h37
              refine TC.skip ?_
              refine B.n ?_
              refine S.n ?_
              refine TC.region ?_
              refine TL.v rfl (OpVal.succ rfl rfl rfl (by omega)) rfl rfl ?_
              refine TL.v rfl (OpVal.moveI (.inl rfl) rfl) rfl rfl ?_
              refine TL.front 6 rfl rfl ?_
              refine TL.front 6 rfl rfl ?_
              refine TL.front 6 rfl rfl ?_
              refine TL.front 6 rfl rfl ?_
              refine TL.front 5 rfl rfl ?_
              refine TL.front 5 rfl rfl ?_
              refine TL.takeN 6 rfl ?_
              refine TL.nil ?_
              refine S.n ?_
              -- leaf 6 next [h5: False; h17: True; h21: True; h25: False; h35: t70=True; h37: False] H=['q16', 'q14', 'q11', 'q8', 'q4', 'q2']
              refine ⟨by repeat (first | exact Agr.mask | refine Agr.upd rfl ?_ | refine Agr.maskIn rfl ?_), (g1 + 1, a22, c23), ?_, ?_, ?_, ?_, ?_⟩
              · show n.edges.length - (g1 + 1) < n.edges.length - g1; omega
              · show g1 + 1 ≤ n.edges.length; omega
              · repeat (first | exact trivial | refine ⟨rfl, ?_⟩)
              · show _ = [Res.cells _ #[.slice _ (starTo n (g1 + 1)).length _] _, Res.rowS _ _ _ (.slice _ (starTo n (g1 + 1)).length _) (starTo n (g1 + 1)), _, _, _, _]
                rw [starTo_tf (by omega) k6 h21 h25]; rfl
              · rfl
          · try simp only [decide_eq_true_eq, decide_eq_false_iff_not, Bool.not_eq_true', Bool.not_eq_false', Bool.not_eq_eq_eq_not, Bool.not_true, Bool.not_false, Int.not_lt, Int.not_le, Decidable.not_not] at h35
            refine TL.goff rfl rfl rfl rfl rfl rfl rfl rfl ?_
            refine TL.goff rfl rfl rfl rfl rfl rfl rfl rfl ?_
            refine TL.goff rfl rfl rfl rfl rfl rfl rfl rfl ?_
            refine TL.goff rfl rfl rfl rfl rfl rfl rfl rfl ?_
            refine TL.goff rfl rfl rfl rfl rfl rfl rfl rfl ?_
            refine TL.v rfl (OpVal.pickFB rfl rfl rfl) rfl rfl ?_
            refine TL.nil ?_
            refine S.n ?_
            refine TC.cond rfl (fun h => Bool.noConfusion h) (fun _ => ?_)
            refine TC.skip ?_
            refine B.n ?_
            refine S.n ?_
            refine TC.region ?_
            refine TL.v rfl (OpVal.succ rfl rfl rfl (by omega)) rfl rfl ?_
            refine TL.v rfl (OpVal.moveI (.inl rfl) rfl) rfl rfl ?_
            refine TL.front 6 rfl rfl ?_
            refine TL.front 6 rfl rfl ?_
            refine TL.front 6 rfl rfl ?_
            refine TL.front 6 rfl rfl ?_
            refine TL.front 5 rfl rfl ?_
            refine TL.front 5 rfl rfl ?_
            refine TL.takeN 6 rfl ?_
            refine TL.nil ?_
            refine S.n ?_
            -- leaf 7 next [h5: False; h17: True; h21: True; h25: False; h35: t70=False] H=['q16', 'q14', 'q11', 'q8', 'q4', 'q2']
            exact absurd (h35.symm.trans h21) Bool.false_ne_true
      · try simp only [decide_eq_true_eq, decide_eq_false_iff_not, Bool.not_eq_true', Bool.not_eq_false', Bool.not_eq_eq_eq_not, Bool.not_true, Bool.not_false, Int.not_lt, Int.not_le, Decidable.not_not] at h21
        refine TC.skip ?_
        refine S.n ?_
        refine TC.seq ?_
        refine TC.seq ?_
        refine TC.region ?_
        refine TL.v rfl (OpVal.moveSl (.inl rfl) rfl) rfl rfl ?_
        refine TL.v rfl (OpVal.fieldLoc rfl fo80_1 rfl) rfl rfl ?_
        refine TL.v rfl (OpVal.loadLoc rfl ag3 rfl (i := 0) rfl rfl) rfl rfl ?_
        refine TL.isSl (i := 3) rfl (fun hs40 _ _ => ?_)
        refine TL.v rfl (OpVal.index rfl Try.underlying47 sz4 rfl rfl (by first | assumption | exact (RS.rv (by assumption)).sl) (by omega) (by omega)) rfl rfl ?_
        refine TL.v rfl (OpVal.loadO1 false rfl ag4 rfl (q := 3) rfl encB_len (by omega) rfl) rfl rfl ?_
        refine TL.nil ?_
        refine S.n ?_
        refine TC.cond rfl (fun h41 => ?_) (fun h41 => ?_)
        · try simp only [decide_eq_true_eq, decide_eq_false_iff_not, Bool.not_eq_true', Bool.not_eq_false', Bool.not_eq_eq_eq_not, Bool.not_true, Bool.not_false, Int.not_lt, Int.not_le, Decidable.not_not] at h41
          refine TC.region ?_
          refine TL.v rfl (OpVal.moveFn (.inl rfl) rfl) rfl rfl ?_
          refine TL.v rfl (OpVal.fieldLoc rfl fo80_0 rfl) rfl rfl ?_
          refine TL.v rfl (OpVal.loadLoc rfl ag3 rfl (i := 0) rfl rfl) rfl rfl ?_
          refine TL.v rfl (OpVal.moveI (.inl rfl) rfl) rfl rfl ?_
          refine TL.v rfl (OpVal.fieldLoc rfl fo80_2 rfl) rfl rfl ?_
          refine TL.v rfl (OpVal.loadLocA rfl ag28 sz28 rfl (i := 0) rfl rfl rfl) rfl rfl ?_
          refine TL.front 2 rfl rfl ?_
          refine TL.front 2 rfl rfl ?_
          refine TL.op rfl (OpOk.callE (edge_con _ _ _ _ _ _ _ (nth n.edges g1 Arrow.zero).set (by (try simp only [List.length_append, List.length_singleton, Nat.add_assoc]); omega)) rfl rfl pf52 rfl rfl rfl rfl (fun a42 c43 => ?_))
          refine TL.nil ?_
          refine S.n ?_
          refine TC.seq ?_
          refine TC.region ?_
          refine TL.v rfl (OpVal.moveSl (.inl rfl) rfl) rfl rfl ?_
          refine TL.v rfl (OpVal.fieldLoc rfl fo80_0 rfl) rfl rfl ?_
          refine TL.v rfl (OpVal.loadLoc rfl ag3 rfl (i := 2) rfl rfl) rfl rfl ?_
          refine TL.isSl (i := 4) rfl (fun hs44 _ _ => ?_)
          refine TL.v rfl (OpVal.index rfl Try.underlying47 sz4 rfl rfl (by first | assumption | exact (RS.rv (by assumption)).sl) (by omega) (by omega)) rfl rfl ?_
          refine TL.v rfl (OpVal.loadO1 false rfl ag4 rfl (q := 4) rfl encB_len (by omega) rfl) rfl rfl ?_
          refine TL.v rfl (OpVal.moveB (.inl rfl) rfl) rfl rfl ?_
          refine TL.split 70 rfl (fun h45 => ?_) (fun h45 => ?_)
          · try simp only [decide_eq_true_eq, decide_eq_false_iff_not, Bool.not_eq_true', Bool.not_eq_false', Bool.not_eq_eq_eq_not, Bool.not_true, Bool.not_false, Int.not_lt, Int.not_le, Decidable.not_not] at h45
            refine TL.gv rfl rfl rfl rfl rfl (OpVal.moveSl (.inl rfl) rfl) rfl rfl ?_
            refine TL.gv rfl rfl rfl rfl rfl (OpVal.fieldLoc rfl fo80_1 rfl) rfl rfl ?_
            refine TL.gv rfl rfl rfl rfl rfl (OpVal.loadLoc rfl ag3 rfl (i := 2) rfl rfl) rfl rfl ?_
            refine TL.isSl (i := 3) rfl (fun hs46 _ _ => ?_)
            refine TL.gv rfl rfl rfl rfl rfl (OpVal.index rfl Try.underlying47 sz4 rfl rfl (by first | assumption | exact (RS.rv (by assumption)).sl) (by omega) (by omega)) rfl rfl ?_
            refine TL.gv rfl rfl rfl rfl rfl (OpVal.loadO1 false rfl ag4 rfl (q := 3) rfl encB_len (by omega) rfl) rfl rfl ?_
            refine TL.v rfl (OpVal.pickTB rfl rfl rfl) rfl rfl ?_
            refine TL.nil ?_
            refine S.n ?_
            refine TC.cond rfl (fun h47 => ?_) (fun h47 => ?_)
            · try simp only [decide_eq_true_eq, decide_eq_false_iff_not, Bool.not_eq_true', Bool.not_eq_false', Bool.not_eq_eq_eq_not, Bool.not_true, Bool.not_false, Int.not_lt, Int.not_le, Decidable.not_not] at h47
              refine TC.region ?_
              refine TL.v rfl (OpVal.moveFn (.inl rfl) rfl) rfl rfl ?_
              refine TL.v rfl (OpVal.moveI (.inl rfl) rfl) rfl rfl ?_
              refine TL.v rfl (OpVal.moveI (.inl rfl) rfl) rfl rfl ?_
              refine TL.v rfl (OpVal.fieldLoc rfl fo80_2 rfl) rfl rfl ?_
              refine TL.v rfl (OpVal.loadLocA rfl ag28 sz28 rfl (i := 2) rfl rfl rfl) rfl rfl ?_
              refine TL.front 1 rfl rfl ?_
              refine TL.front 1 rfl rfl ?_
              refine TL.op rfl (OpOk.callE (edge_con _ _ _ _ _ _ _ (nth n.edges g1 Arrow.zero).set (by (try simp only [List.length_append, List.length_singleton, Nat.add_assoc]); omega)) rfl rfl pf52 rfl rfl rfl rfl (fun a48 c49 => ?_))
              refine TL.nil ?_
              refine B.n ?_
              refine S.n ?_
              refine TC.region ?_
              refine TL.v rfl (OpVal.succ rfl rfl rfl (by omega)) rfl rfl ?_
              refine TL.v rfl (OpVal.moveI (.inl rfl) rfl) rfl rfl ?_
              refine TL.front 6 rfl rfl ?_
              refine TL.front 6 rfl rfl ?_
              refine TL.front 6 rfl rfl ?_
              refine TL.front 6 rfl rfl ?_
              refine TL.front 5 rfl rfl ?_
              refine TL.front 5 rfl rfl ?_
              refine TL.takeN 6 rfl ?_
              refine TL.nil ?_
              refine S.n ?_
              -- leaf 8 next [h5: False; h17: True; h21: False; h41: True; h45: t70=True; h47: True] H=['q16', 'q14', 'q11', 'q8', 'q4', 'q2']
              exact absurd (h21.symm.trans h45) Bool.false_ne_true
            · try simp only [decide_eq_true_eq, decide_eq_false_iff_not, Bool.not_eq_true', Bool.not_eq_false', Bool.not_eq_eq_eq_not, Bool.not_true, Bool.not_false, Int.not_lt, Int.not_le, Decidable.not_not] at h47
              refine TC.skip ?_
              refine B.n ?_
              refine S.n ?_
              refine TC.region ?_
              refine TL.v rfl (OpVal.succ rfl rfl rfl (by omega)) rfl rfl ?_
              refine TL.v rfl (OpVal.moveI (.inl rfl) rfl) rfl rfl ?_
              refine TL.front 6 rfl rfl ?_
              refine TL.front 6 rfl rfl ?_
              refine TL.front 6 rfl rfl ?_
              refine TL.front 6 rfl rfl ?_
              refine TL.front 5 rfl rfl ?_
              refine TL.front 5 rfl rfl ?_
              refine TL.takeN 6 rfl ?_
              refine TL.nil ?_
              refine S.n ?_
              -- leaf 9 next [h5: False; h17: True; h21: False; h41: True; h45: t70=True; h47: False] H=['q16', 'q14', 'q11', 'q8', 'q4', 'q2']
              exact absurd (h21.symm.trans h45) Bool.false_ne_true
          · try simp only [decide_eq_true_eq, decide_eq_false_iff_not, Bool.not_eq_true', Bool.not_eq_false', Bool.not_eq_eq_eq_not, Bool.not_true, Bool.not_false, Int.not_lt, Int.not_le, Decidable.not_not] at h45
            refine TL.goff rfl rfl rfl rfl rfl rfl rfl rfl ?_
            refine TL.goff rfl rfl rfl rfl rfl rfl rfl rfl ?_
            refine TL.goff rfl rfl rfl rfl rfl rfl rfl rfl ?_
            refine TL.goff rfl rfl rfl rfl rfl rfl rfl rfl ?_
            refine TL.goff rfl rfl rfl rfl rfl rfl rfl rfl ?_
            refine TL.v rfl (OpVal.pickFB rfl rfl rfl) rfl rfl ?_
            refine TL.nil ?_
            refine S.n ?_
            refine TC.cond rfl (fun h => Bool.noConfusion h) (fun _ => ?_)
            refine TC.skip ?_
            refine B.n ?_
            refine S.n ?_
            refine TC.region ?_
            refine TL.v rfl (OpVal.succ rfl rfl rfl (by omega)) rfl rfl ?_
            refine TL.v rfl (OpVal.moveI (.inl rfl) rfl) rfl rfl ?_
            refine TL.front 6 rfl rfl ?_
            refine TL.front 6 rfl rfl ?_
            refine TL.front 6 rfl rfl ?_
            refine TL.front 6 rfl rfl ?_
            refine TL.front 5 rfl rfl ?_
            refine TL.front 5 rfl rfl ?_
            refine TL.takeN 6 rfl ?_
            refine TL.nil ?_
            refine S.n ?_
            -- leaf 10 next [h5: False; h17: True; h21: False; h41: True; h45: t70=False] H=['q16', 'q14', 'q11', 'q8', 'q4', 'q2']
            refine ⟨by repeat (first | exact Agr.mask | refine Agr.upd rfl ?_ | refine Agr.maskIn rfl ?_), (g1 + 1, a42, c43), ?_, ?_, ?_, ?_, ?_⟩
            · show n.edges.length - (g1 + 1) < n.edges.length - g1; omega
            · show g1 + 1 ≤ n.edges.length; omega
            · repeat (first | exact trivial | refine ⟨rfl, ?_⟩)
            · show _ = [Res.cells _ #[.slice _ (starTo n (g1 + 1)).length _] _, Res.rowS _ _ _ (.slice _ (starTo n (g1 + 1)).length _) (starTo n (g1 + 1)), _, _, _, _]
              rw [starTo_ft (by omega) k6 h21 h41]; rfl
            · rfl
        · try simp only [decide_eq_true_eq, decide_eq_false_iff_not, Bool.not_eq_true', Bool.not_eq_false', Bool.not_eq_eq_eq_not, Bool.not_true, Bool.not_false, Int.not_lt, Int.not_le, Decidable.not_not] at h41
          refine TC.skip ?_
          refine S.n ?_
          refine TC.seq ?_
          refine TC.region ?_
          refine TL.v rfl (OpVal.moveSl (.inl rfl) rfl) rfl rfl ?_
          refine TL.v rfl (OpVal.fieldLoc rfl fo80_0 rfl) rfl rfl ?_
          refine TL.v rfl (OpVal.loadLoc rfl ag3 rfl (i := 0) rfl rfl) rfl rfl ?_
          refine TL.isSl (i := 4) rfl (fun hs50 _ _ => ?_)
          refine TL.v rfl (OpVal.index rfl Try.underlying47 sz4 rfl rfl (by first | assumption | exact (RS.rv (by assumption)).sl) (by omega) (by omega)) rfl rfl ?_
          refine TL.v rfl (OpVal.loadO1 false rfl ag4 rfl (q := 4) rfl encB_len (by omega) rfl) rfl rfl ?_
          refine TL.v rfl (OpVal.moveB (.inl rfl) rfl) rfl rfl ?_
          refine TL.split 70 rfl (fun h51 => ?_) (fun h51 => ?_)
          · try simp only [decide_eq_true_eq, decide_eq_false_iff_not, Bool.not_eq_true', Bool.not_eq_false', Bool.not_eq_eq_eq_not, Bool.not_true, Bool.not_false, Int.not_lt, Int.not_le, Decidable.not_not] at h51
            refine TL.gv rfl rfl rfl rfl rfl (OpVal.moveSl (.inl rfl) rfl) rfl rfl ?_
            refine TL.gv rfl rfl rfl rfl rfl (OpVal.fieldLoc rfl fo80_1 rfl) rfl rfl ?_
            refine TL.gv rfl rfl rfl rfl rfl (OpVal.loadLoc rfl ag3 rfl (i := 0) rfl rfl) rfl rfl ?_
            refine TL.isSl (i := 3) rfl (fun hs52 _ _ => ?_)
            refine TL.gv rfl rfl rfl rfl rfl (OpVal.index rfl Try.underlying47 sz4 rfl rfl (by first | assumption | exact (RS.rv (by assumption)).sl) (by omega) (by omega)) rfl rfl ?_
            refine TL.gv rfl rfl rfl rfl rfl (OpVal.loadO1 false rfl ag4 rfl (q := 3) rfl encB_len (by omega) rfl) rfl rfl ?_
            refine TL.v rfl (OpVal.pickTB rfl rfl rfl) rfl rfl ?_
            refine TL.nil ?_
            refine S.n ?_
            refine TC.cond rfl (fun h53 => ?_) (fun h53 => ?_)
            · try simp only [decide_eq_true_eq, decide_eq_false_iff_not, Bool.not_eq_true', Bool.not_eq_false', Bool.not_eq_eq_eq_not, Bool.not_true, Bool.not_false, Int.not_lt, Int.not_le, Decidable.not_not] at h53
              refine TC.region ?_
              refine TL.v rfl (OpVal.moveFn (.inl rfl) rfl) rfl rfl ?_
              refine TL.v rfl (OpVal.moveI (.inl rfl) rfl) rfl rfl ?_
              refine TL.v rfl (OpVal.moveI (.inl rfl) rfl) rfl rfl ?_
              refine TL.v rfl (OpVal.fieldLoc rfl fo80_2 rfl) rfl rfl ?_
              refine TL.v rfl (OpVal.loadLocA rfl ag28 sz28 rfl (i := 0) rfl rfl rfl) rfl rfl ?_
              refine TL.front 2 rfl rfl ?_
              refine TL.front 2 rfl rfl ?_
              refine TL.op rfl (OpOk.callE (edge_con _ _ _ _ _ _ _ (nth n.edges g1 Arrow.zero).set (by (try simp only [List.length_append, List.length_singleton, Nat.add_assoc]); omega)) rfl rfl pf52 rfl rfl rfl rfl (fun a54 c55 => ?_))
              refine TL.nil ?_
              refine B.n ?_
              refine S.n ?_
              refine TC.region ?_
              refine TL.v rfl (OpVal.succ rfl rfl rfl (by omega)) rfl rfl ?_
              refine TL.v rfl (OpVal.moveI (.inl rfl) rfl) rfl rfl ?_
              refine TL.front 6 rfl rfl ?_
              refine TL.front 6 rfl rfl ?_
              refine TL.front 6 rfl rfl ?_
              refine TL.front 6 rfl rfl ?_
              refine TL.front 5 rfl rfl ?_
              refine TL.front 5 rfl rfl ?_
              refine TL.takeN 6 rfl ?_
              refine TL.nil ?_
              refine S.n ?_
              -- leaf 11 next [h5: False; h17: True; h21: False; h41: False; h51: t70=True; h53: True] H=['q16', 'q14', 'q11', 'q8', 'q4', 'q2']
              exact absurd (h21.symm.trans h51) Bool.false_ne_true
            · try simp only [decide_eq_true_eq, decide_eq_false_iff_not, Bool.not_eq_true', Bool.not_eq_false', Bool.not_eq_eq_eq_not, Bool.not_true, Bool.not_false, Int.not_lt, Int.not_le, Decidable.not_not] at h53
              refine TC.skip ?_
              refine B.n ?_
              refine S.n ?_
              refine TC.region ?_
              refine TL.v rfl (OpVal.succ rfl rfl rfl (by omega)) rfl rfl ?_
              refine TL.v rfl (OpVal.moveI (.inl rfl) rfl) rfl rfl ?_
              refine TL.dropN 1 rfl ?_
              refine TL.nil ?_
              refine S.n ?_
              -- leaf 12 next [h5: False; h17: True; h21: False; h41: False; h51: t70=True; h53: False] H=['q16', 'q14', 'q11', 'q8', 'q4', 'q2']
              exact absurd (h21.symm.trans h51) Bool.false_ne_true
          · try simp only [decide_eq_true_eq, decide_eq_false_iff_not, Bool.not_eq_true', Bool.not_eq_false', Bool.not_eq_eq_eq_not, Bool.not_true, Bool.not_false, Int.not_lt, Int.not_le, Decidable.not_not] at h51
            refine TL.goff rfl rfl rfl rfl rfl rfl rfl rfl ?_
            refine TL.goff rfl rfl rfl rfl rfl rfl rfl rfl ?_
            refine TL.goff rfl rfl rfl rfl rfl rfl rfl rfl ?_
            refine TL.goff rfl rfl rfl rfl rfl rfl rfl rfl ?_
            refine TL.goff rfl rfl rfl rfl rfl rfl rfl rfl ?_
            refine TL.v rfl (OpVal.pickFB rfl rfl rfl) rfl rfl ?_
            refine TL.nil ?_
            refine S.n ?_
            refine TC.cond rfl (fun h => Bool.noConfusion h) (fun _ => ?_)
            refine TC.skip ?_
            refine B.n ?_
            refine S.n ?_
            refine TC.region ?_
            refine TL.v rfl (OpVal.succ rfl rfl rfl (by omega)) rfl rfl ?_
            refine TL.v rfl (OpVal.moveI (.inl rfl) rfl) rfl rfl ?_
            refine TL.dropN 1 rfl ?_
            refine TL.nil ?_
            refine S.n ?_
            -- leaf 13 next [h5: False; h17: True; h21: False; h41: False; h51: t70=False] H=['q16', 'q14', 'q11', 'q8', 'q4', 'q2']
            refine ⟨by repeat (first | exact Agr.mask | refine Agr.upd rfl ?_ | refine Agr.maskIn rfl ?_), (g1 + 1, ga, gc), ?_, ?_, ?_, ?_, ?_⟩
            · show n.edges.length - (g1 + 1) < n.edges.length - g1; omega
            · show g1 + 1 ≤ n.edges.length; omega
            · repeat (first | exact trivial | refine ⟨rfl, ?_⟩)
            · show _ = [Res.cells _ #[.slice _ (starTo n (g1 + 1)).length _] _, Res.rowS _ _ _ (.slice _ (starTo n (g1 + 1)).length _) (starTo n (g1 + 1)), _, _, _, _]
              rw [starTo_ff (by omega) k6 h21 h41]; rfl
            · rfl
    · try simp only [decide_eq_true_eq, decide_eq_false_iff_not, Bool.not_eq_true', Bool.not_eq_false', Bool.not_eq_eq_eq_not, Bool.not_true, Bool.not_false, Int.not_lt, Int.not_le, Decidable.not_not] at h17
      refine TC.exit ?_
      refine S.x ?_
      refine S.x ?_
      refine TC.exitHere ?_
      refine S.n ?_
      refine TC.seq ?_
      refine TC.seq ?_
      refine TC.region ?_
      refine TL.v rfl (OpVal.moveI (.inl rfl) rfl) rfl rfl ?_
      refine TL.v rfl (OpVal.add rfl rfl rfl (by omega) (by omega)) rfl rfl ?_
      refine TL.v rfl (OpVal.moveLoc (.inl rfl) rfl) rfl rfl ?_
      refine TL.v rfl (OpVal.nilCheckLoc rfl rfl) rfl rfl ?_
      refine TL.v rfl (OpVal.fieldLoc rfl fo74_0 rfl) rfl rfl ?_
      refine TL.v rfl (OpVal.loadLoc rfl ag23 rfl (i := 0) rfl rfl) rfl rfl ?_
      refine TL.v rfl (OpVal.lenC rfl Try.underlying23 rfl) rfl rfl ?_
      refine TL.op rfl (OpOk.callP (fits_con _ _ _) rfl rfl pf61 rfl rfl rfl ?_)
      refine TL.v rfl (OpVal.not rfl rfl) rfl rfl ?_
      refine TL.nil ?_
      refine S.n ?_
      refine TC.cond rfl (fun h56 => ?_) (fun h56 => ?_)
      · try simp only [decide_eq_true_eq, decide_eq_false_iff_not, Bool.not_eq_true', Bool.not_eq_false', Bool.not_eq_eq_eq_not, Bool.not_true, Bool.not_false, Int.not_lt, Int.not_le, Decidable.not_not] at h56
        refine TC.seq ?_
        refine TC.region ?_
        refine TL.v rfl (OpVal.buildL rfl pl25 ze25 rfl) rfl rfl ?_
        refine TL.front 4 rfl rfl ?_
        refine TL.op rfl (OpOk.storeAll rfl sz25 rfl rfl rfl rfl rfl rfl ?_)
        refine TL.v rfl (OpVal.moveI (.inr rfl) rfl) rfl rfl ?_
        refine TL.nil ?_
        refine S.n ?_
        refine TC.front 2 rfl rfl ?_
        refine TC.sealS encE_len (fun τ59 hle58 hr57 => ?_)
        refine TC.front 2 rfl rfl ?_
        refine TC.sealS encB_len (fun τ62 hle61 hr60 => ?_)
        replace hr57 := hr57.mono hle61
        refine TC.front 2 rfl rfl ?_
        refine TC.sealS encB_len (fun τ65 hle64 hr63 => ?_)
        replace hr57 := hr57.mono hle64
        replace hr60 := hr60.mono hle64
        refine TC.ret ?_
        refine S.r ?_
        -- leaf 14 ret [h5: False; h17: False; h56: True] H=['q4', 'q16', 'q2']
        obtain rfl : g1 = n.edges.length := by omega
        have hf : ¬ starF n = true := by rw [show starF n = false from h56]; exact Bool.false_ne_true
        simp only [starR, starX, if_pos hc, if_neg hf]
        exact retNfa (p := NfaP.zero) 0 rfl ag25 sz25 rfl rfl rfl rfl (RNfa.zero _)
      · try simp only [decide_eq_true_eq, decide_eq_false_iff_not, Bool.not_eq_true', Bool.not_eq_false', Bool.not_eq_eq_eq_not, Bool.not_true, Bool.not_false, Int.not_lt, Int.not_le, Decidable.not_not] at h56
        refine TC.skip ?_
        refine S.n ?_
        refine TC.seq ?_
        refine TC.region ?_
        refine TL.v rfl (OpVal.moveI (.inl rfl) rfl) rfl rfl ?_
        refine TL.v rfl (OpVal.add rfl rfl rfl (by omega) (by omega)) rfl rfl ?_
        refine TL.v rfl (OpVal.moveI (.inl rfl) rfl) rfl rfl ?_
        refine TL.op rfl (OpOk.lit (enc := encI) [_] rfl Try.underlying22 sz3 ze3 rfl rfl rfl encI_len (by decide) (by decide) (0 : Int) rfl (by decide) rfl (by decide) encI_one (fun a66 c67 => ?_))
        refine TL.v rfl (OpVal.moveI (.inl rfl) rfl) rfl rfl ?_
        refine TL.op rfl (OpOk.lit (enc := encI) [_] rfl Try.underlying22 sz3 ze3 rfl rfl rfl encI_len (by decide) (by decide) (0 : Int) rfl (by decide) rfl (by decide) encI_one (fun a69 c70 => ?_))
        refine TL.v rfl (OpVal.moveLoc (.inl rfl) rfl) rfl rfl ?_
        refine TL.v rfl (OpVal.nilCheckLoc rfl rfl) rfl rfl ?_
        refine TL.v rfl (OpVal.fieldLoc rfl fo74_0 rfl) rfl rfl ?_
        refine TL.v rfl (OpVal.loadLoc rfl ag23 rfl (i := 2) rfl rfl) rfl rfl ?_
        refine TL.v rfl (OpVal.buildL rfl pl25 ze25 rfl) rfl rfl ?_
        refine TL.front 6 rfl rfl ?_
        refine TL.op rfl (OpOk.storeAll rfl sz25 rfl rfl rfl rfl rfl rfl ?_)
        refine TL.v rfl (OpVal.moveI (.inr rfl) rfl) rfl rfl ?_
        refine TL.nil ?_
        refine S.n ?_
        refine TC.front 1 rfl rfl ?_
        refine TC.sealS encI_len (fun τ74 hle73 hr72 => ?_)
        refine TC.front 1 rfl rfl ?_
        refine TC.sealS encI_len (fun τ77 hle76 hr75 => ?_)
        replace hr72 := hr72.mono hle76
        refine TC.front 2 rfl rfl ?_
        refine TC.sealS encE_len (fun τ80 hle79 hr78 => ?_)
        replace hr72 := hr72.mono hle79
        replace hr75 := hr75.mono hle79
        refine TC.front 2 rfl rfl ?_
        refine TC.sealS encB_len (fun τ83 hle82 hr81 => ?_)
        replace hr72 := hr72.mono hle82
        replace hr75 := hr75.mono hle82
        replace hr78 := hr78.mono hle82
        refine TC.front 2 rfl rfl ?_
        refine TC.sealS encB_len (fun τ86 hle85 hr84 => ?_)
        replace hr72 := hr72.mono hle85
        replace hr75 := hr75.mono hle85
        replace hr78 := hr78.mono hle85
        replace hr81 := hr81.mono hle85
        refine TC.ret ?_
        -- leaf 15 ret [h5: False; h17: False; h56: False] H=['q4', 'q16', 'q2']
        obtain rfl : g1 = n.edges.length := by omega
        have hf : starF n = true := h56
        simp only [starR, starX, if_pos hc, if_pos hf]
        exact retNfa (p := ⟨a66, c67, a69, c70, ga, gc⟩) 0 rfl ag25 sz25 rfl rfl rfl rfl ⟨hr75, hr72, hr78, starTo_ok hn.ok _⟩

end Go.Proofs.Ytcidppnlhhkhhaa
