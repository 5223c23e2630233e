/- Contracts of package nfa, part four: joined and repeated. -/
import Derived.Test.YtcidppnlhhkhhaaNfa3
set_option linter.unusedVariables false
set_option linter.unusedSimpArgs false
namespace Go.Proofs.Ytcidppnlhhkhhaa
open Go Go.E
set_option maxRecDepth 100000

theorem indexf_con (σ : Store) (a : Option Addr) (c : Nat) (l : List Int) (hl : RS σ 1 encI (.slice a l.length c) l) (H1 : List Res) (g : Nat) (hg : plainF Try.prog g = true) (cap : List Value) (p : Int → Bool)
    (hc : ∀ x ∈ l, Con Try.prog g ([Value.int .i64 x] ++ cap).toArray σ H1 (KeepP (.bool (p x)) σ H1)) :
    Con Try.prog 92 #[.slice a l.length c, .func (.func g) #[] cap.toArray] σ H1 (KeepP (.int .i64 (if l.any p then ((l.findIdx p : Nat) : Int) else -1)) σ H1) := by
  have hb := hl.rv.big
  refine Con.mk (n := 19) Try.func92 rfl rfl rfl (fun w0 => ?_)
  refine TC.seq ?_
  refine TC.region ?_
  refine TL.v rfl (OpVal.moveI (.inr rfl) rfl) rfl rfl ?_
  refine TL.nil ?_
  refine S.n ?_
  refine TC.seq ?_
  refine TC.seq ?_
  refine TC.region ?_
  refine TL.v rfl (OpVal.moveSl (.inl rfl) rfl) rfl rfl ?_
  refine TL.v rfl (OpVal.lenC rfl Try.underlying22 rfl) rfl rfl ?_
  refine TL.v rfl (OpVal.moveI (.inl rfl) rfl) rfl rfl ?_
  refine TL.nil ?_
  refine S.n ?_
  refine TC.block ?_
  refine TC.loopF (α := Nat) [4, 5, 8, 9, 10, 11, 12, 13, 14, 15, 16, 17, 18] (fun k => [(8, .int .i64 (k : Nat))]) (fun _ => _) (fun _ => _) (fun k => k ≤ l.length ∧ ∀ i, i < k → p (nth l i 0) = false) (fun k => l.length - k) (0) (by first | exact True.intro | omega | (dsimp only; omega) | (simp; done) | (simp; omega)) (by repeat (first | exact trivial | refine ⟨rfl, ?_⟩)) (by rfl) (by rfl) (fun g1 j1 hg1 => ?_)
  obtain ⟨hk, hi⟩ := hg1
  refine TC.seq ?_
  refine TC.region ?_
  refine TL.v rfl (OpVal.lss rfl rfl rfl) rfl rfl ?_
  refine TL.nil ?_
  refine S.n ?_
  refine TC.seq ?_
  refine TC.condD rfl (fun h1 => ?_) (fun h1 => ?_)
  · try simp only [decide_eq_true_eq, decide_eq_false_iff_not, Bool.not_eq_true', Bool.not_eq_false', Bool.not_eq_eq_eq_not, Bool.not_true, Bool.not_false, Int.not_lt, Int.not_le, Decidable.not_not] at h1
    refine TC.skip ?_
    refine S.n ?_
    refine TC.seq ?_
    refine TC.block ?_
    refine TC.seq ?_
    refine TC.region ?_
    refine TL.v rfl (OpVal.moveI (.inl rfl) rfl) rfl rfl ?_
    refine TL.v rfl (OpVal.moveI (.inr rfl) rfl) rfl rfl ?_
    refine TL.nil ?_
    refine S.n ?_
    refine TC.seq ?_
    refine TC.region ?_
    refine TL.v rfl (OpVal.moveFn (.inl rfl) rfl) rfl rfl ?_
    refine TL.v rfl (OpVal.moveSl (.inl rfl) rfl) rfl rfl ?_
    refine TL.v rfl (OpVal.moveI (.inl rfl) rfl) rfl rfl ?_
    refine TL.v rfl (OpVal.indexN rfl Try.underlying22 sz3 rfl rfl (by first | assumption | exact (RS.rv (by assumption)).sl) (by omega)) rfl rfl ?_
    refine TL.v rfl (OpVal.loadS1 (0 : Int) rfl ag3 rfl (by assumption) (by omega) rfl) rfl rfl ?_
    refine TL.op rfl (OpOk.callK0 (hc (nth l g1 0) (nth_mem (by omega) 0)) rfl rfl hg rfl rfl rfl ?_)
    refine TL.nil ?_
    refine S.n ?_
    refine TC.cond rfl (fun h2 => ?_) (fun h2 => ?_)
    · try simp only [decide_eq_true_eq, decide_eq_false_iff_not, Bool.not_eq_true', Bool.not_eq_false', Bool.not_eq_eq_eq_not, Bool.not_true, Bool.not_false, Int.not_lt, Int.not_le, Decidable.not_not] at h2
      refine TC.seq ?_
      refine TC.region ?_
      refine TL.v rfl (OpVal.moveI (.inl rfl) rfl) rfl rfl ?_
      refine TL.v rfl (OpVal.moveI (.inr rfl) rfl) rfl rfl ?_
      refine TL.nil ?_
      refine S.n ?_
      refine TC.ret ?_
      refine B.r ?_
      refine S.r ?_
      refine S.r ?_
      refine B.r ?_
      refine S.r ?_
      -- leaf 1 ret [h1: True; h2: True] H=[]
      refine ret1K rfl (congrArg (Value.int _) ?_)
      exact (findI_yes (k := g1) (by omega) hi h2).symm
    · try simp only [decide_eq_true_eq, decide_eq_false_iff_not, Bool.not_eq_true', Bool.not_eq_false', Bool.not_eq_eq_eq_not, Bool.not_true, Bool.not_false, Int.not_lt, Int.not_le, Decidable.not_not] at h2
      refine TC.skip ?_
      refine B.n ?_
      refine S.n ?_
      refine TC.region ?_
      refine TL.v rfl (OpVal.succ rfl rfl rfl (by omega)) rfl rfl ?_
      refine TL.v rfl (OpVal.moveI (.inl rfl) rfl) rfl rfl ?_
      refine TL.nil ?_
      refine S.n ?_
      -- leaf 2 next [h1: True; h2: False] H=[]
      refine ⟨by repeat (first | exact Agr.mask | refine Agr.upd rfl ?_ | refine Agr.maskIn rfl ?_), g1 + 1, ?_, ?_, ?_, ?_, ?_⟩
      · omega
      · exact ⟨by omega, fun j hj => by rcases Nat.lt_succ_iff_lt_or_eq.1 hj with h | rfl; exact hi j h; exact h2⟩
      · repeat (first | exact trivial | refine ⟨rfl, ?_⟩)
      · rfl
      · rfl
  · try simp only [decide_eq_true_eq, decide_eq_false_iff_not, Bool.not_eq_true', Bool.not_eq_false', Bool.not_eq_eq_eq_not, Bool.not_true, Bool.not_false, Int.not_lt, Int.not_le, Decidable.not_not] at h1
    refine TC.exit ?_
    refine S.x ?_
    refine S.x ?_
    refine TC.exitHere ?_
    refine S.n ?_
    refine TC.seq ?_
    refine TC.region ?_
    refine TL.v rfl (OpVal.moveI (.inr rfl) rfl) rfl rfl ?_
    refine TL.nil ?_
    refine S.n ?_
    refine TC.ret ?_
    -- leaf 3 ret [h1: False] H=[]
    refine ret1K rfl (congrArg (Value.int _) ?_)
    exact (findI_no (fun j hj => hi j (by omega))).symm

theorem containsf_con (σ : Store) (a : Option Addr) (c : Nat) (l : List Int) (hl : RS σ 1 encI (.slice a l.length c) l) (H1 : List Res) (g : Nat) (hg : plainF Try.prog g = true) (cap : List Value) (p : Int → Bool)
    (hc : ∀ x ∈ l, Con Try.prog g ([Value.int .i64 x] ++ cap).toArray σ H1 (KeepP (.bool (p x)) σ H1)) :
    Con Try.prog 85 #[.slice a l.length c, .func (.func g) #[] cap.toArray] σ H1 (KeepP (.bool (l.any p)) σ H1) := by
  refine Con.mk (n := 9) Try.func85 rfl rfl rfl (fun w0 => ?_)
  refine TC.seq ?_
  refine TC.region ?_
  refine TL.v rfl (OpVal.moveB (.inr rfl) rfl) rfl rfl ?_
  refine TL.nil ?_
  refine S.n ?_
  refine TC.seq ?_
  refine TC.region ?_
  refine TL.v rfl (OpVal.moveSl (.inl rfl) rfl) rfl rfl ?_
  refine TL.v rfl (OpVal.moveFn (.inl rfl) rfl) rfl rfl ?_
  refine TL.op rfl (OpOk.callK0 (indexf_con _ _ _ l hl _ g hg cap p hc) rfl rfl pf92 rfl rfl rfl ?_)
  refine TL.v rfl (OpVal.geq rfl rfl rfl) rfl rfl ?_
  refine TL.v rfl (OpVal.moveB (.inr rfl) rfl) rfl rfl ?_
  refine TL.nil ?_
  refine S.n ?_
  refine TC.ret ?_
  -- leaf 1 ret [] H=[]
  refine ret1K rfl (congrArg Value.bool ?_)
  by_cases h : l.any p = true
  · simp [h] <;> omega
  · simp [h]

theorem lam_con (σ : Store) (b n c : Nat) (a : Option Addr) (m : List Bool) (s : Int) (h0 : 0 ≤ s) (h1 : s < m.length) (hn : m.length = n) :
    Con Try.prog 86 #[.int .i64 s, loc b 0] σ [Res.cells b #[.slice a n c] 47, Res.rowS 4 1 encB (.slice a n c) m] (KeepP (.bool (nth m s.toNat false)) σ [Res.cells b #[.slice a n c] 47, Res.rowS 4 1 encB (.slice a n c) m]) := by
  refine Con.mk (n := 8) Try.func86 rfl rfl rfl (fun w0 => ?_)
  refine TC.seq ?_
  refine TC.region ?_
  refine TL.v rfl (OpVal.moveB (.inr rfl) rfl) rfl rfl ?_
  refine TL.nil ?_
  refine S.n ?_
  refine TC.seq ?_
  refine TC.region ?_
  refine TL.v rfl (OpVal.loadLoc rfl ag47 rfl (i := 0) rfl rfl) rfl rfl ?_
  refine TL.v rfl (OpVal.moveI (.inl rfl) rfl) rfl rfl ?_
  refine TL.isSl (i := 1) rfl (fun hs1 _ _ => ?_)
  refine TL.v rfl (OpVal.index rfl Try.underlying47 sz4 rfl rfl (by first | assumption | exact (RS.rv (by assumption)).sl) (by omega) (by omega)) rfl rfl ?_
  refine TL.v rfl (OpVal.loadO1 false rfl ag4 rfl (q := 1) rfl encB_len (by omega) rfl) rfl rfl ?_
  refine TL.v rfl (OpVal.moveB (.inr rfl) rfl) rfl rfl ?_
  refine TL.nil ?_
  refine S.n ?_
  refine TC.ret ?_
  -- leaf 1 ret [] H=['q0', 'r0']
  exact ret1K rfl rfl

def lamH (b c : Nat) (a : Option Addr) (n : Nfa) : List Res := [Res.cells b #[.slice a (marksL n.ends n.states.toNat).length c] 47, Res.rowS 4 1 encB (.slice a (marksL n.ends n.states.toNat).length c) (marksL n.ends n.states.toNat)]
theorem lam_any (σ : Store) (b c : Nat) (a : Option Addr) (n : Nfa) (x : Int) (h0 : 0 ≤ x) (h1 : x < n.states) :
    Con Try.prog 86 ([Value.int .i64 x] ++ [loc b 0]).toArray σ (lamH b c a n) (KeepP (.bool (n.ends.contains x)) σ (lamH b c a n)) := by
  have := lam_con σ b _ c a (marksL n.ends n.states.toNat) x h0 (by rw [marksL_len]; omega) rfl
  rw [marksL_get (by omega), Int.toNat_of_nonneg h0] at this
  exact this

theorem nempty_con (σ : Store) (n : Nfa) (p : NfaP) (hn : RNfa σ n p) (hc : checkB n = true) : Con Try.prog 65 #[nfaV n p] σ [] (PureP (.bool (emptyB n)) σ) := by
  obtain ⟨k1, k2, k3, k4, k5, k6⟩ := checkB_spec hc
  refine Con.mk (n := 13) Try.func65 rfl rfl rfl (fun w0 => ?_)
  refine TC.seq ?_
  refine TC.region ?_
  refine TL.op rfl (OpOk.boxA rfl rfl rfl rfl (fun b1 => ?_))
  refine TL.v rfl (OpVal.moveB (.inr rfl) rfl) rfl rfl ?_
  refine TL.nil ?_
  refine S.n ?_
  refine TC.seq ?_
  refine TC.region ?_
  refine TL.v rfl (OpVal.fieldLoc rfl fo25_2 rfl) rfl rfl ?_
  refine TL.v rfl (OpVal.loadLoc rfl ag22 rfl (i := 0) rfl rfl) rfl rfl ?_
  refine TL.v rfl (OpVal.fieldLoc rfl fo25_0 rfl) rfl rfl ?_
  refine TL.v rfl (OpVal.loadLoc rfl ag3 rfl (i := 0) rfl rfl) rfl rfl ?_
  refine TL.op rfl (OpOk.callR (marks_con _ _ _ _ _ hn.e k1 k2 k5) rfl rfl pf60 rfl rfl rfl (fun a3 c4 => ?_))
  refine TL.op rfl (OpOk.alloc rfl ze47 rfl rfl (fun b6 => ?_))
  refine TL.op rfl (OpOk.storeSl rfl sz47 rfl rfl rfl rfl rfl ?_)
  refine TL.nil ?_
  refine S.n ?_
  refine TC.seq ?_
  refine TC.region ?_
  refine TL.v rfl (OpVal.fieldLoc rfl fo25_1 rfl) rfl rfl ?_
  refine TL.v rfl (OpVal.loadLoc rfl ag22 rfl (i := 2) rfl rfl) rfl rfl ?_
  refine TL.v rfl (OpVal.makeFn rfl) rfl rfl ?_
  refine TL.front 1 rfl rfl ?_
  refine TL.front 1 rfl rfl ?_
  refine TL.op rfl (OpOk.callK (containsf_con _ _ _ _ hn.s (lamH b6 c4 a3 n) 86 pf86 [loc b6 0] (fun s => n.ends.contains s) (fun x hx => lam_any _ _ _ _ n x (k4 x hx).1 (k4 x hx).2)) rfl rfl pf85 rfl rfl rfl rfl ?_)
  refine TL.v rfl (OpVal.moveB (.inr rfl) rfl) rfl rfl ?_
  refine TL.nil ?_
  refine S.n ?_
  refine TC.ret ?_
  -- leaf 1 ret [] H=['q7', 'q5', 'q2']
  refine ret1P rfl (congrArg Value.bool ?_)
  rfl

theorem both_con (σ : Store) (x y : Nfa) (p q : NfaP) (hx : RNfa σ x p) (hy : RNfa σ y q) (hst : 0 ≤ x.states ∧ x.states ≤ 1000000) (hs : ∀ u ∈ y.edges, 0 ≤ u.frm ∧ u.frm ≤ 1000000 ∧ 0 ≤ u.to ∧ u.to ≤ 1000000) (hl1 : x.edges.length ≤ 100000000) (hl2 : y.edges.length ≤ 100000000) :
    Con Try.prog 62 #[nfaV x p, nfaV y q] σ [] (MakerP 74 80 (x.edges ++ shiftE y.edges x.states) σ) := by
  have hd := hy.d
  refine Con.mk (n := 36) Try.func62 rfl rfl rfl (fun w0 => ?_)
  refine TC.seq ?_
  refine TC.region ?_
  refine TL.op rfl (OpOk.boxA rfl rfl rfl rfl (fun b1 => ?_))
  refine TL.op rfl (OpOk.boxA rfl rfl rfl rfl (fun b3 => ?_))
  refine TL.v rfl (OpVal.movePtr (.inr rfl) rfl) rfl rfl ?_
  refine TL.nil ?_
  refine S.n ?_
  refine TC.seq ?_
  refine TC.region ?_
  refine TL.v rfl (OpVal.fieldLoc rfl fo25_3 rfl) rfl rfl ?_
  refine TL.v rfl (OpVal.loadLoc rfl ag23 rfl (i := 1) rfl rfl) rfl rfl ?_
  refine TL.op rfl (OpOk.callR (clonee_con _ _ _ _ hx.d (by omega)) rfl rfl pf72 rfl rfl rfl (fun a5 c6 => ?_))
  refine TL.v rfl (OpVal.buildL rfl pl74 ze74 rfl) rfl rfl ?_
  refine TL.op rfl (OpOk.boxA rfl rfl rfl rfl (fun b8 => ?_))
  refine TL.v rfl (OpVal.moveLoc (.inr rfl) rfl) rfl rfl ?_
  refine TL.nil ?_
  refine S.n ?_
  refine TC.seq ?_
  refine TC.seq ?_
  refine TC.region ?_
  refine TL.v rfl (OpVal.fieldLoc rfl fo25_3 rfl) rfl rfl ?_
  refine TL.v rfl (OpVal.loadLoc rfl ag23 rfl (i := 2) rfl rfl) rfl rfl ?_
  refine TL.v rfl (OpVal.lenC rfl Try.underlying23 rfl) rfl rfl ?_
  refine TL.v rfl (OpVal.moveI (.inl rfl) rfl) rfl rfl ?_
  refine TL.nil ?_
  refine S.n ?_
  refine TC.block ?_
  refine TC.loopF (α := Nat × Option Addr × Nat) [7, 16, 17, 18, 19, 20, 21, 22, 23, 24, 25, 26, 27, 28, 29, 30, 31, 32, 33, 34] (fun g => [(16, .int .i64 (g.1 : Nat))]) (fun g => [Res.cells b8 #[.slice g.2.1 (x.edges ++ shiftE (y.edges.take g.1) x.states).length g.2.2] 74, Res.rowS 80 6 encE (.slice g.2.1 (x.edges ++ shiftE (y.edges.take g.1) x.states).length g.2.2) (x.edges ++ shiftE (y.edges.take g.1) x.states), Res.cells b3 (nfaA y q) 25, Res.cells b1 (nfaA x p) 25]) (fun _ => _) (fun g => g.1 ≤ y.edges.length) (fun g => y.edges.length - g.1) ((0, a5, c6)) (by first | exact True.intro | omega | (dsimp only; omega) | (simp; done) | (simp; omega)) (by repeat (first | exact trivial | refine ⟨rfl, ?_⟩)) (by simp only [List.take_zero, shiftE, List.map_nil, List.append_nil]; rfl) (by rfl) (fun g1 j1 hg1 => ?_)
  obtain ⟨g1, ga, gc⟩ := g1
  dsimp only
  have hg1 : g1 ≤ y.edges.length := hg1
  have hu : g1 < y.edges.length → _ := fun h => hs _ (nth_mem h Arrow.zero)
  refine TC.seq ?_
  refine TC.region ?_
  refine TL.v rfl (OpVal.lss rfl rfl rfl) rfl rfl ?_
  refine TL.nil ?_
  refine S.n ?_
  refine TC.seq ?_
  refine TC.condD rfl (fun h10 => ?_) (fun h10 => ?_)
  · try simp only [decide_eq_true_eq, decide_eq_false_iff_not, Bool.not_eq_true', Bool.not_eq_false', Bool.not_eq_eq_eq_not, Bool.not_true, Bool.not_false, Int.not_lt, Int.not_le, Decidable.not_not] at h10
    refine TC.skip ?_
    refine S.n ?_
    refine TC.seq ?_
    refine TC.block ?_
    refine TC.seq ?_
    refine TC.region ?_
    refine TL.v rfl (OpVal.indexN rfl Try.underlying23 sz80 rfl rfl (by first | assumption | exact (RS.rv (by assumption)).sl) (by omega)) rfl rfl ?_
    refine TL.v rfl (OpVal.loadSA Arrow.zero rfl ag80 sz80 rfl (by assumption) (by omega) (by omega)) rfl rfl ?_
    refine TL.op rfl (OpOk.alloc rfl ze80 rfl rfl (fun b11 => ?_))
    refine TL.op rfl (OpOk.storeAll rfl sz80 rfl rfl rfl rfl rfl rfl ?_)
    refine TL.nil ?_
    refine S.n ?_
    refine TC.region ?_
    refine TL.v rfl (OpVal.moveLoc (.inl rfl) rfl) rfl rfl ?_
    refine TL.v rfl (OpVal.fieldLoc rfl fo80_0 rfl) rfl rfl ?_
    refine TL.v rfl (OpVal.loadLoc rfl ag3 rfl (i := 0) rfl rfl) rfl rfl ?_
    refine TL.v rfl (OpVal.fieldLoc rfl fo25_0 rfl) rfl rfl ?_
    refine TL.v rfl (OpVal.loadLoc rfl ag3 rfl (i := 4) rfl rfl) rfl rfl ?_
    refine TL.v rfl (OpVal.add rfl rfl rfl (by omega) (by omega)) rfl rfl ?_
    refine TL.v rfl (OpVal.fieldLoc rfl fo80_1 rfl) rfl rfl ?_
    refine TL.v rfl (OpVal.loadLoc rfl ag3 rfl (i := 0) rfl rfl) rfl rfl ?_
    refine TL.v rfl (OpVal.fieldLoc rfl fo25_0 rfl) rfl rfl ?_
    refine TL.v rfl (OpVal.loadLoc rfl ag3 rfl (i := 4) rfl rfl) rfl rfl ?_
    refine TL.v rfl (OpVal.add rfl rfl rfl (by omega) (by omega)) rfl rfl ?_
    refine TL.v rfl (OpVal.fieldLoc rfl fo80_2 rfl) rfl rfl ?_
    refine TL.v rfl (OpVal.loadLocA rfl ag28 sz28 rfl (i := 0) rfl rfl rfl) rfl rfl ?_
    refine TL.front 2 rfl rfl ?_
    refine TL.front 2 rfl rfl ?_
    refine TL.op rfl (OpOk.callE (edge_con _ _ _ _ _ _ _ (nth y.edges g1 Arrow.zero).set (by rw [List.length_append, shiftE_len, List.length_take]; omega)) rfl rfl pf52 rfl rfl rfl rfl (fun a13 c14 => ?_))
    refine TL.nil ?_
    refine B.n ?_
    refine S.n ?_
    refine TC.region ?_
    refine TL.v rfl (OpVal.succ rfl rfl rfl (by omega)) rfl rfl ?_
    refine TL.v rfl (OpVal.moveI (.inl rfl) rfl) rfl rfl ?_
    refine TL.front 4 rfl rfl ?_
    refine TL.front 4 rfl rfl ?_
    refine TL.front 3 rfl rfl ?_
    refine TL.front 3 rfl rfl ?_
    refine TL.takeN 4 rfl ?_
    refine TL.nil ?_
    refine S.n ?_
    -- leaf 1 next [h10: True] H=['q9', 'q7', 'q4', 'q2']
    refine ⟨by repeat (first | exact Agr.mask | refine Agr.upd rfl ?_ | refine Agr.maskIn rfl ?_), (g1 + 1, a13, c14), ?_, ?_, ?_, ?_, ?_⟩
    · show y.edges.length - (g1 + 1) < y.edges.length - g1; omega
    · show g1 + 1 ≤ y.edges.length; omega
    · repeat (first | exact trivial | refine ⟨rfl, ?_⟩)
    · show _ = [Res.cells _ #[.slice _ (x.edges ++ shiftE (y.edges.take (g1 + 1)) x.states).length _] _, Res.rowS _ _ _ (.slice _ (x.edges ++ shiftE (y.edges.take (g1 + 1)) x.states).length _) (x.edges ++ shiftE (y.edges.take (g1 + 1)) x.states), _, _]
      rw [shiftE_snoc (by omega), ← List.append_assoc]; rfl
    · rfl
  · try simp only [decide_eq_true_eq, decide_eq_false_iff_not, Bool.not_eq_true', Bool.not_eq_false', Bool.not_eq_eq_eq_not, Bool.not_true, Bool.not_false, Int.not_lt, Int.not_le, Decidable.not_not] at h10
    refine TC.exit ?_
    refine S.x ?_
    refine S.x ?_
    refine TC.exitHere ?_
    refine S.n ?_
    refine TC.seq ?_
    refine TC.region ?_
    refine TL.v rfl (OpVal.moveLoc (.inl rfl) rfl) rfl rfl ?_
    refine TL.v rfl (OpVal.moveLoc (.inr rfl) rfl) rfl rfl ?_
    refine TL.nil ?_
    refine S.n ?_
    refine TC.front 1 rfl rfl ?_
    refine TC.front 1 rfl rfl ?_
    refine TC.takeN 2 rfl ?_
    refine TC.ret ?_
    -- leaf 2 ret [h10: False] H=['q9', 'q7']
    obtain rfl : g1 = y.edges.length := by omega
    rw [List.take_length]
    exact retM rfl rfl

end Go.Proofs.Ytcidppnlhhkhhaa

