/- Contracts of the reference of nfa, part five: one or the other. -/
import Derived.Test.YtcidppnlhhkhhaaRef4
set_option linter.unusedVariables false
set_option linter.unusedSimpArgs false
namespace Go.Proofs.Ytcidppnlhhkhhaa
open Go Go.E
set_option maxRecDepth 100000

/-- Two lists behind one another, the second one taken. -/
theorem rbotho_con (σ : Store) (a : Option Addr) (c : Nat) (l : List Int) (a' : Option Addr) (c' : Nat) (l' : List Int) (hl : RS σ 1 encI (.slice a l.length c) l) (hsz : l.length ≤ 1000000000000) (hsz' : l'.length ≤ 1000000000000) :
    Con Try.prog 68 #[.slice a l.length c, .slice a' l'.length c'] σ [Res.rowS 3 1 encI (.slice a' l'.length c') l'] (RowP 3 1 encI (l ++ l') σ) := by
  refine Con.mk (n := 13) Try.func68 rfl rfl rfl (fun w0 => ?_)
  refine TC.seq ?_
  refine TC.region ?_
  refine TL.v rfl (OpVal.moveSl (.inr rfl) rfl) rfl rfl ?_
  refine TL.nil ?_
  refine S.n ?_
  refine TC.seq ?_
  refine TC.region ?_
  refine TL.v rfl (OpVal.moveSl (.inr rfl) rfl) rfl rfl ?_
  refine TL.nilS 3 1 encI ?_
  refine TL.nil ?_
  refine S.n ?_
  refine TC.seq ?_
  refine TC.region ?_
  refine TL.v rfl (OpVal.moveSl (.inl rfl) rfl) rfl rfl ?_
  refine TL.v rfl (OpVal.moveSl (.inl rfl) rfl) rfl rfl ?_
  refine TL.op rfl (OpOk.appendS rfl rfl Try.underlying22 sz3 by3 ze3 rfl rfl (by decide) rfl rfl rfl (.inl (by assumption)) (by (try simp only [List.length_cons, List.length_nil, List.length_append]); omega) (by decide) (fun a2 c3 => ?_))
  refine TL.v rfl (OpVal.moveSl (.inr rfl) rfl) rfl rfl ?_
  refine TL.nil ?_
  refine S.n ?_
  refine TC.seq ?_
  refine TC.region ?_
  refine TL.v rfl (OpVal.moveSl (.inl rfl) rfl) rfl rfl ?_
  refine TL.v rfl (OpVal.moveSl (.inl rfl) rfl) rfl rfl ?_
  refine TL.op rfl (OpOk.appendS rfl rfl Try.underlying22 sz3 by3 ze3 rfl rfl (by decide) rfl rfl rfl (.inr ⟨_, 0, rfl⟩) (by (try simp only [List.length_cons, List.length_nil, List.length_append]); omega) (by decide) (fun a4 c5 => ?_))
  refine TL.v rfl (OpVal.moveSl (.inr rfl) rfl) rfl rfl ?_
  refine TL.nil ?_
  refine S.n ?_
  refine TC.seq ?_
  refine TC.region ?_
  refine TL.v rfl (OpVal.moveSl (.inl rfl) rfl) rfl rfl ?_
  refine TL.v rfl (OpVal.moveSl (.inr rfl) rfl) rfl rfl ?_
  refine TL.nil ?_
  refine S.n ?_
  refine TC.ret ?_
  -- leaf 1 ret [] H=['q1', 'r0']
  exact ret1R rfl rfl

def altE (x y : Nfa) : List Arrow := x.edges ++ shiftE y.edges x.states
def altN (x y : Nfa) : Nfa := ⟨x.states + y.states, x.starts ++ shiftL y.starts x.states, x.ends ++ shiftL y.ends x.states, altE x y⟩
def altF (x y : Nfa) : Bool := fitB (x.states + y.states) ((x.edges.length : Int) + (y.edges.length : Int))
def altR (x y : Nfa) : Nfa := if checkB x = true ∧ checkB y = true then if altF x y = true then altN x y else Nfa.zero else Nfa.zero
def altX (x y : Nfa) : Int := if checkB x = true ∧ checkB y = true then if altF x y = true then 0 else 2 else 1
theorem altE_ok {x y : Nfa} (h : ∀ u ∈ x.edges, u.set.ok) (h' : ∀ u ∈ y.edges, u.set.ok) : ∀ u ∈ altE x y, u.set.ok := by
  intro u hu
  simp only [altE, List.mem_append] at hu
  rcases hu with hu | hu
  · exact h u hu
  · exact shiftE_ok h' _ u hu
theorem alt_end {x y : Nfa} (hx : checkB x = true) (hy : checkB y = true) : altR x y = endR (altN x y) ∧ altX x y = endX (altN x y) := by
  have f : altF x y = fitB (altN x y).states (altN x y).edges.length := by
    show altF x y = fitB (x.states + y.states) (altE x y).length
    rw [altF, altE, List.length_append, shiftE_len, Int.natCast_add]
  exact ⟨by rw [altR, if_pos ⟨hx, hy⟩, f] <;> rfl, by rw [altX, if_pos ⟨hx, hy⟩, f] <;> rfl⟩

set_option maxHeartbeats 4000000 in
theorem ralt_con (σ : Store) (x y : Nfa) (p q : NfaP) (hx : RNfa σ x p) (hy : RNfa σ y q) : Con Try.prog 30 #[nfaV x p, nfaV y q] σ [] (NfaR (altR x y) (altX x y)) := by
  have hd := hx.d
  refine Con.mk (n := 57) Try.func30 rfl rfl rfl (fun w0 => ?_)
  refine TC.seq ?_
  refine TC.region ?_
  refine TL.op rfl (OpOk.boxA rfl rfl rfl rfl (fun b1 => ?_))
  refine TL.op rfl (OpOk.boxA rfl rfl rfl rfl (fun b3 => ?_))
  refine TL.op rfl (OpOk.alloc rfl ze25 rfl rfl (fun b5 => ?_))
  refine TL.v rfl (OpVal.moveI (.inr rfl) rfl) rfl rfl ?_
  refine TL.nil ?_
  refine S.n ?_
  refine TC.seq ?_
  refine TC.seq ?_
  refine TC.region ?_
  refine TL.v rfl (OpVal.loadAll rfl ag25 sz25 rfl (i := 2) rfl rfl) rfl rfl ?_
  refine TL.op rfl (OpOk.callP (right_con _ _ _ (by first | exact hx | exact hy)) rfl rfl pf57 rfl rfl rfl ?_)
  refine TL.v rfl (OpVal.not rfl rfl) rfl rfl ?_
  refine TL.v rfl (OpVal.moveB (.inl rfl) rfl) rfl rfl ?_
  refine TL.split 10 rfl (fun h7 => ?_) (fun h7 => ?_)
  · try simp only [decide_eq_true_eq, decide_eq_false_iff_not, Bool.not_eq_true', Bool.not_eq_false', Bool.not_eq_eq_eq_not, Bool.not_true, Bool.not_false, Int.not_lt, Int.not_le, Decidable.not_not] at h7
    refine TL.goff rfl rfl rfl rfl rfl rfl rfl rfl ?_
    refine TL.goff rfl rfl rfl rfl rfl rfl rfl rfl ?_
    refine TL.goff rfl rfl rfl rfl rfl rfl rfl rfl ?_
    refine TL.v rfl (OpVal.pickTB rfl rfl rfl) rfl rfl ?_
    refine TL.nil ?_
    refine S.n ?_
    refine TC.cond rfl (fun _ => ?_) (fun h => Bool.noConfusion h)
    refine TC.seq ?_
    refine TC.region ?_
    refine TL.v rfl (OpVal.buildL rfl pl25 ze25 rfl) rfl rfl ?_
    refine TL.op rfl (OpOk.storeAll rfl sz25 rfl rfl rfl rfl rfl rfl ?_)
    refine TL.v rfl (OpVal.moveI (.inr rfl) rfl) rfl rfl ?_
    refine TL.nil ?_
    refine S.n ?_
    refine TC.ret ?_
    refine S.r ?_
    -- leaf 1 ret [h7: t10=True] H=['q6', 'q4', 'q2']
    have hc : ¬ (checkB x = true ∧ checkB y = true) := fun h => by rw [h.1] at h7; cases h7
    simp only [altR, altX, if_neg hc]
    exact retNfa (p := NfaP.zero) 0 rfl ag25 sz25 rfl rfl rfl rfl (RNfa.zero _)
  · try simp only [decide_eq_true_eq, decide_eq_false_iff_not, Bool.not_eq_true', Bool.not_eq_false', Bool.not_eq_eq_eq_not, Bool.not_true, Bool.not_false, Int.not_lt, Int.not_le, Decidable.not_not] at h7
    refine TL.gv rfl rfl rfl rfl rfl (OpVal.loadAll rfl ag25 sz25 rfl (i := 1) rfl rfl) rfl rfl ?_
    refine TL.gon rfl rfl rfl rfl rfl (OpOk.callP (right_con _ _ _ (by first | exact hx | exact hy)) rfl rfl pf57 rfl rfl rfl ?_)
    refine TL.gv rfl rfl rfl rfl rfl (OpVal.not rfl rfl) rfl rfl ?_
    refine TL.v rfl (OpVal.pickFB rfl rfl rfl) rfl rfl ?_
    refine TL.nil ?_
    refine S.n ?_
    refine TC.cond rfl (fun h8 => ?_) (fun h8 => ?_)
    · try simp only [decide_eq_true_eq, decide_eq_false_iff_not, Bool.not_eq_true', Bool.not_eq_false', Bool.not_eq_eq_eq_not, Bool.not_true, Bool.not_false, Int.not_lt, Int.not_le, Decidable.not_not] at h8
      refine TC.seq ?_
      refine TC.region ?_
      refine TL.v rfl (OpVal.buildL rfl pl25 ze25 rfl) rfl rfl ?_
      refine TL.op rfl (OpOk.storeAll rfl sz25 rfl rfl rfl rfl rfl rfl ?_)
      refine TL.v rfl (OpVal.moveI (.inr rfl) rfl) rfl rfl ?_
      refine TL.nil ?_
      refine S.n ?_
      refine TC.ret ?_
      refine S.r ?_
      -- leaf 2 ret [h7: t10=False; h8: True] H=['q6', 'q4', 'q2']
      have hc : ¬ (checkB x = true ∧ checkB y = true) := fun h => by rw [h.2] at h8; cases h8
      simp only [altR, altX, if_neg hc]
      exact retNfa (p := NfaP.zero) 0 rfl ag25 sz25 rfl rfl rfl rfl (RNfa.zero _)
    · try simp only [decide_eq_true_eq, decide_eq_false_iff_not, Bool.not_eq_true', Bool.not_eq_false', Bool.not_eq_eq_eq_not, Bool.not_true, Bool.not_false, Int.not_lt, Int.not_le, Decidable.not_not] at h8
      refine TC.skip ?_
      refine S.n ?_
      have hcx : checkB x = true := by assumption
      have hcy : checkB y = true := by assumption
      obtain ⟨k1, k2, k3, k4, k5, k6⟩ := checkB_spec hcx
      obtain ⟨l1, l2, l3, l4, l5, l6⟩ := checkB_spec hcy
      have lx := checkB_len hcx
      have ly := checkB_len hcy
      have hl3 := shiftL_len y.starts x.states
      have hl4 := shiftL_len y.ends x.states
      have hl5 := shiftE_len y.edges x.states
      refine TC.cutF (α := Nat × Option Addr × Nat × Option Addr × Nat) [6, 16, 17, 18, 19, 20, 21, 22, 23, 24, 25, 26, 27, 28, 29, 30, 31, 32, 33, 34, 35, 36, 37] (fun g => [(6, loc g.1 0)]) (fun g => [Res.cells g.1 #[.int .i64 (x.states + y.states), .slice g.2.1 (x.starts ++ shiftL y.starts x.states).length g.2.2.1, .slice g.2.2.2.1 (x.ends ++ shiftL y.ends x.states).length g.2.2.2.2, .slice none 0 0] 25, Res.rowS 3 1 encI (.slice g.2.1 (x.starts ++ shiftL y.starts x.states).length g.2.2.1) (x.starts ++ shiftL y.starts x.states), Res.rowS 3 1 encI (.slice g.2.2.2.1 (x.ends ++ shiftL y.ends x.states).length g.2.2.2.2) (x.ends ++ shiftL y.ends x.states), Res.cells b5 (nfaA Nfa.zero NfaP.zero) 25, Res.cells b3 (nfaA y q) 25, Res.cells b1 (nfaA x p) 25]) (fun _ => σ) (fun _ => True) ?_ (fun g j hg => ?_)
      · skip
        refine TC.draw [23] (by kernel_rfl) ?_
        refine TA.takeP 0 rfl (by kernel_rfl) (by kernel_rfl) (by kernel_rfl) rfl (OpVal.fieldLoc rfl fo25_0 rfl) rfl rfl ?_
        refine TA.take 1 rfl (by kernel_rfl) (by kernel_rfl) (by kernel_rfl) (by kernel_rfl) rfl (OpVal.loadLoc rfl ag3 rfl (i := 2) rfl rfl) rfl rfl ?_
        refine TA.takeP 2 rfl (by kernel_rfl) (by kernel_rfl) (by kernel_rfl) rfl (OpVal.fieldLoc rfl fo25_0 rfl) rfl rfl ?_
        refine TA.take 3 rfl (by kernel_rfl) (by kernel_rfl) (by kernel_rfl) (by kernel_rfl) rfl (OpVal.loadLoc rfl ag3 rfl (i := 1) rfl rfl) rfl rfl ?_
        refine TA.takeP 4 rfl (by kernel_rfl) (by kernel_rfl) (by kernel_rfl) rfl (OpVal.add rfl rfl rfl (by omega) (by omega)) rfl rfl ?_
        refine TA.takeP 5 rfl (by kernel_rfl) (by kernel_rfl) (by kernel_rfl) rfl (OpVal.fieldLoc rfl fo25_1 rfl) rfl rfl ?_
        refine TA.take 6 rfl (by kernel_rfl) (by kernel_rfl) (by kernel_rfl) (by kernel_rfl) rfl (OpVal.loadLoc rfl ag22 rfl (i := 2) rfl rfl) rfl rfl ?_
        refine TA.takeP 7 rfl (by kernel_rfl) (by kernel_rfl) (by kernel_rfl) rfl (OpVal.fieldLoc rfl fo25_1 rfl) rfl rfl ?_
        refine TA.take 8 rfl (by kernel_rfl) (by kernel_rfl) (by kernel_rfl) (by kernel_rfl) rfl (OpVal.loadLoc rfl ag22 rfl (i := 1) rfl rfl) rfl rfl ?_
        refine TA.takeP 9 rfl (by kernel_rfl) (by kernel_rfl) (by kernel_rfl) rfl (OpVal.fieldLoc rfl fo25_0 rfl) rfl rfl ?_
        refine TA.take 10 rfl (by kernel_rfl) (by kernel_rfl) (by kernel_rfl) (by kernel_rfl) rfl (OpVal.loadLoc rfl ag3 rfl (i := 2) rfl rfl) rfl rfl ?_
        refine TA.takeP 13 rfl (by kernel_rfl) (by kernel_rfl) (by kernel_rfl) rfl (OpVal.fieldLoc rfl fo25_2 rfl) rfl rfl ?_
        refine TA.take 14 rfl (by kernel_rfl) (by kernel_rfl) (by kernel_rfl) (by kernel_rfl) rfl (OpVal.loadLoc rfl ag22 rfl (i := 2) rfl rfl) rfl rfl ?_
        refine TA.takeP 15 rfl (by kernel_rfl) (by kernel_rfl) (by kernel_rfl) rfl (OpVal.fieldLoc rfl fo25_2 rfl) rfl rfl ?_
        refine TA.take 16 rfl (by kernel_rfl) (by kernel_rfl) (by kernel_rfl) (by kernel_rfl) rfl (OpVal.loadLoc rfl ag22 rfl (i := 1) rfl rfl) rfl rfl ?_
        refine TA.takeP 17 rfl (by kernel_rfl) (by kernel_rfl) (by kernel_rfl) rfl (OpVal.fieldLoc rfl fo25_0 rfl) rfl rfl ?_
        refine TA.take 18 rfl (by kernel_rfl) (by kernel_rfl) (by kernel_rfl) (by kernel_rfl) rfl (OpVal.loadLoc rfl ag3 rfl (i := 2) rfl rfl) rfl rfl ?_
        refine TA.act2 11 22 (by kernel_rfl) rfl rfl rfl rfl (OpOk.callR (rshift_con _ _ _ _ _ (by first | exact hy.s | exact hy.e) ⟨k1, by omega⟩ (fun u hu => by first | (have := l4 u hu; omega) | (have := l5 u hu; omega)) (by omega)) rfl rfl pf67 rfl rfl rfl (fun a9 c10 => ⟨(fun w h => sees_of (by first | exact Store.le.refl _ | assumption) (fun r hr => (List.mem_cons_of_mem _ hr)) w h), ?_⟩)) (OpOk.alloc rfl ze25 rfl rfl (fun b12 => ⟨(fun w h => sees_of (by first | exact Store.le.refl _ | assumption) (fun r hr => (List.mem_cons_of_mem _ hr)) w h), ?_⟩))
        · skip
          refine TA.actN [12, 22] (by kernel_rfl) (And.intro (Exists.intro _ (And.intro rfl (And.intro rfl (OpOk.callRT (rbotho_con _ _ _ _ _ _ _ (by first | exact hx.s | exact hx.e) (by omega) (by omega)) rfl rfl pf68 rfl rfl rfl rfl (fun a14 c15 => ⟨(fun w h => sees_of (by first | exact Store.le.refl _ | assumption) (fun r hr => (List.mem_cons_of_mem _ hr)) w h), ?_⟩))))) (And.intro (Exists.intro _ (And.intro rfl (And.intro rfl (OpOk.alloc rfl ze25 rfl rfl (fun b17 => ⟨(fun w h => sees_of (by first | exact Store.le.refl _ | assumption) (fun r hr => (List.mem_cons_of_mem _ (List.mem_cons_of_mem _ hr))) w h), ?_⟩))))) (True.intro)))
          · skip
            refine TA.act2 19 22 (by kernel_rfl) rfl rfl rfl rfl (OpOk.callR (rshift_con _ _ _ _ _ (by first | exact hy.s | exact hy.e) ⟨k1, by omega⟩ (fun u hu => by first | (have := l4 u hu; omega) | (have := l5 u hu; omega)) (by omega)) rfl rfl pf67 rfl rfl rfl (fun a19 c20 => ⟨(fun w h => sees_of (by first | exact Store.le.refl _ | assumption) (fun r hr => (List.mem_cons_of_mem _ (List.mem_cons_of_mem _ hr))) w h), ?_⟩)) (OpOk.alloc rfl ze25 rfl rfl (fun b22 => ⟨(fun w h => sees_of (by first | exact Store.le.refl _ | assumption) (fun r hr => (List.mem_cons_of_mem _ (List.mem_cons_of_mem _ hr))) w h), ?_⟩))
            · skip
              refine TA.actN [20, 22] (by kernel_rfl) (And.intro (Exists.intro _ (And.intro rfl (And.intro rfl (OpOk.callRT (rbotho_con _ _ _ _ _ _ _ (by first | exact hx.s | exact hx.e) (by omega) (by omega)) rfl rfl pf68 rfl rfl rfl rfl (fun a24 c25 => ⟨(fun w h => sees_of (by first | exact Store.le.refl _ | assumption) (fun r hr => (List.mem_cons_of_mem _ (List.mem_cons_of_mem _ hr))) w h), ?_⟩))))) (And.intro (Exists.intro _ (And.intro rfl (And.intro rfl (OpOk.alloc rfl ze25 rfl rfl (fun b27 => ⟨(fun w h => sees_of (by first | exact Store.le.refl _ | assumption) (fun r hr => (List.mem_cons_of_mem _ (List.mem_cons_of_mem _ (List.mem_cons_of_mem _ hr)))) w h), ?_⟩))))) (True.intro)))
              · skip
                refine TA.takeP 21 rfl (by kernel_rfl) (by kernel_rfl) (by kernel_rfl) rfl (OpVal.buildL rfl pl25 ze25 rfl) rfl rfl ?_
                refine TA.act 22 (by kernel_rfl) rfl rfl (OpOk.alloc rfl ze25 rfl rfl (fun b29 => ⟨(fun w h => sees_of (by first | exact Store.le.refl _ | assumption) (fun r hr => (List.mem_cons_of_mem _ (List.mem_cons_of_mem _ (List.mem_cons_of_mem _ hr)))) w h), ?_⟩))
                refine TA.last 23 (by kernel_rfl) rfl rfl rfl (OpOk.storeAll rfl sz25 rfl rfl rfl rfl rfl rfl ?_)
                refine TZ.front 5 rfl rfl ?_
                refine TZ.front 5 rfl rfl ?_
                refine TZ.front 5 rfl rfl ?_
                refine TZ.front 4 rfl rfl ?_
                refine TZ.front 5 rfl rfl ?_
                refine TZ.front 5 rfl rfl ?_
                refine TZ.done (by kernel_rfl) ?_
                refine S.n ?_
                -- leaf 3 cut [h7: t10=False; h8: False] H=['q30', 'q16', 'q26', 'q6', 'q4', 'q2']
                refine ⟨by repeat (first | exact Agr.refl _ _ | exact Agr.mask | refine Agr.upd rfl ?_), (b29, a14, c15, a24, c25), ?_, ?_, ?_, ?_⟩
                · first | exact True.intro | omega | (dsimp only; omega) | (simp; done) | (simp; omega)
                · repeat (first | exact trivial | refine ⟨rfl, ?_⟩)
                · rfl
                · rfl
              · skip
                refine TA.front 1 rfl rfl ?_
                refine TA.act 20 (by kernel_rfl) rfl rfl (OpOk.callRT (rbotho_con _ _ _ _ _ _ _ (by first | exact hx.s | exact hx.e) (by omega) (by omega)) rfl rfl pf68 rfl rfl rfl rfl (fun a31 c32 => ⟨(fun w h => sees_of (by first | exact Store.le.refl _ | assumption) (fun r hr => (List.mem_cons_of_mem _ (List.mem_cons_of_mem _ (List.mem_cons_of_mem _ hr)))) w h), ?_⟩))
                refine TA.takeP 21 rfl (by kernel_rfl) (by kernel_rfl) (by kernel_rfl) rfl (OpVal.buildL rfl pl25 ze25 rfl) rfl rfl ?_
                refine TA.front 1 rfl rfl ?_
                refine TA.last 23 (by kernel_rfl) rfl rfl rfl (OpOk.storeAll rfl sz25 rfl rfl rfl rfl rfl rfl ?_)
                refine TZ.front 5 rfl rfl ?_
                refine TZ.front 5 rfl rfl ?_
                refine TZ.front 5 rfl rfl ?_
                refine TZ.front 4 rfl rfl ?_
                refine TZ.front 5 rfl rfl ?_
                refine TZ.front 5 rfl rfl ?_
                refine TZ.done (by kernel_rfl) ?_
                refine S.n ?_
                -- leaf 4 cut [h7: t10=False; h8: False] H=['q28', 'q16', 'q33', 'q6', 'q4', 'q2']
                refine ⟨by repeat (first | exact Agr.refl _ _ | exact Agr.mask | refine Agr.upd rfl ?_), (b27, a14, c15, a31, c32), ?_, ?_, ?_, ?_⟩
                · first | exact True.intro | omega | (dsimp only; omega) | (simp; done) | (simp; omega)
                · repeat (first | exact trivial | refine ⟨rfl, ?_⟩)
                · rfl
                · rfl
            · skip
              refine TA.act 19 (by kernel_rfl) rfl rfl (OpOk.callR (rshift_con _ _ _ _ _ (by first | exact hy.s | exact hy.e) ⟨k1, by omega⟩ (fun u hu => by first | (have := l4 u hu; omega) | (have := l5 u hu; omega)) (by omega)) rfl rfl pf67 rfl rfl rfl (fun a34 c35 => ⟨(fun w h => sees_of (by first | exact Store.le.refl _ | assumption) (fun r hr => (List.mem_cons_of_mem _ (List.mem_cons_of_mem _ (List.mem_cons_of_mem _ hr)))) w h), ?_⟩))
              refine TA.act 20 (by kernel_rfl) rfl rfl (OpOk.callRT (rbotho_con _ _ _ _ _ _ _ (by first | exact hx.s | exact hx.e) (by omega) (by omega)) rfl rfl pf68 rfl rfl rfl rfl (fun a37 c38 => ⟨(fun w h => sees_of (by first | exact Store.le.refl _ | assumption) (fun r hr => (List.mem_cons_of_mem _ (List.mem_cons_of_mem _ (List.mem_cons_of_mem _ hr)))) w h), ?_⟩))
              refine TA.takeP 21 rfl (by kernel_rfl) (by kernel_rfl) (by kernel_rfl) rfl (OpVal.buildL rfl pl25 ze25 rfl) rfl rfl ?_
              refine TA.front 1 rfl rfl ?_
              refine TA.last 23 (by kernel_rfl) rfl rfl rfl (OpOk.storeAll rfl sz25 rfl rfl rfl rfl rfl rfl ?_)
              refine TZ.front 5 rfl rfl ?_
              refine TZ.front 5 rfl rfl ?_
              refine TZ.front 5 rfl rfl ?_
              refine TZ.front 4 rfl rfl ?_
              refine TZ.front 5 rfl rfl ?_
              refine TZ.front 5 rfl rfl ?_
              refine TZ.done (by kernel_rfl) ?_
              refine S.n ?_
              -- leaf 5 cut [h7: t10=False; h8: False] H=['q23', 'q16', 'q39', 'q6', 'q4', 'q2']
              refine ⟨by repeat (first | exact Agr.refl _ _ | exact Agr.mask | refine Agr.upd rfl ?_), (b22, a14, c15, a37, c38), ?_, ?_, ?_, ?_⟩
              · first | exact True.intro | omega | (dsimp only; omega) | (simp; done) | (simp; omega)
              · repeat (first | exact trivial | refine ⟨rfl, ?_⟩)
              · rfl
              · rfl
          · skip
            refine TA.front 1 rfl rfl ?_
            refine TA.act 12 (by kernel_rfl) rfl rfl (OpOk.callRT (rbotho_con _ _ _ _ _ _ _ (by first | exact hx.s | exact hx.e) (by omega) (by omega)) rfl rfl pf68 rfl rfl rfl rfl (fun a40 c41 => ⟨(fun w h => sees_of (by first | exact Store.le.refl _ | assumption) (fun r hr => (List.mem_cons_of_mem _ (List.mem_cons_of_mem _ hr))) w h), ?_⟩))
            refine TA.act 19 (by kernel_rfl) rfl rfl (OpOk.callR (rshift_con _ _ _ _ _ (by first | exact hy.s | exact hy.e) ⟨k1, by omega⟩ (fun u hu => by first | (have := l4 u hu; omega) | (have := l5 u hu; omega)) (by omega)) rfl rfl pf67 rfl rfl rfl (fun a43 c44 => ⟨(fun w h => sees_of (by first | exact Store.le.refl _ | assumption) (fun r hr => (List.mem_cons_of_mem _ (List.mem_cons_of_mem _ (List.mem_cons_of_mem _ hr)))) w h), ?_⟩))
            refine TA.act 20 (by kernel_rfl) rfl rfl (OpOk.callRT (rbotho_con _ _ _ _ _ _ _ (by first | exact hx.s | exact hx.e) (by omega) (by omega)) rfl rfl pf68 rfl rfl rfl rfl (fun a46 c47 => ⟨(fun w h => sees_of (by first | exact Store.le.refl _ | assumption) (fun r hr => (List.mem_cons_of_mem _ (List.mem_cons_of_mem _ (List.mem_cons_of_mem _ hr)))) w h), ?_⟩))
            refine TA.takeP 21 rfl (by kernel_rfl) (by kernel_rfl) (by kernel_rfl) rfl (OpVal.buildL rfl pl25 ze25 rfl) rfl rfl ?_
            refine TA.front 2 rfl rfl ?_
            refine TA.last 23 (by kernel_rfl) rfl rfl rfl (OpOk.storeAll rfl sz25 rfl rfl rfl rfl rfl rfl ?_)
            refine TZ.front 5 rfl rfl ?_
            refine TZ.front 5 rfl rfl ?_
            refine TZ.front 5 rfl rfl ?_
            refine TZ.front 4 rfl rfl ?_
            refine TZ.front 5 rfl rfl ?_
            refine TZ.front 5 rfl rfl ?_
            refine TZ.done (by kernel_rfl) ?_
            refine S.n ?_
            -- leaf 6 cut [h7: t10=False; h8: False] H=['q18', 'q42', 'q48', 'q6', 'q4', 'q2']
            refine ⟨by repeat (first | exact Agr.refl _ _ | exact Agr.mask | refine Agr.upd rfl ?_), (b17, a40, c41, a46, c47), ?_, ?_, ?_, ?_⟩
            · first | exact True.intro | omega | (dsimp only; omega) | (simp; done) | (simp; omega)
            · repeat (first | exact trivial | refine ⟨rfl, ?_⟩)
            · rfl
            · rfl
        · skip
          refine TA.act 11 (by kernel_rfl) rfl rfl (OpOk.callR (rshift_con _ _ _ _ _ (by first | exact hy.s | exact hy.e) ⟨k1, by omega⟩ (fun u hu => by first | (have := l4 u hu; omega) | (have := l5 u hu; omega)) (by omega)) rfl rfl pf67 rfl rfl rfl (fun a49 c50 => ⟨(fun w h => sees_of (by first | exact Store.le.refl _ | assumption) (fun r hr => (List.mem_cons_of_mem _ (List.mem_cons_of_mem _ hr))) w h), ?_⟩))
          refine TA.act 12 (by kernel_rfl) rfl rfl (OpOk.callRT (rbotho_con _ _ _ _ _ _ _ (by first | exact hx.s | exact hx.e) (by omega) (by omega)) rfl rfl pf68 rfl rfl rfl rfl (fun a52 c53 => ⟨(fun w h => sees_of (by first | exact Store.le.refl _ | assumption) (fun r hr => (List.mem_cons_of_mem _ (List.mem_cons_of_mem _ hr))) w h), ?_⟩))
          refine TA.act 19 (by kernel_rfl) rfl rfl (OpOk.callR (rshift_con _ _ _ _ _ (by first | exact hy.s | exact hy.e) ⟨k1, by omega⟩ (fun u hu => by first | (have := l4 u hu; omega) | (have := l5 u hu; omega)) (by omega)) rfl rfl pf67 rfl rfl rfl (fun a55 c56 => ⟨(fun w h => sees_of (by first | exact Store.le.refl _ | assumption) (fun r hr => (List.mem_cons_of_mem _ (List.mem_cons_of_mem _ (List.mem_cons_of_mem _ hr)))) w h), ?_⟩))
          refine TA.act 20 (by kernel_rfl) rfl rfl (OpOk.callRT (rbotho_con _ _ _ _ _ _ _ (by first | exact hx.s | exact hx.e) (by omega) (by omega)) rfl rfl pf68 rfl rfl rfl rfl (fun a58 c59 => ⟨(fun w h => sees_of (by first | exact Store.le.refl _ | assumption) (fun r hr => (List.mem_cons_of_mem _ (List.mem_cons_of_mem _ (List.mem_cons_of_mem _ hr)))) w h), ?_⟩))
          refine TA.takeP 21 rfl (by kernel_rfl) (by kernel_rfl) (by kernel_rfl) rfl (OpVal.buildL rfl pl25 ze25 rfl) rfl rfl ?_
          refine TA.front 2 rfl rfl ?_
          refine TA.last 23 (by kernel_rfl) rfl rfl rfl (OpOk.storeAll rfl sz25 rfl rfl rfl rfl rfl rfl ?_)
          refine TZ.front 5 rfl rfl ?_
          refine TZ.front 5 rfl rfl ?_
          refine TZ.front 5 rfl rfl ?_
          refine TZ.front 4 rfl rfl ?_
          refine TZ.front 5 rfl rfl ?_
          refine TZ.front 5 rfl rfl ?_
          refine TZ.done (by kernel_rfl) ?_
          refine S.n ?_
          -- leaf 7 cut [h7: t10=False; h8: False] H=['q13', 'q54', 'q60', 'q6', 'q4', 'q2']
          refine ⟨by repeat (first | exact Agr.refl _ _ | exact Agr.mask | refine Agr.upd rfl ?_), (b12, a52, c53, a58, c59), ?_, ?_, ?_, ?_⟩
          · first | exact True.intro | omega | (dsimp only; omega) | (simp; done) | (simp; omega)
          · repeat (first | exact trivial | refine ⟨rfl, ?_⟩)
          · rfl
          · rfl
      · skip
        obtain ⟨gb, ga1, gc1, ga2, gc2⟩ := g
        dsimp only
        refine TC.nilS 80 6 encE ?_
        refine TC.seq ?_
        refine TC.region ?_
        refine TL.v rfl (OpVal.fieldLoc rfl fo25_3 rfl) rfl rfl ?_
        refine TL.v rfl (OpVal.loadLoc rfl ag23 rfl (i := 1) rfl rfl) rfl rfl ?_
        refine TL.v rfl (OpVal.fieldLoc rfl fo25_3 rfl) rfl rfl ?_
        refine TL.v rfl (OpVal.loadLoc rfl ag23 rfl (i := 6) rfl rfl) rfl rfl ?_
        refine TL.op rfl (OpOk.appendS rfl rfl Try.underlying23 sz80 by80 ze80 rfl rfl (by decide) rfl rfl rfl (.inl (by assumption)) (by (try simp only [List.length_cons, List.length_nil, List.length_append]); omega) (by decide) (fun a65 c66 => ?_))
        refine TL.v rfl (OpVal.fieldLoc rfl fo25_3 rfl) rfl rfl ?_
        refine TL.front 1 rfl rfl ?_
        refine TL.op rfl (OpOk.storeSl rfl sz23 rfl rfl rfl rfl rfl ?_)
        refine TL.nil ?_
        refine S.n ?_
        refine TC.seq ?_
        refine TC.draw [7, 8, 9] (by kernel_rfl) ?_
        refine TA.takeP 0 rfl (by kernel_rfl) (by kernel_rfl) (by kernel_rfl) rfl (OpVal.fieldLoc rfl fo25_3 rfl) rfl rfl ?_
        refine TA.take 1 rfl (by kernel_rfl) (by kernel_rfl) (by kernel_rfl) (by kernel_rfl) rfl (OpVal.loadLoc rfl ag23 rfl (i := 0) rfl rfl) rfl rfl ?_
        refine TA.takeP 2 rfl (by kernel_rfl) (by kernel_rfl) (by kernel_rfl) rfl (OpVal.fieldLoc rfl fo25_3 rfl) rfl rfl ?_
        refine TA.take 3 rfl (by kernel_rfl) (by kernel_rfl) (by kernel_rfl) (by kernel_rfl) rfl (OpVal.loadLoc rfl ag23 rfl (i := 5) rfl rfl) rfl rfl ?_
        refine TA.takeP 4 rfl (by kernel_rfl) (by kernel_rfl) (by kernel_rfl) rfl (OpVal.fieldLoc rfl fo25_0 rfl) rfl rfl ?_
        refine TA.take 5 rfl (by kernel_rfl) (by kernel_rfl) (by kernel_rfl) (by kernel_rfl) rfl (OpVal.loadLoc rfl ag3 rfl (i := 6) rfl rfl) rfl rfl ?_
        refine TA.act 6 (by kernel_rfl) rfl rfl (OpOk.callR (shifted_con _ _ _ _ _ hy.d ⟨k1, by omega⟩ (fun u hu => by have := l6 u hu; omega) (by omega)) rfl rfl pf70 rfl rfl rfl (fun a67 c68 => ⟨(fun w h => sees_of (by first | exact Store.le.refl _ | assumption) (fun r hr => (List.mem_cons_of_mem _ hr)) w h), ?_⟩))
        refine TA.front 2 rfl rfl ?_
        refine TA.last 7 (by kernel_rfl) rfl rfl rfl (OpOk.appendS rfl rfl Try.underlying23 sz80 by80 ze80 rfl rfl (by decide) rfl rfl rfl (.inr ⟨_, 0, rfl⟩) (by (try simp only [List.length_cons, List.length_nil, List.length_append]); omega) (by decide) (fun a70 c71 => ?_))
        refine TZ.v 8 (by kernel_rfl) rfl rfl rfl (OpVal.fieldLoc rfl fo25_3 rfl) rfl rfl ?_
        refine TZ.front 2 rfl rfl ?_
        refine TZ.last 9 (by kernel_rfl) rfl rfl rfl (OpOk.storeSl rfl sz23 rfl rfl rfl rfl rfl ?_)
        refine TZ.done (by kernel_rfl) ?_
        refine S.n ?_
        refine TC.seq ?_
        refine TC.front 1 rfl rfl ?_
        refine TC.sealS encE_len (fun τ74 hle73 hr72 => ?_)
        replace hx := hx.mono hle73
        replace hy := hy.mono hle73
        replace hd := hd.mono hle73
        refine TC.front 1 rfl rfl ?_
        refine TC.sealS encE_len (fun τ77 hle76 hr75 => ?_)
        replace hx := hx.mono hle76
        replace hy := hy.mono hle76
        replace hd := hd.mono hle76
        replace hr72 := hr72.mono hle76
        refine TC.front 1 rfl rfl ?_
        refine TC.sealS encI_len (fun τ80 hle79 hr78 => ?_)
        replace hx := hx.mono hle79
        replace hy := hy.mono hle79
        replace hd := hd.mono hle79
        replace hr72 := hr72.mono hle79
        replace hr75 := hr75.mono hle79
        refine TC.front 1 rfl rfl ?_
        refine TC.sealS encI_len (fun τ83 hle82 hr81 => ?_)
        replace hx := hx.mono hle82
        replace hy := hy.mono hle82
        replace hd := hd.mono hle82
        replace hr72 := hr72.mono hle82
        replace hr75 := hr75.mono hle82
        replace hr78 := hr78.mono hle82
        refine TC.region ?_
        refine TL.v rfl (OpVal.loadAll rfl ag25 sz25 rfl (i := 0) rfl rfl) rfl rfl ?_
        refine TL.op rfl (OpOk.callN (end_con _ (altN x y) ⟨ga1, gc1, ga2, gc2, a70, c71⟩ ⟨hr78, hr81, hr72, altE_ok hx.ok hy.ok⟩) rfl rfl pf71 rfl rfl rfl (fun pe τ85 hle84 he => ?_))
        replace hx := hx.mono hle84
        replace hy := hy.mono hle84
        replace hd := hd.mono hle84
        replace hr72 := hr72.mono hle84
        replace hr75 := hr75.mono hle84
        replace hr78 := hr78.mono hle84
        replace hr81 := hr81.mono hle84
        refine TL.v rfl (OpVal.extract rfl rfl rfl) rfl rfl ?_
        refine TL.v rfl (OpVal.extract rfl rfl rfl) rfl rfl ?_
        refine TL.front 1 rfl rfl ?_
        refine TL.op rfl (OpOk.storeAll rfl sz25 rfl rfl rfl rfl rfl rfl ?_)
        refine TL.v rfl (OpVal.moveI (.inr rfl) rfl) rfl rfl ?_
        refine TL.nil ?_
        refine S.n ?_
        refine TC.ret ?_
        -- leaf 8 ret [h7: t10=False; h8: False] H=['q6', 'q64', 'q4', 'q2']
        obtain ⟨e1, e2⟩ := alt_end hcx hcy
        rw [e1, e2]
        exact retNfa (p := pe) 0 rfl ag25 sz25 rfl rfl rfl rfl he

end Go.Proofs.Ytcidppnlhhkhhaa
