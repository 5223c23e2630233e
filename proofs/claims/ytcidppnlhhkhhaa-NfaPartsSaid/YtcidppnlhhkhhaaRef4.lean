/- Contracts of the reference of nfa, part four: one behind another. -/
import Derived.Test.YtcidppnlhhkhhaaRef3
import Derived.Test.YtcidppnlhhkhhaaNfa6
set_option linter.unusedVariables false
set_option linter.unusedSimpArgs false
namespace Go.Proofs.Ytcidppnlhhkhhaa
open Go Go.E
set_option maxRecDepth 100000

theorem catTo_card (x y : Nfa) (k : Nat) (h : k ≤ x.edges.length) : (catTo x y k).length = x.edges.length + y.edges.length + lastTo x k * y.starts.length := by
  induction k with
  | zero => rw [catTo_zero, List.length_append, shiftE_len, lastTo_zero]; omega
  | succ k ih =>
    have hk := ih (by omega)
    have e1 : catTo x y (k + 1) = catTo x y k ++ catOf x y (nth x.edges k Arrow.zero) := by
      rw [catTo, take_succ_nth x.edges (by omega) Arrow.zero, List.flatMap_append, ← List.append_assoc, List.flatMap_singleton]; rfl
    have e2 : lastTo x (k + 1) = lastTo x k + if x.ends.contains (nth x.edges k Arrow.zero).to = true then 1 else 0 := by
      rw [lastTo, take_succ_nth x.edges (by omega) Arrow.zero, List.countP_append, List.countP_singleton]; rfl
    rw [e1, e2, List.length_append, hk]
    unfold catOf
    split
    · rw [catPut_len, shiftL_len, Nat.add_mul, Nat.one_mul]; omega
    · simp
theorem lastTo_mono (x : Nfa) {k m : Nat} (h : k ≤ m) : lastTo x k ≤ lastTo x m := by
  have : x.edges.take k = (x.edges.take m).take k := by rw [List.take_take, Nat.min_eq_left h]
  unfold lastTo
  rw [this]
  exact (List.take_sublist _ _).countP_le
theorem catF_card (x y : Nfa) : catF x y = fitB (x.states + y.states) (catTo x y x.edges.length).length := by
  rw [catTo_card x y _ (Nat.le_refl _), catF, Int.natCast_add, Int.natCast_add, Int.natCast_mul]
theorem cat_stop {x y : Nfa} (hx : checkB x = true) (hy : checkB y = true) {k : Nat} (hk : k ≤ x.edges.length) (h : 65536 < (catTo x y k).length) (S D : List Int) :
    catR x y = endR ⟨x.states + y.states, S, D, catTo x y k⟩ ∧ catX x y = endX ⟨x.states + y.states, S, D, catTo x y k⟩ := by
  have h1 : 65536 < (catTo x y x.edges.length).length := by
    have e1 := catTo_card x y k hk
    have e2 := catTo_card x y _ (Nat.le_refl _)
    have e3 := Nat.mul_le_mul_right y.starts.length (lastTo_mono x hk)
    omega
  have f1 : ¬ catF x y = true := by rw [catF_card]; simp only [fitB, Bool.and_eq_true, decide_eq_true_eq]; omega
  have f2 : ¬ fitB (x.states + y.states) (catTo x y k).length = true := by simp only [fitB, Bool.and_eq_true, decide_eq_true_eq]; omega
  exact ⟨by rw [catR, if_pos ⟨hx, hy⟩, if_neg f1, endR, if_neg f2], by rw [catX, if_pos ⟨hx, hy⟩, if_neg f1, endX, if_neg f2]⟩
theorem cat_all {x y : Nfa} (hx : checkB x = true) (hy : checkB y = true) {S D : List Int} (hS : catS x y = S) (hD : catD x y = D) :
    catR x y = endR ⟨x.states + y.states, S, D, catTo x y x.edges.length⟩ ∧ catX x y = endX ⟨x.states + y.states, S, D, catTo x y x.edges.length⟩ := by
  subst hS hD
  have f := catF_card x y
  by_cases f1 : catF x y = true
  · have f2 : fitB (x.states + y.states) (catTo x y x.edges.length).length = true := by rw [← f]; exact f1
    exact ⟨by rw [catR, if_pos ⟨hx, hy⟩, if_pos f1, endR, if_pos f2]; rfl, by rw [catX, if_pos ⟨hx, hy⟩, if_pos f1, endX, if_pos f2]⟩
  · have f2 : ¬ fitB (x.states + y.states) (catTo x y x.edges.length).length = true := by rw [← f]; exact f1
    exact ⟨by rw [catR, if_pos ⟨hx, hy⟩, if_neg f1, endR, if_neg f2], by rw [catX, if_pos ⟨hx, hy⟩, if_neg f1, endX, if_neg f2]⟩
theorem catC_t {x y : Nfa} {k : Nat} (h : k < x.edges.length) (h1 : x.ends.contains (nth x.edges k Arrow.zero).to = true) : catTo x y (k + 1) = catTo x y k ++ catPut (nth x.edges k Arrow.zero) (shiftL y.starts x.states) := by
  rw [catTo, take_succ_nth x.edges h Arrow.zero, List.flatMap_append, ← List.append_assoc, List.flatMap_singleton, catOf, if_pos h1]; rfl
theorem catC_f {x y : Nfa} {k : Nat} (h : k < x.edges.length) (h1 : x.ends.contains (nth x.edges k Arrow.zero).to = false) : catTo x y (k + 1) = catTo x y k := by
  rw [← Bool.not_eq_true] at h1
  rw [catTo, take_succ_nth x.edges h Arrow.zero, List.flatMap_append, ← List.append_assoc, List.flatMap_singleton, catOf, if_neg h1, List.append_nil]; rfl

set_option maxHeartbeats 4000000 in
theorem rcat_con (σ : Store) (x y : Nfa) (p q : NfaP) (hx : RNfa σ x p) (hy : RNfa σ y q) : Con Try.prog 29 #[nfaV x p, nfaV y q] σ [] (NfaR (catR x y) (catX x y)) := by
  have hd := hx.d
  refine Con.mk (n := 122) Try.func29 rfl rfl rfl (fun w0 => ?_)
  refine TC.seq ?_
  refine TC.region ?_
  refine TL.op rfl (OpOk.boxA rfl rfl rfl rfl (fun b1 => ?_))
  refine TL.op rfl (OpOk.boxA rfl rfl rfl rfl (fun b3 => ?_))
  refine TL.op rfl (OpOk.alloc rfl ze25 rfl rfl (fun b5 => ?_))
  refine TL.v rfl (OpVal.moveI (.inr rfl) rfl) rfl rfl ?_
  refine TL.nil ?_
  refine S.n ?_
  refine TC.seq ?_
  refine TC.seq ?_
  refine TC.region ?_
  refine TL.v rfl (OpVal.loadAll rfl ag25 sz25 rfl (i := 2) rfl rfl) rfl rfl ?_
  refine TL.op rfl (OpOk.callP (right_con _ _ _ (by first | exact hx | exact hy)) rfl rfl pf57 rfl rfl rfl ?_)
  refine TL.v rfl (OpVal.not rfl rfl) rfl rfl ?_
  refine TL.v rfl (OpVal.moveB (.inl rfl) rfl) rfl rfl ?_
  refine TL.split 13 rfl (fun h7 => ?_) (fun h7 => ?_)
  · try simp only [decide_eq_true_eq, decide_eq_false_iff_not, Bool.not_eq_true', Bool.not_eq_false', Bool.not_eq_eq_eq_not, Bool.not_true, Bool.not_false, Int.not_lt, Int.not_le, Decidable.not_not] at h7
    refine TL.goff rfl rfl rfl rfl rfl rfl rfl rfl ?_
    refine TL.goff rfl rfl rfl rfl rfl rfl rfl rfl ?_
    refine TL.goff rfl rfl rfl rfl rfl rfl rfl rfl ?_
    refine TL.v rfl (OpVal.pickTB rfl rfl rfl) rfl rfl ?_
    refine TL.nil ?_
    refine S.n ?_
    refine TC.cond rfl (fun _ => ?_) (fun h => Bool.noConfusion h)
    refine TC.seq ?_
    refine TC.region ?_
    refine TL.v rfl (OpVal.buildL rfl pl25 ze25 rfl) rfl rfl ?_
    refine TL.op rfl (OpOk.storeAll rfl sz25 rfl rfl rfl rfl rfl rfl ?_)
    refine TL.v rfl (OpVal.moveI (.inr rfl) rfl) rfl rfl ?_
    refine TL.nil ?_
    refine S.n ?_
    refine TC.ret ?_
    refine S.r ?_
    -- leaf 1 ret [h7: t13=True] H=['q6', 'q4', 'q2']
    have hc : ¬ (checkB x = true ∧ checkB y = true) := fun h => by rw [h.1] at h7; cases h7
    simp only [catR, catX, if_neg hc]
    exact retNfa (p := NfaP.zero) 0 rfl ag25 sz25 rfl rfl rfl rfl (RNfa.zero _)
  · try simp only [decide_eq_true_eq, decide_eq_false_iff_not, Bool.not_eq_true', Bool.not_eq_false', Bool.not_eq_eq_eq_not, Bool.not_true, Bool.not_false, Int.not_lt, Int.not_le, Decidable.not_not] at h7
    refine TL.gv rfl rfl rfl rfl rfl (OpVal.loadAll rfl ag25 sz25 rfl (i := 1) rfl rfl) rfl rfl ?_
    refine TL.gon rfl rfl rfl rfl rfl (OpOk.callP (right_con _ _ _ (by first | exact hx | exact hy)) rfl rfl pf57 rfl rfl rfl ?_)
    refine TL.gv rfl rfl rfl rfl rfl (OpVal.not rfl rfl) rfl rfl ?_
    refine TL.v rfl (OpVal.pickFB rfl rfl rfl) rfl rfl ?_
    refine TL.nil ?_
    refine S.n ?_
    refine TC.cond rfl (fun h8 => ?_) (fun h8 => ?_)
    · try simp only [decide_eq_true_eq, decide_eq_false_iff_not, Bool.not_eq_true', Bool.not_eq_false', Bool.not_eq_eq_eq_not, Bool.not_true, Bool.not_false, Int.not_lt, Int.not_le, Decidable.not_not] at h8
      refine TC.seq ?_
      refine TC.region ?_
      refine TL.v rfl (OpVal.buildL rfl pl25 ze25 rfl) rfl rfl ?_
      refine TL.op rfl (OpOk.storeAll rfl sz25 rfl rfl rfl rfl rfl rfl ?_)
      refine TL.v rfl (OpVal.moveI (.inr rfl) rfl) rfl rfl ?_
      refine TL.nil ?_
      refine S.n ?_
      refine TC.ret ?_
      refine S.r ?_
      -- leaf 2 ret [h7: t13=False; h8: True] H=['q6', 'q4', 'q2']
      have hc : ¬ (checkB x = true ∧ checkB y = true) := fun h => by rw [h.2] at h8; cases h8
      simp only [catR, catX, if_neg hc]
      exact retNfa (p := NfaP.zero) 0 rfl ag25 sz25 rfl rfl rfl rfl (RNfa.zero _)
    · try simp only [decide_eq_true_eq, decide_eq_false_iff_not, Bool.not_eq_true', Bool.not_eq_false', Bool.not_eq_eq_eq_not, Bool.not_true, Bool.not_false, Int.not_lt, Int.not_le, Decidable.not_not] at h8
      refine TC.skip ?_
      refine S.n ?_
      refine TC.seq ?_
      have hcx : checkB x = true := by first | assumption | (simp at *; assumption)
      have hcy : checkB y = true := by first | assumption | (simp at *; assumption)
      obtain ⟨k1, k2, k3, k4, k5, k6⟩ := checkB_spec hcx
      obtain ⟨l1, l2, l3, l4, l5, l6⟩ := checkB_spec hcy
      have lx := checkB_len hcx
      have ly := checkB_len hcy
      have hl3 := shiftL_len y.starts x.states
      have hl4 := shiftL_len y.ends x.states
      have hl5 := shiftE_len y.edges x.states
      refine TC.region ?_
      refine TL.v rfl (OpVal.fieldLoc rfl fo25_1 rfl) rfl rfl ?_
      refine TL.v rfl (OpVal.loadLoc rfl ag22 rfl (i := 1) rfl rfl) rfl rfl ?_
      refine TL.v rfl (OpVal.fieldLoc rfl fo25_0 rfl) rfl rfl ?_
      refine TL.v rfl (OpVal.loadLoc rfl ag3 rfl (i := 2) rfl rfl) rfl rfl ?_
      refine TL.op rfl (OpOk.callR (rshift_con _ _ _ _ _ (by first | exact hy.s | exact hy.e) ⟨k1, by omega⟩ (fun u hu => by first | (have := l4 u hu; omega) | (have := l5 u hu; omega)) (by omega)) rfl rfl pf67 rfl rfl rfl (fun a9 c10 => ?_))
      refine TL.v rfl (OpVal.moveSl (.inr rfl) rfl) rfl rfl ?_
      refine TL.nil ?_
      refine S.n ?_
      refine TC.sealS encI_len (fun τ14 hle13 hr12 => ?_)
      replace hx := hx.mono hle13
      replace hy := hy.mono hle13
      replace hd := hd.mono hle13
      refine TC.cutF (α := Nat × Option Addr × Nat × Option Addr × Nat) [7, 24, 25, 26, 27, 28, 29, 30, 31, 32, 33, 34, 35, 36, 37] (fun g => [(7, loc g.1 0)]) (fun g => [Res.cells g.1 #[.int .i64 (x.states + y.states), .slice g.2.1 (x.starts ++ []).length g.2.2.1, .slice g.2.2.2.1 (shiftL y.ends x.states).length g.2.2.2.2, .slice none 0 0] 25, Res.rowS 3 1 encI (.slice g.2.1 (x.starts ++ []).length g.2.2.1) (x.starts ++ []), Res.rowS 3 1 encI (.slice g.2.2.2.1 (shiftL y.ends x.states).length g.2.2.2.2) (shiftL y.ends x.states), Res.cells b5 (nfaA Nfa.zero NfaP.zero) 25, Res.cells b3 (nfaA y q) 25, Res.cells b1 (nfaA x p) 25]) (fun _ => τ14) (fun _ => True) ?_ (fun g j hg => ?_)
      · skip
        refine TC.draw [15] (by kernel_rfl) ?_
        refine TA.takeP 0 rfl (by kernel_rfl) (by kernel_rfl) (by kernel_rfl) rfl (OpVal.fieldLoc rfl fo25_0 rfl) rfl rfl ?_
        refine TA.take 1 rfl (by kernel_rfl) (by kernel_rfl) (by kernel_rfl) (by kernel_rfl) rfl (OpVal.loadLoc rfl ag3 rfl (i := 2) rfl rfl) rfl rfl ?_
        refine TA.takeP 2 rfl (by kernel_rfl) (by kernel_rfl) (by kernel_rfl) rfl (OpVal.fieldLoc rfl fo25_0 rfl) rfl rfl ?_
        refine TA.take 3 rfl (by kernel_rfl) (by kernel_rfl) (by kernel_rfl) (by kernel_rfl) rfl (OpVal.loadLoc rfl ag3 rfl (i := 1) rfl rfl) rfl rfl ?_
        refine TA.takeP 4 rfl (by kernel_rfl) (by kernel_rfl) (by kernel_rfl) rfl (OpVal.add rfl rfl rfl (by omega) (by omega)) rfl rfl ?_
        refine TA.takeP 5 rfl (by kernel_rfl) (by kernel_rfl) (by kernel_rfl) rfl (OpVal.fieldLoc rfl fo25_1 rfl) rfl rfl ?_
        refine TA.take 6 rfl (by kernel_rfl) (by kernel_rfl) (by kernel_rfl) (by kernel_rfl) rfl (OpVal.loadLoc rfl ag22 rfl (i := 2) rfl rfl) rfl rfl ?_
        refine TA.takeP 8 rfl (by kernel_rfl) (by kernel_rfl) (by kernel_rfl) rfl (OpVal.fieldLoc rfl fo25_2 rfl) rfl rfl ?_
        refine TA.take 9 rfl (by kernel_rfl) (by kernel_rfl) (by kernel_rfl) (by kernel_rfl) rfl (OpVal.loadLoc rfl ag22 rfl (i := 1) rfl rfl) rfl rfl ?_
        refine TA.takeP 10 rfl (by kernel_rfl) (by kernel_rfl) (by kernel_rfl) rfl (OpVal.fieldLoc rfl fo25_0 rfl) rfl rfl ?_
        refine TA.take 11 rfl (by kernel_rfl) (by kernel_rfl) (by kernel_rfl) (by kernel_rfl) rfl (OpVal.loadLoc rfl ag3 rfl (i := 2) rfl rfl) rfl rfl ?_
        refine TA.act2 7 14 (by kernel_rfl) rfl rfl rfl rfl (OpOk.callR (rboth_con _ _ _ _ none 0 [] hx.s ⟨RV.nil _ 1, encI_len⟩ (by omega) (by decide)) rfl rfl pf68 rfl rfl rfl (fun a15 c16 => ⟨(fun w h => sees_of (by first | exact Store.le.refl _ | assumption) (fun r hr => (List.mem_cons_of_mem _ hr)) w h), ?_⟩)) (OpOk.alloc rfl ze25 rfl rfl (fun b18 => ⟨(fun w h => sees_of (by first | exact Store.le.refl _ | assumption) (fun r hr => (List.mem_cons_of_mem _ hr)) w h), ?_⟩))
        · skip
          refine TA.act2 12 14 (by kernel_rfl) rfl rfl rfl rfl (OpOk.callR (rshift_con _ _ _ _ _ (by first | exact hy.s | exact hy.e) ⟨k1, by omega⟩ (fun u hu => by first | (have := l4 u hu; omega) | (have := l5 u hu; omega)) (by omega)) rfl rfl pf67 rfl rfl rfl (fun a20 c21 => ⟨(fun w h => sees_of (by first | exact Store.le.refl _ | assumption) (fun r hr => (List.mem_cons_of_mem _ (List.mem_cons_of_mem _ hr))) w h), ?_⟩)) (OpOk.alloc rfl ze25 rfl rfl (fun b23 => ⟨(fun w h => sees_of (by first | exact Store.le.refl _ | assumption) (fun r hr => (List.mem_cons_of_mem _ (List.mem_cons_of_mem _ hr))) w h), ?_⟩))
          · skip
            refine TA.takeP 13 rfl (by kernel_rfl) (by kernel_rfl) (by kernel_rfl) rfl (OpVal.buildL rfl pl25 ze25 rfl) rfl rfl ?_
            refine TA.act 14 (by kernel_rfl) rfl rfl (OpOk.alloc rfl ze25 rfl rfl (fun b25 => ⟨(fun w h => sees_of (by first | exact Store.le.refl _ | assumption) (fun r hr => (List.mem_cons_of_mem _ (List.mem_cons_of_mem _ (List.mem_cons_of_mem _ hr)))) w h), ?_⟩))
            refine TA.last 15 (by kernel_rfl) rfl rfl rfl (OpOk.storeAll rfl sz25 rfl rfl rfl rfl rfl rfl ?_)
            refine TZ.front 5 rfl rfl ?_
            refine TZ.front 5 rfl rfl ?_
            refine TZ.front 5 rfl rfl ?_
            refine TZ.front 4 rfl rfl ?_
            refine TZ.front 5 rfl rfl ?_
            refine TZ.front 5 rfl rfl ?_
            refine TZ.done (by kernel_rfl) ?_
            refine S.n ?_
            -- leaf 3 cut [h7: t13=False; h8: False] H=['q26', 'q17', 'q22', 'q6', 'q4', 'q2']
            refine ⟨by repeat (first | exact Agr.refl _ _ | exact Agr.mask | refine Agr.upd rfl ?_), (b25, a15, c16, a20, c21), ?_, ?_, ?_, ?_⟩
            · first | exact True.intro | omega | (dsimp only; omega) | (simp; done) | (simp; omega)
            · repeat (first | exact trivial | refine ⟨rfl, ?_⟩)
            · rfl
            · rfl
          · skip
            refine TA.act 12 (by kernel_rfl) rfl rfl (OpOk.callR (rshift_con _ _ _ _ _ (by first | exact hy.s | exact hy.e) ⟨k1, by omega⟩ (fun u hu => by first | (have := l4 u hu; omega) | (have := l5 u hu; omega)) (by omega)) rfl rfl pf67 rfl rfl rfl (fun a27 c28 => ⟨(fun w h => sees_of (by first | exact Store.le.refl _ | assumption) (fun r hr => (List.mem_cons_of_mem _ (List.mem_cons_of_mem _ (List.mem_cons_of_mem _ hr)))) w h), ?_⟩))
            refine TA.takeP 13 rfl (by kernel_rfl) (by kernel_rfl) (by kernel_rfl) rfl (OpVal.buildL rfl pl25 ze25 rfl) rfl rfl ?_
            refine TA.front 1 rfl rfl ?_
            refine TA.last 15 (by kernel_rfl) rfl rfl rfl (OpOk.storeAll rfl sz25 rfl rfl rfl rfl rfl rfl ?_)
            refine TZ.front 5 rfl rfl ?_
            refine TZ.front 5 rfl rfl ?_
            refine TZ.front 5 rfl rfl ?_
            refine TZ.front 4 rfl rfl ?_
            refine TZ.front 5 rfl rfl ?_
            refine TZ.front 5 rfl rfl ?_
            refine TZ.done (by kernel_rfl) ?_
            refine S.n ?_
            -- leaf 4 cut [h7: t13=False; h8: False] H=['q24', 'q17', 'q29', 'q6', 'q4', 'q2']
            refine ⟨by repeat (first | exact Agr.refl _ _ | exact Agr.mask | refine Agr.upd rfl ?_), (b23, a15, c16, a27, c28), ?_, ?_, ?_, ?_⟩
            · first | exact True.intro | omega | (dsimp only; omega) | (simp; done) | (simp; omega)
            · repeat (first | exact trivial | refine ⟨rfl, ?_⟩)
            · rfl
            · rfl
        · skip
          refine TA.act 7 (by kernel_rfl) rfl rfl (OpOk.callR (rboth_con _ _ _ _ none 0 [] hx.s ⟨RV.nil _ 1, encI_len⟩ (by omega) (by decide)) rfl rfl pf68 rfl rfl rfl (fun a30 c31 => ⟨(fun w h => sees_of (by first | exact Store.le.refl _ | assumption) (fun r hr => (List.mem_cons_of_mem _ (List.mem_cons_of_mem _ hr))) w h), ?_⟩))
          refine TA.act 12 (by kernel_rfl) rfl rfl (OpOk.callR (rshift_con _ _ _ _ _ (by first | exact hy.s | exact hy.e) ⟨k1, by omega⟩ (fun u hu => by first | (have := l4 u hu; omega) | (have := l5 u hu; omega)) (by omega)) rfl rfl pf67 rfl rfl rfl (fun a33 c34 => ⟨(fun w h => sees_of (by first | exact Store.le.refl _ | assumption) (fun r hr => (List.mem_cons_of_mem _ (List.mem_cons_of_mem _ (List.mem_cons_of_mem _ hr)))) w h), ?_⟩))
          refine TA.takeP 13 rfl (by kernel_rfl) (by kernel_rfl) (by kernel_rfl) rfl (OpVal.buildL rfl pl25 ze25 rfl) rfl rfl ?_
          refine TA.front 2 rfl rfl ?_
          refine TA.last 15 (by kernel_rfl) rfl rfl rfl (OpOk.storeAll rfl sz25 rfl rfl rfl rfl rfl rfl ?_)
          refine TZ.front 5 rfl rfl ?_
          refine TZ.front 5 rfl rfl ?_
          refine TZ.front 5 rfl rfl ?_
          refine TZ.front 4 rfl rfl ?_
          refine TZ.front 5 rfl rfl ?_
          refine TZ.front 5 rfl rfl ?_
          refine TZ.done (by kernel_rfl) ?_
          refine S.n ?_
          -- leaf 5 cut [h7: t13=False; h8: False] H=['q19', 'q32', 'q35', 'q6', 'q4', 'q2']
          refine ⟨by repeat (first | exact Agr.refl _ _ | exact Agr.mask | refine Agr.upd rfl ?_), (b18, a30, c31, a33, c34), ?_, ?_, ?_, ?_⟩
          · first | exact True.intro | omega | (dsimp only; omega) | (simp; done) | (simp; omega)
          · repeat (first | exact trivial | refine ⟨rfl, ?_⟩)
          · rfl
          · rfl
      · skip
        obtain ⟨gb, ga1, gc1, ga2, gc2⟩ := g
        dsimp only
        refine TC.seq ?_
        refine TC.seq ?_
        refine TC.region ?_
        refine TL.v rfl (OpVal.loadAll rfl ag25 sz25 rfl (i := 5) rfl rfl) rfl rfl ?_
        refine TL.op rfl (OpOk.callP (empty_con _ _ _ (by first | exact hx | exact hy)) rfl rfl pf69 rfl rfl rfl ?_)
        refine TL.nilS 80 6 encE ?_
        refine TL.nil ?_
        refine S.n ?_
        refine TC.cond rfl (fun h40 => ?_) (fun h40 => ?_)
        · try simp only [decide_eq_true_eq, decide_eq_false_iff_not, Bool.not_eq_true', Bool.not_eq_false', Bool.not_eq_eq_eq_not, Bool.not_true, Bool.not_false, Int.not_lt, Int.not_le, Decidable.not_not] at h40
          refine TC.region ?_
          refine TL.v rfl (OpVal.fieldLoc rfl fo25_1 rfl) rfl rfl ?_
          refine TL.v rfl (OpVal.loadLoc rfl ag22 rfl (i := 6) rfl rfl) rfl rfl ?_
          refine TL.v rfl (OpVal.moveSl (.inl rfl) rfl) rfl rfl ?_
          refine TL.op rfl (OpOk.callR (rboth_con _ _ _ _ _ _ _ (by first | exact hx.s | exact hx.e) (by assumption) (by omega) (by omega)) rfl rfl pf68 rfl rfl rfl (fun a41 c42 => ?_))
          refine TL.v rfl (OpVal.fieldLoc rfl fo25_1 rfl) rfl rfl ?_
          refine TL.front 2 rfl rfl ?_
          refine TL.op rfl (OpOk.storeSl rfl sz22 rfl rfl rfl rfl rfl ?_)
          refine TL.nil ?_
          refine S.n ?_
          refine TC.seq ?_
          refine TC.seq ?_
          refine TC.region ?_
          refine TL.v rfl (OpVal.loadAll rfl ag25 sz25 rfl (i := 6) rfl rfl) rfl rfl ?_
          refine TL.op rfl (OpOk.callP (empty_con _ _ _ (by first | exact hx | exact hy)) rfl rfl pf69 rfl rfl rfl ?_)
          refine TL.nil ?_
          refine S.n ?_
          refine TC.cond rfl (fun h44 => ?_) (fun h44 => ?_)
          · try simp only [decide_eq_true_eq, decide_eq_false_iff_not, Bool.not_eq_true', Bool.not_eq_false', Bool.not_eq_eq_eq_not, Bool.not_true, Bool.not_false, Int.not_lt, Int.not_le, Decidable.not_not] at h44
            refine TC.front 1 rfl rfl ?_
            refine TC.sealS encI_len (fun τ47 hle46 hr45 => ?_)
            replace hx := hx.mono hle46
            replace hy := hy.mono hle46
            replace hd := hd.mono hle46
            replace hr12 := hr12.mono hle46
            refine TC.front 3 rfl rfl ?_
            refine TC.sealS encI_len (fun τ50 hle49 hr48 => ?_)
            replace hx := hx.mono hle49
            replace hy := hy.mono hle49
            replace hd := hd.mono hle49
            replace hr12 := hr12.mono hle49
            replace hr45 := hr45.mono hle49
            refine TC.region ?_
            refine TL.v rfl (OpVal.fieldLoc rfl fo25_2 rfl) rfl rfl ?_
            refine TL.v rfl (OpVal.loadLoc rfl ag22 rfl (i := 5) rfl rfl) rfl rfl ?_
            refine TL.v rfl (OpVal.fieldLoc rfl fo25_2 rfl) rfl rfl ?_
            refine TL.v rfl (OpVal.loadLoc rfl ag22 rfl (i := 0) rfl rfl) rfl rfl ?_
            refine TL.op rfl (OpOk.callR (rboth_con _ _ _ _ _ _ _ (by first | exact hx.s | exact hx.e) (by assumption) (by omega) (by omega)) rfl rfl pf68 rfl rfl rfl (fun a51 c52 => ?_))
            refine TL.v rfl (OpVal.fieldLoc rfl fo25_2 rfl) rfl rfl ?_
            refine TL.front 1 rfl rfl ?_
            refine TL.op rfl (OpOk.storeSl rfl sz22 rfl rfl rfl rfl rfl ?_)
            refine TL.nil ?_
            refine S.n ?_
            refine TC.seq ?_
            refine TC.front 1 rfl rfl ?_
            refine TC.sealS encI_len (fun τ56 hle55 hr54 => ?_)
            replace hx := hx.mono hle55
            replace hy := hy.mono hle55
            replace hd := hd.mono hle55
            replace hr12 := hr12.mono hle55
            replace hr45 := hr45.mono hle55
            replace hr48 := hr48.mono hle55
            refine TC.front 2 rfl rfl ?_
            refine TC.sealS encI_len (fun τ59 hle58 hr57 => ?_)
            replace hx := hx.mono hle58
            replace hy := hy.mono hle58
            replace hd := hd.mono hle58
            replace hr12 := hr12.mono hle58
            replace hr45 := hr45.mono hle58
            replace hr48 := hr48.mono hle58
            replace hr54 := hr54.mono hle58
            refine TC.region ?_
            refine TL.v rfl (OpVal.fieldLoc rfl fo25_3 rfl) rfl rfl ?_
            refine TL.v rfl (OpVal.loadLoc rfl ag23 rfl (i := 0) rfl rfl) rfl rfl ?_
            refine TL.v rfl (OpVal.fieldLoc rfl fo25_3 rfl) rfl rfl ?_
            refine TL.v rfl (OpVal.loadLoc rfl ag23 rfl (i := 4) rfl rfl) rfl rfl ?_
            refine TL.front 1 rfl rfl ?_
            refine TL.op rfl (OpOk.appendS rfl rfl Try.underlying23 sz80 by80 ze80 rfl rfl (by decide) rfl rfl rfl (.inl (by assumption)) (by (try simp only [List.length_cons, List.length_nil, List.length_append]); omega) (by decide) (fun a60 c61 => ?_))
            refine TL.v rfl (OpVal.fieldLoc rfl fo25_3 rfl) rfl rfl ?_
            refine TL.front 1 rfl rfl ?_
            refine TL.op rfl (OpOk.storeSl rfl sz23 rfl rfl rfl rfl rfl ?_)
            refine TL.nil ?_
            refine S.n ?_
            refine TC.seq ?_
            refine TC.draw [7, 8, 9] (by kernel_rfl) ?_
            refine TA.takeP 0 rfl (by kernel_rfl) (by kernel_rfl) (by kernel_rfl) rfl (OpVal.fieldLoc rfl fo25_3 rfl) rfl rfl ?_
            refine TA.take 1 rfl (by kernel_rfl) (by kernel_rfl) (by kernel_rfl) (by kernel_rfl) rfl (OpVal.loadLoc rfl ag23 rfl (i := 0) rfl rfl) rfl rfl ?_
            refine TA.takeP 2 rfl (by kernel_rfl) (by kernel_rfl) (by kernel_rfl) rfl (OpVal.fieldLoc rfl fo25_3 rfl) rfl rfl ?_
            refine TA.take 3 rfl (by kernel_rfl) (by kernel_rfl) (by kernel_rfl) (by kernel_rfl) rfl (OpVal.loadLoc rfl ag23 rfl (i := 3) rfl rfl) rfl rfl ?_
            refine TA.takeP 4 rfl (by kernel_rfl) (by kernel_rfl) (by kernel_rfl) rfl (OpVal.fieldLoc rfl fo25_0 rfl) rfl rfl ?_
            refine TA.take 5 rfl (by kernel_rfl) (by kernel_rfl) (by kernel_rfl) (by kernel_rfl) rfl (OpVal.loadLoc rfl ag3 rfl (i := 4) rfl rfl) rfl rfl ?_
            refine TA.act 6 (by kernel_rfl) rfl rfl (OpOk.callR (shifted_con _ _ _ _ _ hy.d ⟨k1, by omega⟩ (fun u hu => by have := l6 u hu; omega) (by omega)) rfl rfl pf70 rfl rfl rfl (fun a62 c63 => ⟨(fun w h => sees_of (by first | exact Store.le.refl _ | assumption) (fun r hr => (List.mem_cons_of_mem _ hr)) w h), ?_⟩))
            refine TA.front 2 rfl rfl ?_
            refine TA.last 7 (by kernel_rfl) rfl rfl rfl (OpOk.appendS rfl rfl Try.underlying23 sz80 by80 ze80 rfl rfl (by decide) rfl rfl rfl (.inr ⟨_, 0, rfl⟩) (by (try simp only [List.length_cons, List.length_nil, List.length_append]); omega) (by decide) (fun a65 c66 => ?_))
            refine TZ.v 8 (by kernel_rfl) rfl rfl rfl (OpVal.fieldLoc rfl fo25_3 rfl) rfl rfl ?_
            refine TZ.front 2 rfl rfl ?_
            refine TZ.last 9 (by kernel_rfl) rfl rfl rfl (OpOk.storeSl rfl sz23 rfl rfl rfl rfl rfl ?_)
            refine TZ.done (by kernel_rfl) ?_
            refine S.n ?_
            refine TC.seq ?_
            refine TC.seq ?_
            refine TC.region ?_
            refine TL.v rfl (OpVal.moveI (.inr rfl) rfl) rfl rfl ?_
            refine TL.nil ?_
            refine S.n ?_
            refine TC.block ?_
            refine TC.loopF (α := Nat × Option Addr × Nat) [8, 9, 68, 69, 70, 71, 72, 73, 74, 75, 76, 77, 78, 79, 80, 81, 82, 83, 84, 85, 86, 87, 88, 89, 90, 91, 92, 93, 94, 95, 96, 97, 98, 99, 100, 101, 102, 103, 104, 105, 106, 107, 108, 109, 110, 111, 112, 113, 114, 115, 116, 117] (fun g => [(8, .int .i64 (g.1 : Nat))]) (fun g => [Res.cells gb #[.int .i64 (x.states + y.states), .slice a41 _ c42, .slice a51 _ c52, .slice g.2.1 (catTo x y g.1).length g.2.2] 25, Res.rowS 80 6 encE (.slice g.2.1 (catTo x y g.1).length g.2.2) (catTo x y g.1), Res.rowS 80 6 encE (.slice a62 (shiftE y.edges x.states).length c63) (shiftE y.edges x.states), Res.cells b5 (nfaA Nfa.zero NfaP.zero) 25, Res.cells b3 (nfaA y q) 25, Res.cells b1 (nfaA x p) 25]) (fun _ => _) (fun g => g.1 ≤ x.edges.length) (fun g => x.edges.length - g.1) ((0, a65, c66)) (by first | exact True.intro | omega | (dsimp only; omega) | (simp; done) | (simp; omega)) (by repeat (first | exact trivial | refine ⟨rfl, ?_⟩)) (by rw [show catTo x y 0 = [] ++ x.edges ++ shiftE y.edges x.states from by rw [catTo_zero, List.nil_append]]; rfl) (by rfl) (fun g1 j1 hg1 => ?_)
            obtain ⟨g1, xa, xc⟩ := g1
            dsimp only
            have hg1 : g1 ≤ x.edges.length := hg1
            have hl2 := catTo_len x y g1 hg1 (by omega) (by omega) (by omega)
            refine TC.seq ?_
            refine TC.seq ?_
            refine TC.region ?_
            refine TL.v rfl (OpVal.moveI (.inl rfl) rfl) rfl rfl ?_
            refine TL.v rfl (OpVal.fieldLoc rfl fo25_3 rfl) rfl rfl ?_
            refine TL.v rfl (OpVal.loadLoc rfl ag23 rfl (i := 5) rfl rfl) rfl rfl ?_
            refine TL.v rfl (OpVal.lenC rfl Try.underlying23 rfl) rfl rfl ?_
            refine TL.v rfl (OpVal.lss rfl rfl rfl) rfl rfl ?_
            refine TL.v rfl (OpVal.moveB (.inl rfl) rfl) rfl rfl ?_
            refine TL.split 73 rfl (fun h67 => ?_) (fun h67 => ?_)
            · try simp only [decide_eq_true_eq, decide_eq_false_iff_not, Bool.not_eq_true', Bool.not_eq_false', Bool.not_eq_eq_eq_not, Bool.not_true, Bool.not_false, Int.not_lt, Int.not_le, Decidable.not_not] at h67
              refine TL.gv rfl rfl rfl rfl rfl (OpVal.fieldLoc rfl fo25_3 rfl) rfl rfl ?_
              refine TL.gv rfl rfl rfl rfl rfl (OpVal.loadLoc rfl ag23 rfl (i := 0) rfl rfl) rfl rfl ?_
              refine TL.gv rfl rfl rfl rfl rfl (OpVal.lenC rfl Try.underlying23 rfl) rfl rfl ?_
              refine TL.gv rfl rfl rfl rfl rfl (OpVal.leq rfl rfl rfl) rfl rfl ?_
              refine TL.v rfl (OpVal.pickTB rfl rfl rfl) rfl rfl ?_
              refine TL.nil ?_
              refine S.n ?_
              refine TC.condD rfl (fun h68 => ?_) (fun h68 => ?_)
              · try simp only [decide_eq_true_eq, decide_eq_false_iff_not, Bool.not_eq_true', Bool.not_eq_false', Bool.not_eq_eq_eq_not, Bool.not_true, Bool.not_false, Int.not_lt, Int.not_le, Decidable.not_not] at h68
                refine TC.skip ?_
                refine S.n ?_
                refine TC.seq ?_
                refine TC.block ?_
                refine TC.seq ?_
                refine TC.draw [] (by kernel_rfl) ?_
                refine TA.takeP 0 rfl (by kernel_rfl) (by kernel_rfl) (by kernel_rfl) rfl (OpVal.fieldLoc rfl fo25_3 rfl) rfl rfl ?_
                refine TA.take 1 rfl (by kernel_rfl) (by kernel_rfl) (by kernel_rfl) (by kernel_rfl) rfl (OpVal.loadLoc rfl ag23 rfl (i := 5) rfl rfl) rfl rfl ?_
                refine TA.takeP 2 rfl (by kernel_rfl) (by kernel_rfl) (by kernel_rfl) rfl (OpVal.moveI (.inl rfl) rfl) rfl rfl ?_
                refine TA.takeP 3 rfl (by kernel_rfl) (by kernel_rfl) (by kernel_rfl) rfl (OpVal.indexN rfl Try.underlying23 sz80 rfl rfl (by first | assumption | exact (RS.rv (by assumption)).sl) (by omega)) rfl rfl ?_
                refine TA.takeP 4 rfl (by kernel_rfl) (by kernel_rfl) (by kernel_rfl) rfl (OpVal.fieldElem rfl fo80_1 rfl (by first | assumption | exact (RS.rv (by assumption)).sl) (by omega)) rfl rfl ?_
                refine TA.take 5 rfl (by kernel_rfl) (by kernel_rfl) (by kernel_rfl) (by kernel_rfl) rfl (OpVal.loadS Arrow.zero rfl ag3 rfl (by assumption) (by omega) (by omega) rfl) rfl rfl ?_
                refine TA.takeP 6 rfl (by kernel_rfl) (by kernel_rfl) (by kernel_rfl) rfl (OpVal.fieldLoc rfl fo25_2 rfl) rfl rfl ?_
                refine TA.take 7 rfl (by kernel_rfl) (by kernel_rfl) (by kernel_rfl) (by kernel_rfl) rfl (OpVal.loadLoc rfl ag22 rfl (i := 5) rfl rfl) rfl rfl ?_
                refine TA.act 8 (by kernel_rfl) rfl rfl (OpOk.callP (in_con _ _ _ _ _ hx.e) rfl rfl pf59 rfl rfl rfl ⟨(fun w h => sees_of (by first | exact Store.le.refl _ | assumption) (fun r hr => hr) w h), ?_⟩)
                refine TA.done (by kernel_rfl) ?_
                refine S.n ?_
                refine TC.cond rfl (fun h69 => ?_) (fun h69 => ?_)
                · try simp only [decide_eq_true_eq, decide_eq_false_iff_not, Bool.not_eq_true', Bool.not_eq_false', Bool.not_eq_eq_eq_not, Bool.not_true, Bool.not_false, Int.not_lt, Int.not_le, Decidable.not_not] at h69
                  refine TC.seq ?_
                  refine TC.region ?_
                  refine TL.v rfl (OpVal.moveI (.inr rfl) rfl) rfl rfl ?_
                  refine TL.nil ?_
                  refine S.n ?_
                  refine TC.block ?_
                  refine TC.loopF (α := Nat × Option Addr × Nat) [9, 90, 91, 92, 93, 94, 95, 96, 97, 98, 99, 100, 101, 102, 103, 104, 105, 106, 107, 108, 109, 110, 111, 112, 113, 114, 115, 116, 117] (fun g => [(9, .int .i64 (g.1 : Nat))]) (fun g => [Res.cells gb #[.int .i64 (x.states + y.states), .slice a41 _ c42, .slice a51 _ c52, .slice g.2.1 (catTo x y g1 ++ catPut (nth x.edges g1 Arrow.zero) ((shiftL y.starts x.states).take g.1)).length g.2.2] 25, Res.rowS 80 6 encE (.slice g.2.1 (catTo x y g1 ++ catPut (nth x.edges g1 Arrow.zero) ((shiftL y.starts x.states).take g.1)).length g.2.2) (catTo x y g1 ++ catPut (nth x.edges g1 Arrow.zero) ((shiftL y.starts x.states).take g.1)), Res.rowS 80 6 encE (.slice a62 (shiftE y.edges x.states).length c63) (shiftE y.edges x.states), Res.cells b5 (nfaA Nfa.zero NfaP.zero) 25, Res.cells b3 (nfaA y q) 25, Res.cells b1 (nfaA x p) 25]) (fun _ => _) (fun g => g.1 ≤ y.starts.length) (fun g => y.starts.length - g.1) ((0, xa, xc)) (by first | exact True.intro | omega | (dsimp only; omega) | (simp; done) | (simp; omega)) (by repeat (first | exact trivial | refine ⟨rfl, ?_⟩)) (by rw [show catTo x y g1 ++ catPut (nth x.edges g1 Arrow.zero) ((shiftL y.starts x.states).take 0) = catTo x y g1 from List.append_nil _]) (by rfl) (fun g2 j2 hg2 => ?_)
                  obtain ⟨g2, ya, yc⟩ := g2
                  dsimp only
                  have hg2 : g2 ≤ y.starts.length := hg2
                  have hcl := catPut_len (nth x.edges g1 Arrow.zero) ((shiftL y.starts x.states).take g2)
                  have hct : ((shiftL y.starts x.states).take g2).length = min g2 (shiftL y.starts x.states).length := List.length_take
                  refine TC.seq ?_
                  refine TC.seq ?_
                  refine TC.region ?_
                  refine TL.v rfl (OpVal.moveI (.inl rfl) rfl) rfl rfl ?_
                  refine TL.v rfl (OpVal.moveSl (.inl rfl) rfl) rfl rfl ?_
                  refine TL.v rfl (OpVal.lenC rfl Try.underlying22 rfl) rfl rfl ?_
                  refine TL.v rfl (OpVal.lss rfl rfl rfl) rfl rfl ?_
                  refine TL.nil ?_
                  refine S.n ?_
                  refine TC.condD rfl (fun h70 => ?_) (fun h70 => ?_)
                  · try simp only [decide_eq_true_eq, decide_eq_false_iff_not, Bool.not_eq_true', Bool.not_eq_false', Bool.not_eq_eq_eq_not, Bool.not_true, Bool.not_false, Int.not_lt, Int.not_le, Decidable.not_not] at h70
                    refine TC.skip ?_
                    refine S.n ?_
                    refine TC.seq ?_
                    refine TC.block ?_
                    refine TC.draw [20, 21, 22] (by kernel_rfl) ?_
                    refine TA.takeP 0 rfl (by kernel_rfl) (by kernel_rfl) (by kernel_rfl) rfl (OpVal.fieldLoc rfl fo25_3 rfl) rfl rfl ?_
                    refine TA.take 1 rfl (by kernel_rfl) (by kernel_rfl) (by kernel_rfl) (by kernel_rfl) rfl (OpVal.loadLoc rfl ag23 rfl (i := 0) rfl rfl) rfl rfl ?_
                    refine TA.takeP 2 rfl (by kernel_rfl) (by kernel_rfl) (by kernel_rfl) rfl (OpVal.fieldLoc rfl fo25_3 rfl) rfl rfl ?_
                    refine TA.take 3 rfl (by kernel_rfl) (by kernel_rfl) (by kernel_rfl) (by kernel_rfl) rfl (OpVal.loadLoc rfl ag23 rfl (i := 5) rfl rfl) rfl rfl ?_
                    refine TA.takeP 4 rfl (by kernel_rfl) (by kernel_rfl) (by kernel_rfl) rfl (OpVal.moveI (.inl rfl) rfl) rfl rfl ?_
                    refine TA.takeP 5 rfl (by kernel_rfl) (by kernel_rfl) (by kernel_rfl) rfl (OpVal.indexN rfl Try.underlying23 sz80 rfl rfl (by first | assumption | exact (RS.rv (by assumption)).sl) (by omega)) rfl rfl ?_
                    refine TA.takeP 6 rfl (by kernel_rfl) (by kernel_rfl) (by kernel_rfl) rfl (OpVal.fieldElem rfl fo80_0 rfl (by first | assumption | exact (RS.rv (by assumption)).sl) (by omega)) rfl rfl ?_
                    refine TA.take 7 rfl (by kernel_rfl) (by kernel_rfl) (by kernel_rfl) (by kernel_rfl) rfl (OpVal.loadS Arrow.zero rfl ag3 rfl (by assumption) (by omega) (by omega) rfl) rfl rfl ?_
                    refine TA.takeP 8 rfl (by kernel_rfl) (by kernel_rfl) (by kernel_rfl) rfl (OpVal.moveSl (.inl rfl) rfl) rfl rfl ?_
                    refine TA.takeP 9 rfl (by kernel_rfl) (by kernel_rfl) (by kernel_rfl) rfl (OpVal.moveI (.inl rfl) rfl) rfl rfl ?_
                    refine TA.takeP 10 rfl (by kernel_rfl) (by kernel_rfl) (by kernel_rfl) rfl (OpVal.indexN rfl Try.underlying22 sz3 rfl rfl (by first | assumption | exact (RS.rv (by assumption)).sl) (by omega)) rfl rfl ?_
                    refine TA.take 11 rfl (by kernel_rfl) (by kernel_rfl) (by kernel_rfl) (by kernel_rfl) rfl (OpVal.loadS1 (0 : Int) rfl ag3 rfl (by assumption) (by omega) rfl) rfl rfl ?_
                    refine TA.takeP 12 rfl (by kernel_rfl) (by kernel_rfl) (by kernel_rfl) rfl (OpVal.fieldLoc rfl fo25_3 rfl) rfl rfl ?_
                    refine TA.take 13 rfl (by kernel_rfl) (by kernel_rfl) (by kernel_rfl) (by kernel_rfl) rfl (OpVal.loadLoc rfl ag23 rfl (i := 5) rfl rfl) rfl rfl ?_
                    refine TA.takeP 14 rfl (by kernel_rfl) (by kernel_rfl) (by kernel_rfl) rfl (OpVal.moveI (.inl rfl) rfl) rfl rfl ?_
                    refine TA.takeP 15 rfl (by kernel_rfl) (by kernel_rfl) (by kernel_rfl) rfl (OpVal.indexN rfl Try.underlying23 sz80 rfl rfl (by first | assumption | exact (RS.rv (by assumption)).sl) (by omega)) rfl rfl ?_
                    refine TA.takeP 16 rfl (by kernel_rfl) (by kernel_rfl) (by kernel_rfl) rfl (OpVal.fieldElem rfl fo80_2 rfl (by first | assumption | exact (RS.rv (by assumption)).sl) (by omega)) rfl rfl ?_
                    refine TA.take 17 rfl (by kernel_rfl) (by kernel_rfl) (by kernel_rfl) (by kernel_rfl) rfl (OpVal.loadSub Arrow.zero rfl ag28 sz28 rfl (by assumption) (by omega) (by omega) (by omega) rfl rfl) rfl rfl ?_
                    refine TA.takeP 18 rfl (by kernel_rfl) (by kernel_rfl) (by kernel_rfl) rfl (OpVal.buildL rfl pl80 ze80 rfl) rfl rfl ?_
                    refine TA.act 19 (by kernel_rfl) rfl rfl (OpOk.lit (enc := encE) [⟨(nth x.edges g1 Arrow.zero).frm, nth (shiftL y.starts x.states) g2 0, (nth x.edges g1 Arrow.zero).set⟩] rfl Try.underlying23 sz80 ze80 rfl rfl rfl encE_len (by decide) (by decide) Arrow.zero rfl (by decide) rfl (by decide) encE_one (fun a71 c72 => ⟨(fun w h => sees_of (by first | exact Store.le.refl _ | assumption) (fun r hr => (List.mem_cons_of_mem _ hr)) w h), ?_⟩))
                    refine TA.front 2 rfl rfl ?_
                    refine TA.last 20 (by kernel_rfl) rfl rfl rfl (OpOk.appendS rfl rfl Try.underlying23 sz80 by80 ze80 rfl rfl (by decide) rfl rfl rfl (.inr ⟨_, 0, rfl⟩) (by (try simp only [List.length_cons, List.length_nil, List.length_append]); omega) (by decide) (fun a74 c75 => ?_))
                    refine TZ.v 21 (by kernel_rfl) rfl rfl rfl (OpVal.fieldLoc rfl fo25_3 rfl) rfl rfl ?_
                    refine TZ.front 2 rfl rfl ?_
                    refine TZ.last 22 (by kernel_rfl) rfl rfl rfl (OpOk.storeSl rfl sz23 rfl rfl rfl rfl rfl ?_)
                    refine TZ.done (by kernel_rfl) ?_
                    refine B.n ?_
                    refine S.n ?_
                    refine TC.region ?_
                    refine TL.v rfl (OpVal.moveI (.inl rfl) rfl) rfl rfl ?_
                    refine TL.v rfl (OpVal.succ rfl rfl rfl (by omega)) rfl rfl ?_
                    refine TL.v rfl (OpVal.moveI (.inr rfl) rfl) rfl rfl ?_
                    refine TL.front 6 rfl rfl ?_
                    refine TL.front 6 rfl rfl ?_
                    refine TL.front 6 rfl rfl ?_
                    refine TL.front 6 rfl rfl ?_
                    refine TL.front 5 rfl rfl ?_
                    refine TL.front 5 rfl rfl ?_
                    refine TL.takeN 6 rfl ?_
                    refine TL.nil ?_
                    refine S.n ?_
                    -- leaf 6 next [h7: t13=False; h8: False; h40: True; h44: True; h67: t73=True; h68: True; h69: True; h70: True] H=['q38', 'q39', 'q64', 'q6', 'q4', 'q2']
                    refine ⟨by repeat (first | exact Agr.mask | refine Agr.upd rfl ?_ | refine Agr.maskIn rfl ?_), (g2 + 1, a74, c75), ?_, ?_, ?_, ?_, ?_⟩
                    · show y.starts.length - (g2 + 1) < y.starts.length - g2; omega
                    · show g2 + 1 ≤ y.starts.length; omega
                    · repeat (first | exact trivial | refine ⟨rfl, ?_⟩)
                    · show _ = [Res.cells _ #[_, _, _, .slice _ (catTo x y g1 ++ catPut (nth x.edges g1 Arrow.zero) ((shiftL y.starts x.states).take (g2 + 1))).length _] _, Res.rowS _ _ _ (.slice _ (catTo x y g1 ++ catPut (nth x.edges g1 Arrow.zero) ((shiftL y.starts x.states).take (g2 + 1))).length _) (catTo x y g1 ++ catPut (nth x.edges g1 Arrow.zero) ((shiftL y.starts x.states).take (g2 + 1))), _, _, _, _]
                      rw [catPut_snoc (by omega), ← List.append_assoc]; rfl
                    · rfl
                  · try simp only [decide_eq_true_eq, decide_eq_false_iff_not, Bool.not_eq_true', Bool.not_eq_false', Bool.not_eq_eq_eq_not, Bool.not_true, Bool.not_false, Int.not_lt, Int.not_le, Decidable.not_not] at h70
                    refine TC.exit ?_
                    refine S.x ?_
                    refine S.x ?_
                    refine TC.exitHere ?_
                    refine B.n ?_
                    refine S.n ?_
                    refine TC.region ?_
                    refine TL.v rfl (OpVal.moveI (.inl rfl) rfl) rfl rfl ?_
                    refine TL.v rfl (OpVal.succ rfl rfl rfl (by omega)) rfl rfl ?_
                    refine TL.v rfl (OpVal.moveI (.inr rfl) rfl) rfl rfl ?_
                    refine TL.nil ?_
                    refine S.n ?_
                    -- leaf 7 next [h7: t13=False; h8: False; h40: True; h44: True; h67: t73=True; h68: True; h69: True; h70: False] H=['q38', 'q39', 'q64', 'q6', 'q4', 'q2']
                    have ht : (shiftL y.starts x.states).take g2 = shiftL y.starts x.states := List.take_of_length_le (by omega)
                    refine ⟨by repeat (first | exact Agr.mask | refine Agr.upd rfl ?_ | refine Agr.maskIn rfl ?_), (g1 + 1, ya, yc), ?_, ?_, ?_, ?_, ?_⟩
                    · show x.edges.length - (g1 + 1) < x.edges.length - g1; omega
                    · show g1 + 1 ≤ x.edges.length; omega
                    · repeat (first | exact trivial | refine ⟨rfl, ?_⟩)
                    · show _ = [Res.cells _ #[_, _, _, .slice _ (catTo x y (g1 + 1)).length _] _, Res.rowS _ _ _ (.slice _ (catTo x y (g1 + 1)).length _) (catTo x y (g1 + 1)), _, _, _, _]
                      rw [catC_t (by omega) h69, ht] <;> rfl
                    · rfl
                · try simp only [decide_eq_true_eq, decide_eq_false_iff_not, Bool.not_eq_true', Bool.not_eq_false', Bool.not_eq_eq_eq_not, Bool.not_true, Bool.not_false, Int.not_lt, Int.not_le, Decidable.not_not] at h69
                  refine TC.skip ?_
                  refine B.n ?_
                  refine S.n ?_
                  refine TC.region ?_
                  refine TL.v rfl (OpVal.moveI (.inl rfl) rfl) rfl rfl ?_
                  refine TL.v rfl (OpVal.succ rfl rfl rfl (by omega)) rfl rfl ?_
                  refine TL.v rfl (OpVal.moveI (.inr rfl) rfl) rfl rfl ?_
                  refine TL.nil ?_
                  refine S.n ?_
                  -- leaf 8 next [h7: t13=False; h8: False; h40: True; h44: True; h67: t73=True; h68: True; h69: False] H=['q38', 'q39', 'q64', 'q6', 'q4', 'q2']
                  refine ⟨by repeat (first | exact Agr.mask | refine Agr.upd rfl ?_ | refine Agr.maskIn rfl ?_), (g1 + 1, xa, xc), ?_, ?_, ?_, ?_, ?_⟩
                  · show x.edges.length - (g1 + 1) < x.edges.length - g1; omega
                  · show g1 + 1 ≤ x.edges.length; omega
                  · repeat (first | exact trivial | refine ⟨rfl, ?_⟩)
                  · show _ = [Res.cells _ #[_, _, _, .slice _ (catTo x y (g1 + 1)).length _] _, Res.rowS _ _ _ (.slice _ (catTo x y (g1 + 1)).length _) (catTo x y (g1 + 1)), _, _, _, _]
                    rw [catC_f (by omega) h69] <;> rfl
                  · rfl
              · try simp only [decide_eq_true_eq, decide_eq_false_iff_not, Bool.not_eq_true', Bool.not_eq_false', Bool.not_eq_eq_eq_not, Bool.not_true, Bool.not_false, Int.not_lt, Int.not_le, Decidable.not_not] at h68
                refine TC.exit ?_
                refine S.x ?_
                refine S.x ?_
                refine TC.exitHere ?_
                refine S.n ?_
                refine TC.seq ?_
                refine TC.front 1 rfl rfl ?_
                refine TC.sealS encE_len (fun τ78 hle77 hr76 => ?_)
                replace hx := hx.mono hle77
                replace hy := hy.mono hle77
                replace hd := hd.mono hle77
                replace hr12 := hr12.mono hle77
                replace hr45 := hr45.mono hle77
                replace hr48 := hr48.mono hle77
                replace hr54 := hr54.mono hle77
                replace hr57 := hr57.mono hle77
                refine TC.front 1 rfl rfl ?_
                refine TC.sealS encE_len (fun τ81 hle80 hr79 => ?_)
                replace hx := hx.mono hle80
                replace hy := hy.mono hle80
                replace hd := hd.mono hle80
                replace hr12 := hr12.mono hle80
                replace hr45 := hr45.mono hle80
                replace hr48 := hr48.mono hle80
                replace hr54 := hr54.mono hle80
                replace hr57 := hr57.mono hle80
                replace hr76 := hr76.mono hle80
                refine TC.region ?_
                refine TL.v rfl (OpVal.loadAll rfl ag25 sz25 rfl (i := 0) rfl rfl) rfl rfl ?_
                refine TL.op rfl (OpOk.callN (end_con _ ⟨x.states + y.states, _, _, catTo x y g1⟩ ⟨a41, c42, a51, c52, xa, xc⟩ ⟨hr45, hr54, hr76, catTo_ok hx.ok hy.ok _⟩) rfl rfl pf71 rfl rfl rfl (fun pe τ83 hle82 he => ?_))
                replace hx := hx.mono hle82
                replace hy := hy.mono hle82
                replace hd := hd.mono hle82
                replace hr12 := hr12.mono hle82
                replace hr45 := hr45.mono hle82
                replace hr48 := hr48.mono hle82
                replace hr54 := hr54.mono hle82
                replace hr57 := hr57.mono hle82
                replace hr76 := hr76.mono hle82
                replace hr79 := hr79.mono hle82
                refine TL.v rfl (OpVal.extract rfl rfl rfl) rfl rfl ?_
                refine TL.v rfl (OpVal.extract rfl rfl rfl) rfl rfl ?_
                refine TL.front 1 rfl rfl ?_
                refine TL.op rfl (OpOk.storeAll rfl sz25 rfl rfl rfl rfl rfl rfl ?_)
                refine TL.v rfl (OpVal.moveI (.inr rfl) rfl) rfl rfl ?_
                refine TL.nil ?_
                refine S.n ?_
                refine TC.ret ?_
                -- leaf 9 ret [h7: t13=False; h8: False; h40: True; h44: True; h67: t73=True; h68: False] H=['q6', 'q38', 'q4', 'q2']
                obtain ⟨e1, e2⟩ := cat_stop hcx hcy hg1 (by omega) _ _
                rw [e1, e2]
                exact retNfa (p := pe) 0 rfl ag25 sz25 rfl rfl rfl rfl he
            · try simp only [decide_eq_true_eq, decide_eq_false_iff_not, Bool.not_eq_true', Bool.not_eq_false', Bool.not_eq_eq_eq_not, Bool.not_true, Bool.not_false, Int.not_lt, Int.not_le, Decidable.not_not] at h67
              refine TL.goff rfl rfl rfl rfl rfl rfl rfl rfl ?_
              refine TL.goff rfl rfl rfl rfl rfl rfl rfl rfl ?_
              refine TL.goff rfl rfl rfl rfl rfl rfl rfl rfl ?_
              refine TL.goff rfl rfl rfl rfl rfl rfl rfl rfl ?_
              refine TL.v rfl (OpVal.pickFB rfl rfl rfl) rfl rfl ?_
              refine TL.nil ?_
              refine S.n ?_
              refine TC.cond rfl (fun h => Bool.noConfusion h) (fun _ => ?_)
              refine TC.exit ?_
              refine S.x ?_
              refine S.x ?_
              refine TC.exitHere ?_
              refine S.n ?_
              refine TC.seq ?_
              refine TC.front 1 rfl rfl ?_
              refine TC.sealS encE_len (fun τ86 hle85 hr84 => ?_)
              replace hx := hx.mono hle85
              replace hy := hy.mono hle85
              replace hd := hd.mono hle85
              replace hr12 := hr12.mono hle85
              replace hr45 := hr45.mono hle85
              replace hr48 := hr48.mono hle85
              replace hr54 := hr54.mono hle85
              replace hr57 := hr57.mono hle85
              refine TC.front 1 rfl rfl ?_
              refine TC.sealS encE_len (fun τ89 hle88 hr87 => ?_)
              replace hx := hx.mono hle88
              replace hy := hy.mono hle88
              replace hd := hd.mono hle88
              replace hr12 := hr12.mono hle88
              replace hr45 := hr45.mono hle88
              replace hr48 := hr48.mono hle88
              replace hr54 := hr54.mono hle88
              replace hr57 := hr57.mono hle88
              replace hr84 := hr84.mono hle88
              refine TC.region ?_
              refine TL.v rfl (OpVal.loadAll rfl ag25 sz25 rfl (i := 0) rfl rfl) rfl rfl ?_
              refine TL.op rfl (OpOk.callN (end_con _ ⟨x.states + y.states, _, _, catTo x y g1⟩ ⟨a41, c42, a51, c52, xa, xc⟩ ⟨hr45, hr54, hr84, catTo_ok hx.ok hy.ok _⟩) rfl rfl pf71 rfl rfl rfl (fun pe τ91 hle90 he => ?_))
              replace hx := hx.mono hle90
              replace hy := hy.mono hle90
              replace hd := hd.mono hle90
              replace hr12 := hr12.mono hle90
              replace hr45 := hr45.mono hle90
              replace hr48 := hr48.mono hle90
              replace hr54 := hr54.mono hle90
              replace hr57 := hr57.mono hle90
              replace hr84 := hr84.mono hle90
              replace hr87 := hr87.mono hle90
              refine TL.v rfl (OpVal.extract rfl rfl rfl) rfl rfl ?_
              refine TL.v rfl (OpVal.extract rfl rfl rfl) rfl rfl ?_
              refine TL.front 1 rfl rfl ?_
              refine TL.op rfl (OpOk.storeAll rfl sz25 rfl rfl rfl rfl rfl rfl ?_)
              refine TL.v rfl (OpVal.moveI (.inr rfl) rfl) rfl rfl ?_
              refine TL.nil ?_
              refine S.n ?_
              refine TC.ret ?_
              -- leaf 10 ret [h7: t13=False; h8: False; h40: True; h44: True; h67: t73=False] H=['q6', 'q38', 'q4', 'q2']
              obtain rfl : g1 = x.edges.length := by omega
              obtain ⟨e1, e2⟩ := cat_all hcx hcy (show catS x y = x.starts ++ shiftL y.starts x.states from if_pos h40) (show catD x y = x.ends ++ shiftL y.ends x.states from if_pos h44)
              rw [e1, e2]
              exact retNfa (p := pe) 0 rfl ag25 sz25 rfl rfl rfl rfl he
          · try simp only [decide_eq_true_eq, decide_eq_false_iff_not, Bool.not_eq_true', Bool.not_eq_false', Bool.not_eq_eq_eq_not, Bool.not_true, Bool.not_false, Int.not_lt, Int.not_le, Decidable.not_not] at h44
            refine TC.skip ?_
            refine S.n ?_
            refine TC.seq ?_
            refine TC.front 1 rfl rfl ?_
            refine TC.sealS encI_len (fun τ94 hle93 hr92 => ?_)
            replace hx := hx.mono hle93
            replace hy := hy.mono hle93
            replace hd := hd.mono hle93
            replace hr12 := hr12.mono hle93
            refine TC.front 2 rfl rfl ?_
            refine TC.sealS encI_len (fun τ97 hle96 hr95 => ?_)
            replace hx := hx.mono hle96
            replace hy := hy.mono hle96
            replace hd := hd.mono hle96
            replace hr12 := hr12.mono hle96
            replace hr92 := hr92.mono hle96
            refine TC.front 2 rfl rfl ?_
            refine TC.sealS encI_len (fun τ100 hle99 hr98 => ?_)
            replace hx := hx.mono hle99
            replace hy := hy.mono hle99
            replace hd := hd.mono hle99
            replace hr12 := hr12.mono hle99
            replace hr92 := hr92.mono hle99
            replace hr95 := hr95.mono hle99
            refine TC.region ?_
            refine TL.v rfl (OpVal.fieldLoc rfl fo25_3 rfl) rfl rfl ?_
            refine TL.v rfl (OpVal.loadLoc rfl ag23 rfl (i := 0) rfl rfl) rfl rfl ?_
            refine TL.v rfl (OpVal.fieldLoc rfl fo25_3 rfl) rfl rfl ?_
            refine TL.v rfl (OpVal.loadLoc rfl ag23 rfl (i := 4) rfl rfl) rfl rfl ?_
            refine TL.front 1 rfl rfl ?_
            refine TL.op rfl (OpOk.appendS rfl rfl Try.underlying23 sz80 by80 ze80 rfl rfl (by decide) rfl rfl rfl (.inl (by assumption)) (by (try simp only [List.length_cons, List.length_nil, List.length_append]); omega) (by decide) (fun a101 c102 => ?_))
            refine TL.v rfl (OpVal.fieldLoc rfl fo25_3 rfl) rfl rfl ?_
            refine TL.front 1 rfl rfl ?_
            refine TL.op rfl (OpOk.storeSl rfl sz23 rfl rfl rfl rfl rfl ?_)
            refine TL.nil ?_
            refine S.n ?_
            refine TC.seq ?_
            refine TC.draw [7, 8, 9] (by kernel_rfl) ?_
            refine TA.takeP 0 rfl (by kernel_rfl) (by kernel_rfl) (by kernel_rfl) rfl (OpVal.fieldLoc rfl fo25_3 rfl) rfl rfl ?_
            refine TA.take 1 rfl (by kernel_rfl) (by kernel_rfl) (by kernel_rfl) (by kernel_rfl) rfl (OpVal.loadLoc rfl ag23 rfl (i := 0) rfl rfl) rfl rfl ?_
            refine TA.takeP 2 rfl (by kernel_rfl) (by kernel_rfl) (by kernel_rfl) rfl (OpVal.fieldLoc rfl fo25_3 rfl) rfl rfl ?_
            refine TA.take 3 rfl (by kernel_rfl) (by kernel_rfl) (by kernel_rfl) (by kernel_rfl) rfl (OpVal.loadLoc rfl ag23 rfl (i := 3) rfl rfl) rfl rfl ?_
            refine TA.takeP 4 rfl (by kernel_rfl) (by kernel_rfl) (by kernel_rfl) rfl (OpVal.fieldLoc rfl fo25_0 rfl) rfl rfl ?_
            refine TA.take 5 rfl (by kernel_rfl) (by kernel_rfl) (by kernel_rfl) (by kernel_rfl) rfl (OpVal.loadLoc rfl ag3 rfl (i := 4) rfl rfl) rfl rfl ?_
            refine TA.act 6 (by kernel_rfl) rfl rfl (OpOk.callR (shifted_con _ _ _ _ _ hy.d ⟨k1, by omega⟩ (fun u hu => by have := l6 u hu; omega) (by omega)) rfl rfl pf70 rfl rfl rfl (fun a103 c104 => ⟨(fun w h => sees_of (by first | exact Store.le.refl _ | assumption) (fun r hr => (List.mem_cons_of_mem _ hr)) w h), ?_⟩))
            refine TA.front 2 rfl rfl ?_
            refine TA.last 7 (by kernel_rfl) rfl rfl rfl (OpOk.appendS rfl rfl Try.underlying23 sz80 by80 ze80 rfl rfl (by decide) rfl rfl rfl (.inr ⟨_, 0, rfl⟩) (by (try simp only [List.length_cons, List.length_nil, List.length_append]); omega) (by decide) (fun a106 c107 => ?_))
            refine TZ.v 8 (by kernel_rfl) rfl rfl rfl (OpVal.fieldLoc rfl fo25_3 rfl) rfl rfl ?_
            refine TZ.front 2 rfl rfl ?_
            refine TZ.last 9 (by kernel_rfl) rfl rfl rfl (OpOk.storeSl rfl sz23 rfl rfl rfl rfl rfl ?_)
            refine TZ.done (by kernel_rfl) ?_
            refine S.n ?_
            refine TC.seq ?_
            refine TC.seq ?_
            refine TC.region ?_
            refine TL.v rfl (OpVal.moveI (.inr rfl) rfl) rfl rfl ?_
            refine TL.nil ?_
            refine S.n ?_
            refine TC.block ?_
            refine TC.loopF (α := Nat × Option Addr × Nat) [8, 9, 68, 69, 70, 71, 72, 73, 74, 75, 76, 77, 78, 79, 80, 81, 82, 83, 84, 85, 86, 87, 88, 89, 90, 91, 92, 93, 94, 95, 96, 97, 98, 99, 100, 101, 102, 103, 104, 105, 106, 107, 108, 109, 110, 111, 112, 113, 114, 115, 116, 117] (fun g => [(8, .int .i64 (g.1 : Nat))]) (fun g => [Res.cells gb #[.int .i64 (x.states + y.states), .slice a41 _ c42, .slice ga2 _ gc2, .slice g.2.1 (catTo x y g.1).length g.2.2] 25, Res.rowS 80 6 encE (.slice g.2.1 (catTo x y g.1).length g.2.2) (catTo x y g.1), Res.rowS 80 6 encE (.slice a103 (shiftE y.edges x.states).length c104) (shiftE y.edges x.states), Res.cells b5 (nfaA Nfa.zero NfaP.zero) 25, Res.cells b3 (nfaA y q) 25, Res.cells b1 (nfaA x p) 25]) (fun _ => _) (fun g => g.1 ≤ x.edges.length) (fun g => x.edges.length - g.1) ((0, a106, c107)) (by first | exact True.intro | omega | (dsimp only; omega) | (simp; done) | (simp; omega)) (by repeat (first | exact trivial | refine ⟨rfl, ?_⟩)) (by rw [show catTo x y 0 = [] ++ x.edges ++ shiftE y.edges x.states from by rw [catTo_zero, List.nil_append]]; rfl) (by rfl) (fun g1 j1 hg1 => ?_)
            obtain ⟨g1, xa, xc⟩ := g1
            dsimp only
            have hg1 : g1 ≤ x.edges.length := hg1
            have hl2 := catTo_len x y g1 hg1 (by omega) (by omega) (by omega)
            refine TC.seq ?_
            refine TC.seq ?_
            refine TC.region ?_
            refine TL.v rfl (OpVal.moveI (.inl rfl) rfl) rfl rfl ?_
            refine TL.v rfl (OpVal.fieldLoc rfl fo25_3 rfl) rfl rfl ?_
            refine TL.v rfl (OpVal.loadLoc rfl ag23 rfl (i := 5) rfl rfl) rfl rfl ?_
            refine TL.v rfl (OpVal.lenC rfl Try.underlying23 rfl) rfl rfl ?_
            refine TL.v rfl (OpVal.lss rfl rfl rfl) rfl rfl ?_
            refine TL.v rfl (OpVal.moveB (.inl rfl) rfl) rfl rfl ?_
            refine TL.split 73 rfl (fun h108 => ?_) (fun h108 => ?_)
            · try simp only [decide_eq_true_eq, decide_eq_false_iff_not, Bool.not_eq_true', Bool.not_eq_false', Bool.not_eq_eq_eq_not, Bool.not_true, Bool.not_false, Int.not_lt, Int.not_le, Decidable.not_not] at h108
              refine TL.gv rfl rfl rfl rfl rfl (OpVal.fieldLoc rfl fo25_3 rfl) rfl rfl ?_
              refine TL.gv rfl rfl rfl rfl rfl (OpVal.loadLoc rfl ag23 rfl (i := 0) rfl rfl) rfl rfl ?_
              refine TL.gv rfl rfl rfl rfl rfl (OpVal.lenC rfl Try.underlying23 rfl) rfl rfl ?_
              refine TL.gv rfl rfl rfl rfl rfl (OpVal.leq rfl rfl rfl) rfl rfl ?_
              refine TL.v rfl (OpVal.pickTB rfl rfl rfl) rfl rfl ?_
              refine TL.nil ?_
              refine S.n ?_
              refine TC.condD rfl (fun h109 => ?_) (fun h109 => ?_)
              · try simp only [decide_eq_true_eq, decide_eq_false_iff_not, Bool.not_eq_true', Bool.not_eq_false', Bool.not_eq_eq_eq_not, Bool.not_true, Bool.not_false, Int.not_lt, Int.not_le, Decidable.not_not] at h109
                refine TC.skip ?_
                refine S.n ?_
                refine TC.seq ?_
                refine TC.block ?_
                refine TC.seq ?_
                refine TC.draw [] (by kernel_rfl) ?_
                refine TA.takeP 0 rfl (by kernel_rfl) (by kernel_rfl) (by kernel_rfl) rfl (OpVal.fieldLoc rfl fo25_3 rfl) rfl rfl ?_
                refine TA.take 1 rfl (by kernel_rfl) (by kernel_rfl) (by kernel_rfl) (by kernel_rfl) rfl (OpVal.loadLoc rfl ag23 rfl (i := 5) rfl rfl) rfl rfl ?_
                refine TA.takeP 2 rfl (by kernel_rfl) (by kernel_rfl) (by kernel_rfl) rfl (OpVal.moveI (.inl rfl) rfl) rfl rfl ?_
                refine TA.takeP 3 rfl (by kernel_rfl) (by kernel_rfl) (by kernel_rfl) rfl (OpVal.indexN rfl Try.underlying23 sz80 rfl rfl (by first | assumption | exact (RS.rv (by assumption)).sl) (by omega)) rfl rfl ?_
                refine TA.takeP 4 rfl (by kernel_rfl) (by kernel_rfl) (by kernel_rfl) rfl (OpVal.fieldElem rfl fo80_1 rfl (by first | assumption | exact (RS.rv (by assumption)).sl) (by omega)) rfl rfl ?_
                refine TA.take 5 rfl (by kernel_rfl) (by kernel_rfl) (by kernel_rfl) (by kernel_rfl) rfl (OpVal.loadS Arrow.zero rfl ag3 rfl (by assumption) (by omega) (by omega) rfl) rfl rfl ?_
                refine TA.takeP 6 rfl (by kernel_rfl) (by kernel_rfl) (by kernel_rfl) rfl (OpVal.fieldLoc rfl fo25_2 rfl) rfl rfl ?_
                refine TA.take 7 rfl (by kernel_rfl) (by kernel_rfl) (by kernel_rfl) (by kernel_rfl) rfl (OpVal.loadLoc rfl ag22 rfl (i := 5) rfl rfl) rfl rfl ?_
                refine TA.act 8 (by kernel_rfl) rfl rfl (OpOk.callP (in_con _ _ _ _ _ hx.e) rfl rfl pf59 rfl rfl rfl ⟨(fun w h => sees_of (by first | exact Store.le.refl _ | assumption) (fun r hr => hr) w h), ?_⟩)
                refine TA.done (by kernel_rfl) ?_
                refine S.n ?_
                refine TC.cond rfl (fun h110 => ?_) (fun h110 => ?_)
                · try simp only [decide_eq_true_eq, decide_eq_false_iff_not, Bool.not_eq_true', Bool.not_eq_false', Bool.not_eq_eq_eq_not, Bool.not_true, Bool.not_false, Int.not_lt, Int.not_le, Decidable.not_not] at h110
                  refine TC.seq ?_
                  refine TC.region ?_
                  refine TL.v rfl (OpVal.moveI (.inr rfl) rfl) rfl rfl ?_
                  refine TL.nil ?_
                  refine S.n ?_
                  refine TC.block ?_
                  refine TC.loopF (α := Nat × Option Addr × Nat) [9, 90, 91, 92, 93, 94, 95, 96, 97, 98, 99, 100, 101, 102, 103, 104, 105, 106, 107, 108, 109, 110, 111, 112, 113, 114, 115, 116, 117] (fun g => [(9, .int .i64 (g.1 : Nat))]) (fun g => [Res.cells gb #[.int .i64 (x.states + y.states), .slice a41 _ c42, .slice ga2 _ gc2, .slice g.2.1 (catTo x y g1 ++ catPut (nth x.edges g1 Arrow.zero) ((shiftL y.starts x.states).take g.1)).length g.2.2] 25, Res.rowS 80 6 encE (.slice g.2.1 (catTo x y g1 ++ catPut (nth x.edges g1 Arrow.zero) ((shiftL y.starts x.states).take g.1)).length g.2.2) (catTo x y g1 ++ catPut (nth x.edges g1 Arrow.zero) ((shiftL y.starts x.states).take g.1)), Res.rowS 80 6 encE (.slice a103 (shiftE y.edges x.states).length c104) (shiftE y.edges x.states), Res.cells b5 (nfaA Nfa.zero NfaP.zero) 25, Res.cells b3 (nfaA y q) 25, Res.cells b1 (nfaA x p) 25]) (fun _ => _) (fun g => g.1 ≤ y.starts.length) (fun g => y.starts.length - g.1) ((0, xa, xc)) (by first | exact True.intro | omega | (dsimp only; omega) | (simp; done) | (simp; omega)) (by repeat (first | exact trivial | refine ⟨rfl, ?_⟩)) (by rw [show catTo x y g1 ++ catPut (nth x.edges g1 Arrow.zero) ((shiftL y.starts x.states).take 0) = catTo x y g1 from List.append_nil _]) (by rfl) (fun g2 j2 hg2 => ?_)
                  obtain ⟨g2, ya, yc⟩ := g2
                  dsimp only
                  have hg2 : g2 ≤ y.starts.length := hg2
                  have hcl := catPut_len (nth x.edges g1 Arrow.zero) ((shiftL y.starts x.states).take g2)
                  have hct : ((shiftL y.starts x.states).take g2).length = min g2 (shiftL y.starts x.states).length := List.length_take
                  refine TC.seq ?_
                  refine TC.seq ?_
                  refine TC.region ?_
                  refine TL.v rfl (OpVal.moveI (.inl rfl) rfl) rfl rfl ?_
                  refine TL.v rfl (OpVal.moveSl (.inl rfl) rfl) rfl rfl ?_
                  refine TL.v rfl (OpVal.lenC rfl Try.underlying22 rfl) rfl rfl ?_
                  refine TL.v rfl (OpVal.lss rfl rfl rfl) rfl rfl ?_
                  refine TL.nil ?_
                  refine S.n ?_
                  refine TC.condD rfl (fun h111 => ?_) (fun h111 => ?_)
                  · try simp only [decide_eq_true_eq, decide_eq_false_iff_not, Bool.not_eq_true', Bool.not_eq_false', Bool.not_eq_eq_eq_not, Bool.not_true, Bool.not_false, Int.not_lt, Int.not_le, Decidable.not_not] at h111
                    refine TC.skip ?_
                    refine S.n ?_
                    refine TC.seq ?_
                    refine TC.block ?_
                    refine TC.draw [20, 21, 22] (by kernel_rfl) ?_
                    refine TA.takeP 0 rfl (by kernel_rfl) (by kernel_rfl) (by kernel_rfl) rfl (OpVal.fieldLoc rfl fo25_3 rfl) rfl rfl ?_
                    refine TA.take 1 rfl (by kernel_rfl) (by kernel_rfl) (by kernel_rfl) (by kernel_rfl) rfl (OpVal.loadLoc rfl ag23 rfl (i := 0) rfl rfl) rfl rfl ?_
                    refine TA.takeP 2 rfl (by kernel_rfl) (by kernel_rfl) (by kernel_rfl) rfl (OpVal.fieldLoc rfl fo25_3 rfl) rfl rfl ?_
                    refine TA.take 3 rfl (by kernel_rfl) (by kernel_rfl) (by kernel_rfl) (by kernel_rfl) rfl (OpVal.loadLoc rfl ag23 rfl (i := 5) rfl rfl) rfl rfl ?_
                    refine TA.takeP 4 rfl (by kernel_rfl) (by kernel_rfl) (by kernel_rfl) rfl (OpVal.moveI (.inl rfl) rfl) rfl rfl ?_
                    refine TA.takeP 5 rfl (by kernel_rfl) (by kernel_rfl) (by kernel_rfl) rfl (OpVal.indexN rfl Try.underlying23 sz80 rfl rfl (by first | assumption | exact (RS.rv (by assumption)).sl) (by omega)) rfl rfl ?_
                    refine TA.takeP 6 rfl (by kernel_rfl) (by kernel_rfl) (by kernel_rfl) rfl (OpVal.fieldElem rfl fo80_0 rfl (by first | assumption | exact (RS.rv (by assumption)).sl) (by omega)) rfl rfl ?_
                    refine TA.take 7 rfl (by kernel_rfl) (by kernel_rfl) (by kernel_rfl) (by kernel_rfl) rfl (OpVal.loadS Arrow.zero rfl ag3 rfl (by assumption) (by omega) (by omega) rfl) rfl rfl ?_
                    refine TA.takeP 8 rfl (by kernel_rfl) (by kernel_rfl) (by kernel_rfl) rfl (OpVal.moveSl (.inl rfl) rfl) rfl rfl ?_
                    refine TA.takeP 9 rfl (by kernel_rfl) (by kernel_rfl) (by kernel_rfl) rfl (OpVal.moveI (.inl rfl) rfl) rfl rfl ?_
                    refine TA.takeP 10 rfl (by kernel_rfl) (by kernel_rfl) (by kernel_rfl) rfl (OpVal.indexN rfl Try.underlying22 sz3 rfl rfl (by first | assumption | exact (RS.rv (by assumption)).sl) (by omega)) rfl rfl ?_
                    refine TA.take 11 rfl (by kernel_rfl) (by kernel_rfl) (by kernel_rfl) (by kernel_rfl) rfl (OpVal.loadS1 (0 : Int) rfl ag3 rfl (by assumption) (by omega) rfl) rfl rfl ?_
                    refine TA.takeP 12 rfl (by kernel_rfl) (by kernel_rfl) (by kernel_rfl) rfl (OpVal.fieldLoc rfl fo25_3 rfl) rfl rfl ?_
                    refine TA.take 13 rfl (by kernel_rfl) (by kernel_rfl) (by kernel_rfl) (by kernel_rfl) rfl (OpVal.loadLoc rfl ag23 rfl (i := 5) rfl rfl) rfl rfl ?_
                    refine TA.takeP 14 rfl (by kernel_rfl) (by kernel_rfl) (by kernel_rfl) rfl (OpVal.moveI (.inl rfl) rfl) rfl rfl ?_
                    refine TA.takeP 15 rfl (by kernel_rfl) (by kernel_rfl) (by kernel_rfl) rfl (OpVal.indexN rfl Try.underlying23 sz80 rfl rfl (by first | assumption | exact (RS.rv (by assumption)).sl) (by omega)) rfl rfl ?_
                    refine TA.takeP 16 rfl (by kernel_rfl) (by kernel_rfl) (by kernel_rfl) rfl (OpVal.fieldElem rfl fo80_2 rfl (by first | assumption | exact (RS.rv (by assumption)).sl) (by omega)) rfl rfl ?_
                    refine TA.take 17 rfl (by kernel_rfl) (by kernel_rfl) (by kernel_rfl) (by kernel_rfl) rfl (OpVal.loadSub Arrow.zero rfl ag28 sz28 rfl (by assumption) (by omega) (by omega) (by omega) rfl rfl) rfl rfl ?_
                    refine TA.takeP 18 rfl (by kernel_rfl) (by kernel_rfl) (by kernel_rfl) rfl (OpVal.buildL rfl pl80 ze80 rfl) rfl rfl ?_
                    refine TA.act 19 (by kernel_rfl) rfl rfl (OpOk.lit (enc := encE) [⟨(nth x.edges g1 Arrow.zero).frm, nth (shiftL y.starts x.states) g2 0, (nth x.edges g1 Arrow.zero).set⟩] rfl Try.underlying23 sz80 ze80 rfl rfl rfl encE_len (by decide) (by decide) Arrow.zero rfl (by decide) rfl (by decide) encE_one (fun a112 c113 => ⟨(fun w h => sees_of (by first | exact Store.le.refl _ | assumption) (fun r hr => (List.mem_cons_of_mem _ hr)) w h), ?_⟩))
                    refine TA.front 2 rfl rfl ?_
                    refine TA.last 20 (by kernel_rfl) rfl rfl rfl (OpOk.appendS rfl rfl Try.underlying23 sz80 by80 ze80 rfl rfl (by decide) rfl rfl rfl (.inr ⟨_, 0, rfl⟩) (by (try simp only [List.length_cons, List.length_nil, List.length_append]); omega) (by decide) (fun a115 c116 => ?_))
                    refine TZ.v 21 (by kernel_rfl) rfl rfl rfl (OpVal.fieldLoc rfl fo25_3 rfl) rfl rfl ?_
                    refine TZ.front 2 rfl rfl ?_
                    refine TZ.last 22 (by kernel_rfl) rfl rfl rfl (OpOk.storeSl rfl sz23 rfl rfl rfl rfl rfl ?_)
                    refine TZ.done (by kernel_rfl) ?_
                    refine B.n ?_
                    refine S.n ?_
                    refine TC.region ?_
                    refine TL.v rfl (OpVal.moveI (.inl rfl) rfl) rfl rfl ?_
                    refine TL.v rfl (OpVal.succ rfl rfl rfl (by omega)) rfl rfl ?_
                    refine TL.v rfl (OpVal.moveI (.inr rfl) rfl) rfl rfl ?_
                    refine TL.front 6 rfl rfl ?_
                    refine TL.front 6 rfl rfl ?_
                    refine TL.front 6 rfl rfl ?_
                    refine TL.front 6 rfl rfl ?_
                    refine TL.front 5 rfl rfl ?_
                    refine TL.front 5 rfl rfl ?_
                    refine TL.takeN 6 rfl ?_
                    refine TL.nil ?_
                    refine S.n ?_
                    -- leaf 11 next [h7: t13=False; h8: False; h40: True; h44: False; h108: t73=True; h109: True; h110: True; h111: True] H=['q38', 'q39', 'q105', 'q6', 'q4', 'q2']
                    refine ⟨by repeat (first | exact Agr.mask | refine Agr.upd rfl ?_ | refine Agr.maskIn rfl ?_), (g2 + 1, a115, c116), ?_, ?_, ?_, ?_, ?_⟩
                    · show y.starts.length - (g2 + 1) < y.starts.length - g2; omega
                    · show g2 + 1 ≤ y.starts.length; omega
                    · repeat (first | exact trivial | refine ⟨rfl, ?_⟩)
                    · show _ = [Res.cells _ #[_, _, _, .slice _ (catTo x y g1 ++ catPut (nth x.edges g1 Arrow.zero) ((shiftL y.starts x.states).take (g2 + 1))).length _] _, Res.rowS _ _ _ (.slice _ (catTo x y g1 ++ catPut (nth x.edges g1 Arrow.zero) ((shiftL y.starts x.states).take (g2 + 1))).length _) (catTo x y g1 ++ catPut (nth x.edges g1 Arrow.zero) ((shiftL y.starts x.states).take (g2 + 1))), _, _, _, _]
                      rw [catPut_snoc (by omega), ← List.append_assoc]; rfl
                    · rfl
                  · try simp only [decide_eq_true_eq, decide_eq_false_iff_not, Bool.not_eq_true', Bool.not_eq_false', Bool.not_eq_eq_eq_not, Bool.not_true, Bool.not_false, Int.not_lt, Int.not_le, Decidable.not_not] at h111
                    refine TC.exit ?_
                    refine S.x ?_
                    refine S.x ?_
                    refine TC.exitHere ?_
                    refine B.n ?_
                    refine S.n ?_
                    refine TC.region ?_
                    refine TL.v rfl (OpVal.moveI (.inl rfl) rfl) rfl rfl ?_
                    refine TL.v rfl (OpVal.succ rfl rfl rfl (by omega)) rfl rfl ?_
                    refine TL.v rfl (OpVal.moveI (.inr rfl) rfl) rfl rfl ?_
                    refine TL.nil ?_
                    refine S.n ?_
                    -- leaf 12 next [h7: t13=False; h8: False; h40: True; h44: False; h108: t73=True; h109: True; h110: True; h111: False] H=['q38', 'q39', 'q105', 'q6', 'q4', 'q2']
                    have ht : (shiftL y.starts x.states).take g2 = shiftL y.starts x.states := List.take_of_length_le (by omega)
                    refine ⟨by repeat (first | exact Agr.mask | refine Agr.upd rfl ?_ | refine Agr.maskIn rfl ?_), (g1 + 1, ya, yc), ?_, ?_, ?_, ?_, ?_⟩
                    · show x.edges.length - (g1 + 1) < x.edges.length - g1; omega
                    · show g1 + 1 ≤ x.edges.length; omega
                    · repeat (first | exact trivial | refine ⟨rfl, ?_⟩)
                    · show _ = [Res.cells _ #[_, _, _, .slice _ (catTo x y (g1 + 1)).length _] _, Res.rowS _ _ _ (.slice _ (catTo x y (g1 + 1)).length _) (catTo x y (g1 + 1)), _, _, _, _]
                      rw [catC_t (by omega) h110, ht] <;> rfl
                    · rfl
                · try simp only [decide_eq_true_eq, decide_eq_false_iff_not, Bool.not_eq_true', Bool.not_eq_false', Bool.not_eq_eq_eq_not, Bool.not_true, Bool.not_false, Int.not_lt, Int.not_le, Decidable.not_not] at h110
                  refine TC.skip ?_
                  refine B.n ?_
                  refine S.n ?_
                  refine TC.region ?_
                  refine TL.v rfl (OpVal.moveI (.inl rfl) rfl) rfl rfl ?_
                  refine TL.v rfl (OpVal.succ rfl rfl rfl (by omega)) rfl rfl ?_
                  refine TL.v rfl (OpVal.moveI (.inr rfl) rfl) rfl rfl ?_
                  refine TL.nil ?_
                  refine S.n ?_
                  -- leaf 13 next [h7: t13=False; h8: False; h40: True; h44: False; h108: t73=True; h109: True; h110: False] H=['q38', 'q39', 'q105', 'q6', 'q4', 'q2']
                  refine ⟨by repeat (first | exact Agr.mask | refine Agr.upd rfl ?_ | refine Agr.maskIn rfl ?_), (g1 + 1, xa, xc), ?_, ?_, ?_, ?_, ?_⟩
                  · show x.edges.length - (g1 + 1) < x.edges.length - g1; omega
                  · show g1 + 1 ≤ x.edges.length; omega
                  · repeat (first | exact trivial | refine ⟨rfl, ?_⟩)
                  · show _ = [Res.cells _ #[_, _, _, .slice _ (catTo x y (g1 + 1)).length _] _, Res.rowS _ _ _ (.slice _ (catTo x y (g1 + 1)).length _) (catTo x y (g1 + 1)), _, _, _, _]
                    rw [catC_f (by omega) h110] <;> rfl
                  · rfl
              · try simp only [decide_eq_true_eq, decide_eq_false_iff_not, Bool.not_eq_true', Bool.not_eq_false', Bool.not_eq_eq_eq_not, Bool.not_true, Bool.not_false, Int.not_lt, Int.not_le, Decidable.not_not] at h109
                refine TC.exit ?_
                refine S.x ?_
                refine S.x ?_
                refine TC.exitHere ?_
                refine S.n ?_
                refine TC.seq ?_
                refine TC.front 1 rfl rfl ?_
                refine TC.sealS encE_len (fun τ119 hle118 hr117 => ?_)
                replace hx := hx.mono hle118
                replace hy := hy.mono hle118
                replace hd := hd.mono hle118
                replace hr12 := hr12.mono hle118
                replace hr92 := hr92.mono hle118
                replace hr95 := hr95.mono hle118
                replace hr98 := hr98.mono hle118
                refine TC.front 1 rfl rfl ?_
                refine TC.sealS encE_len (fun τ122 hle121 hr120 => ?_)
                replace hx := hx.mono hle121
                replace hy := hy.mono hle121
                replace hd := hd.mono hle121
                replace hr12 := hr12.mono hle121
                replace hr92 := hr92.mono hle121
                replace hr95 := hr95.mono hle121
                replace hr98 := hr98.mono hle121
                replace hr117 := hr117.mono hle121
                refine TC.region ?_
                refine TL.v rfl (OpVal.loadAll rfl ag25 sz25 rfl (i := 0) rfl rfl) rfl rfl ?_
                refine TL.op rfl (OpOk.callN (end_con _ ⟨x.states + y.states, _, _, catTo x y g1⟩ ⟨a41, c42, ga2, gc2, xa, xc⟩ ⟨hr92, hr98, hr117, catTo_ok hx.ok hy.ok _⟩) rfl rfl pf71 rfl rfl rfl (fun pe τ124 hle123 he => ?_))
                replace hx := hx.mono hle123
                replace hy := hy.mono hle123
                replace hd := hd.mono hle123
                replace hr12 := hr12.mono hle123
                replace hr92 := hr92.mono hle123
                replace hr95 := hr95.mono hle123
                replace hr98 := hr98.mono hle123
                replace hr117 := hr117.mono hle123
                replace hr120 := hr120.mono hle123
                refine TL.v rfl (OpVal.extract rfl rfl rfl) rfl rfl ?_
                refine TL.v rfl (OpVal.extract rfl rfl rfl) rfl rfl ?_
                refine TL.front 1 rfl rfl ?_
                refine TL.op rfl (OpOk.storeAll rfl sz25 rfl rfl rfl rfl rfl rfl ?_)
                refine TL.v rfl (OpVal.moveI (.inr rfl) rfl) rfl rfl ?_
                refine TL.nil ?_
                refine S.n ?_
                refine TC.ret ?_
                -- leaf 14 ret [h7: t13=False; h8: False; h40: True; h44: False; h108: t73=True; h109: False] H=['q6', 'q38', 'q4', 'q2']
                obtain ⟨e1, e2⟩ := cat_stop hcx hcy hg1 (by omega) _ _
                rw [e1, e2]
                exact retNfa (p := pe) 0 rfl ag25 sz25 rfl rfl rfl rfl he
            · try simp only [decide_eq_true_eq, decide_eq_false_iff_not, Bool.not_eq_true', Bool.not_eq_false', Bool.not_eq_eq_eq_not, Bool.not_true, Bool.not_false, Int.not_lt, Int.not_le, Decidable.not_not] at h108
              refine TL.goff rfl rfl rfl rfl rfl rfl rfl rfl ?_
              refine TL.goff rfl rfl rfl rfl rfl rfl rfl rfl ?_
              refine TL.goff rfl rfl rfl rfl rfl rfl rfl rfl ?_
              refine TL.goff rfl rfl rfl rfl rfl rfl rfl rfl ?_
              refine TL.v rfl (OpVal.pickFB rfl rfl rfl) rfl rfl ?_
              refine TL.nil ?_
              refine S.n ?_
              refine TC.cond rfl (fun h => Bool.noConfusion h) (fun _ => ?_)
              refine TC.exit ?_
              refine S.x ?_
              refine S.x ?_
              refine TC.exitHere ?_
              refine S.n ?_
              refine TC.seq ?_
              refine TC.front 1 rfl rfl ?_
              refine TC.sealS encE_len (fun τ127 hle126 hr125 => ?_)
              replace hx := hx.mono hle126
              replace hy := hy.mono hle126
              replace hd := hd.mono hle126
              replace hr12 := hr12.mono hle126
              replace hr92 := hr92.mono hle126
              replace hr95 := hr95.mono hle126
              replace hr98 := hr98.mono hle126
              refine TC.front 1 rfl rfl ?_
              refine TC.sealS encE_len (fun τ130 hle129 hr128 => ?_)
              replace hx := hx.mono hle129
              replace hy := hy.mono hle129
              replace hd := hd.mono hle129
              replace hr12 := hr12.mono hle129
              replace hr92 := hr92.mono hle129
              replace hr95 := hr95.mono hle129
              replace hr98 := hr98.mono hle129
              replace hr125 := hr125.mono hle129
              refine TC.region ?_
              refine TL.v rfl (OpVal.loadAll rfl ag25 sz25 rfl (i := 0) rfl rfl) rfl rfl ?_
              refine TL.op rfl (OpOk.callN (end_con _ ⟨x.states + y.states, _, _, catTo x y g1⟩ ⟨a41, c42, ga2, gc2, xa, xc⟩ ⟨hr92, hr98, hr125, catTo_ok hx.ok hy.ok _⟩) rfl rfl pf71 rfl rfl rfl (fun pe τ132 hle131 he => ?_))
              replace hx := hx.mono hle131
              replace hy := hy.mono hle131
              replace hd := hd.mono hle131
              replace hr12 := hr12.mono hle131
              replace hr92 := hr92.mono hle131
              replace hr95 := hr95.mono hle131
              replace hr98 := hr98.mono hle131
              replace hr125 := hr125.mono hle131
              replace hr128 := hr128.mono hle131
              refine TL.v rfl (OpVal.extract rfl rfl rfl) rfl rfl ?_
              refine TL.v rfl (OpVal.extract rfl rfl rfl) rfl rfl ?_
              refine TL.front 1 rfl rfl ?_
              refine TL.op rfl (OpOk.storeAll rfl sz25 rfl rfl rfl rfl rfl rfl ?_)
              refine TL.v rfl (OpVal.moveI (.inr rfl) rfl) rfl rfl ?_
              refine TL.nil ?_
              refine S.n ?_
              refine TC.ret ?_
              -- leaf 15 ret [h7: t13=False; h8: False; h40: True; h44: False; h108: t73=False] H=['q6', 'q38', 'q4', 'q2']
              obtain rfl : g1 = x.edges.length := by omega
              obtain ⟨e1, e2⟩ := cat_all hcx hcy (show catS x y = x.starts ++ shiftL y.starts x.states from if_pos h40) (show catD x y = shiftL y.ends x.states from if_neg (by rw [h44]; exact Bool.false_ne_true))
              rw [e1, e2]
              exact retNfa (p := pe) 0 rfl ag25 sz25 rfl rfl rfl rfl he
        · try simp only [decide_eq_true_eq, decide_eq_false_iff_not, Bool.not_eq_true', Bool.not_eq_false', Bool.not_eq_eq_eq_not, Bool.not_true, Bool.not_false, Int.not_lt, Int.not_le, Decidable.not_not] at h40
          refine TC.skip ?_
          refine S.n ?_
          refine TC.seq ?_
          refine TC.seq ?_
          refine TC.region ?_
          refine TL.v rfl (OpVal.loadAll rfl ag25 sz25 rfl (i := 5) rfl rfl) rfl rfl ?_
          refine TL.op rfl (OpOk.callP (empty_con _ _ _ (by first | exact hx | exact hy)) rfl rfl pf69 rfl rfl rfl ?_)
          refine TL.nil ?_
          refine S.n ?_
          refine TC.cond rfl (fun h133 => ?_) (fun h133 => ?_)
          · try simp only [decide_eq_true_eq, decide_eq_false_iff_not, Bool.not_eq_true', Bool.not_eq_false', Bool.not_eq_eq_eq_not, Bool.not_true, Bool.not_false, Int.not_lt, Int.not_le, Decidable.not_not] at h133
            refine TC.front 2 rfl rfl ?_
            refine TC.sealS encI_len (fun τ136 hle135 hr134 => ?_)
            replace hx := hx.mono hle135
            replace hy := hy.mono hle135
            replace hd := hd.mono hle135
            replace hr12 := hr12.mono hle135
            refine TC.front 2 rfl rfl ?_
            refine TC.sealS encI_len (fun τ139 hle138 hr137 => ?_)
            replace hx := hx.mono hle138
            replace hy := hy.mono hle138
            replace hd := hd.mono hle138
            replace hr12 := hr12.mono hle138
            replace hr134 := hr134.mono hle138
            refine TC.region ?_
            refine TL.v rfl (OpVal.fieldLoc rfl fo25_2 rfl) rfl rfl ?_
            refine TL.v rfl (OpVal.loadLoc rfl ag22 rfl (i := 4) rfl rfl) rfl rfl ?_
            refine TL.v rfl (OpVal.fieldLoc rfl fo25_2 rfl) rfl rfl ?_
            refine TL.v rfl (OpVal.loadLoc rfl ag22 rfl (i := 1) rfl rfl) rfl rfl ?_
            refine TL.op rfl (OpOk.callR (rboth_con _ _ _ _ _ _ _ (by first | exact hx.s | exact hx.e) (by assumption) (by omega) (by omega)) rfl rfl pf68 rfl rfl rfl (fun a140 c141 => ?_))
            refine TL.v rfl (OpVal.fieldLoc rfl fo25_2 rfl) rfl rfl ?_
            refine TL.front 2 rfl rfl ?_
            refine TL.op rfl (OpOk.storeSl rfl sz22 rfl rfl rfl rfl rfl ?_)
            refine TL.nil ?_
            refine S.n ?_
            refine TC.seq ?_
            refine TC.front 1 rfl rfl ?_
            refine TC.sealS encI_len (fun τ145 hle144 hr143 => ?_)
            replace hx := hx.mono hle144
            replace hy := hy.mono hle144
            replace hd := hd.mono hle144
            replace hr12 := hr12.mono hle144
            replace hr134 := hr134.mono hle144
            replace hr137 := hr137.mono hle144
            refine TC.region ?_
            refine TL.v rfl (OpVal.fieldLoc rfl fo25_3 rfl) rfl rfl ?_
            refine TL.v rfl (OpVal.loadLoc rfl ag23 rfl (i := 0) rfl rfl) rfl rfl ?_
            refine TL.v rfl (OpVal.fieldLoc rfl fo25_3 rfl) rfl rfl ?_
            refine TL.v rfl (OpVal.loadLoc rfl ag23 rfl (i := 4) rfl rfl) rfl rfl ?_
            refine TL.front 1 rfl rfl ?_
            refine TL.op rfl (OpOk.appendS rfl rfl Try.underlying23 sz80 by80 ze80 rfl rfl (by decide) rfl rfl rfl (.inl (by assumption)) (by (try simp only [List.length_cons, List.length_nil, List.length_append]); omega) (by decide) (fun a146 c147 => ?_))
            refine TL.v rfl (OpVal.fieldLoc rfl fo25_3 rfl) rfl rfl ?_
            refine TL.front 1 rfl rfl ?_
            refine TL.op rfl (OpOk.storeSl rfl sz23 rfl rfl rfl rfl rfl ?_)
            refine TL.nil ?_
            refine S.n ?_
            refine TC.seq ?_
            refine TC.draw [7, 8, 9] (by kernel_rfl) ?_
            refine TA.takeP 0 rfl (by kernel_rfl) (by kernel_rfl) (by kernel_rfl) rfl (OpVal.fieldLoc rfl fo25_3 rfl) rfl rfl ?_
            refine TA.take 1 rfl (by kernel_rfl) (by kernel_rfl) (by kernel_rfl) (by kernel_rfl) rfl (OpVal.loadLoc rfl ag23 rfl (i := 0) rfl rfl) rfl rfl ?_
            refine TA.takeP 2 rfl (by kernel_rfl) (by kernel_rfl) (by kernel_rfl) rfl (OpVal.fieldLoc rfl fo25_3 rfl) rfl rfl ?_
            refine TA.take 3 rfl (by kernel_rfl) (by kernel_rfl) (by kernel_rfl) (by kernel_rfl) rfl (OpVal.loadLoc rfl ag23 rfl (i := 3) rfl rfl) rfl rfl ?_
            refine TA.takeP 4 rfl (by kernel_rfl) (by kernel_rfl) (by kernel_rfl) rfl (OpVal.fieldLoc rfl fo25_0 rfl) rfl rfl ?_
            refine TA.take 5 rfl (by kernel_rfl) (by kernel_rfl) (by kernel_rfl) (by kernel_rfl) rfl (OpVal.loadLoc rfl ag3 rfl (i := 4) rfl rfl) rfl rfl ?_
            refine TA.act 6 (by kernel_rfl) rfl rfl (OpOk.callR (shifted_con _ _ _ _ _ hy.d ⟨k1, by omega⟩ (fun u hu => by have := l6 u hu; omega) (by omega)) rfl rfl pf70 rfl rfl rfl (fun a148 c149 => ⟨(fun w h => sees_of (by first | exact Store.le.refl _ | assumption) (fun r hr => (List.mem_cons_of_mem _ hr)) w h), ?_⟩))
            refine TA.front 2 rfl rfl ?_
            refine TA.last 7 (by kernel_rfl) rfl rfl rfl (OpOk.appendS rfl rfl Try.underlying23 sz80 by80 ze80 rfl rfl (by decide) rfl rfl rfl (.inr ⟨_, 0, rfl⟩) (by (try simp only [List.length_cons, List.length_nil, List.length_append]); omega) (by decide) (fun a151 c152 => ?_))
            refine TZ.v 8 (by kernel_rfl) rfl rfl rfl (OpVal.fieldLoc rfl fo25_3 rfl) rfl rfl ?_
            refine TZ.front 2 rfl rfl ?_
            refine TZ.last 9 (by kernel_rfl) rfl rfl rfl (OpOk.storeSl rfl sz23 rfl rfl rfl rfl rfl ?_)
            refine TZ.done (by kernel_rfl) ?_
            refine S.n ?_
            refine TC.seq ?_
            refine TC.seq ?_
            refine TC.region ?_
            refine TL.v rfl (OpVal.moveI (.inr rfl) rfl) rfl rfl ?_
            refine TL.nil ?_
            refine S.n ?_
            refine TC.block ?_
            refine TC.loopF (α := Nat × Option Addr × Nat) [8, 9, 68, 69, 70, 71, 72, 73, 74, 75, 76, 77, 78, 79, 80, 81, 82, 83, 84, 85, 86, 87, 88, 89, 90, 91, 92, 93, 94, 95, 96, 97, 98, 99, 100, 101, 102, 103, 104, 105, 106, 107, 108, 109, 110, 111, 112, 113, 114, 115, 116, 117] (fun g => [(8, .int .i64 (g.1 : Nat))]) (fun g => [Res.cells gb #[.int .i64 (x.states + y.states), .slice ga1 _ gc1, .slice a140 _ c141, .slice g.2.1 (catTo x y g.1).length g.2.2] 25, Res.rowS 80 6 encE (.slice g.2.1 (catTo x y g.1).length g.2.2) (catTo x y g.1), Res.rowS 80 6 encE (.slice a148 (shiftE y.edges x.states).length c149) (shiftE y.edges x.states), Res.cells b5 (nfaA Nfa.zero NfaP.zero) 25, Res.cells b3 (nfaA y q) 25, Res.cells b1 (nfaA x p) 25]) (fun _ => _) (fun g => g.1 ≤ x.edges.length) (fun g => x.edges.length - g.1) ((0, a151, c152)) (by first | exact True.intro | omega | (dsimp only; omega) | (simp; done) | (simp; omega)) (by repeat (first | exact trivial | refine ⟨rfl, ?_⟩)) (by rw [show catTo x y 0 = [] ++ x.edges ++ shiftE y.edges x.states from by rw [catTo_zero, List.nil_append]]; rfl) (by rfl) (fun g1 j1 hg1 => ?_)
            obtain ⟨g1, xa, xc⟩ := g1
            dsimp only
            have hg1 : g1 ≤ x.edges.length := hg1
            have hl2 := catTo_len x y g1 hg1 (by omega) (by omega) (by omega)
            refine TC.seq ?_
            refine TC.seq ?_
            refine TC.region ?_
            refine TL.v rfl (OpVal.moveI (.inl rfl) rfl) rfl rfl ?_
            refine TL.v rfl (OpVal.fieldLoc rfl fo25_3 rfl) rfl rfl ?_
            refine TL.v rfl (OpVal.loadLoc rfl ag23 rfl (i := 5) rfl rfl) rfl rfl ?_
            refine TL.v rfl (OpVal.lenC rfl Try.underlying23 rfl) rfl rfl ?_
            refine TL.v rfl (OpVal.lss rfl rfl rfl) rfl rfl ?_
            refine TL.v rfl (OpVal.moveB (.inl rfl) rfl) rfl rfl ?_
            refine TL.split 73 rfl (fun h153 => ?_) (fun h153 => ?_)
            · try simp only [decide_eq_true_eq, decide_eq_false_iff_not, Bool.not_eq_true', Bool.not_eq_false', Bool.not_eq_eq_eq_not, Bool.not_true, Bool.not_false, Int.not_lt, Int.not_le, Decidable.not_not] at h153
              refine TL.gv rfl rfl rfl rfl rfl (OpVal.fieldLoc rfl fo25_3 rfl) rfl rfl ?_
              refine TL.gv rfl rfl rfl rfl rfl (OpVal.loadLoc rfl ag23 rfl (i := 0) rfl rfl) rfl rfl ?_
              refine TL.gv rfl rfl rfl rfl rfl (OpVal.lenC rfl Try.underlying23 rfl) rfl rfl ?_
              refine TL.gv rfl rfl rfl rfl rfl (OpVal.leq rfl rfl rfl) rfl rfl ?_
              refine TL.v rfl (OpVal.pickTB rfl rfl rfl) rfl rfl ?_
              refine TL.nil ?_
              refine S.n ?_
              refine TC.condD rfl (fun h154 => ?_) (fun h154 => ?_)
              · try simp only [decide_eq_true_eq, decide_eq_false_iff_not, Bool.not_eq_true', Bool.not_eq_false', Bool.not_eq_eq_eq_not, Bool.not_true, Bool.not_false, Int.not_lt, Int.not_le, Decidable.not_not] at h154
                refine TC.skip ?_
                refine S.n ?_
                refine TC.seq ?_
                refine TC.block ?_
                refine TC.seq ?_
                refine TC.draw [] (by kernel_rfl) ?_
                refine TA.takeP 0 rfl (by kernel_rfl) (by kernel_rfl) (by kernel_rfl) rfl (OpVal.fieldLoc rfl fo25_3 rfl) rfl rfl ?_
                refine TA.take 1 rfl (by kernel_rfl) (by kernel_rfl) (by kernel_rfl) (by kernel_rfl) rfl (OpVal.loadLoc rfl ag23 rfl (i := 5) rfl rfl) rfl rfl ?_
                refine TA.takeP 2 rfl (by kernel_rfl) (by kernel_rfl) (by kernel_rfl) rfl (OpVal.moveI (.inl rfl) rfl) rfl rfl ?_
                refine TA.takeP 3 rfl (by kernel_rfl) (by kernel_rfl) (by kernel_rfl) rfl (OpVal.indexN rfl Try.underlying23 sz80 rfl rfl (by first | assumption | exact (RS.rv (by assumption)).sl) (by omega)) rfl rfl ?_
                refine TA.takeP 4 rfl (by kernel_rfl) (by kernel_rfl) (by kernel_rfl) rfl (OpVal.fieldElem rfl fo80_1 rfl (by first | assumption | exact (RS.rv (by assumption)).sl) (by omega)) rfl rfl ?_
                refine TA.take 5 rfl (by kernel_rfl) (by kernel_rfl) (by kernel_rfl) (by kernel_rfl) rfl (OpVal.loadS Arrow.zero rfl ag3 rfl (by assumption) (by omega) (by omega) rfl) rfl rfl ?_
                refine TA.takeP 6 rfl (by kernel_rfl) (by kernel_rfl) (by kernel_rfl) rfl (OpVal.fieldLoc rfl fo25_2 rfl) rfl rfl ?_
                refine TA.take 7 rfl (by kernel_rfl) (by kernel_rfl) (by kernel_rfl) (by kernel_rfl) rfl (OpVal.loadLoc rfl ag22 rfl (i := 5) rfl rfl) rfl rfl ?_
                refine TA.act 8 (by kernel_rfl) rfl rfl (OpOk.callP (in_con _ _ _ _ _ hx.e) rfl rfl pf59 rfl rfl rfl ⟨(fun w h => sees_of (by first | exact Store.le.refl _ | assumption) (fun r hr => hr) w h), ?_⟩)
                refine TA.done (by kernel_rfl) ?_
                refine S.n ?_
                refine TC.cond rfl (fun h155 => ?_) (fun h155 => ?_)
                · try simp only [decide_eq_true_eq, decide_eq_false_iff_not, Bool.not_eq_true', Bool.not_eq_false', Bool.not_eq_eq_eq_not, Bool.not_true, Bool.not_false, Int.not_lt, Int.not_le, Decidable.not_not] at h155
                  refine TC.seq ?_
                  refine TC.region ?_
                  refine TL.v rfl (OpVal.moveI (.inr rfl) rfl) rfl rfl ?_
                  refine TL.nil ?_
                  refine S.n ?_
                  refine TC.block ?_
                  refine TC.loopF (α := Nat × Option Addr × Nat) [9, 90, 91, 92, 93, 94, 95, 96, 97, 98, 99, 100, 101, 102, 103, 104, 105, 106, 107, 108, 109, 110, 111, 112, 113, 114, 115, 116, 117] (fun g => [(9, .int .i64 (g.1 : Nat))]) (fun g => [Res.cells gb #[.int .i64 (x.states + y.states), .slice ga1 _ gc1, .slice a140 _ c141, .slice g.2.1 (catTo x y g1 ++ catPut (nth x.edges g1 Arrow.zero) ((shiftL y.starts x.states).take g.1)).length g.2.2] 25, Res.rowS 80 6 encE (.slice g.2.1 (catTo x y g1 ++ catPut (nth x.edges g1 Arrow.zero) ((shiftL y.starts x.states).take g.1)).length g.2.2) (catTo x y g1 ++ catPut (nth x.edges g1 Arrow.zero) ((shiftL y.starts x.states).take g.1)), Res.rowS 80 6 encE (.slice a148 (shiftE y.edges x.states).length c149) (shiftE y.edges x.states), Res.cells b5 (nfaA Nfa.zero NfaP.zero) 25, Res.cells b3 (nfaA y q) 25, Res.cells b1 (nfaA x p) 25]) (fun _ => _) (fun g => g.1 ≤ y.starts.length) (fun g => y.starts.length - g.1) ((0, xa, xc)) (by first | exact True.intro | omega | (dsimp only; omega) | (simp; done) | (simp; omega)) (by repeat (first | exact trivial | refine ⟨rfl, ?_⟩)) (by rw [show catTo x y g1 ++ catPut (nth x.edges g1 Arrow.zero) ((shiftL y.starts x.states).take 0) = catTo x y g1 from List.append_nil _]) (by rfl) (fun g2 j2 hg2 => ?_)
                  obtain ⟨g2, ya, yc⟩ := g2
                  dsimp only
                  have hg2 : g2 ≤ y.starts.length := hg2
                  have hcl := catPut_len (nth x.edges g1 Arrow.zero) ((shiftL y.starts x.states).take g2)
                  have hct : ((shiftL y.starts x.states).take g2).length = min g2 (shiftL y.starts x.states).length := List.length_take
                  refine TC.seq ?_
                  refine TC.seq ?_
                  refine TC.region ?_
                  refine TL.v rfl (OpVal.moveI (.inl rfl) rfl) rfl rfl ?_
                  refine TL.v rfl (OpVal.moveSl (.inl rfl) rfl) rfl rfl ?_
                  refine TL.v rfl (OpVal.lenC rfl Try.underlying22 rfl) rfl rfl ?_
                  refine TL.v rfl (OpVal.lss rfl rfl rfl) rfl rfl ?_
                  refine TL.nil ?_
                  refine S.n ?_
                  refine TC.condD rfl (fun h156 => ?_) (fun h156 => ?_)
                  · try simp only [decide_eq_true_eq, decide_eq_false_iff_not, Bool.not_eq_true', Bool.not_eq_false', Bool.not_eq_eq_eq_not, Bool.not_true, Bool.not_false, Int.not_lt, Int.not_le, Decidable.not_not] at h156
                    refine TC.skip ?_
                    refine S.n ?_
                    refine TC.seq ?_
                    refine TC.block ?_
                    refine TC.draw [20, 21, 22] (by kernel_rfl) ?_
                    refine TA.takeP 0 rfl (by kernel_rfl) (by kernel_rfl) (by kernel_rfl) rfl (OpVal.fieldLoc rfl fo25_3 rfl) rfl rfl ?_
                    refine TA.take 1 rfl (by kernel_rfl) (by kernel_rfl) (by kernel_rfl) (by kernel_rfl) rfl (OpVal.loadLoc rfl ag23 rfl (i := 0) rfl rfl) rfl rfl ?_
                    refine TA.takeP 2 rfl (by kernel_rfl) (by kernel_rfl) (by kernel_rfl) rfl (OpVal.fieldLoc rfl fo25_3 rfl) rfl rfl ?_
                    refine TA.take 3 rfl (by kernel_rfl) (by kernel_rfl) (by kernel_rfl) (by kernel_rfl) rfl (OpVal.loadLoc rfl ag23 rfl (i := 5) rfl rfl) rfl rfl ?_
                    refine TA.takeP 4 rfl (by kernel_rfl) (by kernel_rfl) (by kernel_rfl) rfl (OpVal.moveI (.inl rfl) rfl) rfl rfl ?_
                    refine TA.takeP 5 rfl (by kernel_rfl) (by kernel_rfl) (by kernel_rfl) rfl (OpVal.indexN rfl Try.underlying23 sz80 rfl rfl (by first | assumption | exact (RS.rv (by assumption)).sl) (by omega)) rfl rfl ?_
                    refine TA.takeP 6 rfl (by kernel_rfl) (by kernel_rfl) (by kernel_rfl) rfl (OpVal.fieldElem rfl fo80_0 rfl (by first | assumption | exact (RS.rv (by assumption)).sl) (by omega)) rfl rfl ?_
                    refine TA.take 7 rfl (by kernel_rfl) (by kernel_rfl) (by kernel_rfl) (by kernel_rfl) rfl (OpVal.loadS Arrow.zero rfl ag3 rfl (by assumption) (by omega) (by omega) rfl) rfl rfl ?_
                    refine TA.takeP 8 rfl (by kernel_rfl) (by kernel_rfl) (by kernel_rfl) rfl (OpVal.moveSl (.inl rfl) rfl) rfl rfl ?_
                    refine TA.takeP 9 rfl (by kernel_rfl) (by kernel_rfl) (by kernel_rfl) rfl (OpVal.moveI (.inl rfl) rfl) rfl rfl ?_
                    refine TA.takeP 10 rfl (by kernel_rfl) (by kernel_rfl) (by kernel_rfl) rfl (OpVal.indexN rfl Try.underlying22 sz3 rfl rfl (by first | assumption | exact (RS.rv (by assumption)).sl) (by omega)) rfl rfl ?_
                    refine TA.take 11 rfl (by kernel_rfl) (by kernel_rfl) (by kernel_rfl) (by kernel_rfl) rfl (OpVal.loadS1 (0 : Int) rfl ag3 rfl (by assumption) (by omega) rfl) rfl rfl ?_
                    refine TA.takeP 12 rfl (by kernel_rfl) (by kernel_rfl) (by kernel_rfl) rfl (OpVal.fieldLoc rfl fo25_3 rfl) rfl rfl ?_
                    refine TA.take 13 rfl (by kernel_rfl) (by kernel_rfl) (by kernel_rfl) (by kernel_rfl) rfl (OpVal.loadLoc rfl ag23 rfl (i := 5) rfl rfl) rfl rfl ?_
                    refine TA.takeP 14 rfl (by kernel_rfl) (by kernel_rfl) (by kernel_rfl) rfl (OpVal.moveI (.inl rfl) rfl) rfl rfl ?_
                    refine TA.takeP 15 rfl (by kernel_rfl) (by kernel_rfl) (by kernel_rfl) rfl (OpVal.indexN rfl Try.underlying23 sz80 rfl rfl (by first | assumption | exact (RS.rv (by assumption)).sl) (by omega)) rfl rfl ?_
                    refine TA.takeP 16 rfl (by kernel_rfl) (by kernel_rfl) (by kernel_rfl) rfl (OpVal.fieldElem rfl fo80_2 rfl (by first | assumption | exact (RS.rv (by assumption)).sl) (by omega)) rfl rfl ?_
                    refine TA.take 17 rfl (by kernel_rfl) (by kernel_rfl) (by kernel_rfl) (by kernel_rfl) rfl (OpVal.loadSub Arrow.zero rfl ag28 sz28 rfl (by assumption) (by omega) (by omega) (by omega) rfl rfl) rfl rfl ?_
                    refine TA.takeP 18 rfl (by kernel_rfl) (by kernel_rfl) (by kernel_rfl) rfl (OpVal.buildL rfl pl80 ze80 rfl) rfl rfl ?_
                    refine TA.act 19 (by kernel_rfl) rfl rfl (OpOk.lit (enc := encE) [⟨(nth x.edges g1 Arrow.zero).frm, nth (shiftL y.starts x.states) g2 0, (nth x.edges g1 Arrow.zero).set⟩] rfl Try.underlying23 sz80 ze80 rfl rfl rfl encE_len (by decide) (by decide) Arrow.zero rfl (by decide) rfl (by decide) encE_one (fun a157 c158 => ⟨(fun w h => sees_of (by first | exact Store.le.refl _ | assumption) (fun r hr => (List.mem_cons_of_mem _ hr)) w h), ?_⟩))
                    refine TA.front 2 rfl rfl ?_
                    refine TA.last 20 (by kernel_rfl) rfl rfl rfl (OpOk.appendS rfl rfl Try.underlying23 sz80 by80 ze80 rfl rfl (by decide) rfl rfl rfl (.inr ⟨_, 0, rfl⟩) (by (try simp only [List.length_cons, List.length_nil, List.length_append]); omega) (by decide) (fun a160 c161 => ?_))
                    refine TZ.v 21 (by kernel_rfl) rfl rfl rfl (OpVal.fieldLoc rfl fo25_3 rfl) rfl rfl ?_
                    refine TZ.front 2 rfl rfl ?_
                    refine TZ.last 22 (by kernel_rfl) rfl rfl rfl (OpOk.storeSl rfl sz23 rfl rfl rfl rfl rfl ?_)
                    refine TZ.done (by kernel_rfl) ?_
                    refine B.n ?_
                    refine S.n ?_
                    refine TC.region ?_
                    refine TL.v rfl (OpVal.moveI (.inl rfl) rfl) rfl rfl ?_
                    refine TL.v rfl (OpVal.succ rfl rfl rfl (by omega)) rfl rfl ?_
                    refine TL.v rfl (OpVal.moveI (.inr rfl) rfl) rfl rfl ?_
                    refine TL.front 6 rfl rfl ?_
                    refine TL.front 6 rfl rfl ?_
                    refine TL.front 6 rfl rfl ?_
                    refine TL.front 6 rfl rfl ?_
                    refine TL.front 5 rfl rfl ?_
                    refine TL.front 5 rfl rfl ?_
                    refine TL.takeN 6 rfl ?_
                    refine TL.nil ?_
                    refine S.n ?_
                    -- leaf 16 next [h7: t13=False; h8: False; h40: False; h133: True; h153: t73=True; h154: True; h155: True; h156: True] H=['q38', 'q39', 'q150', 'q6', 'q4', 'q2']
                    refine ⟨by repeat (first | exact Agr.mask | refine Agr.upd rfl ?_ | refine Agr.maskIn rfl ?_), (g2 + 1, a160, c161), ?_, ?_, ?_, ?_, ?_⟩
                    · show y.starts.length - (g2 + 1) < y.starts.length - g2; omega
                    · show g2 + 1 ≤ y.starts.length; omega
                    · repeat (first | exact trivial | refine ⟨rfl, ?_⟩)
                    · show _ = [Res.cells _ #[_, _, _, .slice _ (catTo x y g1 ++ catPut (nth x.edges g1 Arrow.zero) ((shiftL y.starts x.states).take (g2 + 1))).length _] _, Res.rowS _ _ _ (.slice _ (catTo x y g1 ++ catPut (nth x.edges g1 Arrow.zero) ((shiftL y.starts x.states).take (g2 + 1))).length _) (catTo x y g1 ++ catPut (nth x.edges g1 Arrow.zero) ((shiftL y.starts x.states).take (g2 + 1))), _, _, _, _]
                      rw [catPut_snoc (by omega), ← List.append_assoc]; rfl
                    · rfl
                  · try simp only [decide_eq_true_eq, decide_eq_false_iff_not, Bool.not_eq_true', Bool.not_eq_false', Bool.not_eq_eq_eq_not, Bool.not_true, Bool.not_false, Int.not_lt, Int.not_le, Decidable.not_not] at h156
                    refine TC.exit ?_
                    refine S.x ?_
                    refine S.x ?_
                    refine TC.exitHere ?_
                    refine B.n ?_
                    refine S.n ?_
                    refine TC.region ?_
                    refine TL.v rfl (OpVal.moveI (.inl rfl) rfl) rfl rfl ?_
                    refine TL.v rfl (OpVal.succ rfl rfl rfl (by omega)) rfl rfl ?_
                    refine TL.v rfl (OpVal.moveI (.inr rfl) rfl) rfl rfl ?_
                    refine TL.nil ?_
                    refine S.n ?_
                    -- leaf 17 next [h7: t13=False; h8: False; h40: False; h133: True; h153: t73=True; h154: True; h155: True; h156: False] H=['q38', 'q39', 'q150', 'q6', 'q4', 'q2']
                    have ht : (shiftL y.starts x.states).take g2 = shiftL y.starts x.states := List.take_of_length_le (by omega)
                    refine ⟨by repeat (first | exact Agr.mask | refine Agr.upd rfl ?_ | refine Agr.maskIn rfl ?_), (g1 + 1, ya, yc), ?_, ?_, ?_, ?_, ?_⟩
                    · show x.edges.length - (g1 + 1) < x.edges.length - g1; omega
                    · show g1 + 1 ≤ x.edges.length; omega
                    · repeat (first | exact trivial | refine ⟨rfl, ?_⟩)
                    · show _ = [Res.cells _ #[_, _, _, .slice _ (catTo x y (g1 + 1)).length _] _, Res.rowS _ _ _ (.slice _ (catTo x y (g1 + 1)).length _) (catTo x y (g1 + 1)), _, _, _, _]
                      rw [catC_t (by omega) h155, ht] <;> rfl
                    · rfl
                · try simp only [decide_eq_true_eq, decide_eq_false_iff_not, Bool.not_eq_true', Bool.not_eq_false', Bool.not_eq_eq_eq_not, Bool.not_true, Bool.not_false, Int.not_lt, Int.not_le, Decidable.not_not] at h155
                  refine TC.skip ?_
                  refine B.n ?_
                  refine S.n ?_
                  refine TC.region ?_
                  refine TL.v rfl (OpVal.moveI (.inl rfl) rfl) rfl rfl ?_
                  refine TL.v rfl (OpVal.succ rfl rfl rfl (by omega)) rfl rfl ?_
                  refine TL.v rfl (OpVal.moveI (.inr rfl) rfl) rfl rfl ?_
                  refine TL.nil ?_
                  refine S.n ?_
                  -- leaf 18 next [h7: t13=False; h8: False; h40: False; h133: True; h153: t73=True; h154: True; h155: False] H=['q38', 'q39', 'q150', 'q6', 'q4', 'q2']
                  refine ⟨by repeat (first | exact Agr.mask | refine Agr.upd rfl ?_ | refine Agr.maskIn rfl ?_), (g1 + 1, xa, xc), ?_, ?_, ?_, ?_, ?_⟩
                  · show x.edges.length - (g1 + 1) < x.edges.length - g1; omega
                  · show g1 + 1 ≤ x.edges.length; omega
                  · repeat (first | exact trivial | refine ⟨rfl, ?_⟩)
                  · show _ = [Res.cells _ #[_, _, _, .slice _ (catTo x y (g1 + 1)).length _] _, Res.rowS _ _ _ (.slice _ (catTo x y (g1 + 1)).length _) (catTo x y (g1 + 1)), _, _, _, _]
                    rw [catC_f (by omega) h155] <;> rfl
                  · rfl
              · try simp only [decide_eq_true_eq, decide_eq_false_iff_not, Bool.not_eq_true', Bool.not_eq_false', Bool.not_eq_eq_eq_not, Bool.not_true, Bool.not_false, Int.not_lt, Int.not_le, Decidable.not_not] at h154
                refine TC.exit ?_
                refine S.x ?_
                refine S.x ?_
                refine TC.exitHere ?_
                refine S.n ?_
                refine TC.seq ?_
                refine TC.front 1 rfl rfl ?_
                refine TC.sealS encE_len (fun τ164 hle163 hr162 => ?_)
                replace hx := hx.mono hle163
                replace hy := hy.mono hle163
                replace hd := hd.mono hle163
                replace hr12 := hr12.mono hle163
                replace hr134 := hr134.mono hle163
                replace hr137 := hr137.mono hle163
                replace hr143 := hr143.mono hle163
                refine TC.front 1 rfl rfl ?_
                refine TC.sealS encE_len (fun τ167 hle166 hr165 => ?_)
                replace hx := hx.mono hle166
                replace hy := hy.mono hle166
                replace hd := hd.mono hle166
                replace hr12 := hr12.mono hle166
                replace hr134 := hr134.mono hle166
                replace hr137 := hr137.mono hle166
                replace hr143 := hr143.mono hle166
                replace hr162 := hr162.mono hle166
                refine TC.region ?_
                refine TL.v rfl (OpVal.loadAll rfl ag25 sz25 rfl (i := 0) rfl rfl) rfl rfl ?_
                refine TL.op rfl (OpOk.callN (end_con _ ⟨x.states + y.states, _, _, catTo x y g1⟩ ⟨ga1, gc1, a140, c141, xa, xc⟩ ⟨hr134, hr143, hr162, catTo_ok hx.ok hy.ok _⟩) rfl rfl pf71 rfl rfl rfl (fun pe τ169 hle168 he => ?_))
                replace hx := hx.mono hle168
                replace hy := hy.mono hle168
                replace hd := hd.mono hle168
                replace hr12 := hr12.mono hle168
                replace hr134 := hr134.mono hle168
                replace hr137 := hr137.mono hle168
                replace hr143 := hr143.mono hle168
                replace hr162 := hr162.mono hle168
                replace hr165 := hr165.mono hle168
                refine TL.v rfl (OpVal.extract rfl rfl rfl) rfl rfl ?_
                refine TL.v rfl (OpVal.extract rfl rfl rfl) rfl rfl ?_
                refine TL.front 1 rfl rfl ?_
                refine TL.op rfl (OpOk.storeAll rfl sz25 rfl rfl rfl rfl rfl rfl ?_)
                refine TL.v rfl (OpVal.moveI (.inr rfl) rfl) rfl rfl ?_
                refine TL.nil ?_
                refine S.n ?_
                refine TC.ret ?_
                -- leaf 19 ret [h7: t13=False; h8: False; h40: False; h133: True; h153: t73=True; h154: False] H=['q6', 'q38', 'q4', 'q2']
                obtain ⟨e1, e2⟩ := cat_stop hcx hcy hg1 (by omega) _ _
                rw [e1, e2]
                exact retNfa (p := pe) 0 rfl ag25 sz25 rfl rfl rfl rfl he
            · try simp only [decide_eq_true_eq, decide_eq_false_iff_not, Bool.not_eq_true', Bool.not_eq_false', Bool.not_eq_eq_eq_not, Bool.not_true, Bool.not_false, Int.not_lt, Int.not_le, Decidable.not_not] at h153
              refine TL.goff rfl rfl rfl rfl rfl rfl rfl rfl ?_
              refine TL.goff rfl rfl rfl rfl rfl rfl rfl rfl ?_
              refine TL.goff rfl rfl rfl rfl rfl rfl rfl rfl ?_
              refine TL.goff rfl rfl rfl rfl rfl rfl rfl rfl ?_
              refine TL.v rfl (OpVal.pickFB rfl rfl rfl) rfl rfl ?_
              refine TL.nil ?_
              refine S.n ?_
              refine TC.cond rfl (fun h => Bool.noConfusion h) (fun _ => ?_)
              refine TC.exit ?_
              refine S.x ?_
              refine S.x ?_
              refine TC.exitHere ?_
              refine S.n ?_
              refine TC.seq ?_
              refine TC.front 1 rfl rfl ?_
              refine TC.sealS encE_len (fun τ172 hle171 hr170 => ?_)
              replace hx := hx.mono hle171
              replace hy := hy.mono hle171
              replace hd := hd.mono hle171
              replace hr12 := hr12.mono hle171
              replace hr134 := hr134.mono hle171
              replace hr137 := hr137.mono hle171
              replace hr143 := hr143.mono hle171
              refine TC.front 1 rfl rfl ?_
              refine TC.sealS encE_len (fun τ175 hle174 hr173 => ?_)
              replace hx := hx.mono hle174
              replace hy := hy.mono hle174
              replace hd := hd.mono hle174
              replace hr12 := hr12.mono hle174
              replace hr134 := hr134.mono hle174
              replace hr137 := hr137.mono hle174
              replace hr143 := hr143.mono hle174
              replace hr170 := hr170.mono hle174
              refine TC.region ?_
              refine TL.v rfl (OpVal.loadAll rfl ag25 sz25 rfl (i := 0) rfl rfl) rfl rfl ?_
              refine TL.op rfl (OpOk.callN (end_con _ ⟨x.states + y.states, _, _, catTo x y g1⟩ ⟨ga1, gc1, a140, c141, xa, xc⟩ ⟨hr134, hr143, hr170, catTo_ok hx.ok hy.ok _⟩) rfl rfl pf71 rfl rfl rfl (fun pe τ177 hle176 he => ?_))
              replace hx := hx.mono hle176
              replace hy := hy.mono hle176
              replace hd := hd.mono hle176
              replace hr12 := hr12.mono hle176
              replace hr134 := hr134.mono hle176
              replace hr137 := hr137.mono hle176
              replace hr143 := hr143.mono hle176
              replace hr170 := hr170.mono hle176
              replace hr173 := hr173.mono hle176
              refine TL.v rfl (OpVal.extract rfl rfl rfl) rfl rfl ?_
              refine TL.v rfl (OpVal.extract rfl rfl rfl) rfl rfl ?_
              refine TL.front 1 rfl rfl ?_
              refine TL.op rfl (OpOk.storeAll rfl sz25 rfl rfl rfl rfl rfl rfl ?_)
              refine TL.v rfl (OpVal.moveI (.inr rfl) rfl) rfl rfl ?_
              refine TL.nil ?_
              refine S.n ?_
              refine TC.ret ?_
              -- leaf 20 ret [h7: t13=False; h8: False; h40: False; h133: True; h153: t73=False] H=['q6', 'q38', 'q4', 'q2']
              obtain rfl : g1 = x.edges.length := by omega
              obtain ⟨e1, e2⟩ := cat_all hcx hcy (show catS x y = x.starts ++ [] from (if_neg (by rw [h40]; exact Bool.false_ne_true)).trans (List.append_nil _).symm) (show catD x y = x.ends ++ shiftL y.ends x.states from if_pos h133)
              rw [e1, e2]
              exact retNfa (p := pe) 0 rfl ag25 sz25 rfl rfl rfl rfl he
          · try simp only [decide_eq_true_eq, decide_eq_false_iff_not, Bool.not_eq_true', Bool.not_eq_false', Bool.not_eq_eq_eq_not, Bool.not_true, Bool.not_false, Int.not_lt, Int.not_le, Decidable.not_not] at h133
            refine TC.skip ?_
            refine S.n ?_
            refine TC.seq ?_
            refine TC.front 2 rfl rfl ?_
            refine TC.sealS encI_len (fun τ180 hle179 hr178 => ?_)
            replace hx := hx.mono hle179
            replace hy := hy.mono hle179
            replace hd := hd.mono hle179
            replace hr12 := hr12.mono hle179
            refine TC.front 2 rfl rfl ?_
            refine TC.sealS encI_len (fun τ183 hle182 hr181 => ?_)
            replace hx := hx.mono hle182
            replace hy := hy.mono hle182
            replace hd := hd.mono hle182
            replace hr12 := hr12.mono hle182
            replace hr178 := hr178.mono hle182
            refine TC.region ?_
            refine TL.v rfl (OpVal.fieldLoc rfl fo25_3 rfl) rfl rfl ?_
            refine TL.v rfl (OpVal.loadLoc rfl ag23 rfl (i := 1) rfl rfl) rfl rfl ?_
            refine TL.v rfl (OpVal.fieldLoc rfl fo25_3 rfl) rfl rfl ?_
            refine TL.v rfl (OpVal.loadLoc rfl ag23 rfl (i := 4) rfl rfl) rfl rfl ?_
            refine TL.op rfl (OpOk.appendS rfl rfl Try.underlying23 sz80 by80 ze80 rfl rfl (by decide) rfl rfl rfl (.inl (by assumption)) (by (try simp only [List.length_cons, List.length_nil, List.length_append]); omega) (by decide) (fun a184 c185 => ?_))
            refine TL.v rfl (OpVal.fieldLoc rfl fo25_3 rfl) rfl rfl ?_
            refine TL.front 1 rfl rfl ?_
            refine TL.op rfl (OpOk.storeSl rfl sz23 rfl rfl rfl rfl rfl ?_)
            refine TL.nil ?_
            refine S.n ?_
            refine TC.seq ?_
            refine TC.draw [7, 8, 9] (by kernel_rfl) ?_
            refine TA.takeP 0 rfl (by kernel_rfl) (by kernel_rfl) (by kernel_rfl) rfl (OpVal.fieldLoc rfl fo25_3 rfl) rfl rfl ?_
            refine TA.take 1 rfl (by kernel_rfl) (by kernel_rfl) (by kernel_rfl) (by kernel_rfl) rfl (OpVal.loadLoc rfl ag23 rfl (i := 0) rfl rfl) rfl rfl ?_
            refine TA.takeP 2 rfl (by kernel_rfl) (by kernel_rfl) (by kernel_rfl) rfl (OpVal.fieldLoc rfl fo25_3 rfl) rfl rfl ?_
            refine TA.take 3 rfl (by kernel_rfl) (by kernel_rfl) (by kernel_rfl) (by kernel_rfl) rfl (OpVal.loadLoc rfl ag23 rfl (i := 3) rfl rfl) rfl rfl ?_
            refine TA.takeP 4 rfl (by kernel_rfl) (by kernel_rfl) (by kernel_rfl) rfl (OpVal.fieldLoc rfl fo25_0 rfl) rfl rfl ?_
            refine TA.take 5 rfl (by kernel_rfl) (by kernel_rfl) (by kernel_rfl) (by kernel_rfl) rfl (OpVal.loadLoc rfl ag3 rfl (i := 4) rfl rfl) rfl rfl ?_
            refine TA.act 6 (by kernel_rfl) rfl rfl (OpOk.callR (shifted_con _ _ _ _ _ hy.d ⟨k1, by omega⟩ (fun u hu => by have := l6 u hu; omega) (by omega)) rfl rfl pf70 rfl rfl rfl (fun a186 c187 => ⟨(fun w h => sees_of (by first | exact Store.le.refl _ | assumption) (fun r hr => (List.mem_cons_of_mem _ hr)) w h), ?_⟩))
            refine TA.front 2 rfl rfl ?_
            refine TA.last 7 (by kernel_rfl) rfl rfl rfl (OpOk.appendS rfl rfl Try.underlying23 sz80 by80 ze80 rfl rfl (by decide) rfl rfl rfl (.inr ⟨_, 0, rfl⟩) (by (try simp only [List.length_cons, List.length_nil, List.length_append]); omega) (by decide) (fun a189 c190 => ?_))
            refine TZ.v 8 (by kernel_rfl) rfl rfl rfl (OpVal.fieldLoc rfl fo25_3 rfl) rfl rfl ?_
            refine TZ.front 2 rfl rfl ?_
            refine TZ.last 9 (by kernel_rfl) rfl rfl rfl (OpOk.storeSl rfl sz23 rfl rfl rfl rfl rfl ?_)
            refine TZ.done (by kernel_rfl) ?_
            refine S.n ?_
            refine TC.seq ?_
            refine TC.seq ?_
            refine TC.region ?_
            refine TL.v rfl (OpVal.moveI (.inr rfl) rfl) rfl rfl ?_
            refine TL.nil ?_
            refine S.n ?_
            refine TC.block ?_
            refine TC.loopF (α := Nat × Option Addr × Nat) [8, 9, 68, 69, 70, 71, 72, 73, 74, 75, 76, 77, 78, 79, 80, 81, 82, 83, 84, 85, 86, 87, 88, 89, 90, 91, 92, 93, 94, 95, 96, 97, 98, 99, 100, 101, 102, 103, 104, 105, 106, 107, 108, 109, 110, 111, 112, 113, 114, 115, 116, 117] (fun g => [(8, .int .i64 (g.1 : Nat))]) (fun g => [Res.cells gb #[.int .i64 (x.states + y.states), .slice ga1 _ gc1, .slice ga2 _ gc2, .slice g.2.1 (catTo x y g.1).length g.2.2] 25, Res.rowS 80 6 encE (.slice g.2.1 (catTo x y g.1).length g.2.2) (catTo x y g.1), Res.rowS 80 6 encE (.slice a186 (shiftE y.edges x.states).length c187) (shiftE y.edges x.states), Res.cells b5 (nfaA Nfa.zero NfaP.zero) 25, Res.cells b3 (nfaA y q) 25, Res.cells b1 (nfaA x p) 25]) (fun _ => _) (fun g => g.1 ≤ x.edges.length) (fun g => x.edges.length - g.1) ((0, a189, c190)) (by first | exact True.intro | omega | (dsimp only; omega) | (simp; done) | (simp; omega)) (by repeat (first | exact trivial | refine ⟨rfl, ?_⟩)) (by rw [show catTo x y 0 = [] ++ x.edges ++ shiftE y.edges x.states from by rw [catTo_zero, List.nil_append]]; rfl) (by rfl) (fun g1 j1 hg1 => ?_)
            obtain ⟨g1, xa, xc⟩ := g1
            dsimp only
            have hg1 : g1 ≤ x.edges.length := hg1
            have hl2 := catTo_len x y g1 hg1 (by omega) (by omega) (by omega)
            refine TC.seq ?_
            refine TC.seq ?_
            refine TC.region ?_
            refine TL.v rfl (OpVal.moveI (.inl rfl) rfl) rfl rfl ?_
            refine TL.v rfl (OpVal.fieldLoc rfl fo25_3 rfl) rfl rfl ?_
            refine TL.v rfl (OpVal.loadLoc rfl ag23 rfl (i := 5) rfl rfl) rfl rfl ?_
            refine TL.v rfl (OpVal.lenC rfl Try.underlying23 rfl) rfl rfl ?_
            refine TL.v rfl (OpVal.lss rfl rfl rfl) rfl rfl ?_
            refine TL.v rfl (OpVal.moveB (.inl rfl) rfl) rfl rfl ?_
            refine TL.split 73 rfl (fun h191 => ?_) (fun h191 => ?_)
            · try simp only [decide_eq_true_eq, decide_eq_false_iff_not, Bool.not_eq_true', Bool.not_eq_false', Bool.not_eq_eq_eq_not, Bool.not_true, Bool.not_false, Int.not_lt, Int.not_le, Decidable.not_not] at h191
              refine TL.gv rfl rfl rfl rfl rfl (OpVal.fieldLoc rfl fo25_3 rfl) rfl rfl ?_
              refine TL.gv rfl rfl rfl rfl rfl (OpVal.loadLoc rfl ag23 rfl (i := 0) rfl rfl) rfl rfl ?_
              refine TL.gv rfl rfl rfl rfl rfl (OpVal.lenC rfl Try.underlying23 rfl) rfl rfl ?_
              refine TL.gv rfl rfl rfl rfl rfl (OpVal.leq rfl rfl rfl) rfl rfl ?_
              refine TL.v rfl (OpVal.pickTB rfl rfl rfl) rfl rfl ?_
              refine TL.nil ?_
              refine S.n ?_
              refine TC.condD rfl (fun h192 => ?_) (fun h192 => ?_)
              · try simp only [decide_eq_true_eq, decide_eq_false_iff_not, Bool.not_eq_true', Bool.not_eq_false', Bool.not_eq_eq_eq_not, Bool.not_true, Bool.not_false, Int.not_lt, Int.not_le, Decidable.not_not] at h192
                refine TC.skip ?_
                refine S.n ?_
                refine TC.seq ?_
                refine TC.block ?_
                refine TC.seq ?_
                refine TC.draw [] (by kernel_rfl) ?_
                refine TA.takeP 0 rfl (by kernel_rfl) (by kernel_rfl) (by kernel_rfl) rfl (OpVal.fieldLoc rfl fo25_3 rfl) rfl rfl ?_
                refine TA.take 1 rfl (by kernel_rfl) (by kernel_rfl) (by kernel_rfl) (by kernel_rfl) rfl (OpVal.loadLoc rfl ag23 rfl (i := 5) rfl rfl) rfl rfl ?_
                refine TA.takeP 2 rfl (by kernel_rfl) (by kernel_rfl) (by kernel_rfl) rfl (OpVal.moveI (.inl rfl) rfl) rfl rfl ?_
                refine TA.takeP 3 rfl (by kernel_rfl) (by kernel_rfl) (by kernel_rfl) rfl (OpVal.indexN rfl Try.underlying23 sz80 rfl rfl (by first | assumption | exact (RS.rv (by assumption)).sl) (by omega)) rfl rfl ?_
                refine TA.takeP 4 rfl (by kernel_rfl) (by kernel_rfl) (by kernel_rfl) rfl (OpVal.fieldElem rfl fo80_1 rfl (by first | assumption | exact (RS.rv (by assumption)).sl) (by omega)) rfl rfl ?_
                refine TA.take 5 rfl (by kernel_rfl) (by kernel_rfl) (by kernel_rfl) (by kernel_rfl) rfl (OpVal.loadS Arrow.zero rfl ag3 rfl (by assumption) (by omega) (by omega) rfl) rfl rfl ?_
                refine TA.takeP 6 rfl (by kernel_rfl) (by kernel_rfl) (by kernel_rfl) rfl (OpVal.fieldLoc rfl fo25_2 rfl) rfl rfl ?_
                refine TA.take 7 rfl (by kernel_rfl) (by kernel_rfl) (by kernel_rfl) (by kernel_rfl) rfl (OpVal.loadLoc rfl ag22 rfl (i := 5) rfl rfl) rfl rfl ?_
                refine TA.act 8 (by kernel_rfl) rfl rfl (OpOk.callP (in_con _ _ _ _ _ hx.e) rfl rfl pf59 rfl rfl rfl ⟨(fun w h => sees_of (by first | exact Store.le.refl _ | assumption) (fun r hr => hr) w h), ?_⟩)
                refine TA.done (by kernel_rfl) ?_
                refine S.n ?_
                refine TC.cond rfl (fun h193 => ?_) (fun h193 => ?_)
                · try simp only [decide_eq_true_eq, decide_eq_false_iff_not, Bool.not_eq_true', Bool.not_eq_false', Bool.not_eq_eq_eq_not, Bool.not_true, Bool.not_false, Int.not_lt, Int.not_le, Decidable.not_not] at h193
                  refine TC.seq ?_
                  refine TC.region ?_
                  refine TL.v rfl (OpVal.moveI (.inr rfl) rfl) rfl rfl ?_
                  refine TL.nil ?_
                  refine S.n ?_
                  refine TC.block ?_
                  refine TC.loopF (α := Nat × Option Addr × Nat) [9, 90, 91, 92, 93, 94, 95, 96, 97, 98, 99, 100, 101, 102, 103, 104, 105, 106, 107, 108, 109, 110, 111, 112, 113, 114, 115, 116, 117] (fun g => [(9, .int .i64 (g.1 : Nat))]) (fun g => [Res.cells gb #[.int .i64 (x.states + y.states), .slice ga1 _ gc1, .slice ga2 _ gc2, .slice g.2.1 (catTo x y g1 ++ catPut (nth x.edges g1 Arrow.zero) ((shiftL y.starts x.states).take g.1)).length g.2.2] 25, Res.rowS 80 6 encE (.slice g.2.1 (catTo x y g1 ++ catPut (nth x.edges g1 Arrow.zero) ((shiftL y.starts x.states).take g.1)).length g.2.2) (catTo x y g1 ++ catPut (nth x.edges g1 Arrow.zero) ((shiftL y.starts x.states).take g.1)), Res.rowS 80 6 encE (.slice a186 (shiftE y.edges x.states).length c187) (shiftE y.edges x.states), Res.cells b5 (nfaA Nfa.zero NfaP.zero) 25, Res.cells b3 (nfaA y q) 25, Res.cells b1 (nfaA x p) 25]) (fun _ => _) (fun g => g.1 ≤ y.starts.length) (fun g => y.starts.length - g.1) ((0, xa, xc)) (by first | exact True.intro | omega | (dsimp only; omega) | (simp; done) | (simp; omega)) (by repeat (first | exact trivial | refine ⟨rfl, ?_⟩)) (by rw [show catTo x y g1 ++ catPut (nth x.edges g1 Arrow.zero) ((shiftL y.starts x.states).take 0) = catTo x y g1 from List.append_nil _]) (by rfl) (fun g2 j2 hg2 => ?_)
                  obtain ⟨g2, ya, yc⟩ := g2
                  dsimp only
                  have hg2 : g2 ≤ y.starts.length := hg2
                  have hcl := catPut_len (nth x.edges g1 Arrow.zero) ((shiftL y.starts x.states).take g2)
                  have hct : ((shiftL y.starts x.states).take g2).length = min g2 (shiftL y.starts x.states).length := List.length_take
                  refine TC.seq ?_
                  refine TC.seq ?_
                  refine TC.region ?_
                  refine TL.v rfl (OpVal.moveI (.inl rfl) rfl) rfl rfl ?_
                  refine TL.v rfl (OpVal.moveSl (.inl rfl) rfl) rfl rfl ?_
                  refine TL.v rfl (OpVal.lenC rfl Try.underlying22 rfl) rfl rfl ?_
                  refine TL.v rfl (OpVal.lss rfl rfl rfl) rfl rfl ?_
                  refine TL.nil ?_
                  refine S.n ?_
                  refine TC.condD rfl (fun h194 => ?_) (fun h194 => ?_)
                  · try simp only [decide_eq_true_eq, decide_eq_false_iff_not, Bool.not_eq_true', Bool.not_eq_false', Bool.not_eq_eq_eq_not, Bool.not_true, Bool.not_false, Int.not_lt, Int.not_le, Decidable.not_not] at h194
                    refine TC.skip ?_
                    refine S.n ?_
                    refine TC.seq ?_
                    refine TC.block ?_
                    refine TC.draw [20, 21, 22] (by kernel_rfl) ?_
                    refine TA.takeP 0 rfl (by kernel_rfl) (by kernel_rfl) (by kernel_rfl) rfl (OpVal.fieldLoc rfl fo25_3 rfl) rfl rfl ?_
                    refine TA.take 1 rfl (by kernel_rfl) (by kernel_rfl) (by kernel_rfl) (by kernel_rfl) rfl (OpVal.loadLoc rfl ag23 rfl (i := 0) rfl rfl) rfl rfl ?_
                    refine TA.takeP 2 rfl (by kernel_rfl) (by kernel_rfl) (by kernel_rfl) rfl (OpVal.fieldLoc rfl fo25_3 rfl) rfl rfl ?_
                    refine TA.take 3 rfl (by kernel_rfl) (by kernel_rfl) (by kernel_rfl) (by kernel_rfl) rfl (OpVal.loadLoc rfl ag23 rfl (i := 5) rfl rfl) rfl rfl ?_
                    refine TA.takeP 4 rfl (by kernel_rfl) (by kernel_rfl) (by kernel_rfl) rfl (OpVal.moveI (.inl rfl) rfl) rfl rfl ?_
                    refine TA.takeP 5 rfl (by kernel_rfl) (by kernel_rfl) (by kernel_rfl) rfl (OpVal.indexN rfl Try.underlying23 sz80 rfl rfl (by first | assumption | exact (RS.rv (by assumption)).sl) (by omega)) rfl rfl ?_
                    refine TA.takeP 6 rfl (by kernel_rfl) (by kernel_rfl) (by kernel_rfl) rfl (OpVal.fieldElem rfl fo80_0 rfl (by first | assumption | exact (RS.rv (by assumption)).sl) (by omega)) rfl rfl ?_
                    refine TA.take 7 rfl (by kernel_rfl) (by kernel_rfl) (by kernel_rfl) (by kernel_rfl) rfl (OpVal.loadS Arrow.zero rfl ag3 rfl (by assumption) (by omega) (by omega) rfl) rfl rfl ?_
                    refine TA.takeP 8 rfl (by kernel_rfl) (by kernel_rfl) (by kernel_rfl) rfl (OpVal.moveSl (.inl rfl) rfl) rfl rfl ?_
                    refine TA.takeP 9 rfl (by kernel_rfl) (by kernel_rfl) (by kernel_rfl) rfl (OpVal.moveI (.inl rfl) rfl) rfl rfl ?_
                    refine TA.takeP 10 rfl (by kernel_rfl) (by kernel_rfl) (by kernel_rfl) rfl (OpVal.indexN rfl Try.underlying22 sz3 rfl rfl (by first | assumption | exact (RS.rv (by assumption)).sl) (by omega)) rfl rfl ?_
                    refine TA.take 11 rfl (by kernel_rfl) (by kernel_rfl) (by kernel_rfl) (by kernel_rfl) rfl (OpVal.loadS1 (0 : Int) rfl ag3 rfl (by assumption) (by omega) rfl) rfl rfl ?_
                    refine TA.takeP 12 rfl (by kernel_rfl) (by kernel_rfl) (by kernel_rfl) rfl (OpVal.fieldLoc rfl fo25_3 rfl) rfl rfl ?_
                    refine TA.take 13 rfl (by kernel_rfl) (by kernel_rfl) (by kernel_rfl) (by kernel_rfl) rfl (OpVal.loadLoc rfl ag23 rfl (i := 5) rfl rfl) rfl rfl ?_
                    refine TA.takeP 14 rfl (by kernel_rfl) (by kernel_rfl) (by kernel_rfl) rfl (OpVal.moveI (.inl rfl) rfl) rfl rfl ?_
                    refine TA.takeP 15 rfl (by kernel_rfl) (by kernel_rfl) (by kernel_rfl) rfl (OpVal.indexN rfl Try.underlying23 sz80 rfl rfl (by first | assumption | exact (RS.rv (by assumption)).sl) (by omega)) rfl rfl ?_
                    refine TA.takeP 16 rfl (by kernel_rfl) (by kernel_rfl) (by kernel_rfl) rfl (OpVal.fieldElem rfl fo80_2 rfl (by first | assumption | exact (RS.rv (by assumption)).sl) (by omega)) rfl rfl ?_
                    refine TA.take 17 rfl (by kernel_rfl) (by kernel_rfl) (by kernel_rfl) (by kernel_rfl) rfl (OpVal.loadSub Arrow.zero rfl ag28 sz28 rfl (by assumption) (by omega) (by omega) (by omega) rfl rfl) rfl rfl ?_
                    refine TA.takeP 18 rfl (by kernel_rfl) (by kernel_rfl) (by kernel_rfl) rfl (OpVal.buildL rfl pl80 ze80 rfl) rfl rfl ?_
                    refine TA.act 19 (by kernel_rfl) rfl rfl (OpOk.lit (enc := encE) [⟨(nth x.edges g1 Arrow.zero).frm, nth (shiftL y.starts x.states) g2 0, (nth x.edges g1 Arrow.zero).set⟩] rfl Try.underlying23 sz80 ze80 rfl rfl rfl encE_len (by decide) (by decide) Arrow.zero rfl (by decide) rfl (by decide) encE_one (fun a195 c196 => ⟨(fun w h => sees_of (by first | exact Store.le.refl _ | assumption) (fun r hr => (List.mem_cons_of_mem _ hr)) w h), ?_⟩))
                    refine TA.front 2 rfl rfl ?_
                    refine TA.last 20 (by kernel_rfl) rfl rfl rfl (OpOk.appendS rfl rfl Try.underlying23 sz80 by80 ze80 rfl rfl (by decide) rfl rfl rfl (.inr ⟨_, 0, rfl⟩) (by (try simp only [List.length_cons, List.length_nil, List.length_append]); omega) (by decide) (fun a198 c199 => ?_))
                    refine TZ.v 21 (by kernel_rfl) rfl rfl rfl (OpVal.fieldLoc rfl fo25_3 rfl) rfl rfl ?_
                    refine TZ.front 2 rfl rfl ?_
                    refine TZ.last 22 (by kernel_rfl) rfl rfl rfl (OpOk.storeSl rfl sz23 rfl rfl rfl rfl rfl ?_)
                    refine TZ.done (by kernel_rfl) ?_
                    refine B.n ?_
                    refine S.n ?_
                    refine TC.region ?_
                    refine TL.v rfl (OpVal.moveI (.inl rfl) rfl) rfl rfl ?_
                    refine TL.v rfl (OpVal.succ rfl rfl rfl (by omega)) rfl rfl ?_
                    refine TL.v rfl (OpVal.moveI (.inr rfl) rfl) rfl rfl ?_
                    refine TL.front 6 rfl rfl ?_
                    refine TL.front 6 rfl rfl ?_
                    refine TL.front 6 rfl rfl ?_
                    refine TL.front 6 rfl rfl ?_
                    refine TL.front 5 rfl rfl ?_
                    refine TL.front 5 rfl rfl ?_
                    refine TL.takeN 6 rfl ?_
                    refine TL.nil ?_
                    refine S.n ?_
                    -- leaf 21 next [h7: t13=False; h8: False; h40: False; h133: False; h191: t73=True; h192: True; h193: True; h194: True] H=['q38', 'q39', 'q188', 'q6', 'q4', 'q2']
                    refine ⟨by repeat (first | exact Agr.mask | refine Agr.upd rfl ?_ | refine Agr.maskIn rfl ?_), (g2 + 1, a198, c199), ?_, ?_, ?_, ?_, ?_⟩
                    · show y.starts.length - (g2 + 1) < y.starts.length - g2; omega
                    · show g2 + 1 ≤ y.starts.length; omega
                    · repeat (first | exact trivial | refine ⟨rfl, ?_⟩)
                    · show _ = [Res.cells _ #[_, _, _, .slice _ (catTo x y g1 ++ catPut (nth x.edges g1 Arrow.zero) ((shiftL y.starts x.states).take (g2 + 1))).length _] _, Res.rowS _ _ _ (.slice _ (catTo x y g1 ++ catPut (nth x.edges g1 Arrow.zero) ((shiftL y.starts x.states).take (g2 + 1))).length _) (catTo x y g1 ++ catPut (nth x.edges g1 Arrow.zero) ((shiftL y.starts x.states).take (g2 + 1))), _, _, _, _]
                      rw [catPut_snoc (by omega), ← List.append_assoc]; rfl
                    · rfl
                  · try simp only [decide_eq_true_eq, decide_eq_false_iff_not, Bool.not_eq_true', Bool.not_eq_false', Bool.not_eq_eq_eq_not, Bool.not_true, Bool.not_false, Int.not_lt, Int.not_le, Decidable.not_not] at h194
                    refine TC.exit ?_
                    refine S.x ?_
                    refine S.x ?_
                    refine TC.exitHere ?_
                    refine B.n ?_
                    refine S.n ?_
                    refine TC.region ?_
                    refine TL.v rfl (OpVal.moveI (.inl rfl) rfl) rfl rfl ?_
                    refine TL.v rfl (OpVal.succ rfl rfl rfl (by omega)) rfl rfl ?_
                    refine TL.v rfl (OpVal.moveI (.inr rfl) rfl) rfl rfl ?_
                    refine TL.nil ?_
                    refine S.n ?_
                    -- leaf 22 next [h7: t13=False; h8: False; h40: False; h133: False; h191: t73=True; h192: True; h193: True; h194: False] H=['q38', 'q39', 'q188', 'q6', 'q4', 'q2']
                    have ht : (shiftL y.starts x.states).take g2 = shiftL y.starts x.states := List.take_of_length_le (by omega)
                    refine ⟨by repeat (first | exact Agr.mask | refine Agr.upd rfl ?_ | refine Agr.maskIn rfl ?_), (g1 + 1, ya, yc), ?_, ?_, ?_, ?_, ?_⟩
                    · show x.edges.length - (g1 + 1) < x.edges.length - g1; omega
                    · show g1 + 1 ≤ x.edges.length; omega
                    · repeat (first | exact trivial | refine ⟨rfl, ?_⟩)
                    · show _ = [Res.cells _ #[_, _, _, .slice _ (catTo x y (g1 + 1)).length _] _, Res.rowS _ _ _ (.slice _ (catTo x y (g1 + 1)).length _) (catTo x y (g1 + 1)), _, _, _, _]
                      rw [catC_t (by omega) h193, ht] <;> rfl
                    · rfl
                · try simp only [decide_eq_true_eq, decide_eq_false_iff_not, Bool.not_eq_true', Bool.not_eq_false', Bool.not_eq_eq_eq_not, Bool.not_true, Bool.not_false, Int.not_lt, Int.not_le, Decidable.not_not] at h193
                  refine TC.skip ?_
                  refine B.n ?_
                  refine S.n ?_
                  refine TC.region ?_
                  refine TL.v rfl (OpVal.moveI (.inl rfl) rfl) rfl rfl ?_
                  refine TL.v rfl (OpVal.succ rfl rfl rfl (by omega)) rfl rfl ?_
                  refine TL.v rfl (OpVal.moveI (.inr rfl) rfl) rfl rfl ?_
                  refine TL.nil ?_
                  refine S.n ?_
                  -- leaf 23 next [h7: t13=False; h8: False; h40: False; h133: False; h191: t73=True; h192: True; h193: False] H=['q38', 'q39', 'q188', 'q6', 'q4', 'q2']
                  refine ⟨by repeat (first | exact Agr.mask | refine Agr.upd rfl ?_ | refine Agr.maskIn rfl ?_), (g1 + 1, xa, xc), ?_, ?_, ?_, ?_, ?_⟩
                  · show x.edges.length - (g1 + 1) < x.edges.length - g1; omega
                  · show g1 + 1 ≤ x.edges.length; omega
                  · repeat (first | exact trivial | refine ⟨rfl, ?_⟩)
                  · show _ = [Res.cells _ #[_, _, _, .slice _ (catTo x y (g1 + 1)).length _] _, Res.rowS _ _ _ (.slice _ (catTo x y (g1 + 1)).length _) (catTo x y (g1 + 1)), _, _, _, _]
                    rw [catC_f (by omega) h193] <;> rfl
                  · rfl
              · try simp only [decide_eq_true_eq, decide_eq_false_iff_not, Bool.not_eq_true', Bool.not_eq_false', Bool.not_eq_eq_eq_not, Bool.not_true, Bool.not_false, Int.not_lt, Int.not_le, Decidable.not_not] at h192
                refine TC.exit ?_
                refine S.x ?_
                refine S.x ?_
                refine TC.exitHere ?_
                refine S.n ?_
                refine TC.seq ?_
                refine TC.front 1 rfl rfl ?_
                refine TC.sealS encE_len (fun τ202 hle201 hr200 => ?_)
                replace hx := hx.mono hle201
                replace hy := hy.mono hle201
                replace hd := hd.mono hle201
                replace hr12 := hr12.mono hle201
                replace hr178 := hr178.mono hle201
                replace hr181 := hr181.mono hle201
                refine TC.front 1 rfl rfl ?_
                refine TC.sealS encE_len (fun τ205 hle204 hr203 => ?_)
                replace hx := hx.mono hle204
                replace hy := hy.mono hle204
                replace hd := hd.mono hle204
                replace hr12 := hr12.mono hle204
                replace hr178 := hr178.mono hle204
                replace hr181 := hr181.mono hle204
                replace hr200 := hr200.mono hle204
                refine TC.region ?_
                refine TL.v rfl (OpVal.loadAll rfl ag25 sz25 rfl (i := 0) rfl rfl) rfl rfl ?_
                refine TL.op rfl (OpOk.callN (end_con _ ⟨x.states + y.states, _, _, catTo x y g1⟩ ⟨ga1, gc1, ga2, gc2, xa, xc⟩ ⟨hr178, hr181, hr200, catTo_ok hx.ok hy.ok _⟩) rfl rfl pf71 rfl rfl rfl (fun pe τ207 hle206 he => ?_))
                replace hx := hx.mono hle206
                replace hy := hy.mono hle206
                replace hd := hd.mono hle206
                replace hr12 := hr12.mono hle206
                replace hr178 := hr178.mono hle206
                replace hr181 := hr181.mono hle206
                replace hr200 := hr200.mono hle206
                replace hr203 := hr203.mono hle206
                refine TL.v rfl (OpVal.extract rfl rfl rfl) rfl rfl ?_
                refine TL.v rfl (OpVal.extract rfl rfl rfl) rfl rfl ?_
                refine TL.front 1 rfl rfl ?_
                refine TL.op rfl (OpOk.storeAll rfl sz25 rfl rfl rfl rfl rfl rfl ?_)
                refine TL.v rfl (OpVal.moveI (.inr rfl) rfl) rfl rfl ?_
                refine TL.nil ?_
                refine S.n ?_
                refine TC.ret ?_
                -- leaf 24 ret [h7: t13=False; h8: False; h40: False; h133: False; h191: t73=True; h192: False] H=['q6', 'q38', 'q4', 'q2']
                obtain ⟨e1, e2⟩ := cat_stop hcx hcy hg1 (by omega) _ _
                rw [e1, e2]
                exact retNfa (p := pe) 0 rfl ag25 sz25 rfl rfl rfl rfl he
            · try simp only [decide_eq_true_eq, decide_eq_false_iff_not, Bool.not_eq_true', Bool.not_eq_false', Bool.not_eq_eq_eq_not, Bool.not_true, Bool.not_false, Int.not_lt, Int.not_le, Decidable.not_not] at h191
              refine TL.goff rfl rfl rfl rfl rfl rfl rfl rfl ?_
              refine TL.goff rfl rfl rfl rfl rfl rfl rfl rfl ?_
              refine TL.goff rfl rfl rfl rfl rfl rfl rfl rfl ?_
              refine TL.goff rfl rfl rfl rfl rfl rfl rfl rfl ?_
              refine TL.v rfl (OpVal.pickFB rfl rfl rfl) rfl rfl ?_
              refine TL.nil ?_
              refine S.n ?_
              refine TC.cond rfl (fun h => Bool.noConfusion h) (fun _ => ?_)
              refine TC.exit ?_
              refine S.x ?_
              refine S.x ?_
              refine TC.exitHere ?_
              refine S.n ?_
              refine TC.seq ?_
              refine TC.front 1 rfl rfl ?_
              refine TC.sealS encE_len (fun τ210 hle209 hr208 => ?_)
              replace hx := hx.mono hle209
              replace hy := hy.mono hle209
              replace hd := hd.mono hle209
              replace hr12 := hr12.mono hle209
              replace hr178 := hr178.mono hle209
              replace hr181 := hr181.mono hle209
              refine TC.front 1 rfl rfl ?_
              refine TC.sealS encE_len (fun τ213 hle212 hr211 => ?_)
              replace hx := hx.mono hle212
              replace hy := hy.mono hle212
              replace hd := hd.mono hle212
              replace hr12 := hr12.mono hle212
              replace hr178 := hr178.mono hle212
              replace hr181 := hr181.mono hle212
              replace hr208 := hr208.mono hle212
              refine TC.region ?_
              refine TL.v rfl (OpVal.loadAll rfl ag25 sz25 rfl (i := 0) rfl rfl) rfl rfl ?_
              refine TL.op rfl (OpOk.callN (end_con _ ⟨x.states + y.states, _, _, catTo x y g1⟩ ⟨ga1, gc1, ga2, gc2, xa, xc⟩ ⟨hr178, hr181, hr208, catTo_ok hx.ok hy.ok _⟩) rfl rfl pf71 rfl rfl rfl (fun pe τ215 hle214 he => ?_))
              replace hx := hx.mono hle214
              replace hy := hy.mono hle214
              replace hd := hd.mono hle214
              replace hr12 := hr12.mono hle214
              replace hr178 := hr178.mono hle214
              replace hr181 := hr181.mono hle214
              replace hr208 := hr208.mono hle214
              replace hr211 := hr211.mono hle214
              refine TL.v rfl (OpVal.extract rfl rfl rfl) rfl rfl ?_
              refine TL.v rfl (OpVal.extract rfl rfl rfl) rfl rfl ?_
              refine TL.front 1 rfl rfl ?_
              refine TL.op rfl (OpOk.storeAll rfl sz25 rfl rfl rfl rfl rfl rfl ?_)
              refine TL.v rfl (OpVal.moveI (.inr rfl) rfl) rfl rfl ?_
              refine TL.nil ?_
              refine S.n ?_
              refine TC.ret ?_
              -- leaf 25 ret [h7: t13=False; h8: False; h40: False; h133: False; h191: t73=False] H=['q6', 'q38', 'q4', 'q2']
              obtain rfl : g1 = x.edges.length := by omega
              obtain ⟨e1, e2⟩ := cat_all hcx hcy (show catS x y = x.starts ++ [] from (if_neg (by rw [h40]; exact Bool.false_ne_true)).trans (List.append_nil _).symm) (show catD x y = shiftL y.ends x.states from if_neg (by rw [h133]; exact Bool.false_ne_true))
              rw [e1, e2]
              exact retNfa (p := pe) 0 rfl ag25 sz25 rfl rfl rfl rfl he

end Go.Proofs.Ytcidppnlhhkhhaa
