/- Parts of a proof, one behind the other: what a machine reaches, functions decompiled, plain lemmas. Conditions stand with each lemma. -/
import Derived.Test.YtcidppnlhhkhhaaB6e0a8f0098
import Derived.Test.YtcidppnlhhkhhaaB4e8ee06bdf
import Derived.Test.YtcidppnlhhkhhaaBf5ce55b825
import Derived.Lib.AppendZerosOnto
import Derived.Maps.RangeRun
import Derived.Laws.StructEq
import Derived.Laws.BytesArg
import Derived.Lib.Bytealg
import Derived.Shelf.SlSortCmp.NoneTotal

/- Ref4 -/
section
/- Contracts of the reference of nfa, part four: one behind another. -/
set_option linter.unusedVariables false
set_option linter.unusedSimpArgs false
namespace Go.Proofs.Ytcidppnlhhkhhaa
open Go Go.E
set_option maxRecDepth 100000

theorem catTo_card (x y : Nfa) (k : Nat) (h : k ≤ x.edges.length) : (catTo x y k).length = x.edges.length + y.edges.length + lastTo x k * y.starts.length := by
  induction k with
  | zero => rw [catTo_zero, List.length_append, shiftE_len, lastTo_zero]; omega
  | succ k ih =>
    have hk := ih (by omega)
    have e1 : catTo x y (k + 1) = catTo x y k ++ catOf x y (nth x.edges k Arrow.zero) := by
      rw [catTo, take_succ_nth x.edges (by omega) Arrow.zero, List.flatMap_append, ← List.append_assoc, List.flatMap_singleton]; rfl
    have e2 : lastTo x (k + 1) = lastTo x k + if x.ends.contains (nth x.edges k Arrow.zero).to = true then 1 else 0 := by
      rw [lastTo, take_succ_nth x.edges (by omega) Arrow.zero, List.countP_append, List.countP_singleton]; rfl
    rw [e1, e2, List.length_append, hk]
    unfold catOf
    split
    · rw [catPut_len, shiftL_len, Nat.add_mul, Nat.one_mul]; omega
    · simp
theorem lastTo_mono (x : Nfa) {k m : Nat} (h : k ≤ m) : lastTo x k ≤ lastTo x m := by
  have : x.edges.take k = (x.edges.take m).take k := by rw [List.take_take, Nat.min_eq_left h]
  unfold lastTo
  rw [this]
  exact (List.take_sublist _ _).countP_le
theorem catF_card (x y : Nfa) : catF x y = fitB (x.states + y.states) (catTo x y x.edges.length).length := by
  rw [catTo_card x y _ (Nat.le_refl _), catF, Int.natCast_add, Int.natCast_add, Int.natCast_mul]
theorem cat_stop {x y : Nfa} (hx : checkB x = true) (hy : checkB y = true) {k : Nat} (hk : k ≤ x.edges.length) (h : 65536 < (catTo x y k).length) (S D : List Int) :
    catR x y = endR ⟨x.states + y.states, S, D, catTo x y k⟩ ∧ catX x y = endX ⟨x.states + y.states, S, D, catTo x y k⟩ := by
  have h1 : 65536 < (catTo x y x.edges.length).length := by
    have e1 := catTo_card x y k hk
    have e2 := catTo_card x y _ (Nat.le_refl _)
    have e3 := Nat.mul_le_mul_right y.starts.length (lastTo_mono x hk)
    omega
  have f1 : ¬ catF x y = true := by rw [catF_card]; simp only [fitB, Bool.and_eq_true, decide_eq_true_eq]; omega
  have f2 : ¬ fitB (x.states + y.states) (catTo x y k).length = true := by simp only [fitB, Bool.and_eq_true, decide_eq_true_eq]; omega
  exact ⟨by rw [catR, if_pos ⟨hx, hy⟩, if_neg f1, endR, if_neg f2], by rw [catX, if_pos ⟨hx, hy⟩, if_neg f1, endX, if_neg f2]⟩
theorem cat_all {x y : Nfa} (hx : checkB x = true) (hy : checkB y = true) {S D : List Int} (hS : catS x y = S) (hD : catD x y = D) :
    catR x y = endR ⟨x.states + y.states, S, D, catTo x y x.edges.length⟩ ∧ catX x y = endX ⟨x.states + y.states, S, D, catTo x y x.edges.length⟩ := by
  subst hS hD
  have f := catF_card x y
  by_cases f1 : catF x y = true
  · have f2 : fitB (x.states + y.states) (catTo x y x.edges.length).length = true := by rw [← f]; exact f1
    exact ⟨by rw [catR, if_pos ⟨hx, hy⟩, if_pos f1, endR, if_pos f2]; rfl, by rw [catX, if_pos ⟨hx, hy⟩, if_pos f1, endX, if_pos f2]⟩
  · have f2 : ¬ fitB (x.states + y.states) (catTo x y x.edges.length).length = true := by rw [← f]; exact f1
    exact ⟨by rw [catR, if_pos ⟨hx, hy⟩, if_neg f1, endR, if_neg f2], by rw [catX, if_pos ⟨hx, hy⟩, if_neg f1, endX, if_neg f2]⟩
theorem catC_t {x y : Nfa} {k : Nat} (h : k < x.edges.length) (h1 : x.ends.contains (nth x.edges k Arrow.zero).to = true) : catTo x y (k + 1) = catTo x y k ++ catPut (nth x.edges k Arrow.zero) (shiftL y.starts x.states) := by
  rw [catTo, take_succ_nth x.edges h Arrow.zero, List.flatMap_append, ← List.append_assoc, List.flatMap_singleton, catOf, if_pos h1]; rfl
theorem catC_f {x y : Nfa} {k : Nat} (h : k < x.edges.length) (h1 : x.ends.contains (nth x.edges k Arrow.zero).to = false) : catTo x y (k + 1) = catTo x y k := by
  rw [← Bool.not_eq_true] at h1
  rw [catTo, take_succ_nth x.edges h Arrow.zero, List.flatMap_append, ← List.append_assoc, List.flatMap_singleton, catOf, if_neg h1, List.append_nil]; rfl

set_option maxHeartbeats 4000000 in
theorem rcat_con (σ : Store) (x y : Nfa) (p q : NfaP) (hx : RNfa σ x p) (hy : RNfa σ y q) : Con Try.prog 29 #[nfaV x p, nfaV y q] σ [] (NfaR (catR x y) (catX x y)) := by
  have hd := hx.d
  refine Con.mk (n := 122) Try.func29 rfl rfl rfl (fun w0 => ?_)
  refine TC.seq ?_
  refine TC.region ?_
  refine TL.op rfl (OpOk.boxA rfl rfl rfl rfl (fun b1 => ?_))
  refine TL.op rfl (OpOk.boxA rfl rfl rfl rfl (fun b3 => ?_))
  refine TL.op rfl (OpOk.alloc rfl ze25 rfl rfl (fun b5 => ?_))
  refine TL.v rfl (OpVal.moveI (.inr rfl) rfl) rfl rfl ?_
  refine TL.nil ?_
  refine S.n ?_
  refine TC.seq ?_
  refine TC.seq ?_
  refine TC.region ?_
  refine TL.v rfl (OpVal.loadAll rfl ag25 sz25 rfl (i := 2) rfl rfl) rfl rfl ?_
  refine TL.op rfl (OpOk.callP (right_con _ _ _ (by first | exact hx | exact hy)) rfl rfl pf57 rfl rfl rfl ?_)
  refine TL.v rfl (OpVal.not rfl rfl) rfl rfl ?_
  refine TL.v rfl (OpVal.moveB (.inl rfl) rfl) rfl rfl ?_
  refine TL.split 13 rfl (fun h7 => ?_) (fun h7 => ?_)
  · try simp only [decide_eq_true_eq, decide_eq_false_iff_not, Bool.not_eq_true', Bool.not_eq_false', Bool.not_eq_eq_eq_not, Bool.not_true, Bool.not_false, Int.not_lt, Int.not_le, Decidable.not_not] at h7
    refine TL.goff rfl rfl rfl rfl rfl rfl rfl rfl ?_
    refine TL.goff rfl rfl rfl rfl rfl rfl rfl rfl ?_
    refine TL.goff rfl rfl rfl rfl rfl rfl rfl rfl ?_
    refine TL.v rfl (OpVal.pickTB rfl rfl rfl) rfl rfl ?_
    refine TL.nil ?_
    refine S.n ?_
    refine TC.cond rfl (fun _ => ?_) (fun h => Bool.noConfusion h)
    refine TC.seq ?_
    refine TC.region ?_
    refine TL.v rfl (OpVal.buildL rfl pl25 ze25 rfl) rfl rfl ?_
    refine TL.op rfl (OpOk.storeAll rfl sz25 rfl rfl rfl rfl rfl rfl ?_)
    refine TL.v rfl (OpVal.moveI (.inr rfl) rfl) rfl rfl ?_
    refine TL.nil ?_
    refine S.n ?_
    refine TC.ret ?_
    refine S.r ?_
    -- leaf 1 ret [h7: t13=True] H=['q6', 'q4', 'q2']
    have hc : ¬ (checkB x = true ∧ checkB y = true) := fun h => by rw [h.1] at h7; cases h7
    simp only [catR, catX, if_neg hc]
    exact retNfa (p := NfaP.zero) 0 rfl ag25 sz25 rfl rfl rfl rfl (RNfa.zero _)
  · try simp only [decide_eq_true_eq, decide_eq_false_iff_not, Bool.not_eq_true', Bool.not_eq_false', Bool.not_eq_eq_eq_not, Bool.not_true, Bool.not_false, Int.not_lt, Int.not_le, Decidable.not_not] at h7
    refine TL.gv rfl rfl rfl rfl rfl (OpVal.loadAll rfl ag25 sz25 rfl (i := 1) rfl rfl) rfl rfl ?_
    refine TL.gon rfl rfl rfl rfl rfl (OpOk.callP (right_con _ _ _ (by first | exact hx | exact hy)) rfl rfl pf57 rfl rfl rfl ?_)
    refine TL.gv rfl rfl rfl rfl rfl (OpVal.not rfl rfl) rfl rfl ?_
    refine TL.v rfl (OpVal.pickFB rfl rfl rfl) rfl rfl ?_
    refine TL.nil ?_
    refine S.n ?_
    refine TC.cond rfl (fun h8 => ?_) (fun h8 => ?_)
    · try simp only [decide_eq_true_eq, decide_eq_false_iff_not, Bool.not_eq_true', Bool.not_eq_false', Bool.not_eq_eq_eq_not, Bool.not_true, Bool.not_false, Int.not_lt, Int.not_le, Decidable.not_not] at h8
      refine TC.seq ?_
      refine TC.region ?_
      refine TL.v rfl (OpVal.buildL rfl pl25 ze25 rfl) rfl rfl ?_
      refine TL.op rfl (OpOk.storeAll rfl sz25 rfl rfl rfl rfl rfl rfl ?_)
      refine TL.v rfl (OpVal.moveI (.inr rfl) rfl) rfl rfl ?_
      refine TL.nil ?_
      refine S.n ?_
      refine TC.ret ?_
      refine S.r ?_
      -- leaf 2 ret [h7: t13=False; h8: True] H=['q6', 'q4', 'q2']
      have hc : ¬ (checkB x = true ∧ checkB y = true) := fun h => by rw [h.2] at h8; cases h8
      simp only [catR, catX, if_neg hc]
      exact retNfa (p := NfaP.zero) 0 rfl ag25 sz25 rfl rfl rfl rfl (RNfa.zero _)
    · try simp only [decide_eq_true_eq, decide_eq_false_iff_not, Bool.not_eq_true', Bool.not_eq_false', Bool.not_eq_eq_eq_not, Bool.not_true, Bool.not_false, Int.not_lt, Int.not_le, Decidable.not_not] at h8
      refine TC.skip ?_
      refine S.n ?_
      refine TC.seq ?_
      have hcx : checkB x = true := by first | assumption | (simp at *; assumption)
      have hcy : checkB y = true := by first | assumption | (simp at *; assumption)
      obtain ⟨k1, k2, k3, k4, k5, k6⟩ := checkB_spec hcx
      obtain ⟨l1, l2, l3, l4, l5, l6⟩ := checkB_spec hcy
      have lx := checkB_len hcx
      have ly := checkB_len hcy
      have hl3 := shiftL_len y.starts x.states
      have hl4 := shiftL_len y.ends x.states
      have hl5 := shiftE_len y.edges x.states
      refine TC.region ?_
      refine TL.v rfl (OpVal.fieldLoc rfl fo25_1 rfl) rfl rfl ?_
      refine TL.v rfl (OpVal.loadLoc rfl ag22 rfl (i := 1) rfl rfl) rfl rfl ?_
      refine TL.v rfl (OpVal.fieldLoc rfl fo25_0 rfl) rfl rfl ?_
      refine TL.v rfl (OpVal.loadLoc rfl ag3 rfl (i := 2) rfl rfl) rfl rfl ?_
      refine TL.op rfl (OpOk.callR (rshift_con _ _ _ _ _ (by first | exact hy.s | exact hy.e) ⟨k1, by omega⟩ (fun u hu => by first | (have := l4 u hu; omega) | (have := l5 u hu; omega)) (by omega)) rfl rfl pf67 rfl rfl rfl (fun a9 c10 => ?_))
      refine TL.v rfl (OpVal.moveSl (.inr rfl) rfl) rfl rfl ?_
      refine TL.nil ?_
      refine S.n ?_
      refine TC.sealS encI_len (fun τ14 hle13 hr12 => ?_)
      replace hx := hx.mono hle13
      replace hy := hy.mono hle13
      replace hd := hd.mono hle13
      refine TC.cutF (α := Nat × Option Addr × Nat × Option Addr × Nat) [7, 24, 25, 26, 27, 28, 29, 30, 31, 32, 33, 34, 35, 36, 37] (fun g => [(7, loc g.1 0)]) (fun g => [Res.cells g.1 #[.int .i64 (x.states + y.states), .slice g.2.1 (x.starts ++ []).length g.2.2.1, .slice g.2.2.2.1 (shiftL y.ends x.states).length g.2.2.2.2, .slice none 0 0] 25, Res.rowS 3 1 Go.E.encI (.slice g.2.1 (x.starts ++ []).length g.2.2.1) (x.starts ++ []), Res.rowS 3 1 Go.E.encI (.slice g.2.2.2.1 (shiftL y.ends x.states).length g.2.2.2.2) (shiftL y.ends x.states), Res.cells b5 (nfaA Nfa.zero NfaP.zero) 25, Res.cells b3 (nfaA y q) 25, Res.cells b1 (nfaA x p) 25]) (fun _ => τ14) (fun _ => True) ?_ (fun g j hg => ?_)
      · skip
        refine TC.draw [15] (by kernel_rfl) ?_
        refine TA.takeP 0 rfl (by kernel_rfl) (by kernel_rfl) (by kernel_rfl) rfl (OpVal.fieldLoc rfl fo25_0 rfl) rfl rfl ?_
        refine TA.take 1 rfl (by kernel_rfl) (by kernel_rfl) (by kernel_rfl) (by kernel_rfl) rfl (OpVal.loadLoc rfl ag3 rfl (i := 2) rfl rfl) rfl rfl ?_
        refine TA.takeP 2 rfl (by kernel_rfl) (by kernel_rfl) (by kernel_rfl) rfl (OpVal.fieldLoc rfl fo25_0 rfl) rfl rfl ?_
        refine TA.take 3 rfl (by kernel_rfl) (by kernel_rfl) (by kernel_rfl) (by kernel_rfl) rfl (OpVal.loadLoc rfl ag3 rfl (i := 1) rfl rfl) rfl rfl ?_
        refine TA.takeP 4 rfl (by kernel_rfl) (by kernel_rfl) (by kernel_rfl) rfl (OpVal.add rfl rfl rfl (by omega) (by omega)) rfl rfl ?_
        refine TA.takeP 5 rfl (by kernel_rfl) (by kernel_rfl) (by kernel_rfl) rfl (OpVal.fieldLoc rfl fo25_1 rfl) rfl rfl ?_
        refine TA.take 6 rfl (by kernel_rfl) (by kernel_rfl) (by kernel_rfl) (by kernel_rfl) rfl (OpVal.loadLoc rfl ag22 rfl (i := 2) rfl rfl) rfl rfl ?_
        refine TA.takeP 8 rfl (by kernel_rfl) (by kernel_rfl) (by kernel_rfl) rfl (OpVal.fieldLoc rfl fo25_2 rfl) rfl rfl ?_
        refine TA.take 9 rfl (by kernel_rfl) (by kernel_rfl) (by kernel_rfl) (by kernel_rfl) rfl (OpVal.loadLoc rfl ag22 rfl (i := 1) rfl rfl) rfl rfl ?_
        refine TA.takeP 10 rfl (by kernel_rfl) (by kernel_rfl) (by kernel_rfl) rfl (OpVal.fieldLoc rfl fo25_0 rfl) rfl rfl ?_
        refine TA.take 11 rfl (by kernel_rfl) (by kernel_rfl) (by kernel_rfl) (by kernel_rfl) rfl (OpVal.loadLoc rfl ag3 rfl (i := 2) rfl rfl) rfl rfl ?_
        refine TA.act2 7 14 (by kernel_rfl) rfl rfl rfl rfl (OpOk.callR (rboth_con _ _ _ _ none 0 [] hx.s ⟨RV.nil _ 1, encI_len⟩ (by omega) (by decide)) rfl rfl pf68 rfl rfl rfl (fun a15 c16 => ⟨(fun w h => sees_of (by first | exact Store.le.refl _ | assumption) (fun r hr => (List.mem_cons_of_mem _ hr)) w h), ?_⟩)) (OpOk.alloc rfl ze25 rfl rfl (fun b18 => ⟨(fun w h => sees_of (by first | exact Store.le.refl _ | assumption) (fun r hr => (List.mem_cons_of_mem _ hr)) w h), ?_⟩))
        · skip
          refine TA.act2 12 14 (by kernel_rfl) rfl rfl rfl rfl (OpOk.callR (rshift_con _ _ _ _ _ (by first | exact hy.s | exact hy.e) ⟨k1, by omega⟩ (fun u hu => by first | (have := l4 u hu; omega) | (have := l5 u hu; omega)) (by omega)) rfl rfl pf67 rfl rfl rfl (fun a20 c21 => ⟨(fun w h => sees_of (by first | exact Store.le.refl _ | assumption) (fun r hr => (List.mem_cons_of_mem _ (List.mem_cons_of_mem _ hr))) w h), ?_⟩)) (OpOk.alloc rfl ze25 rfl rfl (fun b23 => ⟨(fun w h => sees_of (by first | exact Store.le.refl _ | assumption) (fun r hr => (List.mem_cons_of_mem _ (List.mem_cons_of_mem _ hr))) w h), ?_⟩))
          · skip
            refine TA.takeP 13 rfl (by kernel_rfl) (by kernel_rfl) (by kernel_rfl) rfl (OpVal.buildL rfl pl25 ze25 rfl) rfl rfl ?_
            refine TA.act 14 (by kernel_rfl) rfl rfl (OpOk.alloc rfl ze25 rfl rfl (fun b25 => ⟨(fun w h => sees_of (by first | exact Store.le.refl _ | assumption) (fun r hr => (List.mem_cons_of_mem _ (List.mem_cons_of_mem _ (List.mem_cons_of_mem _ hr)))) w h), ?_⟩))
            refine TA.last 15 (by kernel_rfl) rfl rfl rfl (OpOk.storeAll rfl sz25 rfl rfl rfl rfl rfl rfl ?_)
            refine TZ.front 5 rfl rfl ?_
            refine TZ.front 5 rfl rfl ?_
            refine TZ.front 5 rfl rfl ?_
            refine TZ.front 4 rfl rfl ?_
            refine TZ.front 5 rfl rfl ?_
            refine TZ.front 5 rfl rfl ?_
            refine TZ.done (by kernel_rfl) ?_
            refine S.n ?_
            -- leaf 3 cut [h7: t13=False; h8: False] H=['q26', 'q17', 'q22', 'q6', 'q4', 'q2']
            refine ⟨by repeat (first | exact Agr.refl _ _ | exact Agr.mask | refine Agr.upd rfl ?_), (b25, a15, c16, a20, c21), ?_, ?_, ?_, ?_⟩
            · first | exact True.intro | omega | (dsimp only; omega) | (simp; done) | (simp; omega)
            · repeat (first | exact trivial | refine ⟨rfl, ?_⟩)
            · rfl
            · rfl
          · skip
            refine TA.act 12 (by kernel_rfl) rfl rfl (OpOk.callR (rshift_con _ _ _ _ _ (by first | exact hy.s | exact hy.e) ⟨k1, by omega⟩ (fun u hu => by first | (have := l4 u hu; omega) | (have := l5 u hu; omega)) (by omega)) rfl rfl pf67 rfl rfl rfl (fun a27 c28 => ⟨(fun w h => sees_of (by first | exact Store.le.refl _ | assumption) (fun r hr => (List.mem_cons_of_mem _ (List.mem_cons_of_mem _ (List.mem_cons_of_mem _ hr)))) w h), ?_⟩))
            refine TA.takeP 13 rfl (by kernel_rfl) (by kernel_rfl) (by kernel_rfl) rfl (OpVal.buildL rfl pl25 ze25 rfl) rfl rfl ?_
            refine TA.front 1 rfl rfl ?_
            refine TA.last 15 (by kernel_rfl) rfl rfl rfl (OpOk.storeAll rfl sz25 rfl rfl rfl rfl rfl rfl ?_)
            refine TZ.front 5 rfl rfl ?_
            refine TZ.front 5 rfl rfl ?_
            refine TZ.front 5 rfl rfl ?_
            refine TZ.front 4 rfl rfl ?_
            refine TZ.front 5 rfl rfl ?_
            refine TZ.front 5 rfl rfl ?_
            refine TZ.done (by kernel_rfl) ?_
            refine S.n ?_
            -- leaf 4 cut [h7: t13=False; h8: False] H=['q24', 'q17', 'q29', 'q6', 'q4', 'q2']
            refine ⟨by repeat (first | exact Agr.refl _ _ | exact Agr.mask | refine Agr.upd rfl ?_), (b23, a15, c16, a27, c28), ?_, ?_, ?_, ?_⟩
            · first | exact True.intro | omega | (dsimp only; omega) | (simp; done) | (simp; omega)
            · repeat (first | exact trivial | refine ⟨rfl, ?_⟩)
            · rfl
            · rfl
        · skip
          refine TA.act 7 (by kernel_rfl) rfl rfl (OpOk.callR (rboth_con _ _ _ _ none 0 [] hx.s ⟨RV.nil _ 1, encI_len⟩ (by omega) (by decide)) rfl rfl pf68 rfl rfl rfl (fun a30 c31 => ⟨(fun w h => sees_of (by first | exact Store.le.refl _ | assumption) (fun r hr => (List.mem_cons_of_mem _ (List.mem_cons_of_mem _ hr))) w h), ?_⟩))
          refine TA.act 12 (by kernel_rfl) rfl rfl (OpOk.callR (rshift_con _ _ _ _ _ (by first | exact hy.s | exact hy.e) ⟨k1, by omega⟩ (fun u hu => by first | (have := l4 u hu; omega) | (have := l5 u hu; omega)) (by omega)) rfl rfl pf67 rfl rfl rfl (fun a33 c34 => ⟨(fun w h => sees_of (by first | exact Store.le.refl _ | assumption) (fun r hr => (List.mem_cons_of_mem _ (List.mem_cons_of_mem _ (List.mem_cons_of_mem _ hr)))) w h), ?_⟩))
          refine TA.takeP 13 rfl (by kernel_rfl) (by kernel_rfl) (by kernel_rfl) rfl (OpVal.buildL rfl pl25 ze25 rfl) rfl rfl ?_
          refine TA.front 2 rfl rfl ?_
          refine TA.last 15 (by kernel_rfl) rfl rfl rfl (OpOk.storeAll rfl sz25 rfl rfl rfl rfl rfl rfl ?_)
          refine TZ.front 5 rfl rfl ?_
          refine TZ.front 5 rfl rfl ?_
          refine TZ.front 5 rfl rfl ?_
          refine TZ.front 4 rfl rfl ?_
          refine TZ.front 5 rfl rfl ?_
          refine TZ.front 5 rfl rfl ?_
          refine TZ.done (by kernel_rfl) ?_
          refine S.n ?_
          -- leaf 5 cut [h7: t13=False; h8: False] H=['q19', 'q32', 'q35', 'q6', 'q4', 'q2']
          refine ⟨by repeat (first | exact Agr.refl _ _ | exact Agr.mask | refine Agr.upd rfl ?_), (b18, a30, c31, a33, c34), ?_, ?_, ?_, ?_⟩
          · first | exact True.intro | omega | (dsimp only; omega) | (simp; done) | (simp; omega)
          · repeat (first | exact trivial | refine ⟨rfl, ?_⟩)
          · rfl
          · rfl
      · skip
        obtain ⟨gb, ga1, gc1, ga2, gc2⟩ := g
        dsimp only
        refine TC.seq ?_
        refine TC.seq ?_
        refine TC.region ?_
        refine TL.v rfl (OpVal.loadAll rfl ag25 sz25 rfl (i := 5) rfl rfl) rfl rfl ?_
        refine TL.op rfl (OpOk.callP (empty_con _ _ _ (by first | exact hx | exact hy)) rfl rfl pf69 rfl rfl rfl ?_)
        refine TL.nilS 80 6 encE ?_
        refine TL.nil ?_
        refine S.n ?_
        refine TC.cond rfl (fun h40 => ?_) (fun h40 => ?_)
        · try simp only [decide_eq_true_eq, decide_eq_false_iff_not, Bool.not_eq_true', Bool.not_eq_false', Bool.not_eq_eq_eq_not, Bool.not_true, Bool.not_false, Int.not_lt, Int.not_le, Decidable.not_not] at h40
          refine TC.region ?_
          refine TL.v rfl (OpVal.fieldLoc rfl fo25_1 rfl) rfl rfl ?_
          refine TL.v rfl (OpVal.loadLoc rfl ag22 rfl (i := 6) rfl rfl) rfl rfl ?_
          refine TL.v rfl (OpVal.moveSl (.inl rfl) rfl) rfl rfl ?_
          refine TL.op rfl (OpOk.callR (rboth_con _ _ _ _ _ _ _ (by first | exact hx.s | exact hx.e) (by assumption) (by omega) (by omega)) rfl rfl pf68 rfl rfl rfl (fun a41 c42 => ?_))
          refine TL.v rfl (OpVal.fieldLoc rfl fo25_1 rfl) rfl rfl ?_
          refine TL.front 2 rfl rfl ?_
          refine TL.op rfl (OpOk.storeSl rfl sz22 rfl rfl rfl rfl rfl ?_)
          refine TL.nil ?_
          refine S.n ?_
          refine TC.seq ?_
          refine TC.seq ?_
          refine TC.region ?_
          refine TL.v rfl (OpVal.loadAll rfl ag25 sz25 rfl (i := 6) rfl rfl) rfl rfl ?_
          refine TL.op rfl (OpOk.callP (empty_con _ _ _ (by first | exact hx | exact hy)) rfl rfl pf69 rfl rfl rfl ?_)
          refine TL.nil ?_
          refine S.n ?_
          refine TC.cond rfl (fun h44 => ?_) (fun h44 => ?_)
          · try simp only [decide_eq_true_eq, decide_eq_false_iff_not, Bool.not_eq_true', Bool.not_eq_false', Bool.not_eq_eq_eq_not, Bool.not_true, Bool.not_false, Int.not_lt, Int.not_le, Decidable.not_not] at h44
            refine TC.front 1 rfl rfl ?_
            refine TC.sealS encI_len (fun τ47 hle46 hr45 => ?_)
            replace hx := hx.mono hle46
            replace hy := hy.mono hle46
            replace hd := hd.mono hle46
            replace hr12 := hr12.mono hle46
            refine TC.front 3 rfl rfl ?_
            refine TC.sealS encI_len (fun τ50 hle49 hr48 => ?_)
            replace hx := hx.mono hle49
            replace hy := hy.mono hle49
            replace hd := hd.mono hle49
            replace hr12 := hr12.mono hle49
            replace hr45 := hr45.mono hle49
            refine TC.region ?_
            refine TL.v rfl (OpVal.fieldLoc rfl fo25_2 rfl) rfl rfl ?_
            refine TL.v rfl (OpVal.loadLoc rfl ag22 rfl (i := 5) rfl rfl) rfl rfl ?_
            refine TL.v rfl (OpVal.fieldLoc rfl fo25_2 rfl) rfl rfl ?_
            refine TL.v rfl (OpVal.loadLoc rfl ag22 rfl (i := 0) rfl rfl) rfl rfl ?_
            refine TL.op rfl (OpOk.callR (rboth_con _ _ _ _ _ _ _ (by first | exact hx.s | exact hx.e) (by assumption) (by omega) (by omega)) rfl rfl pf68 rfl rfl rfl (fun a51 c52 => ?_))
            refine TL.v rfl (OpVal.fieldLoc rfl fo25_2 rfl) rfl rfl ?_
            refine TL.front 1 rfl rfl ?_
            refine TL.op rfl (OpOk.storeSl rfl sz22 rfl rfl rfl rfl rfl ?_)
            refine TL.nil ?_
            refine S.n ?_
            refine TC.seq ?_
            refine TC.front 1 rfl rfl ?_
            refine TC.sealS encI_len (fun τ56 hle55 hr54 => ?_)
            replace hx := hx.mono hle55
            replace hy := hy.mono hle55
            replace hd := hd.mono hle55
            replace hr12 := hr12.mono hle55
            replace hr45 := hr45.mono hle55
            replace hr48 := hr48.mono hle55
            refine TC.front 2 rfl rfl ?_
            refine TC.sealS encI_len (fun τ59 hle58 hr57 => ?_)
            replace hx := hx.mono hle58
            replace hy := hy.mono hle58
            replace hd := hd.mono hle58
            replace hr12 := hr12.mono hle58
            replace hr45 := hr45.mono hle58
            replace hr48 := hr48.mono hle58
            replace hr54 := hr54.mono hle58
            refine TC.region ?_
            refine TL.v rfl (OpVal.fieldLoc rfl fo25_3 rfl) rfl rfl ?_
            refine TL.v rfl (OpVal.loadLoc rfl ag23 rfl (i := 0) rfl rfl) rfl rfl ?_
            refine TL.v rfl (OpVal.fieldLoc rfl fo25_3 rfl) rfl rfl ?_
            refine TL.v rfl (OpVal.loadLoc rfl ag23 rfl (i := 4) rfl rfl) rfl rfl ?_
            refine TL.front 1 rfl rfl ?_
            refine TL.op rfl (OpOk.appendS rfl rfl Try.underlying23 sz80 by80 ze80 rfl rfl (by decide) rfl rfl rfl (.inl (by assumption)) (by (try simp only [List.length_cons, List.length_nil, List.length_append]); omega) (by decide) (fun a60 c61 => ?_))
            refine TL.v rfl (OpVal.fieldLoc rfl fo25_3 rfl) rfl rfl ?_
            refine TL.front 1 rfl rfl ?_
            refine TL.op rfl (OpOk.storeSl rfl sz23 rfl rfl rfl rfl rfl ?_)
            refine TL.nil ?_
            refine S.n ?_
            refine TC.seq ?_
            refine TC.draw [7, 8, 9] (by kernel_rfl) ?_
            refine TA.takeP 0 rfl (by kernel_rfl) (by kernel_rfl) (by kernel_rfl) rfl (OpVal.fieldLoc rfl fo25_3 rfl) rfl rfl ?_
            refine TA.take 1 rfl (by kernel_rfl) (by kernel_rfl) (by kernel_rfl) (by kernel_rfl) rfl (OpVal.loadLoc rfl ag23 rfl (i := 0) rfl rfl) rfl rfl ?_
            refine TA.takeP 2 rfl (by kernel_rfl) (by kernel_rfl) (by kernel_rfl) rfl (OpVal.fieldLoc rfl fo25_3 rfl) rfl rfl ?_
            refine TA.take 3 rfl (by kernel_rfl) (by kernel_rfl) (by kernel_rfl) (by kernel_rfl) rfl (OpVal.loadLoc rfl ag23 rfl (i := 3) rfl rfl) rfl rfl ?_
            refine TA.takeP 4 rfl (by kernel_rfl) (by kernel_rfl) (by kernel_rfl) rfl (OpVal.fieldLoc rfl fo25_0 rfl) rfl rfl ?_
            refine TA.take 5 rfl (by kernel_rfl) (by kernel_rfl) (by kernel_rfl) (by kernel_rfl) rfl (OpVal.loadLoc rfl ag3 rfl (i := 4) rfl rfl) rfl rfl ?_
            refine TA.act 6 (by kernel_rfl) rfl rfl (OpOk.callR (shifted_con _ _ _ _ _ hy.d ⟨k1, by omega⟩ (fun u hu => by have := l6 u hu; omega) (by omega)) rfl rfl pf70 rfl rfl rfl (fun a62 c63 => ⟨(fun w h => sees_of (by first | exact Store.le.refl _ | assumption) (fun r hr => (List.mem_cons_of_mem _ hr)) w h), ?_⟩))
            refine TA.front 2 rfl rfl ?_
            refine TA.last 7 (by kernel_rfl) rfl rfl rfl (OpOk.appendS rfl rfl Try.underlying23 sz80 by80 ze80 rfl rfl (by decide) rfl rfl rfl (.inr ⟨_, 0, rfl⟩) (by (try simp only [List.length_cons, List.length_nil, List.length_append]); omega) (by decide) (fun a65 c66 => ?_))
            refine TZ.v 8 (by kernel_rfl) rfl rfl rfl (OpVal.fieldLoc rfl fo25_3 rfl) rfl rfl ?_
            refine TZ.front 2 rfl rfl ?_
            refine TZ.last 9 (by kernel_rfl) rfl rfl rfl (OpOk.storeSl rfl sz23 rfl rfl rfl rfl rfl ?_)
            refine TZ.done (by kernel_rfl) ?_
            refine S.n ?_
            refine TC.seq ?_
            refine TC.seq ?_
            refine TC.region ?_
            refine TL.v rfl (OpVal.moveI (.inr rfl) rfl) rfl rfl ?_
            refine TL.nil ?_
            refine S.n ?_
            refine TC.block ?_
            refine TC.loopF (α := Nat × Option Addr × Nat) [8, 9, 68, 69, 70, 71, 72, 73, 74, 75, 76, 77, 78, 79, 80, 81, 82, 83, 84, 85, 86, 87, 88, 89, 90, 91, 92, 93, 94, 95, 96, 97, 98, 99, 100, 101, 102, 103, 104, 105, 106, 107, 108, 109, 110, 111, 112, 113, 114, 115, 116, 117] (fun g => [(8, .int .i64 (g.1 : Nat))]) (fun g => [Res.cells gb #[.int .i64 (x.states + y.states), .slice a41 _ c42, .slice a51 _ c52, .slice g.2.1 (catTo x y g.1).length g.2.2] 25, Res.rowS 80 6 encE (.slice g.2.1 (catTo x y g.1).length g.2.2) (catTo x y g.1), Res.rowS 80 6 encE (.slice a62 (shiftE y.edges x.states).length c63) (shiftE y.edges x.states), Res.cells b5 (nfaA Nfa.zero NfaP.zero) 25, Res.cells b3 (nfaA y q) 25, Res.cells b1 (nfaA x p) 25]) (fun _ => _) (fun g => g.1 ≤ x.edges.length) (fun g => x.edges.length - g.1) ((0, a65, c66)) (by first | exact True.intro | omega | (dsimp only; omega) | (simp; done) | (simp; omega)) (by repeat (first | exact trivial | refine ⟨rfl, ?_⟩)) (by rw [show catTo x y 0 = [] ++ x.edges ++ shiftE y.edges x.states from by rw [catTo_zero, List.nil_append]]; rfl) (by rfl) (fun g1 j1 hg1 => ?_)
            obtain ⟨g1, xa, xc⟩ := g1
            dsimp only
            have hg1 : g1 ≤ x.edges.length := hg1
            have hl2 := catTo_len x y g1 hg1 (by omega) (by omega) (by omega)
            refine TC.seq ?_
            refine TC.seq ?_
            refine TC.region ?_
            refine TL.v rfl (OpVal.moveI (.inl rfl) rfl) rfl rfl ?_
            refine TL.v rfl (OpVal.fieldLoc rfl fo25_3 rfl) rfl rfl ?_
            refine TL.v rfl (OpVal.loadLoc rfl ag23 rfl (i := 5) rfl rfl) rfl rfl ?_
            refine TL.v rfl (OpVal.lenC rfl Try.underlying23 rfl) rfl rfl ?_
            refine TL.v rfl (OpVal.lss rfl rfl rfl) rfl rfl ?_
            refine TL.v rfl (OpVal.moveB (.inl rfl) rfl) rfl rfl ?_
            refine TL.split 73 rfl (fun h67 => ?_) (fun h67 => ?_)
            · try simp only [decide_eq_true_eq, decide_eq_false_iff_not, Bool.not_eq_true', Bool.not_eq_false', Bool.not_eq_eq_eq_not, Bool.not_true, Bool.not_false, Int.not_lt, Int.not_le, Decidable.not_not] at h67
              refine TL.gv rfl rfl rfl rfl rfl (OpVal.fieldLoc rfl fo25_3 rfl) rfl rfl ?_
              refine TL.gv rfl rfl rfl rfl rfl (OpVal.loadLoc rfl ag23 rfl (i := 0) rfl rfl) rfl rfl ?_
              refine TL.gv rfl rfl rfl rfl rfl (OpVal.lenC rfl Try.underlying23 rfl) rfl rfl ?_
              refine TL.gv rfl rfl rfl rfl rfl (OpVal.leq rfl rfl rfl) rfl rfl ?_
              refine TL.v rfl (OpVal.pickTB rfl rfl rfl) rfl rfl ?_
              refine TL.nil ?_
              refine S.n ?_
              refine TC.condD rfl (fun h68 => ?_) (fun h68 => ?_)
              · try simp only [decide_eq_true_eq, decide_eq_false_iff_not, Bool.not_eq_true', Bool.not_eq_false', Bool.not_eq_eq_eq_not, Bool.not_true, Bool.not_false, Int.not_lt, Int.not_le, Decidable.not_not] at h68
                refine TC.skip ?_
                refine S.n ?_
                refine TC.seq ?_
                refine TC.block ?_
                refine TC.seq ?_
                refine TC.draw [] (by kernel_rfl) ?_
                refine TA.takeP 0 rfl (by kernel_rfl) (by kernel_rfl) (by kernel_rfl) rfl (OpVal.fieldLoc rfl fo25_3 rfl) rfl rfl ?_
                refine TA.take 1 rfl (by kernel_rfl) (by kernel_rfl) (by kernel_rfl) (by kernel_rfl) rfl (OpVal.loadLoc rfl ag23 rfl (i := 5) rfl rfl) rfl rfl ?_
                refine TA.takeP 2 rfl (by kernel_rfl) (by kernel_rfl) (by kernel_rfl) rfl (OpVal.moveI (.inl rfl) rfl) rfl rfl ?_
                refine TA.takeP 3 rfl (by kernel_rfl) (by kernel_rfl) (by kernel_rfl) rfl (OpVal.indexN rfl Try.underlying23 sz80 rfl rfl (by first | assumption | exact (RS.rv (by assumption)).sl) (by omega)) rfl rfl ?_
                refine TA.takeP 4 rfl (by kernel_rfl) (by kernel_rfl) (by kernel_rfl) rfl (OpVal.fieldElem rfl fo80_1 rfl (by first | assumption | exact (RS.rv (by assumption)).sl) (by omega)) rfl rfl ?_
                refine TA.take 5 rfl (by kernel_rfl) (by kernel_rfl) (by kernel_rfl) (by kernel_rfl) rfl (OpVal.loadS Arrow.zero rfl ag3 rfl (by assumption) (by omega) (by omega) rfl) rfl rfl ?_
                refine TA.takeP 6 rfl (by kernel_rfl) (by kernel_rfl) (by kernel_rfl) rfl (OpVal.fieldLoc rfl fo25_2 rfl) rfl rfl ?_
                refine TA.take 7 rfl (by kernel_rfl) (by kernel_rfl) (by kernel_rfl) (by kernel_rfl) rfl (OpVal.loadLoc rfl ag22 rfl (i := 5) rfl rfl) rfl rfl ?_
                refine TA.act 8 (by kernel_rfl) rfl rfl (OpOk.callP (in_con _ _ _ _ _ hx.e) rfl rfl pf59 rfl rfl rfl ⟨(fun w h => sees_of (by first | exact Store.le.refl _ | assumption) (fun r hr => hr) w h), ?_⟩)
                refine TA.done (by kernel_rfl) ?_
                refine S.n ?_
                refine TC.cond rfl (fun h69 => ?_) (fun h69 => ?_)
                · try simp only [decide_eq_true_eq, decide_eq_false_iff_not, Bool.not_eq_true', Bool.not_eq_false', Bool.not_eq_eq_eq_not, Bool.not_true, Bool.not_false, Int.not_lt, Int.not_le, Decidable.not_not] at h69
                  refine TC.seq ?_
                  refine TC.region ?_
                  refine TL.v rfl (OpVal.moveI (.inr rfl) rfl) rfl rfl ?_
                  refine TL.nil ?_
                  refine S.n ?_
                  refine TC.block ?_
                  refine TC.loopF (α := Nat × Option Addr × Nat) [9, 90, 91, 92, 93, 94, 95, 96, 97, 98, 99, 100, 101, 102, 103, 104, 105, 106, 107, 108, 109, 110, 111, 112, 113, 114, 115, 116, 117] (fun g => [(9, .int .i64 (g.1 : Nat))]) (fun g => [Res.cells gb #[.int .i64 (x.states + y.states), .slice a41 _ c42, .slice a51 _ c52, .slice g.2.1 (catTo x y g1 ++ catPut (nth x.edges g1 Arrow.zero) ((shiftL y.starts x.states).take g.1)).length g.2.2] 25, Res.rowS 80 6 encE (.slice g.2.1 (catTo x y g1 ++ catPut (nth x.edges g1 Arrow.zero) ((shiftL y.starts x.states).take g.1)).length g.2.2) (catTo x y g1 ++ catPut (nth x.edges g1 Arrow.zero) ((shiftL y.starts x.states).take g.1)), Res.rowS 80 6 encE (.slice a62 (shiftE y.edges x.states).length c63) (shiftE y.edges x.states), Res.cells b5 (nfaA Nfa.zero NfaP.zero) 25, Res.cells b3 (nfaA y q) 25, Res.cells b1 (nfaA x p) 25]) (fun _ => _) (fun g => g.1 ≤ y.starts.length) (fun g => y.starts.length - g.1) ((0, xa, xc)) (by first | exact True.intro | omega | (dsimp only; omega) | (simp; done) | (simp; omega)) (by repeat (first | exact trivial | refine ⟨rfl, ?_⟩)) (by rw [show catTo x y g1 ++ catPut (nth x.edges g1 Arrow.zero) ((shiftL y.starts x.states).take 0) = catTo x y g1 from List.append_nil _]) (by rfl) (fun g2 j2 hg2 => ?_)
                  obtain ⟨g2, ya, yc⟩ := g2
                  dsimp only
                  have hg2 : g2 ≤ y.starts.length := hg2
                  have hcl := catPut_len (nth x.edges g1 Arrow.zero) ((shiftL y.starts x.states).take g2)
                  have hct : ((shiftL y.starts x.states).take g2).length = min g2 (shiftL y.starts x.states).length := List.length_take
                  refine TC.seq ?_
                  refine TC.seq ?_
                  refine TC.region ?_
                  refine TL.v rfl (OpVal.moveI (.inl rfl) rfl) rfl rfl ?_
                  refine TL.v rfl (OpVal.moveSl (.inl rfl) rfl) rfl rfl ?_
                  refine TL.v rfl (OpVal.lenC rfl Try.underlying22 rfl) rfl rfl ?_
                  refine TL.v rfl (OpVal.lss rfl rfl rfl) rfl rfl ?_
                  refine TL.nil ?_
                  refine S.n ?_
                  refine TC.condD rfl (fun h70 => ?_) (fun h70 => ?_)
                  · try simp only [decide_eq_true_eq, decide_eq_false_iff_not, Bool.not_eq_true', Bool.not_eq_false', Bool.not_eq_eq_eq_not, Bool.not_true, Bool.not_false, Int.not_lt, Int.not_le, Decidable.not_not] at h70
                    refine TC.skip ?_
                    refine S.n ?_
                    refine TC.seq ?_
                    refine TC.block ?_
                    refine TC.draw [20, 21, 22] (by kernel_rfl) ?_
                    refine TA.takeP 0 rfl (by kernel_rfl) (by kernel_rfl) (by kernel_rfl) rfl (OpVal.fieldLoc rfl fo25_3 rfl) rfl rfl ?_
                    refine TA.take 1 rfl (by kernel_rfl) (by kernel_rfl) (by kernel_rfl) (by kernel_rfl) rfl (OpVal.loadLoc rfl ag23 rfl (i := 0) rfl rfl) rfl rfl ?_
                    refine TA.takeP 2 rfl (by kernel_rfl) (by kernel_rfl) (by kernel_rfl) rfl (OpVal.fieldLoc rfl fo25_3 rfl) rfl rfl ?_
                    refine TA.take 3 rfl (by kernel_rfl) (by kernel_rfl) (by kernel_rfl) (by kernel_rfl) rfl (OpVal.loadLoc rfl ag23 rfl (i := 5) rfl rfl) rfl rfl ?_
                    refine TA.takeP 4 rfl (by kernel_rfl) (by kernel_rfl) (by kernel_rfl) rfl (OpVal.moveI (.inl rfl) rfl) rfl rfl ?_
                    refine TA.takeP 5 rfl (by kernel_rfl) (by kernel_rfl) (by kernel_rfl) rfl (OpVal.indexN rfl Try.underlying23 sz80 rfl rfl (by first | assumption | exact (RS.rv (by assumption)).sl) (by omega)) rfl rfl ?_
                    refine TA.takeP 6 rfl (by kernel_rfl) (by kernel_rfl) (by kernel_rfl) rfl (OpVal.fieldElem rfl fo80_0 rfl (by first | assumption | exact (RS.rv (by assumption)).sl) (by omega)) rfl rfl ?_
                    refine TA.take 7 rfl (by kernel_rfl) (by kernel_rfl) (by kernel_rfl) (by kernel_rfl) rfl (OpVal.loadS Arrow.zero rfl ag3 rfl (by assumption) (by omega) (by omega) rfl) rfl rfl ?_
                    refine TA.takeP 8 rfl (by kernel_rfl) (by kernel_rfl) (by kernel_rfl) rfl (OpVal.moveSl (.inl rfl) rfl) rfl rfl ?_
                    refine TA.takeP 9 rfl (by kernel_rfl) (by kernel_rfl) (by kernel_rfl) rfl (OpVal.moveI (.inl rfl) rfl) rfl rfl ?_
                    refine TA.takeP 10 rfl (by kernel_rfl) (by kernel_rfl) (by kernel_rfl) rfl (OpVal.indexN rfl Try.underlying22 sz3 rfl rfl (by first | assumption | exact (RS.rv (by assumption)).sl) (by omega)) rfl rfl ?_
                    refine TA.take 11 rfl (by kernel_rfl) (by kernel_rfl) (by kernel_rfl) (by kernel_rfl) rfl (OpVal.loadS1 (0 : Int) rfl ag3 rfl (by assumption) (by omega) rfl) rfl rfl ?_
                    refine TA.takeP 12 rfl (by kernel_rfl) (by kernel_rfl) (by kernel_rfl) rfl (OpVal.fieldLoc rfl fo25_3 rfl) rfl rfl ?_
                    refine TA.take 13 rfl (by kernel_rfl) (by kernel_rfl) (by kernel_rfl) (by kernel_rfl) rfl (OpVal.loadLoc rfl ag23 rfl (i := 5) rfl rfl) rfl rfl ?_
                    refine TA.takeP 14 rfl (by kernel_rfl) (by kernel_rfl) (by kernel_rfl) rfl (OpVal.moveI (.inl rfl) rfl) rfl rfl ?_
                    refine TA.takeP 15 rfl (by kernel_rfl) (by kernel_rfl) (by kernel_rfl) rfl (OpVal.indexN rfl Try.underlying23 sz80 rfl rfl (by first | assumption | exact (RS.rv (by assumption)).sl) (by omega)) rfl rfl ?_
                    refine TA.takeP 16 rfl (by kernel_rfl) (by kernel_rfl) (by kernel_rfl) rfl (OpVal.fieldElem rfl fo80_2 rfl (by first | assumption | exact (RS.rv (by assumption)).sl) (by omega)) rfl rfl ?_
                    refine TA.take 17 rfl (by kernel_rfl) (by kernel_rfl) (by kernel_rfl) (by kernel_rfl) rfl (OpVal.loadSub Arrow.zero rfl ag28 sz28 rfl (by assumption) (by omega) (by omega) (by omega) rfl rfl) rfl rfl ?_
                    refine TA.takeP 18 rfl (by kernel_rfl) (by kernel_rfl) (by kernel_rfl) rfl (OpVal.buildL rfl pl80 ze80 rfl) rfl rfl ?_
                    refine TA.act 19 (by kernel_rfl) rfl rfl (OpOk.lit (enc := encE) [⟨(nth x.edges g1 Arrow.zero).frm, nth (shiftL y.starts x.states) g2 0, (nth x.edges g1 Arrow.zero).set⟩] rfl Try.underlying23 sz80 ze80 rfl rfl rfl encE_len (by decide) (by decide) Arrow.zero rfl (by decide) rfl (by decide) encE_one (fun a71 c72 => ⟨(fun w h => sees_of (by first | exact Store.le.refl _ | assumption) (fun r hr => (List.mem_cons_of_mem _ hr)) w h), ?_⟩))
                    refine TA.front 2 rfl rfl ?_
                    refine TA.last 20 (by kernel_rfl) rfl rfl rfl (OpOk.appendS rfl rfl Try.underlying23 sz80 by80 ze80 rfl rfl (by decide) rfl rfl rfl (.inr ⟨_, 0, rfl⟩) (by (try simp only [List.length_cons, List.length_nil, List.length_append]); omega) (by decide) (fun a74 c75 => ?_))
                    refine TZ.v 21 (by kernel_rfl) rfl rfl rfl (OpVal.fieldLoc rfl fo25_3 rfl) rfl rfl ?_
                    refine TZ.front 2 rfl rfl ?_
                    refine TZ.last 22 (by kernel_rfl) rfl rfl rfl (OpOk.storeSl rfl sz23 rfl rfl rfl rfl rfl ?_)
                    refine TZ.done (by kernel_rfl) ?_
                    refine B.n ?_
                    refine S.n ?_
                    refine TC.region ?_
                    refine TL.v rfl (OpVal.moveI (.inl rfl) rfl) rfl rfl ?_
                    refine TL.v rfl (OpVal.succ rfl rfl rfl (by omega)) rfl rfl ?_
                    refine TL.v rfl (OpVal.moveI (.inr rfl) rfl) rfl rfl ?_
                    refine TL.front 6 rfl rfl ?_
                    refine TL.front 6 rfl rfl ?_
                    refine TL.front 6 rfl rfl ?_
                    refine TL.front 6 rfl rfl ?_
                    refine TL.front 5 rfl rfl ?_
                    refine TL.front 5 rfl rfl ?_
                    refine TL.takeN 6 rfl ?_
                    refine TL.nil ?_
                    refine S.n ?_
                    -- leaf 6 next [h7: t13=False; h8: False; h40: True; h44: True; h67: t73=True; h68: True; h69: True; h70: True] H=['q38', 'q39', 'q64', 'q6', 'q4', 'q2']
                    refine ⟨by repeat (first | exact Agr.mask | refine Agr.upd rfl ?_ | refine Agr.maskIn rfl ?_), (g2 + 1, a74, c75), ?_, ?_, ?_, ?_, ?_⟩
                    · show y.starts.length - (g2 + 1) < y.starts.length - g2; omega
                    · show g2 + 1 ≤ y.starts.length; omega
                    · repeat (first | exact trivial | refine ⟨rfl, ?_⟩)
                    · show _ = [Res.cells _ #[_, _, _, .slice _ (catTo x y g1 ++ catPut (nth x.edges g1 Arrow.zero) ((shiftL y.starts x.states).take (g2 + 1))).length _] _, Res.rowS _ _ _ (.slice _ (catTo x y g1 ++ catPut (nth x.edges g1 Arrow.zero) ((shiftL y.starts x.states).take (g2 + 1))).length _) (catTo x y g1 ++ catPut (nth x.edges g1 Arrow.zero) ((shiftL y.starts x.states).take (g2 + 1))), _, _, _, _]
                      rw [catPut_snoc (by omega), ← List.append_assoc]; rfl
                    · rfl
                  · try simp only [decide_eq_true_eq, decide_eq_false_iff_not, Bool.not_eq_true', Bool.not_eq_false', Bool.not_eq_eq_eq_not, Bool.not_true, Bool.not_false, Int.not_lt, Int.not_le, Decidable.not_not] at h70
                    refine TC.exit ?_
                    refine S.x ?_
                    refine S.x ?_
                    refine TC.exitHere ?_
                    refine B.n ?_
                    refine S.n ?_
                    refine TC.region ?_
                    refine TL.v rfl (OpVal.moveI (.inl rfl) rfl) rfl rfl ?_
                    refine TL.v rfl (OpVal.succ rfl rfl rfl (by omega)) rfl rfl ?_
                    refine TL.v rfl (OpVal.moveI (.inr rfl) rfl) rfl rfl ?_
                    refine TL.nil ?_
                    refine S.n ?_
                    -- leaf 7 next [h7: t13=False; h8: False; h40: True; h44: True; h67: t73=True; h68: True; h69: True; h70: False] H=['q38', 'q39', 'q64', 'q6', 'q4', 'q2']
                    have ht : (shiftL y.starts x.states).take g2 = shiftL y.starts x.states := List.take_of_length_le (by omega)
                    refine ⟨by repeat (first | exact Agr.mask | refine Agr.upd rfl ?_ | refine Agr.maskIn rfl ?_), (g1 + 1, ya, yc), ?_, ?_, ?_, ?_, ?_⟩
                    · show x.edges.length - (g1 + 1) < x.edges.length - g1; omega
                    · show g1 + 1 ≤ x.edges.length; omega
                    · repeat (first | exact trivial | refine ⟨rfl, ?_⟩)
                    · show _ = [Res.cells _ #[_, _, _, .slice _ (catTo x y (g1 + 1)).length _] _, Res.rowS _ _ _ (.slice _ (catTo x y (g1 + 1)).length _) (catTo x y (g1 + 1)), _, _, _, _]
                      rw [catC_t (by omega) h69, ht] <;> rfl
                    · rfl
                · try simp only [decide_eq_true_eq, decide_eq_false_iff_not, Bool.not_eq_true', Bool.not_eq_false', Bool.not_eq_eq_eq_not, Bool.not_true, Bool.not_false, Int.not_lt, Int.not_le, Decidable.not_not] at h69
                  refine TC.skip ?_
                  refine B.n ?_
                  refine S.n ?_
                  refine TC.region ?_
                  refine TL.v rfl (OpVal.moveI (.inl rfl) rfl) rfl rfl ?_
                  refine TL.v rfl (OpVal.succ rfl rfl rfl (by omega)) rfl rfl ?_
                  refine TL.v rfl (OpVal.moveI (.inr rfl) rfl) rfl rfl ?_
                  refine TL.nil ?_
                  refine S.n ?_
                  -- leaf 8 next [h7: t13=False; h8: False; h40: True; h44: True; h67: t73=True; h68: True; h69: False] H=['q38', 'q39', 'q64', 'q6', 'q4', 'q2']
                  refine ⟨by repeat (first | exact Agr.mask | refine Agr.upd rfl ?_ | refine Agr.maskIn rfl ?_), (g1 + 1, xa, xc), ?_, ?_, ?_, ?_, ?_⟩
                  · show x.edges.length - (g1 + 1) < x.edges.length - g1; omega
                  · show g1 + 1 ≤ x.edges.length; omega
                  · repeat (first | exact trivial | refine ⟨rfl, ?_⟩)
                  · show _ = [Res.cells _ #[_, _, _, .slice _ (catTo x y (g1 + 1)).length _] _, Res.rowS _ _ _ (.slice _ (catTo x y (g1 + 1)).length _) (catTo x y (g1 + 1)), _, _, _, _]
                    rw [catC_f (by omega) h69] <;> rfl
                  · rfl
              · try simp only [decide_eq_true_eq, decide_eq_false_iff_not, Bool.not_eq_true', Bool.not_eq_false', Bool.not_eq_eq_eq_not, Bool.not_true, Bool.not_false, Int.not_lt, Int.not_le, Decidable.not_not] at h68
                refine TC.exit ?_
                refine S.x ?_
                refine S.x ?_
                refine TC.exitHere ?_
                refine S.n ?_
                refine TC.seq ?_
                refine TC.front 1 rfl rfl ?_
                refine TC.sealS encE_len (fun τ78 hle77 hr76 => ?_)
                replace hx := hx.mono hle77
                replace hy := hy.mono hle77
                replace hd := hd.mono hle77
                replace hr12 := hr12.mono hle77
                replace hr45 := hr45.mono hle77
                replace hr48 := hr48.mono hle77
                replace hr54 := hr54.mono hle77
                replace hr57 := hr57.mono hle77
                refine TC.front 1 rfl rfl ?_
                refine TC.sealS encE_len (fun τ81 hle80 hr79 => ?_)
                replace hx := hx.mono hle80
                replace hy := hy.mono hle80
                replace hd := hd.mono hle80
                replace hr12 := hr12.mono hle80
                replace hr45 := hr45.mono hle80
                replace hr48 := hr48.mono hle80
                replace hr54 := hr54.mono hle80
                replace hr57 := hr57.mono hle80
                replace hr76 := hr76.mono hle80
                refine TC.region ?_
                refine TL.v rfl (OpVal.loadAll rfl ag25 sz25 rfl (i := 0) rfl rfl) rfl rfl ?_
                refine TL.op rfl (OpOk.callN (end_con _ ⟨x.states + y.states, _, _, catTo x y g1⟩ ⟨a41, c42, a51, c52, xa, xc⟩ ⟨hr45, hr54, hr76, catTo_ok hx.ok hy.ok _⟩) rfl rfl pf71 rfl rfl rfl (fun pe τ83 hle82 he => ?_))
                replace hx := hx.mono hle82
                replace hy := hy.mono hle82
                replace hd := hd.mono hle82
                replace hr12 := hr12.mono hle82
                replace hr45 := hr45.mono hle82
                replace hr48 := hr48.mono hle82
                replace hr54 := hr54.mono hle82
                replace hr57 := hr57.mono hle82
                replace hr76 := hr76.mono hle82
                replace hr79 := hr79.mono hle82
                refine TL.v rfl (OpVal.extract rfl rfl rfl) rfl rfl ?_
                refine TL.v rfl (OpVal.extract rfl rfl rfl) rfl rfl ?_
                refine TL.front 1 rfl rfl ?_
                refine TL.op rfl (OpOk.storeAll rfl sz25 rfl rfl rfl rfl rfl rfl ?_)
                refine TL.v rfl (OpVal.moveI (.inr rfl) rfl) rfl rfl ?_
                refine TL.nil ?_
                refine S.n ?_
                refine TC.ret ?_
                -- leaf 9 ret [h7: t13=False; h8: False; h40: True; h44: True; h67: t73=True; h68: False] H=['q6', 'q38', 'q4', 'q2']
                obtain ⟨e1, e2⟩ := cat_stop hcx hcy hg1 (by omega) _ _
                rw [e1, e2]
                exact retNfa (p := pe) 0 rfl ag25 sz25 rfl rfl rfl rfl he
            · try simp only [decide_eq_true_eq, decide_eq_false_iff_not, Bool.not_eq_true', Bool.not_eq_false', Bool.not_eq_eq_eq_not, Bool.not_true, Bool.not_false, Int.not_lt, Int.not_le, Decidable.not_not] at h67
              refine TL.goff rfl rfl rfl rfl rfl rfl rfl rfl ?_
              refine TL.goff rfl rfl rfl rfl rfl rfl rfl rfl ?_
              refine TL.goff rfl rfl rfl rfl rfl rfl rfl rfl ?_
              refine TL.goff rfl rfl rfl rfl rfl rfl rfl rfl ?_
              refine TL.v rfl (OpVal.pickFB rfl rfl rfl) rfl rfl ?_
              refine TL.nil ?_
              refine S.n ?_
              refine TC.cond rfl (fun h => Bool.noConfusion h) (fun _ => ?_)
              refine TC.exit ?_
              refine S.x ?_
              refine S.x ?_
              refine TC.exitHere ?_
              refine S.n ?_
              refine TC.seq ?_
              refine TC.front 1 rfl rfl ?_
              refine TC.sealS encE_len (fun τ86 hle85 hr84 => ?_)
              replace hx := hx.mono hle85
              replace hy := hy.mono hle85
              replace hd := hd.mono hle85
              replace hr12 := hr12.mono hle85
              replace hr45 := hr45.mono hle85
              replace hr48 := hr48.mono hle85
              replace hr54 := hr54.mono hle85
              replace hr57 := hr57.mono hle85
              refine TC.front 1 rfl rfl ?_
              refine TC.sealS encE_len (fun τ89 hle88 hr87 => ?_)
              replace hx := hx.mono hle88
              replace hy := hy.mono hle88
              replace hd := hd.mono hle88
              replace hr12 := hr12.mono hle88
              replace hr45 := hr45.mono hle88
              replace hr48 := hr48.mono hle88
              replace hr54 := hr54.mono hle88
              replace hr57 := hr57.mono hle88
              replace hr84 := hr84.mono hle88
              refine TC.region ?_
              refine TL.v rfl (OpVal.loadAll rfl ag25 sz25 rfl (i := 0) rfl rfl) rfl rfl ?_
              refine TL.op rfl (OpOk.callN (end_con _ ⟨x.states + y.states, _, _, catTo x y g1⟩ ⟨a41, c42, a51, c52, xa, xc⟩ ⟨hr45, hr54, hr84, catTo_ok hx.ok hy.ok _⟩) rfl rfl pf71 rfl rfl rfl (fun pe τ91 hle90 he => ?_))
              replace hx := hx.mono hle90
              replace hy := hy.mono hle90
              replace hd := hd.mono hle90
              replace hr12 := hr12.mono hle90
              replace hr45 := hr45.mono hle90
              replace hr48 := hr48.mono hle90
              replace hr54 := hr54.mono hle90
              replace hr57 := hr57.mono hle90
              replace hr84 := hr84.mono hle90
              replace hr87 := hr87.mono hle90
              refine TL.v rfl (OpVal.extract rfl rfl rfl) rfl rfl ?_
              refine TL.v rfl (OpVal.extract rfl rfl rfl) rfl rfl ?_
              refine TL.front 1 rfl rfl ?_
              refine TL.op rfl (OpOk.storeAll rfl sz25 rfl rfl rfl rfl rfl rfl ?_)
              refine TL.v rfl (OpVal.moveI (.inr rfl) rfl) rfl rfl ?_
              refine TL.nil ?_
              refine S.n ?_
              refine TC.ret ?_
              -- leaf 10 ret [h7: t13=False; h8: False; h40: True; h44: True; h67: t73=False] H=['q6', 'q38', 'q4', 'q2']
              obtain rfl : g1 = x.edges.length := by omega
              obtain ⟨e1, e2⟩ := cat_all hcx hcy (show catS x y = x.starts ++ shiftL y.starts x.states from if_pos h40) (show catD x y = x.ends ++ shiftL y.ends x.states from if_pos h44)
              rw [e1, e2]
              exact retNfa (p := pe) 0 rfl ag25 sz25 rfl rfl rfl rfl he
          · try simp only [decide_eq_true_eq, decide_eq_false_iff_not, Bool.not_eq_true', Bool.not_eq_false', Bool.not_eq_eq_eq_not, Bool.not_true, Bool.not_false, Int.not_lt, Int.not_le, Decidable.not_not] at h44
            refine TC.skip ?_
            refine S.n ?_
            refine TC.seq ?_
            refine TC.front 1 rfl rfl ?_
            refine TC.sealS encI_len (fun τ94 hle93 hr92 => ?_)
            replace hx := hx.mono hle93
            replace hy := hy.mono hle93
            replace hd := hd.mono hle93
            replace hr12 := hr12.mono hle93
            refine TC.front 2 rfl rfl ?_
            refine TC.sealS encI_len (fun τ97 hle96 hr95 => ?_)
            replace hx := hx.mono hle96
            replace hy := hy.mono hle96
            replace hd := hd.mono hle96
            replace hr12 := hr12.mono hle96
            replace hr92 := hr92.mono hle96
            refine TC.front 2 rfl rfl ?_
            refine TC.sealS encI_len (fun τ100 hle99 hr98 => ?_)
            replace hx := hx.mono hle99
            replace hy := hy.mono hle99
            replace hd := hd.mono hle99
            replace hr12 := hr12.mono hle99
            replace hr92 := hr92.mono hle99
            replace hr95 := hr95.mono hle99
            refine TC.region ?_
            refine TL.v rfl (OpVal.fieldLoc rfl fo25_3 rfl) rfl rfl ?_
            refine TL.v rfl (OpVal.loadLoc rfl ag23 rfl (i := 0) rfl rfl) rfl rfl ?_
            refine TL.v rfl (OpVal.fieldLoc rfl fo25_3 rfl) rfl rfl ?_
            refine TL.v rfl (OpVal.loadLoc rfl ag23 rfl (i := 4) rfl rfl) rfl rfl ?_
            refine TL.front 1 rfl rfl ?_
            refine TL.op rfl (OpOk.appendS rfl rfl Try.underlying23 sz80 by80 ze80 rfl rfl (by decide) rfl rfl rfl (.inl (by assumption)) (by (try simp only [List.length_cons, List.length_nil, List.length_append]); omega) (by decide) (fun a101 c102 => ?_))
            refine TL.v rfl (OpVal.fieldLoc rfl fo25_3 rfl) rfl rfl ?_
            refine TL.front 1 rfl rfl ?_
            refine TL.op rfl (OpOk.storeSl rfl sz23 rfl rfl rfl rfl rfl ?_)
            refine TL.nil ?_
            refine S.n ?_
            refine TC.seq ?_
            refine TC.draw [7, 8, 9] (by kernel_rfl) ?_
            refine TA.takeP 0 rfl (by kernel_rfl) (by kernel_rfl) (by kernel_rfl) rfl (OpVal.fieldLoc rfl fo25_3 rfl) rfl rfl ?_
            refine TA.take 1 rfl (by kernel_rfl) (by kernel_rfl) (by kernel_rfl) (by kernel_rfl) rfl (OpVal.loadLoc rfl ag23 rfl (i := 0) rfl rfl) rfl rfl ?_
            refine TA.takeP 2 rfl (by kernel_rfl) (by kernel_rfl) (by kernel_rfl) rfl (OpVal.fieldLoc rfl fo25_3 rfl) rfl rfl ?_
            refine TA.take 3 rfl (by kernel_rfl) (by kernel_rfl) (by kernel_rfl) (by kernel_rfl) rfl (OpVal.loadLoc rfl ag23 rfl (i := 3) rfl rfl) rfl rfl ?_
            refine TA.takeP 4 rfl (by kernel_rfl) (by kernel_rfl) (by kernel_rfl) rfl (OpVal.fieldLoc rfl fo25_0 rfl) rfl rfl ?_
            refine TA.take 5 rfl (by kernel_rfl) (by kernel_rfl) (by kernel_rfl) (by kernel_rfl) rfl (OpVal.loadLoc rfl ag3 rfl (i := 4) rfl rfl) rfl rfl ?_
            refine TA.act 6 (by kernel_rfl) rfl rfl (OpOk.callR (shifted_con _ _ _ _ _ hy.d ⟨k1, by omega⟩ (fun u hu => by have := l6 u hu; omega) (by omega)) rfl rfl pf70 rfl rfl rfl (fun a103 c104 => ⟨(fun w h => sees_of (by first | exact Store.le.refl _ | assumption) (fun r hr => (List.mem_cons_of_mem _ hr)) w h), ?_⟩))
            refine TA.front 2 rfl rfl ?_
            refine TA.last 7 (by kernel_rfl) rfl rfl rfl (OpOk.appendS rfl rfl Try.underlying23 sz80 by80 ze80 rfl rfl (by decide) rfl rfl rfl (.inr ⟨_, 0, rfl⟩) (by (try simp only [List.length_cons, List.length_nil, List.length_append]); omega) (by decide) (fun a106 c107 => ?_))
            refine TZ.v 8 (by kernel_rfl) rfl rfl rfl (OpVal.fieldLoc rfl fo25_3 rfl) rfl rfl ?_
            refine TZ.front 2 rfl rfl ?_
            refine TZ.last 9 (by kernel_rfl) rfl rfl rfl (OpOk.storeSl rfl sz23 rfl rfl rfl rfl rfl ?_)
            refine TZ.done (by kernel_rfl) ?_
            refine S.n ?_
            refine TC.seq ?_
            refine TC.seq ?_
            refine TC.region ?_
            refine TL.v rfl (OpVal.moveI (.inr rfl) rfl) rfl rfl ?_
            refine TL.nil ?_
            refine S.n ?_
            refine TC.block ?_
            refine TC.loopF (α := Nat × Option Addr × Nat) [8, 9, 68, 69, 70, 71, 72, 73, 74, 75, 76, 77, 78, 79, 80, 81, 82, 83, 84, 85, 86, 87, 88, 89, 90, 91, 92, 93, 94, 95, 96, 97, 98, 99, 100, 101, 102, 103, 104, 105, 106, 107, 108, 109, 110, 111, 112, 113, 114, 115, 116, 117] (fun g => [(8, .int .i64 (g.1 : Nat))]) (fun g => [Res.cells gb #[.int .i64 (x.states + y.states), .slice a41 _ c42, .slice ga2 _ gc2, .slice g.2.1 (catTo x y g.1).length g.2.2] 25, Res.rowS 80 6 encE (.slice g.2.1 (catTo x y g.1).length g.2.2) (catTo x y g.1), Res.rowS 80 6 encE (.slice a103 (shiftE y.edges x.states).length c104) (shiftE y.edges x.states), Res.cells b5 (nfaA Nfa.zero NfaP.zero) 25, Res.cells b3 (nfaA y q) 25, Res.cells b1 (nfaA x p) 25]) (fun _ => _) (fun g => g.1 ≤ x.edges.length) (fun g => x.edges.length - g.1) ((0, a106, c107)) (by first | exact True.intro | omega | (dsimp only; omega) | (simp; done) | (simp; omega)) (by repeat (first | exact trivial | refine ⟨rfl, ?_⟩)) (by rw [show catTo x y 0 = [] ++ x.edges ++ shiftE y.edges x.states from by rw [catTo_zero, List.nil_append]]; rfl) (by rfl) (fun g1 j1 hg1 => ?_)
            obtain ⟨g1, xa, xc⟩ := g1
            dsimp only
            have hg1 : g1 ≤ x.edges.length := hg1
            have hl2 := catTo_len x y g1 hg1 (by omega) (by omega) (by omega)
            refine TC.seq ?_
            refine TC.seq ?_
            refine TC.region ?_
            refine TL.v rfl (OpVal.moveI (.inl rfl) rfl) rfl rfl ?_
            refine TL.v rfl (OpVal.fieldLoc rfl fo25_3 rfl) rfl rfl ?_
            refine TL.v rfl (OpVal.loadLoc rfl ag23 rfl (i := 5) rfl rfl) rfl rfl ?_
            refine TL.v rfl (OpVal.lenC rfl Try.underlying23 rfl) rfl rfl ?_
            refine TL.v rfl (OpVal.lss rfl rfl rfl) rfl rfl ?_
            refine TL.v rfl (OpVal.moveB (.inl rfl) rfl) rfl rfl ?_
            refine TL.split 73 rfl (fun h108 => ?_) (fun h108 => ?_)
            · try simp only [decide_eq_true_eq, decide_eq_false_iff_not, Bool.not_eq_true', Bool.not_eq_false', Bool.not_eq_eq_eq_not, Bool.not_true, Bool.not_false, Int.not_lt, Int.not_le, Decidable.not_not] at h108
              refine TL.gv rfl rfl rfl rfl rfl (OpVal.fieldLoc rfl fo25_3 rfl) rfl rfl ?_
              refine TL.gv rfl rfl rfl rfl rfl (OpVal.loadLoc rfl ag23 rfl (i := 0) rfl rfl) rfl rfl ?_
              refine TL.gv rfl rfl rfl rfl rfl (OpVal.lenC rfl Try.underlying23 rfl) rfl rfl ?_
              refine TL.gv rfl rfl rfl rfl rfl (OpVal.leq rfl rfl rfl) rfl rfl ?_
              refine TL.v rfl (OpVal.pickTB rfl rfl rfl) rfl rfl ?_
              refine TL.nil ?_
              refine S.n ?_
              refine TC.condD rfl (fun h109 => ?_) (fun h109 => ?_)
              · try simp only [decide_eq_true_eq, decide_eq_false_iff_not, Bool.not_eq_true', Bool.not_eq_false', Bool.not_eq_eq_eq_not, Bool.not_true, Bool.not_false, Int.not_lt, Int.not_le, Decidable.not_not] at h109
                refine TC.skip ?_
                refine S.n ?_
                refine TC.seq ?_
                refine TC.block ?_
                refine TC.seq ?_
                refine TC.draw [] (by kernel_rfl) ?_
                refine TA.takeP 0 rfl (by kernel_rfl) (by kernel_rfl) (by kernel_rfl) rfl (OpVal.fieldLoc rfl fo25_3 rfl) rfl rfl ?_
                refine TA.take 1 rfl (by kernel_rfl) (by kernel_rfl) (by kernel_rfl) (by kernel_rfl) rfl (OpVal.loadLoc rfl ag23 rfl (i := 5) rfl rfl) rfl rfl ?_
                refine TA.takeP 2 rfl (by kernel_rfl) (by kernel_rfl) (by kernel_rfl) rfl (OpVal.moveI (.inl rfl) rfl) rfl rfl ?_
                refine TA.takeP 3 rfl (by kernel_rfl) (by kernel_rfl) (by kernel_rfl) rfl (OpVal.indexN rfl Try.underlying23 sz80 rfl rfl (by first | assumption | exact (RS.rv (by assumption)).sl) (by omega)) rfl rfl ?_
                refine TA.takeP 4 rfl (by kernel_rfl) (by kernel_rfl) (by kernel_rfl) rfl (OpVal.fieldElem rfl fo80_1 rfl (by first | assumption | exact (RS.rv (by assumption)).sl) (by omega)) rfl rfl ?_
                refine TA.take 5 rfl (by kernel_rfl) (by kernel_rfl) (by kernel_rfl) (by kernel_rfl) rfl (OpVal.loadS Arrow.zero rfl ag3 rfl (by assumption) (by omega) (by omega) rfl) rfl rfl ?_
                refine TA.takeP 6 rfl (by kernel_rfl) (by kernel_rfl) (by kernel_rfl) rfl (OpVal.fieldLoc rfl fo25_2 rfl) rfl rfl ?_
                refine TA.take 7 rfl (by kernel_rfl) (by kernel_rfl) (by kernel_rfl) (by kernel_rfl) rfl (OpVal.loadLoc rfl ag22 rfl (i := 5) rfl rfl) rfl rfl ?_
                refine TA.act 8 (by kernel_rfl) rfl rfl (OpOk.callP (in_con _ _ _ _ _ hx.e) rfl rfl pf59 rfl rfl rfl ⟨(fun w h => sees_of (by first | exact Store.le.refl _ | assumption) (fun r hr => hr) w h), ?_⟩)
                refine TA.done (by kernel_rfl) ?_
                refine S.n ?_
                refine TC.cond rfl (fun h110 => ?_) (fun h110 => ?_)
                · try simp only [decide_eq_true_eq, decide_eq_false_iff_not, Bool.not_eq_true', Bool.not_eq_false', Bool.not_eq_eq_eq_not, Bool.not_true, Bool.not_false, Int.not_lt, Int.not_le, Decidable.not_not] at h110
                  refine TC.seq ?_
                  refine TC.region ?_
                  refine TL.v rfl (OpVal.moveI (.inr rfl) rfl) rfl rfl ?_
                  refine TL.nil ?_
                  refine S.n ?_
                  refine TC.block ?_
                  refine TC.loopF (α := Nat × Option Addr × Nat) [9, 90, 91, 92, 93, 94, 95, 96, 97, 98, 99, 100, 101, 102, 103, 104, 105, 106, 107, 108, 109, 110, 111, 112, 113, 114, 115, 116, 117] (fun g => [(9, .int .i64 (g.1 : Nat))]) (fun g => [Res.cells gb #[.int .i64 (x.states + y.states), .slice a41 _ c42, .slice ga2 _ gc2, .slice g.2.1 (catTo x y g1 ++ catPut (nth x.edges g1 Arrow.zero) ((shiftL y.starts x.states).take g.1)).length g.2.2] 25, Res.rowS 80 6 encE (.slice g.2.1 (catTo x y g1 ++ catPut (nth x.edges g1 Arrow.zero) ((shiftL y.starts x.states).take g.1)).length g.2.2) (catTo x y g1 ++ catPut (nth x.edges g1 Arrow.zero) ((shiftL y.starts x.states).take g.1)), Res.rowS 80 6 encE (.slice a103 (shiftE y.edges x.states).length c104) (shiftE y.edges x.states), Res.cells b5 (nfaA Nfa.zero NfaP.zero) 25, Res.cells b3 (nfaA y q) 25, Res.cells b1 (nfaA x p) 25]) (fun _ => _) (fun g => g.1 ≤ y.starts.length) (fun g => y.starts.length - g.1) ((0, xa, xc)) (by first | exact True.intro | omega | (dsimp only; omega) | (simp; done) | (simp; omega)) (by repeat (first | exact trivial | refine ⟨rfl, ?_⟩)) (by rw [show catTo x y g1 ++ catPut (nth x.edges g1 Arrow.zero) ((shiftL y.starts x.states).take 0) = catTo x y g1 from List.append_nil _]) (by rfl) (fun g2 j2 hg2 => ?_)
                  obtain ⟨g2, ya, yc⟩ := g2
                  dsimp only
                  have hg2 : g2 ≤ y.starts.length := hg2
                  have hcl := catPut_len (nth x.edges g1 Arrow.zero) ((shiftL y.starts x.states).take g2)
                  have hct : ((shiftL y.starts x.states).take g2).length = min g2 (shiftL y.starts x.states).length := List.length_take
                  refine TC.seq ?_
                  refine TC.seq ?_
                  refine TC.region ?_
                  refine TL.v rfl (OpVal.moveI (.inl rfl) rfl) rfl rfl ?_
                  refine TL.v rfl (OpVal.moveSl (.inl rfl) rfl) rfl rfl ?_
                  refine TL.v rfl (OpVal.lenC rfl Try.underlying22 rfl) rfl rfl ?_
                  refine TL.v rfl (OpVal.lss rfl rfl rfl) rfl rfl ?_
                  refine TL.nil ?_
                  refine S.n ?_
                  refine TC.condD rfl (fun h111 => ?_) (fun h111 => ?_)
                  · try simp only [decide_eq_true_eq, decide_eq_false_iff_not, Bool.not_eq_true', Bool.not_eq_false', Bool.not_eq_eq_eq_not, Bool.not_true, Bool.not_false, Int.not_lt, Int.not_le, Decidable.not_not] at h111
                    refine TC.skip ?_
                    refine S.n ?_
                    refine TC.seq ?_
                    refine TC.block ?_
                    refine TC.draw [20, 21, 22] (by kernel_rfl) ?_
                    refine TA.takeP 0 rfl (by kernel_rfl) (by kernel_rfl) (by kernel_rfl) rfl (OpVal.fieldLoc rfl fo25_3 rfl) rfl rfl ?_
                    refine TA.take 1 rfl (by kernel_rfl) (by kernel_rfl) (by kernel_rfl) (by kernel_rfl) rfl (OpVal.loadLoc rfl ag23 rfl (i := 0) rfl rfl) rfl rfl ?_
                    refine TA.takeP 2 rfl (by kernel_rfl) (by kernel_rfl) (by kernel_rfl) rfl (OpVal.fieldLoc rfl fo25_3 rfl) rfl rfl ?_
                    refine TA.take 3 rfl (by kernel_rfl) (by kernel_rfl) (by kernel_rfl) (by kernel_rfl) rfl (OpVal.loadLoc rfl ag23 rfl (i := 5) rfl rfl) rfl rfl ?_
                    refine TA.takeP 4 rfl (by kernel_rfl) (by kernel_rfl) (by kernel_rfl) rfl (OpVal.moveI (.inl rfl) rfl) rfl rfl ?_
                    refine TA.takeP 5 rfl (by kernel_rfl) (by kernel_rfl) (by kernel_rfl) rfl (OpVal.indexN rfl Try.underlying23 sz80 rfl rfl (by first | assumption | exact (RS.rv (by assumption)).sl) (by omega)) rfl rfl ?_
                    refine TA.takeP 6 rfl (by kernel_rfl) (by kernel_rfl) (by kernel_rfl) rfl (OpVal.fieldElem rfl fo80_0 rfl (by first | assumption | exact (RS.rv (by assumption)).sl) (by omega)) rfl rfl ?_
                    refine TA.take 7 rfl (by kernel_rfl) (by kernel_rfl) (by kernel_rfl) (by kernel_rfl) rfl (OpVal.loadS Arrow.zero rfl ag3 rfl (by assumption) (by omega) (by omega) rfl) rfl rfl ?_
                    refine TA.takeP 8 rfl (by kernel_rfl) (by kernel_rfl) (by kernel_rfl) rfl (OpVal.moveSl (.inl rfl) rfl) rfl rfl ?_
                    refine TA.takeP 9 rfl (by kernel_rfl) (by kernel_rfl) (by kernel_rfl) rfl (OpVal.moveI (.inl rfl) rfl) rfl rfl ?_
                    refine TA.takeP 10 rfl (by kernel_rfl) (by kernel_rfl) (by kernel_rfl) rfl (OpVal.indexN rfl Try.underlying22 sz3 rfl rfl (by first | assumption | exact (RS.rv (by assumption)).sl) (by omega)) rfl rfl ?_
                    refine TA.take 11 rfl (by kernel_rfl) (by kernel_rfl) (by kernel_rfl) (by kernel_rfl) rfl (OpVal.loadS1 (0 : Int) rfl ag3 rfl (by assumption) (by omega) rfl) rfl rfl ?_
                    refine TA.takeP 12 rfl (by kernel_rfl) (by kernel_rfl) (by kernel_rfl) rfl (OpVal.fieldLoc rfl fo25_3 rfl) rfl rfl ?_
                    refine TA.take 13 rfl (by kernel_rfl) (by kernel_rfl) (by kernel_rfl) (by kernel_rfl) rfl (OpVal.loadLoc rfl ag23 rfl (i := 5) rfl rfl) rfl rfl ?_
                    refine TA.takeP 14 rfl (by kernel_rfl) (by kernel_rfl) (by kernel_rfl) rfl (OpVal.moveI (.inl rfl) rfl) rfl rfl ?_
                    refine TA.takeP 15 rfl (by kernel_rfl) (by kernel_rfl) (by kernel_rfl) rfl (OpVal.indexN rfl Try.underlying23 sz80 rfl rfl (by first | assumption | exact (RS.rv (by assumption)).sl) (by omega)) rfl rfl ?_
                    refine TA.takeP 16 rfl (by kernel_rfl) (by kernel_rfl) (by kernel_rfl) rfl (OpVal.fieldElem rfl fo80_2 rfl (by first | assumption | exact (RS.rv (by assumption)).sl) (by omega)) rfl rfl ?_
                    refine TA.take 17 rfl (by kernel_rfl) (by kernel_rfl) (by kernel_rfl) (by kernel_rfl) rfl (OpVal.loadSub Arrow.zero rfl ag28 sz28 rfl (by assumption) (by omega) (by omega) (by omega) rfl rfl) rfl rfl ?_
                    refine TA.takeP 18 rfl (by kernel_rfl) (by kernel_rfl) (by kernel_rfl) rfl (OpVal.buildL rfl pl80 ze80 rfl) rfl rfl ?_
                    refine TA.act 19 (by kernel_rfl) rfl rfl (OpOk.lit (enc := encE) [⟨(nth x.edges g1 Arrow.zero).frm, nth (shiftL y.starts x.states) g2 0, (nth x.edges g1 Arrow.zero).set⟩] rfl Try.underlying23 sz80 ze80 rfl rfl rfl encE_len (by decide) (by decide) Arrow.zero rfl (by decide) rfl (by decide) encE_one (fun a112 c113 => ⟨(fun w h => sees_of (by first | exact Store.le.refl _ | assumption) (fun r hr => (List.mem_cons_of_mem _ hr)) w h), ?_⟩))
                    refine TA.front 2 rfl rfl ?_
                    refine TA.last 20 (by kernel_rfl) rfl rfl rfl (OpOk.appendS rfl rfl Try.underlying23 sz80 by80 ze80 rfl rfl (by decide) rfl rfl rfl (.inr ⟨_, 0, rfl⟩) (by (try simp only [List.length_cons, List.length_nil, List.length_append]); omega) (by decide) (fun a115 c116 => ?_))
                    refine TZ.v 21 (by kernel_rfl) rfl rfl rfl (OpVal.fieldLoc rfl fo25_3 rfl) rfl rfl ?_
                    refine TZ.front 2 rfl rfl ?_
                    refine TZ.last 22 (by kernel_rfl) rfl rfl rfl (OpOk.storeSl rfl sz23 rfl rfl rfl rfl rfl ?_)
                    refine TZ.done (by kernel_rfl) ?_
                    refine B.n ?_
                    refine S.n ?_
                    refine TC.region ?_
                    refine TL.v rfl (OpVal.moveI (.inl rfl) rfl) rfl rfl ?_
                    refine TL.v rfl (OpVal.succ rfl rfl rfl (by omega)) rfl rfl ?_
                    refine TL.v rfl (OpVal.moveI (.inr rfl) rfl) rfl rfl ?_
                    refine TL.front 6 rfl rfl ?_
                    refine TL.front 6 rfl rfl ?_
                    refine TL.front 6 rfl rfl ?_
                    refine TL.front 6 rfl rfl ?_
                    refine TL.front 5 rfl rfl ?_
                    refine TL.front 5 rfl rfl ?_
                    refine TL.takeN 6 rfl ?_
                    refine TL.nil ?_
                    refine S.n ?_
                    -- leaf 11 next [h7: t13=False; h8: False; h40: True; h44: False; h108: t73=True; h109: True; h110: True; h111: True] H=['q38', 'q39', 'q105', 'q6', 'q4', 'q2']
                    refine ⟨by repeat (first | exact Agr.mask | refine Agr.upd rfl ?_ | refine Agr.maskIn rfl ?_), (g2 + 1, a115, c116), ?_, ?_, ?_, ?_, ?_⟩
                    · show y.starts.length - (g2 + 1) < y.starts.length - g2; omega
                    · show g2 + 1 ≤ y.starts.length; omega
                    · repeat (first | exact trivial | refine ⟨rfl, ?_⟩)
                    · show _ = [Res.cells _ #[_, _, _, .slice _ (catTo x y g1 ++ catPut (nth x.edges g1 Arrow.zero) ((shiftL y.starts x.states).take (g2 + 1))).length _] _, Res.rowS _ _ _ (.slice _ (catTo x y g1 ++ catPut (nth x.edges g1 Arrow.zero) ((shiftL y.starts x.states).take (g2 + 1))).length _) (catTo x y g1 ++ catPut (nth x.edges g1 Arrow.zero) ((shiftL y.starts x.states).take (g2 + 1))), _, _, _, _]
                      rw [catPut_snoc (by omega), ← List.append_assoc]; rfl
                    · rfl
                  · try simp only [decide_eq_true_eq, decide_eq_false_iff_not, Bool.not_eq_true', Bool.not_eq_false', Bool.not_eq_eq_eq_not, Bool.not_true, Bool.not_false, Int.not_lt, Int.not_le, Decidable.not_not] at h111
                    refine TC.exit ?_
                    refine S.x ?_
                    refine S.x ?_
                    refine TC.exitHere ?_
                    refine B.n ?_
                    refine S.n ?_
                    refine TC.region ?_
                    refine TL.v rfl (OpVal.moveI (.inl rfl) rfl) rfl rfl ?_
                    refine TL.v rfl (OpVal.succ rfl rfl rfl (by omega)) rfl rfl ?_
                    refine TL.v rfl (OpVal.moveI (.inr rfl) rfl) rfl rfl ?_
                    refine TL.nil ?_
                    refine S.n ?_
                    -- leaf 12 next [h7: t13=False; h8: False; h40: True; h44: False; h108: t73=True; h109: True; h110: True; h111: False] H=['q38', 'q39', 'q105', 'q6', 'q4', 'q2']
                    have ht : (shiftL y.starts x.states).take g2 = shiftL y.starts x.states := List.take_of_length_le (by omega)
                    refine ⟨by repeat (first | exact Agr.mask | refine Agr.upd rfl ?_ | refine Agr.maskIn rfl ?_), (g1 + 1, ya, yc), ?_, ?_, ?_, ?_, ?_⟩
                    · show x.edges.length - (g1 + 1) < x.edges.length - g1; omega
                    · show g1 + 1 ≤ x.edges.length; omega
                    · repeat (first | exact trivial | refine ⟨rfl, ?_⟩)
                    · show _ = [Res.cells _ #[_, _, _, .slice _ (catTo x y (g1 + 1)).length _] _, Res.rowS _ _ _ (.slice _ (catTo x y (g1 + 1)).length _) (catTo x y (g1 + 1)), _, _, _, _]
                      rw [catC_t (by omega) h110, ht] <;> rfl
                    · rfl
                · try simp only [decide_eq_true_eq, decide_eq_false_iff_not, Bool.not_eq_true', Bool.not_eq_false', Bool.not_eq_eq_eq_not, Bool.not_true, Bool.not_false, Int.not_lt, Int.not_le, Decidable.not_not] at h110
                  refine TC.skip ?_
                  refine B.n ?_
                  refine S.n ?_
                  refine TC.region ?_
                  refine TL.v rfl (OpVal.moveI (.inl rfl) rfl) rfl rfl ?_
                  refine TL.v rfl (OpVal.succ rfl rfl rfl (by omega)) rfl rfl ?_
                  refine TL.v rfl (OpVal.moveI (.inr rfl) rfl) rfl rfl ?_
                  refine TL.nil ?_
                  refine S.n ?_
                  -- leaf 13 next [h7: t13=False; h8: False; h40: True; h44: False; h108: t73=True; h109: True; h110: False] H=['q38', 'q39', 'q105', 'q6', 'q4', 'q2']
                  refine ⟨by repeat (first | exact Agr.mask | refine Agr.upd rfl ?_ | refine Agr.maskIn rfl ?_), (g1 + 1, xa, xc), ?_, ?_, ?_, ?_, ?_⟩
                  · show x.edges.length - (g1 + 1) < x.edges.length - g1; omega
                  · show g1 + 1 ≤ x.edges.length; omega
                  · repeat (first | exact trivial | refine ⟨rfl, ?_⟩)
                  · show _ = [Res.cells _ #[_, _, _, .slice _ (catTo x y (g1 + 1)).length _] _, Res.rowS _ _ _ (.slice _ (catTo x y (g1 + 1)).length _) (catTo x y (g1 + 1)), _, _, _, _]
                    rw [catC_f (by omega) h110] <;> rfl
                  · rfl
              · try simp only [decide_eq_true_eq, decide_eq_false_iff_not, Bool.not_eq_true', Bool.not_eq_false', Bool.not_eq_eq_eq_not, Bool.not_true, Bool.not_false, Int.not_lt, Int.not_le, Decidable.not_not] at h109
                refine TC.exit ?_
                refine S.x ?_
                refine S.x ?_
                refine TC.exitHere ?_
                refine S.n ?_
                refine TC.seq ?_
                refine TC.front 1 rfl rfl ?_
                refine TC.sealS encE_len (fun τ119 hle118 hr117 => ?_)
                replace hx := hx.mono hle118
                replace hy := hy.mono hle118
                replace hd := hd.mono hle118
                replace hr12 := hr12.mono hle118
                replace hr92 := hr92.mono hle118
                replace hr95 := hr95.mono hle118
                replace hr98 := hr98.mono hle118
                refine TC.front 1 rfl rfl ?_
                refine TC.sealS encE_len (fun τ122 hle121 hr120 => ?_)
                replace hx := hx.mono hle121
                replace hy := hy.mono hle121
                replace hd := hd.mono hle121
                replace hr12 := hr12.mono hle121
                replace hr92 := hr92.mono hle121
                replace hr95 := hr95.mono hle121
                replace hr98 := hr98.mono hle121
                replace hr117 := hr117.mono hle121
                refine TC.region ?_
                refine TL.v rfl (OpVal.loadAll rfl ag25 sz25 rfl (i := 0) rfl rfl) rfl rfl ?_
                refine TL.op rfl (OpOk.callN (end_con _ ⟨x.states + y.states, _, _, catTo x y g1⟩ ⟨a41, c42, ga2, gc2, xa, xc⟩ ⟨hr92, hr98, hr117, catTo_ok hx.ok hy.ok _⟩) rfl rfl pf71 rfl rfl rfl (fun pe τ124 hle123 he => ?_))
                replace hx := hx.mono hle123
                replace hy := hy.mono hle123
                replace hd := hd.mono hle123
                replace hr12 := hr12.mono hle123
                replace hr92 := hr92.mono hle123
                replace hr95 := hr95.mono hle123
                replace hr98 := hr98.mono hle123
                replace hr117 := hr117.mono hle123
                replace hr120 := hr120.mono hle123
                refine TL.v rfl (OpVal.extract rfl rfl rfl) rfl rfl ?_
                refine TL.v rfl (OpVal.extract rfl rfl rfl) rfl rfl ?_
                refine TL.front 1 rfl rfl ?_
                refine TL.op rfl (OpOk.storeAll rfl sz25 rfl rfl rfl rfl rfl rfl ?_)
                refine TL.v rfl (OpVal.moveI (.inr rfl) rfl) rfl rfl ?_
                refine TL.nil ?_
                refine S.n ?_
                refine TC.ret ?_
                -- leaf 14 ret [h7: t13=False; h8: False; h40: True; h44: False; h108: t73=True; h109: False] H=['q6', 'q38', 'q4', 'q2']
                obtain ⟨e1, e2⟩ := cat_stop hcx hcy hg1 (by omega) _ _
                rw [e1, e2]
                exact retNfa (p := pe) 0 rfl ag25 sz25 rfl rfl rfl rfl he
            · try simp only [decide_eq_true_eq, decide_eq_false_iff_not, Bool.not_eq_true', Bool.not_eq_false', Bool.not_eq_eq_eq_not, Bool.not_true, Bool.not_false, Int.not_lt, Int.not_le, Decidable.not_not] at h108
              refine TL.goff rfl rfl rfl rfl rfl rfl rfl rfl ?_
              refine TL.goff rfl rfl rfl rfl rfl rfl rfl rfl ?_
              refine TL.goff rfl rfl rfl rfl rfl rfl rfl rfl ?_
              refine TL.goff rfl rfl rfl rfl rfl rfl rfl rfl ?_
              refine TL.v rfl (OpVal.pickFB rfl rfl rfl) rfl rfl ?_
              refine TL.nil ?_
              refine S.n ?_
              refine TC.cond rfl (fun h => Bool.noConfusion h) (fun _ => ?_)
              refine TC.exit ?_
              refine S.x ?_
              refine S.x ?_
              refine TC.exitHere ?_
              refine S.n ?_
              refine TC.seq ?_
              refine TC.front 1 rfl rfl ?_
              refine TC.sealS encE_len (fun τ127 hle126 hr125 => ?_)
              replace hx := hx.mono hle126
              replace hy := hy.mono hle126
              replace hd := hd.mono hle126
              replace hr12 := hr12.mono hle126
              replace hr92 := hr92.mono hle126
              replace hr95 := hr95.mono hle126
              replace hr98 := hr98.mono hle126
              refine TC.front 1 rfl rfl ?_
              refine TC.sealS encE_len (fun τ130 hle129 hr128 => ?_)
              replace hx := hx.mono hle129
              replace hy := hy.mono hle129
              replace hd := hd.mono hle129
              replace hr12 := hr12.mono hle129
              replace hr92 := hr92.mono hle129
              replace hr95 := hr95.mono hle129
              replace hr98 := hr98.mono hle129
              replace hr125 := hr125.mono hle129
              refine TC.region ?_
              refine TL.v rfl (OpVal.loadAll rfl ag25 sz25 rfl (i := 0) rfl rfl) rfl rfl ?_
              refine TL.op rfl (OpOk.callN (end_con _ ⟨x.states + y.states, _, _, catTo x y g1⟩ ⟨a41, c42, ga2, gc2, xa, xc⟩ ⟨hr92, hr98, hr125, catTo_ok hx.ok hy.ok _⟩) rfl rfl pf71 rfl rfl rfl (fun pe τ132 hle131 he => ?_))
              replace hx := hx.mono hle131
              replace hy := hy.mono hle131
              replace hd := hd.mono hle131
              replace hr12 := hr12.mono hle131
              replace hr92 := hr92.mono hle131
              replace hr95 := hr95.mono hle131
              replace hr98 := hr98.mono hle131
              replace hr125 := hr125.mono hle131
              replace hr128 := hr128.mono hle131
              refine TL.v rfl (OpVal.extract rfl rfl rfl) rfl rfl ?_
              refine TL.v rfl (OpVal.extract rfl rfl rfl) rfl rfl ?_
              refine TL.front 1 rfl rfl ?_
              refine TL.op rfl (OpOk.storeAll rfl sz25 rfl rfl rfl rfl rfl rfl ?_)
              refine TL.v rfl (OpVal.moveI (.inr rfl) rfl) rfl rfl ?_
              refine TL.nil ?_
              refine S.n ?_
              refine TC.ret ?_
              -- leaf 15 ret [h7: t13=False; h8: False; h40: True; h44: False; h108: t73=False] H=['q6', 'q38', 'q4', 'q2']
              obtain rfl : g1 = x.edges.length := by omega
              obtain ⟨e1, e2⟩ := cat_all hcx hcy (show catS x y = x.starts ++ shiftL y.starts x.states from if_pos h40) (show catD x y = shiftL y.ends x.states from if_neg (by rw [h44]; exact Bool.false_ne_true))
              rw [e1, e2]
              exact retNfa (p := pe) 0 rfl ag25 sz25 rfl rfl rfl rfl he
        · try simp only [decide_eq_true_eq, decide_eq_false_iff_not, Bool.not_eq_true', Bool.not_eq_false', Bool.not_eq_eq_eq_not, Bool.not_true, Bool.not_false, Int.not_lt, Int.not_le, Decidable.not_not] at h40
          refine TC.skip ?_
          refine S.n ?_
          refine TC.seq ?_
          refine TC.seq ?_
          refine TC.region ?_
          refine TL.v rfl (OpVal.loadAll rfl ag25 sz25 rfl (i := 5) rfl rfl) rfl rfl ?_
          refine TL.op rfl (OpOk.callP (empty_con _ _ _ (by first | exact hx | exact hy)) rfl rfl pf69 rfl rfl rfl ?_)
          refine TL.nil ?_
          refine S.n ?_
          refine TC.cond rfl (fun h133 => ?_) (fun h133 => ?_)
          · try simp only [decide_eq_true_eq, decide_eq_false_iff_not, Bool.not_eq_true', Bool.not_eq_false', Bool.not_eq_eq_eq_not, Bool.not_true, Bool.not_false, Int.not_lt, Int.not_le, Decidable.not_not] at h133
            refine TC.front 2 rfl rfl ?_
            refine TC.sealS encI_len (fun τ136 hle135 hr134 => ?_)
            replace hx := hx.mono hle135
            replace hy := hy.mono hle135
            replace hd := hd.mono hle135
            replace hr12 := hr12.mono hle135
            refine TC.front 2 rfl rfl ?_
            refine TC.sealS encI_len (fun τ139 hle138 hr137 => ?_)
            replace hx := hx.mono hle138
            replace hy := hy.mono hle138
            replace hd := hd.mono hle138
            replace hr12 := hr12.mono hle138
            replace hr134 := hr134.mono hle138
            refine TC.region ?_
            refine TL.v rfl (OpVal.fieldLoc rfl fo25_2 rfl) rfl rfl ?_
            refine TL.v rfl (OpVal.loadLoc rfl ag22 rfl (i := 4) rfl rfl) rfl rfl ?_
            refine TL.v rfl (OpVal.fieldLoc rfl fo25_2 rfl) rfl rfl ?_
            refine TL.v rfl (OpVal.loadLoc rfl ag22 rfl (i := 1) rfl rfl) rfl rfl ?_
            refine TL.op rfl (OpOk.callR (rboth_con _ _ _ _ _ _ _ (by first | exact hx.s | exact hx.e) (by assumption) (by omega) (by omega)) rfl rfl pf68 rfl rfl rfl (fun a140 c141 => ?_))
            refine TL.v rfl (OpVal.fieldLoc rfl fo25_2 rfl) rfl rfl ?_
            refine TL.front 2 rfl rfl ?_
            refine TL.op rfl (OpOk.storeSl rfl sz22 rfl rfl rfl rfl rfl ?_)
            refine TL.nil ?_
            refine S.n ?_
            refine TC.seq ?_
            refine TC.front 1 rfl rfl ?_
            refine TC.sealS encI_len (fun τ145 hle144 hr143 => ?_)
            replace hx := hx.mono hle144
            replace hy := hy.mono hle144
            replace hd := hd.mono hle144
            replace hr12 := hr12.mono hle144
            replace hr134 := hr134.mono hle144
            replace hr137 := hr137.mono hle144
            refine TC.region ?_
            refine TL.v rfl (OpVal.fieldLoc rfl fo25_3 rfl) rfl rfl ?_
            refine TL.v rfl (OpVal.loadLoc rfl ag23 rfl (i := 0) rfl rfl) rfl rfl ?_
            refine TL.v rfl (OpVal.fieldLoc rfl fo25_3 rfl) rfl rfl ?_
            refine TL.v rfl (OpVal.loadLoc rfl ag23 rfl (i := 4) rfl rfl) rfl rfl ?_
            refine TL.front 1 rfl rfl ?_
            refine TL.op rfl (OpOk.appendS rfl rfl Try.underlying23 sz80 by80 ze80 rfl rfl (by decide) rfl rfl rfl (.inl (by assumption)) (by (try simp only [List.length_cons, List.length_nil, List.length_append]); omega) (by decide) (fun a146 c147 => ?_))
            refine TL.v rfl (OpVal.fieldLoc rfl fo25_3 rfl) rfl rfl ?_
            refine TL.front 1 rfl rfl ?_
            refine TL.op rfl (OpOk.storeSl rfl sz23 rfl rfl rfl rfl rfl ?_)
            refine TL.nil ?_
            refine S.n ?_
            refine TC.seq ?_
            refine TC.draw [7, 8, 9] (by kernel_rfl) ?_
            refine TA.takeP 0 rfl (by kernel_rfl) (by kernel_rfl) (by kernel_rfl) rfl (OpVal.fieldLoc rfl fo25_3 rfl) rfl rfl ?_
            refine TA.take 1 rfl (by kernel_rfl) (by kernel_rfl) (by kernel_rfl) (by kernel_rfl) rfl (OpVal.loadLoc rfl ag23 rfl (i := 0) rfl rfl) rfl rfl ?_
            refine TA.takeP 2 rfl (by kernel_rfl) (by kernel_rfl) (by kernel_rfl) rfl (OpVal.fieldLoc rfl fo25_3 rfl) rfl rfl ?_
            refine TA.take 3 rfl (by kernel_rfl) (by kernel_rfl) (by kernel_rfl) (by kernel_rfl) rfl (OpVal.loadLoc rfl ag23 rfl (i := 3) rfl rfl) rfl rfl ?_
            refine TA.takeP 4 rfl (by kernel_rfl) (by kernel_rfl) (by kernel_rfl) rfl (OpVal.fieldLoc rfl fo25_0 rfl) rfl rfl ?_
            refine TA.take 5 rfl (by kernel_rfl) (by kernel_rfl) (by kernel_rfl) (by kernel_rfl) rfl (OpVal.loadLoc rfl ag3 rfl (i := 4) rfl rfl) rfl rfl ?_
            refine TA.act 6 (by kernel_rfl) rfl rfl (OpOk.callR (shifted_con _ _ _ _ _ hy.d ⟨k1, by omega⟩ (fun u hu => by have := l6 u hu; omega) (by omega)) rfl rfl pf70 rfl rfl rfl (fun a148 c149 => ⟨(fun w h => sees_of (by first | exact Store.le.refl _ | assumption) (fun r hr => (List.mem_cons_of_mem _ hr)) w h), ?_⟩))
            refine TA.front 2 rfl rfl ?_
            refine TA.last 7 (by kernel_rfl) rfl rfl rfl (OpOk.appendS rfl rfl Try.underlying23 sz80 by80 ze80 rfl rfl (by decide) rfl rfl rfl (.inr ⟨_, 0, rfl⟩) (by (try simp only [List.length_cons, List.length_nil, List.length_append]); omega) (by decide) (fun a151 c152 => ?_))
            refine TZ.v 8 (by kernel_rfl) rfl rfl rfl (OpVal.fieldLoc rfl fo25_3 rfl) rfl rfl ?_
            refine TZ.front 2 rfl rfl ?_
            refine TZ.last 9 (by kernel_rfl) rfl rfl rfl (OpOk.storeSl rfl sz23 rfl rfl rfl rfl rfl ?_)
            refine TZ.done (by kernel_rfl) ?_
            refine S.n ?_
            refine TC.seq ?_
            refine TC.seq ?_
            refine TC.region ?_
            refine TL.v rfl (OpVal.moveI (.inr rfl) rfl) rfl rfl ?_
            refine TL.nil ?_
            refine S.n ?_
            refine TC.block ?_
            refine TC.loopF (α := Nat × Option Addr × Nat) [8, 9, 68, 69, 70, 71, 72, 73, 74, 75, 76, 77, 78, 79, 80, 81, 82, 83, 84, 85, 86, 87, 88, 89, 90, 91, 92, 93, 94, 95, 96, 97, 98, 99, 100, 101, 102, 103, 104, 105, 106, 107, 108, 109, 110, 111, 112, 113, 114, 115, 116, 117] (fun g => [(8, .int .i64 (g.1 : Nat))]) (fun g => [Res.cells gb #[.int .i64 (x.states + y.states), .slice ga1 _ gc1, .slice a140 _ c141, .slice g.2.1 (catTo x y g.1).length g.2.2] 25, Res.rowS 80 6 encE (.slice g.2.1 (catTo x y g.1).length g.2.2) (catTo x y g.1), Res.rowS 80 6 encE (.slice a148 (shiftE y.edges x.states).length c149) (shiftE y.edges x.states), Res.cells b5 (nfaA Nfa.zero NfaP.zero) 25, Res.cells b3 (nfaA y q) 25, Res.cells b1 (nfaA x p) 25]) (fun _ => _) (fun g => g.1 ≤ x.edges.length) (fun g => x.edges.length - g.1) ((0, a151, c152)) (by first | exact True.intro | omega | (dsimp only; omega) | (simp; done) | (simp; omega)) (by repeat (first | exact trivial | refine ⟨rfl, ?_⟩)) (by rw [show catTo x y 0 = [] ++ x.edges ++ shiftE y.edges x.states from by rw [catTo_zero, List.nil_append]]; rfl) (by rfl) (fun g1 j1 hg1 => ?_)
            obtain ⟨g1, xa, xc⟩ := g1
            dsimp only
            have hg1 : g1 ≤ x.edges.length := hg1
            have hl2 := catTo_len x y g1 hg1 (by omega) (by omega) (by omega)
            refine TC.seq ?_
            refine TC.seq ?_
            refine TC.region ?_
            refine TL.v rfl (OpVal.moveI (.inl rfl) rfl) rfl rfl ?_
            refine TL.v rfl (OpVal.fieldLoc rfl fo25_3 rfl) rfl rfl ?_
            refine TL.v rfl (OpVal.loadLoc rfl ag23 rfl (i := 5) rfl rfl) rfl rfl ?_
            refine TL.v rfl (OpVal.lenC rfl Try.underlying23 rfl) rfl rfl ?_
            refine TL.v rfl (OpVal.lss rfl rfl rfl) rfl rfl ?_
            refine TL.v rfl (OpVal.moveB (.inl rfl) rfl) rfl rfl ?_
            refine TL.split 73 rfl (fun h153 => ?_) (fun h153 => ?_)
            · try simp only [decide_eq_true_eq, decide_eq_false_iff_not, Bool.not_eq_true', Bool.not_eq_false', Bool.not_eq_eq_eq_not, Bool.not_true, Bool.not_false, Int.not_lt, Int.not_le, Decidable.not_not] at h153
              refine TL.gv rfl rfl rfl rfl rfl (OpVal.fieldLoc rfl fo25_3 rfl) rfl rfl ?_
              refine TL.gv rfl rfl rfl rfl rfl (OpVal.loadLoc rfl ag23 rfl (i := 0) rfl rfl) rfl rfl ?_
              refine TL.gv rfl rfl rfl rfl rfl (OpVal.lenC rfl Try.underlying23 rfl) rfl rfl ?_
              refine TL.gv rfl rfl rfl rfl rfl (OpVal.leq rfl rfl rfl) rfl rfl ?_
              refine TL.v rfl (OpVal.pickTB rfl rfl rfl) rfl rfl ?_
              refine TL.nil ?_
              refine S.n ?_
              refine TC.condD rfl (fun h154 => ?_) (fun h154 => ?_)
              · try simp only [decide_eq_true_eq, decide_eq_false_iff_not, Bool.not_eq_true', Bool.not_eq_false', Bool.not_eq_eq_eq_not, Bool.not_true, Bool.not_false, Int.not_lt, Int.not_le, Decidable.not_not] at h154
                refine TC.skip ?_
                refine S.n ?_
                refine TC.seq ?_
                refine TC.block ?_
                refine TC.seq ?_
                refine TC.draw [] (by kernel_rfl) ?_
                refine TA.takeP 0 rfl (by kernel_rfl) (by kernel_rfl) (by kernel_rfl) rfl (OpVal.fieldLoc rfl fo25_3 rfl) rfl rfl ?_
                refine TA.take 1 rfl (by kernel_rfl) (by kernel_rfl) (by kernel_rfl) (by kernel_rfl) rfl (OpVal.loadLoc rfl ag23 rfl (i := 5) rfl rfl) rfl rfl ?_
                refine TA.takeP 2 rfl (by kernel_rfl) (by kernel_rfl) (by kernel_rfl) rfl (OpVal.moveI (.inl rfl) rfl) rfl rfl ?_
                refine TA.takeP 3 rfl (by kernel_rfl) (by kernel_rfl) (by kernel_rfl) rfl (OpVal.indexN rfl Try.underlying23 sz80 rfl rfl (by first | assumption | exact (RS.rv (by assumption)).sl) (by omega)) rfl rfl ?_
                refine TA.takeP 4 rfl (by kernel_rfl) (by kernel_rfl) (by kernel_rfl) rfl (OpVal.fieldElem rfl fo80_1 rfl (by first | assumption | exact (RS.rv (by assumption)).sl) (by omega)) rfl rfl ?_
                refine TA.take 5 rfl (by kernel_rfl) (by kernel_rfl) (by kernel_rfl) (by kernel_rfl) rfl (OpVal.loadS Arrow.zero rfl ag3 rfl (by assumption) (by omega) (by omega) rfl) rfl rfl ?_
                refine TA.takeP 6 rfl (by kernel_rfl) (by kernel_rfl) (by kernel_rfl) rfl (OpVal.fieldLoc rfl fo25_2 rfl) rfl rfl ?_
                refine TA.take 7 rfl (by kernel_rfl) (by kernel_rfl) (by kernel_rfl) (by kernel_rfl) rfl (OpVal.loadLoc rfl ag22 rfl (i := 5) rfl rfl) rfl rfl ?_
                refine TA.act 8 (by kernel_rfl) rfl rfl (OpOk.callP (in_con _ _ _ _ _ hx.e) rfl rfl pf59 rfl rfl rfl ⟨(fun w h => sees_of (by first | exact Store.le.refl _ | assumption) (fun r hr => hr) w h), ?_⟩)
                refine TA.done (by kernel_rfl) ?_
                refine S.n ?_
                refine TC.cond rfl (fun h155 => ?_) (fun h155 => ?_)
                · try simp only [decide_eq_true_eq, decide_eq_false_iff_not, Bool.not_eq_true', Bool.not_eq_false', Bool.not_eq_eq_eq_not, Bool.not_true, Bool.not_false, Int.not_lt, Int.not_le, Decidable.not_not] at h155
                  refine TC.seq ?_
                  refine TC.region ?_
                  refine TL.v rfl (OpVal.moveI (.inr rfl) rfl) rfl rfl ?_
                  refine TL.nil ?_
                  refine S.n ?_
                  refine TC.block ?_
                  refine TC.loopF (α := Nat × Option Addr × Nat) [9, 90, 91, 92, 93, 94, 95, 96, 97, 98, 99, 100, 101, 102, 103, 104, 105, 106, 107, 108, 109, 110, 111, 112, 113, 114, 115, 116, 117] (fun g => [(9, .int .i64 (g.1 : Nat))]) (fun g => [Res.cells gb #[.int .i64 (x.states + y.states), .slice ga1 _ gc1, .slice a140 _ c141, .slice g.2.1 (catTo x y g1 ++ catPut (nth x.edges g1 Arrow.zero) ((shiftL y.starts x.states).take g.1)).length g.2.2] 25, Res.rowS 80 6 encE (.slice g.2.1 (catTo x y g1 ++ catPut (nth x.edges g1 Arrow.zero) ((shiftL y.starts x.states).take g.1)).length g.2.2) (catTo x y g1 ++ catPut (nth x.edges g1 Arrow.zero) ((shiftL y.starts x.states).take g.1)), Res.rowS 80 6 encE (.slice a148 (shiftE y.edges x.states).length c149) (shiftE y.edges x.states), Res.cells b5 (nfaA Nfa.zero NfaP.zero) 25, Res.cells b3 (nfaA y q) 25, Res.cells b1 (nfaA x p) 25]) (fun _ => _) (fun g => g.1 ≤ y.starts.length) (fun g => y.starts.length - g.1) ((0, xa, xc)) (by first | exact True.intro | omega | (dsimp only; omega) | (simp; done) | (simp; omega)) (by repeat (first | exact trivial | refine ⟨rfl, ?_⟩)) (by rw [show catTo x y g1 ++ catPut (nth x.edges g1 Arrow.zero) ((shiftL y.starts x.states).take 0) = catTo x y g1 from List.append_nil _]) (by rfl) (fun g2 j2 hg2 => ?_)
                  obtain ⟨g2, ya, yc⟩ := g2
                  dsimp only
                  have hg2 : g2 ≤ y.starts.length := hg2
                  have hcl := catPut_len (nth x.edges g1 Arrow.zero) ((shiftL y.starts x.states).take g2)
                  have hct : ((shiftL y.starts x.states).take g2).length = min g2 (shiftL y.starts x.states).length := List.length_take
                  refine TC.seq ?_
                  refine TC.seq ?_
                  refine TC.region ?_
                  refine TL.v rfl (OpVal.moveI (.inl rfl) rfl) rfl rfl ?_
                  refine TL.v rfl (OpVal.moveSl (.inl rfl) rfl) rfl rfl ?_
                  refine TL.v rfl (OpVal.lenC rfl Try.underlying22 rfl) rfl rfl ?_
                  refine TL.v rfl (OpVal.lss rfl rfl rfl) rfl rfl ?_
                  refine TL.nil ?_
                  refine S.n ?_
                  refine TC.condD rfl (fun h156 => ?_) (fun h156 => ?_)
                  · try simp only [decide_eq_true_eq, decide_eq_false_iff_not, Bool.not_eq_true', Bool.not_eq_false', Bool.not_eq_eq_eq_not, Bool.not_true, Bool.not_false, Int.not_lt, Int.not_le, Decidable.not_not] at h156
                    refine TC.skip ?_
                    refine S.n ?_
                    refine TC.seq ?_
                    refine TC.block ?_
                    refine TC.draw [20, 21, 22] (by kernel_rfl) ?_
                    refine TA.takeP 0 rfl (by kernel_rfl) (by kernel_rfl) (by kernel_rfl) rfl (OpVal.fieldLoc rfl fo25_3 rfl) rfl rfl ?_
                    refine TA.take 1 rfl (by kernel_rfl) (by kernel_rfl) (by kernel_rfl) (by kernel_rfl) rfl (OpVal.loadLoc rfl ag23 rfl (i := 0) rfl rfl) rfl rfl ?_
                    refine TA.takeP 2 rfl (by kernel_rfl) (by kernel_rfl) (by kernel_rfl) rfl (OpVal.fieldLoc rfl fo25_3 rfl) rfl rfl ?_
                    refine TA.take 3 rfl (by kernel_rfl) (by kernel_rfl) (by kernel_rfl) (by kernel_rfl) rfl (OpVal.loadLoc rfl ag23 rfl (i := 5) rfl rfl) rfl rfl ?_
                    refine TA.takeP 4 rfl (by kernel_rfl) (by kernel_rfl) (by kernel_rfl) rfl (OpVal.moveI (.inl rfl) rfl) rfl rfl ?_
                    refine TA.takeP 5 rfl (by kernel_rfl) (by kernel_rfl) (by kernel_rfl) rfl (OpVal.indexN rfl Try.underlying23 sz80 rfl rfl (by first | assumption | exact (RS.rv (by assumption)).sl) (by omega)) rfl rfl ?_
                    refine TA.takeP 6 rfl (by kernel_rfl) (by kernel_rfl) (by kernel_rfl) rfl (OpVal.fieldElem rfl fo80_0 rfl (by first | assumption | exact (RS.rv (by assumption)).sl) (by omega)) rfl rfl ?_
                    refine TA.take 7 rfl (by kernel_rfl) (by kernel_rfl) (by kernel_rfl) (by kernel_rfl) rfl (OpVal.loadS Arrow.zero rfl ag3 rfl (by assumption) (by omega) (by omega) rfl) rfl rfl ?_
                    refine TA.takeP 8 rfl (by kernel_rfl) (by kernel_rfl) (by kernel_rfl) rfl (OpVal.moveSl (.inl rfl) rfl) rfl rfl ?_
                    refine TA.takeP 9 rfl (by kernel_rfl) (by kernel_rfl) (by kernel_rfl) rfl (OpVal.moveI (.inl rfl) rfl) rfl rfl ?_
                    refine TA.takeP 10 rfl (by kernel_rfl) (by kernel_rfl) (by kernel_rfl) rfl (OpVal.indexN rfl Try.underlying22 sz3 rfl rfl (by first | assumption | exact (RS.rv (by assumption)).sl) (by omega)) rfl rfl ?_
                    refine TA.take 11 rfl (by kernel_rfl) (by kernel_rfl) (by kernel_rfl) (by kernel_rfl) rfl (OpVal.loadS1 (0 : Int) rfl ag3 rfl (by assumption) (by omega) rfl) rfl rfl ?_
                    refine TA.takeP 12 rfl (by kernel_rfl) (by kernel_rfl) (by kernel_rfl) rfl (OpVal.fieldLoc rfl fo25_3 rfl) rfl rfl ?_
                    refine TA.take 13 rfl (by kernel_rfl) (by kernel_rfl) (by kernel_rfl) (by kernel_rfl) rfl (OpVal.loadLoc rfl ag23 rfl (i := 5) rfl rfl) rfl rfl ?_
                    refine TA.takeP 14 rfl (by kernel_rfl) (by kernel_rfl) (by kernel_rfl) rfl (OpVal.moveI (.inl rfl) rfl) rfl rfl ?_
                    refine TA.takeP 15 rfl (by kernel_rfl) (by kernel_rfl) (by kernel_rfl) rfl (OpVal.indexN rfl Try.underlying23 sz80 rfl rfl (by first | assumption | exact (RS.rv (by assumption)).sl) (by omega)) rfl rfl ?_
                    refine TA.takeP 16 rfl (by kernel_rfl) (by kernel_rfl) (by kernel_rfl) rfl (OpVal.fieldElem rfl fo80_2 rfl (by first | assumption | exact (RS.rv (by assumption)).sl) (by omega)) rfl rfl ?_
                    refine TA.take 17 rfl (by kernel_rfl) (by kernel_rfl) (by kernel_rfl) (by kernel_rfl) rfl (OpVal.loadSub Arrow.zero rfl ag28 sz28 rfl (by assumption) (by omega) (by omega) (by omega) rfl rfl) rfl rfl ?_
                    refine TA.takeP 18 rfl (by kernel_rfl) (by kernel_rfl) (by kernel_rfl) rfl (OpVal.buildL rfl pl80 ze80 rfl) rfl rfl ?_
                    refine TA.act 19 (by kernel_rfl) rfl rfl (OpOk.lit (enc := encE) [⟨(nth x.edges g1 Arrow.zero).frm, nth (shiftL y.starts x.states) g2 0, (nth x.edges g1 Arrow.zero).set⟩] rfl Try.underlying23 sz80 ze80 rfl rfl rfl encE_len (by decide) (by decide) Arrow.zero rfl (by decide) rfl (by decide) encE_one (fun a157 c158 => ⟨(fun w h => sees_of (by first | exact Store.le.refl _ | assumption) (fun r hr => (List.mem_cons_of_mem _ hr)) w h), ?_⟩))
                    refine TA.front 2 rfl rfl ?_
                    refine TA.last 20 (by kernel_rfl) rfl rfl rfl (OpOk.appendS rfl rfl Try.underlying23 sz80 by80 ze80 rfl rfl (by decide) rfl rfl rfl (.inr ⟨_, 0, rfl⟩) (by (try simp only [List.length_cons, List.length_nil, List.length_append]); omega) (by decide) (fun a160 c161 => ?_))
                    refine TZ.v 21 (by kernel_rfl) rfl rfl rfl (OpVal.fieldLoc rfl fo25_3 rfl) rfl rfl ?_
                    refine TZ.front 2 rfl rfl ?_
                    refine TZ.last 22 (by kernel_rfl) rfl rfl rfl (OpOk.storeSl rfl sz23 rfl rfl rfl rfl rfl ?_)
                    refine TZ.done (by kernel_rfl) ?_
                    refine B.n ?_
                    refine S.n ?_
                    refine TC.region ?_
                    refine TL.v rfl (OpVal.moveI (.inl rfl) rfl) rfl rfl ?_
                    refine TL.v rfl (OpVal.succ rfl rfl rfl (by omega)) rfl rfl ?_
                    refine TL.v rfl (OpVal.moveI (.inr rfl) rfl) rfl rfl ?_
                    refine TL.front 6 rfl rfl ?_
                    refine TL.front 6 rfl rfl ?_
                    refine TL.front 6 rfl rfl ?_
                    refine TL.front 6 rfl rfl ?_
                    refine TL.front 5 rfl rfl ?_
                    refine TL.front 5 rfl rfl ?_
                    refine TL.takeN 6 rfl ?_
                    refine TL.nil ?_
                    refine S.n ?_
                    -- leaf 16 next [h7: t13=False; h8: False; h40: False; h133: True; h153: t73=True; h154: True; h155: True; h156: True] H=['q38', 'q39', 'q150', 'q6', 'q4', 'q2']
                    refine ⟨by repeat (first | exact Agr.mask | refine Agr.upd rfl ?_ | refine Agr.maskIn rfl ?_), (g2 + 1, a160, c161), ?_, ?_, ?_, ?_, ?_⟩
                    · show y.starts.length - (g2 + 1) < y.starts.length - g2; omega
                    · show g2 + 1 ≤ y.starts.length; omega
                    · repeat (first | exact trivial | refine ⟨rfl, ?_⟩)
                    · show _ = [Res.cells _ #[_, _, _, .slice _ (catTo x y g1 ++ catPut (nth x.edges g1 Arrow.zero) ((shiftL y.starts x.states).take (g2 + 1))).length _] _, Res.rowS _ _ _ (.slice _ (catTo x y g1 ++ catPut (nth x.edges g1 Arrow.zero) ((shiftL y.starts x.states).take (g2 + 1))).length _) (catTo x y g1 ++ catPut (nth x.edges g1 Arrow.zero) ((shiftL y.starts x.states).take (g2 + 1))), _, _, _, _]
                      rw [catPut_snoc (by omega), ← List.append_assoc]; rfl
                    · rfl
                  · try simp only [decide_eq_true_eq, decide_eq_false_iff_not, Bool.not_eq_true', Bool.not_eq_false', Bool.not_eq_eq_eq_not, Bool.not_true, Bool.not_false, Int.not_lt, Int.not_le, Decidable.not_not] at h156
                    refine TC.exit ?_
                    refine S.x ?_
                    refine S.x ?_
                    refine TC.exitHere ?_
                    refine B.n ?_
                    refine S.n ?_
                    refine TC.region ?_
                    refine TL.v rfl (OpVal.moveI (.inl rfl) rfl) rfl rfl ?_
                    refine TL.v rfl (OpVal.succ rfl rfl rfl (by omega)) rfl rfl ?_
                    refine TL.v rfl (OpVal.moveI (.inr rfl) rfl) rfl rfl ?_
                    refine TL.nil ?_
                    refine S.n ?_
                    -- leaf 17 next [h7: t13=False; h8: False; h40: False; h133: True; h153: t73=True; h154: True; h155: True; h156: False] H=['q38', 'q39', 'q150', 'q6', 'q4', 'q2']
                    have ht : (shiftL y.starts x.states).take g2 = shiftL y.starts x.states := List.take_of_length_le (by omega)
                    refine ⟨by repeat (first | exact Agr.mask | refine Agr.upd rfl ?_ | refine Agr.maskIn rfl ?_), (g1 + 1, ya, yc), ?_, ?_, ?_, ?_, ?_⟩
                    · show x.edges.length - (g1 + 1) < x.edges.length - g1; omega
                    · show g1 + 1 ≤ x.edges.length; omega
                    · repeat (first | exact trivial | refine ⟨rfl, ?_⟩)
                    · show _ = [Res.cells _ #[_, _, _, .slice _ (catTo x y (g1 + 1)).length _] _, Res.rowS _ _ _ (.slice _ (catTo x y (g1 + 1)).length _) (catTo x y (g1 + 1)), _, _, _, _]
                      rw [catC_t (by omega) h155, ht] <;> rfl
                    · rfl
                · try simp only [decide_eq_true_eq, decide_eq_false_iff_not, Bool.not_eq_true', Bool.not_eq_false', Bool.not_eq_eq_eq_not, Bool.not_true, Bool.not_false, Int.not_lt, Int.not_le, Decidable.not_not] at h155
                  refine TC.skip ?_
                  refine B.n ?_
                  refine S.n ?_
                  refine TC.region ?_
                  refine TL.v rfl (OpVal.moveI (.inl rfl) rfl) rfl rfl ?_
                  refine TL.v rfl (OpVal.succ rfl rfl rfl (by omega)) rfl rfl ?_
                  refine TL.v rfl (OpVal.moveI (.inr rfl) rfl) rfl rfl ?_
                  refine TL.nil ?_
                  refine S.n ?_
                  -- leaf 18 next [h7: t13=False; h8: False; h40: False; h133: True; h153: t73=True; h154: True; h155: False] H=['q38', 'q39', 'q150', 'q6', 'q4', 'q2']
                  refine ⟨by repeat (first | exact Agr.mask | refine Agr.upd rfl ?_ | refine Agr.maskIn rfl ?_), (g1 + 1, xa, xc), ?_, ?_, ?_, ?_, ?_⟩
                  · show x.edges.length - (g1 + 1) < x.edges.length - g1; omega
                  · show g1 + 1 ≤ x.edges.length; omega
                  · repeat (first | exact trivial | refine ⟨rfl, ?_⟩)
                  · show _ = [Res.cells _ #[_, _, _, .slice _ (catTo x y (g1 + 1)).length _] _, Res.rowS _ _ _ (.slice _ (catTo x y (g1 + 1)).length _) (catTo x y (g1 + 1)), _, _, _, _]
                    rw [catC_f (by omega) h155] <;> rfl
                  · rfl
              · try simp only [decide_eq_true_eq, decide_eq_false_iff_not, Bool.not_eq_true', Bool.not_eq_false', Bool.not_eq_eq_eq_not, Bool.not_true, Bool.not_false, Int.not_lt, Int.not_le, Decidable.not_not] at h154
                refine TC.exit ?_
                refine S.x ?_
                refine S.x ?_
                refine TC.exitHere ?_
                refine S.n ?_
                refine TC.seq ?_
                refine TC.front 1 rfl rfl ?_
                refine TC.sealS encE_len (fun τ164 hle163 hr162 => ?_)
                replace hx := hx.mono hle163
                replace hy := hy.mono hle163
                replace hd := hd.mono hle163
                replace hr12 := hr12.mono hle163
                replace hr134 := hr134.mono hle163
                replace hr137 := hr137.mono hle163
                replace hr143 := hr143.mono hle163
                refine TC.front 1 rfl rfl ?_
                refine TC.sealS encE_len (fun τ167 hle166 hr165 => ?_)
                replace hx := hx.mono hle166
                replace hy := hy.mono hle166
                replace hd := hd.mono hle166
                replace hr12 := hr12.mono hle166
                replace hr134 := hr134.mono hle166
                replace hr137 := hr137.mono hle166
                replace hr143 := hr143.mono hle166
                replace hr162 := hr162.mono hle166
                refine TC.region ?_
                refine TL.v rfl (OpVal.loadAll rfl ag25 sz25 rfl (i := 0) rfl rfl) rfl rfl ?_
                refine TL.op rfl (OpOk.callN (end_con _ ⟨x.states + y.states, _, _, catTo x y g1⟩ ⟨ga1, gc1, a140, c141, xa, xc⟩ ⟨hr134, hr143, hr162, catTo_ok hx.ok hy.ok _⟩) rfl rfl pf71 rfl rfl rfl (fun pe τ169 hle168 he => ?_))
                replace hx := hx.mono hle168
                replace hy := hy.mono hle168
                replace hd := hd.mono hle168
                replace hr12 := hr12.mono hle168
                replace hr134 := hr134.mono hle168
                replace hr137 := hr137.mono hle168
                replace hr143 := hr143.mono hle168
                replace hr162 := hr162.mono hle168
                replace hr165 := hr165.mono hle168
                refine TL.v rfl (OpVal.extract rfl rfl rfl) rfl rfl ?_
                refine TL.v rfl (OpVal.extract rfl rfl rfl) rfl rfl ?_
                refine TL.front 1 rfl rfl ?_
                refine TL.op rfl (OpOk.storeAll rfl sz25 rfl rfl rfl rfl rfl rfl ?_)
                refine TL.v rfl (OpVal.moveI (.inr rfl) rfl) rfl rfl ?_
                refine TL.nil ?_
                refine S.n ?_
                refine TC.ret ?_
                -- leaf 19 ret [h7: t13=False; h8: False; h40: False; h133: True; h153: t73=True; h154: False] H=['q6', 'q38', 'q4', 'q2']
                obtain ⟨e1, e2⟩ := cat_stop hcx hcy hg1 (by omega) _ _
                rw [e1, e2]
                exact retNfa (p := pe) 0 rfl ag25 sz25 rfl rfl rfl rfl he
            · try simp only [decide_eq_true_eq, decide_eq_false_iff_not, Bool.not_eq_true', Bool.not_eq_false', Bool.not_eq_eq_eq_not, Bool.not_true, Bool.not_false, Int.not_lt, Int.not_le, Decidable.not_not] at h153
              refine TL.goff rfl rfl rfl rfl rfl rfl rfl rfl ?_
              refine TL.goff rfl rfl rfl rfl rfl rfl rfl rfl ?_
              refine TL.goff rfl rfl rfl rfl rfl rfl rfl rfl ?_
              refine TL.goff rfl rfl rfl rfl rfl rfl rfl rfl ?_
              refine TL.v rfl (OpVal.pickFB rfl rfl rfl) rfl rfl ?_
              refine TL.nil ?_
              refine S.n ?_
              refine TC.cond rfl (fun h => Bool.noConfusion h) (fun _ => ?_)
              refine TC.exit ?_
              refine S.x ?_
              refine S.x ?_
              refine TC.exitHere ?_
              refine S.n ?_
              refine TC.seq ?_
              refine TC.front 1 rfl rfl ?_
              refine TC.sealS encE_len (fun τ172 hle171 hr170 => ?_)
              replace hx := hx.mono hle171
              replace hy := hy.mono hle171
              replace hd := hd.mono hle171
              replace hr12 := hr12.mono hle171
              replace hr134 := hr134.mono hle171
              replace hr137 := hr137.mono hle171
              replace hr143 := hr143.mono hle171
              refine TC.front 1 rfl rfl ?_
              refine TC.sealS encE_len (fun τ175 hle174 hr173 => ?_)
              replace hx := hx.mono hle174
              replace hy := hy.mono hle174
              replace hd := hd.mono hle174
              replace hr12 := hr12.mono hle174
              replace hr134 := hr134.mono hle174
              replace hr137 := hr137.mono hle174
              replace hr143 := hr143.mono hle174
              replace hr170 := hr170.mono hle174
              refine TC.region ?_
              refine TL.v rfl (OpVal.loadAll rfl ag25 sz25 rfl (i := 0) rfl rfl) rfl rfl ?_
              refine TL.op rfl (OpOk.callN (end_con _ ⟨x.states + y.states, _, _, catTo x y g1⟩ ⟨ga1, gc1, a140, c141, xa, xc⟩ ⟨hr134, hr143, hr170, catTo_ok hx.ok hy.ok _⟩) rfl rfl pf71 rfl rfl rfl (fun pe τ177 hle176 he => ?_))
              replace hx := hx.mono hle176
              replace hy := hy.mono hle176
              replace hd := hd.mono hle176
              replace hr12 := hr12.mono hle176
              replace hr134 := hr134.mono hle176
              replace hr137 := hr137.mono hle176
              replace hr143 := hr143.mono hle176
              replace hr170 := hr170.mono hle176
              replace hr173 := hr173.mono hle176
              refine TL.v rfl (OpVal.extract rfl rfl rfl) rfl rfl ?_
              refine TL.v rfl (OpVal.extract rfl rfl rfl) rfl rfl ?_
              refine TL.front 1 rfl rfl ?_
              refine TL.op rfl (OpOk.storeAll rfl sz25 rfl rfl rfl rfl rfl rfl ?_)
              refine TL.v rfl (OpVal.moveI (.inr rfl) rfl) rfl rfl ?_
              refine TL.nil ?_
              refine S.n ?_
              refine TC.ret ?_
              -- leaf 20 ret [h7: t13=False; h8: False; h40: False; h133: True; h153: t73=False] H=['q6', 'q38', 'q4', 'q2']
              obtain rfl : g1 = x.edges.length := by omega
              obtain ⟨e1, e2⟩ := cat_all hcx hcy (show catS x y = x.starts ++ [] from (if_neg (by rw [h40]; exact Bool.false_ne_true)).trans (List.append_nil _).symm) (show catD x y = x.ends ++ shiftL y.ends x.states from if_pos h133)
              rw [e1, e2]
              exact retNfa (p := pe) 0 rfl ag25 sz25 rfl rfl rfl rfl he
          · try simp only [decide_eq_true_eq, decide_eq_false_iff_not, Bool.not_eq_true', Bool.not_eq_false', Bool.not_eq_eq_eq_not, Bool.not_true, Bool.not_false, Int.not_lt, Int.not_le, Decidable.not_not] at h133
            refine TC.skip ?_
            refine S.n ?_
            refine TC.seq ?_
            refine TC.front 2 rfl rfl ?_
            refine TC.sealS encI_len (fun τ180 hle179 hr178 => ?_)
            replace hx := hx.mono hle179
            replace hy := hy.mono hle179
            replace hd := hd.mono hle179
            replace hr12 := hr12.mono hle179
            refine TC.front 2 rfl rfl ?_
            refine TC.sealS encI_len (fun τ183 hle182 hr181 => ?_)
            replace hx := hx.mono hle182
            replace hy := hy.mono hle182
            replace hd := hd.mono hle182
            replace hr12 := hr12.mono hle182
            replace hr178 := hr178.mono hle182
            refine TC.region ?_
            refine TL.v rfl (OpVal.fieldLoc rfl fo25_3 rfl) rfl rfl ?_
            refine TL.v rfl (OpVal.loadLoc rfl ag23 rfl (i := 1) rfl rfl) rfl rfl ?_
            refine TL.v rfl (OpVal.fieldLoc rfl fo25_3 rfl) rfl rfl ?_
            refine TL.v rfl (OpVal.loadLoc rfl ag23 rfl (i := 4) rfl rfl) rfl rfl ?_
            refine TL.op rfl (OpOk.appendS rfl rfl Try.underlying23 sz80 by80 ze80 rfl rfl (by decide) rfl rfl rfl (.inl (by assumption)) (by (try simp only [List.length_cons, List.length_nil, List.length_append]); omega) (by decide) (fun a184 c185 => ?_))
            refine TL.v rfl (OpVal.fieldLoc rfl fo25_3 rfl) rfl rfl ?_
            refine TL.front 1 rfl rfl ?_
            refine TL.op rfl (OpOk.storeSl rfl sz23 rfl rfl rfl rfl rfl ?_)
            refine TL.nil ?_
            refine S.n ?_
            refine TC.seq ?_
            refine TC.draw [7, 8, 9] (by kernel_rfl) ?_
            refine TA.takeP 0 rfl (by kernel_rfl) (by kernel_rfl) (by kernel_rfl) rfl (OpVal.fieldLoc rfl fo25_3 rfl) rfl rfl ?_
            refine TA.take 1 rfl (by kernel_rfl) (by kernel_rfl) (by kernel_rfl) (by kernel_rfl) rfl (OpVal.loadLoc rfl ag23 rfl (i := 0) rfl rfl) rfl rfl ?_
            refine TA.takeP 2 rfl (by kernel_rfl) (by kernel_rfl) (by kernel_rfl) rfl (OpVal.fieldLoc rfl fo25_3 rfl) rfl rfl ?_
            refine TA.take 3 rfl (by kernel_rfl) (by kernel_rfl) (by kernel_rfl) (by kernel_rfl) rfl (OpVal.loadLoc rfl ag23 rfl (i := 3) rfl rfl) rfl rfl ?_
            refine TA.takeP 4 rfl (by kernel_rfl) (by kernel_rfl) (by kernel_rfl) rfl (OpVal.fieldLoc rfl fo25_0 rfl) rfl rfl ?_
            refine TA.take 5 rfl (by kernel_rfl) (by kernel_rfl) (by kernel_rfl) (by kernel_rfl) rfl (OpVal.loadLoc rfl ag3 rfl (i := 4) rfl rfl) rfl rfl ?_
            refine TA.act 6 (by kernel_rfl) rfl rfl (OpOk.callR (shifted_con _ _ _ _ _ hy.d ⟨k1, by omega⟩ (fun u hu => by have := l6 u hu; omega) (by omega)) rfl rfl pf70 rfl rfl rfl (fun a186 c187 => ⟨(fun w h => sees_of (by first | exact Store.le.refl _ | assumption) (fun r hr => (List.mem_cons_of_mem _ hr)) w h), ?_⟩))
            refine TA.front 2 rfl rfl ?_
            refine TA.last 7 (by kernel_rfl) rfl rfl rfl (OpOk.appendS rfl rfl Try.underlying23 sz80 by80 ze80 rfl rfl (by decide) rfl rfl rfl (.inr ⟨_, 0, rfl⟩) (by (try simp only [List.length_cons, List.length_nil, List.length_append]); omega) (by decide) (fun a189 c190 => ?_))
            refine TZ.v 8 (by kernel_rfl) rfl rfl rfl (OpVal.fieldLoc rfl fo25_3 rfl) rfl rfl ?_
            refine TZ.front 2 rfl rfl ?_
            refine TZ.last 9 (by kernel_rfl) rfl rfl rfl (OpOk.storeSl rfl sz23 rfl rfl rfl rfl rfl ?_)
            refine TZ.done (by kernel_rfl) ?_
            refine S.n ?_
            refine TC.seq ?_
            refine TC.seq ?_
            refine TC.region ?_
            refine TL.v rfl (OpVal.moveI (.inr rfl) rfl) rfl rfl ?_
            refine TL.nil ?_
            refine S.n ?_
            refine TC.block ?_
            refine TC.loopF (α := Nat × Option Addr × Nat) [8, 9, 68, 69, 70, 71, 72, 73, 74, 75, 76, 77, 78, 79, 80, 81, 82, 83, 84, 85, 86, 87, 88, 89, 90, 91, 92, 93, 94, 95, 96, 97, 98, 99, 100, 101, 102, 103, 104, 105, 106, 107, 108, 109, 110, 111, 112, 113, 114, 115, 116, 117] (fun g => [(8, .int .i64 (g.1 : Nat))]) (fun g => [Res.cells gb #[.int .i64 (x.states + y.states), .slice ga1 _ gc1, .slice ga2 _ gc2, .slice g.2.1 (catTo x y g.1).length g.2.2] 25, Res.rowS 80 6 encE (.slice g.2.1 (catTo x y g.1).length g.2.2) (catTo x y g.1), Res.rowS 80 6 encE (.slice a186 (shiftE y.edges x.states).length c187) (shiftE y.edges x.states), Res.cells b5 (nfaA Nfa.zero NfaP.zero) 25, Res.cells b3 (nfaA y q) 25, Res.cells b1 (nfaA x p) 25]) (fun _ => _) (fun g => g.1 ≤ x.edges.length) (fun g => x.edges.length - g.1) ((0, a189, c190)) (by first | exact True.intro | omega | (dsimp only; omega) | (simp; done) | (simp; omega)) (by repeat (first | exact trivial | refine ⟨rfl, ?_⟩)) (by rw [show catTo x y 0 = [] ++ x.edges ++ shiftE y.edges x.states from by rw [catTo_zero, List.nil_append]]; rfl) (by rfl) (fun g1 j1 hg1 => ?_)
            obtain ⟨g1, xa, xc⟩ := g1
            dsimp only
            have hg1 : g1 ≤ x.edges.length := hg1
            have hl2 := catTo_len x y g1 hg1 (by omega) (by omega) (by omega)
            refine TC.seq ?_
            refine TC.seq ?_
            refine TC.region ?_
            refine TL.v rfl (OpVal.moveI (.inl rfl) rfl) rfl rfl ?_
            refine TL.v rfl (OpVal.fieldLoc rfl fo25_3 rfl) rfl rfl ?_
            refine TL.v rfl (OpVal.loadLoc rfl ag23 rfl (i := 5) rfl rfl) rfl rfl ?_
            refine TL.v rfl (OpVal.lenC rfl Try.underlying23 rfl) rfl rfl ?_
            refine TL.v rfl (OpVal.lss rfl rfl rfl) rfl rfl ?_
            refine TL.v rfl (OpVal.moveB (.inl rfl) rfl) rfl rfl ?_
            refine TL.split 73 rfl (fun h191 => ?_) (fun h191 => ?_)
            · try simp only [decide_eq_true_eq, decide_eq_false_iff_not, Bool.not_eq_true', Bool.not_eq_false', Bool.not_eq_eq_eq_not, Bool.not_true, Bool.not_false, Int.not_lt, Int.not_le, Decidable.not_not] at h191
              refine TL.gv rfl rfl rfl rfl rfl (OpVal.fieldLoc rfl fo25_3 rfl) rfl rfl ?_
              refine TL.gv rfl rfl rfl rfl rfl (OpVal.loadLoc rfl ag23 rfl (i := 0) rfl rfl) rfl rfl ?_
              refine TL.gv rfl rfl rfl rfl rfl (OpVal.lenC rfl Try.underlying23 rfl) rfl rfl ?_
              refine TL.gv rfl rfl rfl rfl rfl (OpVal.leq rfl rfl rfl) rfl rfl ?_
              refine TL.v rfl (OpVal.pickTB rfl rfl rfl) rfl rfl ?_
              refine TL.nil ?_
              refine S.n ?_
              refine TC.condD rfl (fun h192 => ?_) (fun h192 => ?_)
              · try simp only [decide_eq_true_eq, decide_eq_false_iff_not, Bool.not_eq_true', Bool.not_eq_false', Bool.not_eq_eq_eq_not, Bool.not_true, Bool.not_false, Int.not_lt, Int.not_le, Decidable.not_not] at h192
                refine TC.skip ?_
                refine S.n ?_
                refine TC.seq ?_
                refine TC.block ?_
                refine TC.seq ?_
                refine TC.draw [] (by kernel_rfl) ?_
                refine TA.takeP 0 rfl (by kernel_rfl) (by kernel_rfl) (by kernel_rfl) rfl (OpVal.fieldLoc rfl fo25_3 rfl) rfl rfl ?_
                refine TA.take 1 rfl (by kernel_rfl) (by kernel_rfl) (by kernel_rfl) (by kernel_rfl) rfl (OpVal.loadLoc rfl ag23 rfl (i := 5) rfl rfl) rfl rfl ?_
                refine TA.takeP 2 rfl (by kernel_rfl) (by kernel_rfl) (by kernel_rfl) rfl (OpVal.moveI (.inl rfl) rfl) rfl rfl ?_
                refine TA.takeP 3 rfl (by kernel_rfl) (by kernel_rfl) (by kernel_rfl) rfl (OpVal.indexN rfl Try.underlying23 sz80 rfl rfl (by first | assumption | exact (RS.rv (by assumption)).sl) (by omega)) rfl rfl ?_
                refine TA.takeP 4 rfl (by kernel_rfl) (by kernel_rfl) (by kernel_rfl) rfl (OpVal.fieldElem rfl fo80_1 rfl (by first | assumption | exact (RS.rv (by assumption)).sl) (by omega)) rfl rfl ?_
                refine TA.take 5 rfl (by kernel_rfl) (by kernel_rfl) (by kernel_rfl) (by kernel_rfl) rfl (OpVal.loadS Arrow.zero rfl ag3 rfl (by assumption) (by omega) (by omega) rfl) rfl rfl ?_
                refine TA.takeP 6 rfl (by kernel_rfl) (by kernel_rfl) (by kernel_rfl) rfl (OpVal.fieldLoc rfl fo25_2 rfl) rfl rfl ?_
                refine TA.take 7 rfl (by kernel_rfl) (by kernel_rfl) (by kernel_rfl) (by kernel_rfl) rfl (OpVal.loadLoc rfl ag22 rfl (i := 5) rfl rfl) rfl rfl ?_
                refine TA.act 8 (by kernel_rfl) rfl rfl (OpOk.callP (in_con _ _ _ _ _ hx.e) rfl rfl pf59 rfl rfl rfl ⟨(fun w h => sees_of (by first | exact Store.le.refl _ | assumption) (fun r hr => hr) w h), ?_⟩)
                refine TA.done (by kernel_rfl) ?_
                refine S.n ?_
                refine TC.cond rfl (fun h193 => ?_) (fun h193 => ?_)
                · try simp only [decide_eq_true_eq, decide_eq_false_iff_not, Bool.not_eq_true', Bool.not_eq_false', Bool.not_eq_eq_eq_not, Bool.not_true, Bool.not_false, Int.not_lt, Int.not_le, Decidable.not_not] at h193
                  refine TC.seq ?_
                  refine TC.region ?_
                  refine TL.v rfl (OpVal.moveI (.inr rfl) rfl) rfl rfl ?_
                  refine TL.nil ?_
                  refine S.n ?_
                  refine TC.block ?_
                  refine TC.loopF (α := Nat × Option Addr × Nat) [9, 90, 91, 92, 93, 94, 95, 96, 97, 98, 99, 100, 101, 102, 103, 104, 105, 106, 107, 108, 109, 110, 111, 112, 113, 114, 115, 116, 117] (fun g => [(9, .int .i64 (g.1 : Nat))]) (fun g => [Res.cells gb #[.int .i64 (x.states + y.states), .slice ga1 _ gc1, .slice ga2 _ gc2, .slice g.2.1 (catTo x y g1 ++ catPut (nth x.edges g1 Arrow.zero) ((shiftL y.starts x.states).take g.1)).length g.2.2] 25, Res.rowS 80 6 encE (.slice g.2.1 (catTo x y g1 ++ catPut (nth x.edges g1 Arrow.zero) ((shiftL y.starts x.states).take g.1)).length g.2.2) (catTo x y g1 ++ catPut (nth x.edges g1 Arrow.zero) ((shiftL y.starts x.states).take g.1)), Res.rowS 80 6 encE (.slice a186 (shiftE y.edges x.states).length c187) (shiftE y.edges x.states), Res.cells b5 (nfaA Nfa.zero NfaP.zero) 25, Res.cells b3 (nfaA y q) 25, Res.cells b1 (nfaA x p) 25]) (fun _ => _) (fun g => g.1 ≤ y.starts.length) (fun g => y.starts.length - g.1) ((0, xa, xc)) (by first | exact True.intro | omega | (dsimp only; omega) | (simp; done) | (simp; omega)) (by repeat (first | exact trivial | refine ⟨rfl, ?_⟩)) (by rw [show catTo x y g1 ++ catPut (nth x.edges g1 Arrow.zero) ((shiftL y.starts x.states).take 0) = catTo x y g1 from List.append_nil _]) (by rfl) (fun g2 j2 hg2 => ?_)
                  obtain ⟨g2, ya, yc⟩ := g2
                  dsimp only
                  have hg2 : g2 ≤ y.starts.length := hg2
                  have hcl := catPut_len (nth x.edges g1 Arrow.zero) ((shiftL y.starts x.states).take g2)
                  have hct : ((shiftL y.starts x.states).take g2).length = min g2 (shiftL y.starts x.states).length := List.length_take
                  refine TC.seq ?_
                  refine TC.seq ?_
                  refine TC.region ?_
                  refine TL.v rfl (OpVal.moveI (.inl rfl) rfl) rfl rfl ?_
                  refine TL.v rfl (OpVal.moveSl (.inl rfl) rfl) rfl rfl ?_
                  refine TL.v rfl (OpVal.lenC rfl Try.underlying22 rfl) rfl rfl ?_
                  refine TL.v rfl (OpVal.lss rfl rfl rfl) rfl rfl ?_
                  refine TL.nil ?_
                  refine S.n ?_
                  refine TC.condD rfl (fun h194 => ?_) (fun h194 => ?_)
                  · try simp only [decide_eq_true_eq, decide_eq_false_iff_not, Bool.not_eq_true', Bool.not_eq_false', Bool.not_eq_eq_eq_not, Bool.not_true, Bool.not_false, Int.not_lt, Int.not_le, Decidable.not_not] at h194
                    refine TC.skip ?_
                    refine S.n ?_
                    refine TC.seq ?_
                    refine TC.block ?_
                    refine TC.draw [20, 21, 22] (by kernel_rfl) ?_
                    refine TA.takeP 0 rfl (by kernel_rfl) (by kernel_rfl) (by kernel_rfl) rfl (OpVal.fieldLoc rfl fo25_3 rfl) rfl rfl ?_
                    refine TA.take 1 rfl (by kernel_rfl) (by kernel_rfl) (by kernel_rfl) (by kernel_rfl) rfl (OpVal.loadLoc rfl ag23 rfl (i := 0) rfl rfl) rfl rfl ?_
                    refine TA.takeP 2 rfl (by kernel_rfl) (by kernel_rfl) (by kernel_rfl) rfl (OpVal.fieldLoc rfl fo25_3 rfl) rfl rfl ?_
                    refine TA.take 3 rfl (by kernel_rfl) (by kernel_rfl) (by kernel_rfl) (by kernel_rfl) rfl (OpVal.loadLoc rfl ag23 rfl (i := 5) rfl rfl) rfl rfl ?_
                    refine TA.takeP 4 rfl (by kernel_rfl) (by kernel_rfl) (by kernel_rfl) rfl (OpVal.moveI (.inl rfl) rfl) rfl rfl ?_
                    refine TA.takeP 5 rfl (by kernel_rfl) (by kernel_rfl) (by kernel_rfl) rfl (OpVal.indexN rfl Try.underlying23 sz80 rfl rfl (by first | assumption | exact (RS.rv (by assumption)).sl) (by omega)) rfl rfl ?_
                    refine TA.takeP 6 rfl (by kernel_rfl) (by kernel_rfl) (by kernel_rfl) rfl (OpVal.fieldElem rfl fo80_0 rfl (by first | assumption | exact (RS.rv (by assumption)).sl) (by omega)) rfl rfl ?_
                    refine TA.take 7 rfl (by kernel_rfl) (by kernel_rfl) (by kernel_rfl) (by kernel_rfl) rfl (OpVal.loadS Arrow.zero rfl ag3 rfl (by assumption) (by omega) (by omega) rfl) rfl rfl ?_
                    refine TA.takeP 8 rfl (by kernel_rfl) (by kernel_rfl) (by kernel_rfl) rfl (OpVal.moveSl (.inl rfl) rfl) rfl rfl ?_
                    refine TA.takeP 9 rfl (by kernel_rfl) (by kernel_rfl) (by kernel_rfl) rfl (OpVal.moveI (.inl rfl) rfl) rfl rfl ?_
                    refine TA.takeP 10 rfl (by kernel_rfl) (by kernel_rfl) (by kernel_rfl) rfl (OpVal.indexN rfl Try.underlying22 sz3 rfl rfl (by first | assumption | exact (RS.rv (by assumption)).sl) (by omega)) rfl rfl ?_
                    refine TA.take 11 rfl (by kernel_rfl) (by kernel_rfl) (by kernel_rfl) (by kernel_rfl) rfl (OpVal.loadS1 (0 : Int) rfl ag3 rfl (by assumption) (by omega) rfl) rfl rfl ?_
                    refine TA.takeP 12 rfl (by kernel_rfl) (by kernel_rfl) (by kernel_rfl) rfl (OpVal.fieldLoc rfl fo25_3 rfl) rfl rfl ?_
                    refine TA.take 13 rfl (by kernel_rfl) (by kernel_rfl) (by kernel_rfl) (by kernel_rfl) rfl (OpVal.loadLoc rfl ag23 rfl (i := 5) rfl rfl) rfl rfl ?_
                    refine TA.takeP 14 rfl (by kernel_rfl) (by kernel_rfl) (by kernel_rfl) rfl (OpVal.moveI (.inl rfl) rfl) rfl rfl ?_
                    refine TA.takeP 15 rfl (by kernel_rfl) (by kernel_rfl) (by kernel_rfl) rfl (OpVal.indexN rfl Try.underlying23 sz80 rfl rfl (by first | assumption | exact (RS.rv (by assumption)).sl) (by omega)) rfl rfl ?_
                    refine TA.takeP 16 rfl (by kernel_rfl) (by kernel_rfl) (by kernel_rfl) rfl (OpVal.fieldElem rfl fo80_2 rfl (by first | assumption | exact (RS.rv (by assumption)).sl) (by omega)) rfl rfl ?_
                    refine TA.take 17 rfl (by kernel_rfl) (by kernel_rfl) (by kernel_rfl) (by kernel_rfl) rfl (OpVal.loadSub Arrow.zero rfl ag28 sz28 rfl (by assumption) (by omega) (by omega) (by omega) rfl rfl) rfl rfl ?_
                    refine TA.takeP 18 rfl (by kernel_rfl) (by kernel_rfl) (by kernel_rfl) rfl (OpVal.buildL rfl pl80 ze80 rfl) rfl rfl ?_
                    refine TA.act 19 (by kernel_rfl) rfl rfl (OpOk.lit (enc := encE) [⟨(nth x.edges g1 Arrow.zero).frm, nth (shiftL y.starts x.states) g2 0, (nth x.edges g1 Arrow.zero).set⟩] rfl Try.underlying23 sz80 ze80 rfl rfl rfl encE_len (by decide) (by decide) Arrow.zero rfl (by decide) rfl (by decide) encE_one (fun a195 c196 => ⟨(fun w h => sees_of (by first | exact Store.le.refl _ | assumption) (fun r hr => (List.mem_cons_of_mem _ hr)) w h), ?_⟩))
                    refine TA.front 2 rfl rfl ?_
                    refine TA.last 20 (by kernel_rfl) rfl rfl rfl (OpOk.appendS rfl rfl Try.underlying23 sz80 by80 ze80 rfl rfl (by decide) rfl rfl rfl (.inr ⟨_, 0, rfl⟩) (by (try simp only [List.length_cons, List.length_nil, List.length_append]); omega) (by decide) (fun a198 c199 => ?_))
                    refine TZ.v 21 (by kernel_rfl) rfl rfl rfl (OpVal.fieldLoc rfl fo25_3 rfl) rfl rfl ?_
                    refine TZ.front 2 rfl rfl ?_
                    refine TZ.last 22 (by kernel_rfl) rfl rfl rfl (OpOk.storeSl rfl sz23 rfl rfl rfl rfl rfl ?_)
                    refine TZ.done (by kernel_rfl) ?_
                    refine B.n ?_
                    refine S.n ?_
                    refine TC.region ?_
                    refine TL.v rfl (OpVal.moveI (.inl rfl) rfl) rfl rfl ?_
                    refine TL.v rfl (OpVal.succ rfl rfl rfl (by omega)) rfl rfl ?_
                    refine TL.v rfl (OpVal.moveI (.inr rfl) rfl) rfl rfl ?_
                    refine TL.front 6 rfl rfl ?_
                    refine TL.front 6 rfl rfl ?_
                    refine TL.front 6 rfl rfl ?_
                    refine TL.front 6 rfl rfl ?_
                    refine TL.front 5 rfl rfl ?_
                    refine TL.front 5 rfl rfl ?_
                    refine TL.takeN 6 rfl ?_
                    refine TL.nil ?_
                    refine S.n ?_
                    -- leaf 21 next [h7: t13=False; h8: False; h40: False; h133: False; h191: t73=True; h192: True; h193: True; h194: True] H=['q38', 'q39', 'q188', 'q6', 'q4', 'q2']
                    refine ⟨by repeat (first | exact Agr.mask | refine Agr.upd rfl ?_ | refine Agr.maskIn rfl ?_), (g2 + 1, a198, c199), ?_, ?_, ?_, ?_, ?_⟩
                    · show y.starts.length - (g2 + 1) < y.starts.length - g2; omega
                    · show g2 + 1 ≤ y.starts.length; omega
                    · repeat (first | exact trivial | refine ⟨rfl, ?_⟩)
                    · show _ = [Res.cells _ #[_, _, _, .slice _ (catTo x y g1 ++ catPut (nth x.edges g1 Arrow.zero) ((shiftL y.starts x.states).take (g2 + 1))).length _] _, Res.rowS _ _ _ (.slice _ (catTo x y g1 ++ catPut (nth x.edges g1 Arrow.zero) ((shiftL y.starts x.states).take (g2 + 1))).length _) (catTo x y g1 ++ catPut (nth x.edges g1 Arrow.zero) ((shiftL y.starts x.states).take (g2 + 1))), _, _, _, _]
                      rw [catPut_snoc (by omega), ← List.append_assoc]; rfl
                    · rfl
                  · try simp only [decide_eq_true_eq, decide_eq_false_iff_not, Bool.not_eq_true', Bool.not_eq_false', Bool.not_eq_eq_eq_not, Bool.not_true, Bool.not_false, Int.not_lt, Int.not_le, Decidable.not_not] at h194
                    refine TC.exit ?_
                    refine S.x ?_
                    refine S.x ?_
                    refine TC.exitHere ?_
                    refine B.n ?_
                    refine S.n ?_
                    refine TC.region ?_
                    refine TL.v rfl (OpVal.moveI (.inl rfl) rfl) rfl rfl ?_
                    refine TL.v rfl (OpVal.succ rfl rfl rfl (by omega)) rfl rfl ?_
                    refine TL.v rfl (OpVal.moveI (.inr rfl) rfl) rfl rfl ?_
                    refine TL.nil ?_
                    refine S.n ?_
                    -- leaf 22 next [h7: t13=False; h8: False; h40: False; h133: False; h191: t73=True; h192: True; h193: True; h194: False] H=['q38', 'q39', 'q188', 'q6', 'q4', 'q2']
                    have ht : (shiftL y.starts x.states).take g2 = shiftL y.starts x.states := List.take_of_length_le (by omega)
                    refine ⟨by repeat (first | exact Agr.mask | refine Agr.upd rfl ?_ | refine Agr.maskIn rfl ?_), (g1 + 1, ya, yc), ?_, ?_, ?_, ?_, ?_⟩
                    · show x.edges.length - (g1 + 1) < x.edges.length - g1; omega
                    · show g1 + 1 ≤ x.edges.length; omega
                    · repeat (first | exact trivial | refine ⟨rfl, ?_⟩)
                    · show _ = [Res.cells _ #[_, _, _, .slice _ (catTo x y (g1 + 1)).length _] _, Res.rowS _ _ _ (.slice _ (catTo x y (g1 + 1)).length _) (catTo x y (g1 + 1)), _, _, _, _]
                      rw [catC_t (by omega) h193, ht] <;> rfl
                    · rfl
                · try simp only [decide_eq_true_eq, decide_eq_false_iff_not, Bool.not_eq_true', Bool.not_eq_false', Bool.not_eq_eq_eq_not, Bool.not_true, Bool.not_false, Int.not_lt, Int.not_le, Decidable.not_not] at h193
                  refine TC.skip ?_
                  refine B.n ?_
                  refine S.n ?_
                  refine TC.region ?_
                  refine TL.v rfl (OpVal.moveI (.inl rfl) rfl) rfl rfl ?_
                  refine TL.v rfl (OpVal.succ rfl rfl rfl (by omega)) rfl rfl ?_
                  refine TL.v rfl (OpVal.moveI (.inr rfl) rfl) rfl rfl ?_
                  refine TL.nil ?_
                  refine S.n ?_
                  -- leaf 23 next [h7: t13=False; h8: False; h40: False; h133: False; h191: t73=True; h192: True; h193: False] H=['q38', 'q39', 'q188', 'q6', 'q4', 'q2']
                  refine ⟨by repeat (first | exact Agr.mask | refine Agr.upd rfl ?_ | refine Agr.maskIn rfl ?_), (g1 + 1, xa, xc), ?_, ?_, ?_, ?_, ?_⟩
                  · show x.edges.length - (g1 + 1) < x.edges.length - g1; omega
                  · show g1 + 1 ≤ x.edges.length; omega
                  · repeat (first | exact trivial | refine ⟨rfl, ?_⟩)
                  · show _ = [Res.cells _ #[_, _, _, .slice _ (catTo x y (g1 + 1)).length _] _, Res.rowS _ _ _ (.slice _ (catTo x y (g1 + 1)).length _) (catTo x y (g1 + 1)), _, _, _, _]
                    rw [catC_f (by omega) h193] <;> rfl
                  · rfl
              · try simp only [decide_eq_true_eq, decide_eq_false_iff_not, Bool.not_eq_true', Bool.not_eq_false', Bool.not_eq_eq_eq_not, Bool.not_true, Bool.not_false, Int.not_lt, Int.not_le, Decidable.not_not] at h192
                refine TC.exit ?_
                refine S.x ?_
                refine S.x ?_
                refine TC.exitHere ?_
                refine S.n ?_
                refine TC.seq ?_
                refine TC.front 1 rfl rfl ?_
                refine TC.sealS encE_len (fun τ202 hle201 hr200 => ?_)
                replace hx := hx.mono hle201
                replace hy := hy.mono hle201
                replace hd := hd.mono hle201
                replace hr12 := hr12.mono hle201
                replace hr178 := hr178.mono hle201
                replace hr181 := hr181.mono hle201
                refine TC.front 1 rfl rfl ?_
                refine TC.sealS encE_len (fun τ205 hle204 hr203 => ?_)
                replace hx := hx.mono hle204
                replace hy := hy.mono hle204
                replace hd := hd.mono hle204
                replace hr12 := hr12.mono hle204
                replace hr178 := hr178.mono hle204
                replace hr181 := hr181.mono hle204
                replace hr200 := hr200.mono hle204
                refine TC.region ?_
                refine TL.v rfl (OpVal.loadAll rfl ag25 sz25 rfl (i := 0) rfl rfl) rfl rfl ?_
                refine TL.op rfl (OpOk.callN (end_con _ ⟨x.states + y.states, _, _, catTo x y g1⟩ ⟨ga1, gc1, ga2, gc2, xa, xc⟩ ⟨hr178, hr181, hr200, catTo_ok hx.ok hy.ok _⟩) rfl rfl pf71 rfl rfl rfl (fun pe τ207 hle206 he => ?_))
                replace hx := hx.mono hle206
                replace hy := hy.mono hle206
                replace hd := hd.mono hle206
                replace hr12 := hr12.mono hle206
                replace hr178 := hr178.mono hle206
                replace hr181 := hr181.mono hle206
                replace hr200 := hr200.mono hle206
                replace hr203 := hr203.mono hle206
                refine TL.v rfl (OpVal.extract rfl rfl rfl) rfl rfl ?_
                refine TL.v rfl (OpVal.extract rfl rfl rfl) rfl rfl ?_
                refine TL.front 1 rfl rfl ?_
                refine TL.op rfl (OpOk.storeAll rfl sz25 rfl rfl rfl rfl rfl rfl ?_)
                refine TL.v rfl (OpVal.moveI (.inr rfl) rfl) rfl rfl ?_
                refine TL.nil ?_
                refine S.n ?_
                refine TC.ret ?_
                -- leaf 24 ret [h7: t13=False; h8: False; h40: False; h133: False; h191: t73=True; h192: False] H=['q6', 'q38', 'q4', 'q2']
                obtain ⟨e1, e2⟩ := cat_stop hcx hcy hg1 (by omega) _ _
                rw [e1, e2]
                exact retNfa (p := pe) 0 rfl ag25 sz25 rfl rfl rfl rfl he
            · try simp only [decide_eq_true_eq, decide_eq_false_iff_not, Bool.not_eq_true', Bool.not_eq_false', Bool.not_eq_eq_eq_not, Bool.not_true, Bool.not_false, Int.not_lt, Int.not_le, Decidable.not_not] at h191
              refine TL.goff rfl rfl rfl rfl rfl rfl rfl rfl ?_
              refine TL.goff rfl rfl rfl rfl rfl rfl rfl rfl ?_
              refine TL.goff rfl rfl rfl rfl rfl rfl rfl rfl ?_
              refine TL.goff rfl rfl rfl rfl rfl rfl rfl rfl ?_
              refine TL.v rfl (OpVal.pickFB rfl rfl rfl) rfl rfl ?_
              refine TL.nil ?_
              refine S.n ?_
              refine TC.cond rfl (fun h => Bool.noConfusion h) (fun _ => ?_)
              refine TC.exit ?_
              refine S.x ?_
              refine S.x ?_
              refine TC.exitHere ?_
              refine S.n ?_
              refine TC.seq ?_
              refine TC.front 1 rfl rfl ?_
              refine TC.sealS encE_len (fun τ210 hle209 hr208 => ?_)
              replace hx := hx.mono hle209
              replace hy := hy.mono hle209
              replace hd := hd.mono hle209
              replace hr12 := hr12.mono hle209
              replace hr178 := hr178.mono hle209
              replace hr181 := hr181.mono hle209
              refine TC.front 1 rfl rfl ?_
              refine TC.sealS encE_len (fun τ213 hle212 hr211 => ?_)
              replace hx := hx.mono hle212
              replace hy := hy.mono hle212
              replace hd := hd.mono hle212
              replace hr12 := hr12.mono hle212
              replace hr178 := hr178.mono hle212
              replace hr181 := hr181.mono hle212
              replace hr208 := hr208.mono hle212
              refine TC.region ?_
              refine TL.v rfl (OpVal.loadAll rfl ag25 sz25 rfl (i := 0) rfl rfl) rfl rfl ?_
              refine TL.op rfl (OpOk.callN (end_con _ ⟨x.states + y.states, _, _, catTo x y g1⟩ ⟨ga1, gc1, ga2, gc2, xa, xc⟩ ⟨hr178, hr181, hr208, catTo_ok hx.ok hy.ok _⟩) rfl rfl pf71 rfl rfl rfl (fun pe τ215 hle214 he => ?_))
              replace hx := hx.mono hle214
              replace hy := hy.mono hle214
              replace hd := hd.mono hle214
              replace hr12 := hr12.mono hle214
              replace hr178 := hr178.mono hle214
              replace hr181 := hr181.mono hle214
              replace hr208 := hr208.mono hle214
              replace hr211 := hr211.mono hle214
              refine TL.v rfl (OpVal.extract rfl rfl rfl) rfl rfl ?_
              refine TL.v rfl (OpVal.extract rfl rfl rfl) rfl rfl ?_
              refine TL.front 1 rfl rfl ?_
              refine TL.op rfl (OpOk.storeAll rfl sz25 rfl rfl rfl rfl rfl rfl ?_)
              refine TL.v rfl (OpVal.moveI (.inr rfl) rfl) rfl rfl ?_
              refine TL.nil ?_
              refine S.n ?_
              refine TC.ret ?_
              -- leaf 25 ret [h7: t13=False; h8: False; h40: False; h133: False; h191: t73=False] H=['q6', 'q38', 'q4', 'q2']
              obtain rfl : g1 = x.edges.length := by omega
              obtain ⟨e1, e2⟩ := cat_all hcx hcy (show catS x y = x.starts ++ [] from (if_neg (by rw [h40]; exact Bool.false_ne_true)).trans (List.append_nil _).symm) (show catD x y = shiftL y.ends x.states from if_neg (by rw [h133]; exact Bool.false_ne_true))
              rw [e1, e2]
              exact retNfa (p := pe) 0 rfl ag25 sz25 rfl rfl rfl rfl he

end Go.Proofs.Ytcidppnlhhkhhaa
end

/- Ref5 -/
section
/- Contracts of the reference of nfa, part five: one or the other. -/
set_option linter.unusedVariables false
set_option linter.unusedSimpArgs false
namespace Go.Proofs.Ytcidppnlhhkhhaa
open Go Go.E
set_option maxRecDepth 100000

/-- Two lists behind one another, the second one taken. -/
theorem rbotho_con (σ : Store) (a : Option Addr) (c : Nat) (l : List Int) (a' : Option Addr) (c' : Nat) (l' : List Int) (hl : RS σ 1 Go.E.encI (.slice a l.length c) l) (hsz : l.length ≤ 1000000000000) (hsz' : l'.length ≤ 1000000000000) :
    Con Try.prog 68 #[.slice a l.length c, .slice a' l'.length c'] σ [Res.rowS 3 1 Go.E.encI (.slice a' l'.length c') l'] (RowP 3 1 Go.E.encI (l ++ l') σ) := by
  refine Con.mk (n := 13) Try.func68 rfl rfl rfl (fun w0 => ?_)
  refine TC.seq ?_
  refine TC.region ?_
  refine TL.v rfl (OpVal.moveSl (.inr rfl) rfl) rfl rfl ?_
  refine TL.nil ?_
  refine S.n ?_
  refine TC.seq ?_
  refine TC.region ?_
  refine TL.v rfl (OpVal.moveSl (.inr rfl) rfl) rfl rfl ?_
  refine TL.nilS 3 1 Go.E.encI ?_
  refine TL.nil ?_
  refine S.n ?_
  refine TC.seq ?_
  refine TC.region ?_
  refine TL.v rfl (OpVal.moveSl (.inl rfl) rfl) rfl rfl ?_
  refine TL.v rfl (OpVal.moveSl (.inl rfl) rfl) rfl rfl ?_
  refine TL.op rfl (OpOk.appendS rfl rfl Try.underlying22 sz3 by3 ze3 rfl rfl (by decide) rfl rfl rfl (.inl (by assumption)) (by (try simp only [List.length_cons, List.length_nil, List.length_append]); omega) (by decide) (fun a2 c3 => ?_))
  refine TL.v rfl (OpVal.moveSl (.inr rfl) rfl) rfl rfl ?_
  refine TL.nil ?_
  refine S.n ?_
  refine TC.seq ?_
  refine TC.region ?_
  refine TL.v rfl (OpVal.moveSl (.inl rfl) rfl) rfl rfl ?_
  refine TL.v rfl (OpVal.moveSl (.inl rfl) rfl) rfl rfl ?_
  refine TL.op rfl (OpOk.appendS rfl rfl Try.underlying22 sz3 by3 ze3 rfl rfl (by decide) rfl rfl rfl (.inr ⟨_, 0, rfl⟩) (by (try simp only [List.length_cons, List.length_nil, List.length_append]); omega) (by decide) (fun a4 c5 => ?_))
  refine TL.v rfl (OpVal.moveSl (.inr rfl) rfl) rfl rfl ?_
  refine TL.nil ?_
  refine S.n ?_
  refine TC.seq ?_
  refine TC.region ?_
  refine TL.v rfl (OpVal.moveSl (.inl rfl) rfl) rfl rfl ?_
  refine TL.v rfl (OpVal.moveSl (.inr rfl) rfl) rfl rfl ?_
  refine TL.nil ?_
  refine S.n ?_
  refine TC.ret ?_
  -- leaf 1 ret [] H=['q1', 'r0']
  exact ret1R rfl rfl

def altE (x y : Nfa) : List Arrow := x.edges ++ shiftE y.edges x.states
def altN (x y : Nfa) : Nfa := ⟨x.states + y.states, x.starts ++ shiftL y.starts x.states, x.ends ++ shiftL y.ends x.states, altE x y⟩
def altF (x y : Nfa) : Bool := fitB (x.states + y.states) ((x.edges.length : Int) + (y.edges.length : Int))
def altR (x y : Nfa) : Nfa := if checkB x = true ∧ checkB y = true then if altF x y = true then altN x y else Nfa.zero else Nfa.zero
def altX (x y : Nfa) : Int := if checkB x = true ∧ checkB y = true then if altF x y = true then 0 else 2 else 1
theorem altE_ok {x y : Nfa} (h : ∀ u ∈ x.edges, u.set.ok) (h' : ∀ u ∈ y.edges, u.set.ok) : ∀ u ∈ altE x y, u.set.ok := by
  intro u hu
  simp only [altE, List.mem_append] at hu
  rcases hu with hu | hu
  · exact h u hu
  · exact shiftE_ok h' _ u hu
theorem alt_end {x y : Nfa} (hx : checkB x = true) (hy : checkB y = true) : altR x y = endR (altN x y) ∧ altX x y = endX (altN x y) := by
  have f : altF x y = fitB (altN x y).states (altN x y).edges.length := by
    show altF x y = fitB (x.states + y.states) (altE x y).length
    rw [altF, altE, List.length_append, shiftE_len, Int.natCast_add]
  exact ⟨by rw [altR, if_pos ⟨hx, hy⟩, f] <;> rfl, by rw [altX, if_pos ⟨hx, hy⟩, f] <;> rfl⟩

set_option maxHeartbeats 4000000 in
theorem ralt_con (σ : Store) (x y : Nfa) (p q : NfaP) (hx : RNfa σ x p) (hy : RNfa σ y q) : Con Try.prog 30 #[nfaV x p, nfaV y q] σ [] (NfaR (altR x y) (altX x y)) := by
  have hd := hx.d
  refine Con.mk (n := 57) Try.func30 rfl rfl rfl (fun w0 => ?_)
  refine TC.seq ?_
  refine TC.region ?_
  refine TL.op rfl (OpOk.boxA rfl rfl rfl rfl (fun b1 => ?_))
  refine TL.op rfl (OpOk.boxA rfl rfl rfl rfl (fun b3 => ?_))
  refine TL.op rfl (OpOk.alloc rfl ze25 rfl rfl (fun b5 => ?_))
  refine TL.v rfl (OpVal.moveI (.inr rfl) rfl) rfl rfl ?_
  refine TL.nil ?_
  refine S.n ?_
  refine TC.seq ?_
  refine TC.seq ?_
  refine TC.region ?_
  refine TL.v rfl (OpVal.loadAll rfl ag25 sz25 rfl (i := 2) rfl rfl) rfl rfl ?_
  refine TL.op rfl (OpOk.callP (right_con _ _ _ (by first | exact hx | exact hy)) rfl rfl pf57 rfl rfl rfl ?_)
  refine TL.v rfl (OpVal.not rfl rfl) rfl rfl ?_
  refine TL.v rfl (OpVal.moveB (.inl rfl) rfl) rfl rfl ?_
  refine TL.split 10 rfl (fun h7 => ?_) (fun h7 => ?_)
  · try simp only [decide_eq_true_eq, decide_eq_false_iff_not, Bool.not_eq_true', Bool.not_eq_false', Bool.not_eq_eq_eq_not, Bool.not_true, Bool.not_false, Int.not_lt, Int.not_le, Decidable.not_not] at h7
    refine TL.goff rfl rfl rfl rfl rfl rfl rfl rfl ?_
    refine TL.goff rfl rfl rfl rfl rfl rfl rfl rfl ?_
    refine TL.goff rfl rfl rfl rfl rfl rfl rfl rfl ?_
    refine TL.v rfl (OpVal.pickTB rfl rfl rfl) rfl rfl ?_
    refine TL.nil ?_
    refine S.n ?_
    refine TC.cond rfl (fun _ => ?_) (fun h => Bool.noConfusion h)
    refine TC.seq ?_
    refine TC.region ?_
    refine TL.v rfl (OpVal.buildL rfl pl25 ze25 rfl) rfl rfl ?_
    refine TL.op rfl (OpOk.storeAll rfl sz25 rfl rfl rfl rfl rfl rfl ?_)
    refine TL.v rfl (OpVal.moveI (.inr rfl) rfl) rfl rfl ?_
    refine TL.nil ?_
    refine S.n ?_
    refine TC.ret ?_
    refine S.r ?_
    -- leaf 1 ret [h7: t10=True] H=['q6', 'q4', 'q2']
    have hc : ¬ (checkB x = true ∧ checkB y = true) := fun h => by rw [h.1] at h7; cases h7
    simp only [altR, altX, if_neg hc]
    exact retNfa (p := NfaP.zero) 0 rfl ag25 sz25 rfl rfl rfl rfl (RNfa.zero _)
  · try simp only [decide_eq_true_eq, decide_eq_false_iff_not, Bool.not_eq_true', Bool.not_eq_false', Bool.not_eq_eq_eq_not, Bool.not_true, Bool.not_false, Int.not_lt, Int.not_le, Decidable.not_not] at h7
    refine TL.gv rfl rfl rfl rfl rfl (OpVal.loadAll rfl ag25 sz25 rfl (i := 1) rfl rfl) rfl rfl ?_
    refine TL.gon rfl rfl rfl rfl rfl (OpOk.callP (right_con _ _ _ (by first | exact hx | exact hy)) rfl rfl pf57 rfl rfl rfl ?_)
    refine TL.gv rfl rfl rfl rfl rfl (OpVal.not rfl rfl) rfl rfl ?_
    refine TL.v rfl (OpVal.pickFB rfl rfl rfl) rfl rfl ?_
    refine TL.nil ?_
    refine S.n ?_
    refine TC.cond rfl (fun h8 => ?_) (fun h8 => ?_)
    · try simp only [decide_eq_true_eq, decide_eq_false_iff_not, Bool.not_eq_true', Bool.not_eq_false', Bool.not_eq_eq_eq_not, Bool.not_true, Bool.not_false, Int.not_lt, Int.not_le, Decidable.not_not] at h8
      refine TC.seq ?_
      refine TC.region ?_
      refine TL.v rfl (OpVal.buildL rfl pl25 ze25 rfl) rfl rfl ?_
      refine TL.op rfl (OpOk.storeAll rfl sz25 rfl rfl rfl rfl rfl rfl ?_)
      refine TL.v rfl (OpVal.moveI (.inr rfl) rfl) rfl rfl ?_
      refine TL.nil ?_
      refine S.n ?_
      refine TC.ret ?_
      refine S.r ?_
      -- leaf 2 ret [h7: t10=False; h8: True] H=['q6', 'q4', 'q2']
      have hc : ¬ (checkB x = true ∧ checkB y = true) := fun h => by rw [h.2] at h8; cases h8
      simp only [altR, altX, if_neg hc]
      exact retNfa (p := NfaP.zero) 0 rfl ag25 sz25 rfl rfl rfl rfl (RNfa.zero _)
    · try simp only [decide_eq_true_eq, decide_eq_false_iff_not, Bool.not_eq_true', Bool.not_eq_false', Bool.not_eq_eq_eq_not, Bool.not_true, Bool.not_false, Int.not_lt, Int.not_le, Decidable.not_not] at h8
      refine TC.skip ?_
      refine S.n ?_
      have hcx : checkB x = true := by assumption
      have hcy : checkB y = true := by assumption
      obtain ⟨k1, k2, k3, k4, k5, k6⟩ := checkB_spec hcx
      obtain ⟨l1, l2, l3, l4, l5, l6⟩ := checkB_spec hcy
      have lx := checkB_len hcx
      have ly := checkB_len hcy
      have hl3 := shiftL_len y.starts x.states
      have hl4 := shiftL_len y.ends x.states
      have hl5 := shiftE_len y.edges x.states
      refine TC.cutF (α := Nat × Option Addr × Nat × Option Addr × Nat) [6, 16, 17, 18, 19, 20, 21, 22, 23, 24, 25, 26, 27, 28, 29, 30, 31, 32, 33, 34, 35, 36, 37] (fun g => [(6, loc g.1 0)]) (fun g => [Res.cells g.1 #[.int .i64 (x.states + y.states), .slice g.2.1 (x.starts ++ shiftL y.starts x.states).length g.2.2.1, .slice g.2.2.2.1 (x.ends ++ shiftL y.ends x.states).length g.2.2.2.2, .slice none 0 0] 25, Res.rowS 3 1 Go.E.encI (.slice g.2.1 (x.starts ++ shiftL y.starts x.states).length g.2.2.1) (x.starts ++ shiftL y.starts x.states), Res.rowS 3 1 Go.E.encI (.slice g.2.2.2.1 (x.ends ++ shiftL y.ends x.states).length g.2.2.2.2) (x.ends ++ shiftL y.ends x.states), Res.cells b5 (nfaA Nfa.zero NfaP.zero) 25, Res.cells b3 (nfaA y q) 25, Res.cells b1 (nfaA x p) 25]) (fun _ => σ) (fun _ => True) ?_ (fun g j hg => ?_)
      · skip
        refine TC.draw [23] (by kernel_rfl) ?_
        refine TA.takeP 0 rfl (by kernel_rfl) (by kernel_rfl) (by kernel_rfl) rfl (OpVal.fieldLoc rfl fo25_0 rfl) rfl rfl ?_
        refine TA.take 1 rfl (by kernel_rfl) (by kernel_rfl) (by kernel_rfl) (by kernel_rfl) rfl (OpVal.loadLoc rfl ag3 rfl (i := 2) rfl rfl) rfl rfl ?_
        refine TA.takeP 2 rfl (by kernel_rfl) (by kernel_rfl) (by kernel_rfl) rfl (OpVal.fieldLoc rfl fo25_0 rfl) rfl rfl ?_
        refine TA.take 3 rfl (by kernel_rfl) (by kernel_rfl) (by kernel_rfl) (by kernel_rfl) rfl (OpVal.loadLoc rfl ag3 rfl (i := 1) rfl rfl) rfl rfl ?_
        refine TA.takeP 4 rfl (by kernel_rfl) (by kernel_rfl) (by kernel_rfl) rfl (OpVal.add rfl rfl rfl (by omega) (by omega)) rfl rfl ?_
        refine TA.takeP 5 rfl (by kernel_rfl) (by kernel_rfl) (by kernel_rfl) rfl (OpVal.fieldLoc rfl fo25_1 rfl) rfl rfl ?_
        refine TA.take 6 rfl (by kernel_rfl) (by kernel_rfl) (by kernel_rfl) (by kernel_rfl) rfl (OpVal.loadLoc rfl ag22 rfl (i := 2) rfl rfl) rfl rfl ?_
        refine TA.takeP 7 rfl (by kernel_rfl) (by kernel_rfl) (by kernel_rfl) rfl (OpVal.fieldLoc rfl fo25_1 rfl) rfl rfl ?_
        refine TA.take 8 rfl (by kernel_rfl) (by kernel_rfl) (by kernel_rfl) (by kernel_rfl) rfl (OpVal.loadLoc rfl ag22 rfl (i := 1) rfl rfl) rfl rfl ?_
        refine TA.takeP 9 rfl (by kernel_rfl) (by kernel_rfl) (by kernel_rfl) rfl (OpVal.fieldLoc rfl fo25_0 rfl) rfl rfl ?_
        refine TA.take 10 rfl (by kernel_rfl) (by kernel_rfl) (by kernel_rfl) (by kernel_rfl) rfl (OpVal.loadLoc rfl ag3 rfl (i := 2) rfl rfl) rfl rfl ?_
        refine TA.takeP 13 rfl (by kernel_rfl) (by kernel_rfl) (by kernel_rfl) rfl (OpVal.fieldLoc rfl fo25_2 rfl) rfl rfl ?_
        refine TA.take 14 rfl (by kernel_rfl) (by kernel_rfl) (by kernel_rfl) (by kernel_rfl) rfl (OpVal.loadLoc rfl ag22 rfl (i := 2) rfl rfl) rfl rfl ?_
        refine TA.takeP 15 rfl (by kernel_rfl) (by kernel_rfl) (by kernel_rfl) rfl (OpVal.fieldLoc rfl fo25_2 rfl) rfl rfl ?_
        refine TA.take 16 rfl (by kernel_rfl) (by kernel_rfl) (by kernel_rfl) (by kernel_rfl) rfl (OpVal.loadLoc rfl ag22 rfl (i := 1) rfl rfl) rfl rfl ?_
        refine TA.takeP 17 rfl (by kernel_rfl) (by kernel_rfl) (by kernel_rfl) rfl (OpVal.fieldLoc rfl fo25_0 rfl) rfl rfl ?_
        refine TA.take 18 rfl (by kernel_rfl) (by kernel_rfl) (by kernel_rfl) (by kernel_rfl) rfl (OpVal.loadLoc rfl ag3 rfl (i := 2) rfl rfl) rfl rfl ?_
        refine TA.act2 11 22 (by kernel_rfl) rfl rfl rfl rfl (OpOk.callR (rshift_con _ _ _ _ _ (by first | exact hy.s | exact hy.e) ⟨k1, by omega⟩ (fun u hu => by first | (have := l4 u hu; omega) | (have := l5 u hu; omega)) (by omega)) rfl rfl pf67 rfl rfl rfl (fun a9 c10 => ⟨(fun w h => sees_of (by first | exact Store.le.refl _ | assumption) (fun r hr => (List.mem_cons_of_mem _ hr)) w h), ?_⟩)) (OpOk.alloc rfl ze25 rfl rfl (fun b12 => ⟨(fun w h => sees_of (by first | exact Store.le.refl _ | assumption) (fun r hr => (List.mem_cons_of_mem _ hr)) w h), ?_⟩))
        · skip
          refine TA.actN [12, 22] (by kernel_rfl) (And.intro (Exists.intro _ (And.intro rfl (And.intro rfl (OpOk.callRT (rbotho_con _ _ _ _ _ _ _ (by first | exact hx.s | exact hx.e) (by omega) (by omega)) rfl rfl pf68 rfl rfl rfl rfl (fun a14 c15 => ⟨(fun w h => sees_of (by first | exact Store.le.refl _ | assumption) (fun r hr => (List.mem_cons_of_mem _ hr)) w h), ?_⟩))))) (And.intro (Exists.intro _ (And.intro rfl (And.intro rfl (OpOk.alloc rfl ze25 rfl rfl (fun b17 => ⟨(fun w h => sees_of (by first | exact Store.le.refl _ | assumption) (fun r hr => (List.mem_cons_of_mem _ (List.mem_cons_of_mem _ hr))) w h), ?_⟩))))) (True.intro)))
          · skip
            refine TA.act2 19 22 (by kernel_rfl) rfl rfl rfl rfl (OpOk.callR (rshift_con _ _ _ _ _ (by first | exact hy.s | exact hy.e) ⟨k1, by omega⟩ (fun u hu => by first | (have := l4 u hu; omega) | (have := l5 u hu; omega)) (by omega)) rfl rfl pf67 rfl rfl rfl (fun a19 c20 => ⟨(fun w h => sees_of (by first | exact Store.le.refl _ | assumption) (fun r hr => (List.mem_cons_of_mem _ (List.mem_cons_of_mem _ hr))) w h), ?_⟩)) (OpOk.alloc rfl ze25 rfl rfl (fun b22 => ⟨(fun w h => sees_of (by first | exact Store.le.refl _ | assumption) (fun r hr => (List.mem_cons_of_mem _ (List.mem_cons_of_mem _ hr))) w h), ?_⟩))
            · skip
              refine TA.actN [20, 22] (by kernel_rfl) (And.intro (Exists.intro _ (And.intro rfl (And.intro rfl (OpOk.callRT (rbotho_con _ _ _ _ _ _ _ (by first | exact hx.s | exact hx.e) (by omega) (by omega)) rfl rfl pf68 rfl rfl rfl rfl (fun a24 c25 => ⟨(fun w h => sees_of (by first | exact Store.le.refl _ | assumption) (fun r hr => (List.mem_cons_of_mem _ (List.mem_cons_of_mem _ hr))) w h), ?_⟩))))) (And.intro (Exists.intro _ (And.intro rfl (And.intro rfl (OpOk.alloc rfl ze25 rfl rfl (fun b27 => ⟨(fun w h => sees_of (by first | exact Store.le.refl _ | assumption) (fun r hr => (List.mem_cons_of_mem _ (List.mem_cons_of_mem _ (List.mem_cons_of_mem _ hr)))) w h), ?_⟩))))) (True.intro)))
              · skip
                refine TA.takeP 21 rfl (by kernel_rfl) (by kernel_rfl) (by kernel_rfl) rfl (OpVal.buildL rfl pl25 ze25 rfl) rfl rfl ?_
                refine TA.act 22 (by kernel_rfl) rfl rfl (OpOk.alloc rfl ze25 rfl rfl (fun b29 => ⟨(fun w h => sees_of (by first | exact Store.le.refl _ | assumption) (fun r hr => (List.mem_cons_of_mem _ (List.mem_cons_of_mem _ (List.mem_cons_of_mem _ hr)))) w h), ?_⟩))
                refine TA.last 23 (by kernel_rfl) rfl rfl rfl (OpOk.storeAll rfl sz25 rfl rfl rfl rfl rfl rfl ?_)
                refine TZ.front 5 rfl rfl ?_
                refine TZ.front 5 rfl rfl ?_
                refine TZ.front 5 rfl rfl ?_
                refine TZ.front 4 rfl rfl ?_
                refine TZ.front 5 rfl rfl ?_
                refine TZ.front 5 rfl rfl ?_
                refine TZ.done (by kernel_rfl) ?_
                refine S.n ?_
                -- leaf 3 cut [h7: t10=False; h8: False] H=['q30', 'q16', 'q26', 'q6', 'q4', 'q2']
                refine ⟨by repeat (first | exact Agr.refl _ _ | exact Agr.mask | refine Agr.upd rfl ?_), (b29, a14, c15, a24, c25), ?_, ?_, ?_, ?_⟩
                · first | exact True.intro | omega | (dsimp only; omega) | (simp; done) | (simp; omega)
                · repeat (first | exact trivial | refine ⟨rfl, ?_⟩)
                · rfl
                · rfl
              · skip
                refine TA.front 1 rfl rfl ?_
                refine TA.act 20 (by kernel_rfl) rfl rfl (OpOk.callRT (rbotho_con _ _ _ _ _ _ _ (by first | exact hx.s | exact hx.e) (by omega) (by omega)) rfl rfl pf68 rfl rfl rfl rfl (fun a31 c32 => ⟨(fun w h => sees_of (by first | exact Store.le.refl _ | assumption) (fun r hr => (List.mem_cons_of_mem _ (List.mem_cons_of_mem _ (List.mem_cons_of_mem _ hr)))) w h), ?_⟩))
                refine TA.takeP 21 rfl (by kernel_rfl) (by kernel_rfl) (by kernel_rfl) rfl (OpVal.buildL rfl pl25 ze25 rfl) rfl rfl ?_
                refine TA.front 1 rfl rfl ?_
                refine TA.last 23 (by kernel_rfl) rfl rfl rfl (OpOk.storeAll rfl sz25 rfl rfl rfl rfl rfl rfl ?_)
                refine TZ.front 5 rfl rfl ?_
                refine TZ.front 5 rfl rfl ?_
                refine TZ.front 5 rfl rfl ?_
                refine TZ.front 4 rfl rfl ?_
                refine TZ.front 5 rfl rfl ?_
                refine TZ.front 5 rfl rfl ?_
                refine TZ.done (by kernel_rfl) ?_
                refine S.n ?_
                -- leaf 4 cut [h7: t10=False; h8: False] H=['q28', 'q16', 'q33', 'q6', 'q4', 'q2']
                refine ⟨by repeat (first | exact Agr.refl _ _ | exact Agr.mask | refine Agr.upd rfl ?_), (b27, a14, c15, a31, c32), ?_, ?_, ?_, ?_⟩
                · first | exact True.intro | omega | (dsimp only; omega) | (simp; done) | (simp; omega)
                · repeat (first | exact trivial | refine ⟨rfl, ?_⟩)
                · rfl
                · rfl
            · skip
              refine TA.act 19 (by kernel_rfl) rfl rfl (OpOk.callR (rshift_con _ _ _ _ _ (by first | exact hy.s | exact hy.e) ⟨k1, by omega⟩ (fun u hu => by first | (have := l4 u hu; omega) | (have := l5 u hu; omega)) (by omega)) rfl rfl pf67 rfl rfl rfl (fun a34 c35 => ⟨(fun w h => sees_of (by first | exact Store.le.refl _ | assumption) (fun r hr => (List.mem_cons_of_mem _ (List.mem_cons_of_mem _ (List.mem_cons_of_mem _ hr)))) w h), ?_⟩))
              refine TA.act 20 (by kernel_rfl) rfl rfl (OpOk.callRT (rbotho_con _ _ _ _ _ _ _ (by first | exact hx.s | exact hx.e) (by omega) (by omega)) rfl rfl pf68 rfl rfl rfl rfl (fun a37 c38 => ⟨(fun w h => sees_of (by first | exact Store.le.refl _ | assumption) (fun r hr => (List.mem_cons_of_mem _ (List.mem_cons_of_mem _ (List.mem_cons_of_mem _ hr)))) w h), ?_⟩))
              refine TA.takeP 21 rfl (by kernel_rfl) (by kernel_rfl) (by kernel_rfl) rfl (OpVal.buildL rfl pl25 ze25 rfl) rfl rfl ?_
              refine TA.front 1 rfl rfl ?_
              refine TA.last 23 (by kernel_rfl) rfl rfl rfl (OpOk.storeAll rfl sz25 rfl rfl rfl rfl rfl rfl ?_)
              refine TZ.front 5 rfl rfl ?_
              refine TZ.front 5 rfl rfl ?_
              refine TZ.front 5 rfl rfl ?_
              refine TZ.front 4 rfl rfl ?_
              refine TZ.front 5 rfl rfl ?_
              refine TZ.front 5 rfl rfl ?_
              refine TZ.done (by kernel_rfl) ?_
              refine S.n ?_
              -- leaf 5 cut [h7: t10=False; h8: False] H=['q23', 'q16', 'q39', 'q6', 'q4', 'q2']
              refine ⟨by repeat (first | exact Agr.refl _ _ | exact Agr.mask | refine Agr.upd rfl ?_), (b22, a14, c15, a37, c38), ?_, ?_, ?_, ?_⟩
              · first | exact True.intro | omega | (dsimp only; omega) | (simp; done) | (simp; omega)
              · repeat (first | exact trivial | refine ⟨rfl, ?_⟩)
              · rfl
              · rfl
          · skip
            refine TA.front 1 rfl rfl ?_
            refine TA.act 12 (by kernel_rfl) rfl rfl (OpOk.callRT (rbotho_con _ _ _ _ _ _ _ (by first | exact hx.s | exact hx.e) (by omega) (by omega)) rfl rfl pf68 rfl rfl rfl rfl (fun a40 c41 => ⟨(fun w h => sees_of (by first | exact Store.le.refl _ | assumption) (fun r hr => (List.mem_cons_of_mem _ (List.mem_cons_of_mem _ hr))) w h), ?_⟩))
            refine TA.act 19 (by kernel_rfl) rfl rfl (OpOk.callR (rshift_con _ _ _ _ _ (by first | exact hy.s | exact hy.e) ⟨k1, by omega⟩ (fun u hu => by first | (have := l4 u hu; omega) | (have := l5 u hu; omega)) (by omega)) rfl rfl pf67 rfl rfl rfl (fun a43 c44 => ⟨(fun w h => sees_of (by first | exact Store.le.refl _ | assumption) (fun r hr => (List.mem_cons_of_mem _ (List.mem_cons_of_mem _ (List.mem_cons_of_mem _ hr)))) w h), ?_⟩))
            refine TA.act 20 (by kernel_rfl) rfl rfl (OpOk.callRT (rbotho_con _ _ _ _ _ _ _ (by first | exact hx.s | exact hx.e) (by omega) (by omega)) rfl rfl pf68 rfl rfl rfl rfl (fun a46 c47 => ⟨(fun w h => sees_of (by first | exact Store.le.refl _ | assumption) (fun r hr => (List.mem_cons_of_mem _ (List.mem_cons_of_mem _ (List.mem_cons_of_mem _ hr)))) w h), ?_⟩))
            refine TA.takeP 21 rfl (by kernel_rfl) (by kernel_rfl) (by kernel_rfl) rfl (OpVal.buildL rfl pl25 ze25 rfl) rfl rfl ?_
            refine TA.front 2 rfl rfl ?_
            refine TA.last 23 (by kernel_rfl) rfl rfl rfl (OpOk.storeAll rfl sz25 rfl rfl rfl rfl rfl rfl ?_)
            refine TZ.front 5 rfl rfl ?_
            refine TZ.front 5 rfl rfl ?_
            refine TZ.front 5 rfl rfl ?_
            refine TZ.front 4 rfl rfl ?_
            refine TZ.front 5 rfl rfl ?_
            refine TZ.front 5 rfl rfl ?_
            refine TZ.done (by kernel_rfl) ?_
            refine S.n ?_
            -- leaf 6 cut [h7: t10=False; h8: False] H=['q18', 'q42', 'q48', 'q6', 'q4', 'q2']
            refine ⟨by repeat (first | exact Agr.refl _ _ | exact Agr.mask | refine Agr.upd rfl ?_), (b17, a40, c41, a46, c47), ?_, ?_, ?_, ?_⟩
            · first | exact True.intro | omega | (dsimp only; omega) | (simp; done) | (simp; omega)
            · repeat (first | exact trivial | refine ⟨rfl, ?_⟩)
            · rfl
            · rfl
        · skip
          refine TA.act 11 (by kernel_rfl) rfl rfl (OpOk.callR (rshift_con _ _ _ _ _ (by first | exact hy.s | exact hy.e) ⟨k1, by omega⟩ (fun u hu => by first | (have := l4 u hu; omega) | (have := l5 u hu; omega)) (by omega)) rfl rfl pf67 rfl rfl rfl (fun a49 c50 => ⟨(fun w h => sees_of (by first | exact Store.le.refl _ | assumption) (fun r hr => (List.mem_cons_of_mem _ (List.mem_cons_of_mem _ hr))) w h), ?_⟩))
          refine TA.act 12 (by kernel_rfl) rfl rfl (OpOk.callRT (rbotho_con _ _ _ _ _ _ _ (by first | exact hx.s | exact hx.e) (by omega) (by omega)) rfl rfl pf68 rfl rfl rfl rfl (fun a52 c53 => ⟨(fun w h => sees_of (by first | exact Store.le.refl _ | assumption) (fun r hr => (List.mem_cons_of_mem _ (List.mem_cons_of_mem _ hr))) w h), ?_⟩))
          refine TA.act 19 (by kernel_rfl) rfl rfl (OpOk.callR (rshift_con _ _ _ _ _ (by first | exact hy.s | exact hy.e) ⟨k1, by omega⟩ (fun u hu => by first | (have := l4 u hu; omega) | (have := l5 u hu; omega)) (by omega)) rfl rfl pf67 rfl rfl rfl (fun a55 c56 => ⟨(fun w h => sees_of (by first | exact Store.le.refl _ | assumption) (fun r hr => (List.mem_cons_of_mem _ (List.mem_cons_of_mem _ (List.mem_cons_of_mem _ hr)))) w h), ?_⟩))
          refine TA.act 20 (by kernel_rfl) rfl rfl (OpOk.callRT (rbotho_con _ _ _ _ _ _ _ (by first | exact hx.s | exact hx.e) (by omega) (by omega)) rfl rfl pf68 rfl rfl rfl rfl (fun a58 c59 => ⟨(fun w h => sees_of (by first | exact Store.le.refl _ | assumption) (fun r hr => (List.mem_cons_of_mem _ (List.mem_cons_of_mem _ (List.mem_cons_of_mem _ hr)))) w h), ?_⟩))
          refine TA.takeP 21 rfl (by kernel_rfl) (by kernel_rfl) (by kernel_rfl) rfl (OpVal.buildL rfl pl25 ze25 rfl) rfl rfl ?_
          refine TA.front 2 rfl rfl ?_
          refine TA.last 23 (by kernel_rfl) rfl rfl rfl (OpOk.storeAll rfl sz25 rfl rfl rfl rfl rfl rfl ?_)
          refine TZ.front 5 rfl rfl ?_
          refine TZ.front 5 rfl rfl ?_
          refine TZ.front 5 rfl rfl ?_
          refine TZ.front 4 rfl rfl ?_
          refine TZ.front 5 rfl rfl ?_
          refine TZ.front 5 rfl rfl ?_
          refine TZ.done (by kernel_rfl) ?_
          refine S.n ?_
          -- leaf 7 cut [h7: t10=False; h8: False] H=['q13', 'q54', 'q60', 'q6', 'q4', 'q2']
          refine ⟨by repeat (first | exact Agr.refl _ _ | exact Agr.mask | refine Agr.upd rfl ?_), (b12, a52, c53, a58, c59), ?_, ?_, ?_, ?_⟩
          · first | exact True.intro | omega | (dsimp only; omega) | (simp; done) | (simp; omega)
          · repeat (first | exact trivial | refine ⟨rfl, ?_⟩)
          · rfl
          · rfl
      · skip
        obtain ⟨gb, ga1, gc1, ga2, gc2⟩ := g
        dsimp only
        refine TC.nilS 80 6 encE ?_
        refine TC.seq ?_
        refine TC.region ?_
        refine TL.v rfl (OpVal.fieldLoc rfl fo25_3 rfl) rfl rfl ?_
        refine TL.v rfl (OpVal.loadLoc rfl ag23 rfl (i := 1) rfl rfl) rfl rfl ?_
        refine TL.v rfl (OpVal.fieldLoc rfl fo25_3 rfl) rfl rfl ?_
        refine TL.v rfl (OpVal.loadLoc rfl ag23 rfl (i := 6) rfl rfl) rfl rfl ?_
        refine TL.op rfl (OpOk.appendS rfl rfl Try.underlying23 sz80 by80 ze80 rfl rfl (by decide) rfl rfl rfl (.inl (by assumption)) (by (try simp only [List.length_cons, List.length_nil, List.length_append]); omega) (by decide) (fun a65 c66 => ?_))
        refine TL.v rfl (OpVal.fieldLoc rfl fo25_3 rfl) rfl rfl ?_
        refine TL.front 1 rfl rfl ?_
        refine TL.op rfl (OpOk.storeSl rfl sz23 rfl rfl rfl rfl rfl ?_)
        refine TL.nil ?_
        refine S.n ?_
        refine TC.seq ?_
        refine TC.draw [7, 8, 9] (by kernel_rfl) ?_
        refine TA.takeP 0 rfl (by kernel_rfl) (by kernel_rfl) (by kernel_rfl) rfl (OpVal.fieldLoc rfl fo25_3 rfl) rfl rfl ?_
        refine TA.take 1 rfl (by kernel_rfl) (by kernel_rfl) (by kernel_rfl) (by kernel_rfl) rfl (OpVal.loadLoc rfl ag23 rfl (i := 0) rfl rfl) rfl rfl ?_
        refine TA.takeP 2 rfl (by kernel_rfl) (by kernel_rfl) (by kernel_rfl) rfl (OpVal.fieldLoc rfl fo25_3 rfl) rfl rfl ?_
        refine TA.take 3 rfl (by kernel_rfl) (by kernel_rfl) (by kernel_rfl) (by kernel_rfl) rfl (OpVal.loadLoc rfl ag23 rfl (i := 5) rfl rfl) rfl rfl ?_
        refine TA.takeP 4 rfl (by kernel_rfl) (by kernel_rfl) (by kernel_rfl) rfl (OpVal.fieldLoc rfl fo25_0 rfl) rfl rfl ?_
        refine TA.take 5 rfl (by kernel_rfl) (by kernel_rfl) (by kernel_rfl) (by kernel_rfl) rfl (OpVal.loadLoc rfl ag3 rfl (i := 6) rfl rfl) rfl rfl ?_
        refine TA.act 6 (by kernel_rfl) rfl rfl (OpOk.callR (shifted_con _ _ _ _ _ hy.d ⟨k1, by omega⟩ (fun u hu => by have := l6 u hu; omega) (by omega)) rfl rfl pf70 rfl rfl rfl (fun a67 c68 => ⟨(fun w h => sees_of (by first | exact Store.le.refl _ | assumption) (fun r hr => (List.mem_cons_of_mem _ hr)) w h), ?_⟩))
        refine TA.front 2 rfl rfl ?_
        refine TA.last 7 (by kernel_rfl) rfl rfl rfl (OpOk.appendS rfl rfl Try.underlying23 sz80 by80 ze80 rfl rfl (by decide) rfl rfl rfl (.inr ⟨_, 0, rfl⟩) (by (try simp only [List.length_cons, List.length_nil, List.length_append]); omega) (by decide) (fun a70 c71 => ?_))
        refine TZ.v 8 (by kernel_rfl) rfl rfl rfl (OpVal.fieldLoc rfl fo25_3 rfl) rfl rfl ?_
        refine TZ.front 2 rfl rfl ?_
        refine TZ.last 9 (by kernel_rfl) rfl rfl rfl (OpOk.storeSl rfl sz23 rfl rfl rfl rfl rfl ?_)
        refine TZ.done (by kernel_rfl) ?_
        refine S.n ?_
        refine TC.seq ?_
        refine TC.front 1 rfl rfl ?_
        refine TC.sealS encE_len (fun τ74 hle73 hr72 => ?_)
        replace hx := hx.mono hle73
        replace hy := hy.mono hle73
        replace hd := hd.mono hle73
        refine TC.front 1 rfl rfl ?_
        refine TC.sealS encE_len (fun τ77 hle76 hr75 => ?_)
        replace hx := hx.mono hle76
        replace hy := hy.mono hle76
        replace hd := hd.mono hle76
        replace hr72 := hr72.mono hle76
        refine TC.front 1 rfl rfl ?_
        refine TC.sealS encI_len (fun τ80 hle79 hr78 => ?_)
        replace hx := hx.mono hle79
        replace hy := hy.mono hle79
        replace hd := hd.mono hle79
        replace hr72 := hr72.mono hle79
        replace hr75 := hr75.mono hle79
        refine TC.front 1 rfl rfl ?_
        refine TC.sealS encI_len (fun τ83 hle82 hr81 => ?_)
        replace hx := hx.mono hle82
        replace hy := hy.mono hle82
        replace hd := hd.mono hle82
        replace hr72 := hr72.mono hle82
        replace hr75 := hr75.mono hle82
        replace hr78 := hr78.mono hle82
        refine TC.region ?_
        refine TL.v rfl (OpVal.loadAll rfl ag25 sz25 rfl (i := 0) rfl rfl) rfl rfl ?_
        refine TL.op rfl (OpOk.callN (end_con _ (altN x y) ⟨ga1, gc1, ga2, gc2, a70, c71⟩ ⟨hr78, hr81, hr72, altE_ok hx.ok hy.ok⟩) rfl rfl pf71 rfl rfl rfl (fun pe τ85 hle84 he => ?_))
        replace hx := hx.mono hle84
        replace hy := hy.mono hle84
        replace hd := hd.mono hle84
        replace hr72 := hr72.mono hle84
        replace hr75 := hr75.mono hle84
        replace hr78 := hr78.mono hle84
        replace hr81 := hr81.mono hle84
        refine TL.v rfl (OpVal.extract rfl rfl rfl) rfl rfl ?_
        refine TL.v rfl (OpVal.extract rfl rfl rfl) rfl rfl ?_
        refine TL.front 1 rfl rfl ?_
        refine TL.op rfl (OpOk.storeAll rfl sz25 rfl rfl rfl rfl rfl rfl ?_)
        refine TL.v rfl (OpVal.moveI (.inr rfl) rfl) rfl rfl ?_
        refine TL.nil ?_
        refine S.n ?_
        refine TC.ret ?_
        -- leaf 8 ret [h7: t10=False; h8: False] H=['q6', 'q64', 'q4', 'q2']
        obtain ⟨e1, e2⟩ := alt_end hcx hcy
        rw [e1, e2]
        exact retNfa (p := pe) 0 rfl ag25 sz25 rfl rfl rfl rfl he

end Go.Proofs.Ytcidppnlhhkhhaa
end

/- Ref6 -/
section
/- Contracts of the reference of nfa, part six: text. -/
set_option linter.unusedVariables false
set_option linter.unusedSimpArgs false
namespace Go.Proofs.Ytcidppnlhhkhhaa
open Go Go.E
set_option maxRecDepth 100000

/-- The reference's set of bytes, of a slice that is only read. -/
theorem rofs_con (σ : Store) (a : Option Addr) (c : Nat) (l : List UInt8) (hl : RS σ 1 encU8 (.slice a l.length c) l) (hsz : l.length ≤ 1000000000000) :
    Con Try.prog 54 #[.slice a l.length c] σ [] (PureP (setV (BSet.ofL l)) σ) := by
  refine Con.mk (n := 20) Try.func54 rfl rfl rfl (fun w0 => ?_)
  refine TC.seq ?_
  refine TC.region ?_
  refine TL.op rfl (OpOk.alloc rfl ze28 rfl rfl (fun b1 => ?_))
  refine TL.nil ?_
  refine S.n ?_
  refine TC.seq ?_
  refine TC.region ?_
  refine TL.op rfl (OpOk.makeS (m := 256) (enc := encB) false rfl Try.underlying47 sz4 by4 ze4 rfl rfl rfl rfl (by omega) (by decide) encB_len (by decide) rfl encB_one (fun a3 c4 => ?_))
  refine TL.v rfl (OpVal.moveSl (.inr rfl) rfl) rfl rfl ?_
  refine TL.nil ?_
  refine S.n ?_
  refine TC.seq ?_
  refine TC.seq ?_
  refine TC.region ?_
  refine TL.v rfl (OpVal.moveI (.inr rfl) rfl) rfl rfl ?_
  refine TL.nil ?_
  refine S.n ?_
  refine TC.block ?_
  refine TC.loopF (α := Nat) [4, 6, 7, 8, 9, 10, 11, 12, 13, 14, 15, 16, 17] (fun k => [(4, .int .i64 (k : Nat))]) (fun k => [Res.rowS 4 1 encB (.slice a3 256 c4) (boolTo l k), Res.cells b1 (setA BSet.zero) 28]) (fun _ => _) (fun k => k ≤ l.length) (fun k => l.length - k) (0) (by first | exact True.intro | omega | (dsimp only; omega) | (simp; done) | (simp; omega)) (by repeat (first | exact trivial | refine ⟨rfl, ?_⟩)) (by rw [← boolTo_zero]; rfl) (by rfl) (fun g1 j1 hg1 => ?_)
  have hu : (nth l g1 (0 : UInt8)).toNat < 256 := UInt8.toNat_lt _
  have hbl := boolTo_len l g1
  refine TC.seq ?_
  refine TC.seq ?_
  refine TC.region ?_
  refine TL.v rfl (OpVal.moveI (.inl rfl) rfl) rfl rfl ?_
  refine TL.v rfl (OpVal.moveSl (.inl rfl) rfl) rfl rfl ?_
  refine TL.v rfl (OpVal.lenC rfl Try.underlying78 rfl) rfl rfl ?_
  refine TL.v rfl (OpVal.lss rfl rfl rfl) rfl rfl ?_
  refine TL.nil ?_
  refine S.n ?_
  refine TC.condD rfl (fun h6 => ?_) (fun h6 => ?_)
  · try simp only [decide_eq_true_eq, decide_eq_false_iff_not, Bool.not_eq_true', Bool.not_eq_false', Bool.not_eq_eq_eq_not, Bool.not_true, Bool.not_false, Int.not_lt, Int.not_le, Decidable.not_not] at h6
    refine TC.skip ?_
    refine S.n ?_
    refine TC.seq ?_
    refine TC.block ?_
    refine TC.region ?_
    refine TL.v rfl (OpVal.moveSl (.inl rfl) rfl) rfl rfl ?_
    refine TL.v rfl (OpVal.moveSl (.inl rfl) rfl) rfl rfl ?_
    refine TL.v rfl (OpVal.moveI (.inl rfl) rfl) rfl rfl ?_
    refine TL.v rfl (OpVal.indexN rfl Try.underlying78 sz5 rfl rfl (by first | assumption | exact (RS.rv (by assumption)).sl) (by omega)) rfl rfl ?_
    refine TL.v rfl (OpVal.loadS1 (0 : UInt8) rfl ag5 rfl (by assumption) (by omega) rfl) rfl rfl ?_
    refine TL.isSl (i := 0) rfl (fun hs7 _ _ => ?_)
    refine TL.v rfl (OpVal.indexN rfl Try.underlying47 sz4 rfl rfl (by first | assumption | exact (RS.rv (by assumption)).sl) (by omega)) rfl rfl ?_
    refine TL.op rfl (OpOk.storeS _ rfl sz4 rfl rfl rfl rfl encB_len encB_one (by omega) (by omega) ?_)
    refine TL.nil ?_
    refine B.n ?_
    refine S.n ?_
    refine TC.region ?_
    refine TL.v rfl (OpVal.moveI (.inl rfl) rfl) rfl rfl ?_
    refine TL.v rfl (OpVal.succ rfl rfl rfl (by omega)) rfl rfl ?_
    refine TL.v rfl (OpVal.moveI (.inr rfl) rfl) rfl rfl ?_
    refine TL.nil ?_
    refine S.n ?_
    -- leaf 1 next [h6: True] H=['q5', 'q2']
    refine ⟨by repeat (first | exact Agr.mask | refine Agr.upd rfl ?_ | refine Agr.maskIn rfl ?_), g1 + 1, ?_, ?_, ?_, ?_, ?_⟩
    · omega
    · first | exact True.intro | omega | (dsimp only; omega) | (simp; done) | (simp; omega)
    · repeat (first | exact trivial | refine ⟨rfl, ?_⟩)
    · rw [boolTo_succ (by omega)]
    · rfl
  · try simp only [decide_eq_true_eq, decide_eq_false_iff_not, Bool.not_eq_true', Bool.not_eq_false', Bool.not_eq_eq_eq_not, Bool.not_true, Bool.not_false, Int.not_lt, Int.not_le, Decidable.not_not] at h6
    refine TC.exit ?_
    refine S.x ?_
    refine S.x ?_
    refine TC.exitHere ?_
    refine S.n ?_
    refine TC.seq ?_
    refine TC.region ?_
    refine TL.v rfl (OpVal.moveSl (.inl rfl) rfl) rfl rfl ?_
    refine TL.op rfl (OpOk.callT (make_con _ _ _ (boolTo l g1) (boolTo_len _ _)) rfl rfl pf82 rfl rfl rfl rfl ?_)
    refine TL.op rfl (OpOk.storeAll rfl sz28 rfl rfl rfl rfl rfl rfl ?_)
    refine TL.nil ?_
    refine S.n ?_
    refine TC.ret ?_
    -- leaf 2 ret [h6: False] H=['q2']
    obtain rfl : g1 = l.length := by omega
    exact retCellP 0 rfl ag28 sz28 rfl rfl rfl (congrArg setV (boolTo_make l))

end Go.Proofs.Ytcidppnlhhkhhaa
end

/- Dec3 -/
section
/- Slices whose elements hold slices: read only, and of one's own. Plain lemmas over any program; no condition. -/
set_option linter.unusedVariables false
set_option linter.unusedSimpArgs false
namespace Go.E
open Go

/-- How something that holds addresses lies in cells. -/
structure Pk (α : Type) where
  P : Type
  d : α
  dp : P
  size : Nat
  enc : α → P → List Value
  ok : Store → α → P → Prop
  len : ∀ x p, (enc x p).length = size
  one : ∀ x p, ∀ u ∈ enc x p, u.oneCell' = true
  mono : ∀ {σ τ x p}, Store.le σ τ → ok σ x p → ok τ x p
  zok : ∀ σ, ok σ d dp

section
variable {α : Type}
def Pk.en (K : Pk α) (m : α × K.P) : List Value := K.enc m.1 m.2
theorem Pk.en_len (K : Pk α) (m : α × K.P) : (K.en m).length = K.size := K.len _ _
theorem Pk.en_one (K : Pk α) : ∀ m, ∀ u ∈ K.en m, u.oneCell' = true := fun m => K.one _ _

/-- A list with its addresses. -/
structure ZOk (σ : Store) (K : Pk α) (z : List (α × K.P)) (l : List α) : Prop where
  eq : z.map Prod.fst = l
  ok : ∀ m ∈ z, K.ok σ m.1 m.2
theorem ZOk.mono {σ τ : Store} {K : Pk α} {z : List (α × K.P)} {l : List α} (h : ZOk σ K z l) (hle : σ.le τ) : ZOk τ K z l := ⟨h.eq, fun m hm => K.mono hle (h.ok m hm)⟩
theorem ZOk.nil (σ : Store) (K : Pk α) : ZOk σ K [] [] := ⟨rfl, by simp⟩
theorem ZOk.cons {σ : Store} {K : Pk α} {x : α} {p : K.P} {z : List (α × K.P)} {l : List α} (h : K.ok σ x p) (k : ZOk σ K z l) : ZOk σ K ((x, p) :: z) (x :: l) := ⟨by simp [k.eq], fun m hm => by
  rcases List.mem_cons.1 hm with rfl | hm
  · exact h
  · exact k.ok m hm⟩
theorem ZOk.app {σ : Store} {K : Pk α} {z y : List (α × K.P)} {l m : List α} (h : ZOk σ K z l) (k : ZOk σ K y m) : ZOk σ K (z ++ y) (l ++ m) := ⟨by rw [List.map_append, h.eq, k.eq], fun u hu => by
  rcases List.mem_append.1 hu with hu | hu
  · exact h.ok u hu
  · exact k.ok u hu⟩
theorem ZOk.set {σ : Store} {K : Pk α} {z : List (α × K.P)} {l : List α} {i : Nat} {x : α} {p : K.P} (h : ZOk σ K z l) (k : K.ok σ x p) : ZOk σ K (z.set i (x, p)) (l.set i x) := ⟨by rw [List.map_set, h.eq], fun u hu => by
  rcases List.mem_or_eq_of_mem_set hu with hu | rfl
  · exact h.ok u hu
  · exact k⟩
theorem ZOk.rep (σ : Store) (K : Pk α) (n : Nat) : ZOk σ K (List.replicate n (K.d, K.dp)) (List.replicate n K.d) := ⟨by simp, fun u hu => by
  rw [List.mem_replicate] at hu; rw [hu.2]; exact K.zok σ⟩
theorem ZOk.length {σ : Store} {K : Pk α} {z : List (α × K.P)} {l : List α} (h : ZOk σ K z l) : z.length = l.length := by rw [← h.eq, List.length_map]
theorem ZOk.at {σ : Store} {K : Pk α} {z : List (α × K.P)} {l : List α} (h : ZOk σ K z l) {i : Nat} (hi : i < l.length) : nth z i (K.d, K.dp) = (nth l i K.d, (nth z i (K.d, K.dp)).2) ∧ K.ok σ (nth l i K.d) (nth z i (K.d, K.dp)).2 := by
  have hz : i < z.length := by rw [h.length]; exact hi
  have h1 := getD_some z hz (K.d, K.dp)
  have h2 : (nth z i (K.d, K.dp)).1 = nth l i K.d := by
    have h3 := getD_some l hi K.d
    rw [← h.eq, List.getElem?_map, h1] at h3
    simp only [Option.map_some, Option.some.injEq] at h3
    rw [h3, h.eq]
  refine ⟨by rw [← h2], ?_⟩
  rw [← h2]
  exact h.ok _ (List.mem_of_getElem? h1)

/-- A sealed slice of such. -/
def RZ (σ : Store) (K : Pk α) (v : Value) (l : List α) : Prop := ∃ z : List (α × K.P), ZOk σ K z l ∧ RS σ K.size K.en v z
theorem RZ.mono {σ τ : Store} {K : Pk α} {v : Value} {l : List α} (h : RZ σ K v l) (hle : σ.le τ) : RZ τ K v l := let ⟨z, h1, h2⟩ := h; ⟨z, h1.mono hle, h2.mono hle⟩
theorem RZ.isSl {σ : Store} {K : Pk α} {v : Value} {l : List α} (h : RZ σ K v l) : IsSl v l.length := by
  obtain ⟨z, h1, h2⟩ := h; rw [← h1.length]; exact h2.rv.sl
theorem RZ.big {σ : Store} {K : Pk α} {v : Value} {l : List α} (h : RZ σ K v l) : l.length ≤ 281474976710656 := by
  obtain ⟨z, h1, h2⟩ := h; rw [← h1.length]; exact h2.rv.big
/-- Some cells of a sealed slice. -/
def Seg (σ : Store) (v : Value) (k : Nat) (cs : List Value) : Prop := ∃ a m c, v = .slice (some a) m c ∧ ∀ j u, cs[j]? = some u → σ.cell (a.add (k + j)) = some u
theorem RZ.seg {σ : Store} {K : Pk α} {v : Value} {l : List α} (h : RZ σ K v l) (i : Nat) (hi : i < l.length) : ∃ p : K.P, K.ok σ (nth l i K.d) p ∧ Seg σ v (i * K.size) (K.enc (nth l i K.d) p) := by
  obtain ⟨z, h1, h2⟩ := h
  obtain ⟨e, hok⟩ := h1.at hi
  refine ⟨_, hok, ?_⟩
  have hz : i < z.length := by rw [h1.length]; exact hi
  obtain ⟨a, c, rfl, _⟩ := h2.rv.sl.some hz
  refine ⟨a, _, c, rfl, fun j u hj => ?_⟩
  have hj2 : j < K.size := by have := (List.getElem?_eq_some_iff.1 hj).1; rwa [K.len] at this
  refine h2.rv.cell a _ c rfl _ u ?_
  rw [flatMap_get K.en_len z i j _ (getD_some z hz (K.d, K.dp)) hj2, Pk.en, e]
  exact hj
end

section
variable {P : Program} {n : Nat} {e : Env} {σ : Store} {H : List Res} {o : Oper} {x y : Operand} {α : Type}
theorem OpVal.loadSeg {T k j : Nat} {v u : Value} {cs : List Value} (ho : o.op = .load T x) (hA : aggOf P T = some false) (hx : ev e x = elem v (k + j)) (hS : Seg σ v k cs) (hu : cs[j]? = some u) : OpVal P n o e σ H u := fun w hw => by
  obtain ⟨a, m, c, rfl, h⟩ := hS
  have hc := hw.cell (h j u hu)
  simp [execOp, ho, hx, Instr.loadAt, Instr.sureAddr, elem, run_loadVar_one hA hc]
theorem OpVal.loadSeg0 {T k : Nat} {v u : Value} {cs : List Value} (ho : o.op = .load T x) (hA : aggOf P T = some false) (hx : ev e x = elem v k) (hS : Seg σ v k cs) (hu : cs[0]? = some u) : OpVal P n o e σ H u :=
  OpVal.loadSeg (j := 0) ho hA hx hS hu
theorem OpVal.loadOZA {T E i q s : Nat} {K : Pk α} {v : Value} {z : List (α × K.P)} {l : List α} (hZ : ZOk σ K z l) (ho : o.op = .load T x) (hA : aggOf P T = some true) (hs : szOf P T = some s) (hK : K.size = s) (h0 : 0 < s) (hx : ev e x = elem v (i * K.size)) (hq : H[q]? = some (Res.rowS E K.size K.en v z)) (hi : i < l.length) :
    OpVal P n o e σ H (.agg (K.enc (nth l i K.d) (nth z i (K.d, K.dp)).2).toArray) := by
  subst hK
  have hz : i < z.length := by rw [hZ.length]; exact hi
  obtain ⟨e1, _⟩ := hZ.at hi
  have := OpVal.loadOA (P := P) (n := n) (σ := σ) (K.d, K.dp) ho hA hs hx hq K.en_len hz h0
  rw [Pk.en, e1] at this; exact this
end

/-! ### Slices in a slice -/
def pkSl {α : Type} (size : Nat) (enc : α → List Value) (hl : ∀ x, (enc x).length = size) : Pk (List α) where
  P := Option Addr × Nat
  d := []
  dp := (none, 0)
  size := 1
  enc l p := [.slice p.1 l.length p.2]
  ok σ l p := RS σ size enc (.slice p.1 l.length p.2) l
  len _ _ := rfl
  one _ _ u hu := by simp at hu; subst hu; rfl
  mono hle h := h.mono hle
  zok σ := RS.nilF σ enc hl
def pkNfa : Pk Nfa where
  P := NfaP
  d := Nfa.zero
  dp := NfaP.zero
  size := 4
  enc n p := (nfaA n p).toList
  ok σ n p := RNfa σ n p
  len _ _ := rfl
  one n p u hu := nfaA_one n p u hu
  mono hle h := h.mono hle
  zok σ := RNfa.zero σ

/-! ### Concatenation's steps -/
section
variable {X : Ctx} {e : Env} {σ : Store} {H F : List Res} {o : Oper} {x y : Operand} {K : Env → Store → List Res → Prop} {α : Type}
theorem TL.sealZ {Q : QP} {ops : Array Oper} {ol : List Oper} {E : Nat} {k : Pk α} {v : Value} {z : List (α × k.P)} {l : List α} (hZ : ZOk σ k z l) (h : ∀ σ', σ.le σ' → RZ σ' k v l → TL X ops Q ol e σ' F) : TL X ops Q ol e σ (Res.rowS E k.size k.en v z :: F) :=
  TL.sealS k.en_len fun σ' h1 h2 => h σ' h1 ⟨z, hZ.mono h1, h2⟩
theorem TA.sealZ {Q : QP} {ops : Array Oper} {σr : Store} {Hr : List Res} {late : List Nat} {fuel : Nat} {listed : Array Bool} {E : Nat} {k : Pk α} {v : Value} {z : List (α × k.P)} {l : List α} (hZ : ZOk σ k z l) (h : ∀ σ', σ.le σ' → RZ σ' k v l → TA X ops Q σr Hr late fuel listed e σ' F) : TA X ops Q σr Hr late fuel listed e σ (Res.rowS E k.size k.en v z :: F) :=
  TA.sealS k.en_len fun σ' h1 h2 => h σ' h1 ⟨z, hZ.mono h1, h2⟩
end
end Go.E
namespace Go.E
open Go
section
variable {X : Ctx} {e : Env} {σ : Store} {H F : List Res} {o : Oper} {x y : Operand} {K : Env → Store → List Res → Prop} {α : Type} {k : Pk α} {z w : List (α × k.P)} {l m : List α}
theorem OpOk.appendZ {T E by_ d : Nat} {zv v u : Value} {ty : TypeId} (hZ : ZOk σ k z l) (hY : ZOk σ k w m) (ho : o.op = .call { callee := .builtin .append, args := #[x, y], argTypes := #[T, ty] }) (hty : ty = T) (ht : X.P.underlying T = some (.slice E)) (hs : szOf X.P E = some k.size) (hby : byOf X.P E = some by_) (hz : zeroOf X.P E = some zv)
    (hd : o.dst = some d) (hn : Nat.blt d X.n = true) (hsz : 0 < k.size) (hzs : zv.cells.size = k.size) (hx : ev e x = v) (hy : ev e y = u) (hsrc : SourceS σ F k.size k.en u w) (hb0 : (l.length + m.length) * by_ ≤ 140737488355328) (hby0 : 0 < by_)
    (kk : ∀ a c, ZOk σ k (z ++ w) (l ++ m) → K (upd e d (.slice a (l ++ m).length c)) σ (Res.rowS E k.size k.en (.slice a (l ++ m).length c) (z ++ w) :: F)) : OpOk X o e σ (Res.rowS E k.size k.en v z :: F) K := by
  have hA := hZ.app hY
  refine OpOk.appendS ho hty ht hs hby hz hd hn hsz hzs hx hy hsrc (by rw [hZ.length, hY.length]; exact hb0) hby0 fun a c => ?_
  have := kk a c hA
  rw [← hA.length] at this; exact this
theorem OpOk.litZ {T E size d q : Nat} {parts : Array (Nat × Operand)} {zv : Value} (hZ : ZOk σ k z l) (ho : o.op = .buildSlice T q parts) (ht : X.P.underlying T = some (.slice E)) (hs : szOf X.P E = some size) (hk : k.size = size) (hz : zeroOf X.P E = some zv)
    (hd : o.dst = some d) (hn : Nat.blt d X.n = true) (hm : z.length = q) (h0 : q * size ≠ 0) (hbig : q * size ≤ 16777216)
    (hx0 : zv.cells.toList = k.en (k.d, k.dp)) (h00 : 0 < size)
    (hf : fillL (fun i => some (i * size, size)) ((List.replicate q (k.d, k.dp)).flatMap k.en) (parts.toList.map fun x => (x.1, ev e x.2)) = some (z.flatMap k.en)) (hmax : q ≤ 281474976710656)
    (kk : ∀ a c, K (upd e d (.slice a l.length c)) σ (Res.rowS E k.size k.en (.slice a l.length c) z :: H)) : OpOk X o e σ H K := by
  subst hk
  refine OpOk.lit (enc := k.en) z ho ht hs hz hd hn hm k.en_len h0 hbig (k.d, k.dp) hx0 h00 hf hmax k.en_one fun a c => ?_
  have := kk a c
  rw [← hZ.length] at this; exact this
theorem OpOk.makeZ {T E size by_ d q : Nat} {kl kc : IntKind} {zv : Value} (ho : o.op = .makeSlice T x y) (ht : X.P.underlying T = some (.slice E)) (hs : szOf X.P E = some size) (hk : k.size = size) (hby : byOf X.P E = some by_) (hz : zeroOf X.P E = some zv)
    (hd : o.dst = some d) (hn : Nat.blt d X.n = true) (hx : ev e x = .int kl (q : Nat)) (hy : ev e y = .int kc (q : Nat)) (hb : by_ * q ≤ 281474976710656) (hby0 : 0 < by_) (h0 : 0 < size)
    (hz0 : zv.cells.toList = k.en (k.d, k.dp)) (kk : ∀ a c, ZOk σ k (List.replicate q (k.d, k.dp)) (List.replicate q k.d) → K (upd e d (.slice a (List.replicate q k.d).length c)) σ (Res.rowS E k.size k.en (.slice a (List.replicate q k.d).length c) (List.replicate q (k.d, k.dp)) :: H)) : OpOk X o e σ H K := by
  subst hk
  have hZ := ZOk.rep σ k q
  refine OpOk.makeS2 (enc := k.en) (k.d, k.dp) ho ht hs hby hz hd hn hx hy hb hby0 k.en_len h0 hz0 k.en_one fun a c => ?_
  have := kk a c hZ
  rw [← hZ.length] at this; exact this
end
theorem ZOk.isSl {α : Type} {σ : Store} {k : Pk α} {z : List (α × k.P)} {l : List α} {v : Value} (h : ZOk σ k z l) (hs : IsSl v z.length) : IsSl v l.length := h.length ▸ hs
end Go.E
end

/- Dec4 -/
section
/- More words: a row cut, what make appends, parts of slices that are only read. Plain lemmas over any program; no condition. -/
set_option linter.unusedVariables false
set_option linter.unusedSimpArgs false
namespace Go.E
open Go
section
variable {P : Program} {n : Nat} {e : Env} {σ : Store} {H : List Res} {o : Oper} {x y z : Operand} {α : Type}
theorem OpVal.capC {t E m c : Nat} {a : Option Addr} (ho : o.op = .call { callee := .builtin .cap, args := #[x], argTypes := #[t] }) (ht : P.underlying t = some (.slice E)) (hx : ev e x = .slice a m c) :
    OpVal P n o e σ H (.int .i64 (c : Nat)) := fun w _ => by
  simp [execOp, ho, resolve, invoke, builtin, hx, Builtin.cap_, run_underlying ht, goInt]
theorem OpVal.sliceNil {t E s : TypeId} {k : IntKind} (ho : o.op = .slice t x none (some z) none) (ht : P.underlying t = some (.slice E)) (hs : szOf P E = some s) (hx : ev e x = .slice none 0 0) (hz : ev e z = .int k 0) : OpVal P n o e σ H (.slice none 0 0) := fun w _ => by
  simp [execOp, ho, hx, hz, Instr.sliceAt, Instr.slice, Instr.sliceBounds, Instr.sliceBound, asIntOf, run_underlying ht, run_sizeOf hs]
end
section
variable {X : Ctx} {e : Env} {σ : Store} {H F : List Res} {o : Oper} {x y z : Operand} {K : Env → Store → List Res → Prop} {α : Type}
/-- append(nil, make(..)...) -/
theorem OpOk.appendMake {T I E size by_ d m : Nat} {enc : α → List Value} {kn : IntKind} {zv : Value} (x0 : α) (ho : o.op = .call { callee := .builtin .append, args := #[x, y], argTypes := #[T, I] }) (ht : X.P.underlying T = some (.slice E)) (hI : X.P.underlying I = some (.int kn)) (hs : szOf X.P E = some size) (hby : byOf X.P E = some by_) (hz : zeroOf X.P E = some zv)
    (hd : o.dst = some d) (hn : Nat.blt d X.n = true) (hx : ev e x = .slice none 0 0) {kq : IntKind} (hy : ev e y = .int kq (m : Nat)) (hm : 0 < m ∧ m * by_ ≤ 140737488355328) (hby0 : 0 < by_) (hl : ∀ x, (enc x).length = size) (h0 : 0 < size)
    (hz0 : zv.cells.toList = enc x0) (h1 : ∀ x, ∀ u ∈ enc x, u.oneCell' = true) (k : ∀ a c, K (upd e d (.slice a (List.replicate m x0).length c)) σ (Res.rowS E size enc (.slice a (List.replicate m x0).length c) (List.replicate m x0) :: H)) : OpOk X o e σ H K := by
  obtain ⟨i, hi, hsz⟩ := szOf_info hs
  have hiz : i.zero = some zv := by simpa [zeroOf, hi] using hz
  have hib : i.bytes = by_ := by simpa [byOf, hi] using hby
  have hm0 : m ≤ 140737488355328 := Nat.le_trans (Nat.le_mul_of_pos_right m hby0) hm.2
  intro u0 C0 τ0 w a hw ha K' Q hK
  have hrun := Lib.run_append_grow_zeros (P := X.P) w T I o.type E i zv kq kn ht hI hi hiz none 0 0 [] (by rw [hsz]; exact run_firstCells_none w.drew size 0 0 0) m hm.1 (by omega) (by omega) (by omega) (by rw [hib]; omega) (by rw [Nat.zero_add, nextslicecap_zero hm.1, hib]; omega)
  generalize hcap : grownCap w (0 + m) 0 E = cap at hrun
  have hge : 0 + m ≤ cap := hcap ▸ grownCap_ge w (0 + m) 0 E
  rw [Nat.zero_add] at hrun hge
  have hcs : (Builtin.zeroCells zv.cells m).toList = (List.replicate m x0).flatMap enc := by
    have := madeCells_flat zv x0 hz0 m (by rw [hl]; exact h0)
    rw [hl] at this
    rw [← this]
    have hzs : zv.cells.size = size := by rw [← Array.length_toList, hz0, hl]
    simp [Builtin.zeroCells, madeCells, hzs]
  have hzn : ∀ q, (Builtin.zeroCells zv.cells q).size = q * size := fun q => by
    have hzs : zv.cells.size = size := by rw [← Array.length_toList, hz0, hl]
    simp [Builtin.zeroCells, hzs]
  have hown : (w.drew.alloc (.cells (#[] ++ Builtin.zeroCells zv.cells m ++ Builtin.zeroCells zv.cells (cap - m)) E)).ownsRow 0 E size (.slice (some ⟨w.heap.size, 0, none⟩) m cap) m ((List.replicate m x0).flatMap enc) := by
    refine ⟨by rw [flatMap_len hl, List.length_replicate], .inr ⟨w.heap.size, cap, _, rfl, Nat.zero_le _, heap_alloc_new w.drew _, hge, ?_, ?_, ?_⟩⟩
    · rw [← hcap]; exact grownCap_le_maxLen w (0 + m) 0 E (by unfold maxLen; omega)
    · rw [Array.size_append, Array.size_append, hzn, hzn, Array.size_empty, Nat.zero_add, ← Nat.add_mul]; congr 1; omega
    · rw [Array.toList_append, Array.toList_append, Array.toList_empty, List.nil_append, hcs, List.take_append_of_le_length (by rw [flatMap_len hl, List.length_replicate]; exact Nat.le_refl _), List.take_of_length_le (by rw [flatMap_len hl, List.length_replicate]; exact Nat.le_refl _)]
  have hR := (hw.drew).gain1 (some w.heap.size) (r' := Res.rowS E size enc (.slice (some ⟨w.heap.size, 0, none⟩) m cap) (List.replicate m x0)) (w' := w.drew.alloc (.cells (#[] ++ Builtin.zeroCells zv.cells m ++ Builtin.zeroCells zv.cells (cap - m)) E)) rfl rfl rfl rfl (by simp) (Nat.le_refl _) (fun k hk => alloc_old w.drew _ k hk)
    ⟨by rw [List.length_replicate]; exact hown, fun u hu => by
      rw [List.mem_flatMap] at hu
      obtain ⟨q, _, hq⟩ := hu
      exact h1 q u hq, by rw [List.length_replicate]; omega⟩ (fun b hb => by cases hb; exact Nat.le_refl _)
  have hk := k (some ⟨w.heap.size, 0, none⟩) cap
  rw [List.length_replicate] at hk
  refine Oper.wp_of_run (v := .slice (some ⟨w.heap.size, 0, none⟩) m cap) ?_ (hK _ _ _ _ _ hk hR (put_dst ha hd hn _))
  rw [ha.eval']
  have e0 : (([] : List Value).toArray) = #[] := rfl
  rw [e0] at hrun
  simp [execOp, ho, resolve, invoke, builtin, hx, hy, hrun]
theorem take_flat {enc : α → List Value} {size : Nat} (hl : ∀ x, (enc x).length = size) : ∀ (l : List α) (i : Nat), (l.take i).flatMap enc = (l.flatMap enc).take (i * size)
  | [], i => by simp
  | u :: l, 0 => by simp
  | u :: l, i + 1 => by
    rw [List.take_succ_cons, List.flatMap_cons, List.flatMap_cons, take_flat hl l i]
    have h1 : (i + 1) * size = (enc u).length + i * size := by rw [hl, Nat.add_mul]; omega
    rw [h1, List.take_append, Nat.add_sub_cancel_left, List.take_of_length_le (Nat.le_add_right _ _)]
/-- A row cut: fewer elements, the same room. -/
theorem OpOk.cutS {T E size d i : Nat} {k : IntKind} {enc : α → List Value} {a : Option Addr} {m c : Nat} {l : List α} (ho : o.op = .slice T x none (some z) none) (ht : X.P.underlying T = some (.slice E)) (hs : szOf X.P E = some size) (hd : o.dst = some d) (hn : Nat.blt d X.n = true) (hx : ev e x = .slice a m c) (hm : l.length = m) (hz : ev e z = .int k (i : Nat)) (hi : i ≤ l.length) (hl : ∀ x, (enc x).length = size)
    (kk : K (upd e d (.slice a (l.take i).length c)) σ (Res.rowS E size enc (.slice a (l.take i).length c) (l.take i) :: F)) : OpOk X o e σ (Res.rowS E size enc (.slice a m c) l :: F) K := by
  subst hm
  intro u0 C0 τ0 w ac hw ha K' Q hK
  obtain ⟨hown, hone, hbg⟩ := hw.holds _ (List.mem_cons_self ..)
  have hli : (l.take i).length = i := by rw [List.length_take]; omega
  rw [hli] at kk
  have hflat : (l.take i).flatMap enc = (l.flatMap enc).take (i * size) := take_flat hl l i
  have hone' : ∀ u ∈ (l.take i).flatMap enc, u.oneCell' = true := fun u hu => hone u (by rw [hflat] at hu; exact List.mem_of_mem_take hu)
  have hsl := isSl_row hown
  obtain ⟨a', c', hv, hnone, hcap⟩ := hsl
  cases hv
  have hsz := run_sizeOf (P := X.P) hs
  have hrun : (Instr.slice T (.slice a l.length c) none (some (.int k i)) none).run X.P w = .ok (.slice a i c) w := by
    cases a with
    | none =>
      obtain ⟨h1, h2⟩ := hnone rfl
      have : i = 0 := by omega
      subst this; subst h2
      simp [Instr.slice, Instr.sliceBounds, Instr.sliceBound, asIntOf, run_underlying ht, hsz]
    | some ad =>
      have h2 : (i : Int) ≤ (c : Int) := by omega
      simp [Instr.slice, Instr.sliceBounds, Instr.sliceBound, asIntOf, run_underlying ht, hsz, Addr.add]
      intro hlt; omega
  have hown' : w.ownsRow 0 E size (.slice a i c) i ((l.take i).flatMap enc) := by
    refine ⟨by rw [flatMap_len hl, hli], ?_⟩
    rcases hown.2 with ⟨h1, h2⟩ | ⟨g, cap, cur, h1, h2, h3, h4, h5, h6, h7⟩
    · refine .inl ⟨?_, by omega⟩
      simp only [Value.slice.injEq] at h1 ⊢
      exact ⟨h1.1, by omega, h1.2.2⟩
    · simp only [Value.slice.injEq] at h1
      refine .inr ⟨g, cap, cur, ?_, h2, h3, by omega, h5, h6, ?_⟩
      · simp only [Value.slice.injEq]; exact ⟨h1.1, trivial, h1.2.2⟩
      · rw [hflat, ← h7, List.take_take, Nat.min_eq_left (Nat.mul_le_mul_right _ hi)]
  have hR : Reach u0 C0 τ0 σ w (Res.rowS E size enc (.slice a i c) (l.take i) :: F) :=
    hw.turn1 (Value.ownBlock (.slice a l.length c)) (Value.ownBlock (.slice a i c)) rfl rfl rfl rfl rfl (Nat.le_refl _) (Nat.le_refl _) (fun _ _ _ => rfl) ⟨by rw [hli]; exact hown', hone', by rw [hli]; omega⟩ (fun q hq => .inl (by cases a <;> exact hq))
  refine Oper.wp_of_run (v := .slice a i c) ?_ (hK _ _ _ _ _ kk hR (put_dst ha hd hn _))
  rw [ha.eval']
  simp [execOp, ho, hx, hz, Instr.sliceAt, run_underlying ht, hrun]
end
end Go.E
namespace Go.E
open Go
/-! ### Parts of slices that are only read -/
section
variable {α : Type} {σ : Store} {size m c : Nat} {enc : α → List Value} {a : Option Addr} {l : List α}
end
end Go.E
end

/- Dec5 -/
section
/- Rows in a row, all of one's own; what the resources tell. Plain lemmas over any program; no condition. -/
set_option linter.unusedVariables false
set_option linter.unusedSimpArgs false
namespace Go.E
open Go

/-! ### What the resources tell, at every place of a walk -/
section
variable {X : Ctx} {ops : Array Oper} {Q : QP} {e : Env} {σ σr : Store} {H H' Hr F : List Res} {late : List Nat} {fuel : Nat} {listed : Array Bool} {c : Code} {l : List Oper}
theorem TC.by (h : ∀ {u0 C0 τ0} w, Reach u0 C0 τ0 σ w H → Reach u0 C0 τ0 σ w H') (k : TC X Q c e σ H') : TC X Q c e σ H := fun w a hw ha => k w a (hw.by h) ha
theorem TL.by (h : ∀ {u0 C0 τ0} w, Reach u0 C0 τ0 σ w H → Reach u0 C0 τ0 σ w H') (k : TL X ops Q l e σ H') : TL X ops Q l e σ H := fun w a hw ha => k w a (hw.by h) ha
theorem TA.by (h : ∀ {u0 C0 τ0} w, Reach u0 C0 τ0 σ w H → Reach u0 C0 τ0 σ w H') (k : TA X ops Q σr Hr late fuel listed e σ H') : TA X ops Q σr Hr late fuel listed e σ H := fun hnd w a hw hS hc ha => k hnd w a (hw.by h) hS hc ha
theorem TZ.by (h : ∀ {u0 C0 τ0} w, Reach u0 C0 τ0 σ w H → Reach u0 C0 τ0 σ w H') (k : TZ X ops Q σr Hr late fuel listed e σ H') : TZ X ops Q σr Hr late fuel listed e σ H := fun hnd w a hw ha => k hnd w a (hw.by h) ha
theorem OpOk.by {o : Oper} {K : Env → Store → List Res → Prop} (h : ∀ {u0 C0 τ0} w, Reach u0 C0 τ0 σ w H → Reach u0 C0 τ0 σ w H') (k : OpOk X o e σ H' K) : OpOk X o e σ H K := fun u0 C0 τ0 w a hw ha => k u0 C0 τ0 w a (h w hw) ha
/-- Resources change behind an operation. -/
theorem OpOk.then {o : Oper} {K K' : Env → Store → List Res → Prop} (k : OpOk X o e σ H K') (h : ∀ e' σ' G, K' e' σ' G → ∃ G', (∀ {u0 C0 τ0} w, Reach u0 C0 τ0 σ' w G → Reach u0 C0 τ0 σ' w G') ∧ K e' σ' G') : OpOk X o e σ H K := fun u0 C0 τ0 w a hw ha K2 Q2 hK =>
  k u0 C0 τ0 w a hw ha K2 Q2 fun e' σ' G a' w' hk hw' ha' => by
    obtain ⟨G', h1, h2⟩ := h e' σ' G hk
    exact hK e' σ' G' a' w' h2 (h1 w' hw') ha'
end
/-! ### Rows in a row -/
section
variable {β : Type} {E' E size : Nat} {enc : β → List Value} {v : Value}
abbrev NP (β : Type) := List β × (Option Addr × Nat)
/-- A list with its addresses. -/
def Zn (z : List (NP β)) (l : List (List β)) : Prop := z.map Prod.fst = l
theorem Zn.set {z : List (NP β)} {l : List (List β)} (h : Zn z l) (i : Nat) (x : List β) (p : Option Addr × Nat) : Zn (z.set i (x, p)) (l.set i x) := by
  unfold Zn at *; rw [List.map_set, h]
section
variable {w0 : World} {C : List Nat} {σ0 σ : Store} {w : World} {F : List Res} {z : List (NP β)}
end

/-! ### Operations on rows in a row -/
section
variable {X : Ctx} {e : Env} {σ : Store} {H F : List Res} {o : Oper} {x y : Operand} {K : Env → Store → List Res → Prop} {z : List (NP β)} {l : List (List β)}
end
end

/-! ### Any order -/
open Classical in
/-- What comes out whatever is taken first. -/
noncomputable def allP {α β : Type} (S : α → Prop) (f : α → Option β) : Option β := if h : ∃ r, (∃ x, S x) ∧ ∀ x, S x → f x = some r then some h.choose else none
section
variable {S R E : Type}
/-- Rounds over a list's elements, in order; the end is a round without one. -/
def runL (step : S → Option E → Option (S ⊕ R)) : List E → S → Option R
  | [], s => match step s none with
    | some (.inr r) => some r
    | _ => none
  | x :: q, s => match step s (some x) with
    | some (.inl s') => runL step q s'
    | some (.inr r) => some r
    | none => none
/-- Rounds in any order. -/
noncomputable def runA (step : S → Option E → Option (S ⊕ R)) (l : List E) (s : S) : Option R := allP (fun q => q.Perm l) (fun q => runL step q s)
structure RdA (step : S → Option E → Option (S ⊕ R)) (r : R) (l : List E) (z : S ⊕ R) : Prop where
  next : ∀ s', z = .inl s' → runA step l s' = some r
  done : ∀ r', z = .inr r' → r' = r
def optE {α β : Type} (o : Option α) (t : Option β) (f : α → Option β) : Option β := match o with | none => t | some x => f x
@[simp] theorem optE_none {α β : Type} (t : Option β) (f : α → Option β) : optE none t f = t := rfl
@[simp] theorem optE_some {α β : Type} (x : α) (t : Option β) (f : α → Option β) : optE (some x) t f = f x := rfl
end
end Go.E
end

/- Dec6 -/
section
/- Maps, and ranges over them; equality of structs; unsigned numbers. Plain lemmas over any program; no condition. -/
set_option linter.unusedVariables false
set_option linter.unusedSimpArgs false
namespace Go.E
open Go

/-! ### Finite maps -/
structure FM (K V : Type) where
  f : K → Option V
  n : Nat
section
variable {K V : Type}
def FM.get (m : FM K V) (k : K) (d : V) : V := (m.f k).getD d
/-- A list of a map's entries. -/
structure Rep (l : List (K × V)) (m : FM K V) : Prop where
  mem : ∀ k v, (k, v) ∈ l ↔ m.f k = some v
  len : l.length = m.n
  nodup : (l.map Prod.fst).Nodup
theorem Rep.not {l : List (K × V)} {m : FM K V} (h : Rep l m) {k : K} : k ∉ l.map Prod.fst ↔ m.f k = none := by
  constructor
  · intro hn
    cases hk : m.f k with
    | none => rfl
    | some v => exact absurd (List.mem_map.2 ⟨_, (h.mem k v).2 hk, rfl⟩) hn
  · intro hk hm
    obtain ⟨⟨k', v⟩, h1, rfl⟩ := List.mem_map.1 hm
    have := (h.mem k' v).1 h1
    simp only at hk; rw [hk] at this; cases this
end
/-- What the map at a block holds. -/
structure MapAt {K V : Type} (enc : K → Value) (encV : V → Value) (w : World) (b : Nat) (zs : List (MapEntry × (K × V))) (clock : Nat) : Prop where
  at_ : ∃ es, w.heap[b]? = some (.map es clock) ∧ es.toList = zs.map Prod.fst
  key : ∀ z ∈ zs, z.1.key = enc z.2.1
  val : ∀ z ∈ zs, z.1.val = encV z.2.2
  born : ∀ z ∈ zs, z.1.born < clock
  nodup : (zs.map (·.1.born)).Nodup
def MapIs {K V : Type} (enc : K → Value) (encV : V → Value) (b : Nat) (m : FM K V) (w : World) : Prop := ∃ zs clock, Rep (zs.map Prod.snd) m ∧ MapAt enc encV w b zs clock
theorem MapIs.keep {K V : Type} {enc : K → Value} {encV : V → Value} {b : Nat} {m : FM K V} {w w' : World} (h : MapIs enc encV b m w) (hb : w'.heap[b]? = w.heap[b]?) : MapIs enc encV b m w' := by
  obtain ⟨zs, c, h1, ⟨es, h2, h3⟩, h4, h5, h6, h7⟩ := h
  exact ⟨zs, c, h1, ⟨es, by rw [hb]; exact h2, h3⟩, h4, h5, h6, h7⟩
structure KeyL {K : Type} [DecidableEq K] (P : Program) (T : TypeId) (enc : K → Value) : Prop where
  check : ∀ x c w, (Instr.checkKey c 10000 T (enc x)).run P w = .ok () w
  find : ∀ x (l : List K) (es : List MapEntry) w, es.map (·.key) = l.map enc → ∃ r, (Instr.findKey T (enc x) es).run P w = .ok r w ∧
    (x ∉ l → r = none) ∧ (x ∈ l → ∃ i m, r = some (i, m.val) ∧ es[i]? = some m ∧ l[i]? = some x)
  stays : ∀ x w, (Instr.keyThatStays (enc x) (enc x)).run P w = .ok (enc x) w
section
variable {X : Ctx} {e : Env} {σ : Store} {H F : List Res} {o : Oper} {x y z : Operand} {C : Env → Store → List Res → Prop} {K V : Type} {enc : K → Value} {encV : V → Value}
/-! ### Ranges -/
end
end Go.E
end

/- Dec7 -/
section
/- Equality of structs, structs as keys, unsigned numbers. Plain lemmas over any program; no condition. -/
set_option linter.unusedVariables false
set_option linter.unusedSimpArgs false
namespace Go.E
open Go

/-! ### Structs compared -/
abbrev FT := Bool × TypeId × Nat
/-- Equality told type by type. -/
def EqAt (P : Program) (n : Nat) (T : TypeId) (u v : Value) (b : Bool) : Prop := ∀ d w, (Op.equalIn (d + n) T u v).run P w = .ok b w
inductive EqC (P : Program) (n : Nat) (xs ys : Array Value) : List FT → Bool → Prop
  | nil : EqC P n xs ys [] true
  | one {t o : Nat} {ts : List FT} {u v : Value} {b q : Bool} (hA : aggOf P t = some false) (hu : xs[o]? = some u) (hv : ys[o]? = some v) (he : EqAt P n t u v b) (k : EqC P n xs ys ts q) : EqC P n xs ys ((false, t, o) :: ts) (b && q)
  | agg {t o s : Nat} {ts : List FT} {us vs : Array Value} {b q : Bool} (hA : aggOf P t = some true) (hz : szOf P t = some s) (hu : xs.extract o (o + s) = us) (hv : ys.extract o (o + s) = vs) (he : EqAt P n t (.agg us) (.agg vs) b) (k : EqC P n xs ys ts q) : EqC P n xs ys ((false, t, o) :: ts) (b && q)
theorem EqC.run {P : Program} {n : Nat} {xs ys : Array Value} {ts : List FT} {q : Bool} (h : EqC P n xs ys ts q) : ∀ (fs : List Field), (fs.map fun f => (f.name == "_", f.type, f.offset)) = ts → ∀ d w, (Op.eqFields (d + n) xs ys fs).run P w = .ok q w := by
  induction h with
  | nil => intro fs hf d w; have : fs = [] := by simpa using hf
           subst this; simp [Op.eqFields]
  | @one t o ts u v b q hA hu hv he k ih =>
    intro fs hf d w
    cases fs with
    | nil => simp at hf
    | cons f fs =>
      simp only [List.map_cons, List.cons.injEq, Prod.mk.injEq] at hf
      obtain ⟨⟨h1, h2, h3⟩, h4⟩ := hf
      have h1 : f.name ≠ "_" := by simpa using h1
      simp only [Op.eqFields, h1, h2, h3, ne_eq, not_false_eq_true, if_true, Sem.run_bind, run_part_one hA hu, run_part_one hA hv, Result.andThen_ok, he d w]
      cases b
      · simp
      · simp [ih fs h4 d w]
  | @agg t o s ts us vs b q hA hz hu hv he k ih =>
    intro fs hf d w
    cases fs with
    | nil => simp at hf
    | cons f fs =>
      simp only [List.map_cons, List.cons.injEq, Prod.mk.injEq] at hf
      obtain ⟨⟨h1, h2, h3⟩, h4⟩ := hf
      have h1 : f.name ≠ "_" := by simpa using h1
      simp only [Op.eqFields, h1, h2, h3, ne_eq, not_false_eq_true, if_true, Sem.run_bind, run_part_agg hA hz, hu, hv, Result.andThen_ok, he d w]
      cases b
      · simp
      · simp [ih fs h4 d w]
theorem EqAt.int {P : Program} {T : TypeId} {k : IntKind} (hT : P.underlying T = some (.int k)) (a b : Int) : EqAt P 1 T (.int k a) (.int k b) (decide (a = b)) := fun d w => by
  rw [run_equalIn_int w d T k k a b hT]; rfl
theorem EqAt.set {P : Program} {T E : TypeId} (hT : P.underlying T = some (.array 4 E)) (hE : P.underlying E = some (.int .u64)) (hA : aggOf P E = some false) (hz : szOf P E = some 1) (a b : BSet) : EqAt P 2 T (.agg (setA a)) (.agg (setA b)) (decide (a = b)) := fun d w => by
  have h := run_eqArr4 (P := P) (k := .u64) d hT hE hA hz (a.a : Nat) (a.b : Nat) (a.c : Nat) (a.d : Nat) (b.a : Nat) (b.b : Nat) (b.c : Nat) (b.d : Nat) w
  rw [show decide (a = b) = decide (((a.a : Nat) : Int) = (b.a : Nat) ∧ ((a.b : Nat) : Int) = (b.b : Nat) ∧ ((a.c : Nat) : Int) = (b.c : Nat) ∧ ((a.d : Nat) : Int) = (b.d : Nat)) from by rw [decide_eq_decide]; exact BSet.eq_iff a b]
  exact h
section
variable {P : Program} {n m : Nat} {e : Env} {σ : Store} {H : List Res} {o : Oper} {x y : Operand} {T T' : TypeId} {xs ys : Array Value} {p : Prop} [Decidable p]
end
/-! ### Structs as keys -/
def CkAt (P : Program) (n : Nat) (T : TypeId) (v : Value) : Prop := ∀ d c w, (Instr.checkKey c (d + n) T v).run P w = .ok () w
inductive CkC (P : Program) (n : Nat) (xs : Array Value) : List FT → Prop
  | nil : CkC P n xs []
  | one {t o : Nat} {ts : List FT} {u : Value} (hA : aggOf P t = some false) (hu : xs[o]? = some u) (he : CkAt P n t u) (k : CkC P n xs ts) : CkC P n xs ((false, t, o) :: ts)
  | agg {t o s : Nat} {ts : List FT} {us : Array Value} (hA : aggOf P t = some true) (hz : szOf P t = some s) (hu : xs.extract o (o + s) = us) (he : CkAt P n t (.agg us)) (k : CkC P n xs ts) : CkC P n xs ((false, t, o) :: ts)
theorem CkAt.int {P : Program} {T : TypeId} {k : IntKind} (hT : P.underlying T = some (.int k)) (a : Int) : CkAt P 1 T (.int k a) := fun d c w => by simp [Instr.checkKey, run_underlying hT]
theorem run_forIn_unit {P : Program} {α : Type} {w : World} (f : α → PUnit → Sem (ForInStep PUnit)) : ∀ (l : List α), (∀ a ∈ l, (f a PUnit.unit).run P w = .ok (.yield PUnit.unit) w) → (forIn l PUnit.unit f).run P w = .ok PUnit.unit w
  | [], _ => by simp
  | a :: l, h => by
    rw [List.forIn_cons, Sem.run_bind, h a (List.mem_cons_self ..), Result.andThen_ok]
    exact run_forIn_unit f l fun b hb => h b (List.mem_cons_of_mem _ hb)
theorem CkAt.set {P : Program} {T E : TypeId} (hT : P.underlying T = some (.array 4 E)) (hE : P.underlying E = some (.int .u64)) (hA : aggOf P E = some false) (hz : szOf P E = some 1) (s : BSet) : CkAt P 2 T (.agg (setA s)) := fun d c w => by
  have h0 : ∀ a, (Instr.checkKey c (d + 1) E (.int .u64 a)).run P w = .ok () w := fun a => CkAt.int hE a d c w
  rw [Instr.checkKey]
  simp only [Sem.run_bind, run_underlying hT, Result.andThen_ok, Std.Legacy.Range.forIn_eq_forIn_range', Std.Legacy.Range.size, Nat.sub_zero, Nat.add_sub_cancel, Nat.div_one]
  rw [run_forIn_unit]
  · rfl
  intro i hi
  have hi4 : i < 4 := by
    have := List.mem_range'.1 hi
    omega
  have hp : (part E (setA s) i).run P w = .ok (.int .u64 (s.word i : Nat)) w := run_part_one hA (setA_get s hi4) w
  simp only [Sem.run_bind, run_sizeOf hz, Result.andThen_ok, Nat.mul_one, hp, h0, Sem.run_pure]
def Bits (v : Value) : Prop := ∀ n, Instr.sameBits n v v = true
theorem Bits.int (k : IntKind) (a : Int) : Bits (.int k a) := fun n => by cases n <;> (rw [Instr.sameBits]; simp)
/-! ### Unsigned numbers of 64 bits -/
def u64add (a b : Nat) : Nat := (a + b) % 18446744073709551616
def u64mul (a b : Nat) : Nat := a * b % 18446744073709551616
def u64and (a b : Nat) : Nat := (BitVec.ofNat 64 a &&& BitVec.ofNat 64 b).toNat
def u64shl (a b : Nat) : Nat := a * 2 ^ (min b 64) % 18446744073709551616
def u64shr (a b : Nat) : Nat := a / 2 ^ (min b 64)
def u64of (a : Int) : Nat := (a % 18446744073709551616).toNat
theorem wrap_u64 (a : Int) : IntKind.u64.wrap a = a % 18446744073709551616 := by simp [IntKind.wrap, IntKind.bits, IntKind.signed]
theorem u64of_val (a : Int) : ((u64of a : Nat) : Int) = IntKind.u64.wrap a := by rw [wrap_u64, u64of]; omega
theorem bv_of (a : Nat) : BitVec.ofInt IntKind.u64.bits (a : Int) = BitVec.ofNat 64 a := by simp [IntKind.bits, BitVec.ofInt_natCast]
theorem wrap_bv (b : BitVec 64) : IntKind.u64.wrap (b.toNat : Int) = (b.toNat : Int) := by rw [wrap_u64]; have := b.isLt; omega
section
variable {P : Program} {n : Nat} {e : Env} {σ : Store} {H : List Res} {o : Oper} {x y : Operand} {T T' : TypeId} {a b : Nat}
theorem OpVal.addU (ho : o.op = .binOp .add T x y T') (hx : ev e x = .int .u64 (a : Nat)) (hy : ev e y = .int .u64 (b : Nat)) : OpVal P n o e σ H (.int .u64 ((u64add a b : Nat) : Int)) := by
  have := OpVal.addW (P := P) (n := n) (σ := σ) (H := H) ho hx hy
  rw [wrap_u64] at this
  rw [show ((u64add a b : Nat) : Int) = ((a : Int) + (b : Int)) % 18446744073709551616 from by unfold u64add; omega]; exact this
theorem OpVal.mulU (ho : o.op = .binOp .mul T x y T') (hx : ev e x = .int .u64 (a : Nat)) (hy : ev e y = .int .u64 (b : Nat)) : OpVal P n o e σ H (.int .u64 ((u64mul a b : Nat) : Int)) := by
  have := OpVal.mulW (P := P) (n := n) (σ := σ) (H := H) ho hx hy
  rw [wrap_u64] at this
  rw [show ((u64mul a b : Nat) : Int) = ((a : Int) * (b : Int)) % 18446744073709551616 from by unfold u64mul; rw [Int.natCast_emod, Int.natCast_mul]; rfl]; exact this
theorem OpVal.andU (ho : o.op = .binOp .and T x y T') (hx : ev e x = .int .u64 (a : Nat)) (hy : ev e y = .int .u64 (b : Nat)) : OpVal P n o e σ H (.int .u64 ((u64and a b : Nat) : Int)) := .bin ho hx hy fun w => by
  simp only [binOp, ne_eq, not_true_eq_false, if_false, Op.intBits, bv_of]
  exact congrArg (fun z => Result.ok (Value.int .u64 z) w) (wrap_bv (BitVec.ofNat 64 a &&& BitVec.ofNat 64 b))
theorem OpVal.shlU {k : IntKind} (ho : o.op = .binOp .shl T x y T') (hx : ev e x = .int .u64 (a : Nat)) (hy : ev e y = .int k (b : Nat)) : OpVal P n o e σ H (.int .u64 ((u64shl a b : Nat) : Int)) := fun w _ => by
  have h0 : ¬ (b : Int) < 0 := by omega
  simp only [execOp, ho, hx, hy, Sem.run_bind, run_eqGuard_int, Result.andThen_ok, binOp, Op.shift, h0, if_false, Int.toNat_natCast, wrap_u64, u64shl, IntKind.bits]
  rw [show (a : Int) * 2 ^ min b 64 % 18446744073709551616 = ((a * 2 ^ min b 64 % 18446744073709551616 : Nat) : Int) from by rw [Int.natCast_emod, Int.natCast_mul, Int.natCast_pow]; rfl]; rfl
theorem OpVal.shrU {k : IntKind} (ho : o.op = .binOp .shr T x y T') (hx : ev e x = .int .u64 (a : Nat)) (hy : ev e y = .int k (b : Nat)) : OpVal P n o e σ H (.int .u64 ((u64shr a b : Nat) : Int)) := fun w _ => by
  have h0 : ¬ (b : Int) < 0 := by omega
  have h2 : (a : Int).fdiv (2 ^ min b 64) = ((a / 2 ^ min b 64 : Nat) : Int) := by
    rw [Int.fdiv_eq_ediv_of_nonneg _ (by exact_mod_cast Nat.zero_le _)]; exact_mod_cast rfl
  simp only [execOp, ho, hx, hy, Sem.run_bind, run_eqGuard_int, Result.andThen_ok, binOp, Op.shift, h0, if_false, Int.toNat_natCast, u64shr, IntKind.bits, h2]; rfl
theorem OpVal.convU {k : IntKind} {i : Int} {d : TypeDesc} {S : TypeId} (ho : o.op = .convert S T x) (hs : P.underlying S = some d) (ht : P.underlying T = some (.int .u64)) (hx : ev e x = .int k i) : OpVal P n o e σ H (.int .u64 ((u64of i : Nat) : Int)) := by
  rw [u64of_val]; exact OpVal.convInt ho hs ht hx
theorem OpVal.gtrU {k : IntKind} (ho : o.op = .binOp .gtr T x y T') (hx : ev e x = .int k (a : Nat)) (hy : ev e y = .int k (b : Nat)) : OpVal P n o e σ H (.bool (decide (b < a))) := by
  have := OpVal.gtr (P := P) (n := n) (σ := σ) (H := H) ho hx hy
  rwa [show decide ((b : Int) < (a : Int)) = decide (b < a) from by rw [decide_eq_decide]; omega] at this
end
end Go.E
end

/- Dec8 -/
section
/- More words: rounds in any order, copies, bytes made a text, parts of rows. Plain lemmas over any program; no condition. -/
set_option linter.unusedVariables false
set_option linter.unusedSimpArgs false
namespace Go.E
open Go
/-! ### Cells of a slice, whoever owns it -/
/-! ### Strings compared by the library -/
/-! ### A part of a row of one's own, looked at through a slice of its own -/
structure VwOk (v u : Value) (size k n : Nat) : Prop where
  sl : IsSl u n
  el : ∀ j, j < n → elem u (j * size) = elem v ((k + j) * size)
theorem VwOk.self {v : Value} {size n : Nat} (h : IsSl v n) : VwOk v v size 0 n := ⟨h, fun j _ => by rw [Nat.zero_add]⟩
theorem vw_of {a : Option Addr} {m c size k : Nat} (h : IsSl (.slice a m c) m) (hk : k ≤ m) : ∃ (a' : Option Addr) (c' : Nat), VwOk (.slice a m c) (.slice a' (m - k) c') size k (m - k) ∧
    ∀ {P : Program} {n : Nat} {e : Env} {σ : Store} {H : List Res} {o : Oper} {x z : Operand} {T E : TypeId} {kk : IntKind} (_ : o.op = .slice T x (some z) none none) (_ : P.underlying T = some (.slice E)) (_ : szOf P E = some size) (_ : ev e x = .slice a m c) (_ : ev e z = .int kk (k : Nat)), OpVal P n o e σ H (.slice a' (m - k) c') := by
  obtain ⟨a1, c1, hv, hn, hc⟩ := h
  cases hv
  refine ⟨if c = k then a else a.map (·.add (k * size)), c - k, ⟨⟨_, _, rfl, fun ha => ?_, by omega⟩, fun j hj => ?_⟩, ?_⟩
  · split at ha
    · obtain ⟨h1, h2⟩ := hn ha; omega
    · cases a with
      | none => obtain ⟨h1, h2⟩ := hn rfl; omega
      | some ad => simp at ha
  · have hck : ¬ c = k := by omega
    rw [if_neg hck]
    cases a with
    | none => obtain ⟨h1, h2⟩ := hn rfl; omega
    | some ad => simp only [elem, Option.map_some]; rw [add_add, Nat.add_mul]
  · intro P n e σ H o x z T E kk ho hT hs hx hz w _
    have hsz := run_sizeOf (P := P) hs
    have hrun : (Instr.slice T (.slice a m c) (some (.int kk k)) none none).run P w = .ok (.slice (if c = k then a else a.map (·.add (k * size))) (m - k) (c - k)) w := by
      simp [Instr.slice, Instr.sliceBounds, Instr.sliceBound, asIntOf, run_underlying hT, hsz]
      intro hlt; omega
    simp [execOp, ho, hx, hz, Instr.sliceAt, run_underlying hT, hrun]
/-! ### A part of an array variable, lent -/
end Go.E
end

/- Dec9 -/
section
/- The library's sort, by the kit's contract, in the engine's words. Plain lemmas over any program; no condition. -/
set_option linter.unusedVariables false
set_option linter.unusedSimpArgs false
namespace Go.E
open Go Go.Sort Go.Proofs Go.Shelf

section
variable {α : Type} [Inhabited α] {P : Program}
end

/-- An order that tells apart whatever is not the same. -/
structure TotalCmp {α : Type} (cf : α → α → Int) : Prop where
  swo : SWO (ltOf cf)
  tot : ∀ x y, ltOf cf x y = false → ltOf cf y x = false → x = y
section
variable {α : Type} [Inhabited α] {P : Program} {ρ : Ren}
end
end Go.E
end

/- Dec10 -/
section
/- More of rows in a row. Plain lemmas over any program; no condition. -/
set_option linter.unusedVariables false
set_option linter.unusedSimpArgs false
namespace Go.E
open Go
section
variable {β : Type} {E' E size : Nat} {enc : β → List Value} {v : Value}
end
section
variable {P : Program} {n : Nat} {e : Env} {σ : Store} {H : List Res} {o : Oper} {x y : Operand} {T T' : TypeId} {k : IntKind} {a b : Int}
end
end Go.E
end

/- N1 -/
section
/- Decompiled: what an automaton takes; the reference's text. -/
set_option linter.unusedVariables false
set_option linter.unusedSimpArgs false
namespace Go.Proofs.Ytcidppnlhhkhhaa
open Go Go.E
set_option maxRecDepth 100000
private theorem pf54 : Go.E.plainF Try.prog 54 = true := by kernel_rfl
noncomputable def whittleref10_Takes_j1 (k136 : Nat) (l140 : List Int) : Option (((List Int) × Nat) ⊕ (((List Int) × Nat) ⊕ (Bool × Int))) :=
  nxt (l140, (k136 + 1))
noncomputable def whittleref10_Takes_b2 (x0 : Nfa) (x1 : List UInt8) (k118 : Nat) (l114 : List Int) (l133 : List Int) (k136 : Nat) : Option (((List Int) × Nat) ⊕ (((List Int) × Nat) ⊕ (Bool × Int))) :=
  iteO (decide (((k136 : Nat) : Int) < ((x0.edges.length : Nat) : Int))) (iteO (((nth x0.edges k136 Arrow.zero).set).has ((nth x1 k118 (0 : UInt8)).toNat)) (iteO (l114.contains ((nth x0.edges k136 Arrow.zero).frm)) (iteO (!(l133.contains ((nth x0.edges k136 Arrow.zero).to))) (grd ((l133.length + [(nth x0.edges k136 Arrow.zero).to].length) * 8 ≤ 140737488355328) (whittleref10_Takes_j1 k136 (l133 ++ [(nth x0.edges k136 Arrow.zero).to]))) (whittleref10_Takes_j1 k136 l133)) (whittleref10_Takes_j1 k136 l133)) (whittleref10_Takes_j1 k136 l133)) (fin (nxt (l133, (k118 + 1))))
noncomputable def whittleref10_Takes_b3 (l114 : List Int) (x0 : Nfa) (k163 : Nat) : Option ((Nat) ⊕ (Bool × Int)) :=
  iteO (decide (((k163 : Nat) : Int) < ((l114.length : Nat) : Int))) (iteO (x0.ends.contains (nth l114 k163 (0 : Int))) (fin (some (true, 0))) (nxt (k163 + 1))) (fin (some (false, 0)))
noncomputable def whittleref10_Takes_b1 (x1 : List UInt8) (x0 : Nfa) (l114 : List Int) (k118 : Nat) : Option (((List Int) × Nat) ⊕ (Bool × Int)) :=
  iteO (decide (((k118 : Nat) : Int) < ((x1.length : Nat) : Int))) (iter (fun q : (List Int) × Nat => whittleref10_Takes_b2 x0 x1 k118 l114 q.1 q.2) (([] : List Int), 0)) (fin (iter (fun q : Nat => whittleref10_Takes_b3 l114 x0 q) 0))
noncomputable def whittleref10_Takes (x0 : Nfa) (x1 : List UInt8) : Option (Bool × Int) :=
  grd (x1.length ≤ 281474976710656) (iteO (!(checkB x0)) (some (false, 1)) (iter (fun q : (List Int) × Nat => whittleref10_Takes_b1 x1 x0 q.1 q.2) (x0.starts, 0)))
noncomputable def whittleref10_Text_b1 (x0 : List UInt8) (l123 : List Arrow) (k126 : Nat) : Option (((List Arrow) × Nat) ⊕ (Nfa × Int)) :=
  iteO (decide (((k126 : Nat) : Int) < ((x0.length : Nat) : Int))) (grd (k126 ≤ (k126 + 1) ∧ (k126 + 1) ≤ x0.length) (grd (((x0.take (k126 + 1)).drop k126).length ≤ 281474976710656) (grd (((x0.take (k126 + 1)).drop k126).length ≤ 1000000000000) (grd ((l123.length + [(⟨((k126 : Nat) : Int), (((k126 + 1) : Nat) : Int), (BSet.ofL ((x0.take (k126 + 1)).drop k126))⟩ : Arrow)].length) * 48 ≤ 140737488355328) (nxt ((l123 ++ [(⟨((k126 : Nat) : Int), (((k126 + 1) : Nat) : Int), (BSet.ofL ((x0.take (k126 + 1)).drop k126))⟩ : Arrow)]), (k126 + 1))))))) (fin (some ((⟨(((x0.length + 1) : Nat) : Int), [0], [((x0.length : Nat) : Int)], l123⟩ : Nfa), 0)))
noncomputable def whittleref10_Text (x0 : List UInt8) : Option (Nfa × Int) :=
  grd (x0.length ≤ 281474976710656) (iteO (decide (256 < ((x0.length : Nat) : Int))) (some ((⟨0, ([] : List Int), ([] : List Int), ([] : List Arrow)⟩ : Nfa), 2)) (iter (fun q : (List Arrow) × Nat => whittleref10_Text_b1 x0 q.1 q.2) (([] : List Arrow), 0)))
def whittleref10_Text_P (σ : Store) (r : Nfa × Int) : Value → Store → List Res → Prop := fun v σ' H' =>
  ∃ (a1 : Option Addr), ∃ (c1 : Nat), ∃ (a2 : Option Addr), ∃ (c2 : Nat), ∃ (a3 : Option Addr), ∃ (c3 : Nat),  v = .tuple #[.agg #[.int .i64 r.1.states, .slice a1 r.1.starts.length c1, .slice a2 r.1.ends.length c2, .slice a3 r.1.edges.length c3], .int .i64 r.2] ∧ RS σ' 1 Go.E.encI (.slice a1 r.1.starts.length c1) r.1.starts ∧ RS σ' 1 Go.E.encI (.slice a2 r.1.ends.length c2) r.1.ends ∧ RS σ' 6 encE (.slice a3 r.1.edges.length c3) r.1.edges ∧ H' = []
theorem whittleref10_Text_con {σ : Store} {x0 : List UInt8}  {r : Nfa × Int} (hh : whittleref10_Text x0 = some r) :
    Con Try.prog 16 #[.string (bs x0)] σ [] (whittleref10_Text_P σ r) := by
  dsimp only [whittleref10_Text] at hh
  refine Con.mk (n := 41) Try.func16 rfl rfl rfl (fun w0 => ?_)
  have x0b := grd_c hh
  replace hh := grd_t hh
  refine TC.seq ?_
  refine TC.region ?_
  refine TL.op rfl (OpOk.alloc rfl ze25 rfl rfl (fun b101 => ?_))
  refine TL.v rfl (OpVal.moveI (.inr rfl) rfl) rfl rfl ?_
  refine TL.nil ?_
  refine S.n ?_
  refine TC.seq ?_
  refine TC.seq ?_
  refine TC.region ?_
  refine TL.v rfl (OpVal.moveStr (.inl rfl) rfl) rfl rfl ?_
  refine TL.v rfl (OpVal.lenBs rfl Try.underlying9 rfl) rfl rfl ?_
  refine TL.v rfl (OpVal.gtr rfl rfl rfl) rfl rfl ?_
  refine TL.nil ?_
  refine S.n ?_
  refine TC.cond rfl (fun h103 => ?_) (fun h103 => ?_)
  · replace hh := iteO_t h103 hh
    replace h103 := of_decide_eq_true h103
    refine TC.seq ?_
    refine TC.region ?_
    refine TL.v rfl (OpVal.buildL rfl pl25 ze25 rfl) rfl rfl ?_
    refine TL.op rfl (OpOk.storeAll rfl sz25 rfl rfl rfl rfl rfl rfl ?_)
    refine TL.v rfl (OpVal.moveI (.inr rfl) rfl) rfl rfl ?_
    refine TL.nil ?_
    refine S.n ?_
    refine TC.ret ?_
    refine S.r ?_
    obtain rfl := Option.some.inj hh
    exact RetOk.mk' (rs := [.cell 2 25, .tmp 3]) [] rfl (.inl rfl) (RVs.agg ag25 sz25 rfl (i := 0) rfl rfl (RVs.tmp rfl RVs.nil)) (List.sublist_append_left _ _) ⟨none, 0, none, 0, none, 0, rfl, (RS.nilF _ Go.E.encI Go.E.encI_len), (RS.nilF _ Go.E.encI Go.E.encI_len), (RS.nilF _ encE encE_len), rfl⟩
  · replace hh := iteO_f h103 hh
    replace h103 := of_decide_eq_false h103
    refine TC.skip ?_
    refine S.n ?_
    refine TC.seq ?_
    refine TC.region ?_
    refine TL.v rfl (OpVal.moveStr (.inl rfl) rfl) rfl rfl ?_
    refine TL.v rfl (OpVal.lenBs rfl Try.underlying9 rfl) rfl rfl ?_
    refine TL.v rfl (OpVal.succ rfl rfl rfl (by omega)) rfl rfl ?_
    refine TL.op rfl (OpOk.lit (enc := Go.E.encI) [0] rfl Try.underlying22 sz3 ze3 rfl rfl rfl Go.E.encI_len (by decide) (by decide) (0 : Int) rfl (by decide) rfl (by decide) Go.E.encI_one (fun a104 c105 => ?_))
    refine TL.v rfl (OpVal.moveStr (.inl rfl) rfl) rfl rfl ?_
    refine TL.v rfl (OpVal.lenBs rfl Try.underlying9 rfl) rfl rfl ?_
    refine TL.op rfl (OpOk.lit (enc := Go.E.encI) [((x0.length : Nat) : Int)] rfl Try.underlying22 sz3 ze3 rfl rfl rfl Go.E.encI_len (by decide) (by decide) (0 : Int) rfl (by decide) rfl (by decide) Go.E.encI_one (fun a107 c108 => ?_))
    refine TL.v rfl (OpVal.buildL rfl pl25 ze25 rfl) rfl rfl ?_
    refine TL.op rfl (OpOk.alloc rfl ze25 rfl rfl (fun b110 => ?_))
    refine TL.op rfl (OpOk.storeAll rfl sz25 rfl rfl rfl rfl rfl rfl ?_)
    refine TL.nil ?_
    refine S.n ?_
    refine TC.seq ?_
    refine TC.seq ?_
    refine TC.region ?_
    refine TL.v rfl (OpVal.moveI (.inr rfl) rfl) rfl rfl ?_
    refine TL.nil ?_
    refine S.n ?_
    refine TC.block ?_
    refine TC.nilS 80 6 encE ?_
    refine TC.loopG (α := ((List Arrow) × Nat) × ((Option Addr) × Nat × Store)) [5, 18, 19, 20, 21, 22, 23, 24, 25, 26, 27, 28, 29, 30, 31, 32, 33, 34, 35, 36, 37, 38, 39] (fun g => [(5, .int .i64 ((g.1.2 : Nat) : Int))]) (fun g => [Res.cells b101 #[.int .i64 0, .slice none 0 0, .slice none 0 0, .slice none 0 0] 25, Res.cells b110 #[.int .i64 (((x0.length + 1) : Nat) : Int), .slice a104 [0].length c105, .slice a107 ([((x0.length : Nat) : Int)].length) c108, .slice g.2.1 g.1.1.length g.2.2.1] 25, Res.rowS 3 1 Go.E.encI (.slice a104 [0].length c105) [0], Res.rowS 3 1 Go.E.encI (.slice a107 [((x0.length : Nat) : Int)].length c108) [((x0.length : Nat) : Int)], Res.rowS 80 6 encE (.slice g.2.1 g.1.1.length g.2.2.1) g.1.1]) (fun g => g.2.2.2) (fun g => iter (fun q : (List Arrow) × Nat => whittleref10_Text_b1 x0 q.1 q.2) g.1 = some r ∧ Store.le σ g.2.2.2) (fun g => rounds (fun q : (List Arrow) × Nat => whittleref10_Text_b1 x0 q.1 q.2) g.1) ((([] : List Arrow), 0), (none, 0, σ)) (Sub.front 2 rfl rfl (Sub.front 3 rfl rfl (Sub.front 3 rfl rfl (Sub.front 4 rfl rfl (Sub.pre 5 rfl))))) rfl (by repeat (first | exact trivial | refine ⟨rfl, ?_⟩)) ⟨hh, (Store.le.refl _)⟩ (fun g1 j1 hg1 => ?_)
    obtain ⟨⟨l123, k126⟩, ⟨a124, c125, τ128⟩⟩ := g1
    obtain ⟨hh, hle129⟩ := hg1
    dsimp only at hle129
    show TC _ _ _ (upds (mask _ j1 _) [(5, .int .i64 ((k126 : Nat) : Int))]) τ128 [Res.cells b101 #[.int .i64 0, .slice none 0 0, .slice none 0 0, .slice none 0 0] 25, Res.cells b110 #[.int .i64 (((x0.length + 1) : Nat) : Int), .slice a104 [0].length c105, .slice a107 ([((x0.length : Nat) : Int)].length) c108, .slice a124 l123.length c125] 25, Res.rowS 3 1 Go.E.encI (.slice a104 [0].length c105) [0], Res.rowS 3 1 Go.E.encI (.slice a107 [((x0.length : Nat) : Int)].length c108) [((x0.length : Nat) : Int)], Res.rowS 80 6 encE (.slice a124 l123.length c125) l123]
    obtain ⟨z1, hh, hR1⟩ := iter_e hh
    dsimp only [whittleref10_Text_b1] at hh
    refine TC.isSl (i := 2) rfl (fun _ hb130 _ => ?_)
    refine TC.isSl (i := 3) rfl (fun _ hb131 _ => ?_)
    refine TC.isSl (i := 4) rfl (fun _ hb132 _ => ?_)
    refine TC.seq ?_
    refine TC.seq ?_
    refine TC.region ?_
    refine TL.v rfl (OpVal.moveI (.inl rfl) rfl) rfl rfl ?_
    refine TL.v rfl (OpVal.moveStr (.inl rfl) rfl) rfl rfl ?_
    refine TL.v rfl (OpVal.lenBs rfl Try.underlying9 rfl) rfl rfl ?_
    refine TL.v rfl (OpVal.lss rfl rfl rfl) rfl rfl ?_
    refine TL.nil ?_
    refine S.n ?_
    refine TC.cond rfl (fun h133 => ?_) (fun h133 => ?_)
    · replace hh := iteO_t h133 hh
      replace h133 := of_decide_eq_true h133
      refine TC.skip ?_
      refine S.n ?_
      refine TC.seq ?_
      refine TC.block ?_
      have u33 := grd_c hh
      replace hh := grd_t hh
      have u34 := grd_c hh
      replace hh := grd_t hh
      have u35 := grd_c hh
      replace hh := grd_t hh
      have u38 := grd_c hh
      replace hh := grd_t hh
      refine TC.draw [14, 15, 16] (by kernel_rfl) ?_
      refine TA.takeP 0 rfl (by kernel_rfl) (by kernel_rfl) (by kernel_rfl) rfl (OpVal.fieldLoc rfl fo25_3 rfl) rfl rfl ?_
      refine TA.take 1 rfl (by kernel_rfl) (by kernel_rfl) (by kernel_rfl) (by kernel_rfl) rfl (OpVal.loadLoc rfl ag23 rfl (i := 1) rfl rfl) rfl rfl ?_
      refine TA.takeP 2 rfl (by kernel_rfl) (by kernel_rfl) (by kernel_rfl) rfl (OpVal.moveI (.inl rfl) rfl) rfl rfl ?_
      refine TA.takeP 3 rfl (by kernel_rfl) (by kernel_rfl) (by kernel_rfl) rfl (OpVal.moveI (.inl rfl) rfl) rfl rfl ?_
      refine TA.takeP 4 rfl (by kernel_rfl) (by kernel_rfl) (by kernel_rfl) rfl (OpVal.succ rfl rfl rfl (by omega)) rfl rfl ?_
      refine TA.takeP 5 rfl (by kernel_rfl) (by kernel_rfl) (by kernel_rfl) rfl (OpVal.moveStr (.inl rfl) rfl) rfl rfl ?_
      refine TA.takeP 6 rfl (by kernel_rfl) (by kernel_rfl) (by kernel_rfl) rfl (OpVal.moveI (.inl rfl) rfl) rfl rfl ?_
      refine TA.takeP 7 rfl (by kernel_rfl) (by kernel_rfl) (by kernel_rfl) rfl (OpVal.moveI (.inl rfl) rfl) rfl rfl ?_
      refine TA.takeP 8 rfl (by kernel_rfl) (by kernel_rfl) (by kernel_rfl) rfl (OpVal.succ rfl rfl rfl (by omega)) rfl rfl ?_
      refine TA.take 9 rfl (by kernel_rfl) (by kernel_rfl) (by kernel_rfl) (by kernel_rfl) rfl (OpVal.sliceBs (l := x0) (i := k126) (j := (k126 + 1)) rfl Try.underlying9 rfl rfl rfl (by omega) (by omega)) rfl rfl ?_
      refine TA.act 10 (by kernel_rfl) rfl rfl (OpOk.convBs rfl Try.underlying9 Try.underlying78 Try.underlying5 rfl rfl rfl u34 ?_)
      intro a140 c140 τ140 hle140 hr140
      have hr140b := hr140.rv.big
      refine ⟨(fun w h => sees_of hle140 (fun r hr => hr) w h), ?_⟩
      refine TA.act 11 (by kernel_rfl) rfl rfl (OpOk.callP (rofs_con _ a140 c140 ((x0.take (k126 + 1)).drop k126) hr140 u35) rfl rfl pf54 rfl rfl rfl ⟨(fun w h => sees_of hle140 (fun r hr => hr) w h), ?_⟩)
      refine TA.takeP 12 rfl (by kernel_rfl) (by kernel_rfl) (by kernel_rfl) rfl (OpVal.buildL rfl pl80 ze80 rfl) rfl rfl ?_
      refine TA.act 13 (by kernel_rfl) rfl rfl (OpOk.lit (enc := encE) [(⟨((k126 : Nat) : Int), (((k126 + 1) : Nat) : Int), (BSet.ofL ((x0.take (k126 + 1)).drop k126))⟩ : Arrow)] rfl Try.underlying23 sz80 ze80 rfl rfl rfl encE_len (by decide) (by decide) Arrow.zero rfl (by decide) rfl (by decide) encE_one (fun a141 c142 => ⟨(fun w h => sees_of hle140 (fun r hr => (List.mem_cons_of_mem _ hr)) w h), ?_⟩))
      refine TA.front 5 rfl rfl ?_
      refine TA.last 14 (by kernel_rfl) rfl rfl rfl (OpOk.appendS rfl rfl Try.underlying23 sz80 by80 ze80 rfl rfl (by decide) rfl rfl rfl (.inr ⟨_, 0, rfl⟩) (by simpa using u38) (by decide) (fun a144 c145 => ?_))
      refine TZ.v 15 (by kernel_rfl) rfl rfl rfl (OpVal.fieldLoc rfl fo25_3 rfl) rfl rfl ?_
      refine TZ.front 3 rfl rfl ?_
      refine TZ.last 16 (by kernel_rfl) rfl rfl rfl (OpOk.storeSl rfl sz23 rfl rfl rfl rfl rfl ?_)
      refine TZ.done (by kernel_rfl) ?_
      refine B.n ?_
      refine S.n ?_
      refine TC.region ?_
      refine TL.v rfl (OpVal.moveI (.inl rfl) rfl) rfl rfl ?_
      refine TL.v rfl (OpVal.succ rfl rfl rfl (by omega)) rfl rfl ?_
      refine TL.v rfl (OpVal.moveI (.inr rfl) rfl) rfl rfl ?_
      refine TL.nil ?_
      refine S.n ?_
      obtain ⟨hh, hlt146⟩ := nxt_x hR1 hh
      refine ⟨by repeat (first | exact Agr.refl _ _ | exact Agr.mask | refine Agr.upd rfl ?_ | refine Agr.maskIn rfl ?_ | refine Agr.upds rfl ?_), (((l123 ++ [(⟨((k126 : Nat) : Int), (((k126 + 1) : Nat) : Int), (BSet.ofL ((x0.take (k126 + 1)).drop k126))⟩ : Arrow)]), (k126 + 1)), (a144, c145, τ140)), hlt146, ⟨hh, (hle129.trans hle140)⟩, by repeat (first | exact trivial | refine ⟨rfl, ?_⟩), Sub.front 1 rfl rfl (Sub.front 5 rfl rfl (Sub.front 5 rfl rfl (Sub.front 3 rfl rfl (Sub.front 5 rfl rfl (Sub.pre 5 rfl))))), rfl⟩
    · replace hh := iteO_f h133 hh
      replace h133 := of_decide_eq_false h133
      refine TC.exit ?_
      refine S.x ?_
      refine S.x ?_
      replace hh := fin_x hR1 hh
      refine TC.exitHere ?_
      refine S.n ?_
      refine TC.seq ?_
      refine TC.region ?_
      refine TL.v rfl (OpVal.loadAll rfl ag25 sz25 rfl (i := 1) rfl rfl) rfl rfl ?_
      refine TL.op rfl (OpOk.storeAll rfl sz25 rfl rfl rfl rfl rfl rfl ?_)
      refine TL.v rfl (OpVal.moveI (.inr rfl) rfl) rfl rfl ?_
      refine TL.nil ?_
      refine S.n ?_
      refine TC.front 2 rfl rfl ?_
      refine TC.sealS Go.E.encI_len (fun τ149 hle148 hr147 => ?_)
      have hr147b := hr147.rv.big
      refine TC.front 2 rfl rfl ?_
      refine TC.sealS Go.E.encI_len (fun τ152 hle151 hr150 => ?_)
      replace hr147 := hr147.mono hle151
      have hr150b := hr150.rv.big
      refine TC.front 2 rfl rfl ?_
      refine TC.sealS encE_len (fun τ155 hle154 hr153 => ?_)
      replace hr147 := hr147.mono hle154
      replace hr150 := hr150.mono hle154
      have hr153b := hr153.rv.big
      refine TC.ofSub (Sub.pre 1 rfl) ?_
      refine TC.ret ?_
      obtain rfl := Option.some.inj hh
      exact RetOk.mk' (rs := [.cell 2 25, .tmp 3]) [] rfl (.inl rfl) (RVs.agg ag25 sz25 rfl (i := 0) rfl rfl (RVs.tmp rfl RVs.nil)) (List.sublist_append_left _ _) ⟨a104, c105, a107, c108, a124, c125, rfl, hr147, hr150, hr153, rfl⟩

end Go.Proofs.Ytcidppnlhhkhhaa
end

/- N2 -/
section
/- Decompiled: the laws on what is made, and on what is taken. -/
set_option linter.unusedVariables false
set_option linter.unusedSimpArgs false
namespace Go.Proofs.Ytcidppnlhhkhhaa
open Go Go.E
set_option maxRecDepth 100000
private theorem pf15 : Go.E.plainF Try.prog 15 = true := by kernel_rfl
private theorem pf21 : Go.E.plainF Try.prog 21 = true := by kernel_rfl
private theorem pf23 : Go.E.plainF Try.prog 23 = true := by kernel_rfl
private theorem pf27 : Go.E.plainF Try.prog 27 = true := by kernel_rfl
private theorem pf31 : Go.E.plainF Try.prog 31 = true := by kernel_rfl

noncomputable def whittlelaw10_awake : Option (Bool) :=
  grd (([97, 98] : List UInt8).length ≤ 1000000000000) (grd ([(99 : UInt8)].length ≤ 1000000000000) (bnd (nfa_Takes (catR (textR ([97, 98] : List UInt8)) (starR (setN (BSet.ofL [(99 : UInt8)])))) ([97, 98, 99, 99] : List UInt8)) (fun v29 => bnd (nfa_Takes (catR (textR ([97, 98] : List UInt8)) (starR (setN (BSet.ofL [(99 : UInt8)])))) ([97, 99] : List UInt8)) (fun v36 => iteO (decide ((textX ([97, 98] : List UInt8)) = 0)) (iteO (decide ((starX (setN (BSet.ofL [(99 : UInt8)]))) = (textX ([97, 98] : List UInt8)))) (iteO (decide ((catX (textR ([97, 98] : List UInt8)) (starR (setN (BSet.ofL [(99 : UInt8)])))) = (textX ([97, 98] : List UInt8)))) (iteO v29.1 (iteO (decide (v29.2 = (textX ([97, 98] : List UInt8)))) (iteO (!v36.1) (some (decide (v36.2 = (textX ([97, 98] : List UInt8))))) (some false)) (some false)) (some false)) (some false)) (some false)) (some false)))))
theorem whittlelaw10_awake_con {σ : Store}   {r : Bool} (hh : whittlelaw10_awake = some r) :
    Con Try.prog 17 #[] σ [] (PureP (.bool r) σ) := by
  dsimp only [whittlelaw10_awake] at hh
  refine Con.mk (n := 67) Try.func17 rfl rfl rfl (fun w0 => ?_)
  refine TC.seq ?_
  refine TC.region ?_
  refine TL.v rfl (OpVal.moveB (.inr rfl) rfl) rfl rfl ?_
  refine TL.nil ?_
  refine S.n ?_
  refine TC.seq ?_
  refine TC.region ?_
  have u2a := grd_c hh
  replace hh := grd_t hh
  refine TL.op rfl (OpOk.call (text_con _ (bs ([97, 98] : List UInt8)) u2a) rfl rfl pf15 rfl rfl rfl rfl ?_)
  rintro _ τ101 _ hle101 ⟨p101, rfl, hn101, rfl⟩
  have hn101sb := hn101.s.rv.big
  have hn101eb := hn101.e.rv.big
  have hn101db := hn101.d.rv.big
  refine TL.v rfl (OpVal.moveT (.inl rfl) rfl) rfl rfl ?_
  refine TL.v rfl (OpVal.extract rfl rfl rfl) rfl rfl ?_
  refine TL.v rfl (OpVal.extract rfl rfl rfl) rfl rfl ?_
  refine TL.op rfl (OpOk.alloc rfl ze25 rfl rfl (fun b102 => ?_))
  refine TL.op rfl (OpOk.storeAll rfl sz25 rfl rfl rfl rfl rfl rfl ?_)
  refine TL.v rfl (OpVal.moveI (.inr rfl) rfl) rfl rfl ?_
  refine TL.nil ?_
  refine S.n ?_
  refine TC.seq ?_
  refine TC.region ?_
  refine TL.op rfl (OpOk.lit (enc := encU8) [(99 : UInt8)] rfl Try.underlying78 sz5 ze5 rfl rfl rfl encU8_len (by decide) (by decide) (0 : UInt8) rfl (by decide) rfl (by decide) encU8_one (fun a104 c105 => ?_))
  have u10 := grd_c hh
  replace hh := grd_t hh
  refine TL.op rfl (OpOk.callT (of_con _ _ _ [(99 : UInt8)] u10) rfl rfl pf53 rfl rfl rfl rfl ?_)
  refine TL.op rfl (OpOk.call (set_con _ (BSet.ofL [(99 : UInt8)]) (BSet.isOk _)) rfl rfl pf21 rfl rfl rfl rfl ?_)
  rintro _ τ107 _ hle107 ⟨p107, rfl, hn107, rfl⟩
  replace hn101 := hn101.mono hle107
  have hn107sb := hn107.s.rv.big
  have hn107eb := hn107.e.rv.big
  have hn107db := hn107.d.rv.big
  refine TL.op rfl (OpOk.call (star_con _ (setN (BSet.ofL [(99 : UInt8)])) ⟨p107.a1, p107.c1, p107.a2, p107.c2, p107.a3, p107.c3⟩ ⟨hn107.s, hn107.e, hn107.d, fun x _ => x.set.isOk⟩) rfl rfl pf31 rfl rfl rfl rfl ?_)
  rintro _ τ108 _ hle108 ⟨p108, rfl, hn108, rfl⟩
  replace hn101 := hn101.mono hle108
  replace hn107 := hn107.mono hle108
  have hn108sb := hn108.s.rv.big
  have hn108eb := hn108.e.rv.big
  have hn108db := hn108.d.rv.big
  refine TL.v rfl (OpVal.moveT (.inl rfl) rfl) rfl rfl ?_
  refine TL.v rfl (OpVal.extract rfl rfl rfl) rfl rfl ?_
  refine TL.v rfl (OpVal.extract rfl rfl rfl) rfl rfl ?_
  refine TL.op rfl (OpOk.alloc rfl ze25 rfl rfl (fun b109 => ?_))
  refine TL.op rfl (OpOk.storeAll rfl sz25 rfl rfl rfl rfl rfl rfl ?_)
  refine TL.v rfl (OpVal.moveI (.inr rfl) rfl) rfl rfl ?_
  refine TL.nil ?_
  refine S.n ?_
  refine TC.seq ?_
  refine TC.region ?_
  refine TL.v rfl (OpVal.loadAll rfl ag25 sz25 rfl (i := 1) rfl rfl) rfl rfl ?_
  refine TL.v rfl (OpVal.loadAll rfl ag25 sz25 rfl (i := 0) rfl rfl) rfl rfl ?_
  refine TL.op rfl (OpOk.call (cat_con _ (textR ([97, 98] : List UInt8)) (starR (setN (BSet.ofL [(99 : UInt8)]))) ⟨p101.a1, p101.c1, p101.a2, p101.c2, p101.a3, p101.c3⟩ ⟨p108.a1, p108.c1, p108.a2, p108.c2, p108.a3, p108.c3⟩ ⟨hn101.s, hn101.e, hn101.d, fun x _ => x.set.isOk⟩ ⟨hn108.s, hn108.e, hn108.d, fun x _ => x.set.isOk⟩) rfl rfl pf27 rfl rfl rfl rfl ?_)
  rintro _ τ111 _ hle111 ⟨p111, rfl, hn111, rfl⟩
  replace hn101 := hn101.mono hle111
  replace hn107 := hn107.mono hle111
  replace hn108 := hn108.mono hle111
  have hn111sb := hn111.s.rv.big
  have hn111eb := hn111.e.rv.big
  have hn111db := hn111.d.rv.big
  refine TL.v rfl (OpVal.moveT (.inl rfl) rfl) rfl rfl ?_
  refine TL.v rfl (OpVal.extract rfl rfl rfl) rfl rfl ?_
  refine TL.v rfl (OpVal.extract rfl rfl rfl) rfl rfl ?_
  refine TL.op rfl (OpOk.alloc rfl ze25 rfl rfl (fun b112 => ?_))
  refine TL.op rfl (OpOk.storeAll rfl sz25 rfl rfl rfl rfl rfl rfl ?_)
  refine TL.v rfl (OpVal.moveI (.inr rfl) rfl) rfl rfl ?_
  refine TL.nil ?_
  refine S.n ?_
  refine TC.seq ?_
  refine TC.region ?_
  refine TL.v rfl (OpVal.loadAll rfl ag25 sz25 rfl (i := 0) rfl rfl) rfl rfl ?_
  obtain ⟨v29, u29, hh⟩ := bnd_e hh
  refine TL.op rfl (OpOk.callP (nfa_Takes_con (x0 := (catR (textR ([97, 98] : List UInt8)) (starR (setN (BSet.ofL [(99 : UInt8)]))))) hn111.s hn111.e hn111.d u29) rfl rfl pf23 rfl rfl rfl ?_)
  refine TL.v rfl (OpVal.moveT (.inl rfl) rfl) rfl rfl ?_
  refine TL.v rfl (OpVal.extract rfl rfl rfl) rfl rfl ?_
  refine TL.v rfl (OpVal.extract rfl rfl rfl) rfl rfl ?_
  refine TL.v rfl (OpVal.moveB (.inr rfl) rfl) rfl rfl ?_
  refine TL.v rfl (OpVal.moveI (.inr rfl) rfl) rfl rfl ?_
  refine TL.nil ?_
  refine S.n ?_
  refine TC.seq ?_
  refine TC.region ?_
  refine TL.v rfl (OpVal.loadAll rfl ag25 sz25 rfl (i := 0) rfl rfl) rfl rfl ?_
  obtain ⟨v36, u36, hh⟩ := bnd_e hh
  refine TL.op rfl (OpOk.callP (nfa_Takes_con (x0 := (catR (textR ([97, 98] : List UInt8)) (starR (setN (BSet.ofL [(99 : UInt8)]))))) hn111.s hn111.e hn111.d u36) rfl rfl pf23 rfl rfl rfl ?_)
  refine TL.v rfl (OpVal.moveT (.inl rfl) rfl) rfl rfl ?_
  refine TL.v rfl (OpVal.extract rfl rfl rfl) rfl rfl ?_
  refine TL.v rfl (OpVal.extract rfl rfl rfl) rfl rfl ?_
  refine TL.v rfl (OpVal.moveB (.inr rfl) rfl) rfl rfl ?_
  refine TL.v rfl (OpVal.moveI (.inr rfl) rfl) rfl rfl ?_
  refine TL.nil ?_
  refine S.n ?_
  refine TC.seq ?_
  refine TC.region ?_
  refine TL.v rfl (OpVal.moveI (.inl rfl) rfl) rfl rfl ?_
  refine TL.v rfl (OpVal.eql rfl rfl rfl) rfl rfl ?_
  refine TL.v rfl (OpVal.moveB (.inl rfl) rfl) rfl rfl ?_
  refine TL.split 40 rfl (fun h114 => ?_) (fun h114 => ?_)
  · replace hh := iteO_t h114 hh
    replace h114 := of_decide_eq_true h114
    refine TL.gv rfl rfl rfl rfl rfl (OpVal.moveI (.inl rfl) rfl) rfl rfl ?_
    refine TL.gv rfl rfl rfl rfl rfl (OpVal.moveI (.inl rfl) rfl) rfl rfl ?_
    refine TL.gv rfl rfl rfl rfl rfl (OpVal.eql rfl rfl rfl) rfl rfl ?_
    refine TL.v rfl (OpVal.pickTB rfl rfl rfl) rfl rfl ?_
    refine TL.v rfl (OpVal.moveB (.inl rfl) rfl) rfl rfl ?_
    refine TL.split 45 rfl (fun h115 => ?_) (fun h115 => ?_)
    · replace hh := iteO_t h115 hh
      replace h115 := of_decide_eq_true h115
      refine TL.gv rfl rfl rfl rfl rfl (OpVal.moveI (.inl rfl) rfl) rfl rfl ?_
      refine TL.gv rfl rfl rfl rfl rfl (OpVal.moveI (.inl rfl) rfl) rfl rfl ?_
      refine TL.gv rfl rfl rfl rfl rfl (OpVal.eql rfl rfl rfl) rfl rfl ?_
      refine TL.v rfl (OpVal.pickTB rfl rfl rfl) rfl rfl ?_
      refine TL.v rfl (OpVal.moveB (.inl rfl) rfl) rfl rfl ?_
      refine TL.split 50 rfl (fun h116 => ?_) (fun h116 => ?_)
      · replace hh := iteO_t h116 hh
        replace h116 := of_decide_eq_true h116
        refine TL.gv rfl rfl rfl rfl rfl (OpVal.moveB (.inl rfl) rfl) rfl rfl ?_
        refine TL.v rfl (OpVal.pickTB rfl rfl rfl) rfl rfl ?_
        refine TL.v rfl (OpVal.moveB (.inl rfl) rfl) rfl rfl ?_
        refine TL.split 53 rfl (fun h117 => ?_) (fun h117 => ?_)
        · replace hh := iteO_t h117 hh
          refine TL.gv rfl rfl rfl rfl rfl (OpVal.moveI (.inl rfl) rfl) rfl rfl ?_
          refine TL.gv rfl rfl rfl rfl rfl (OpVal.moveI (.inl rfl) rfl) rfl rfl ?_
          refine TL.gv rfl rfl rfl rfl rfl (OpVal.eql rfl rfl rfl) rfl rfl ?_
          refine TL.v rfl (OpVal.pickTB rfl rfl rfl) rfl rfl ?_
          refine TL.v rfl (OpVal.moveB (.inl rfl) rfl) rfl rfl ?_
          refine TL.split 58 rfl (fun h118 => ?_) (fun h118 => ?_)
          · replace hh := iteO_t h118 hh
            replace h118 := of_decide_eq_true h118
            refine TL.gv rfl rfl rfl rfl rfl (OpVal.moveB (.inl rfl) rfl) rfl rfl ?_
            refine TL.gv rfl rfl rfl rfl rfl (OpVal.not rfl rfl) rfl rfl ?_
            refine TL.v rfl (OpVal.pickTB rfl rfl rfl) rfl rfl ?_
            refine TL.v rfl (OpVal.moveB (.inl rfl) rfl) rfl rfl ?_
            refine TL.split 62 rfl (fun h119 => ?_) (fun h119 => ?_)
            · replace hh := iteO_t h119 hh
              refine TL.gv rfl rfl rfl rfl rfl (OpVal.moveI (.inl rfl) rfl) rfl rfl ?_
              refine TL.gv rfl rfl rfl rfl rfl (OpVal.moveI (.inl rfl) rfl) rfl rfl ?_
              refine TL.gv rfl rfl rfl rfl rfl (OpVal.eql rfl rfl rfl) rfl rfl ?_
              refine TL.v rfl (OpVal.pickTB rfl rfl rfl) rfl rfl ?_
              refine TL.v rfl (OpVal.moveB (.inr rfl) rfl) rfl rfl ?_
              refine TL.nil ?_
              refine S.n ?_
              refine TC.ofSub (Sub.pre 0 rfl) ?_
              refine TC.back ?_
              refine TC.ret ?_
              obtain rfl := Option.some.inj hh
              exact RetOk.mk' (rs := [.tmp 0]) [] rfl (.inl rfl) (RVs.tmp rfl RVs.nil) (List.sublist_append_left _ _) ⟨rfl, rfl, rfl⟩
            · replace hh := iteO_f h119 hh
              refine TL.goff rfl rfl rfl rfl rfl rfl rfl rfl ?_
              refine TL.goff rfl rfl rfl rfl rfl rfl rfl rfl ?_
              refine TL.goff rfl rfl rfl rfl rfl rfl rfl rfl ?_
              refine TL.v rfl (OpVal.pickFB rfl rfl rfl) rfl rfl ?_
              refine TL.v rfl (OpVal.moveB (.inr rfl) rfl) rfl rfl ?_
              refine TL.nil ?_
              refine S.n ?_
              refine TC.ofSub (Sub.pre 0 rfl) ?_
              refine TC.back ?_
              refine TC.ret ?_
              obtain rfl := Option.some.inj hh
              exact RetOk.mk' (rs := [.tmp 0]) [] rfl (.inl rfl) (RVs.tmp rfl RVs.nil) (List.sublist_append_left _ _) ⟨rfl, rfl, rfl⟩
          · replace hh := iteO_f h118 hh
            replace h118 := of_decide_eq_false h118
            refine TL.goff rfl rfl rfl rfl rfl rfl rfl rfl ?_
            refine TL.goff rfl rfl rfl rfl rfl rfl rfl rfl ?_
            refine TL.v rfl (OpVal.pickFB rfl rfl rfl) rfl rfl ?_
            refine TL.v rfl (OpVal.moveB (.inl rfl) rfl) rfl rfl ?_
            refine TL.goff rfl rfl rfl rfl rfl rfl rfl rfl ?_
            refine TL.goff rfl rfl rfl rfl rfl rfl rfl rfl ?_
            refine TL.goff rfl rfl rfl rfl rfl rfl rfl rfl ?_
            refine TL.v rfl (OpVal.pickFB rfl rfl rfl) rfl rfl ?_
            refine TL.v rfl (OpVal.moveB (.inr rfl) rfl) rfl rfl ?_
            refine TL.nil ?_
            refine S.n ?_
            refine TC.ofSub (Sub.pre 0 rfl) ?_
            refine TC.back ?_
            refine TC.ret ?_
            obtain rfl := Option.some.inj hh
            exact RetOk.mk' (rs := [.tmp 0]) [] rfl (.inl rfl) (RVs.tmp rfl RVs.nil) (List.sublist_append_left _ _) ⟨rfl, rfl, rfl⟩
        · replace hh := iteO_f h117 hh
          refine TL.goff rfl rfl rfl rfl rfl rfl rfl rfl ?_
          refine TL.goff rfl rfl rfl rfl rfl rfl rfl rfl ?_
          refine TL.goff rfl rfl rfl rfl rfl rfl rfl rfl ?_
          refine TL.v rfl (OpVal.pickFB rfl rfl rfl) rfl rfl ?_
          refine TL.v rfl (OpVal.moveB (.inl rfl) rfl) rfl rfl ?_
          refine TL.goff rfl rfl rfl rfl rfl rfl rfl rfl ?_
          refine TL.goff rfl rfl rfl rfl rfl rfl rfl rfl ?_
          refine TL.v rfl (OpVal.pickFB rfl rfl rfl) rfl rfl ?_
          refine TL.v rfl (OpVal.moveB (.inl rfl) rfl) rfl rfl ?_
          refine TL.goff rfl rfl rfl rfl rfl rfl rfl rfl ?_
          refine TL.goff rfl rfl rfl rfl rfl rfl rfl rfl ?_
          refine TL.goff rfl rfl rfl rfl rfl rfl rfl rfl ?_
          refine TL.v rfl (OpVal.pickFB rfl rfl rfl) rfl rfl ?_
          refine TL.v rfl (OpVal.moveB (.inr rfl) rfl) rfl rfl ?_
          refine TL.nil ?_
          refine S.n ?_
          refine TC.ofSub (Sub.pre 0 rfl) ?_
          refine TC.back ?_
          refine TC.ret ?_
          obtain rfl := Option.some.inj hh
          exact RetOk.mk' (rs := [.tmp 0]) [] rfl (.inl rfl) (RVs.tmp rfl RVs.nil) (List.sublist_append_left _ _) ⟨rfl, rfl, rfl⟩
      · replace hh := iteO_f h116 hh
        replace h116 := of_decide_eq_false h116
        refine TL.goff rfl rfl rfl rfl rfl rfl rfl rfl ?_
        refine TL.v rfl (OpVal.pickFB rfl rfl rfl) rfl rfl ?_
        refine TL.v rfl (OpVal.moveB (.inl rfl) rfl) rfl rfl ?_
        refine TL.goff rfl rfl rfl rfl rfl rfl rfl rfl ?_
        refine TL.goff rfl rfl rfl rfl rfl rfl rfl rfl ?_
        refine TL.goff rfl rfl rfl rfl rfl rfl rfl rfl ?_
        refine TL.v rfl (OpVal.pickFB rfl rfl rfl) rfl rfl ?_
        refine TL.v rfl (OpVal.moveB (.inl rfl) rfl) rfl rfl ?_
        refine TL.goff rfl rfl rfl rfl rfl rfl rfl rfl ?_
        refine TL.goff rfl rfl rfl rfl rfl rfl rfl rfl ?_
        refine TL.v rfl (OpVal.pickFB rfl rfl rfl) rfl rfl ?_
        refine TL.v rfl (OpVal.moveB (.inl rfl) rfl) rfl rfl ?_
        refine TL.goff rfl rfl rfl rfl rfl rfl rfl rfl ?_
        refine TL.goff rfl rfl rfl rfl rfl rfl rfl rfl ?_
        refine TL.goff rfl rfl rfl rfl rfl rfl rfl rfl ?_
        refine TL.v rfl (OpVal.pickFB rfl rfl rfl) rfl rfl ?_
        refine TL.v rfl (OpVal.moveB (.inr rfl) rfl) rfl rfl ?_
        refine TL.nil ?_
        refine S.n ?_
        refine TC.ofSub (Sub.pre 0 rfl) ?_
        refine TC.back ?_
        refine TC.ret ?_
        obtain rfl := Option.some.inj hh
        exact RetOk.mk' (rs := [.tmp 0]) [] rfl (.inl rfl) (RVs.tmp rfl RVs.nil) (List.sublist_append_left _ _) ⟨rfl, rfl, rfl⟩
    · replace hh := iteO_f h115 hh
      replace h115 := of_decide_eq_false h115
      refine TL.goff rfl rfl rfl rfl rfl rfl rfl rfl ?_
      refine TL.goff rfl rfl rfl rfl rfl rfl rfl rfl ?_
      refine TL.goff rfl rfl rfl rfl rfl rfl rfl rfl ?_
      refine TL.v rfl (OpVal.pickFB rfl rfl rfl) rfl rfl ?_
      refine TL.v rfl (OpVal.moveB (.inl rfl) rfl) rfl rfl ?_
      refine TL.goff rfl rfl rfl rfl rfl rfl rfl rfl ?_
      refine TL.v rfl (OpVal.pickFB rfl rfl rfl) rfl rfl ?_
      refine TL.v rfl (OpVal.moveB (.inl rfl) rfl) rfl rfl ?_
      refine TL.goff rfl rfl rfl rfl rfl rfl rfl rfl ?_
      refine TL.goff rfl rfl rfl rfl rfl rfl rfl rfl ?_
      refine TL.goff rfl rfl rfl rfl rfl rfl rfl rfl ?_
      refine TL.v rfl (OpVal.pickFB rfl rfl rfl) rfl rfl ?_
      refine TL.v rfl (OpVal.moveB (.inl rfl) rfl) rfl rfl ?_
      refine TL.goff rfl rfl rfl rfl rfl rfl rfl rfl ?_
      refine TL.goff rfl rfl rfl rfl rfl rfl rfl rfl ?_
      refine TL.v rfl (OpVal.pickFB rfl rfl rfl) rfl rfl ?_
      refine TL.v rfl (OpVal.moveB (.inl rfl) rfl) rfl rfl ?_
      refine TL.goff rfl rfl rfl rfl rfl rfl rfl rfl ?_
      refine TL.goff rfl rfl rfl rfl rfl rfl rfl rfl ?_
      refine TL.goff rfl rfl rfl rfl rfl rfl rfl rfl ?_
      refine TL.v rfl (OpVal.pickFB rfl rfl rfl) rfl rfl ?_
      refine TL.v rfl (OpVal.moveB (.inr rfl) rfl) rfl rfl ?_
      refine TL.nil ?_
      refine S.n ?_
      refine TC.ofSub (Sub.pre 0 rfl) ?_
      refine TC.back ?_
      refine TC.ret ?_
      obtain rfl := Option.some.inj hh
      exact RetOk.mk' (rs := [.tmp 0]) [] rfl (.inl rfl) (RVs.tmp rfl RVs.nil) (List.sublist_append_left _ _) ⟨rfl, rfl, rfl⟩
  · replace hh := iteO_f h114 hh
    replace h114 := of_decide_eq_false h114
    refine TL.goff rfl rfl rfl rfl rfl rfl rfl rfl ?_
    refine TL.goff rfl rfl rfl rfl rfl rfl rfl rfl ?_
    refine TL.goff rfl rfl rfl rfl rfl rfl rfl rfl ?_
    refine TL.v rfl (OpVal.pickFB rfl rfl rfl) rfl rfl ?_
    refine TL.v rfl (OpVal.moveB (.inl rfl) rfl) rfl rfl ?_
    refine TL.goff rfl rfl rfl rfl rfl rfl rfl rfl ?_
    refine TL.goff rfl rfl rfl rfl rfl rfl rfl rfl ?_
    refine TL.goff rfl rfl rfl rfl rfl rfl rfl rfl ?_
    refine TL.v rfl (OpVal.pickFB rfl rfl rfl) rfl rfl ?_
    refine TL.v rfl (OpVal.moveB (.inl rfl) rfl) rfl rfl ?_
    refine TL.goff rfl rfl rfl rfl rfl rfl rfl rfl ?_
    refine TL.v rfl (OpVal.pickFB rfl rfl rfl) rfl rfl ?_
    refine TL.v rfl (OpVal.moveB (.inl rfl) rfl) rfl rfl ?_
    refine TL.goff rfl rfl rfl rfl rfl rfl rfl rfl ?_
    refine TL.goff rfl rfl rfl rfl rfl rfl rfl rfl ?_
    refine TL.goff rfl rfl rfl rfl rfl rfl rfl rfl ?_
    refine TL.v rfl (OpVal.pickFB rfl rfl rfl) rfl rfl ?_
    refine TL.v rfl (OpVal.moveB (.inl rfl) rfl) rfl rfl ?_
    refine TL.goff rfl rfl rfl rfl rfl rfl rfl rfl ?_
    refine TL.goff rfl rfl rfl rfl rfl rfl rfl rfl ?_
    refine TL.v rfl (OpVal.pickFB rfl rfl rfl) rfl rfl ?_
    refine TL.v rfl (OpVal.moveB (.inl rfl) rfl) rfl rfl ?_
    refine TL.goff rfl rfl rfl rfl rfl rfl rfl rfl ?_
    refine TL.goff rfl rfl rfl rfl rfl rfl rfl rfl ?_
    refine TL.goff rfl rfl rfl rfl rfl rfl rfl rfl ?_
    refine TL.v rfl (OpVal.pickFB rfl rfl rfl) rfl rfl ?_
    refine TL.v rfl (OpVal.moveB (.inr rfl) rfl) rfl rfl ?_
    refine TL.nil ?_
    refine S.n ?_
    refine TC.ofSub (Sub.pre 0 rfl) ?_
    refine TC.back ?_
    refine TC.ret ?_
    obtain rfl := Option.some.inj hh
    exact RetOk.mk' (rs := [.tmp 0]) [] rfl (.inl rfl) (RVs.tmp rfl RVs.nil) (List.sublist_append_left _ _) ⟨rfl, rfl, rfl⟩

end Go.Proofs.Ytcidppnlhhkhhaa
end

/- N3 -/
section
/- Decompiled: one or the other. -/
set_option linter.unusedVariables false
set_option linter.unusedSimpArgs false
namespace Go.Proofs.Ytcidppnlhhkhhaa
open Go Go.E
set_option maxRecDepth 100000
private theorem pf66 : Go.E.plainF Try.prog 66 = true := by kernel_rfl
private theorem pf87 : Go.E.plainF Try.prog 87 = true := by kernel_rfl
private theorem ze22 : Go.E.zeroOf Try.prog 22 = some (.slice none 0 0) := by kernel_rfl

noncomputable def growI_j1 (l103 : List Int) : Option ((List Int)) :=
  some l103
noncomputable def growI (x1 : Int) : Option ((List Int)) :=
  iteO (decide (x1 < 0)) (none) (iteO (decide (0 < (IntKind.i64.wrap (x1 - (IntKind.i64.wrap (((0 : Nat) : Int) - ((0 : Nat) : Int))))))) (grd (0 < IntKind.i64.wrap (x1 - (IntKind.i64.wrap (((0 : Nat) : Int) - ((0 : Nat) : Int)))) ∧ (IntKind.i64.wrap (x1 - (IntKind.i64.wrap (((0 : Nat) : Int) - ((0 : Nat) : Int))))).toNat * 8 ≤ 140737488355328) (grd (0 ≤ (List.replicate ((IntKind.i64.wrap (x1 - (IntKind.i64.wrap (((0 : Nat) : Int) - ((0 : Nat) : Int))))).toNat) (0 : Int)).length) (growI_j1 ((List.replicate ((IntKind.i64.wrap (x1 - (IntKind.i64.wrap (((0 : Nat) : Int) - ((0 : Nat) : Int))))).toNat) (0 : Int)).take 0)))) (growI_j1 ([] : List Int)))
def growI_P (σ : Store) (r : (List Int)) : Value → Store → List Res → Prop := fun v σ' H' =>
  ∃ (a1 : Option Addr), ∃ (c1 : Nat),  v = .slice a1 r.length c1 ∧ σ = σ' ∧ H' = [Res.rowS 3 1 Go.E.encI (.slice a1 r.length c1) r]
theorem growI_con {σ : Store} {x1 : Int}  {r : (List Int)} (hh : growI x1 = some r) :
    Con Try.prog 87 #[.slice none 0 0, .int .i64 x1] σ [] (growI_P σ r) := by
  dsimp only [growI] at hh
  refine Con.mk (n := 27) Try.func87 rfl rfl rfl (fun w0 => ?_)
  refine TC.seq ?_
  refine TC.region ?_
  refine TL.v rfl (OpVal.moveSl (.inr rfl) rfl) rfl rfl ?_
  refine TL.nil ?_
  refine S.n ?_
  refine TC.seq ?_
  refine TC.seq ?_
  refine TC.region ?_
  refine TL.v rfl (OpVal.moveI (.inl rfl) rfl) rfl rfl ?_
  refine TL.v rfl (OpVal.lss rfl rfl rfl) rfl rfl ?_
  refine TL.nil ?_
  refine S.n ?_
  refine TC.cond rfl (fun h101 => ?_) (fun h101 => ?_)
  · replace hh := iteO_t h101 hh
    replace h101 := of_decide_eq_true h101
    cases hh
  · replace hh := iteO_f h101 hh
    replace h101 := of_decide_eq_false h101
    refine TC.skip ?_
    refine S.n ?_
    refine TC.cutG (α := ((List Int)) × ((Option Addr) × Nat)) [0, 1, 8, 9, 10, 11, 12, 13, 14, 15, 16, 17, 18, 19, 20, 21, 22, 23, 24, 25] (fun g => [(0, .slice g.2.1 g.1.length g.2.2)]) (fun g => [Res.rowS 3 1 Go.E.encI (.slice g.2.1 g.1.length g.2.2) g.1]) (fun g => σ) (fun g => growI_j1 g.1 = some r) ?_ (fun g j hg => ?_)
    · skip
      refine TC.seq ?_
      refine TC.region ?_
      refine TL.v rfl (OpVal.moveI (.inl rfl) rfl) rfl rfl ?_
      refine TL.v rfl (OpVal.moveSl (.inl rfl) rfl) rfl rfl ?_
      refine TL.v rfl (OpVal.capC rfl Try.underlying22 rfl) rfl rfl ?_
      refine TL.v rfl (OpVal.moveSl (.inl rfl) rfl) rfl rfl ?_
      refine TL.v rfl (OpVal.lenC rfl Try.underlying22 rfl) rfl rfl ?_
      refine TL.v rfl (OpVal.subW rfl rfl rfl) rfl rfl ?_
      refine TL.v rfl (OpVal.subW rfl rfl rfl) rfl rfl ?_
      refine TL.v rfl (OpVal.moveI (.inr rfl) rfl) rfl rfl ?_
      refine TL.nil ?_
      refine S.n ?_
      refine TC.seq ?_
      refine TC.region ?_
      refine TL.v rfl (OpVal.moveI (.inl rfl) rfl) rfl rfl ?_
      refine TL.v rfl (OpVal.gtr rfl rfl rfl) rfl rfl ?_
      refine TL.nil ?_
      refine S.n ?_
      refine TC.cond rfl (fun h106 => ?_) (fun h106 => ?_)
      · replace hh := iteO_t h106 hh
        replace h106 := of_decide_eq_true h106
        refine TC.region ?_
        refine TL.v rfl (OpVal.moveSl (.inl rfl) rfl) rfl rfl ?_
        refine TL.v rfl (OpVal.moveSl (.inl rfl) rfl) rfl rfl ?_
        refine TL.v rfl (OpVal.capC rfl Try.underlying22 rfl) rfl rfl ?_
        refine TL.v rfl (OpVal.sliceNil rfl Try.underlying22 sz3 rfl rfl) rfl rfl ?_
        refine TL.v rfl (OpVal.moveI (.inl rfl) rfl) rfl rfl ?_
        have u21 := grd_c hh
        replace hh := grd_t hh
        refine TL.op rfl (OpOk.appendMake (m := (IntKind.i64.wrap (x1 - (IntKind.i64.wrap (((0 : Nat) : Int) - ((0 : Nat) : Int))))).toNat) (enc := Go.E.encI) (0 : Int) rfl Try.underlying22 Try.underlying3 sz3 by3 ze3 rfl rfl rfl (by show Value.int _ _ = _; rw [Int.toNat_of_nonneg (by omega)]) (by omega) (by decide) Go.E.encI_len (by decide) rfl Go.E.encI_one (fun a107 c108 => ?_))
        refine TL.v rfl (OpVal.moveSl (.inl rfl) rfl) rfl rfl ?_
        refine TL.v rfl (OpVal.lenC rfl Try.underlying22 rfl) rfl rfl ?_
        have u24 := grd_c hh
        replace hh := grd_t hh
        refine TL.op rfl (OpOk.cutS rfl Try.underlying22 sz3 rfl rfl rfl rfl rfl (by omega) Go.E.encI_len ?_)
        refine TL.v rfl (OpVal.moveSl (.inr rfl) rfl) rfl rfl ?_
        refine TL.nil ?_
        refine S.n ?_
        refine ⟨by repeat (first | exact Agr.refl _ _ | exact Agr.mask | refine Agr.upd rfl ?_ | refine Agr.maskIn rfl ?_ | refine Agr.upds rfl ?_), (((List.replicate ((IntKind.i64.wrap (x1 - (IntKind.i64.wrap (((0 : Nat) : Int) - ((0 : Nat) : Int))))).toNat) (0 : Int)).take 0), (a107, c108)), hh, by repeat (first | exact trivial | refine ⟨rfl, ?_⟩), Sub.pre 1 rfl, rfl⟩
      · replace hh := iteO_f h106 hh
        replace h106 := of_decide_eq_false h106
        refine TC.nilS 3 1 Go.E.encI ?_
        refine TC.skip ?_
        refine S.n ?_
        refine ⟨by repeat (first | exact Agr.refl _ _ | exact Agr.mask | refine Agr.upd rfl ?_ | refine Agr.maskIn rfl ?_ | refine Agr.upds rfl ?_), (([] : List Int), (none, 0)), hh, by repeat (first | exact trivial | refine ⟨rfl, ?_⟩), Sub.pre 1 rfl, rfl⟩
    · skip
      obtain ⟨l103, ⟨a104, c105⟩⟩ := g
      have hh := hg; clear hg
      show TC _ _ _ (upds (mask _ j _) [(0, .slice a104 l103.length c105)]) _ [Res.rowS 3 1 Go.E.encI (.slice a104 l103.length c105) l103]
      dsimp only [growI_j1] at hh
      refine TC.isSl (i := 0) rfl (fun _ hb111 _ => ?_)
      refine TC.seq ?_
      refine TC.region ?_
      refine TL.v rfl (OpVal.moveSl (.inl rfl) rfl) rfl rfl ?_
      refine TL.v rfl (OpVal.moveSl (.inr rfl) rfl) rfl rfl ?_
      refine TL.nil ?_
      refine S.n ?_
      refine TC.ret ?_
      obtain rfl := Option.some.inj hh
      exact RetOk.mk' (rs := [.tmp 4]) [Res.rowS 3 1 Go.E.encI (.slice a104 l103.length c105) l103] rfl (.inl rfl) (RVs.tmp rfl RVs.nil) (List.sublist_append_left _ _) ⟨a104, c105, rfl, rfl, rfl⟩

noncomputable def concatI_b2 (x0 : List (List Int)) (l121 : List Int) (k124 : Nat) : Option (((List Int) × Nat) ⊕ ((List Int))) :=
  iteO (decide (((k124 : Nat) : Int) < ((x0.length : Nat) : Int))) (grd ((l121.length + (nth x0 k124 ([] : List Int)).length) * 8 ≤ 140737488355328) (nxt ((l121 ++ (nth x0 k124 ([] : List Int))), (k124 + 1)))) (fin (some l121))
noncomputable def concatI_b1 (x0 : List (List Int)) (i105 : Int) (k106 : Nat) : Option ((Int × Nat) ⊕ ((List Int))) :=
  iteO (decide (((k106 : Nat) : Int) < ((x0.length : Nat) : Int))) (iteO (decide ((IntKind.i64.wrap (i105 + (((nth x0 k106 ([] : List Int)).length : Nat) : Int))) < 0)) (none) (nxt ((IntKind.i64.wrap (i105 + (((nth x0 k106 ([] : List Int)).length : Nat) : Int))), (k106 + 1)))) (fin (bnd (growI i105) (fun v22 => iter (fun q : (List Int) × Nat => concatI_b2 x0 q.1 q.2) (v22, 0))))
noncomputable def concatI (x0 : List (List Int)) : Option ((List Int)) :=
  iter (fun q : Int × Nat => concatI_b1 x0 q.1 q.2) (0, 0)
def concatI_P (σ : Store) (r : (List Int)) : Value → Store → List Res → Prop := fun v σ' H' =>
  ∃ (a1 : Option Addr), ∃ (c1 : Nat),  v = .slice a1 r.length c1 ∧ σ = σ' ∧ H' = [Res.rowS 3 1 Go.E.encI (.slice a1 r.length c1) r]
theorem concatI_con {σ : Store} {x0 : List (List Int)} {a0_0 : Option Addr} {c0_0 : Nat} (f0_0 : RZ σ (pkSl 1 Go.E.encI Go.E.encI_len) (.slice a0_0 x0.length c0_0) x0) {r : (List Int)} (hh : concatI x0 = some r) :
    Con Try.prog 66 #[.slice a0_0 x0.length c0_0] σ [] (concatI_P σ r) := by
  dsimp only [concatI] at hh
  have f0_0b := f0_0.big
  refine Con.mk (n := 36) Try.func66 rfl rfl rfl (fun w0 => ?_)
  refine TC.seq ?_
  refine TC.region ?_
  refine TL.v rfl (OpVal.moveSl (.inr rfl) rfl) rfl rfl ?_
  refine TL.nil ?_
  refine S.n ?_
  refine TC.seq ?_
  refine TC.region ?_
  refine TL.v rfl (OpVal.moveI (.inr rfl) rfl) rfl rfl ?_
  refine TL.nil ?_
  refine S.n ?_
  refine TC.seq ?_
  refine TC.seq ?_
  refine TC.region ?_
  refine TL.v rfl (OpVal.moveSl (.inl rfl) rfl) rfl rfl ?_
  refine TL.v rfl (OpVal.lenC rfl Try.underlying56 rfl) rfl rfl ?_
  refine TL.v rfl (OpVal.moveI (.inl rfl) rfl) rfl rfl ?_
  refine TL.nil ?_
  refine S.n ?_
  refine TC.block ?_
  refine TC.loopG (α := (Int × Nat) × (Unit)) [3, 5, 11, 12, 13, 14, 15, 16, 17, 18, 19, 20, 21, 22] (fun g => [(3, .int .i64 g.1.1), (11, .int .i64 ((g.1.2 : Nat) : Int))]) (fun g => []) (fun g => σ) (fun g => iter (fun q : Int × Nat => concatI_b1 x0 q.1 q.2) g.1 = some r) (fun g => rounds (fun q : Int × Nat => concatI_b1 x0 q.1 q.2) g.1) ((0, 0), ()) (Sub.pre 0 rfl) rfl (by repeat (first | exact trivial | refine ⟨rfl, ?_⟩)) hh (fun g1 j1 hg1 => ?_)
  obtain ⟨⟨i105, k106⟩, _⟩ := g1
  have hh := hg1; clear hg1
  show TC _ _ _ (upds (mask _ j1 _) [(3, .int .i64 i105), (11, .int .i64 ((k106 : Nat) : Int))]) _ []
  obtain ⟨z1, hh, hR1⟩ := iter_e hh
  dsimp only [concatI_b1] at hh
  refine TC.seq ?_
  refine TC.region ?_
  refine TL.v rfl (OpVal.lss rfl rfl rfl) rfl rfl ?_
  refine TL.nil ?_
  refine S.n ?_
  refine TC.seq ?_
  refine TC.cond rfl (fun h107 => ?_) (fun h107 => ?_)
  · replace hh := iteO_t h107 hh
    replace h107 := of_decide_eq_true h107
    refine TC.skip ?_
    refine S.n ?_
    refine TC.seq ?_
    refine TC.block ?_
    refine TC.seq ?_
    refine TC.region ?_
    refine TL.v rfl (OpVal.indexN rfl Try.underlying56 sz22 rfl rfl f0_0.isSl (by omega)) rfl rfl ?_
    obtain ⟨p108, hk108, hg108⟩ := RZ.seg f0_0 k106 (by omega)
    replace hk108 : RS _ 1 Go.E.encI (.slice p108.1 (nth x0 k106 ([] : List Int)).length p108.2) (nth x0 k106 ([] : List Int)) := hk108
    have hk108b := hk108.rv.big
    refine TL.v rfl (OpVal.of (OpVal.loadSeg0 rfl ag22 rfl hg108 rfl) (v' := .slice p108.1 ((nth x0 k106 ([] : List Int)).length) p108.2) rfl) rfl rfl ?_
    refine TL.v rfl (OpVal.moveSl (.inr rfl) rfl) rfl rfl ?_
    refine TL.nil ?_
    refine S.n ?_
    refine TC.seq ?_
    refine TC.region ?_
    refine TL.v rfl (OpVal.moveI (.inl rfl) rfl) rfl rfl ?_
    refine TL.v rfl (OpVal.moveSl (.inl rfl) rfl) rfl rfl ?_
    refine TL.v rfl (OpVal.lenC rfl Try.underlying22 rfl) rfl rfl ?_
    refine TL.v rfl (OpVal.addW rfl rfl rfl) rfl rfl ?_
    refine TL.v rfl (OpVal.moveI (.inr rfl) rfl) rfl rfl ?_
    refine TL.nil ?_
    refine S.n ?_
    refine TC.seq ?_
    refine TC.region ?_
    refine TL.v rfl (OpVal.moveI (.inl rfl) rfl) rfl rfl ?_
    refine TL.v rfl (OpVal.lss rfl rfl rfl) rfl rfl ?_
    refine TL.nil ?_
    refine S.n ?_
    refine TC.cond rfl (fun h109 => ?_) (fun h109 => ?_)
    · replace hh := iteO_t h109 hh
      replace h109 := of_decide_eq_true h109
      cases hh
    · replace hh := iteO_f h109 hh
      replace h109 := of_decide_eq_false h109
      refine TC.skip ?_
      refine B.n ?_
      refine S.n ?_
      refine TC.region ?_
      refine TL.v rfl (OpVal.succ rfl rfl rfl (by omega)) rfl rfl ?_
      refine TL.v rfl (OpVal.moveI (.inl rfl) rfl) rfl rfl ?_
      refine TL.nil ?_
      refine S.n ?_
      obtain ⟨hh, hlt110⟩ := nxt_x hR1 hh
      refine ⟨by repeat (first | exact Agr.refl _ _ | exact Agr.mask | refine Agr.upd rfl ?_ | refine Agr.maskIn rfl ?_ | refine Agr.upds rfl ?_), (((IntKind.i64.wrap (i105 + (((nth x0 k106 ([] : List Int)).length : Nat) : Int))), (k106 + 1)), ()), hlt110, hh, by repeat (first | exact trivial | refine ⟨rfl, ?_⟩), Sub.pre 0 rfl, rfl⟩
  · replace hh := iteO_f h107 hh
    replace h107 := of_decide_eq_false h107
    refine TC.exit ?_
    refine S.x ?_
    refine S.x ?_
    replace hh := fin_x hR1 hh
    refine TC.exitHere ?_
    refine S.n ?_
    refine TC.seq ?_
    refine TC.region ?_
    refine TL.v rfl (OpVal.moveI (.inl rfl) rfl) rfl rfl ?_
    obtain ⟨v22, u22, hh⟩ := bnd_e hh
    refine TL.op rfl (OpOk.call (growI_con u22) rfl rfl pf87 rfl rfl rfl rfl ?_)
    rintro _ _ _ hle111 ⟨a111_1, c111_1, rfl, rfl, rfl⟩
    refine TL.v rfl (OpVal.moveSl (.inr rfl) rfl) rfl rfl ?_
    refine TL.nil ?_
    refine S.n ?_
    refine TC.seq ?_
    refine TC.seq ?_
    refine TC.region ?_
    refine TL.v rfl (OpVal.moveSl (.inl rfl) rfl) rfl rfl ?_
    refine TL.v rfl (OpVal.lenC rfl Try.underlying56 rfl) rfl rfl ?_
    refine TL.v rfl (OpVal.moveI (.inl rfl) rfl) rfl rfl ?_
    refine TL.nil ?_
    refine S.n ?_
    refine TC.block ?_
    refine TC.loopG (α := ((List Int) × Nat) × ((Option Addr) × Nat)) [6, 8, 27, 28, 29, 30, 31, 32, 33, 34] (fun g => [(6, .slice g.2.1 g.1.1.length g.2.2), (27, .int .i64 ((g.1.2 : Nat) : Int))]) (fun g => [Res.rowS 3 1 Go.E.encI (.slice g.2.1 g.1.1.length g.2.2) g.1.1]) (fun g => σ) (fun g => iter (fun q : (List Int) × Nat => concatI_b2 x0 q.1 q.2) g.1 = some r) (fun g => rounds (fun q : (List Int) × Nat => concatI_b2 x0 q.1 q.2) g.1) ((v22, 0), (a111_1, c111_1)) (Sub.pre 1 rfl) rfl (by repeat (first | exact trivial | refine ⟨rfl, ?_⟩)) hh (fun g2 j2 hg2 => ?_)
    obtain ⟨⟨l121, k124⟩, ⟨a122, c123⟩⟩ := g2
    have hh := hg2; clear hg2
    show TC _ _ _ (upds (mask _ j2 _) [(6, .slice a122 l121.length c123), (27, .int .i64 ((k124 : Nat) : Int))]) _ [Res.rowS 3 1 Go.E.encI (.slice a122 l121.length c123) l121]
    obtain ⟨z1, hh, hR1⟩ := iter_e hh
    dsimp only [concatI_b2] at hh
    refine TC.isSl (i := 0) rfl (fun _ hb125 _ => ?_)
    refine TC.seq ?_
    refine TC.region ?_
    refine TL.v rfl (OpVal.lss rfl rfl rfl) rfl rfl ?_
    refine TL.nil ?_
    refine S.n ?_
    refine TC.seq ?_
    refine TC.cond rfl (fun h126 => ?_) (fun h126 => ?_)
    · replace hh := iteO_t h126 hh
      replace h126 := of_decide_eq_true h126
      refine TC.skip ?_
      refine S.n ?_
      refine TC.seq ?_
      refine TC.block ?_
      refine TC.seq ?_
      refine TC.region ?_
      refine TL.v rfl (OpVal.indexN rfl Try.underlying56 sz22 rfl rfl f0_0.isSl (by omega)) rfl rfl ?_
      obtain ⟨p127, hk127, hg127⟩ := RZ.seg f0_0 k124 (by omega)
      replace hk127 : RS _ 1 Go.E.encI (.slice p127.1 (nth x0 k124 ([] : List Int)).length p127.2) (nth x0 k124 ([] : List Int)) := hk127
      have hk127b := hk127.rv.big
      refine TL.v rfl (OpVal.of (OpVal.loadSeg0 rfl ag22 rfl hg127 rfl) (v' := .slice p127.1 ((nth x0 k124 ([] : List Int)).length) p127.2) rfl) rfl rfl ?_
      refine TL.v rfl (OpVal.moveSl (.inr rfl) rfl) rfl rfl ?_
      refine TL.nil ?_
      refine S.n ?_
      refine TC.region ?_
      refine TL.v rfl (OpVal.moveSl (.inl rfl) rfl) rfl rfl ?_
      refine TL.v rfl (OpVal.moveSl (.inl rfl) rfl) rfl rfl ?_
      have u33 := grd_c hh
      replace hh := grd_t hh
      refine TL.op rfl (OpOk.appendS rfl rfl Try.underlying22 sz3 by3 ze3 rfl rfl (by decide) rfl rfl rfl (.inl hk127) (by simpa using u33) (by decide) (fun a128 c129 => ?_))
      refine TL.v rfl (OpVal.moveSl (.inr rfl) rfl) rfl rfl ?_
      refine TL.nil ?_
      refine B.n ?_
      refine S.n ?_
      refine TC.region ?_
      refine TL.v rfl (OpVal.succ rfl rfl rfl (by omega)) rfl rfl ?_
      refine TL.v rfl (OpVal.moveI (.inl rfl) rfl) rfl rfl ?_
      refine TL.nil ?_
      refine S.n ?_
      obtain ⟨hh, hlt130⟩ := nxt_x hR1 hh
      refine ⟨by repeat (first | exact Agr.refl _ _ | exact Agr.mask | refine Agr.upd rfl ?_ | refine Agr.maskIn rfl ?_ | refine Agr.upds rfl ?_), (((l121 ++ (nth x0 k124 ([] : List Int))), (k124 + 1)), (a128, c129)), hlt130, hh, by repeat (first | exact trivial | refine ⟨rfl, ?_⟩), Sub.pre 1 rfl, rfl⟩
    · replace hh := iteO_f h126 hh
      replace h126 := of_decide_eq_false h126
      refine TC.exit ?_
      refine S.x ?_
      refine S.x ?_
      replace hh := fin_x hR1 hh
      refine TC.exitHere ?_
      refine S.n ?_
      refine TC.seq ?_
      refine TC.region ?_
      refine TL.v rfl (OpVal.moveSl (.inl rfl) rfl) rfl rfl ?_
      refine TL.v rfl (OpVal.moveSl (.inr rfl) rfl) rfl rfl ?_
      refine TL.nil ?_
      refine S.n ?_
      refine TC.ret ?_
      obtain rfl := Option.some.inj hh
      exact RetOk.mk' (rs := [.tmp 2]) [Res.rowS 3 1 Go.E.encI (.slice a122 l121.length c123) l121] rfl (.inl rfl) (RVs.tmp rfl RVs.nil) (List.sublist_append_left _ _) ⟨a122, c123, rfl, rfl, rfl⟩

noncomputable def nfa_shift_b1 (x0 : List Int) (x1 : Int) (l110 : List Int) (k112 : Nat) : Option (((List Int) × Nat) ⊕ ((List Int))) :=
  iteO (decide (((k112 : Nat) : Int) < ((x0.length : Nat) : Int))) (grd (k112 < l110.length) (nxt ((l110.set k112 (IntKind.i64.wrap ((nth x0 k112 (0 : Int)) + x1))), (k112 + 1)))) (fin (some l110))
noncomputable def nfa_shift (x0 : List Int) (x1 : Int) : Option ((List Int)) :=
  grd (8 * x0.length ≤ 281474976710656) (iter (fun q : (List Int) × Nat => nfa_shift_b1 x0 x1 q.1 q.2) ((List.replicate x0.length (0 : Int)), 0))
def nfa_shift_P (σ : Store) (r : (List Int)) : Value → Store → List Res → Prop := fun v σ' H' =>
  ∃ (a1 : Option Addr), ∃ (c1 : Nat),  v = .slice a1 r.length c1 ∧ σ = σ' ∧ H' = [Res.rowS 3 1 Go.E.encI (.slice a1 r.length c1) r]
theorem nfa_shift_con {σ : Store} {x0 : List Int} {a0_0 : Option Addr} {c0_0 : Nat} {x1 : Int} (f0_0 : RS σ 1 Go.E.encI (.slice a0_0 x0.length c0_0) x0) {r : (List Int)} (hh : nfa_shift x0 x1 = some r) :
    Con Try.prog 63 #[.slice a0_0 x0.length c0_0, .int .i64 x1] σ [] (nfa_shift_P σ r) := by
  dsimp only [nfa_shift] at hh
  have f0_0b := f0_0.rv.big
  refine Con.mk (n := 26) Try.func63 rfl rfl rfl (fun w0 => ?_)
  refine TC.seq ?_
  refine TC.region ?_
  refine TL.v rfl (OpVal.moveSl (.inr rfl) rfl) rfl rfl ?_
  refine TL.nil ?_
  refine S.n ?_
  refine TC.seq ?_
  refine TC.region ?_
  refine TL.v rfl (OpVal.moveSl (.inl rfl) rfl) rfl rfl ?_
  refine TL.v rfl (OpVal.lenC rfl Try.underlying22 rfl) rfl rfl ?_
  have u4 := grd_c hh
  replace hh := grd_t hh
  refine TL.op rfl (OpOk.makeS2 (enc := Go.E.encI) (0 : Int) rfl Try.underlying22 sz3 by3 ze3 rfl rfl rfl rfl (by omega) (by decide) Go.E.encI_len (by decide) rfl Go.E.encI_one (fun a101 c102 => ?_))
  refine TL.v rfl (OpVal.moveSl (.inr rfl) rfl) rfl rfl ?_
  refine TL.nil ?_
  refine S.n ?_
  refine TC.seq ?_
  refine TC.seq ?_
  refine TC.region ?_
  refine TL.v rfl (OpVal.moveSl (.inl rfl) rfl) rfl rfl ?_
  refine TL.v rfl (OpVal.lenC rfl Try.underlying22 rfl) rfl rfl ?_
  refine TL.v rfl (OpVal.moveI (.inl rfl) rfl) rfl rfl ?_
  refine TL.nil ?_
  refine S.n ?_
  refine TC.block ?_
  refine TC.loopG (α := ((List Int) × Nat) × (Unit)) [6, 7, 13, 14, 15, 16, 17, 18, 19, 20, 21, 22, 23, 24] (fun g => [(13, .int .i64 ((g.1.2 : Nat) : Int))]) (fun g => [Res.rowS 3 1 Go.E.encI (.slice a101 (List.replicate x0.length (0 : Int)).length c102) g.1.1]) (fun g => σ) (fun g => iter (fun q : (List Int) × Nat => nfa_shift_b1 x0 x1 q.1 q.2) g.1 = some r ∧ g.1.1.length = (List.replicate x0.length (0 : Int)).length) (fun g => rounds (fun q : (List Int) × Nat => nfa_shift_b1 x0 x1 q.1 q.2) g.1) (((List.replicate x0.length (0 : Int)), 0), ()) (Sub.pre 1 rfl) rfl (by repeat (first | exact trivial | refine ⟨rfl, ?_⟩)) ⟨hh, rfl⟩ (fun g1 j1 hg1 => ?_)
  obtain ⟨⟨l110, k112⟩, _⟩ := g1
  obtain ⟨hh, hn111⟩ := hg1
  try dsimp only at hn111
  show TC _ _ _ (upds (mask _ j1 _) [(13, .int .i64 ((k112 : Nat) : Int))]) _ [Res.rowS 3 1 Go.E.encI (.slice a101 (List.replicate x0.length (0 : Int)).length c102) l110]
  obtain ⟨z1, hh, hR1⟩ := iter_e hh
  dsimp only [nfa_shift_b1] at hh
  have hn111b := hn111
  refine TC.isSl (i := 0) rfl (fun _ hb113 _ => ?_)
  refine TC.seq ?_
  refine TC.region ?_
  refine TL.v rfl (OpVal.lss rfl rfl rfl) rfl rfl ?_
  refine TL.nil ?_
  refine S.n ?_
  refine TC.seq ?_
  refine TC.cond rfl (fun h114 => ?_) (fun h114 => ?_)
  · replace hh := iteO_t h114 hh
    replace h114 := of_decide_eq_true h114
    refine TC.skip ?_
    refine S.n ?_
    refine TC.seq ?_
    refine TC.block ?_
    refine TC.seq ?_
    refine TC.region ?_
    refine TL.v rfl (OpVal.moveI (.inl rfl) rfl) rfl rfl ?_
    refine TL.v rfl (OpVal.indexN rfl Try.underlying22 sz3 rfl rfl f0_0.rv.sl (by omega)) rfl rfl ?_
    refine TL.v rfl (OpVal.loadS1 (0 : Int) rfl ag3 rfl f0_0 (by omega) rfl) rfl rfl ?_
    refine TL.v rfl (OpVal.moveI (.inr rfl) rfl) rfl rfl ?_
    refine TL.v rfl (OpVal.moveI (.inr rfl) rfl) rfl rfl ?_
    refine TL.nil ?_
    refine S.n ?_
    refine TC.region ?_
    refine TL.v rfl (OpVal.moveSl (.inl rfl) rfl) rfl rfl ?_
    refine TL.v rfl (OpVal.moveI (.inl rfl) rfl) rfl rfl ?_
    refine TL.v rfl (OpVal.moveI (.inl rfl) rfl) rfl rfl ?_
    refine TL.v rfl (OpVal.moveI (.inl rfl) rfl) rfl rfl ?_
    refine TL.v rfl (OpVal.addW rfl rfl rfl) rfl rfl ?_
    have u20 := grd_c hh
    replace hh := grd_t hh
    refine TL.isSl (i := 0) rfl (fun hs115 _ _ => ?_)
    refine TL.v rfl (OpVal.indexN rfl Try.underlying22 sz3 rfl rfl hs115 (by omega)) rfl rfl ?_
    have hn116 : (l110.set k112 (IntKind.i64.wrap ((nth x0 k112 (0 : Int)) + x1))).length = (List.replicate x0.length (0 : Int)).length := by rw [List.length_set]; exact hn111
    refine TL.op rfl (OpOk.storeS (IntKind.i64.wrap ((nth x0 k112 (0 : Int)) + x1)) rfl sz3 rfl rfl rfl rfl Go.E.encI_len Go.E.encI_one (by omega) (by omega) ?_)
    refine TL.nil ?_
    refine B.n ?_
    refine S.n ?_
    refine TC.region ?_
    refine TL.v rfl (OpVal.succ rfl rfl rfl (by omega)) rfl rfl ?_
    refine TL.v rfl (OpVal.moveI (.inl rfl) rfl) rfl rfl ?_
    refine TL.nil ?_
    refine S.n ?_
    obtain ⟨hh, hlt117⟩ := nxt_x hR1 hh
    refine ⟨by repeat (first | exact Agr.refl _ _ | exact Agr.mask | refine Agr.upd rfl ?_ | refine Agr.maskIn rfl ?_ | refine Agr.upds rfl ?_), (((l110.set k112 (IntKind.i64.wrap ((nth x0 k112 (0 : Int)) + x1))), (k112 + 1)), ()), hlt117, ⟨hh, hn116⟩, by repeat (first | exact trivial | refine ⟨rfl, ?_⟩), Sub.pre 1 rfl, rfl⟩
  · replace hh := iteO_f h114 hh
    replace h114 := of_decide_eq_false h114
    refine TC.exit ?_
    refine S.x ?_
    refine S.x ?_
    replace hh := fin_x hR1 hh
    refine TC.exitHere ?_
    refine S.n ?_
    refine TC.seq ?_
    refine TC.region ?_
    refine TL.v rfl (OpVal.moveSl (.inl rfl) rfl) rfl rfl ?_
    refine TL.v rfl (OpVal.moveSl (.inr rfl) rfl) rfl rfl ?_
    refine TL.nil ?_
    refine S.n ?_
    rw [← hn111]
    refine TC.ret ?_
    obtain rfl := Option.some.inj hh
    exact RetOk.mk' (rs := [.tmp 4]) [Res.rowS 3 1 Go.E.encI (.slice a101 l110.length c102) l110] rfl (.inl rfl) (RVs.tmp rfl RVs.nil) (List.sublist_append_left _ _) ⟨a101, c102, rfl, rfl, rfl⟩

noncomputable def nfa_Alt (x0 : Nfa) (x1 : Nfa) : Option (Nfa × Int) :=
  iteO (decide ((errB (checkB x0)) ≠ 0)) (some ((⟨0, ([] : List Int), ([] : List Int), ([] : List Arrow)⟩ : Nfa), 1)) (iteO (decide ((errB (checkB x1)) ≠ 0)) (some ((⟨0, ([] : List Int), ([] : List Int), ([] : List Arrow)⟩ : Nfa), 1)) (iteO (!(fitB (IntKind.i64.wrap (x0.states + x1.states)) (IntKind.i64.wrap (((x0.edges.length : Nat) : Int) + ((x1.edges.length : Nat) : Int))))) (some ((⟨0, ([] : List Int), ([] : List Int), ([] : List Arrow)⟩ : Nfa), 2)) (bnd (nfa_shift x1.starts x0.states) (fun v42 => bnd (concatI [x0.starts, v42]) (fun v44 => bnd (nfa_shift x1.ends x0.states) (fun v51 => bnd (concatI [x0.ends, v51]) (fun v53 => grd (0 ≤ x0.states ∧ x0.states ≤ 1000000) (grd (∀ u ∈ x1.edges, 0 ≤ u.frm ∧ u.frm ≤ 1000000 ∧ 0 ≤ u.to ∧ u.to ≤ 1000000) (grd (x0.edges.length ≤ 100000000) (grd (x1.edges.length ≤ 100000000) (some ((⟨IntKind.i64.wrap (x0.states + x1.states), v44, v53, (x0.edges ++ shiftE x1.edges x0.states)⟩ : Nfa), 0))))))))))))
def nfa_Alt_P (σ : Store) (r : Nfa × Int) : Value → Store → List Res → Prop := fun v σ' H' =>
  ∃ (a1 : Option Addr), ∃ (c1 : Nat), ∃ (a2 : Option Addr), ∃ (c2 : Nat), ∃ (a3 : Option Addr), ∃ (c3 : Nat),  v = .tuple #[.agg #[.int .i64 r.1.states, .slice a1 r.1.starts.length c1, .slice a2 r.1.ends.length c2, .slice a3 r.1.edges.length c3], .int .i64 r.2] ∧ RS σ' 1 Go.E.encI (.slice a1 r.1.starts.length c1) r.1.starts ∧ RS σ' 1 Go.E.encI (.slice a2 r.1.ends.length c2) r.1.ends ∧ RS σ' 6 encE (.slice a3 r.1.edges.length c3) r.1.edges ∧ H' = []
theorem nfa_Alt_con {σ : Store} {x0 : Nfa} {a0_0 : Option Addr} {c0_0 : Nat} {a0_1 : Option Addr} {c0_1 : Nat} {a0_2 : Option Addr} {c0_2 : Nat} {x1 : Nfa} {a1_0 : Option Addr} {c1_0 : Nat} {a1_1 : Option Addr} {c1_1 : Nat} {a1_2 : Option Addr} {c1_2 : Nat} (f0_0 : RS σ 1 Go.E.encI (.slice a0_0 x0.starts.length c0_0) x0.starts) (f0_1 : RS σ 1 Go.E.encI (.slice a0_1 x0.ends.length c0_1) x0.ends) (f0_2 : RS σ 6 encE (.slice a0_2 x0.edges.length c0_2) x0.edges) (f1_0 : RS σ 1 Go.E.encI (.slice a1_0 x1.starts.length c1_0) x1.starts) (f1_1 : RS σ 1 Go.E.encI (.slice a1_1 x1.ends.length c1_1) x1.ends) (f1_2 : RS σ 6 encE (.slice a1_2 x1.edges.length c1_2) x1.edges) {r : Nfa × Int} (hh : nfa_Alt x0 x1 = some r) :
    Con Try.prog 28 #[.agg #[.int .i64 x0.states, .slice a0_0 x0.starts.length c0_0, .slice a0_1 x0.ends.length c0_1, .slice a0_2 x0.edges.length c0_2], .agg #[.int .i64 x1.states, .slice a1_0 x1.starts.length c1_0, .slice a1_1 x1.ends.length c1_1, .slice a1_2 x1.edges.length c1_2]] σ [] (nfa_Alt_P σ r) := by
  dsimp only [nfa_Alt] at hh
  have f0_0b := f0_0.rv.big
  have f0_1b := f0_1.rv.big
  have f0_2b := f0_2.rv.big
  have f1_0b := f1_0.rv.big
  have f1_1b := f1_1.rv.big
  have f1_2b := f1_2.rv.big
  refine Con.mk (n := 58) Try.func28 rfl rfl rfl (fun w0 => ?_)
  refine TC.seq ?_
  refine TC.region ?_
  refine TL.op rfl (OpOk.boxA rfl rfl rfl rfl (fun b101 => ?_))
  refine TL.op rfl (OpOk.boxA rfl rfl rfl rfl (fun b103 => ?_))
  refine TL.op rfl (OpOk.alloc rfl ze25 rfl rfl (fun b105 => ?_))
  refine TL.v rfl (OpVal.moveI (.inr rfl) rfl) rfl rfl ?_
  refine TL.nil ?_
  refine S.n ?_
  refine TC.seq ?_
  refine TC.seq ?_
  refine TC.region ?_
  refine TL.v rfl (OpVal.loadAll rfl ag25 sz25 rfl (i := 2) rfl rfl) rfl rfl ?_
  refine TL.op rfl (OpOk.callP (check_con _ x0 ⟨a0_0, c0_0, a0_1, c0_1, a0_2, c0_2⟩ ⟨f0_0, f0_1, f0_2, fun x _ => x.set.isOk⟩) rfl rfl pf18 rfl rfl rfl ?_)
  refine TL.v rfl (OpVal.neq rfl rfl rfl) rfl rfl ?_
  refine TL.v rfl (OpVal.moveB (.inl rfl) rfl) rfl rfl ?_
  refine TL.split 10 rfl (fun h107 => ?_) (fun h107 => ?_)
  · replace hh := iteO_t h107 hh
    replace h107 := of_decide_eq_true h107
    refine TL.goff rfl rfl rfl rfl rfl rfl rfl rfl ?_
    refine TL.goff rfl rfl rfl rfl rfl rfl rfl rfl ?_
    refine TL.goff rfl rfl rfl rfl rfl rfl rfl rfl ?_
    refine TL.v rfl (OpVal.pickTB rfl rfl rfl) rfl rfl ?_
    refine TL.nil ?_
    refine S.n ?_
    refine TC.cond rfl (fun _ => ?_) (fun h => Bool.noConfusion h)
    refine TC.seq ?_
    refine TC.region ?_
    refine TL.v rfl (OpVal.buildL rfl pl25 ze25 rfl) rfl rfl ?_
    refine TL.op rfl (OpOk.storeAll rfl sz25 rfl rfl rfl rfl rfl rfl ?_)
    refine TL.v rfl (OpVal.moveI (.inr rfl) rfl) rfl rfl ?_
    refine TL.nil ?_
    refine S.n ?_
    refine TC.ofSub (Sub.pre 1 rfl) ?_
    refine TC.ret ?_
    refine S.r ?_
    obtain rfl := Option.some.inj hh
    exact RetOk.mk' (rs := [.cell 4 25, .tmp 5]) [] rfl (.inl rfl) (RVs.agg ag25 sz25 rfl (i := 0) rfl rfl (RVs.tmp rfl RVs.nil)) (List.sublist_append_left _ _) ⟨none, 0, none, 0, none, 0, rfl, (RS.nilF _ Go.E.encI Go.E.encI_len), (RS.nilF _ Go.E.encI Go.E.encI_len), (RS.nilF _ encE encE_len), rfl⟩
  · replace hh := iteO_f h107 hh
    replace h107 := of_decide_eq_false h107
    refine TL.gv rfl rfl rfl rfl rfl (OpVal.loadAll rfl ag25 sz25 rfl (i := 1) rfl rfl) rfl rfl ?_
    refine TL.gon rfl rfl rfl rfl rfl (OpOk.callP (check_con _ x1 ⟨a1_0, c1_0, a1_1, c1_1, a1_2, c1_2⟩ ⟨f1_0, f1_1, f1_2, fun x _ => x.set.isOk⟩) rfl rfl pf18 rfl rfl rfl ?_)
    refine TL.gv rfl rfl rfl rfl rfl (OpVal.neq rfl rfl rfl) rfl rfl ?_
    refine TL.v rfl (OpVal.pickFB rfl rfl rfl) rfl rfl ?_
    refine TL.nil ?_
    refine S.n ?_
    refine TC.cond rfl (fun h108 => ?_) (fun h108 => ?_)
    · replace hh := iteO_t h108 hh
      replace h108 := of_decide_eq_true h108
      refine TC.seq ?_
      refine TC.region ?_
      refine TL.v rfl (OpVal.buildL rfl pl25 ze25 rfl) rfl rfl ?_
      refine TL.op rfl (OpOk.storeAll rfl sz25 rfl rfl rfl rfl rfl rfl ?_)
      refine TL.v rfl (OpVal.moveI (.inr rfl) rfl) rfl rfl ?_
      refine TL.nil ?_
      refine S.n ?_
      refine TC.ofSub (Sub.pre 1 rfl) ?_
      refine TC.ret ?_
      refine S.r ?_
      obtain rfl := Option.some.inj hh
      exact RetOk.mk' (rs := [.cell 4 25, .tmp 5]) [] rfl (.inl rfl) (RVs.agg ag25 sz25 rfl (i := 0) rfl rfl (RVs.tmp rfl RVs.nil)) (List.sublist_append_left _ _) ⟨none, 0, none, 0, none, 0, rfl, (RS.nilF _ Go.E.encI Go.E.encI_len), (RS.nilF _ Go.E.encI Go.E.encI_len), (RS.nilF _ encE encE_len), rfl⟩
    · replace hh := iteO_f h108 hh
      replace h108 := of_decide_eq_false h108
      refine TC.skip ?_
      refine S.n ?_
      refine TC.seq ?_
      refine TC.region ?_
      refine TL.v rfl (OpVal.fieldLoc rfl fo25_0 rfl) rfl rfl ?_
      refine TL.v rfl (OpVal.loadLoc rfl ag3 rfl (i := 2) rfl rfl) rfl rfl ?_
      refine TL.v rfl (OpVal.fieldLoc rfl fo25_0 rfl) rfl rfl ?_
      refine TL.v rfl (OpVal.loadLoc rfl ag3 rfl (i := 1) rfl rfl) rfl rfl ?_
      refine TL.v rfl (OpVal.addW rfl rfl rfl) rfl rfl ?_
      refine TL.v rfl (OpVal.moveI (.inr rfl) rfl) rfl rfl ?_
      refine TL.nil ?_
      refine S.n ?_
      refine TC.seq ?_
      refine TC.seq ?_
      refine TC.region ?_
      refine TL.v rfl (OpVal.moveI (.inl rfl) rfl) rfl rfl ?_
      refine TL.v rfl (OpVal.fieldLoc rfl fo25_3 rfl) rfl rfl ?_
      refine TL.v rfl (OpVal.loadLoc rfl ag23 rfl (i := 2) rfl rfl) rfl rfl ?_
      refine TL.v rfl (OpVal.lenC rfl Try.underlying23 rfl) rfl rfl ?_
      refine TL.v rfl (OpVal.fieldLoc rfl fo25_3 rfl) rfl rfl ?_
      refine TL.v rfl (OpVal.loadLoc rfl ag23 rfl (i := 1) rfl rfl) rfl rfl ?_
      refine TL.v rfl (OpVal.lenC rfl Try.underlying23 rfl) rfl rfl ?_
      refine TL.v rfl (OpVal.addW rfl rfl rfl) rfl rfl ?_
      refine TL.op rfl (OpOk.callP (fits_con _ (IntKind.i64.wrap (x0.states + x1.states)) (IntKind.i64.wrap (((x0.edges.length : Nat) : Int) + ((x1.edges.length : Nat) : Int)))) rfl rfl pf61 rfl rfl rfl ?_)
      refine TL.v rfl (OpVal.not rfl rfl) rfl rfl ?_
      refine TL.nil ?_
      refine S.n ?_
      refine TC.cond rfl (fun h109 => ?_) (fun h109 => ?_)
      · replace hh := iteO_t h109 hh
        refine TC.seq ?_
        refine TC.region ?_
        refine TL.v rfl (OpVal.buildL rfl pl25 ze25 rfl) rfl rfl ?_
        refine TL.op rfl (OpOk.storeAll rfl sz25 rfl rfl rfl rfl rfl rfl ?_)
        refine TL.v rfl (OpVal.moveI (.inr rfl) rfl) rfl rfl ?_
        refine TL.nil ?_
        refine S.n ?_
        refine TC.ofSub (Sub.pre 1 rfl) ?_
        refine TC.ret ?_
        refine S.r ?_
        obtain rfl := Option.some.inj hh
        exact RetOk.mk' (rs := [.cell 4 25, .tmp 5]) [] rfl (.inl rfl) (RVs.agg ag25 sz25 rfl (i := 0) rfl rfl (RVs.tmp rfl RVs.nil)) (List.sublist_append_left _ _) ⟨none, 0, none, 0, none, 0, rfl, (RS.nilF _ Go.E.encI Go.E.encI_len), (RS.nilF _ Go.E.encI Go.E.encI_len), (RS.nilF _ encE encE_len), rfl⟩
      · replace hh := iteO_f h109 hh
        refine TC.skip ?_
        refine S.n ?_
        refine TC.seq ?_
        obtain ⟨v42, u42, hh⟩ := bnd_e hh
        obtain ⟨v44, u44, hh⟩ := bnd_e hh
        obtain ⟨v51, u51, hh⟩ := bnd_e hh
        obtain ⟨v53, u53, hh⟩ := bnd_e hh
        have u56a := grd_c hh
        replace hh := grd_t hh
        have u56b := grd_c hh
        replace hh := grd_t hh
        have u56c := grd_c hh
        replace hh := grd_t hh
        have u56d := grd_c hh
        replace hh := grd_t hh
        refine TC.draw [26, 27] (by kernel_rfl) ?_
        refine TA.takeP 0 rfl (by kernel_rfl) (by kernel_rfl) (by kernel_rfl) rfl (OpVal.moveI (.inl rfl) rfl) rfl rfl ?_
        refine TA.takeP 1 rfl (by kernel_rfl) (by kernel_rfl) (by kernel_rfl) rfl (OpVal.fieldLoc rfl fo25_1 rfl) rfl rfl ?_
        refine TA.take 2 rfl (by kernel_rfl) (by kernel_rfl) (by kernel_rfl) (by kernel_rfl) rfl (OpVal.loadLoc rfl ag22 rfl (i := 2) rfl rfl) rfl rfl ?_
        refine TA.takeP 3 rfl (by kernel_rfl) (by kernel_rfl) (by kernel_rfl) rfl (OpVal.fieldLoc rfl fo25_1 rfl) rfl rfl ?_
        refine TA.take 4 rfl (by kernel_rfl) (by kernel_rfl) (by kernel_rfl) (by kernel_rfl) rfl (OpVal.loadLoc rfl ag22 rfl (i := 1) rfl rfl) rfl rfl ?_
        refine TA.takeP 5 rfl (by kernel_rfl) (by kernel_rfl) (by kernel_rfl) rfl (OpVal.fieldLoc rfl fo25_0 rfl) rfl rfl ?_
        refine TA.take 6 rfl (by kernel_rfl) (by kernel_rfl) (by kernel_rfl) (by kernel_rfl) rfl (OpVal.loadLoc rfl ag3 rfl (i := 2) rfl rfl) rfl rfl ?_
        refine TA.takeP 10 rfl (by kernel_rfl) (by kernel_rfl) (by kernel_rfl) rfl (OpVal.fieldLoc rfl fo25_2 rfl) rfl rfl ?_
        refine TA.take 11 rfl (by kernel_rfl) (by kernel_rfl) (by kernel_rfl) (by kernel_rfl) rfl (OpVal.loadLoc rfl ag22 rfl (i := 2) rfl rfl) rfl rfl ?_
        refine TA.takeP 12 rfl (by kernel_rfl) (by kernel_rfl) (by kernel_rfl) rfl (OpVal.fieldLoc rfl fo25_2 rfl) rfl rfl ?_
        refine TA.take 13 rfl (by kernel_rfl) (by kernel_rfl) (by kernel_rfl) (by kernel_rfl) rfl (OpVal.loadLoc rfl ag22 rfl (i := 1) rfl rfl) rfl rfl ?_
        refine TA.takeP 14 rfl (by kernel_rfl) (by kernel_rfl) (by kernel_rfl) rfl (OpVal.fieldLoc rfl fo25_0 rfl) rfl rfl ?_
        refine TA.take 15 rfl (by kernel_rfl) (by kernel_rfl) (by kernel_rfl) (by kernel_rfl) rfl (OpVal.loadLoc rfl ag3 rfl (i := 2) rfl rfl) rfl rfl ?_
        refine TA.take 19 rfl (by kernel_rfl) (by kernel_rfl) (by kernel_rfl) (by kernel_rfl) rfl (OpVal.loadAll rfl ag25 sz25 rfl (i := 2) rfl rfl) rfl rfl ?_
        refine TA.take 20 rfl (by kernel_rfl) (by kernel_rfl) (by kernel_rfl) (by kernel_rfl) rfl (OpVal.loadAll rfl ag25 sz25 rfl (i := 1) rfl rfl) rfl rfl ?_
        refine TA.act 7 (by kernel_rfl) rfl rfl (OpOk.call (nfa_shift_con f1_0 u42) rfl rfl pf63 rfl rfl rfl rfl ?_)
        rintro _ _ _ hle141 ⟨a141_1, c141_1, rfl, rfl, rfl⟩
        refine ⟨(fun w h => sees_of (Store.le.refl _) (fun r hr => (List.mem_cons_of_mem _ hr)) w h), ?_⟩
        refine TA.sealS Go.E.encI_len (fun τ147 hle146 hr145 => ?_)
        replace f0_0 := f0_0.mono hle146
        replace f0_1 := f0_1.mono hle146
        replace f0_2 := f0_2.mono hle146
        replace f1_0 := f1_0.mono hle146
        replace f1_1 := f1_1.mono hle146
        replace f1_2 := f1_2.mono hle146
        have hr145b := hr145.rv.big
        have zf148 : ZOk _ (pkSl 1 Go.E.encI Go.E.encI_len) ([(x0.starts, (a0_0, c0_0)), (v42, (a141_1, c141_1))] : List (List Int × (pkSl 1 Go.E.encI Go.E.encI_len).P)) [x0.starts, v42] := ZOk.cons (f0_0) (ZOk.cons (hr145) (ZOk.nil _ _))
        refine TA.act 8 (by kernel_rfl) rfl rfl (OpOk.litZ zf148 rfl Try.underlying56 sz22 rfl ze22 rfl rfl rfl (by decide) (by decide) rfl (by decide) rfl (by decide) (fun a143 c144 => ⟨(fun w h => sees_of hle146 (fun r hr => (List.mem_cons_of_mem _ hr)) w h), ?_⟩))
        refine TA.sealZ zf148 (fun τ152 hle151 hr150 => ?_)
        replace f0_0 := f0_0.mono hle151
        replace f0_1 := f0_1.mono hle151
        replace f0_2 := f0_2.mono hle151
        replace f1_0 := f1_0.mono hle151
        replace f1_1 := f1_1.mono hle151
        replace f1_2 := f1_2.mono hle151
        replace hr145 := hr145.mono hle151
        replace zf148 := zf148.mono hle151
        have hr150b := hr150.big
        refine TA.act 9 (by kernel_rfl) rfl rfl (OpOk.call (concatI_con hr150 u44) rfl rfl pf66 rfl rfl rfl rfl ?_)
        rintro _ _ _ hle153 ⟨a153_1, c153_1, rfl, rfl, rfl⟩
        refine ⟨(fun w h => sees_of (hle146.trans hle151) (fun r hr => (List.mem_cons_of_mem _ hr)) w h), ?_⟩
        refine TA.act 16 (by kernel_rfl) rfl rfl (OpOk.call (nfa_shift_con f1_1 u51) rfl rfl pf63 rfl rfl rfl rfl ?_)
        rintro _ _ _ hle155 ⟨a155_1, c155_1, rfl, rfl, rfl⟩
        refine ⟨(fun w h => sees_of (hle146.trans hle151) (fun r hr => (List.mem_cons_of_mem _ (List.mem_cons_of_mem _ hr))) w h), ?_⟩
        refine TA.sealS Go.E.encI_len (fun τ161 hle160 hr159 => ?_)
        replace f0_0 := f0_0.mono hle160
        replace f0_1 := f0_1.mono hle160
        replace f0_2 := f0_2.mono hle160
        replace f1_0 := f1_0.mono hle160
        replace f1_1 := f1_1.mono hle160
        replace f1_2 := f1_2.mono hle160
        replace hr145 := hr145.mono hle160
        replace zf148 := zf148.mono hle160
        replace hr150 := hr150.mono hle160
        have hr159b := hr159.rv.big
        have zf162 : ZOk _ (pkSl 1 Go.E.encI Go.E.encI_len) ([(x0.ends, (a0_1, c0_1)), (v51, (a155_1, c155_1))] : List (List Int × (pkSl 1 Go.E.encI Go.E.encI_len).P)) [x0.ends, v51] := ZOk.cons (f0_1) (ZOk.cons (hr159) (ZOk.nil _ _))
        refine TA.act 17 (by kernel_rfl) rfl rfl (OpOk.litZ zf162 rfl Try.underlying56 sz22 rfl ze22 rfl rfl rfl (by decide) (by decide) rfl (by decide) rfl (by decide) (fun a157 c158 => ⟨(fun w h => sees_of ((hle146.trans hle151).trans hle160) (fun r hr => (List.mem_cons_of_mem _ (List.mem_cons_of_mem _ hr))) w h), ?_⟩))
        refine TA.sealZ zf162 (fun τ166 hle165 hr164 => ?_)
        replace f0_0 := f0_0.mono hle165
        replace f0_1 := f0_1.mono hle165
        replace f0_2 := f0_2.mono hle165
        replace f1_0 := f1_0.mono hle165
        replace f1_1 := f1_1.mono hle165
        replace f1_2 := f1_2.mono hle165
        replace hr145 := hr145.mono hle165
        replace zf148 := zf148.mono hle165
        replace hr150 := hr150.mono hle165
        replace hr159 := hr159.mono hle165
        replace zf162 := zf162.mono hle165
        have hr164b := hr164.big
        refine TA.act 18 (by kernel_rfl) rfl rfl (OpOk.call (concatI_con hr164 u53) rfl rfl pf66 rfl rfl rfl rfl ?_)
        rintro _ _ _ hle167 ⟨a167_1, c167_1, rfl, rfl, rfl⟩
        refine ⟨(fun w h => sees_of (((hle146.trans hle151).trans hle160).trans hle165) (fun r hr => (List.mem_cons_of_mem _ (List.mem_cons_of_mem _ hr))) w h), ?_⟩
        refine TA.act 21 (by kernel_rfl) rfl rfl (OpOk.callM (both_con _ x0 x1 ⟨a0_0, c0_0, a0_1, c0_1, a0_2, c0_2⟩ ⟨a1_0, c1_0, a1_1, c1_1, a1_2, c1_2⟩ ⟨f0_0, f0_1, f0_2, fun x _ => x.set.isOk⟩ ⟨f1_0, f1_1, f1_2, fun x _ => x.set.isOk⟩ u56a u56b u56c u56d) rfl rfl pf62 rfl rfl rfl (fun b169 a169 c169 => ⟨(fun w h => sees_of (((hle146.trans hle151).trans hle160).trans hle165) (fun r hr => (List.mem_cons_of_mem _ (List.mem_cons_of_mem _ (List.mem_cons_of_mem _ (List.mem_cons_of_mem _ hr))))) w h), ?_⟩))
        refine TA.takeP 22 rfl (by kernel_rfl) (by kernel_rfl) (by kernel_rfl) rfl (OpVal.nilCheckLoc rfl rfl) rfl rfl ?_
        refine TA.takeP 23 rfl (by kernel_rfl) (by kernel_rfl) (by kernel_rfl) rfl (OpVal.fieldLoc rfl fo74_0 rfl) rfl rfl ?_
        refine TA.act 24 (by kernel_rfl) rfl rfl (OpVal.ok (OpVal.loadLoc rfl ag23 rfl (i := 0) rfl rfl) rfl rfl ⟨(fun w h => sees_of (((hle146.trans hle151).trans hle160).trans hle165) (fun r hr => (List.mem_cons_of_mem _ (List.mem_cons_of_mem _ (List.mem_cons_of_mem _ (List.mem_cons_of_mem _ hr))))) w h), ?_⟩)
        refine TA.takeP 25 rfl (by kernel_rfl) (by kernel_rfl) (by kernel_rfl) rfl (OpVal.buildL rfl pl25 ze25 rfl) rfl rfl ?_
        refine TA.front 4 rfl rfl ?_
        refine TA.last 26 (by kernel_rfl) rfl rfl rfl (OpOk.storeAll rfl sz25 rfl rfl rfl rfl rfl rfl ?_)
        refine TZ.v 27 (by kernel_rfl) rfl rfl rfl (OpVal.moveI (.inr rfl) rfl) rfl rfl ?_
        refine TZ.done (by kernel_rfl) ?_
        refine S.n ?_
        refine TC.front 4 rfl rfl ?_
        refine TC.sealS Go.E.encI_len (fun τ174 hle173 hr172 => ?_)
        replace f0_0 := f0_0.mono hle173
        replace f0_1 := f0_1.mono hle173
        replace f0_2 := f0_2.mono hle173
        replace f1_0 := f1_0.mono hle173
        replace f1_1 := f1_1.mono hle173
        replace f1_2 := f1_2.mono hle173
        replace hr145 := hr145.mono hle173
        replace zf148 := zf148.mono hle173
        replace hr150 := hr150.mono hle173
        replace hr159 := hr159.mono hle173
        replace zf162 := zf162.mono hle173
        replace hr164 := hr164.mono hle173
        have hr172b := hr172.rv.big
        refine TC.front 3 rfl rfl ?_
        refine TC.sealS Go.E.encI_len (fun τ177 hle176 hr175 => ?_)
        replace f0_0 := f0_0.mono hle176
        replace f0_1 := f0_1.mono hle176
        replace f0_2 := f0_2.mono hle176
        replace f1_0 := f1_0.mono hle176
        replace f1_1 := f1_1.mono hle176
        replace f1_2 := f1_2.mono hle176
        replace hr145 := hr145.mono hle176
        replace zf148 := zf148.mono hle176
        replace hr150 := hr150.mono hle176
        replace hr159 := hr159.mono hle176
        replace zf162 := zf162.mono hle176
        replace hr164 := hr164.mono hle176
        replace hr172 := hr172.mono hle176
        have hr175b := hr175.rv.big
        refine TC.front 2 rfl rfl ?_
        refine TC.sealS encE_len (fun τ180 hle179 hr178 => ?_)
        replace f0_0 := f0_0.mono hle179
        replace f0_1 := f0_1.mono hle179
        replace f0_2 := f0_2.mono hle179
        replace f1_0 := f1_0.mono hle179
        replace f1_1 := f1_1.mono hle179
        replace f1_2 := f1_2.mono hle179
        replace hr145 := hr145.mono hle179
        replace zf148 := zf148.mono hle179
        replace hr150 := hr150.mono hle179
        replace hr159 := hr159.mono hle179
        replace zf162 := zf162.mono hle179
        replace hr164 := hr164.mono hle179
        replace hr172 := hr172.mono hle179
        replace hr175 := hr175.mono hle179
        have hr178b := hr178.rv.big
        refine TC.ofSub (Sub.pre 1 rfl) ?_
        refine TC.ret ?_
        obtain rfl := Option.some.inj hh
        exact RetOk.mk' (rs := [.cell 4 25, .tmp 5]) [] rfl (.inl rfl) (RVs.agg ag25 sz25 rfl (i := 0) rfl rfl (RVs.tmp rfl RVs.nil)) (List.sublist_append_left _ _) ⟨a153_1, c153_1, a167_1, c167_1, a169, c169, rfl, hr172, hr175, hr178, rfl⟩

end Go.Proofs.Ytcidppnlhhkhhaa
end
