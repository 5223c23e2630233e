/- What is joined is an automaton again; the law on parted texts is true. Plain. -/
import Derived.Test.YtcidppnlhhkhhaaN4
import Derived.Test.YtcidppnlhhkhhaaRuns
set_option linter.unusedVariables false
set_option linter.unusedSimpArgs false
namespace Go.Proofs.Ytcidppnlhhkhhaa
open Go Go.E
set_option maxRecDepth 100000

theorem pw_of_adj {l : List Int} (h : ∀ i, i + 1 < l.length → nth l i 0 < nth l (i + 1) 0) : l.Pairwise (· < ·) := by
  rw [List.pairwise_iff_getElem]
  have hn : ∀ i (hi : i < l.length), l[i] = nth l i 0 := fun i hi => by
    have := getD_some l hi 0
    rw [List.getElem?_eq_getElem hi, Option.some.injEq] at this; exact this
  have key : ∀ d i, i + d + 1 < l.length → nth l i 0 < nth l (i + d + 1) 0 := by
    intro d
    induction d with
    | zero => intro i hi; exact h i hi
    | succ d ih =>
      intro i hi
      have h1 := ih i (by omega)
      have h2 := h (i + d + 1) (by omega)
      rw [show i + (d + 1) + 1 = i + d + 1 + 1 by omega]; omega
  intro i j hi hj hij
  rw [hn i hi, hn j hj]
  have := key (j - i - 1) i (by omega)
  rwa [show i + (j - i - 1) + 1 = j by omega] at this
theorem riseB_iff {l : List Int} {n : Int} : riseB l n = true ↔ (∀ x ∈ l, 0 ≤ x ∧ x < n) ∧ l.Pairwise (· < ·) := by
  have hn : ∀ i (hi : i < l.length), l[i] = nth l i 0 := fun i hi => by
    have := getD_some l hi 0
    rw [List.getElem?_eq_getElem hi, Option.some.injEq] at this; exact this
  constructor
  · intro h
    refine ⟨riseB_state h, pw_of_adj fun i hi => ?_⟩
    unfold riseB at h
    rw [List.all_eq_true] at h
    have := h (i + 1) (List.mem_range.2 hi)
    simp only [riseFrom, stateB, Bool.and_eq_true, Bool.not_eq_true', Bool.and_eq_false_iff, decide_eq_false_iff_not, decide_eq_true_eq, Nat.add_sub_cancel] at this
    omega
  · rintro ⟨h1, h2⟩
    rw [riseB, List.all_eq_true]
    intro i hi
    have hi := List.mem_range.1 hi
    rw [List.pairwise_iff_getElem] at h2
    have hx := h1 _ (nth_mem hi 0)
    have h3 : 0 < i → nth l (i - 1) 0 < nth l i 0 := fun h0 => by
      have := h2 (i - 1) i (by omega) hi (by omega)
      rwa [hn, hn] at this
    simp only [riseFrom, stateB, Bool.and_eq_true, Bool.not_eq_true', Bool.and_eq_false_iff, decide_eq_false_iff_not, decide_eq_true_eq]
    omega
theorem checkB_iff {n : Nfa} : checkB n = true ↔ 0 ≤ n.states ∧ n.states ≤ 4096 ∧ n.edges.length ≤ 65536 ∧ ((∀ x ∈ n.starts, 0 ≤ x ∧ x < n.states) ∧ n.starts.Pairwise (· < ·)) ∧ ((∀ x ∈ n.ends, 0 ≤ x ∧ x < n.states) ∧ n.ends.Pairwise (· < ·)) ∧
    ∀ e ∈ n.edges, 0 ≤ e.frm ∧ e.frm < n.states ∧ 0 ≤ e.to ∧ e.to < n.states ∧ e.set ≠ BSet.zero := by
  simp only [checkB, Bool.and_eq_true, decide_eq_true_eq, riseB_iff, List.all_eq_true, edgeB, stateB, Bool.not_eq_true', decide_eq_false_iff_not]
  constructor
  · rintro ⟨⟨⟨⟨⟨h1, h2⟩, h3⟩, h4⟩, h5⟩, h6⟩
    exact ⟨h1, h2, by omega, h4, h5, fun e he => by have := h6 e he; exact ⟨this.1.1.1, this.1.1.2, this.1.2.1, this.1.2.2, this.2⟩⟩
  · rintro ⟨h1, h2, h3, h4, h5, h6⟩
    exact ⟨⟨⟨⟨⟨h1, h2⟩, by omega⟩, h4⟩, h5⟩, fun e he => by have := h6 e he; exact ⟨⟨⟨this.1, this.2.1⟩, this.2.2.1, this.2.2.2.1⟩, this.2.2.2.2⟩⟩

theorem pw_shift {l : List Int} {k : Int} (h : l.Pairwise (· < ·)) : (shiftL l k).Pairwise (· < ·) := by
  rw [shiftL, List.pairwise_map]; exact h.imp (by intro a b hab; omega)
theorem mem_shiftL_bound {l : List Int} {k n : Int} (h : ∀ x ∈ l, 0 ≤ x ∧ x < n) : ∀ x ∈ shiftL l k, k ≤ x ∧ x < n + k := by
  intro x hx; have := h _ (mem_shiftL.1 hx); omega
theorem pw_app {a b : List Int} {k : Int} (ha : a.Pairwise (· < ·)) (hb : b.Pairwise (· < ·)) (h1 : ∀ x ∈ a, x < k) (h2 : ∀ x ∈ b, k ≤ x) : (a ++ b).Pairwise (· < ·) := by
  rw [List.pairwise_append]; exact ⟨ha, hb, fun x hx y hy => by have := h1 x hx; have := h2 y hy; omega⟩

theorem ofL_one_ne (b : UInt8) : BSet.ofL [b] ≠ BSet.zero := fun h => by
  have := (has_one b b).2 rfl
  rw [h, has_zero] at this; cases this
theorem checkB_text {s : List UInt8} (hs : s.length ≤ 256) : checkB (textN s) = true := by
  rw [checkB_iff]
  simp only [textN, textE_len, List.mem_singleton, forall_eq, List.pairwise_singleton, and_true]
  refine ⟨by omega, by omega, by omega, by omega, by omega, fun e he => ?_⟩
  obtain ⟨i, hi, rfl⟩ := mem_textE.1 he
  simp only
  exact ⟨by omega, by omega, by omega, by omega, ofL_one_ne _⟩
theorem checkB_set (t : BSet) : checkB (setN t) = true := by
  rw [checkB_iff]
  simp only [setN, List.mem_singleton, forall_eq, List.pairwise_singleton, and_true]
  refine ⟨by omega, by omega, by unfold setE; split <;> simp, by omega, by omega, fun e he => ?_⟩
  obtain ⟨h, rfl⟩ := mem_setE.1 he
  simp only
  exact ⟨by omega, by omega, by omega, by omega, h⟩
theorem altF_iff {x y : Nfa} : altF x y = true ↔ x.states + y.states ≤ 4096 ∧ x.edges.length + y.edges.length ≤ 65536 := by
  simp only [altF, fitB, Bool.and_eq_true, decide_eq_true_eq]; omega
theorem checkB_alt {x y : Nfa} (hx : checkB x = true) (hy : checkB y = true) (hF : altF x y = true) : checkB (altN x y) = true := by
  obtain ⟨k1, k2, k3, ⟨k4, k4'⟩, ⟨k5, k5'⟩, k6⟩ := checkB_iff.1 hx
  obtain ⟨l1, l2, l3, ⟨l4, l4'⟩, ⟨l5, l5'⟩, l6⟩ := checkB_iff.1 hy
  obtain ⟨f1, f2⟩ := altF_iff.1 hF
  have s4 := mem_shiftL_bound (k := x.states) l4
  have s5 := mem_shiftL_bound (k := x.states) l5
  rw [checkB_iff]
  simp only [altN, altE, List.mem_append, List.length_append, shiftE_len]
  refine ⟨by omega, by omega, by omega, ⟨fun u hu => ?_, pw_app k4' (pw_shift l4') (fun u hu => (k4 u hu).2) (fun u hu => (s4 u hu).1)⟩, ⟨fun u hu => ?_, pw_app k5' (pw_shift l5') (fun u hu => (k5 u hu).2) (fun u hu => (s5 u hu).1)⟩, fun e he => ?_⟩
  · rcases hu with hu | hu
    · have := k4 u hu; omega
    · have := s4 u hu; omega
  · rcases hu with hu | hu
    · have := k5 u hu; omega
    · have := s5 u hu; omega
  · rcases he with he | he
    · have := k6 e he; exact ⟨by omega, by omega, by omega, by omega, this.2.2.2.2⟩
    · obtain ⟨u, hu, rfl⟩ := mem_shiftE.1 he
      have := l6 u hu
      simp only
      exact ⟨by omega, by omega, by omega, by omega, this.2.2.2.2⟩
theorem lastTo_eq (x y : Nfa) : ∀ k, k ≤ x.edges.length → ((x.edges.take k).flatMap (catOf x y)).length = lastTo x k * y.starts.length := by
  intro k
  induction k with
  | zero => intro _; simp [lastTo]
  | succ k ih =>
    intro hk
    have := ih (by omega)
    rw [take_snoc _ (show k < x.edges.length by omega) Arrow.zero, List.flatMap_append, List.length_append, this]
    simp only [lastTo, take_snoc _ (show k < x.edges.length by omega) Arrow.zero, List.filter_append, List.length_append, Nat.add_mul, Nat.add_left_cancel_iff]
    by_cases hc : x.ends.contains (nth x.edges k Arrow.zero).to = true
    · have hc' : (nth x.edges k Arrow.zero).to ∈ x.ends := by simpa using hc
      simp [List.flatMap_cons, catOf, hc', catPut, shiftL, Nat.add_mul]
    · have hc' : ¬ (nth x.edges k Arrow.zero).to ∈ x.ends := by simpa using hc
      simp [List.flatMap_cons, catOf, hc']
theorem checkB_cat {x y : Nfa} (hx : checkB x = true) (hy : checkB y = true) (hF : catF x y = true) : checkB (catN x y) = true := by
  obtain ⟨k1, k2, k3, ⟨k4, k4'⟩, ⟨k5, k5'⟩, k6⟩ := checkB_iff.1 hx
  obtain ⟨l1, l2, l3, ⟨l4, l4'⟩, ⟨l5, l5'⟩, l6⟩ := checkB_iff.1 hy
  simp only [catF, fitB, Bool.and_eq_true, decide_eq_true_eq] at hF
  obtain ⟨f1, f2⟩ := hF
  have s4 := mem_shiftL_bound (k := x.states) l4
  have s5 := mem_shiftL_bound (k := x.states) l5
  have hl := lastTo_eq x y x.edges.length (Nat.le_refl _)
  rw [checkB_iff]
  refine ⟨by simp only [catN]; omega, by simp only [catN]; omega, ?_, ?_, ?_, fun e he => ?_⟩
  · simp only [catN, catTo, List.length_append, shiftE_len, hl]
    have : ((lastTo x x.edges.length * y.starts.length : Nat) : Int) = (lastTo x x.edges.length : Int) * (y.starts.length : Int) := by simp
    omega
  · simp only [catN, catS]
    split
    · refine ⟨fun u hu => ?_, pw_app k4' (pw_shift l4') (fun u hu => (k4 u hu).2) (fun u hu => (s4 u hu).1)⟩
      rcases List.mem_append.1 hu with hu | hu
      · have := k4 u hu; omega
      · have := s4 u hu; omega
    · exact ⟨fun u hu => by have := k4 u hu; omega, k4'⟩
  · simp only [catN, catD]
    split
    · refine ⟨fun u hu => ?_, pw_app k5' (pw_shift l5') (fun u hu => (k5 u hu).2) (fun u hu => (s5 u hu).1)⟩
      rcases List.mem_append.1 hu with hu | hu
      · have := k5 u hu; omega
      · have := s5 u hu; omega
    · rw [List.nil_append]; exact ⟨fun u hu => by have := s5 u hu; omega, pw_shift l5'⟩
  · have hst : (catN x y).states = x.states + y.states := rfl
    rw [hst]
    rcases mem_catE.1 he with he | he | ⟨u, hu, _, s, hs, rfl⟩
    · have := k6 e he; exact ⟨by omega, by omega, by omega, by omega, this.2.2.2.2⟩
    · obtain ⟨u, hu, rfl⟩ := mem_shiftE.1 he
      have := l6 u hu
      simp only
      exact ⟨by omega, by omega, by omega, by omega, this.2.2.2.2⟩
    · have := k6 u hu; have := l4 s hs
      simp only
      exact ⟨by omega, by omega, by omega, by omega, (k6 u hu).2.2.2.2⟩

/-- Whether a right automaton takes a text. -/
def takB (n : Nfa) (w : List UInt8) : Bool := checkB n && takesL n w
theorem law_takes_eq (n : Nfa) (w : List UInt8) (hw : w.length ≤ 281474976710656) : whittlelaw10_takes n w = some (takB n w) := by
  unfold whittlelaw10_takes takB
  rw [grd_mk hw, bnd_some (takes_eq n w hw)]
  cases h : checkB n
  · simp
  · cases h2 : takesL n w <;> simp

theorem nfaParts_eq (a b : Nfa) (s : List UInt8) (t : BSet) (w : List UInt8) (hs : s.length ≤ 281474976710656) (hw : w.length ≤ 281474976710656) : whittlelaw10_NfaParts a b s t w = some true := by
  unfold whittlelaw10_NfaParts
  rw [grd_mk hs, grd_mk hw]
  cases fewB a
  · rfl
  cases fewB b
  · rfl
  simp only [Bool.not_true, iteO_false]
  by_cases h1 : (100 : Int) < ((s.length : Nat) : Int)
  · rw [decide_eq_true h1]; rfl
  by_cases h2 : (12 : Int) < ((w.length : Nat) : Int)
  · rw [decide_eq_false h1, decide_eq_true h2]; rfl
  have e1 : textX s = 0 := if_pos (by omega)
  have e2 : textR s = textN s := if_pos (by omega)
  have hc := checkB_text (s := s) (by omega)
  have hT : ∀ v, takB (textN s) v = decide (v = s) := fun v => by rw [takB, hc, takesL_text]; rfl
  rw [decide_eq_false h1, decide_eq_false h2, iteO_false, iteO_false, grd_mk (by omega), e1, decide_eq_false (by simp), iteO_false, e2, bnd_some (law_takes_eq _ _ hs), hT, decide_eq_true rfl, Bool.not_true, iteO_false,
    bnd_some (law_takes_eq _ _ hw), hT]
  have e3 : ((decide (w = s)) != (decide (s = w))) = false := by
    by_cases h : w = s
    · subst h; simp
    · have h' : ¬ s = w := fun e => h e.symm
      simp [h, h']
  rw [e3, iteO_false, bnd_some (law_takes_eq _ _ hw)]
  have hj : whittlelaw10_NfaParts_j1 a b w = some true := by
    unfold whittlelaw10_NfaParts_j1
    rw [bnd_some (nfa_Alt_eq a b), bnd_some awake_eq]
    by_cases g1 : catX a b ≠ 0
    · rw [decide_eq_true g1]; rfl
    by_cases g2 : altX a b ≠ 0
    · rw [decide_eq_false g1, decide_eq_true g2]; rfl
    rw [decide_eq_false g1, decide_eq_false g2, iteO_false, iteO_false]
    have hab : checkB a = true ∧ checkB b = true := Decidable.byContradiction fun h => g1 (by simp only [catX, if_neg h]; decide)
    have hcf : catF a b = true := Decidable.byContradiction fun h => g1 (by simp only [catX, if_pos hab, if_neg h]; decide)
    have haf : altF a b = true := Decidable.byContradiction fun h => g2 (by simp only [altX, if_pos hab, if_neg h]; decide)
    obtain ⟨ha, hb⟩ := hab
    have ec : catR a b = catN a b := by simp only [catR, if_pos (And.intro ha hb), if_pos hcf]
    have ea : altR a b = altN a b := by simp only [altR, if_pos (And.intro ha hb), if_pos haf]
    have tc : takB (catN a b) w = (List.range (w.length + 1)).any fun i => takB a (w.take i) && takB b (w.drop i) := by
      rw [Bool.eq_iff_iff, takB, checkB_cat ha hb hcf, Bool.true_and, takesL_cat ha hb, List.any_eq_true]
      simp only [takB, ha, hb, Bool.true_and, Bool.and_eq_true]
      constructor
      · rintro ⟨v, u, rfl, hv, hu⟩
        exact ⟨v.length, List.mem_range.2 (by simp; omega), by simpa using hv, by simpa using hu⟩
      · rintro ⟨i, hi, h3, h4⟩
        exact ⟨_, _, (List.take_append_drop i w).symm, h3, h4⟩
    have ta : takB (altN a b) w = (takB a w || takB b w) := by
      rw [takB, checkB_alt ha hb haf, Bool.true_and, takesL_alt ha hb, takB, takB, ha, hb, Bool.true_and, Bool.true_and]
    refine iter_seq0 (step := fun q : Bool × Nat => whittlelaw10_NfaParts_b1 w a b (altR a b, altX a b) q.1 q.2) (fun k => ((List.range k).any fun i => takB a (w.take i) && takB b (w.drop i), k)) (w.length + 1) (fun k hk => ?_) ?_
    · simp only [whittlelaw10_NfaParts_b1, decide_eq_true (show ((k : Nat) : Int) ≤ ((w.length : Nat) : Int) by omega), iteO_true]
      have hr : ((List.range (k + 1)).any fun i => takB a (w.take i) && takB b (w.drop i)) = (((List.range k).any fun i => takB a (w.take i) && takB b (w.drop i)) || (takB a (w.take k) && takB b (w.drop k))) := by
        rw [List.range_succ, List.any_append]; simp
      rw [hr]
      cases (List.range k).any fun i => takB a (w.take i) && takB b (w.drop i)
      · rw [iteO_false, grd_mk (by omega), bnd_some (law_takes_eq _ _ (by simp; omega)), grd_mk (by omega), bnd_some (law_takes_eq _ _ (by simp; omega))]
        cases takB a (w.take k) <;> rfl
      · rfl
    · simp only [whittlelaw10_NfaParts_b1, decide_eq_false (show ¬ ((w.length + 1 : Nat) : Int) ≤ ((w.length : Nat) : Int) by omega), iteO_false]
      rw [bnd_some awake_eq, iteO_true, ec, ea, bnd_some (law_takes_eq _ _ hw), tc, beq_self_eq_true, iteO_true, bnd_some (law_takes_eq _ _ hw), ta, bnd_some (law_takes_eq _ _ hw), bnd_some (law_takes_eq _ _ hw)]
      cases takB a w <;> cases takB b w <;> rfl
  have hset : takB (setN t) w = (decide (w.length = 1) && t.has (nth w 0 (0 : UInt8)).toNat) := by
    rw [Bool.eq_iff_iff, takB, checkB_set, Bool.true_and, takesL_set, Bool.and_eq_true, decide_eq_true_eq]
    constructor
    · rintro ⟨b, rfl, h⟩; exact ⟨rfl, h⟩
    · rintro ⟨h, h'⟩
      match w, h with
      | [b], _ => exact ⟨b, rfl, h'⟩
  rw [hset]
  by_cases h3 : w.length = 1
  · rw [decide_eq_true (show ((w.length : Nat) : Int) = 1 by omega), iteO_true, grd_mk (by omega), decide_eq_true h3, Bool.true_and]
    simp only [bne_self_eq_false, iteO_false]
    exact hj
  · rw [decide_eq_false (show ¬ ((w.length : Nat) : Int) = 1 by omega), iteO_false, decide_eq_false h3]
    exact hj
end Go.Proofs.Ytcidppnlhhkhhaa
