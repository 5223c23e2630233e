/- The reference's In and Sort, and the law on what is made. Plain lemmas, no condition. -/
import Derived.Test.YtpijipnmfkehcaaGreatG1
import Derived.Test.YtpijipnmfkehcaaGreatFstR
set_option linter.unusedVariables false
set_option linter.unusedSimpArgs false
namespace Go.Proofs.YtpijipnmfkehcaaGreat
open Go Go.E
set_option maxRecDepth 100000
set_option linter.unusedSectionVars false

section
variable {α : Type} [DecidableEq α] {d : α} {cf : α → α → Int}
/-- Put in one by one, where they belong: in order, each once. -/
theorem ins_run (hc : GoodCmp cf) (x0 : List α) (step1 : List α × Nat → Option ((List α × Nat) ⊕ List α)) (step2 : List α → Nat → Nat → Option (Nat ⊕ ((List α × Nat) ⊕ List α)))
    (hend : ∀ l k, x0.length ≤ k → step1 (l, k) = some (.inr l)) (hbody : ∀ l k, k < x0.length → step1 (l, k) = iter (step2 l k) 0)
    (hlt : ∀ l k j, k < x0.length → j < l.length → cf (nth l j d) (nth x0 k d) < 0 → step2 l k j = some (.inl (j + 1)))
    (heq : ∀ l k j, k < x0.length → j < l.length → nth l j d = nth x0 k d → step2 l k j = some (.inr (.inl (l, k + 1))))
    (hins : ∀ l k j, k < x0.length → l.length ≤ x0.length → j ≤ l.length → (j < l.length → ¬ cf (nth l j d) (nth x0 k d) < 0 ∧ nth l j d ≠ nth x0 k d) → step2 l k j = some (.inr (.inl (l.take j ++ [nth x0 k d] ++ l.drop j, k + 1)))) :
    iter step1 ([], 0) = some (onceL d cf x0) := by
  refine Exists.elim (iter_run (step := step1) (fun q => q.2 ≤ x0.length ∧ q.1.length ≤ q.2 ∧ (q.1.Pairwise fun x y => cf x y < 0) ∧ ∀ x, x ∈ q.1 ↔ x ∈ x0.take q.2) (fun r => r = onceL d cf x0) (fun q => x0.length - q.2) ?_ ([], 0) ⟨Nat.zero_le _, Nat.le_refl _, List.Pairwise.nil, by simp⟩) (fun r hr => by rw [hr.1, hr.2])
  rintro ⟨l, k⟩ ⟨hk, hl, hp, hm⟩
  simp only at hk hl hp hm
  by_cases hkl : k < x0.length
  · left
    have inner : ∃ r, iter (step2 l k) 0 = some r ∧ ∃ l', r = .inl (l', k + 1) ∧ l'.length ≤ k + 1 ∧ (l'.Pairwise fun x y => cf x y < 0) ∧ ∀ x, x ∈ l' ↔ x ∈ l ∨ x = nth x0 k d := by
      refine iter_run (step := step2 l k) (fun j => j ≤ l.length ∧ ∀ i, i < j → cf (nth l i d) (nth x0 k d) < 0) _ (fun j => l.length - j) ?_ 0 ⟨Nat.zero_le _, fun i hi => absurd hi (Nat.not_lt_zero _)⟩
      rintro j ⟨hj, hI⟩
      by_cases hjl : j < l.length
      · by_cases h1 : cf (nth l j d) (nth x0 k d) < 0
        · left
          refine ⟨j + 1, hlt l k j hkl hjl h1, ⟨by omega, fun i hi => ?_⟩, by omega⟩
          by_cases e : i = j
          · subst e; exact h1
          · exact hI i (by omega)
        · right
          by_cases h2 : nth l j d = nth x0 k d
          · refine ⟨_, heq l k j hkl hjl h2, l, rfl, by omega, hp, fun x => ⟨.inl, ?_⟩⟩
            rintro (h | rfl)
            · exact h
            · rw [← h2]; exact nth_mem' hjl d
          · refine ⟨_, hins l k j hkl (by omega) hj (fun _ => ⟨h1, h2⟩), _, rfl, ?_, ?_, ?_⟩
            · simp only [List.length_append, List.length_take, List.length_drop, List.length_singleton]; omega
            · have hxj : cf (nth x0 k d) (nth l j d) < 0 := by
                have a := hc.anti (nth x0 k d) (nth l j d)
                have b := hc.eq (nth l j d) (nth x0 k d)
                have : cf (nth l j d) (nth x0 k d) ≠ 0 := fun h => h2 (b.1 h)
                omega
              have hd : l.drop j = nth l j d :: l.drop (j + 1) := by
                have := getD_some l hjl d
                rw [List.getElem?_eq_getElem hjl, Option.some.injEq] at this
                rw [← this]; exact List.drop_eq_getElem_cons hjl
              have hpd : (l.drop j).Pairwise fun x y => cf x y < 0 := hp.sublist (List.drop_sublist ..)
              have hgt : ∀ y ∈ l.drop j, cf (nth x0 k d) y < 0 := fun y hy => by
                rw [hd] at hy hpd
                rw [List.pairwise_cons] at hpd
                rcases List.mem_cons.1 hy with rfl | hy
                · exact hxj
                · exact hc.trans _ _ _ hxj (hpd.1 y hy)
              have hls : ∀ y ∈ l.take j, cf y (nth x0 k d) < 0 := fun y hy => by
                obtain ⟨i, hi, rfl⟩ := List.mem_iff_getElem.1 hy
                have hij : i < j := by simp at hi; omega
                have := hI i hij
                have e := getD_some l (show i < l.length by omega) d
                rw [List.getElem?_eq_getElem (show i < l.length by omega), Option.some.injEq] at e
                rw [List.getElem_take, e]; exact this
              rw [List.append_assoc, List.pairwise_append]
              refine ⟨hp.sublist (List.take_sublist ..), ?_, fun x hx y hy => ?_⟩
              · rw [List.singleton_append, List.pairwise_cons]
                exact ⟨hgt, hpd⟩
              · rw [List.singleton_append, List.mem_cons] at hy
                rcases hy with rfl | hy
                · exact hls x hx
                · exact hc.trans _ _ _ (hls x hx) (hgt y hy)
            · intro x
              rw [List.append_assoc, List.mem_append, List.singleton_append, List.mem_cons]
              have : x ∈ l ↔ x ∈ l.take j ∨ x ∈ l.drop j := by rw [← List.mem_append, List.take_append_drop]
              rw [this]
              constructor
              · rintro (h | h | h)
                · exact .inl (.inl h)
                · exact .inr h
                · exact .inl (.inr h)
              · rintro ((h | h) | h)
                · exact .inl h
                · exact .inr (.inr h)
                · exact .inr (.inl h)
      · right
        have hj' : j = l.length := by omega
        subst hj'
        refine ⟨_, hins l k l.length hkl (by omega) hj (fun h => absurd h (Nat.lt_irrefl _)), _, rfl, ?_, ?_, ?_⟩
        · simp only [List.length_append, List.length_take, List.length_drop, List.length_singleton]; omega
        · rw [List.take_length, List.drop_length, List.append_nil, List.pairwise_append]
          refine ⟨hp, List.pairwise_singleton .., fun x hx y hy => ?_⟩
          rw [List.mem_singleton.1 hy]
          obtain ⟨i, hi, rfl⟩ := List.mem_iff_getElem.1 hx
          have := hI i hi
          have e := getD_some l hi d
          rw [List.getElem?_eq_getElem hi, Option.some.injEq] at e
          rw [e]; exact this
        · intro x; simp
    obtain ⟨r, h1, l', rfl, h2, h3, h4⟩ := inner
    refine ⟨(l', k + 1), by rw [hbody l k hkl, h1], ⟨by simp only; omega, h2, h3, fun x => ?_⟩, by simp only; omega⟩
    simp only
    rw [h4, take_snoc x0 hkl d, List.mem_append, List.mem_singleton, hm]
  · right
    refine ⟨l, hend l k (by omega), rising_eq hc hp (sorted_onceL hc x0) fun x => ?_⟩
    rw [hm, mem_onceL, List.take_of_length_le (by omega)]
end

theorem sortI_eq {l : List Int} (h : l.length ≤ 1000000) : whittleref05_Sort l = some (onceL 0 cmpI l) := by
  unfold whittleref05_Sort
  refine ins_run cmpI_good l (fun q => whittleref05_Sort_b1 l q.1 q.2) (fun m k j => whittleref05_Sort_b2 m l k j) ?_ ?_ ?_ ?_ ?_
  · intro m k hk
    simp only [whittleref05_Sort_b1, decide_eq_false (show ¬ ((k : Nat) : Int) < ((l.length : Nat) : Int) by omega), iteO_false]; rfl
  · intro m k hk
    simp only [whittleref05_Sort_b1, lt_dec hk, iteO_true]
  · intro m k j hk hj hc
    rw [cmpI_lt] at hc
    simp only [whittleref05_Sort_b2, lt_dec hj, iteO_true, decide_eq_true hc]; rfl
  · intro m k j hk hj he
    simp only [whittleref05_Sort_b2, lt_dec hj, iteO_true, he, Int.lt_irrefl, decide_false, iteO_false, whittleref05_Sort_j2, decide_true]; rfl
  · intro m k j hk hm hj hn
    have hg : whittleref05_Sort_j3 j m l k = some (.inl (m.take j ++ [nth l k 0] ++ m.drop j, k + 1)) := by
      unfold whittleref05_Sort_j3 whittleref05_Sort_j1
      rw [grd_mk (by omega), grd_mk (by simp only [List.length_nil, List.length_take]; omega), grd_mk (by simp only [List.length_append, List.length_nil, List.length_take, List.length_singleton]; omega), grd_mk (by omega), grd_mk (by simp only [List.length_append, List.length_nil, List.length_take, List.length_singleton, List.length_drop]; omega)]
      rfl
    by_cases hjl : j < m.length
    · obtain ⟨h1, h2⟩ := hn hjl
      rw [cmpI_lt] at h1
      simp only [whittleref05_Sort_b2, lt_dec hjl, iteO_true, decide_eq_false h1, iteO_false, whittleref05_Sort_j2, decide_eq_false h2, hg, fin_some]
    · simp only [whittleref05_Sort_b2, decide_eq_false (show ¬ ((j : Nat) : Int) < ((m.length : Nat) : Int) by omega), iteO_false, whittleref05_Sort_j2, hg, fin_some]
theorem corI_lt {a b : Int} : corI a b < 0 ↔ a < 0 ∨ (a = 0 ∧ b < 0) := by unfold corI; split <;> omega
theorem corI_eq0 {a b : Int} : corI a b = 0 ↔ a = 0 ∧ b = 0 := by unfold corI; split <;> omega
theorem cmpN_lt {x y : Nat} : cmpN x y < 0 ↔ x < y := by unfold cmpN; (repeat' split) <;> omega
theorem cmpN_eq0 {x y : Nat} : cmpN x y = 0 ↔ x = y := cmpN_good.eq x y
theorem cmpI_eq0 {x y : Int} : cmpI x y = 0 ↔ x = y := cmpI_good.eq x y
theorem cmpB_eq0 {x y : List UInt8} : Lib.compareBytes x y = 0 ↔ x = y := cmpB_good.eq x y
theorem tipLess_eq (x y : Tip) : whittleref15_tipLess x y = some (decide (cmpTip x y < 0)) := by
  unfold whittleref15_tipLess
  simp only [cmpTip, corI_lt, cmpI_lt, cmpI_eq0]
  by_cases h1 : x.state < y.state
  · simp [h1]
  · by_cases h2 : x.state = y.state
    · simp [h2]
    · simp [h1, h2]
theorem arcLess_tail (x y : Arc) : iter (fun q : Nat => whittleref15_arcLess_b1 x y q) 4 = some (decide (corI (Lib.compareBytes x.out y.out) (corI (cmpBool x.copy y.copy) 0) < 0)) := by
  refine iter_done ?_
  simp only [whittleref15_arcLess_b1, corI_lt]
  rw [decide_eq_false (by omega), iteO_false]
  by_cases h : x.out = y.out
  · have := cmpB_eq0.2 h
    rw [decide_eq_false (by simpa using h), iteO_false]
    simp only [this]
    cases x.copy <;> cases y.copy <;> decide
  · have : ¬ Lib.compareBytes x.out y.out = 0 := fun e => h (cmpB_eq0.1 e)
    rw [decide_eq_true (by simpa using h), iteO_true]
    simp [this]
theorem arcLess_word (x y : Arc) (k : Nat) (hk : k < 4) {t : Int} (ht : iter (fun q : Nat => whittleref15_arcLess_b1 x y q) (k + 1) = some (decide (t < 0))) :
    iter (fun q : Nat => whittleref15_arcLess_b1 x y q) k = some (decide (corI (cmpN (x.set.word k) (y.set.word k)) t < 0)) := by
  simp only [corI_lt, cmpN_lt, cmpN_eq0]
  by_cases h : x.set.word k = y.set.word k
  · refine iter_next (s' := k + 1) ?_ ?_
    · simp only [whittleref15_arcLess_b1]
      rw [decide_eq_true (by omega), iteO_true, grd_mk hk, grd_mk hk, decide_eq_false (by simpa using h), iteO_false]; rfl
    · rw [ht]; simp [h]
  · refine iter_done ?_
    simp only [whittleref15_arcLess_b1]
    rw [decide_eq_true (by omega), iteO_true, grd_mk hk, grd_mk hk, decide_eq_true (by simpa using h), iteO_true, grd_mk hk, grd_mk hk]
    simp [h]
theorem arcLess_eq (x y : Arc) : whittleref15_arcLess x y = some (decide (cmpArc x y < 0)) := by
  have hw := arcLess_word x y 0 (by decide) (arcLess_word x y 1 (by decide) (arcLess_word x y 2 (by decide) (arcLess_word x y 3 (by decide) (arcLess_tail x y))))
  unfold whittleref15_arcLess
  have e : cmpArc x y = corI (cmpI x.frm y.frm) (corI (cmpI x.to y.to) (corI (cmpN (x.set.word 0) (y.set.word 0)) (corI (cmpN (x.set.word 1) (y.set.word 1)) (corI (cmpN (x.set.word 2) (y.set.word 2)) (corI (cmpN (x.set.word 3) (y.set.word 3)) (corI (Lib.compareBytes x.out y.out) (corI (cmpBool x.copy y.copy) 0))))))) := by
    have asc : ∀ a b c : Int, corI (corI a b) c = corI a (corI b c) := fun a b c => by unfold corI; (repeat' split) <;> first | rfl | omega
    simp only [cmpArc, cmpSet, asc]; rfl
  rw [e, hw]
  generalize corI (cmpN (x.set.word 0) (y.set.word 0)) _ = T
  simp only [corI_lt, cmpI_lt, cmpI_eq0]
  by_cases h1 : x.frm = y.frm
  · rw [decide_eq_false (by simpa using h1), iteO_false]
    by_cases h2 : x.to = y.to
    · rw [decide_eq_false (by simpa using h2), iteO_false]
      simp [h1, h2]
    · rw [decide_eq_true (by simpa using h2), iteO_true]
      simp [h1, h2]
  · rw [decide_eq_true (by simpa using h1), iteO_true]
    simp [h1]
theorem sortTips_eq {l : List Tip} (h : l.length ≤ 1000000) : whittleref15_SortTips l = some (onceL Tip.zero cmpTip l) := by
  unfold whittleref15_SortTips
  refine ins_run cmpTip_good l (fun q => whittleref15_SortTips_b1 l q.1 q.2) (fun m k j => whittleref15_SortTips_b2 m l k j) ?_ ?_ ?_ ?_ ?_
  · intro m k hk
    simp only [whittleref15_SortTips_b1, decide_eq_false (show ¬ ((k : Nat) : Int) < ((l.length : Nat) : Int) by omega), iteO_false]; rfl
  · intro m k hk
    simp only [whittleref15_SortTips_b1, lt_dec hk, iteO_true]
  · intro m k j hk hj hc
    simp only [whittleref15_SortTips_b2, lt_dec hj, iteO_true, tipLess_eq, bnd, Option.bind_some, decide_eq_true hc]; rfl
  · intro m k j hk hj he
    simp only [whittleref15_SortTips_b2, lt_dec hj, iteO_true, tipLess_eq, bnd, Option.bind_some, he, decide_eq_false (cmpTip_good.irr _), iteO_false, whittleref15_SortTips_j2, decide_true]; rfl
  · intro m k j hk hm hj hn
    have hg : whittleref15_SortTips_j3 j m l k = some (.inl (m.take j ++ [nth l k Tip.zero] ++ m.drop j, k + 1)) := by
      unfold whittleref15_SortTips_j3 whittleref15_SortTips_j1
      rw [grd_mk (by omega), grd_mk (by simp only [List.length_nil, List.length_take]; omega), grd_mk (by simp only [List.length_append, List.length_nil, List.length_take, List.length_singleton]; omega), grd_mk (by omega), grd_mk (by simp only [List.length_append, List.length_nil, List.length_take, List.length_singleton, List.length_drop]; omega)]
      rfl
    by_cases hjl : j < m.length
    · obtain ⟨h1, h2⟩ := hn hjl
      simp only [whittleref15_SortTips_b2, lt_dec hjl, iteO_true, tipLess_eq, bnd, Option.bind_some, decide_eq_false h1, iteO_false, whittleref15_SortTips_j2, decide_eq_false h2, hg, fin_some]
    · simp only [whittleref15_SortTips_b2, decide_eq_false (show ¬ ((j : Nat) : Int) < ((m.length : Nat) : Int) by omega), iteO_false, whittleref15_SortTips_j2, hg, fin_some]
theorem sortArcs_eq {l : List Arc} (h : l.length ≤ 1000000) : whittleref15_SortArcs l = some (onceL Arc.zero cmpArc l) := by
  unfold whittleref15_SortArcs
  refine ins_run cmpArc_good l (fun q => whittleref15_SortArcs_b1 l q.1 q.2) (fun m k j => whittleref15_SortArcs_b2 m l k j) ?_ ?_ ?_ ?_ ?_
  · intro m k hk
    simp only [whittleref15_SortArcs_b1, decide_eq_false (show ¬ ((k : Nat) : Int) < ((l.length : Nat) : Int) by omega), iteO_false]; rfl
  · intro m k hk
    simp only [whittleref15_SortArcs_b1, lt_dec hk, iteO_true]
  · intro m k j hk hj hc
    simp only [whittleref15_SortArcs_b2, lt_dec hj, iteO_true, arcLess_eq, bnd, Option.bind_some, decide_eq_true hc]; rfl
  · intro m k j hk hj he
    simp only [whittleref15_SortArcs_b2, lt_dec hj, iteO_true, arcLess_eq, bnd, Option.bind_some, he, decide_eq_false (cmpArc_good.irr _), iteO_false, whittleref15_SortArcs_j2, decide_true]; rfl
  · intro m k j hk hm hj hn
    have hg : whittleref15_SortArcs_j3 j m l k = some (.inl (m.take j ++ [nth l k Arc.zero] ++ m.drop j, k + 1)) := by
      unfold whittleref15_SortArcs_j3 whittleref15_SortArcs_j1
      rw [grd_mk (by omega), grd_mk (by simp only [List.length_nil, List.length_take]; omega), grd_mk (by simp only [List.length_append, List.length_nil, List.length_take, List.length_singleton]; omega), grd_mk (by omega), grd_mk (by simp only [List.length_append, List.length_nil, List.length_take, List.length_singleton, List.length_drop]; omega)]
      rfl
    by_cases hjl : j < m.length
    · obtain ⟨h1, h2⟩ := hn hjl
      simp only [whittleref15_SortArcs_b2, lt_dec hjl, iteO_true, arcLess_eq, bnd, Option.bind_some, decide_eq_false h1, iteO_false, whittleref15_SortArcs_j2, decide_eq_false h2, hg, fin_some]
    · simp only [whittleref15_SortArcs_b2, decide_eq_false (show ¬ ((j : Nat) : Int) < ((m.length : Nat) : Int) by omega), iteO_false, whittleref15_SortArcs_j2, hg, fin_some]

/-! ### Right, by the reference -/
theorem tips_all (l : List Tip) (n : Int) : whittleref15_tips l n = some (tipsB l n) := by
  unfold whittleref15_tips tipsB
  rw [iter_all (y := decide ((l.length : Int) ≤ 1024)) (no := false) l Tip.zero (tipB n)]
  · cases l.all (tipB n) <;> simp
  · intro k hk hp
    simp only [tipB, Bool.and_eq_true, decide_eq_true_eq] at hp
    simp only [whittleref15_tips_b1, lt_dec hk, iteO_true]
    rw [decide_eq_false (by omega), iteO_false, decide_eq_false (by omega), iteO_false, decide_eq_false (by omega), iteO_false]; rfl
  · intro k hk hp
    simp only [whittleref15_tips_b1, lt_dec hk, iteO_true]
    by_cases h1 : (nth l k Tip.zero).state < 0
    · rw [decide_eq_true h1, iteO_true]; rfl
    rw [decide_eq_false h1, iteO_false]
    by_cases h2 : n ≤ (nth l k Tip.zero).state
    · rw [decide_eq_true h2, iteO_true]; rfl
    rw [decide_eq_false h2, iteO_false]
    simp only [tipB, decide_eq_true (show 0 ≤ (nth l k Tip.zero).state by omega), decide_eq_true (show (nth l k Tip.zero).state < n by omega), Bool.true_and, decide_eq_false_iff_not] at hp
    rw [decide_eq_true (by omega), iteO_true]; rfl
  · simp only [whittleref15_tips_b1, Int.lt_irrefl, decide_false, iteO_false]; rfl
theorem right_eq (t : Fst) : whittleref15_Right t = some (fstB t) := by
  unfold whittleref15_Right
  by_cases h1 : t.states < 0
  · rw [decide_eq_true h1, iteO_true]; simp [fstB, show ¬ 0 ≤ t.states by omega]
  rw [decide_eq_false h1, iteO_false]
  by_cases h2 : 1024 < t.states
  · rw [decide_eq_true h2, iteO_true]; simp [fstB, show ¬ t.states ≤ 1024 by omega]
  rw [decide_eq_false h2, iteO_false, tips_all, bnd, Option.bind_some]
  have e0 : fstB t = (decide ((t.arcs.length : Int) ≤ 16384) && tipsB t.starts t.states && tipsB t.ends t.states && t.arcs.all (arcB t.states)) := by
    simp only [fstB, decide_eq_true (show 0 ≤ t.states by omega), decide_eq_true (show t.states ≤ 1024 by omega), Bool.true_and]
  rw [e0]
  cases h4 : tipsB t.starts t.states
  · simp
  simp only [Bool.not_true, iteO_false, tips_all, bnd, Option.bind_some]
  cases h5 : tipsB t.ends t.states
  · simp
  simp only [Bool.not_true, iteO_false, Bool.and_true]
  by_cases h3 : (16384 : Int) < (t.arcs.length : Int)
  · rw [decide_eq_true h3, iteO_true, decide_eq_false (show ¬ (t.arcs.length : Int) ≤ 16384 by omega), Bool.false_and]
  rw [decide_eq_false h3, iteO_false, decide_eq_true (show (t.arcs.length : Int) ≤ 16384 by omega), Bool.true_and, iter_all (y := true) (no := false) t.arcs Arc.zero (arcB t.states)]
  · cases t.arcs.all (arcB t.states) <;> rfl
  · intro k hk hp
    obtain ⟨p1, p2, p3, p4⟩ := arcB_ok hp
    simp only [whittleref15_Right_b1, lt_dec hk, iteO_true]
    rw [decide_eq_false (by omega), iteO_false, decide_eq_false (by omega), iteO_false, decide_eq_false (by omega), iteO_false, decide_eq_false (by omega), iteO_false, decide_eq_false p3, iteO_false, decide_eq_false (by omega), iteO_false]; rfl
  · intro k hk hp
    simp only [whittleref15_Right_b1, lt_dec hk, iteO_true]
    by_cases q1 : (nth t.arcs k Arc.zero).frm < 0
    · rw [decide_eq_true q1, iteO_true]; rfl
    rw [decide_eq_false q1, iteO_false]
    by_cases q2 : t.states ≤ (nth t.arcs k Arc.zero).frm
    · rw [decide_eq_true q2, iteO_true]; rfl
    rw [decide_eq_false q2, iteO_false]
    by_cases q3 : (nth t.arcs k Arc.zero).to < 0
    · rw [decide_eq_true q3, iteO_true]; rfl
    rw [decide_eq_false q3, iteO_false]
    by_cases q4 : t.states ≤ (nth t.arcs k Arc.zero).to
    · rw [decide_eq_true q4, iteO_true]; rfl
    rw [decide_eq_false q4, iteO_false]
    by_cases q5 : (nth t.arcs k Arc.zero).set = BSet.zero
    · rw [decide_eq_true q5, iteO_true]; rfl
    rw [decide_eq_false q5, iteO_false]
    simp only [arcB, decide_eq_true (show 0 ≤ (nth t.arcs k Arc.zero).frm by omega), decide_eq_true (show (nth t.arcs k Arc.zero).frm < t.states by omega), decide_eq_true (show 0 ≤ (nth t.arcs k Arc.zero).to by omega), decide_eq_true (show (nth t.arcs k Arc.zero).to < t.states by omega), ne_eq, q5, not_false_eq_true, decide_true, Bool.true_and, decide_eq_false_iff_not] at hp
    rw [decide_eq_true (by omega), iteO_true]; rfl
  · simp only [whittleref15_Right_b1, Int.lt_irrefl, decide_false, iteO_false]; rfl

/-! ### The reference's answers -/
theorem rsort_eq (t : Fst) : whittleref15_Sort t = some (if fstB t = true then (srt t, 0) else (⟨0, [], [], []⟩, 1)) := by
  unfold whittleref15_Sort
  rw [right_eq, bnd, Option.bind_some]
  by_cases h : fstB t = true
  · have ht := (fstB_iff t).1 h
    have h1 := ht.startsN
    have h2 := ht.endsN
    have h3 := ht.arcsN
    rw [h, if_pos rfl, Bool.not_true, iteO_false]
    simp only [sortTips_eq (l := t.starts) (by omega), sortTips_eq (l := t.ends) (by omega), sortArcs_eq (l := t.arcs) (by omega), bnd, Option.bind_some]
    rfl
  · simp only [Bool.not_eq_true] at h
    rw [h]; rfl
theorem rstates_eq {l : List Tip} (h : l.length ≤ 1024) : whittleref15_states l = some (onceL 0 cmpI (l.map Tip.state)) := by
  unfold whittleref15_states
  refine iter_fold (step := fun q : (List Int) × Nat => whittleref15_states_b1 l q.1 q.2) l Tip.zero (fun k => (l.take k).map Tip.state) ?_ ?_
  · intro k hk
    simp only [whittleref15_states_b1, lt_dec hk, iteO_true]
    rw [grd_mk (by simp only [List.length_map, List.length_take, List.length_singleton]; omega), take_snoc l hk Tip.zero, List.map_append]
    rfl
  · simp only [whittleref15_states_b1, Int.lt_irrefl, decide_false, iteO_false, List.take_length]
    rw [sortI_eq (by rw [List.length_map]; omega)]; rfl
theorem rin_eq (t : Fst) : whittleref15_In t = some (if fstB t = true then (inN t, 0) else (⟨0, [], [], []⟩, 1)) := by
  unfold whittleref15_In
  rw [right_eq, bnd, Option.bind_some]
  by_cases h : fstB t = true
  · have ht := (fstB_iff t).1 h
    have h3 := ht.arcsN
    rw [h, if_pos rfl, Bool.not_true, iteO_false]
    simp only [rstates_eq ht.startsN, rstates_eq ht.endsN, bnd, Option.bind_some]
    unfold whittleref15_In_j1
    refine iter_fold (step := fun q : (List Arrow) × Nat => whittleref15_In_b1 t (onceL 0 cmpI (t.starts.map Tip.state)) (onceL 0 cmpI (t.ends.map Tip.state)) q.1 q.2) t.arcs Arc.zero (fun k => (t.arcs.take k).map fun a => (⟨a.frm, a.to, a.set⟩ : Arrow)) ?_ ?_
    · intro k hk
      simp only [whittleref15_In_b1, lt_dec hk, iteO_true]
      rw [grd_mk (by simp only [List.length_map, List.length_take, List.length_singleton]; omega), take_snoc t.arcs hk Arc.zero, List.map_append]
      rfl
    · simp only [whittleref15_In_b1, Int.lt_irrefl, decide_false, iteO_false, List.take_length]; rfl
  · simp only [Bool.not_eq_true] at h
    rw [h]; rfl
theorem ints_refl (l : List Int) : whittleref02_Ints l l = some true := by
  unfold whittleref02_Ints
  rw [decide_eq_false (by simp), iteO_false]
  refine same_run (α := Unit) l.length (fun k hk => ?_) ?_
  · simp only [whittleref02_Ints_b1, lt_dec hk, iteO_true, grd_mk hk, ne_eq, not_true_eq_false, decide_false, iteO_false]; rfl
  · simp only [whittleref02_Ints_b1, Int.lt_irrefl, decide_false, iteO_false]; rfl
theorem nsame_refl (n : Nfa) : whittleref10_Same n n = some true := by
  unfold whittleref10_Same
  simp only [ne_eq, not_true_eq_false, decide_false, iteO_false, ints_refl, bnd, Option.bind_some, Bool.not_true]
  refine same_run (α := Unit) n.edges.length (fun k hk => ?_) ?_
  · simp only [whittleref10_Same_b1, lt_dec hk, iteO_true, grd_mk hk, not_true_eq_false, decide_false, iteO_false]; rfl
  · simp only [whittleref10_Same_b1, Int.lt_irrefl, decide_false, iteO_false]; rfl
theorem fstMakes_eq (t : Fst) (h1 : t.starts.length ≤ 281474976710656) (h2 : t.ends.length ≤ 281474976710656) (h3 : t.arcs.length ≤ 281474976710656) : whittlelaw15_FstMakes t = some true := by
  obtain ⟨b, hb, hbt⟩ := few_eq t h1 h2 h3
  unfold whittlelaw15_FstMakes
  rw [hb, bnd, Option.bind_some]
  cases b
  · rfl
  rw [Bool.not_true, iteO_false]
  simp only [in_eq, rin_eq, sort_eq, rsort_eq, bnd, Option.bind_some, awake_eq, iteO_true, nsame_refl, same_refl, decide_true]
end Go.Proofs.YtpijipnmfkehcaaGreat
