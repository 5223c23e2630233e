/- The law on rows of the same numbers. Plain lemmas, no condition. -/
import Derived.Test.YtcidppnlhhkhhaaIntL
set_option linter.unusedVariables false
set_option linter.unusedSimpArgs false
namespace Go.Proofs.Ytcidppnlhhkhhaa
open Go Go.E
set_option maxRecDepth 100000
theorem put_grows {L : List (List Int)} (r : List Int) : ∃ M, (putL L r).2.2.2 = L ++ M := by
  unfold putL
  split
  · exact ⟨[], (List.append_nil _).symm⟩
  · split
    · exact ⟨[], (List.append_nil _).symm⟩
    · exact ⟨[r], rfl⟩
theorem put_ok {L : List (List Int)} {r : List Int} (hl : L.length < 4096) : (putL L r).2.2.1 = 0 ∧ r ∈ (putL L r).2.2.2 ∧ (putL L r).1 = (((putL L r).2.2.2.idxOf r : Nat) : Int) ∧ (putL L r).2.2.2.length ≤ L.length + 1 := by
  unfold putL
  by_cases hm : r ∈ L
  · simp only [if_pos hm]; exact ⟨trivial, hm, trivial, by omega⟩
  · simp only [if_neg hm, if_neg (show ¬ 4096 ≤ L.length by omega)]
    refine ⟨trivial, by simp, ?_, by simp⟩
    rw [List.idxOf_append, if_neg hm]; simp
theorem idx_keep {L M : List (List Int)} {r : List Int} (h : r ∈ L) : (L ++ M).idxOf r = L.idxOf r := by rw [List.idxOf_append, if_pos h]
theorem idx_inj {L : List (List Int)} {r s : List Int} (hr : r ∈ L) (hs : s ∈ L) (h : L.idxOf r = L.idxOf s) : r = s := by
  have h1 := (nth_idx hr).2
  rw [h, (nth_idx hs).2] at h1
  exact h1.symm
/-- Rounds that write over a row. -/
theorem spoil_run {R : Type} (step : List Int × Nat → Option ((List Int × Nat) ⊕ R)) (n : Nat) (r : R) (hs : ∀ l k, l.length = n → k < n → step (l, k) = some (.inl (l.set k (-7), k + 1))) (hd : ∀ l, l.length = n → step (l, n) = some (.inr r)) (l0 : List Int) (h0 : l0.length = n) : iter step (l0, 0) = some r := by
  refine Exists.elim (iter_run (step := step) (fun q => q.2 ≤ n ∧ q.1.length = n) (fun x => x = r) (fun q => n - q.2) ?_ (l0, 0) ⟨Nat.zero_le _, h0⟩) (fun x hx => by rw [hx.1, hx.2])
  rintro ⟨l, k⟩ ⟨hk, hl⟩
  simp only at hk hl
  by_cases hlt : k < n
  · exact .inl ⟨_, hs l k hl hlt, ⟨by simp only; omega, by simp only [List.length_set]; exact hl⟩, by simp only; omega⟩
  · have : k = n := by omega
    subst this
    exact .inr ⟨r, hd l hl, rfl⟩
theorem same_rounds (t' : ITable) (L : List (List Int)) (T : Tab t' L) (v : List Int) (z : Int × Bool × Int × ITable) (hz : z.2.2.2 = t') (got : List Int) (k : Nat) :
    iter (fun q : (List Int) × Nat => whittlelaw05_InternSame_b2 v z got k q.1 q.2) (v, 0) = some (.inl (t'.of.rows, t'.of.places, got ++ [z.1], k + 1)) := by
  refine spoil_run _ v.length _ (fun l j hl hj => ?_) (fun l hl => ?_) v rfl
  · simp only [whittlelaw05_InternSame_b2, lt_dec hj, iteO_true, grd_mk (show j < l.length by omega)]; rfl
  · simp only [whittlelaw05_InternSame_b2, Int.lt_irrefl, decide_false, iteO_false, hz]
    rw [show (⟨⟨t'.of.rows, t'.of.places⟩⟩ : ITable) = t' from rfl, row_eq T, bnd, Option.bind_some]
    rw [spoil_run (fun q : (List Int) × Nat => whittlelaw05_InternSame_b3 (rowL L z.1) z got k q.1 q.2) (rowL L z.1).1.length (.inl (t'.of.rows, t'.of.places, got ++ [z.1], k + 1)) (fun l j hl hj => ?_) (fun l hl => ?_) _ rfl]
    · rfl
    · simp only [whittlelaw05_InternSame_b3, lt_dec hj, iteO_true, grd_mk (show j < l.length by omega)]; rfl
    · simp only [whittlelaw05_InternSame_b3, Int.lt_irrefl, decide_false, iteO_false, hz]; rfl
/-- What has been put so far. -/
structure Gone (x p : List (List Int)) (t : ITable) (L : List (List Int)) (got : List Int) : Prop where
  tab : Tab t L
  len : L.length ≤ p.length
  gl : got.length = p.length
  at_ : ∀ j, j < p.length → srtI (nth p j []) ∈ L ∧ nth got j 0 = ((L.idxOf (srtI (nth p j [])) : Nat) : Int)
theorem nth_app {α : Type} (l : List α) (x d : α) (j : Nat) : nth (l ++ [x]) j d = if j < l.length then nth l j d else if j = l.length then x else d := by
  simp only [nth, List.getD, List.getElem?_append]
  split
  · rfl
  · split
    · rename_i h; subst h; simp
    · rw [List.getElem?_eq_none (by simp; omega)]; rfl
theorem internSame_eq (l : List (List Int)) (i k : Int) (hl : ∀ r ∈ l, ∀ q ∈ r, I64 q) : whittlelaw05_InternSame l i k = some true := by
  obtain ⟨b1, e1, f1⟩ := few_le (l := l)
  have haw : bnd whittlelaw05_awake (fun v25 => some v25) = some true := by rw [iawake_eq]; rfl
  unfold whittlelaw05_InternSame
  rw [e1, bnd, Option.bind_some, haw]
  cases b1
  · rfl
  rw [Bool.not_true, iteO_false]
  by_cases hi0 : i < 0
  · rw [decide_eq_true hi0, iteO_true]
  rw [decide_eq_false hi0, iteO_false]
  by_cases hi1 : ((l.length : Nat) : Int) ≤ i
  · rw [decide_eq_true hi1, iteO_true]
  rw [decide_eq_false hi1, iteO_false]
  by_cases hk0 : k < 0
  · rw [decide_eq_true hk0, iteO_true]
  rw [decide_eq_false hk0, iteO_false]
  by_cases hk1 : ((l.length : Nat) : Int) ≤ k
  · rw [decide_eq_true hk1, iteO_true]
  rw [decide_eq_false hk1, iteO_false]
  obtain ⟨l80, l60⟩ := f1 rfl
  simp only [intern_New, bnd, Option.bind_some]
  refine Exists.elim (iter_for (step := fun q : (List (List Int)) × (FM (List UInt8) Int) × (List Int) × Nat => whittlelaw05_InternSame_b1 l i k q.1 q.2.1 q.2.2.1 q.2.2.2) (fun (s : (List (List Int)) × (FM (List UInt8) Int) × (List Int)) k => (s.1, s.2.1, s.2.2, k)) l []
    (fun p s => ∃ L, Gone l p ⟨⟨s.1, s.2.1⟩⟩ L s.2.2) (fun r => r = true) ?_ ?_ (s0 := ([], FM.emp, [])) ⟨[], Tab.nil, by simp, rfl, by simp⟩) (fun r hr => by rw [hr.1, hr.2])
  · rintro j ⟨rows, pl, got⟩ hj ⟨L, hG⟩
    simp only at hG
    left
    have hjl : (l.take j).length = j := by rw [List.length_take]; omega
    have hg := good_of l60 hl hj
    obtain ⟨t', h1, T'⟩ := put_eq hG.tab hg
    have hlen := hG.len
    have hgl := hG.gl
    obtain ⟨p1, p2, p3, p4⟩ := put_ok (L := L) (r := srtI (nth l j [])) (by omega)
    obtain ⟨M, hM⟩ := put_grows (L := L) (srtI (nth l j []))
    refine ⟨(t'.of.rows, t'.of.places, got ++ [(putL L (srtI (nth l j []))).1]), ?_, (putL L (srtI (nth l j []))).2.2.2, T', ?_, ?_, ?_⟩
    · simp only [whittlelaw05_InternSame_b1, lt_dec hj, iteO_true, own_eq hg.2, bnd, Option.bind_some, putKeep_g]
      rw [h1]
      simp only [Option.bind_some, p1, ne_eq, not_true_eq_false, decide_false, iteO_false]
      rw [grd_mk (by rw [List.length_singleton]; omega), same_rounds t' _ T' (nth l j []) _ rfl got j]
    · rw [List.length_append, List.length_singleton]; omega
    · rw [List.length_append, List.length_append, List.length_singleton, List.length_singleton, hgl]
    · intro q hq
      rw [List.length_append, List.length_singleton, hjl] at hq
      simp only [nth_app, hjl, hgl]
      by_cases hqj : q < j
      · rw [if_pos hqj, if_pos hqj]
        obtain ⟨g1, g2⟩ := hG.at_ q (by omega)
        rw [hM]
        exact ⟨List.mem_append_left _ g1, by rw [idx_keep g1]; exact g2⟩
      · have : q = j := by omega
        subst this
        rw [if_neg hqj, if_pos rfl, if_neg hqj, if_pos rfl]
        exact ⟨p2, p3⟩
  · rintro ⟨rows, pl, got⟩ ⟨L, hG⟩
    simp only at hG
    have hil : i.toNat < l.length := by omega
    have hkl : k.toNat < l.length := by omega
    obtain ⟨g1, g2⟩ := hG.at_ i.toNat hil
    obtain ⟨g3, g4⟩ := hG.at_ k.toNat hkl
    have hgi := good_of l60 hl hil
    have hgk := good_of l60 hl hkl
    have hgl := hG.gl
    have hi60 := l60 _ (nth_mem' hil [])
    have hk60 := l60 _ (nth_mem' hkl [])
    have hrow := row_eq hG.tab (nth got i.toNat 0)
    have hfind := find_eq hG.tab hgk
    have hx := nth_idx g1
    have hrl : rowL L (nth got i.toNat 0) = (srtI (nth l i.toNat []), 0) := by
      rw [g2, rowL, if_pos (by omega), Int.toNat_natCast, hx.2]
    have hfl : findL L (srtI (nth l k.toNat [])) = (nth got k.toNat 0, true) := by rw [findL, if_pos g3, g4]
    rw [hrl] at hrow
    rw [hfl] at hfind
    have hsame : decide (nth got i.toNat 0 = nth got k.toNat 0) = decide (srtI (nth l i.toNat []) = srtI (nth l k.toNat [])) := by
      refine decide_eq_decide.2 ?_
      rw [g2, g4]
      constructor
      · intro h; exact idx_inj g1 g3 (by omega)
      · intro h; rw [h]
    refine ⟨true, ?_, rfl⟩
    simp only [whittlelaw05_InternSame_b1, Int.lt_irrefl, decide_false, iteO_false]
    rw [grd_mk (show 0 ≤ i ∧ i < (l.length : Int) by omega), isort_eq (by omega)]
    simp only [bnd, Option.bind_some]
    rw [grd_mk (show 0 ≤ k ∧ k < (l.length : Int) by omega), isort_eq (by omega)]
    simp only [Option.bind_some, ints_eq]
    rw [grd_mk (show 0 ≤ i ∧ i < (got.length : Int) by omega), hrow]
    simp only [Option.bind_some]
    rw [grd_mk (show 0 ≤ k ∧ k < (l.length : Int) by omega), hfind]
    simp only [Option.bind_some, iawake_eq, iteO_true]
    rw [grd_mk (show 0 ≤ i ∧ i < (got.length : Int) by omega), grd_mk (show 0 ≤ k ∧ k < (got.length : Int) by omega), hsame, beq_self_eq_true, iteO_true, decide_true, iteO_true,
      grd_mk (show 0 ≤ i ∧ i < (l.length : Int) by omega), grd_mk (show 0 ≤ k ∧ k < (got.length : Int) by omega)]
    simp
end Go.Proofs.Ytcidppnlhhkhhaa
