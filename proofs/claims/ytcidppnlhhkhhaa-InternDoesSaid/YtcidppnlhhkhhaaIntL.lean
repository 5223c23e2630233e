/- The laws of layer 05 hold of what they compute. Plain lemmas, no condition. -/
import Derived.Test.YtcidppnlhhkhhaaI2
import Derived.Test.YtcidppnlhhkhhaaI3
import Derived.Test.YtcidppnlhhkhhaaIntP
set_option linter.unusedVariables false
set_option linter.unusedSimpArgs false
namespace Go.Proofs.Ytcidppnlhhkhhaa
open Go Go.E
set_option maxRecDepth 100000

theorem good_small {l : List Int} (h : ∀ x ∈ l, -9223372036854775808 ≤ x ∧ x ≤ 9223372036854775807) (hl : l.length ≤ 1000000) : Good l := ⟨h, hl⟩
theorem srt_of {l m : List Int} (hm : m.Pairwise fun x y => cmpI x y < 0) (h : ∀ x, x ∈ l ↔ x ∈ m) : srtI l = m := by
  rw [srtI, onceL_congr cmpI_good h, onceL_of cmpI_good hm]
theorem srt_2 (n : Int) (hn : 0 ≤ n) (x y : Int) (h : (x = n ∧ y = -1) ∨ (x = -1 ∧ y = n)) : srtI [x, y] = [-1, n] := by
  refine srt_of (by simp [cmpI_lt]; omega) fun z => ?_
  rcases h with ⟨rfl, rfl⟩ | ⟨rfl, rfl⟩
  · simp only [List.mem_cons, List.mem_nil_iff, or_false]; exact Or.comm
  · exact Iff.rfl
theorem srt_1 (n : Int) : srtI [n] = [n] := onceL_of cmpI_good (List.pairwise_singleton ..)
theorem srt_0 : srtI [] = [] := onceL_of cmpI_good List.Pairwise.nil
theorem srt_212 : srtI [2, 1, 2] = [1, 2] := srt_of (by decide) fun z => by simp only [List.mem_cons, List.mem_nil_iff, or_false]; constructor <;> (intro h; omega)
theorem srt_12 : srtI [1, 2] = [1, 2] := srt_of (by decide) fun z => Iff.rfl
theorem iawake_eq : whittlelaw05_awake = some true := by
  obtain ⟨t1, h1, T1⟩ := put_eq Tab.nil (l := [2, 1, 2]) (good_small (by decide) (by decide))
  rw [srt_212] at h1 T1
  have e1 : putL [] [1, 2] = (0, true, 0, [[1, 2]]) := by decide
  rw [e1] at h1 T1
  obtain ⟨t2, h2, T2⟩ := put_eq T1 (l := [1, 2]) (good_small (by decide) (by decide))
  rw [srt_12] at h2 T2
  have e2 : putL [[1, 2]] [1, 2] = (0, false, 0, [[1, 2]]) := by decide
  rw [e2] at h2 T2
  obtain ⟨t3, h3, T3⟩ := put_eq T2 (l := []) (good_small (by decide) (by decide))
  rw [srt_0] at h3 T3
  have e3 : putL [[1, 2]] [] = (1, true, 0, [[1, 2], []]) := by decide
  rw [e3] at h3 T3
  have h4 := size_eq T3
  unfold whittlelaw05_awake intern_New
  rw [putKeep_g]
  simp only [bnd, Option.bind_some] at *
  rw [h1]
  simp only [Option.bind_some]
  rw [h2]
  simp only [Option.bind_some]
  rw [h3]
  simp only [Option.bind_some]
  rw [h4]
  simp
theorem internNil_eq (l : List Int) (n : Int) : whittlelaw05_InternNil l n = some true := by
  unfold whittlelaw05_InternNil putNil findNil rowNil sizeNil
  simp only [bnd, Option.bind_some, iawake_eq]
  simp
theorem internSorts_eq (a b : List Int) : whittlelaw05_InternSorts a b = some true := by
  unfold whittlelaw05_InternSorts
  by_cases h1 : (200 : Int) < ((a.length : Nat) : Int)
  · rw [decide_eq_true h1]; rfl
  rw [decide_eq_false h1, iteO_false]
  by_cases h2 : (200 : Int) < ((b.length : Nat) : Int)
  · rw [decide_eq_true h2]; rfl
  rw [decide_eq_false h2, iteO_false]
  simp only [own_eq (l := a) (by omega), isort_eq (l := a) (by omega), rsort_eq (l := a) (by omega), ints_eq, icompare_eq, rcompare_eq, iawake_eq, bnd, Option.bind_some, decide_true, iteO_true]
theorem internOrder_eq (a b c : List Int) (ha : a.length ≤ 281474976710656) (hb : b.length ≤ 281474976710656) (hc : c.length ≤ 281474976710656) : whittlelaw05_InternOrder a b c = some true := by
  have tab := cmpLex_tri a b
  have tbc := cmpLex_tri b c
  have hneg := cmpLex_neg a b
  have htr := cmpLex_trans a b c
  have hd : decide (cmpLex a b = 0) = decide (a = b) := decide_eq_decide.2 (cmpLex_eq a b)
  unfold whittlelaw05_InternOrder
  rw [wrap64_of (a := ((a.length : Nat) : Int) + ((b.length : Nat) : Int)) (by omega) (by omega), wrap64_of (by omega) (by omega)]
  by_cases h1 : (300 : Int) < ((a.length : Nat) : Int) + ((b.length : Nat) : Int) + ((c.length : Nat) : Int)
  · rw [decide_eq_true h1, iteO_true]
  rw [decide_eq_false h1, iteO_false]
  simp only [icompare_eq, ints_eq, iawake_eq, bnd, Option.bind_some, iteO_true, hd, beq_self_eq_true]
  rw [wrap64_of (a := 0 - cmpLex a b) (by omega) (by omega), decide_eq_true hneg, iteO_true]
  by_cases h2 : 0 < cmpLex a b
  · rw [decide_eq_true h2, iteO_true]
  rw [decide_eq_false h2, iteO_false]
  by_cases h3 : 0 < cmpLex b c
  · rw [decide_eq_true h3, iteO_true]
  rw [decide_eq_false h3, iteO_false, decide_eq_true (htr (by omega) (by omega))]
theorem few_le {l : List (List Int)} : ∃ b, whittlelaw05_few l = some b ∧ (b = true → l.length ≤ 80 ∧ ∀ r ∈ l, r.length ≤ 60) := by
  unfold whittlelaw05_few
  refine Exists.elim (iter_for (step := fun q : Nat => whittlelaw05_few_b1 l q) (fun (_ : Unit) k => k) l [] (fun p _ => ∀ r ∈ p, r.length ≤ 60) (fun b => b = true → l.length ≤ 80 ∧ ∀ r ∈ l, r.length ≤ 60) ?_ ?_ (s0 := ()) (by simp)) (fun b hb => ⟨b, hb.1, hb.2⟩)
  · intro k s hk hI
    by_cases h80 : ((l.length : Nat) : Int) ≤ 80
    · by_cases h60 : (60 : Int) < (((nth l k []).length : Nat) : Int)
      · right
        exact ⟨false, by simp only [whittlelaw05_few_b1, lt_dec hk, decide_eq_true h80, iteO_true, decide_eq_true h60]; rfl, fun h => by cases h⟩
      · left
        refine ⟨(), by simp only [whittlelaw05_few_b1, lt_dec hk, decide_eq_true h80, iteO_true, decide_eq_false h60, iteO_false]; rfl, fun r hr => ?_⟩
        rw [List.mem_append, List.mem_singleton] at hr
        rcases hr with hr | rfl
        · exact hI r hr
        · omega
    · right
      exact ⟨false, by simp only [whittlelaw05_few_b1, lt_dec hk, decide_eq_false h80, iteO_true, iteO_false, whittlelaw05_few_j1]; rfl, fun h => by cases h⟩
  · intro s hI
    refine ⟨decide (((l.length : Nat) : Int) ≤ 80), by simp only [whittlelaw05_few_b1, Int.lt_irrefl, decide_false, iteO_false, whittlelaw05_few_j1]; rfl, fun h => ⟨?_, hI⟩⟩
    have := of_decide_eq_true h; omega

/-! ### A full table -/
def rowsL (k : Nat) : List (List Int) := (List.range k).map fun i => [-1, ((i : Nat) : Int)]
theorem rowsL_len (k : Nat) : (rowsL k).length = k := by simp [rowsL]
theorem rowsL_succ (k : Nat) : rowsL (k + 1) = rowsL k ++ [[-1, ((k : Nat) : Int)]] := by simp [rowsL, List.range_succ]
theorem mem_rowsL {k : Nat} {r : List Int} : r ∈ rowsL k ↔ ∃ i, i < k ∧ r = [-1, ((i : Nat) : Int)] := by
  simp only [rowsL, List.mem_map, List.mem_range]
  constructor
  · rintro ⟨i, h1, h2⟩; exact ⟨i, h1, h2.symm⟩
  · rintro ⟨i, h1, h2⟩; exact ⟨i, h1, h2.symm⟩
theorem nth_idx {L : List (List Int)} {r : List Int} (h : r ∈ L) : L.idxOf r < L.length ∧ nth L (L.idxOf r) [] = r := by
  have h1 := List.idxOf_lt_length_of_mem h
  refine ⟨h1, ?_⟩
  have h2 := getD_some L h1 []
  rw [List.getElem?_eq_getElem h1, List.getElem_idxOf, Option.some.injEq] at h2
  exact h2.symm
theorem idx_rowsL {n k : Nat} (h : n < k) : (rowsL k).idxOf [-1, ((n : Nat) : Int)] = n := by
  have hm : [-1, ((n : Nat) : Int)] ∈ rowsL k := mem_rowsL.2 ⟨n, h, rfl⟩
  obtain ⟨h1, h2⟩ := nth_idx hm
  rw [rowsL_len] at h1
  have h3 : nth (rowsL k) ((rowsL k).idxOf [-1, ((n : Nat) : Int)]) [] = [-1, ((((rowsL k).idxOf [-1, ((n : Nat) : Int)]) : Nat) : Int)] := by
    generalize (rowsL k).idxOf [-1, ((n : Nat) : Int)] = j at h1
    simp [nth, rowsL, List.getD, List.getElem?_range h1]
  rw [h3] at h2
  simp only [List.cons.injEq, and_true, true_and] at h2
  omega
theorem internFull_eq (n : Int) : whittlelaw05_InternFull n = some true := by
  unfold whittlelaw05_InternFull
  by_cases h0 : n < 0
  · rw [decide_eq_true h0, iteO_true]
  rw [decide_eq_false h0, iteO_false]
  by_cases h1 : 100 < n
  · rw [decide_eq_true h1, iteO_true]
  rw [decide_eq_false h1, iteO_false]
  simp only [intern_New, bnd, Option.bind_some]
  refine Exists.elim (iter_run (step := fun q : (List (List Int)) × (FM (List UInt8) Int) × Nat => whittlelaw05_InternFull_b1 n q.1 q.2.1 q.2.2) (fun q => q.2.2 ≤ 4096 ∧ Tab ⟨⟨q.1, q.2.1⟩⟩ (rowsL q.2.2)) (fun r => r = true) (fun q => 4096 - q.2.2) ?_ ([], FM.emp, 0) ⟨Nat.zero_le _, Tab.nil⟩) (fun r hr => by rw [hr.1, hr.2])
  rintro ⟨l, m, k⟩ ⟨hk, T⟩
  simp only at hk T
  by_cases hlt : k < 4096
  · left
    obtain ⟨t', h', T'⟩ := put_eq T (l := [((k : Nat) : Int), -1]) (good_small (by simp; omega) (by simp))
    have hs : srtI [((k : Nat) : Int), -1] = [-1, ((k : Nat) : Int)] := srt_2 _ (by omega) _ _ (.inl ⟨rfl, rfl⟩)
    have hn : [-1, ((k : Nat) : Int)] ∉ rowsL k := by
      rw [mem_rowsL]
      rintro ⟨i, hi, he⟩
      simp only [List.cons.injEq, and_true, true_and] at he
      omega
    have hp : putL (rowsL k) [-1, ((k : Nat) : Int)] = (((k : Nat) : Int), true, 0, rowsL (k + 1)) := by
      rw [putL, if_neg hn, rowsL_len, if_neg (by omega), rowsL_succ]
    rw [hs, hp] at h' T'
    refine ⟨(t'.of.rows, t'.of.places, k + 1), ?_, ⟨by simp only; omega, T'⟩, by simp only; omega⟩
    simp only [whittlelaw05_InternFull_b1, decide_eq_true (show ((k : Nat) : Int) < 4096 by omega), iteO_true, putKeep_g, h', bnd, Option.bind_some, ne_eq, not_true_eq_false, decide_false, iteO_false, Bool.not_true]; rfl
  · right
    have hk' : k = 4096 := by omega
    subst hk'
    obtain ⟨t1, h1', T1⟩ := put_eq T (l := [n]) (good_small (by simp; omega) (by simp))
    have hn : [n] ∉ rowsL 4096 := by
      rw [mem_rowsL]
      rintro ⟨i, hi, he⟩
      simp at he
    have hp : putL (rowsL 4096) [n] = (0, false, 2, rowsL 4096) := by
      rw [putL, if_neg hn, rowsL_len, if_pos (Nat.le_refl _)]
    rw [srt_1, hp] at h1' T1
    obtain ⟨t2, h2', T2⟩ := put_eq T1 (l := [-1, n]) (good_small (by simp; omega) (by simp))
    have hs : srtI [-1, n] = [-1, n] := srt_2 _ (by omega) _ _ (.inr ⟨rfl, rfl⟩)
    have hm : [-1, n] ∈ rowsL 4096 := mem_rowsL.2 ⟨n.toNat, by omega, by rw [Int.toNat_of_nonneg (by omega)]⟩
    have hix : (((rowsL 4096).idxOf [-1, n] : Nat) : Int) = n := by
      have := idx_rowsL (n := n.toNat) (k := 4096) (by omega)
      rw [Int.toNat_of_nonneg (by omega)] at this
      omega
    have hp2 : putL (rowsL 4096) [-1, n] = (n, false, 0, rowsL 4096) := by
      rw [putL, if_pos hm, hix]
    rw [hs, hp2] at h2' T2
    have h3 := size_eq T2
    rw [rowsL_len] at h3
    refine ⟨true, ?_, rfl⟩
    simp only [whittlelaw05_InternFull_b1, show decide (((4096 : Nat) : Int) < 4096) = false from rfl, iteO_false, putKeep_g, bnd]
    rw [h1']
    simp only [Option.bind_some]
    rw [h2']
    simp only [Option.bind_some, iawake_eq, iteO_true, decide_true, Bool.not_false]
    rw [h3]; rfl

/-! ### A script -/
theorem good_of {l : List (List Int)} (h60 : ∀ r ∈ l, r.length ≤ 60) (h64 : ∀ r ∈ l, ∀ q ∈ r, I64 q) {k : Nat} (hk : k < l.length) : Good (nth l k []) :=
  ⟨h64 _ (nth_mem' hk []), by have := h60 _ (nth_mem' hk []); omega⟩
theorem finds_run (t : ITable) (L : List (List Int)) (T : Tab t L) (m : List (List Int)) (h60 : ∀ r ∈ m, r.length ≤ 60) (h64 : ∀ r ∈ m, ∀ q ∈ r, I64 q) (n : Int) :
    iter (fun q : Nat => whittlelaw05_InternDoes_b2 m t.of.rows t.of.places L n q) 0 = some true := by
  refine Exists.elim (iter_for (step := fun q : Nat => whittlelaw05_InternDoes_b2 m t.of.rows t.of.places L n q) (fun (_ : Unit) k => k) m [] (fun _ _ => True) (fun r => r = true) ?_ ?_ (s0 := ()) trivial) (fun r hr => by rw [hr.1, hr.2])
  · intro k s hk _
    left
    have hg := good_of h60 h64 hk
    have h1 := find_eq T hg
    have h2 := rfind_eq L hg.2
    have h3 := size_eq T
    refine ⟨(), ?_, trivial⟩
    simp only [whittlelaw05_InternDoes_b2, lt_dec hk, iteO_true, bnd]
    rw [show (⟨⟨t.of.rows, t.of.places⟩⟩ : ITable) = t from rfl, h1, h2, h3]
    simp [nxt]
  · intro s _
    have h1 := row_eq T n
    have h2 := rrow_eq L T.good n
    refine ⟨true, ?_, rfl⟩
    simp only [whittlelaw05_InternDoes_b2, Int.lt_irrefl, decide_false, iteO_false, bnd]
    rw [show (⟨⟨t.of.rows, t.of.places⟩⟩ : ITable) = t from rfl, h1, h2]
    simp only [Option.bind_some, iawake_eq, iteO_true, ints_eq, decide_true]; rfl
theorem internDoes_eq (l m : List (List Int)) (n : Int) (hl : ∀ r ∈ l, ∀ q ∈ r, I64 q) (hm : ∀ r ∈ m, ∀ q ∈ r, I64 q) : whittlelaw05_InternDoes l m n = some true := by
  obtain ⟨b1, e1, f1⟩ := few_le (l := l)
  obtain ⟨b2, e2, f2⟩ := few_le (l := m)
  unfold whittlelaw05_InternDoes
  rw [e1, bnd, Option.bind_some]
  cases b1
  · rfl
  rw [Bool.not_true, iteO_false, e2, bnd, Option.bind_some]
  cases b2
  · rfl
  rw [Bool.not_true, iteO_false]
  obtain ⟨l80, l60⟩ := f1 rfl
  obtain ⟨m80, m60⟩ := f2 rfl
  simp only [intern_New, bnd, Option.bind_some]
  refine Exists.elim (iter_for (step := fun q : (List (List Int)) × (FM (List UInt8) Int) × (List (List Int)) × Nat => whittlelaw05_InternDoes_b1 l m n q.1 q.2.1 q.2.2.1 q.2.2.2) (fun (s : (List (List Int)) × (FM (List UInt8) Int) × (List (List Int))) k => (s.1, s.2.1, s.2.2, k)) l []
    (fun _ s => Tab ⟨⟨s.1, s.2.1⟩⟩ s.2.2) (fun r => r = true) ?_ ?_ (s0 := ([], FM.emp, [])) Tab.nil) (fun r hr => by rw [hr.1, hr.2])
  · rintro k ⟨rows, pl, L⟩ hk T
    simp only at T
    left
    have hg := good_of l60 hl hk
    obtain ⟨t', h1, T'⟩ := put_eq T hg
    have h2 := rput_eq L T.len hg.2
    have h3 := size_eq T'
    refine ⟨(t'.of.rows, t'.of.places, (putL L (srtI (nth l k []))).2.2.2), ?_, T'⟩
    simp only [whittlelaw05_InternDoes_b1, lt_dec hk, iteO_true, bnd]
    rw [h1, h2]
    simp only [Option.bind_some]
    rw [show (⟨⟨t'.of.rows, t'.of.places⟩⟩ : ITable) = t' from rfl, h3]
    simp [nxt]
  · rintro ⟨rows, pl, L⟩ T
    simp only at T
    refine ⟨true, ?_, rfl⟩
    have := finds_run ⟨⟨rows, pl⟩⟩ L T m m60 hm n
    simp only [whittlelaw05_InternDoes_b1, Int.lt_irrefl, decide_false, iteO_false]
    rw [this]; rfl
end Go.Proofs.Ytcidppnlhhkhhaa
