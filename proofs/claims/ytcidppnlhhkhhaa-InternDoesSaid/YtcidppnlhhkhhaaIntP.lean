/- Rows of numbers and their tables: what the program and the reference compute. Plain lemmas, no condition. -/
import Derived.Test.YtcidppnlhhkhhaaI1
import Derived.Test.YtcidppnlhhkhhaaInsG
import Derived.Test.YtcidppnlhhkhhaaIt
import Derived.Test.YtcidppnlhhkhhaaOpen
set_option linter.unusedVariables false
set_option linter.unusedSimpArgs false
namespace Go.Proofs.Ytcidppnlhhkhhaa
open Go Go.E
set_option maxRecDepth 100000

/-! ### In order, each once -/
abbrev srtI (l : List Int) : List Int := onceL 0 cmpI l
theorem intsort_le : (fun x y : Int => decide (x ≤ y)) = fun x y => !decide (cmpI y x < 0) := by
  funext x y
  by_cases h : x ≤ y
  · have : ¬ cmpI y x < 0 := by rw [cmpI_lt]; omega
    simp [h, this]
  · have : cmpI y x < 0 := by rw [cmpI_lt]; omega
    simp [h, this]
theorem compactI_g : compactI = gC (0 : Int) := rfl
theorem isort_eq {l : List Int} (h : l.length * 8 ≤ 140737488355328) : intern_Sort l = some (srtI l) := by
  have hs : (List.mergeSort l fun x y => decide (x ≤ y)) = sortL cmpI l := by rw [intsort_le]; rfl
  rw [intern_Sort, grd_mk h, hs, compactI_g, gC_eq 0 (by rw [sortL_len]; omega), sortL_len]; rfl
theorem rsort_eq {l : List Int} (h : l.length ≤ 1000000) : whittleref05_Sort l = some (srtI l) := by
  unfold whittleref05_Sort
  refine ins_run cmpI_good l (fun q => whittleref05_Sort_b1 l q.1 q.2) (fun m k j => whittleref05_Sort_b2 m l k j) ?_ ?_ ?_ ?_ ?_
  · intro m k hk
    simp only [whittleref05_Sort_b1, decide_eq_false (show ¬ ((k : Nat) : Int) < ((l.length : Nat) : Int) by omega), iteO_false]; rfl
  · intro m k hk
    simp only [whittleref05_Sort_b1, lt_dec hk, iteO_true]
  · intro m k j hk hj hc
    rw [cmpI_lt] at hc
    simp only [whittleref05_Sort_b2, lt_dec hj, iteO_true, decide_eq_true hc]; rfl
  · intro m k j hk hj he
    simp only [whittleref05_Sort_b2, lt_dec hj, iteO_true, he, Int.lt_irrefl, decide_false, iteO_false, whittleref05_Sort_j2, decide_true]; rfl
  · intro m k j hk hm hj hn
    have hg : whittleref05_Sort_j3 j m l k = some (.inl (m.take j ++ [nth l k 0] ++ m.drop j, k + 1)) := by
      unfold whittleref05_Sort_j3 whittleref05_Sort_j1
      rw [grd_mk (by omega), grd_mk (by simp only [List.length_nil, List.length_take]; omega), grd_mk (by simp only [List.length_append, List.length_nil, List.length_take, List.length_singleton]; omega), grd_mk (by omega), grd_mk (by simp only [List.length_append, List.length_nil, List.length_take, List.length_singleton, List.length_drop]; omega)]
      rfl
    by_cases hjl : j < m.length
    · obtain ⟨h1, h2⟩ := hn hjl
      rw [cmpI_lt] at h1
      simp only [whittleref05_Sort_b2, lt_dec hjl, iteO_true, decide_eq_false h1, iteO_false, whittleref05_Sort_j2, decide_eq_false h2, hg, fin_some]
    · simp only [whittleref05_Sort_b2, decide_eq_false (show ¬ ((j : Nat) : Int) < ((m.length : Nat) : Int) by omega), iteO_false, whittleref05_Sort_j2, hg, fin_some]
theorem srtI_len (l : List Int) : (srtI l).length ≤ l.length := onceL_len l
theorem mem_srtI {l : List Int} {x : Int} : x ∈ srtI l ↔ x ∈ l := mem_onceL

/-! ### A row's key -/
def key8 (n : Int) : List UInt8 := (List.range 8).map fun i => toU8 (((u64shr (u64of n) (8 * i) : Nat)) : Int)
def keyL (l : List Int) : List UInt8 := l.flatMap key8
theorem key8_len (n : Int) : (key8 n).length = 8 := by simp [key8]
theorem keyL_len : ∀ l : List Int, (keyL l).length = l.length * 8
  | [] => rfl
  | x :: l => by
    have := keyL_len l
    simp only [keyL, List.flatMap_cons, List.length_append, key8_len, List.length_cons] at *; omega
theorem ikey_eq {l : List Int} (h : l.length ≤ 1000000) : intern_key l = some (keyL l) := by
  unfold intern_key
  have hw0 : IntKind.i64.wrap (8 * ((l.length : Nat) : Int)) = ((8 * l.length : Nat) : Int) := by rw [wrap64_of (by omega) (by omega)]; omega
  rw [hw0, grd_mk (by omega)]
  refine iter_fold (step := fun q : (List UInt8) × Nat => intern_key_b1 l q.1 q.2) l (0 : Int) (fun k => keyL (l.take k)) ?_ ?_
  · intro k hk
    have hlen : (keyL (l.take k)).length ≤ 8 * 1000000 := by rw [keyL_len, List.length_take]; omega
    simp only [intern_key_b1, lt_dec hk, iteO_true]
    have hrow : iter (fun q : (List UInt8) × Nat => intern_key_b2 l k q.1 q.2) (keyL (l.take k), 0) = some (.inl (keyL (l.take k) ++ (key8 (nth l k 0)).take 8, k + 1)) := by
      have := iter_seq0 (step := fun q : (List UInt8) × Nat => intern_key_b2 l k q.1 q.2) (r := .inl (keyL (l.take k) ++ (key8 (nth l k 0)).take 8, k + 1)) (fun i => (keyL (l.take k) ++ (key8 (nth l k 0)).take i, i)) 8 ?_ ?_
      · simpa using this
      · intro i hi
        have hw : IntKind.i64.wrap (8 * ((i : Nat) : Int)) = ((8 * i : Nat) : Int) := by rw [wrap64_of (by omega) (by omega)]; omega
        have hi8 : i < (key8 (nth l k 0)).length := by rw [key8_len]; exact hi
        have hn : nth (key8 (nth l k 0)) i 0 = toU8 (((u64shr (u64of (nth l k 0)) (8 * i) : Nat)) : Int) := by simp [nth, key8, List.getD, hi]
        simp only [intern_key_b2, hw, Int.toNat_natCast, decide_eq_true (show ((i : Nat) : Int) < 8 by omega), iteO_true]
        rw [grd_mk (by omega), grd_mk (by simp only [List.length_append, List.length_take, List.length_singleton]; omega), take_snoc _ hi8 0, hn, List.append_assoc]; rfl
      · simp only [intern_key_b2, show decide (((8 : Nat) : Int) < 8) = false from rfl, iteO_false]; rfl
    have h8 : (key8 (nth l k 0)).take 8 = key8 (nth l k 0) := List.take_of_length_le (by rw [key8_len]; exact Nat.le_refl _)
    rw [hrow, h8, take_snoc l hk 0]
    simp [keyL]
  · simp only [intern_key_b1, Int.lt_irrefl, decide_false, iteO_false, List.take_length]; rfl
theorem u64_bytes {m n : Nat} (hm : m < 18446744073709551616) (hn : n < 18446744073709551616) (h : ∀ i, i < 8 → m / 2 ^ (8 * i) % 256 = n / 2 ^ (8 * i) % 256) : m = n := by
  have h0 := h 0 (by omega)
  have h1 := h 1 (by omega)
  have h2 := h 2 (by omega)
  have h3 := h 3 (by omega)
  have h4 := h 4 (by omega)
  have h5 := h 5 (by omega)
  have h6 := h 6 (by omega)
  have h7 := h 7 (by omega)
  simp only [Nat.mul_zero, Nat.pow_zero, Nat.div_one, Nat.reduceMul, Nat.reducePow] at h0 h1 h2 h3 h4 h5 h6 h7
  omega
theorem toU8_nat (a : Nat) : (toU8 ((a : Nat) : Int)).toNat = a % 256 := by
  have hw : IntKind.u8.wrap ((a : Nat) : Int) = ((a % 256 : Nat) : Int) := by
    simp only [IntKind.wrap, IntKind.bits, IntKind.signed, IntKind.min]
    simp
  unfold toU8
  rw [hw, Int.toNat_natCast, UInt8.toNat_ofNat']
  omega
theorem key8_inj {x y : Int} (hx : I64 x) (hy : I64 y) (h : key8 x = key8 y) : x = y := by
  have hb : u64of x = u64of y := by
    refine u64_bytes (by unfold u64of; omega) (by unfold u64of; omega) fun i hi => ?_
    have h1 := congrArg (fun l => (nth l i (0 : UInt8)).toNat) h
    simp only [nth, key8, List.getD, List.getElem?_map, List.getElem?_range hi, Option.map_some, Option.getD_some, toU8_nat, u64shr] at h1
    rw [show min (8 * i) 64 = 8 * i by omega] at h1
    exact h1
  unfold u64of I64 at *
  omega
theorem keyL_inj : ∀ {l m : List Int}, (∀ x ∈ l, I64 x) → (∀ x ∈ m, I64 x) → keyL l = keyL m → l = m
  | [], [], _, _, _ => rfl
  | [], y :: m, _, _, h => by have := congrArg List.length h; rw [keyL_len, keyL_len] at this; simp at this
  | x :: l, [], _, _, h => by have := congrArg List.length h; rw [keyL_len, keyL_len] at this; simp at this
  | x :: l, y :: m, hl, hm, h => by
    have h' : key8 x ++ keyL l = key8 y ++ keyL m := h
    obtain ⟨h1, h2⟩ := List.append_inj h' (by rw [key8_len, key8_len])
    rw [key8_inj (hl x (List.mem_cons_self ..)) (hm y (List.mem_cons_self ..)) h1, keyL_inj (fun z hz => hl z (List.mem_cons_of_mem _ hz)) (fun z hz => hm z (List.mem_cons_of_mem _ hz)) h2]

/-! ### Rows compared -/
theorem ints_eq (a b : List Int) : whittleref02_Ints a b = some (decide (a = b)) := by
  unfold whittleref02_Ints
  by_cases hl : a.length = b.length
  · rw [decide_eq_false (show ¬ ((a.length : Nat) : Int) ≠ ((b.length : Nat) : Int) by omega), iteO_false]
    refine Exists.elim (iter_for (step := fun q : Nat => whittleref02_Ints_b1 a b q) (fun (_ : Unit) k => k) a (0 : Int) (fun p _ => p = b.take p.length) (fun r => r = decide (a = b)) ?_ ?_ (s0 := ()) (by simp)) (fun r hr => by rw [hr.1, hr.2])
    · intro k s hk hI
      have hkb : k < b.length := by omega
      have hkl : (a.take k).length = k := by rw [List.length_take]; omega
      rw [hkl] at hI
      by_cases he : nth a k 0 = nth b k 0
      · left
        refine ⟨(), by simp only [whittleref02_Ints_b1, lt_dec hk, iteO_true, grd_mk hkb, he, ne_eq, not_true_eq_false, decide_false, iteO_false]; rfl, ?_⟩
        rw [List.length_append, hkl, List.length_singleton, take_snoc b hkb 0, hI, he]
      · right
        refine ⟨false, by simp only [whittleref02_Ints_b1, lt_dec hk, iteO_true, grd_mk hkb, ne_eq, he, not_false_eq_true, decide_true]; rfl, ?_⟩
        rw [decide_eq_false]
        intro e; subst e; exact he rfl
    · intro s hI
      refine ⟨true, by simp only [whittleref02_Ints_b1, Int.lt_irrefl, decide_false, iteO_false]; rfl, ?_⟩
      rw [decide_eq_true]
      rw [hI, List.take_of_length_le (by omega)]
  · rw [decide_eq_true (show ((a.length : Nat) : Int) ≠ ((b.length : Nat) : Int) by omega), iteO_true, decide_eq_false (fun e => hl (by rw [e]))]
theorem own_eq {l : List Int} (h : l.length ≤ 1000000) : whittleref02_Own l = some l := by
  rw [whittleref02_Own, grd_mk (by rw [List.length_nil]; omega), List.nil_append]

/-! ### Tables -/
def findL (L : List (List Int)) (r : List Int) : Int × Bool := if r ∈ L then ((L.idxOf r : Nat), true) else (0, false)
def putL (L : List (List Int)) (r : List Int) : Int × Bool × Int × List (List Int) :=
  if r ∈ L then ((L.idxOf r : Nat), false, 0, L) else if 4096 ≤ L.length then (0, false, 2, L) else ((L.length : Nat), true, 0, L ++ [r])
def Good (r : List Int) : Prop := (∀ x ∈ r, I64 x) ∧ r.length ≤ 1000000
/-- A table holds these rows. -/
structure Tab (t : ITable) (L : List (List Int)) : Prop where
  rows : t.of.rows = L
  len : L.length ≤ 4096
  good : ∀ r ∈ L, Good r
  nd : L.Nodup
  at_ : ∀ r, Good r → t.of.places.f (keyL r) = if r ∈ L then some ((L.idxOf r : Nat) : Int) else none
theorem Tab.nil : Tab ⟨⟨[], FM.emp⟩⟩ [] := ⟨rfl, by simp, by simp, List.nodup_nil, fun r _ => by simp [FM.emp]⟩
theorem Good.srt {l : List Int} (h : Good l) : Good (srtI l) := ⟨fun x hx => h.1 x (mem_srtI.1 hx), Nat.le_trans (srtI_len l) h.2⟩
theorem Tab.find {t : ITable} {L : List (List Int)} (h : Tab t L) {r : List Int} (hr : Good r) : (t.of.places.get (keyL r) 0, t.of.places.has (keyL r)) = findL L r := by
  unfold FM.get FM.has findL
  rw [h.at_ r hr]
  split <;> rfl
theorem Tab.add {t : ITable} {L : List (List Int)} (h : Tab t L) {r : List Int} (hr : Good r) (hn : r ∉ L) (hl : ¬ 4096 ≤ L.length) : Tab ⟨⟨L ++ [r], t.of.places.put (keyL r) ((L.length : Nat) : Int)⟩⟩ (L ++ [r]) where
  rows := rfl
  len := by rw [List.length_append, List.length_singleton]; omega
  good q hq := by
    rw [List.mem_append, List.mem_singleton] at hq
    rcases hq with hq | rfl
    · exact h.good q hq
    · exact hr
  nd := by
    rw [List.nodup_append]
    exact ⟨h.nd, by simp, fun a ha b hb => by rw [List.mem_singleton.1 hb]; intro e; subst e; exact hn ha⟩
  at_ q hq := by
    simp only [FM.put]
    by_cases e : keyL q = keyL r
    · have : q = r := keyL_inj hq.1 hr.1 e
      subst this
      rw [if_pos rfl, if_pos (by simp), List.idxOf_append, if_neg hn]
      simp
    · have hqr : q ≠ r := fun h => e (by rw [h])
      rw [if_neg e, h.at_ q hq]
      by_cases hm : q ∈ L
      · rw [if_pos hm, if_pos (List.mem_append_left _ hm), List.idxOf_append, if_pos hm]
      · rw [if_neg hm, if_neg]
        rw [List.mem_append, List.mem_singleton]
        rintro (h | h)
        · exact hm h
        · exact hqr h
theorem put_eq {t : ITable} {L : List (List Int)} (h : Tab t L) {l : List Int} (hl : Good l) : ∃ t', intern_Table_Put t l = some ((putL L (srtI l)).1, (putL L (srtI l)).2.1, (putL L (srtI l)).2.2.1, t') ∧ Tab t' (putL L (srtI l)).2.2.2 := by
  have hs := hl.srt
  have hl2 := hl.2
  have hs2 := hs.2
  have hf := h.find hs
  unfold intern_Table_Put intern_store_string_find
  simp only [isort_eq (l := l) (by omega), ikey_eq hs2, bnd, Option.bind_some]
  rw [grd_mk (by rw [keyL_len]; omega)]
  simp only [Option.bind_some]
  have hf1 : t.of.places.get (keyL (srtI l)) 0 = (findL L (srtI l)).1 := congrArg Prod.fst hf
  have hf2 : t.of.places.has (keyL (srtI l)) = (findL L (srtI l)).2 := congrArg Prod.snd hf
  simp only [hf1, hf2]
  unfold findL putL
  by_cases hm : srtI l ∈ L
  · simp only [if_pos hm, iteO_true]
    exact ⟨_, rfl, ⟨h.rows, h.len, h.good, h.nd, h.at_⟩⟩
  · simp only [if_neg hm, iteO_false, h.rows]
    by_cases hf : 4096 ≤ L.length
    · simp only [if_pos hf, decide_eq_true (show (4096 : Int) ≤ ((L.length : Nat) : Int) by omega), iteO_true]
      exact ⟨_, rfl, ⟨rfl, h.len, h.good, h.nd, h.at_⟩⟩
    · simp only [if_neg hf, decide_eq_false (show ¬ (4096 : Int) ≤ ((L.length : Nat) : Int) by omega), iteO_false]
      unfold intern_store_string_add
      rw [grd_mk (by rw [keyL_len]; omega), grd_mk (by rw [List.length_singleton]; simp only; omega)]
      exact ⟨_, rfl, h.add hs hm hf⟩
theorem putKeep_g : putKeep = intern_Table_Put := rfl
theorem find_eq {t : ITable} {L : List (List Int)} (h : Tab t L) {l : List Int} (hl : Good l) : intern_Table_Find t l = some (findL L (srtI l)) := by
  have hs := hl.srt
  have hl2 := hl.2
  have hs2 := hs.2
  have hf := h.find hs
  unfold intern_Table_Find intern_store_string_find
  simp only [isort_eq (l := l) (by omega), ikey_eq hs2, bnd, Option.bind_some]
  rw [grd_mk (by rw [keyL_len]; omega)]
  simp only [Option.bind_some]
  have hf1 : t.of.places.get (keyL (srtI l)) 0 = (findL L (srtI l)).1 := congrArg Prod.fst hf
  have hf2 : t.of.places.has (keyL (srtI l)) = (findL L (srtI l)).2 := congrArg Prod.snd hf
  simp only [hf1, hf2]
def rowL (L : List (List Int)) (n : Int) : List Int × Int := if 0 ≤ n ∧ n < (L.length : Int) then (nth L n.toNat [], 0) else ([], 1)
theorem row_eq {t : ITable} {L : List (List Int)} (h : Tab t L) (n : Int) : intern_Table_Row t n = some (rowL L n) := by
  unfold intern_Table_Row rowL
  rw [h.rows]
  by_cases h0 : n < 0
  · rw [decide_eq_true h0, iteO_true, if_neg (by omega)]
  rw [decide_eq_false h0, iteO_false]
  by_cases h1 : (L.length : Int) ≤ n
  · rw [decide_eq_true h1, iteO_true, if_neg (by omega)]
  rw [decide_eq_false h1, iteO_false, grd_mk (by omega), if_pos (by omega)]
  have := (h.good _ (nth_mem' (show n.toNat < L.length by omega) [])).2
  rw [grd_mk (by omega)]
theorem size_eq {t : ITable} {L : List (List Int)} (h : Tab t L) : intern_Table_Size t = some ((L.length : Nat) : Int) := by
  unfold intern_Table_Size
  rw [h.rows]
theorem rfind_run (L : List (List Int)) (r : List Int) : iter (fun q : Nat => whittleref05_Table_Find_b1 ⟨L⟩ r q) 0 = some (findL L r) := by
  refine Exists.elim (iter_for (step := fun q : Nat => whittleref05_Table_Find_b1 ⟨L⟩ r q) (fun (_ : Unit) k => k) L [] (fun p _ => r ∉ p) (fun x => x = findL L r) ?_ ?_ (s0 := ()) (by simp)) (fun x hx => by rw [hx.1, hx.2])
  · intro k s hk hI
    by_cases he : nth L k [] = r
    · right
      refine ⟨((k : Nat), true), by simp only [whittleref05_Table_Find_b1, lt_dec hk, iteO_true, ints_eq, he, decide_true, bnd, Option.bind_some]; rfl, ?_⟩
      have hm : r ∈ L := he ▸ nth_mem' hk []
      have hix : L.idxOf r = k := by
        have hsp := take_split L hk []
        rw [hsp, List.idxOf_append, if_neg hI, he, List.idxOf_cons_self, List.length_take]; omega
      simp only [findL, if_pos hm, hix]
    · left
      refine ⟨(), by simp only [whittleref05_Table_Find_b1, lt_dec hk, iteO_true, ints_eq, decide_eq_false he, bnd, Option.bind_some, iteO_false]; rfl, ?_⟩
      rw [List.mem_append, List.mem_singleton]
      rintro (h | h)
      · exact hI h
      · exact he h.symm
  · intro s hI
    exact ⟨_, by simp only [whittleref05_Table_Find_b1, Int.lt_irrefl, decide_false, iteO_false]; rfl, by simp only [findL, if_neg hI]⟩
theorem rfind_eq (L : List (List Int)) {l : List Int} (h : l.length ≤ 1000000) : whittleref05_Table_Find ⟨L⟩ l = some (findL L (srtI l)) := by
  unfold whittleref05_Table_Find
  rw [rsort_eq h, bnd, Option.bind_some, rfind_run]
theorem rput_eq (L : List (List Int)) (hL : L.length ≤ 4096) {l : List Int} (h : l.length ≤ 1000000) : whittleref05_Table_Put ⟨L⟩ l = some ((putL L (srtI l)).1, (putL L (srtI l)).2.1, (putL L (srtI l)).2.2.1, ⟨(putL L (srtI l)).2.2.2⟩) := by
  unfold whittleref05_Table_Put
  simp only [rfind_eq L h, bnd, Option.bind_some]
  unfold findL putL
  by_cases hm : srtI l ∈ L
  · simp only [if_pos hm, iteO_true]
  · simp only [if_neg hm, iteO_false]
    by_cases hf : 4096 ≤ L.length
    · simp only [if_pos hf, decide_eq_true (show (4096 : Int) ≤ ((L.length : Nat) : Int) by omega), iteO_true]
    · simp only [if_neg hf, decide_eq_false (show ¬ (4096 : Int) ≤ ((L.length : Nat) : Int) by omega), iteO_false, rsort_eq h, Option.bind_some]
      rw [grd_mk (by rw [List.length_singleton]; omega)]
      have hw : IntKind.i64.wrap ((((L ++ [srtI l]).length : Nat) : Int) - 1) = ((L.length : Nat) : Int) := by
        rw [List.length_append, List.length_singleton, wrap64_of (by omega) (by omega)]; omega
      rw [hw]
theorem rrow_eq (L : List (List Int)) (hL : ∀ r ∈ L, Good r) (n : Int) : whittleref05_Table_Row ⟨L⟩ n = some (rowL L n) := by
  unfold whittleref05_Table_Row rowL
  by_cases h0 : n < 0
  · rw [decide_eq_true h0, iteO_true, if_neg (by omega)]
  rw [decide_eq_false h0, iteO_false]
  by_cases h1 : (L.length : Int) ≤ n
  · rw [decide_eq_true h1, iteO_true, if_neg (by omega)]
  rw [decide_eq_false h1, iteO_false, grd_mk (show 0 ≤ n ∧ n < (L.length : Int) by omega), if_pos (by omega), own_eq (hL _ (nth_mem' (show n.toNat < L.length by omega) [])).2]; rfl

/-! ### Rows in order -/
def cmpLex : List Int → List Int → Int
  | [], [] => 0
  | [], _ :: _ => -1
  | _ :: _, [] => 1
  | x :: a, y :: b => if cmpI x y ≠ 0 then cmpI x y else cmpLex a b
theorem cmpI_tri (x y : Int) : cmpI x y = -1 ∨ cmpI x y = 0 ∨ cmpI x y = 1 := by unfold cmpI; (repeat' split) <;> omega
theorem cmpLex_tri : ∀ a b, cmpLex a b = -1 ∨ cmpLex a b = 0 ∨ cmpLex a b = 1
  | [], [] => by simp [cmpLex]
  | [], _ :: _ => by simp [cmpLex]
  | _ :: _, [] => by simp [cmpLex]
  | x :: a, y :: b => by
    rw [cmpLex]
    split
    · exact cmpI_tri x y
    · exact cmpLex_tri a b
theorem cmpLex_eq : ∀ a b, cmpLex a b = 0 ↔ a = b
  | [], [] => by simp [cmpLex]
  | [], _ :: _ => by simp [cmpLex]
  | _ :: _, [] => by simp [cmpLex]
  | x :: a, y :: b => by
    have h := cmpI_good.eq x y
    rw [cmpLex, List.cons.injEq]
    by_cases hc : cmpI x y = 0
    · rw [if_neg (by simp [hc]), cmpLex_eq a b]
      exact ⟨fun e => ⟨h.1 hc, e⟩, fun e => e.2⟩
    · simp only [ne_eq, hc, not_false_eq_true, if_true, false_iff]
      exact fun e => hc (h.2 e.1)
theorem cmpI_neg (x y : Int) : cmpI y x = 0 - cmpI x y := by unfold cmpI; (repeat' split) <;> omega
theorem cmpLex_neg : ∀ a b, cmpLex b a = 0 - cmpLex a b
  | [], [] => by simp [cmpLex]
  | [], _ :: _ => by simp [cmpLex]
  | _ :: _, [] => by simp [cmpLex]
  | x :: a, y :: b => by
    rw [cmpLex, cmpLex, cmpI_neg x y, cmpLex_neg a b]
    split <;> split <;> omega
theorem cmpLex_trans : ∀ a b c, cmpLex a b ≤ 0 → cmpLex b c ≤ 0 → cmpLex a c = min (cmpLex a b) (cmpLex b c)
  | [], [], c, h1, h2 => by rw [show cmpLex [] [] = 0 from rfl]; omega
  | [], y :: b, [], h1, h2 => by simp [cmpLex] at h2
  | [], y :: b, z :: c, h1, h2 => by
    have := cmpLex_tri (y :: b) (z :: c)
    simp only [show cmpLex [] (y :: b) = -1 from rfl, show cmpLex [] (z :: c) = -1 from rfl]; omega
  | x :: a, [], c, h1, h2 => by simp [cmpLex] at h1
  | x :: a, y :: b, [], h1, h2 => by simp [cmpLex] at h2
  | x :: a, y :: b, z :: c, h1, h2 => by
    have ih := cmpLex_trans a b c
    have ta := cmpLex_tri a b
    have tb := cmpLex_tri b c
    simp only [cmpLex] at *
    unfold cmpI at *
    rcases Int.lt_trichotomy x y with h | h | h <;> rcases Int.lt_trichotomy y z with h' | h' | h'
    · simp only [h, if_true, h', show x < z by omega] at *; omega
    · subst h'; simp only [h, if_true, Int.lt_irrefl, if_false, ne_eq, not_true_eq_false] at *; simp; omega
    · simp only [h, h', show ¬ y < z by omega, if_true, if_false] at *; simp at h2
    · subst h; simp only [Int.lt_irrefl, if_false, ne_eq, not_true_eq_false, h', if_true] at *; simp; omega
    · subst h; subst h'; simp only [Int.lt_irrefl, if_false, ne_eq, not_true_eq_false] at *; exact ih h1 h2
    · subst h; simp only [show ¬ x < z by omega, h', if_true, if_false] at *; simp at h2
    · simp only [show ¬ x < y by omega, h, if_true, if_false] at *; simp at h1
    · simp only [show ¬ x < y by omega, h, if_true, if_false] at *; simp at h1
    · simp only [show ¬ x < y by omega, h, if_true, if_false] at *; simp at h1
theorem cmp_Compare_eq (x y : Int) : cmp_Compare x y = some (cmpI x y) := by
  unfold cmp_Compare cmp_isNaN cmpI
  simp only [bnd, Option.bind_some, ne_eq, not_true_eq_false, decide_false, iteO_false]
  by_cases h : x < y
  · simp [h]
  · by_cases h' : y < x
    · simp [h, h']
    · simp [h, h']
theorem drop_nth {l : List Int} {k : Nat} (h : k < l.length) : l.drop k = nth l k 0 :: l.drop (k + 1) := by
  have h1 := List.drop_eq_getElem_cons h
  have h2 := getD_some l h 0
  rw [List.getElem?_eq_getElem h, Option.some.injEq] at h2
  rw [h1, h2]
theorem icompare_eq (a b : List Int) : intern_Compare a b = some (cmpLex a b) := by
  have key : compareIs a b = some (cmpLex a b) := by
    unfold compareIs
    refine Exists.elim (iter_for (step := fun q : Nat => compareIs_b1 a b q) (fun (_ : Unit) k => k) a (0 : Int) (fun p _ => p.length ≤ b.length ∧ cmpLex a b = cmpLex (a.drop p.length) (b.drop p.length)) (fun r => r = cmpLex a b) ?_ ?_ (s0 := ()) (by simp)) (fun r hr => by rw [hr.1, hr.2])
    · rintro k s hk ⟨hb, hI⟩
      have hkl : (a.take k).length = k := by rw [List.length_take]; omega
      rw [hkl] at hb hI
      rw [drop_nth hk] at hI
      by_cases hkb : k < b.length
      · rw [drop_nth hkb, cmpLex] at hI
        by_cases hc : cmpI (nth a k 0) (nth b k 0) = 0
        · left
          refine ⟨(), ?_, ?_⟩
          · simp only [compareIs_b1, lt_dec hk, iteO_true, decide_eq_false (show ¬ ((b.length : Nat) : Int) ≤ ((k : Nat) : Int) by omega), iteO_false, grd_mk hkb, cmp_Compare_eq, bnd, Option.bind_some, hc, ne_eq, not_true_eq_false, decide_false]; rfl
          · rw [List.length_append, hkl, List.length_singleton]
            exact ⟨hkb, by rw [hI, if_neg (by simp [hc])]⟩
        · right
          refine ⟨cmpI (nth a k 0) (nth b k 0), ?_, ?_⟩
          · simp only [compareIs_b1, lt_dec hk, iteO_true, decide_eq_false (show ¬ ((b.length : Nat) : Int) ≤ ((k : Nat) : Int) by omega), iteO_false, grd_mk hkb, cmp_Compare_eq, bnd, Option.bind_some, ne_eq, hc, not_false_eq_true, decide_true]; rfl
          · rw [hI, if_pos hc]
      · right
        refine ⟨1, ?_, ?_⟩
        · simp only [compareIs_b1, lt_dec hk, iteO_true, decide_eq_true (show ((b.length : Nat) : Int) ≤ ((k : Nat) : Int) by omega)]; rfl
        · rw [hI, List.drop_of_length_le (show b.length ≤ k by omega)]; rfl
    · rintro s ⟨hb, hI⟩
      rw [List.drop_length] at hI
      by_cases hlt : a.length < b.length
      · refine ⟨-1, ?_, ?_⟩
        · simp only [compareIs_b1, Int.lt_irrefl, decide_false, iteO_false, lt_dec hlt, iteO_true]; rfl
        · rw [hI, drop_nth hlt]; rfl
      · refine ⟨0, ?_, ?_⟩
        · simp only [compareIs_b1, Int.lt_irrefl, decide_false, iteO_false, decide_eq_false (show ¬ ((a.length : Nat) : Int) < ((b.length : Nat) : Int) by omega)]; rfl
        · rw [hI, List.drop_of_length_le (by omega)]; rfl
  rw [intern_Compare, key]; rfl
theorem rcompare_eq (a b : List Int) : whittleref05_Compare a b = some (cmpLex a b) := by
  unfold whittleref05_Compare
  have hend : ∀ k, (a.length ≤ k ∨ b.length ≤ k) → k ≤ a.length → k ≤ b.length → whittleref05_Compare_j1 a b = some (cmpLex (a.drop k) (b.drop k)) := by
    intro k h ha hb
    unfold whittleref05_Compare_j1
    rcases Nat.lt_trichotomy a.length b.length with hl | hl | hl
    · rw [lt_dec hl, iteO_true, List.drop_of_length_le (show a.length ≤ k by omega), drop_nth (show k < b.length by omega)]; rfl
    · rw [decide_eq_false (by omega), iteO_false, decide_eq_false (by omega), iteO_false, List.drop_of_length_le (show a.length ≤ k by omega), List.drop_of_length_le (show b.length ≤ k by omega)]; rfl
    · rw [decide_eq_false (by omega), iteO_false, lt_dec hl, iteO_true, List.drop_of_length_le (show b.length ≤ k by omega), drop_nth (show k < a.length by omega)]; rfl
  refine Exists.elim (iter_for (step := fun q : Nat => whittleref05_Compare_b1 a b q) (fun (_ : Unit) k => k) a (0 : Int) (fun p _ => p.length ≤ b.length ∧ cmpLex a b = cmpLex (a.drop p.length) (b.drop p.length)) (fun r => r = cmpLex a b) ?_ ?_ (s0 := ()) (by simp)) (fun r hr => by rw [hr.1, hr.2])
  · rintro k s hk ⟨hb, hI⟩
    have hkl : (a.take k).length = k := by rw [List.length_take]; omega
    rw [hkl] at hb hI
    by_cases hkb : k < b.length
    · rw [drop_nth hk, drop_nth hkb, cmpLex] at hI
      simp only [whittleref05_Compare_b1, lt_dec hk, lt_dec hkb, iteO_true]
      rcases Int.lt_trichotomy (nth a k 0) (nth b k 0) with h | h | h
      · right
        have hc : cmpI (nth a k 0) (nth b k 0) = -1 := by simp [cmpI, h]
        exact ⟨-1, by rw [decide_eq_true h]; rfl, by rw [hI, hc]; rfl⟩
      · left
        have hc : cmpI (nth a k 0) (nth b k 0) = 0 := (cmpI_good.eq _ _).2 h
        refine ⟨(), by rw [decide_eq_false (by omega), iteO_false, decide_eq_false (by omega)]; rfl, ?_⟩
        rw [List.length_append, hkl, List.length_singleton]
        exact ⟨hkb, by rw [hI, hc]; rfl⟩
      · right
        have hc : cmpI (nth a k 0) (nth b k 0) = 1 := by simp [cmpI, h, show ¬ nth a k 0 < nth b k 0 by omega]
        exact ⟨1, by rw [decide_eq_false (by omega), iteO_false, decide_eq_true h]; rfl, by rw [hI, hc]; rfl⟩
    · right
      refine ⟨_, by simp only [whittleref05_Compare_b1, lt_dec hk, iteO_true, decide_eq_false (show ¬ ((k : Nat) : Int) < ((b.length : Nat) : Int) by omega), iteO_false, hend k (.inr (by omega)) (by omega) hb]; rfl, hI.symm⟩
  · rintro s ⟨hb, hI⟩
    exact ⟨_, by simp only [whittleref05_Compare_b1, Int.lt_irrefl, decide_false, iteO_false, hend a.length (.inl (Nat.le_refl _)) (Nat.le_refl _) hb]; rfl, hI.symm⟩
end Go.Proofs.Ytcidppnlhhkhhaa
