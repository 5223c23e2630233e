/- Parts of a proof, one behind the other: what a machine reaches, functions decompiled, plain lemmas. Conditions stand with each lemma. -/
import Derived.Test.YtjhbngjhdmapmaaGreatDoorB21c3a39f89
import Derived.Test.YtjhbngjhdmapmaaGreatDoorBd415946c7a
import Derived.Test.YtjhbngjhdmapmaaGreatDoorB537e586bba

/- AnyP -/
section
/- Sets of bytes: in one or the other; the sets of a partition. Plain lemmas, no condition. -/
set_option linter.unusedVariables false
set_option linter.unusedSimpArgs false
namespace Go.Proofs.YtjhbngjhdmapmaaGreatDoor
open Go Go.E
set_option maxRecDepth 100000

theorem u64or_lt' (a b : Nat) : u64or a b < 18446744073709551616 := (BitVec.ofNat 64 a ||| BitVec.ofNat 64 b).isLt
theorem has_bit' (s : BSet) (n : Nat) : s.has n = (s.word (n / 64)).testBit (n % 64) := by
  unfold BSet.has; rw [Nat.testBit_eq_decide_div_mod_eq]
theorem set_ext {s t : BSet} (h : ∀ n, n < 256 → s.has n = t.has n) : s = t := by
  refine BSet.ext_word fun i hi => Nat.eq_of_testBit_eq fun j => ?_
  by_cases hj : j < 64
  · have h1 := h (64 * i + j) (by omega)
    rw [has_bit', has_bit', show (64 * i + j) / 64 = i by omega, show (64 * i + j) % 64 = j by omega] at h1
    exact h1
  · have h2 : ∀ u : BSet, (u.word i).testBit j = false := fun u => Nat.testBit_lt_two_pow (Nat.lt_of_lt_of_le (BSet.word_lt u.isOk i) (show 2 ^ 64 ≤ 2 ^ j from Nat.pow_le_pow_right (by omega) (by omega)))
    rw [h2, h2]
theorem any_eq (a b : BSet) : set_Any a b = some (BSet.make fun n => a.has n || b.has n) := by
  have h : ∃ r, set_Any a b = some r ∧ ∀ i, i < 4 → r.word i = u64or (a.word i) (b.word i) := by
    unfold set_Any
    exact iter_up (step := fun q : BSet × Nat => set_Any_b1 b q.1 q.2) (fun (s : BSet) k => (s, k)) 4 (fun k s => ∀ i, i < 4 → s.word i = if i < k then u64or (a.word i) (b.word i) else a.word i) (fun r => ∀ i, i < 4 → r.word i = u64or (a.word i) (b.word i))
      (fun k s hk hI => .inl ⟨BSet.setWord s k (u64or (BSet.word s k) (BSet.word b k)), by
        show set_Any_b1 b s k = _
        unfold set_Any_b1
        rw [iteO_dt (by omega), grd_mk hk, grd_mk hk, grd_mk hk, grd_mk (u64or_lt' _ _)]; rfl, fun i hi => by
        rw [BSet.word_set s hk _ i (u64or_lt' _ _) hi]
        by_cases e : i = k
        · subst e; rw [if_pos rfl, if_pos (by omega), hI i hi, if_neg (by omega)]
        · rw [if_neg e, hI i hi]
          by_cases e2 : i < k
          · rw [if_pos e2, if_pos (by omega)]
          · rw [if_neg e2, if_neg (by omega)]⟩)
      (fun s hI => ⟨s, by
        show set_Any_b1 b s 4 = _
        unfold set_Any_b1
        rw [iteO_df (by omega)]; rfl, fun i hi => by rw [hI i hi, if_pos hi]⟩) (s0 := a) (fun i hi => by rw [if_neg (by omega)])
  obtain ⟨r, h1, h2⟩ := h
  rw [h1]
  congr 1
  refine set_ext fun n hn => ?_
  have l1 := BSet.word_lt a.isOk (n / 64)
  have l2 := BSet.word_lt b.isOk (n / 64)
  rw [BSet.make_has _ hn, has_bit', has_bit', has_bit', h2 _ (by omega)]
  unfold u64or
  rw [BitVec.toNat_or, BitVec.toNat_ofNat, BitVec.toNat_ofNat, Nat.mod_eq_of_lt l1, Nat.mod_eq_of_lt l2, Nat.testBit_or]
/-- How many classes there are, if they come in order. -/
def cntS (o : Option Nat) (n : Int) : Option Nat := o.bind fun k => if n < 0 ∨ (k : Int) < n then none else some (if n = k then k + 1 else k)
def cntF (l : List Int) : Option Nat := l.foldl cntS (some 0)
theorem cntS_none : ∀ l : List Int, l.foldl cntS none = none
  | [] => rfl
  | _ :: l => cntS_none l
theorem cntF_snoc (l : List Int) (n : Int) : cntF (l ++ [n]) = cntS (cntF l) n := by simp [cntF, List.foldl_append]
theorem cntF_none {l m : List Int} (h : cntF l = none) : cntF (l ++ m) = none := by
  unfold cntF at h ⊢; rw [List.foldl_append, h, cntS_none]
theorem cntF_le : ∀ (l : List Int) (j k : Nat), l.foldl cntS (some j) = some k → k ≤ j + l.length
  | [], j, k, h => by cases h; simp
  | n :: l, j, k, h => by
    rw [List.foldl_cons] at h
    by_cases hc : n < 0 ∨ (j : Int) < n
    · rw [show cntS (some j) n = none by simp [cntS, hc], cntS_none] at h; cases h
    · rw [show cntS (some j) n = some (if n = j then j + 1 else j) by simp [cntS, hc]] at h
      have := cntF_le l _ k h
      simp only [List.length_cons]
      split at this <;> omega
/-- The bytes of a class, of those below some one. -/
def clsF (cls : List Int) (k c : Nat) : Nat → Bool := fun b => decide (b < k) && decide (nth cls b (0 : Int) = ((c : Nat) : Int))
def clsS (cls : List Int) (c : Nat) : BSet := BSet.make fun b => decide (nth cls b (0 : Int) = ((c : Nat) : Int))
structure SetsI (cls : List Int) (k : Nat) (s : List BSet) : Prop where
  cnt : cntF (cls.take k) = some s.length
  sets : ∀ c, c < s.length → nth s c BSet.zero = BSet.make (clsF cls k c)
  low : ∀ b, b < k → 0 ≤ nth cls b (0 : Int) ∧ nth cls b (0 : Int) < ((s.length : Nat) : Int)
  some_ : ∀ c, c < s.length → ∃ b, b < k ∧ nth cls b (0 : Int) = ((c : Nat) : Int)
theorem nth_set' {α : Type} (l : List α) (i j : Nat) (x d : α) (hi : i < l.length) : nth (l.set i x) j d = if j = i then x else nth l j d := by
  unfold nth
  rw [List.getD_eq_getElem?_getD, List.getD_eq_getElem?_getD, List.getElem?_set]
  by_cases h : i = j
  · subst h; rw [if_pos rfl, if_pos rfl, if_pos hi]; rfl
  · rw [if_neg h, if_neg (fun e => h e.symm)]
theorem nth_app_l {α : Type} (l m : List α) (j : Nat) (d : α) (h : j < l.length) : nth (l ++ m) j d = nth l j d := by
  unfold nth; rw [List.getD_eq_getElem?_getD, List.getD_eq_getElem?_getD, List.getElem?_append_left h]
theorem nth_app_e {α : Type} (l : List α) (x d : α) : nth (l ++ [x]) l.length d = x := by
  unfold nth; rw [List.getD_eq_getElem?_getD, List.getElem?_append_right (Nat.le_refl _)]; simp
theorem take_cons' {l : List Int} {k : Nat} (h : k < l.length) : l.take (k + 1) = l.take k ++ [nth l k 0] := by
  rw [List.take_add_one, getD_some l h 0]; rfl
theorem of1' (k : Nat) (hk : k < 256) {n : Nat} (h : n < 256) : (BSet.ofL [toU8 ((k : Nat) : Int)]).has n = decide (n = k) := by
  unfold BSet.ofL
  rw [BSet.make_has _ h]
  have := toU8_val ((k : Nat) : Int)
  rw [wrap_u8] at this
  have e : (toU8 ((k : Nat) : Int)).toNat = k := by omega
  simp [e]
/-- A byte is put into its class's set. -/
theorem sets_put {cls : List Int} {k : Nat} {s l : List BSet} (hk : k < 256) (hI : SetsI cls k s) {n : Nat} (hn : nth cls k (0 : Int) = ((n : Nat) : Int)) (hle : s.length ≤ l.length) (hl : l.length ≤ s.length + 1) (hnl : n < l.length) (hs : ∀ c, c < s.length → nth l c BSet.zero = nth s c BSet.zero) (hz : s.length < l.length → n = s.length ∧ nth l n BSet.zero = BSet.zero)
    (hc : cntF (cls.take (k + 1)) = some l.length) : SetsI cls (k + 1) (l.set n (BSet.make fun b => (nth l n BSet.zero).has b || (BSet.ofL [toU8 ((k : Nat) : Int)]).has b)) where
  cnt := by rw [List.length_set]; exact hc
  sets := fun c hcl => by
    rw [List.length_set] at hcl
    rw [nth_set' _ _ _ _ _ hnl]
    by_cases e : c = n
    · subst e
      rw [if_pos rfl]
      refine BSet.make_congr fun b hb => ?_
      rw [of1' k hk hb]
      have h0 : (nth l c BSet.zero).has b = clsF cls k c b := by
        by_cases h1 : c < s.length
        · rw [hs c h1, hI.sets c h1, BSet.make_has _ hb]
        · have h2 := hz (by omega)
          rw [h2.2]
          have h3 : clsF cls k c b = false := by
            unfold clsF
            by_cases hbk : b < k
            · have := (hI.low b hbk).2
              rw [decide_eq_false (show ¬ nth cls b (0 : Int) = ((c : Nat) : Int) by omega), Bool.and_false]
            · rw [decide_eq_false hbk, Bool.false_and]
          rw [h3, ← BSet.make_zero, BSet.make_has _ hb]
      rw [h0]
      unfold clsF
      by_cases hb2 : b = k
      · subst hb2; rw [hn]; simp
      · by_cases hb3 : b < k
        · rw [decide_eq_true hb3, decide_eq_true (show b < k + 1 by omega), decide_eq_false hb2, Bool.or_false]
        · rw [decide_eq_false hb3, decide_eq_false (show ¬ b < k + 1 by omega), decide_eq_false hb2]; rfl
    · rw [if_neg e]
      have h1 : c < s.length := by
        by_cases h2 : s.length < l.length
        · have := (hz h2).1; omega
        · omega
      rw [hs c h1, hI.sets c h1]
      refine BSet.make_congr fun b hb => ?_
      unfold clsF
      by_cases hb2 : b = k
      · subst hb2
        rw [decide_eq_false (Nat.lt_irrefl _), hn, decide_eq_false (show ¬ ((n : Nat) : Int) = ((c : Nat) : Int) by omega)]; simp
      · rw [decide_eq_decide.2 (show b < k ↔ b < k + 1 by omega)]
  low := fun b hb => by
    rw [List.length_set]
    by_cases e : b = k
    · subst e; rw [hn]; omega
    · have := hI.low b (by omega); omega
  some_ := fun c hcl => by
    rw [List.length_set] at hcl
    by_cases h1 : c < s.length
    · obtain ⟨b, h2, h3⟩ := hI.some_ c h1; exact ⟨b, by omega, h3⟩
    · have h2 := hz (by omega)
      exact ⟨k, by omega, by rw [hn]; omega⟩
theorem partSets_full (cls : List Int) : ∃ r, part_Sets cls = some r ∧ (((cls.length ≠ 256 ∨ cntF cls = none) ∧ r.2 = 1) ∨ (cls.length = 256 ∧ cntF cls = some r.1.length ∧ r.2 = 0 ∧ (∀ c, c < r.1.length → nth r.1 c BSet.zero = clsS cls c) ∧ ∀ c, c < r.1.length → ∃ b, b < 256 ∧ nth cls b (0 : Int) = ((c : Nat) : Int))) := by
  unfold part_Sets
  by_cases h256 : cls.length = 256
  · rw [iteO_df (show ¬ ((cls.length : Nat) : Int) ≠ 256 by omega)]
    obtain ⟨r, h1, h2⟩ := iter_up (step := fun q : List BSet × Nat => part_Sets_b1 cls q.1 q.2) (fun (s : List BSet) k => (s, k)) 256 (fun k s => SetsI cls k s) (fun r => (cntF cls = none ∧ r.2 = 1) ∨ (SetsI cls 256 r.1 ∧ r.2 = 0))
      (fun k s hk hI => by
        have hk' : k < cls.length := by omega
        have hsp : cls = cls.take k ++ (nth cls k 0 :: cls.drop (k + 1)) := by
          rw [← List.singleton_append, ← List.append_assoc, ← take_cons' hk', List.take_append_drop]
        have hle := cntF_le _ _ _ hI.cnt
        rw [List.length_take, Nat.zero_add] at hle
        have hstop : (nth cls k 0 < 0 ∨ (s.length : Int) < nth cls k 0) → cntF cls = none := fun hc => by
          rw [hsp, ← List.singleton_append, ← List.append_assoc]
          exact cntF_none (by rw [cntF_snoc, hI.cnt]; simp [cntS, hc])
        have hgo : ∀ l : List BSet, 0 ≤ nth cls k 0 → nth cls k 0 < (l.length : Int) → part_Sets_j1 cls k l = some (.inl (l.set (nth cls k (0 : Int)).toNat (BSet.make fun b => (nth l (nth cls k (0 : Int)).toNat BSet.zero).has b || (BSet.ofL [toU8 ((k : Nat) : Int)]).has b), k + 1)) := fun l h0 h1 => by
          unfold part_Sets_j1; rw [grd_mk ⟨h0, h1⟩, grd_mk (by simp), bnd_some (any_eq _ _), grd_mk ⟨h0, h1⟩]; rfl
        show (∃ s', part_Sets_b1 cls s k = _ ∧ _) ∨ ∃ r, part_Sets_b1 cls s k = _ ∧ _
        unfold part_Sets_b1
        rw [iteO_dt (by omega)]
        by_cases c1 : nth cls k 0 < 0
        · right; rw [iteO_dt c1]; exact ⟨_, rfl, .inl ⟨hstop (.inl c1), rfl⟩⟩
        rw [iteO_df c1]
        by_cases c2 : (s.length : Int) < nth cls k 0
        · right; rw [iteO_dt c2]; exact ⟨_, rfl, .inl ⟨hstop (.inr c2), rfl⟩⟩
        rw [iteO_df c2]
        left
        by_cases c3 : nth cls k 0 = (s.length : Int)
        · rw [iteO_dt c3, grd_mk (by simp; omega), hgo _ (by omega) (by simp; omega)]
          refine ⟨_, rfl, sets_put hk hI (n := (nth cls k (0 : Int)).toNat) (by omega) (by simp) (by simp) (by simp; omega) (fun c hc => nth_app_l _ _ _ _ hc) (fun _ => ⟨by omega, ?_⟩) ?_⟩
          · rw [show (nth cls k (0 : Int)).toNat = s.length by omega, nth_app_e]
          · rw [take_cons' hk', cntF_snoc, hI.cnt]; simp [cntS, c3]
        · rw [iteO_df c3, hgo _ (by omega) (by omega)]
          refine ⟨_, rfl, sets_put hk hI (n := (nth cls k (0 : Int)).toNat) (by omega) (Nat.le_refl _) (by omega) (by omega) (fun _ _ => rfl) (fun h => absurd h (Nat.lt_irrefl _)) ?_⟩
          rw [take_cons' hk', cntF_snoc, hI.cnt]; simp [cntS, c3]; omega)
      (fun s hI => ⟨(s, 0), by
        show part_Sets_b1 cls s 256 = _
        unfold part_Sets_b1
        rw [iteO_df (by omega)]; rfl, .inr ⟨hI, rfl⟩⟩) (s0 := []) ⟨rfl, by simp, by simp, by simp⟩
    refine ⟨r, h1, ?_⟩
    rcases h2 with ⟨h2, h3⟩ | ⟨h2, h3⟩
    · exact .inl ⟨.inr h2, h3⟩
    · have h4 := h2.cnt
      rw [List.take_of_length_le (by omega)] at h4
      refine .inr ⟨h256, h4, h3, fun c hc => ?_, h2.some_⟩
      rw [h2.sets c hc]
      exact BSet.make_congr fun b hb => by unfold clsF; rw [decide_eq_true hb, Bool.true_and]
  · rw [iteO_dt (show ((cls.length : Nat) : Int) ≠ 256 by omega)]
    exact ⟨_, rfl, .inl ⟨.inl h256, rfl⟩⟩
end Go.Proofs.YtjhbngjhdmapmaaGreatDoor
end

/- DfP -/
section
/- Automatons that go one way: what is right; steps. Plain lemmas, no condition. -/
set_option linter.unusedVariables false
set_option linter.unusedSimpArgs false
namespace Go.Proofs.YtjhbngjhdmapmaaGreatDoor
open Go Go.E
set_option maxRecDepth 100000
theorem partSets_ok (cls : List Int) : ∃ r, part_Sets cls = some r ∧ (((cls.length ≠ 256 ∨ cntF cls = none) ∧ r.2 = 1) ∨ (cls.length = 256 ∧ cntF cls = some r.1.length ∧ r.2 = 0)) := by
  obtain ⟨r, h, h1 | h1⟩ := partSets_full cls
  · exact ⟨r, h, .inl h1⟩
  · exact ⟨r, h, .inr ⟨h1.1, h1.2.1, h1.2.2.1⟩⟩
def goodS (n : Nat) (s : Int) : Bool := decide (0 ≤ s) && decide (s < (n : Int))
def goodR (n m : Nat) (row : List Int) : Bool := decide (row.length = m) && row.all (goodS n)
/-- Is an automaton right? -/
def rightD (d : Dfa) : Bool := decide (d.cls.length = 256) && (match cntF d.cls with | some m => d.next.all (goodR d.next.length m) | none => false) && decide (1 ≤ d.next.length ∧ d.next.length ≤ 1024) && decide (d.fin.length = d.next.length)
theorem all_snocD {α : Type} (p : α → Bool) (l : List α) (x : α) : (l ++ [x]).all p = (l.all p && p x) := by simp [List.all_append]
theorem all_falseD {α : Type} {p : α → Bool} {l : List α} {k : Nat} (hk : k < l.length) (d : α) (h : p (nth l k d) = false) : l.all p = false := by
  rw [List.all_eq_false]; exact ⟨_, List.mem_of_getElem? (getD_some l hk d), by simp [h]⟩
theorem chk_in (d : Dfa) (k : Nat) : ∃ r, iter (fun q : Nat => dfa_Check_b2 d k q) 0 = some r ∧ (((nth d.next k []).all (goodS d.next.length) = true ∧ r = .inl (k + 1)) ∨ ((nth d.next k []).all (goodS d.next.length) = false ∧ r = .inr 1)) :=
  iter_for (step := fun q : Nat => dfa_Check_b2 d k q) (fun (_ : Unit) j => j) (nth d.next k []) 0 (fun pre _ => pre.all (goodS d.next.length) = true) (fun r => ((nth d.next k []).all (goodS d.next.length) = true ∧ r = .inl (k + 1)) ∨ ((nth d.next k []).all (goodS d.next.length) = false ∧ r = .inr 1))
    (fun j s hj hI => by
      simp only [dfa_Check_b2]
      rw [show decide (((j : Nat) : Int) < (((nth d.next k ([] : List Int)).length : Nat) : Int)) = true from decide_eq_true (by omega), iteO_true]
      by_cases c1 : nth (nth d.next k ([] : List Int)) j (0 : Int) < 0
      · right; rw [decide_eq_true c1, iteO_true]; exact ⟨_, rfl, .inr ⟨all_falseD hj 0 (by simp [goodS]; omega), rfl⟩⟩
      rw [decide_eq_false c1, iteO_false]
      by_cases c2 : ((d.next.length : Nat) : Int) ≤ nth (nth d.next k ([] : List Int)) j (0 : Int)
      · right; rw [decide_eq_true c2, iteO_true]; exact ⟨_, rfl, .inr ⟨all_falseD hj 0 (by simp [goodS]; omega), rfl⟩⟩
      rw [decide_eq_false c2, iteO_false]
      left
      exact ⟨(), rfl, by rw [all_snocD, hI]; simp [goodS]; omega⟩)
    (fun s hI => by
      simp only [dfa_Check_b2]
      rw [show decide ((((nth d.next k ([] : List Int)).length : Nat) : Int) < (((nth d.next k ([] : List Int)).length : Nat) : Int)) = false from decide_eq_false (by omega), iteO_false]
      exact ⟨_, rfl, .inl ⟨hI, rfl⟩⟩) (s0 := ()) rfl
theorem chk_out (d : Dfa) (v : (List BSet) × Int) : ∃ r, iter (fun q : Nat => dfa_Check_b1 d v q) 0 = some r ∧ ((d.next.all (goodR d.next.length v.1.length) = true ∧ r = 0) ∨ (d.next.all (goodR d.next.length v.1.length) = false ∧ r = 1)) :=
  iter_for (step := fun q : Nat => dfa_Check_b1 d v q) (fun (_ : Unit) j => j) d.next [] (fun pre _ => pre.all (goodR d.next.length v.1.length) = true) (fun r => (d.next.all (goodR d.next.length v.1.length) = true ∧ r = 0) ∨ (d.next.all (goodR d.next.length v.1.length) = false ∧ r = 1))
    (fun k s hk hI => by
      simp only [dfa_Check_b1]
      rw [show decide (((k : Nat) : Int) < ((d.next.length : Nat) : Int)) = true from decide_eq_true (by omega), iteO_true]
      by_cases c1 : (nth d.next k ([] : List Int)).length = v.1.length
      · rw [show decide ((((nth d.next k ([] : List Int)).length : Nat) : Int) ≠ ((v.1.length : Nat) : Int)) = false from decide_eq_false (by omega), iteO_false]
        obtain ⟨r, h1, h2 | h2⟩ := chk_in d k
        · left; rw [h1, h2.2]; exact ⟨(), rfl, by rw [all_snocD, hI]; simp [goodR, c1, h2.1]⟩
        · right; rw [h1, h2.2]; exact ⟨_, rfl, .inr ⟨all_falseD hk [] (by simp only [goodR, h2.1, Bool.and_false]), rfl⟩⟩
      · right
        rw [show decide ((((nth d.next k ([] : List Int)).length : Nat) : Int) ≠ ((v.1.length : Nat) : Int)) = true from decide_eq_true (by omega), iteO_true]
        exact ⟨_, rfl, .inr ⟨all_falseD hk [] (by simp [goodR, c1]), rfl⟩⟩)
    (fun s hI => by
      simp only [dfa_Check_b1]
      rw [show decide (((d.next.length : Nat) : Int) < ((d.next.length : Nat) : Int)) = false from decide_eq_false (by omega), iteO_false]
      exact ⟨_, rfl, .inl ⟨hI, rfl⟩⟩) (s0 := ()) rfl
theorem dcheck_eq (d : Dfa) : dfa_Check d = some (if rightD d = true then 0 else 1) := by
  unfold dfa_Check
  obtain ⟨v, hv, h⟩ := partSets_ok d.cls
  rw [bnd_some hv]
  rcases h with ⟨h1, h2⟩ | ⟨h1, h2, h3⟩
  · rw [decide_eq_true (show v.2 ≠ 0 by omega), iteO_true]
    rw [if_neg]
    rcases h1 with h1 | h1
    · simp [rightD, h1]
    · simp [rightD, h1]
  · rw [decide_eq_false (show ¬ v.2 ≠ 0 by omega), iteO_false]
    by_cases c1 : d.next.length < 1
    · rw [show decide (((d.next.length : Nat) : Int) < 1) = true from decide_eq_true (by omega), iteO_true, if_neg]
      simp only [rightD, Bool.and_eq_true, decide_eq_true_eq]; omega
    rw [show decide (((d.next.length : Nat) : Int) < 1) = false from decide_eq_false (by omega), iteO_false]
    by_cases c2 : 1024 < d.next.length
    · rw [show decide (1024 < ((d.next.length : Nat) : Int)) = true from decide_eq_true (by omega), iteO_true, if_neg]
      simp only [rightD, Bool.and_eq_true, decide_eq_true_eq]; omega
    rw [show decide (1024 < ((d.next.length : Nat) : Int)) = false from decide_eq_false (by omega), iteO_false]
    by_cases c3 : d.fin.length = d.next.length
    · rw [show decide (((d.fin.length : Nat) : Int) ≠ ((d.next.length : Nat) : Int)) = false from decide_eq_false (by omega), iteO_false]
      obtain ⟨r, hr, hr2⟩ := chk_out d v
      rw [hr]
      have e : rightD d = d.next.all (goodR d.next.length v.1.length) := by
        simp only [rightD, h1, h2, c3, decide_true, Bool.true_and, Bool.and_true]
        rw [show decide (1 ≤ d.next.length ∧ d.next.length ≤ 1024) = true from decide_eq_true (by omega), Bool.and_true]
      rw [e]
      rcases hr2 with ⟨h4, h5⟩ | ⟨h4, h5⟩
      · rw [h4, h5, if_pos rfl]
      · rw [h4, h5, if_neg (by simp)]
    · rw [show decide (((d.fin.length : Nat) : Int) ≠ ((d.next.length : Nat) : Int)) = true from decide_eq_true (by omega), iteO_true, if_neg]
      simp only [rightD, Bool.and_eq_true, decide_eq_true_eq]; omega
theorem cnt_mem : ∀ (l : List Int) (j m : Nat), l.foldl cntS (some j) = some m → j ≤ m ∧ ∀ n ∈ l, 0 ≤ n ∧ n < (m : Int)
  | [], j, m, h => by cases h; simp
  | n :: l, j, m, h => by
    rw [List.foldl_cons] at h
    by_cases hc : n < 0 ∨ (j : Int) < n
    · rw [show cntS (some j) n = none by simp [cntS, hc], cntS_none] at h; cases h
    · rw [show cntS (some j) n = some (if n = j then j + 1 else j) by simp [cntS, hc]] at h
      obtain ⟨h1, h2⟩ := cnt_mem l _ m h
      refine ⟨by split at h1 <;> omega, fun k hk => ?_⟩
      rcases List.mem_cons.1 hk with rfl | hk
      · split at h1 <;> omega
      · exact h2 k hk
def okS (d : Dfa) (s : Int) : Prop := 0 ≤ s ∧ s < (d.next.length : Int)
/-- The state behind a state, by a byte. -/
def dlt (d : Dfa) (s : Int) (b : UInt8) : Int := nth (nth d.next s.toNat ([] : List Int)) ((nth d.cls b.toNat (0 : Int)).toNat) (0 : Int)
theorem nth_memD {α : Type} {l : List α} {i : Nat} (hi : i < l.length) (d : α) : nth l i d ∈ l := List.mem_of_getElem? (getD_some l hi d)
structure DltOk (d : Dfa) (s : Int) (b : UInt8) : Prop where
  cl : b.toNat < d.cls.length
  c : 0 ≤ nth d.cls b.toNat (0 : Int) ∧ nth d.cls b.toNat (0 : Int) < ((nth d.next s.toNat ([] : List Int)).length : Int)
  nx : okS d (dlt d s b)
  f : 0 ≤ dlt d s b ∧ dlt d s b < (d.fin.length : Int)
end Go.Proofs.YtjhbngjhdmapmaaGreatDoor
end

/- RatP -/
section
/- Automatons as transducers: the program. Plain lemmas, no condition. -/
set_option linter.unusedVariables false
set_option linter.unusedSimpArgs false
namespace Go.Proofs.YtjhbngjhdmapmaaGreatDoor
open Go Go.E
set_option maxRecDepth 100000

/-! ### What is put together -/
def growSt (g : Grow) (x : Tip) : Grow := if g.over = true ∨ 1024 ≤ g.f.starts.length ∨ 1024 < x.out.length then ⟨g.f, true⟩ else ⟨⟨g.f.states, g.f.starts ++ [x], g.f.ends, g.f.arcs⟩, false⟩
def growEn (g : Grow) (x : Tip) : Grow := if g.over = true ∨ 1024 ≤ g.f.ends.length ∨ 1024 < x.out.length then ⟨g.f, true⟩ else ⟨⟨g.f.states, g.f.starts, g.f.ends ++ [x], g.f.arcs⟩, false⟩
def growAr (g : Grow) (x : Arc) : Grow := if g.over = true ∨ 16384 ≤ g.f.arcs.length ∨ 1024 < x.out.length then ⟨g.f, true⟩ else ⟨⟨g.f.states, g.f.starts, g.f.ends, g.f.arcs ++ [x]⟩, false⟩
def lookG (g : Grow) : Fst × Int := if g.over = true ∨ 1024 < g.f.states then (⟨0, [], [], []⟩, 2) else (g.f, 0)
theorem start_eq (g : Grow) (x : Tip) : rat_grow_start g x = some (growSt g x) := by
  unfold rat_grow_start growSt
  obtain ⟨⟨n, S, E, A⟩, o⟩ := g
  cases o with
  | true => rw [if_pos (.inl rfl)]; rfl
  | false =>
    dsimp only
    rw [iteO_false]
    by_cases h1 : 1024 ≤ S.length
    · rw [iteO_dt (by omega), if_pos (.inr (.inl h1))]
    · rw [iteO_df (by omega)]
      by_cases h2 : 1024 < x.out.length
      · rw [iteO_dt (by omega), if_pos (.inr (.inr h2))]
      · rw [iteO_df (by omega), grd_mk (by simp only [List.length_singleton]; omega), if_neg (by simp; omega)]
theorem end_eq (g : Grow) (x : Tip) : rat_grow_end g x = some (growEn g x) := by
  unfold rat_grow_end growEn
  obtain ⟨⟨n, S, E, A⟩, o⟩ := g
  cases o with
  | true => rw [if_pos (.inl rfl)]; rfl
  | false =>
    dsimp only
    rw [iteO_false]
    by_cases h1 : 1024 ≤ E.length
    · rw [iteO_dt (by omega), if_pos (.inr (.inl h1))]
    · rw [iteO_df (by omega)]
      by_cases h2 : 1024 < x.out.length
      · rw [iteO_dt (by omega), if_pos (.inr (.inr h2))]
      · rw [iteO_df (by omega), grd_mk (by simp only [List.length_singleton]; omega), if_neg (by simp; omega)]
theorem arc_eq (g : Grow) (x : Arc) : rat_grow_arc g x = some (growAr g x) := by
  unfold rat_grow_arc growAr
  obtain ⟨⟨n, S, E, A⟩, o⟩ := g
  cases o with
  | true => rw [if_pos (.inl rfl)]; rfl
  | false =>
    dsimp only
    rw [iteO_false]
    by_cases h1 : 16384 ≤ A.length
    · rw [iteO_dt (by omega), if_pos (.inr (.inl h1))]
    · rw [iteO_df (by omega)]
      by_cases h2 : 1024 < x.out.length
      · rw [iteO_dt (by omega), if_pos (.inr (.inr h2))]
      · rw [iteO_df (by omega), grd_mk (by simp only [List.length_singleton]; omega), if_neg (by simp; omega)]
theorem look_eq (g : Grow) : rat_grow_look g = some (lookG g) := by
  unfold rat_grow_look lookG
  obtain ⟨⟨n, S, E, A⟩, o⟩ := g
  cases o with
  | true => rw [if_pos (.inl rfl)]; rfl
  | false =>
    dsimp only
    rw [iteO_false]
    by_cases h : 1024 < n
    · rw [iteO_dt h, if_pos (.inr h)]
    · rw [iteO_df h, if_neg (by simp; omega)]

/-! ### The way back -/
theorem cls_run {S : Type} {B : S → Int × BSet → Option (Nat × S)} {x1 : List BSet} (I : Nat → S → Prop) (hB : ∀ k l, k < x1.length → I k l → ∃ l', B l (((k : Nat) : Int), nth x1 k BSet.zero) = some (0, l') ∧ I (k + 1) l') {l0 : S} (h0 : I 0 l0) :
    ∃ l, dfa_classes_1 (stepY B) (0, l0) x1 = some (0, l) ∧ I x1.length l := by
  unfold dfa_classes_1
  obtain ⟨r, h1, l, h2, h3⟩ := iter_up (step := fun q : Nat × (Nat × S) => dfa_classes_1_b1 x1 (stepY B) q.1 q.2) (fun (s : S) k => (k, (0, s))) x1.length I (fun r => ∃ l, r = (0, l) ∧ I x1.length l)
    (fun k l hk hI => by
      obtain ⟨l', h1, h2⟩ := hB k l hk hI
      refine .inl ⟨l', ?_, h2⟩
      show dfa_classes_1_b1 x1 (stepY B) k (0, l) = _
      unfold dfa_classes_1_b1
      rw [iteO_dt (by omega)]
      have hs : stepY B (0, l) (((k : Nat) : Int), nth x1 k BSet.zero) = some ((0, l'), true) := by
        unfold stepY
        rw [if_pos rfl, h1]; rfl
      rw [bnd_some hs]; rfl)
    (fun l hI => ⟨(0, l), by
      show dfa_classes_1_b1 x1 (stepY B) x1.length (0, l) = _
      unfold dfa_classes_1_b1
      rw [iteO_df (by omega)]; rfl, l, rfl, hI⟩) h0
  exact ⟨l, by rw [h1, h2], h3⟩
/-- What is known of a right automaton's row at a byte. -/
structure RowOk (d : Dfa) (m s b : Nat) : Prop where
  cl : b < d.cls.length
  c0 : 0 ≤ nth d.cls b (0 : Int)
  c1 : nth d.cls b (0 : Int) < ((m : Nat) : Int)
  n0 : 0 ≤ nth (nth d.next s ([] : List Int)) (nth d.cls b (0 : Int)).toNat (0 : Int)
  n1 : nth (nth d.next s ([] : List Int)) (nth d.cls b (0 : Int)).toNat (0 : Int) < ((d.next.length : Nat) : Int)
theorem right_parts {d : Dfa} (h : rightD d = true) : ∃ m, cntF d.cls = some m ∧ d.cls.length = 256 ∧ 1 ≤ d.next.length ∧ d.next.length ≤ 1024 ∧ d.fin.length = d.next.length ∧ (∀ s, s < d.next.length → (nth d.next s ([] : List Int)).length = m ∧ ∀ c, c < m → 0 ≤ nth (nth d.next s ([] : List Int)) c (0 : Int) ∧ nth (nth d.next s ([] : List Int)) c (0 : Int) < ((d.next.length : Nat) : Int)) := by
  simp only [rightD, Bool.and_eq_true, decide_eq_true_eq] at h
  obtain ⟨⟨⟨h1, h2⟩, h3⟩, h4⟩ := h
  cases hm : cntF d.cls with
  | none => rw [hm] at h2; cases h2
  | some m =>
    rw [hm] at h2
    refine ⟨m, rfl, h1, h3.1, h3.2, h4, fun s hs => ?_⟩
    have hrow := List.all_eq_true.1 h2 _ (nth_memD (l := d.next) (i := s) hs [])
    simp only [goodR, Bool.and_eq_true, decide_eq_true_eq] at hrow
    refine ⟨hrow.1, fun c hc => ?_⟩
    have hx := List.all_eq_true.1 hrow.2 _ (nth_memD (l := nth d.next s []) (i := c) (by omega) 0)
    simp only [goodS, Bool.and_eq_true, decide_eq_true_eq] at hx
    exact hx
theorem row_ok {d : Dfa} {m : Nat} (h : rightD d = true) (hm : cntF d.cls = some m) {s b : Nat} (hs : s < d.next.length) (hb : b < 256) : RowOk d m s b := by
  obtain ⟨m', h1, h2, h3, h4, h5, h6⟩ := right_parts h
  rw [hm] at h1; cases h1
  have hcl : b < d.cls.length := by omega
  have hc := (cnt_mem d.cls 0 m hm).2 _ (nth_memD hcl 0)
  obtain ⟨-, h7⟩ := h6 s hs
  have h8 := h7 (nth d.cls b (0 : Int)).toNat (by omega)
  exact ⟨hcl, hc.1, hc.2, h8.1, h8.2⟩
theorem toS_far {d : Dfa} (h : rightD d = true) {s z : Nat} (hs : s < d.next.length) (hz : d.next.length ≤ z) : toS d s z = BSet.zero := by
  obtain ⟨m, hm, -⟩ := right_parts h
  unfold toS
  rw [← BSet.make_zero]
  refine BSet.make_congr fun b hb => decide_eq_false ?_
  have := (row_ok h hm hs hb).n1
  omega
theorem backR_snoc (d : Dfa) (s m : Nat) : backR d s (m + 1) = backR d s m ++ (if toS d s m = BSet.zero then [] else [⟨((s : Nat) : Int), ((m : Nat) : Int), toS d s m⟩]) := by
  unfold backR
  rw [List.range_succ, List.flatMap_append]; simp
theorem backR_far {d : Dfa} (h : rightD d = true) {s : Nat} (hs : s < d.next.length) : ∀ j, backR d s (d.next.length + j) = backR d s d.next.length
  | 0 => rfl
  | j + 1 => by rw [← Nat.add_assoc, backR_snoc, toS_far h hs (by omega), if_pos rfl, List.append_nil, backR_far h hs j]
theorem backE_snoc (d : Dfa) (m : Nat) : backE d (m + 1) = backE d m ++ backR d m d.next.length := by
  unfold backE
  rw [List.range_succ, List.flatMap_append]; simp
theorem endsN_snoc (d : Dfa) (m : Nat) : endsN d (m + 1) = endsN d m ++ (if nth d.fin m false = true then [((m : Nat) : Int)] else []) := by
  unfold endsN
  rw [List.range_succ, List.flatMap_append]; simp
/-- The sets by which a state goes on, of the classes so far. -/
structure ByI (d : Dfa) (s k : Nat) (l : List BSet) : Prop where
  len : l.length = 1024
  at_ : ∀ z, z < 1024 → nth l z BSet.zero = BSet.make fun b => decide (nth d.cls b (0 : Int) < ((k : Nat) : Int)) && decide (nth (nth d.next s ([] : List Int)) (nth d.cls b (0 : Int)).toNat (0 : Int) = ((z : Nat) : Int))
theorem by_step {d : Dfa} {m s k : Nat} {l : List BSet} (h : rightD d = true) (hm : cntF d.cls = some m) (hs : s < d.next.length) (hk : k < m) (hI : ByI d s k l) :
    ∃ l', dfa_Back_r64 d s l ((k : Nat) : Int) (clsS d.cls k) = some (0, l') ∧ ByI d s (k + 1) l' := by
  obtain ⟨m', h1, h2, h3, h4, h5, h6⟩ := right_parts h
  rw [hm] at h1; cases h1
  obtain ⟨h7, h8⟩ := h6 s hs
  have h9 := h8 k hk
  have hz : (nth (nth d.next s ([] : List Int)) k (0 : Int)).toNat < l.length := by rw [hI.len]; omega
  refine ⟨l.set (nth (nth d.next s ([] : List Int)) k (0 : Int)).toNat (BSet.make fun b => (nth l (nth (nth d.next s ([] : List Int)) k (0 : Int)).toNat BSet.zero).has b || (clsS d.cls k).has b), ?_, ⟨by rw [List.length_set]; exact hI.len, fun z hz2 => ?_⟩⟩
  · unfold dfa_Back_r64
    rw [show ((k : Nat) : Int).toNat = k from Int.toNat_natCast k]
    have q1 : 0 ≤ ((k : Nat) : Int) ∧ ((k : Nat) : Int) < (((nth d.next s ([] : List Int)).length : Nat) : Int) := ⟨by omega, by omega⟩
    have q2 : 0 ≤ nth (nth d.next s ([] : List Int)) k (0 : Int) ∧ nth (nth d.next s ([] : List Int)) k (0 : Int) < 1024 := ⟨h9.1, by omega⟩
    first | rw [grd_mk hs, grd_mk q1, grd_mk hs, grd_mk q1, grd_mk q2, bnd_some (any_eq _ _), grd_mk q2] | rw [grd_mk q1, grd_mk q1, grd_mk q2, bnd_some (any_eq _ _), grd_mk q2]
  · rw [nth_set' _ _ _ _ _ hz]
    split
    · rename_i e
      subst e
      rw [hI.at_ _ hz2]
      refine BSet.make_congr fun b hb => ?_
      have hr := row_ok h hm hs hb
      rw [BSet.make_has _ hb]
      unfold clsS
      rw [BSet.make_has _ hb]
      by_cases e1 : nth d.cls b (0 : Int) = ((k : Nat) : Int)
      · rw [e1, Int.toNat_natCast]
        simp; omega
      · rw [decide_eq_false e1, Bool.or_false]
        congr 1
        rw [decide_eq_decide]; omega
    · rename_i e
      rw [hI.at_ _ hz2]
      refine BSet.make_congr fun b hb => ?_
      have hr := row_ok h hm hs hb
      by_cases e1 : nth d.cls b (0 : Int) = ((k : Nat) : Int)
      · rw [e1, Int.toNat_natCast, decide_eq_false (show ¬ nth (nth d.next s ([] : List Int)) k (0 : Int) = ((z : Nat) : Int) by omega)]; simp
      · congr 1
        rw [decide_eq_decide]; omega
theorem by_all {d : Dfa} {m s : Nat} {l : List BSet} (h : rightD d = true) (hm : cntF d.cls = some m) (hs : s < d.next.length) (hI : ByI d s m l) : l.length = 1024 ∧ ∀ z, z < 1024 → nth l z BSet.zero = toS d s z :=
  ⟨hI.len, fun z hz => by
    rw [hI.at_ z hz]
    unfold toS
    refine BSet.make_congr fun b hb => ?_
    rw [decide_eq_true (row_ok h hm hs hb).c1, Bool.true_and]⟩
theorem nth_rep {α : Type} (n i : Nat) (x : α) : nth (List.replicate n x) i x = x := by
  unfold nth
  rw [List.getD_eq_getElem?_getD, List.getElem?_replicate]
  split <;> rfl
theorem bys_run {d : Dfa} {v6 : List BSet × Int} {s : Nat} (h : rightD d = true) (hm : cntF d.cls = some v6.1.length) (hsets : ∀ c, c < v6.1.length → nth v6.1 c BSet.zero = clsS d.cls c) (hs : s < d.next.length) :
    ∃ l, dfa_classes_1 (stepY (fun (q : (List BSet)) (x : Int × BSet) => dfa_Back_r64 d s q x.1 x.2)) (0, (List.replicate 1024 BSet.zero)) v6.1 = some (0, l) ∧ l.length = 1024 ∧ ∀ z, z < 1024 → nth l z BSet.zero = toS d s z := by
  obtain ⟨l, h1, h2⟩ := cls_run (B := fun (q : (List BSet)) (x : Int × BSet) => dfa_Back_r64 d s q x.1 x.2) (x1 := v6.1) (ByI d s) (fun k l hk hI => by
    dsimp only
    rw [hsets k hk]; exact by_step h hm hs hk hI) (l0 := List.replicate 1024 BSet.zero) ⟨List.length_replicate, fun z _ => by
      rw [nth_rep, ← BSet.make_zero]
      refine BSet.make_congr fun b hb => ?_
      have := (row_ok h hm hs hb).c0
      rw [decide_eq_false (by omega), Bool.false_and]⟩
  exact ⟨l, h1, by_all h hm hs h2⟩
theorem back_in {d : Dfa} {s : Nat} {l : List BSet} {E : List Int} {A0 : List Arrow} (h : rightD d = true) (hs : s < d.next.length) (hl : ∀ z, z < 1024 → nth l z BSet.zero = toS d s z) (hA : A0.length ≤ 20000) (hn : d.next.length ≤ 100) :
    iter (fun q : (List Arrow) × Nat => dfa_Back_b2 l s E q.1 q.2) (A0, 0) = some (.inl (E, A0 ++ backR d s d.next.length, s + 1)) := by
  obtain ⟨r, h1, rfl⟩ := iter_up (step := fun q : (List Arrow) × Nat => dfa_Back_b2 l s E q.1 q.2) (fun (A : List Arrow) k => (A, k)) 1024 (fun k A => A = A0 ++ backR d s k) (fun r => r = .inl (E, A0 ++ backR d s d.next.length, s + 1))
    (fun k A hk hI => by
      subst hI
      have hlen := backR_len d s k
      refine .inl ⟨A0 ++ backR d s (k + 1), ?_, rfl⟩
      show dfa_Back_b2 l s E _ k = _
      unfold dfa_Back_b2 dfa_Back_j2
      rw [iteO_dt (by omega), hl k hk]
      by_cases hz : toS d s k = BSet.zero
      · rw [iteO_df (by simpa using hz), backR_snoc, if_pos hz, List.append_nil]; rfl
      · rw [iteO_dt hz, grd_mk (by simp only [List.length_append, List.length_singleton]; omega), backR_snoc, if_neg hz, List.append_assoc]; rfl)
    (fun A hI => by
      subst hI
      have hlen := backR_len d s d.next.length
      have e := backR_far h hs (1024 - d.next.length)
      rw [show d.next.length + (1024 - d.next.length) = 1024 by omega] at e
      refine ⟨_, ?_, rfl⟩
      show dfa_Back_b2 l s E _ 1024 = _
      unfold dfa_Back_b2
      rw [iteO_df (by omega), e, iteO_df (by simp only [List.length_append]; omega)]; rfl) (s0 := A0) (by simp [backR])
  exact h1
theorem dback_eq {d : Dfa} (hn : d.next.length ≤ 100) : dfa_Back d = some (if rightD d = true then (backN d, 0) else (⟨0, [], [], []⟩, 1)) := by
  unfold dfa_Back
  obtain ⟨v6, hv, hp⟩ := partSets_full d.cls
  rw [bnd_some hv]
  by_cases h : rightD d = true
  · rw [if_pos h]
    obtain ⟨m, hm, h2, h3, h4, h5, h6⟩ := right_parts h
    rcases hp with ⟨hp, -⟩ | ⟨-, hc, h0, hsets, -⟩
    · rcases hp with hp | hp
      · exact absurd h2 hp
      · rw [hm] at hp; cases hp
    rw [iteO_df (by omega), dcheck_eq, bnd_mk, if_pos h, iteO_df (by simp)]
    have hm2 : m = v6.1.length := by rw [hm] at hc; exact Option.some.inj hc
    subst hm2
    obtain ⟨r, h7, rfl⟩ := iter_up (step := fun q : (List Int) × (List Arrow) × Nat => dfa_Back_b1 d v6 q.1 q.2.1 q.2.2) (fun (s : List Int × List Arrow) k => (s.1, s.2, k)) d.next.length (fun k s => s = (endsN d k, backE d k)) (fun r => r = (backN d, 0))
      (fun k s hk hI => by
        subst hI
        have e1 := endsN_len d k
        have e2 := backE_len d k
        have e3 := Nat.mul_le_mul (show k ≤ 100 by omega) hn
        obtain ⟨l, q1, q2, q3⟩ := bys_run h hm hsets hk
        refine .inl ⟨(endsN d (k + 1), backE d (k + 1)), ?_, rfl⟩
        show dfa_Back_b1 d v6 _ _ k = _
        have hj : ∀ E : List Int, dfa_Back_j1 v6 d k (backE d k) E = some (.inl (E, backE d (k + 1), k + 1)) := fun E => by
          unfold dfa_Back_j1 dfa_classes
          rw [bnd_mk, bnd_some q1]
          show dfa_Back_k64 k E (backE d k) 0 l = _
          unfold dfa_Back_k64
          show iter _ _ = _
          rw [back_in h hk q3 (by omega) hn, backE_snoc]
        unfold dfa_Back_b1
        rw [iteO_dt (by omega), grd_mk (by omega), endsN_snoc]
        by_cases hf : nth d.fin k false = true
        · rw [hf, iteO_true, if_pos rfl, grd_mk (by simp only [List.length_singleton]; omega), hj]
        · simp only [Bool.not_eq_true] at hf
          rw [hf, iteO_false, if_neg (by simp), List.append_nil, hj])
      (fun s hI => by
        subst hI
        refine ⟨_, ?_, rfl⟩
        show dfa_Back_b1 d v6 _ _ d.next.length = _
        unfold dfa_Back_b1
        rw [iteO_df (by omega)]; rfl) (s0 := ([], [])) (by simp [endsN, backE])
    exact h7
  · rw [if_neg h, dcheck_eq]
    by_cases hv2 : v6.2 = 0
    · rw [iteO_df (by omega), bnd_mk, if_neg h, iteO_dt (by simp)]
    · rw [iteO_dt hv2]

/-! ### The transducer -/
theorem gstarts_run {v5 : Nfa × Int} {x1 : List UInt8} {x2 : Bool} {n : Int} {R : Fst × Int} (hs : v5.1.starts = [0])
    (hnext : iter (fun q : Int × (List Tip) × (List Tip) × (List Arc) × Bool × Nat => rat_back_b2 v5 x1 x2 q.1 q.2.1 q.2.2.1 q.2.2.2.1 q.2.2.2.2.1 q.2.2.2.2.2) (n, [⟨0, []⟩], [], [], false, 0) = some R) :
    iter (fun q : Int × (List Tip) × (List Tip) × (List Arc) × Bool × Nat => rat_back_b1 v5 x1 x2 q.1 q.2.1 q.2.2.1 q.2.2.2.1 q.2.2.2.2.1 q.2.2.2.2.2) (n, [], [], [], false, 0) = some R := by
  have h1 : rat_back_b1 v5 x1 x2 n [] [] [] false 0 = some (.inl (n, [⟨0, []⟩], [], [], false, 1)) := by
    unfold rat_back_b1
    rw [hs, iteO_dt (by simp), start_eq, bnd_mk]; rfl
  refine iter_next (s' := (n, [⟨0, []⟩], [], [], false, 1)) h1 (iter_done ?_)
  show rat_back_b1 v5 x1 x2 n [⟨0, []⟩] [] [] false 1 = _
  unfold rat_back_b1
  rw [hs, iteO_df (by simp)]
  show fin _ = _
  rw [hnext]; rfl
theorem ratBack_eq {d : Dfa} (hn : d.next.length ≤ 100) (out : List UInt8) (c : Bool) (ho : out.length ≤ 1024) : rat_back d out c = some (if rightD d = true then (mkF d out c, 0) else (⟨0, [], [], []⟩, 1)) := by
  unfold rat_back
  rw [grd_mk (by omega), dback_eq hn, bnd_mk]
  by_cases h : rightD d = true
  · rw [if_pos h, if_pos h]
    dsimp only
    rw [iteO_df (by simp)]
    have e1 := endsN_len d d.next.length
    have e2 := backE_len d d.next.length
    have e3 := Nat.mul_le_mul hn hn
    refine gstarts_run (v5 := (backN d, 0)) rfl ?_
    obtain ⟨r, h1, rfl⟩ := iter_up (step := fun q : Int × (List Tip) × (List Tip) × (List Arc) × Bool × Nat => rat_back_b2 (backN d, 0) out c q.1 q.2.1 q.2.2.1 q.2.2.2.1 q.2.2.2.2.1 q.2.2.2.2.2) (fun (E : List Tip) k => (((d.next.length : Nat) : Int), [⟨0, []⟩], E, [], false, k)) (endsN d d.next.length).length
      (fun k E => E = ((endsN d d.next.length).take k).map fun s => ⟨s, out⟩) (fun r => r = (mkF d out c, 0))
      (fun k E hk hI => by
        subst hI
        refine .inl ⟨_, ?_, rfl⟩
        show rat_back_b2 (backN d, 0) out c _ _ _ _ _ k = _
        unfold rat_back_b2
        show iteO (decide (((k : Nat) : Int) < (((endsN d d.next.length).length : Nat) : Int))) _ _ = _
        rw [iteO_dt (by omega), end_eq, bnd_mk]
        unfold growEn
        rw [if_neg (by simp only [Bool.false_eq_true, false_or, List.length_map, List.length_take]; omega)]
        rw [List.take_add_one, getD_some _ hk 0, Option.toList_some, List.map_append]; rfl)
      (fun E hI => by
        subst hI
        rw [List.take_length]
        refine ⟨_, ?_, rfl⟩
        show rat_back_b2 (backN d, 0) out c _ _ _ _ _ (endsN d d.next.length).length = _
        unfold rat_back_b2
        show iteO (decide ((((endsN d d.next.length).length : Nat) : Int) < (((endsN d d.next.length).length : Nat) : Int))) _ _ = _
        rw [iteO_df (by omega)]
        obtain ⟨r, h1, rfl⟩ := iter_up (step := fun q : Int × (List Tip) × (List Tip) × (List Arc) × Bool × Nat => rat_back_b3 (backN d, 0) c q.1 q.2.1 q.2.2.1 q.2.2.2.1 q.2.2.2.2.1 q.2.2.2.2.2) (fun (A : List Arc) k => (((d.next.length : Nat) : Int), [⟨0, []⟩], (endsN d d.next.length).map (fun s => (⟨s, out⟩ : Tip)), A, false, k)) (backE d d.next.length).length
          (fun k A => A = ((backE d d.next.length).take k).map fun x => ⟨x.frm, x.to, x.set, [], c⟩) (fun r => r = (mkF d out c, 0))
          (fun k A hk hI => by
            subst hI
            refine .inl ⟨_, ?_, rfl⟩
            show rat_back_b3 (backN d, 0) c _ _ _ _ _ k = _
            unfold rat_back_b3
            show iteO (decide (((k : Nat) : Int) < (((backE d d.next.length).length : Nat) : Int))) _ _ = _
            rw [iteO_dt (by omega), arc_eq, bnd_mk]
            unfold growAr
            rw [if_neg (by simp only [Bool.false_eq_true, false_or, List.length_map, List.length_take, List.length_nil]; omega)]
            rw [List.take_add_one, getD_some _ hk Arrow.zero, Option.toList_some, List.map_append]; rfl)
          (fun A hI => by
            subst hI
            rw [List.take_length]
            refine ⟨_, ?_, rfl⟩
            show rat_back_b3 (backN d, 0) c _ _ _ _ _ (backE d d.next.length).length = _
            unfold rat_back_b3
            show iteO (decide ((((backE d d.next.length).length : Nat) : Int) < (((backE d d.next.length).length : Nat) : Int))) _ _ = _
            rw [iteO_df (by omega), look_eq, bnd_mk]
            unfold lookG
            rw [if_neg (by simp only [Bool.false_eq_true, false_or]; omega)]; rfl) (s0 := []) (by simp)
        show fin (iter _ _) = _
        rw [h1]; rfl) (s0 := []) (by simp)
    exact h1
  · rw [if_neg h, if_neg h]; rfl
theorem same16_eq {d : Dfa} (hn : d.next.length ≤ 100) : rat_Same d = some (if rightD d = true then (mkF d [] true, 0) else (⟨0, [], [], []⟩, 1)) := by
  unfold rat_Same
  rw [dcheck_eq, bnd_mk]
  by_cases h : rightD d = true
  · rw [if_pos h, if_pos h, iteO_df (by simp), ratBack_eq hn [] true (by simp), bnd_mk, if_pos h]
  · rw [if_neg h, if_neg h, iteO_dt (by simp)]
theorem cross_eq {d : Dfa} (hn : d.next.length ≤ 100) (out : List UInt8) (ho : out.length ≤ 281474976710656) : rat_Cross d out = some (if rightD d = true then (if 1024 < out.length then (⟨0, [], [], []⟩, 2) else (mkF d out false, 0)) else (⟨0, [], [], []⟩, 1)) := by
  unfold rat_Cross
  rw [grd_mk ho, dcheck_eq, bnd_mk]
  by_cases h : rightD d = true
  · rw [if_pos h, if_pos h, iteO_df (by simp)]
    by_cases h2 : 1024 < out.length
    · rw [iteO_dt (by omega), if_pos h2]
    · rw [iteO_df (by omega), if_neg h2, ratBack_eq hn out false (by omega), bnd_mk, if_pos h]
  · rw [if_neg h, if_neg h, iteO_dt (by simp)]
end Go.Proofs.YtjhbngjhdmapmaaGreatDoor
end

/- Chk -/
section
/- What makes an automaton right. Plain lemmas, no condition. -/
set_option linter.unusedVariables false
set_option linter.unusedSimpArgs false
namespace Go.Proofs.YtjhbngjhdmapmaaGreatDoor
open Go Go.E
set_option maxRecDepth 100000

end Go.Proofs.YtjhbngjhdmapmaaGreatDoor
end

/- FstR -/
section
/- In, and Sort, of a transducer; what the laws look at. Plain lemmas, no condition. -/
set_option linter.unusedVariables false
set_option linter.unusedSimpArgs false
namespace Go.Proofs.YtjhbngjhdmapmaaGreatDoor
open Go Go.E
set_option maxRecDepth 100000

/-! ### In order -/
/-- The same things, be it in another order and more often. -/
structure Alike (s t : Fst) : Prop where
  states : s.states = t.states
  starts : ∀ x, x ∈ s.starts ↔ x ∈ t.starts
  ends : ∀ x, x ∈ s.ends ↔ x ∈ t.ends
  arcs : ∀ x, x ∈ s.arcs ↔ x ∈ t.arcs
/-- More arcs and tips. -/
structure Within (s t : Fst) : Prop where
  starts : ∀ x ∈ s.starts, x ∈ t.starts
  ends : ∀ x ∈ s.ends, x ∈ t.ends
  arcs : ∀ x ∈ s.arcs, x ∈ t.arcs
theorem mem_endT {t : Fst} {S : List FPair} {o : List UInt8} : o ∈ endT t S ↔ ∃ p ∈ S, ∃ e ∈ t.ends, e.state = p.state ∧ o = p.out ++ e.out := by
  simp only [endT, List.mem_flatMap, List.mem_map, List.mem_filter, decide_eq_true_eq]
  constructor
  · rintro ⟨p, hp, _, ⟨e, ⟨he, h1⟩, rfl⟩, h2⟩; exact ⟨p, hp, e, he, h1, h2.symm⟩
  · rintro ⟨p, hp, e, he, h1, h2⟩; exact ⟨p, hp, _, ⟨e, ⟨he, h1⟩, rfl⟩, h2.symm⟩
theorem mem_outsL {t : Fst} {w o : List UInt8} : o ∈ outsL t w ↔ ∃ p ∈ pairsL t w, ∃ e ∈ t.ends, e.state = p.state ∧ o = p.out ++ e.out := by rw [outsL, mem_onceL, mem_endT]
theorem outsL_rise (t : Fst) (w : List UInt8) : (outsL t w).Pairwise fun x y => Lib.compareBytes x y < 0 := sorted_onceL cmpB_good _
/-! ### What the laws look at -/
theorem same_run {α R : Type} {step : Nat → Option (Nat ⊕ R)} {y : R} (n : Nat) (hs : ∀ k, k < n → step k = some (.inl (k + 1))) (hd : step n = some (.inr y)) : iter step 0 = some y := iter_seq0 (fun k => k) n hs hd
theorem texts_refl (l : List (List UInt8)) : whittleref03_Texts l l = some true := by
  unfold whittleref03_Texts
  rw [decide_eq_false (by simp), iteO_false]
  refine same_run (α := Unit) l.length (fun k hk => ?_) ?_
  · simp only [whittleref03_Texts_b1, lt_dec hk, iteO_true, grd_mk hk, ne_eq, not_true_eq_false, decide_false, iteO_false]; rfl
  · simp only [whittleref03_Texts_b1, Int.lt_irrefl, decide_false, iteO_false]; rfl
/-! ### What goes in -/
end Go.Proofs.YtjhbngjhdmapmaaGreatDoor
end

/- RelP -/
section
/- What a transducer relates a text to, told by ways. Plain lemmas, no condition. -/
set_option linter.unusedVariables false
set_option linter.unusedSimpArgs false
namespace Go.Proofs.YtjhbngjhdmapmaaGreatDoor
open Go Go.E
set_option maxRecDepth 100000

/-- What comes out of an arc by a byte. -/
def em (a : Arc) (b : UInt8) : List UInt8 := if a.copy then a.out ++ [b] else a.out
theorem outOf_em (p : FPair) (a : Arc) (b : UInt8) : outOf p a b = p.out ++ em a b := by
  unfold outOf em; split <;> simp
/-- A way by a text, from a state to a state, with what comes out. -/
inductive Wy (t : Fst) : Int → List UInt8 → List UInt8 → Int → Prop
  | nil (s : Int) : Wy t s [] [] s
  | cons {w o : List UInt8} {q : Int} (a : Arc) (b : UInt8) : a ∈ t.arcs → a.set.has b.toNat = true → Wy t a.to w o q → Wy t a.frm (b :: w) (em a b ++ o) q
theorem Wy.nil_inv {t : Fst} {s q : Int} {o : List UInt8} (h : Wy t s [] o q) : o = [] ∧ q = s := by
  cases h; exact ⟨rfl, rfl⟩
theorem Wy.cons_inv {t : Fst} {s q : Int} {b : UInt8} {w o : List UInt8} (h : Wy t s (b :: w) o q) : ∃ a ∈ t.arcs, a.frm = s ∧ a.set.has b.toNat = true ∧ ∃ o', Wy t a.to w o' q ∧ o = em a b ++ o' := by
  cases h with
  | cons a b ha hb hw => exact ⟨a, ha, rfl, hb, _, hw, rfl⟩
theorem Wy.append {t : Fst} {s m q : Int} {u v o p : List UInt8} (h : Wy t s u o m) (k : Wy t m v p q) : Wy t s (u ++ v) (o ++ p) q := by
  induction h with
  | nil s => exact k
  | cons a b ha hb _ ih => rw [List.append_assoc]; exact .cons a b ha hb (ih k)
theorem Wy.split {t : Fst} : ∀ {u v o : List UInt8} {s q : Int}, Wy t s (u ++ v) o q → ∃ m o1 o2, Wy t s u o1 m ∧ Wy t m v o2 q ∧ o = o1 ++ o2
  | [], v, o, s, q, h => ⟨s, [], o, .nil s, h, rfl⟩
  | b :: u, v, o, s, q, h => by
    obtain ⟨a, ha, rfl, hb, o', hw, rfl⟩ := Wy.cons_inv h
    obtain ⟨m, o1, o2, h1, h2, rfl⟩ := Wy.split hw
    exact ⟨m, em a b ++ o1, o2, .cons a b ha hb h1, h2, by rw [List.append_assoc]⟩
theorem Wy.one {t : Fst} {a : Arc} {b : UInt8} (ha : a ∈ t.arcs) (hb : a.set.has b.toNat = true) : Wy t a.frm [b] (em a b) a.to := by
  have := Wy.cons a b ha hb (.nil a.to)
  rwa [List.append_nil] at this
theorem mem_pairs {t : Fst} (w : List UInt8) : ∀ q, q ∈ pairsL t w ↔ ∃ x ∈ t.starts, ∃ o, Wy t x.state w o q.state ∧ q.out = x.out ++ o := by
  induction w using rev_ind with
  | h0 =>
    intro q
    show q ∈ t.starts.map tp ↔ _
    rw [List.mem_map]
    constructor
    · rintro ⟨x, hx, rfl⟩; exact ⟨x, hx, [], .nil _, by simp [tp]⟩
    · rintro ⟨x, hx, o, hw, ho⟩
      obtain ⟨rfl, e⟩ := hw.nil_inv
      refine ⟨x, hx, ?_⟩
      obtain ⟨s, z⟩ := q
      rw [List.append_nil] at ho
      dsimp only at e ho
      subst e ho; rfl
  | h1 w b ih =>
    intro q
    rw [pairsL_snoc, mem_aftP]
    constructor
    · rintro ⟨p, hp, a, ha, h1, h2, rfl⟩
      obtain ⟨x, hx, o, hw, ho⟩ := (ih p).1 hp
      refine ⟨x, hx, o ++ em a b, ?_, ?_⟩
      · rw [← h1] at hw
        exact hw.append (Wy.one ha h2)
      · show outOf p a b = _
        rw [outOf_em, ho, List.append_assoc]
    · rintro ⟨x, hx, o, hw, ho⟩
      obtain ⟨m, o1, o2, h1, h2, rfl⟩ := hw.split
      obtain ⟨a, ha, e, hb, o', h3, rfl⟩ := h2.cons_inv
      obtain ⟨rfl, e2⟩ := h3.nil_inv
      refine ⟨⟨m, x.out ++ o1⟩, (ih _).2 ⟨x, hx, o1, h1, rfl⟩, a, ha, e, hb, ?_⟩
      obtain ⟨s, z⟩ := q
      dsimp only at e2 ho
      rw [outOf_em, e2, ho, List.append_nil]
      simp
/-- Relates it a text to another one? -/
def Rel (t : Fst) (w o : List UInt8) : Prop := ∃ x ∈ t.starts, ∃ e ∈ t.ends, ∃ m, Wy t x.state w m e.state ∧ o = x.out ++ (m ++ e.out)
theorem mem_outs_rel {t : Fst} {w o : List UInt8} : o ∈ outsL t w ↔ Rel t w o := by
  rw [mem_outsL]
  constructor
  · rintro ⟨p, hp, e, he, h1, rfl⟩
    obtain ⟨x, hx, m, hw, ho⟩ := (mem_pairs w p).1 hp
    exact ⟨x, hx, e, he, m, by rw [h1]; exact hw, by rw [ho, List.append_assoc]⟩
  · rintro ⟨x, hx, e, he, m, hw, rfl⟩
    exact ⟨⟨e.state, x.out ++ m⟩, (mem_pairs w _).2 ⟨x, hx, m, hw, rfl⟩, e, he, rfl, by rw [List.append_assoc]⟩
theorem outs_rel {s t : Fst} {w v : List UInt8} (h : ∀ o, Rel s w o ↔ Rel t v o) : outsL s w = outsL t v :=
  rising_eq cmpB_good (outsL_rise s w) (outsL_rise t v) fun o => by rw [mem_outs_rel, mem_outs_rel]; exact h o
theorem outs_once {t : Fst} {w : List UInt8} {l : List (List UInt8)} (h : ∀ o, o ∈ l ↔ Rel t w o) : onceL [] Lib.compareBytes l = outsL t w :=
  rising_eq cmpB_good (sorted_onceL cmpB_good _) (outsL_rise t w) fun o => by rw [mem_onceL, mem_outs_rel]; exact h o
theorem Wy.len {t : Fst} {n : Nat} (h : ∀ a ∈ t.arcs, a.out.length ≤ n) {s q : Int} {w o : List UInt8} (k : Wy t s w o q) : o.length ≤ w.length * (n + 1) := by
  induction k with
  | nil => exact Nat.zero_le _
  | cons a b ha hb _ ih =>
    have := h a ha
    have he : (em a b).length ≤ n + 1 := by
      unfold em; split
      · rw [List.length_append, List.length_singleton]; omega
      · omega
    rw [List.length_append, List.length_cons, Nat.add_mul]; omega
theorem Rel.len {t : Fst} (ht : FstOk t) {w o : List UInt8} (h : Rel t w o) : o.length ≤ 2048 + w.length * 1025 := by
  obtain ⟨x, hx, e, he, m, hw, rfl⟩ := h
  have h1 := (ht.starts x hx).2
  have h2 := (ht.ends e he).2
  have h3 := hw.len (n := 1024) (fun a ha => (ht.arcs a ha).2.2.2)
  rw [List.length_append, List.length_append]; omega

/-! ### States numbered anew -/
theorem Wy.map {t T : Fst} (f : Int → Int) (h : ∀ a ∈ t.arcs, (⟨f a.frm, f a.to, a.set, a.out, a.copy⟩ : Arc) ∈ T.arcs) {s q : Int} {w o : List UInt8} (k : Wy t s w o q) : Wy T (f s) w o (f q) := by
  induction k with
  | nil s => exact .nil _
  | cons a b ha hb _ ih => exact Wy.cons (⟨f a.frm, f a.to, a.set, a.out, a.copy⟩ : Arc) b (h a ha) hb ih
/-- Where from the states of a part arcs lead into that part alone, ways from there are the part's. -/
theorem Wy.unmap {t T : Fst} (P : Int → Prop) (g : Int → Int) (h : ∀ a ∈ T.arcs, P a.frm → P a.to ∧ (⟨g a.frm, g a.to, a.set, a.out, a.copy⟩ : Arc) ∈ t.arcs) {s q : Int} {w o : List UInt8} (k : Wy T s w o q) (hs : P s) : P q ∧ Wy t (g s) w o (g q) := by
  induction k with
  | nil s => exact ⟨hs, .nil _⟩
  | cons a b ha hb _ ih =>
    obtain ⟨h1, h2⟩ := h a ha hs
    obtain ⟨h3, h4⟩ := ih h1
    exact ⟨h3, Wy.cons (⟨g a.frm, g a.to, a.set, a.out, a.copy⟩ : Arc) b h2 hb h4⟩
end Go.Proofs.YtjhbngjhdmapmaaGreatDoor
end

/- RelK -/
section
/- What two transducers relate, put together. Plain lemmas, no condition. -/
set_option linter.unusedVariables false
set_option linter.unusedSimpArgs false
namespace Go.Proofs.YtjhbngjhdmapmaaGreatDoor
open Go Go.E
set_option maxRecDepth 100000

def shT (n : Int) (l : List Tip) : List Tip := l.map fun x => ⟨x.state + n, x.out⟩
def shA (n : Int) (l : List Arc) : List Arc := l.map fun x => ⟨x.frm + n, x.to + n, x.set, x.out, x.copy⟩
def brA (s : Int) (p q : List UInt8) (l : List Arc) (up : Int) : List Arc := l.map fun x => ⟨s, x.to + up, x.set, (p ++ q) ++ x.out, x.copy⟩
def lvA (b : Fst) (s : Int) : List Arc := b.arcs.filter fun x => decide (x.frm = s)
def fAlt (a b : Fst) : Fst := ⟨a.states + b.states, a.starts ++ shT a.states b.starts, a.ends ++ shT a.states b.ends, a.arcs ++ shA a.states b.arcs⟩
def fCatE (a b : Fst) : List Tip := a.ends.flatMap fun p => b.starts.flatMap fun q => (b.ends.filter fun z => decide (z.state = q.state)).map fun z => ⟨p.state, (p.out ++ q.out) ++ z.out⟩
def fCatA (a b : Fst) : List Arc := a.ends.flatMap fun p => b.starts.flatMap fun q => brA p.state p.out q.out (lvA b q.state) a.states
def fCat (a b : Fst) : Fst := ⟨a.states + b.states, a.starts, shT a.states b.ends ++ fCatE a b, (a.arcs ++ shA a.states b.arcs) ++ fCatA a b⟩
def staA (a : Fst) : List Arc := a.starts.flatMap fun q => brA a.states [] q.out (lvA a q.state) 0
def staB (a : Fst) : List Arc := a.ends.flatMap fun p => a.starts.flatMap fun q => brA p.state p.out q.out (lvA a q.state) 0
def fStar (a : Fst) : Fst := ⟨a.states + 1, [⟨a.states, []⟩], ⟨a.states, []⟩ :: a.ends, (a.arcs ++ staA a) ++ staB a⟩
theorem mem_shT {n : Int} {l : List Tip} {y : Tip} : y ∈ shT n l ↔ ∃ x ∈ l, y = ⟨x.state + n, x.out⟩ := by
  unfold shT; rw [List.mem_map]
  exact ⟨fun ⟨x, h, e⟩ => ⟨x, h, e.symm⟩, fun ⟨x, h, e⟩ => ⟨x, h, e.symm⟩⟩
theorem mem_shA {n : Int} {l : List Arc} {y : Arc} : y ∈ shA n l ↔ ∃ x ∈ l, y = ⟨x.frm + n, x.to + n, x.set, x.out, x.copy⟩ := by
  unfold shA; rw [List.mem_map]
  exact ⟨fun ⟨x, h, e⟩ => ⟨x, h, e.symm⟩, fun ⟨x, h, e⟩ => ⟨x, h, e.symm⟩⟩
theorem mem_brA {s : Int} {p q : List UInt8} {b : Fst} {z : Int} {up : Int} {y : Arc} : y ∈ brA s p q (lvA b z) up ↔ ∃ x ∈ b.arcs, x.frm = z ∧ y = ⟨s, x.to + up, x.set, (p ++ q) ++ x.out, x.copy⟩ := by
  unfold brA lvA
  rw [List.mem_map]
  constructor
  · rintro ⟨x, hx, rfl⟩
    have := List.mem_filter.1 hx
    exact ⟨x, this.1, of_decide_eq_true this.2, rfl⟩
  · rintro ⟨x, hx, h, rfl⟩; exact ⟨x, List.mem_filter.2 ⟨hx, decide_eq_true h⟩, rfl⟩
theorem mem_catE {a b : Fst} {y : Tip} : y ∈ fCatE a b ↔ ∃ p ∈ a.ends, ∃ q ∈ b.starts, ∃ z ∈ b.ends, z.state = q.state ∧ y = ⟨p.state, (p.out ++ q.out) ++ z.out⟩ := by
  unfold fCatE
  simp only [List.mem_flatMap, List.mem_map, List.mem_filter, decide_eq_true_eq]
  constructor
  · rintro ⟨p, hp, q, hq, z, ⟨hz, h⟩, rfl⟩; exact ⟨p, hp, q, hq, z, hz, h, rfl⟩
  · rintro ⟨p, hp, q, hq, z, hz, h, rfl⟩; exact ⟨p, hp, q, hq, z, ⟨hz, h⟩, rfl⟩
theorem mem_catA {a b : Fst} {y : Arc} : y ∈ fCatA a b ↔ ∃ p ∈ a.ends, ∃ q ∈ b.starts, ∃ x ∈ b.arcs, x.frm = q.state ∧ y = ⟨p.state, x.to + a.states, x.set, (p.out ++ q.out) ++ x.out, x.copy⟩ := by
  unfold fCatA
  simp only [List.mem_flatMap, mem_brA]
theorem mem_staA {a : Fst} {y : Arc} : y ∈ staA a ↔ ∃ q ∈ a.starts, ∃ x ∈ a.arcs, x.frm = q.state ∧ y = ⟨a.states, x.to + 0, x.set, ([] ++ q.out) ++ x.out, x.copy⟩ := by
  unfold staA
  simp only [List.mem_flatMap, mem_brA]
theorem mem_staB {a : Fst} {y : Arc} : y ∈ staB a ↔ ∃ p ∈ a.ends, ∃ q ∈ a.starts, ∃ x ∈ a.arcs, x.frm = q.state ∧ y = ⟨p.state, x.to + 0, x.set, (p.out ++ q.out) ++ x.out, x.copy⟩ := by
  unfold staB
  simp only [List.mem_flatMap, mem_brA]
theorem em_front (f z : Int) (s : BSet) (p o : List UInt8) (c : Bool) (b : UInt8) (f' z' : Int) : em ⟨f, z, s, p ++ o, c⟩ b = p ++ em ⟨f', z', s, o, c⟩ b := by
  unfold em; cases c <;> simp

/-! ### One or the other -/
theorem alt_left {a b : Fst} (ha : FstOk a) (hb : FstOk b) : ∀ x ∈ (fAlt a b).arcs, x.frm < a.states → x.to < a.states ∧ (⟨id x.frm, id x.to, x.set, x.out, x.copy⟩ : Arc) ∈ a.arcs := fun x hx h => by
  rcases List.mem_append.1 hx with hx | hx
  · exact ⟨(ha.arcs x hx).2.1.2, hx⟩
  · obtain ⟨y, hy, rfl⟩ := mem_shA.1 hx
    have := (hb.arcs y hy).1.1
    dsimp only at h; omega
theorem alt_right {a b : Fst} (ha : FstOk a) (hb : FstOk b) : ∀ x ∈ (fAlt a b).arcs, a.states ≤ x.frm → a.states ≤ x.to ∧ (⟨x.frm - a.states, x.to - a.states, x.set, x.out, x.copy⟩ : Arc) ∈ b.arcs := fun x hx h => by
  rcases List.mem_append.1 hx with hx | hx
  · have := (ha.arcs x hx).1.2; omega
  · obtain ⟨y, hy, rfl⟩ := mem_shA.1 hx
    have := (hb.arcs y hy).2.1.1
    dsimp only
    refine ⟨by omega, ?_⟩
    rw [show y.frm + a.states - a.states = y.frm by omega, show y.to + a.states - a.states = y.to by omega]; exact hy
theorem rel_alt {a b : Fst} (ha : FstOk a) (hb : FstOk b) {w o : List UInt8} : Rel (fAlt a b) w o ↔ Rel a w o ∨ Rel b w o := by
  constructor
  · rintro ⟨x, hx, e, he, m, hw, rfl⟩
    rcases List.mem_append.1 hx with hx | hx
    · obtain ⟨h1, h2⟩ := Wy.unmap (fun s => s < a.states) id (alt_left ha hb) hw (ha.starts x hx).1.2
      rcases List.mem_append.1 he with he | he
      · exact .inl ⟨x, hx, e, he, m, h2, rfl⟩
      · obtain ⟨y, hy, rfl⟩ := mem_shT.1 he
        have := (hb.ends y hy).1.1
        dsimp only at h1; omega
    · obtain ⟨x', hx', rfl⟩ := mem_shT.1 hx
      obtain ⟨h1, h2⟩ := Wy.unmap (fun s => a.states ≤ s) (fun s => s - a.states) (alt_right ha hb) hw (by have := (hb.starts x' hx').1.1; dsimp only; omega)
      dsimp only at h2
      rw [show x'.state + a.states - a.states = x'.state by omega] at h2
      rcases List.mem_append.1 he with he | he
      · have := (ha.ends e he).1.2; omega
      · obtain ⟨y, hy, rfl⟩ := mem_shT.1 he
        dsimp only at h2
        rw [show y.state + a.states - a.states = y.state by omega] at h2
        exact .inr ⟨x', hx', y, hy, m, h2, rfl⟩
  · rintro (⟨x, hx, e, he, m, hw, rfl⟩ | ⟨x, hx, e, he, m, hw, rfl⟩)
    · exact ⟨x, List.mem_append_left _ hx, e, List.mem_append_left _ he, m, hw.map id (fun y hy => List.mem_append_left _ hy), rfl⟩
    · exact ⟨_, List.mem_append_right _ (mem_shT.2 ⟨x, hx, rfl⟩), _, List.mem_append_right _ (mem_shT.2 ⟨e, he, rfl⟩), m, hw.map (fun s => s + a.states) (fun y hy => List.mem_append_right _ (mem_shA.2 ⟨y, hy, rfl⟩)), rfl⟩
/-- Which of both stands first plays no part in how many pairs there are. -/
def swp (n k : Int) (p : FPair) : FPair := ⟨if p.state < n then p.state + k else p.state - n, p.out⟩
theorem alt_pairs {a b : Fst} (ha : FstOk a) (hb : FstOk b) (w : List UInt8) (q : FPair) : q ∈ pairsL (fAlt a b) w ↔ q ∈ pairsL a w ∨ ∃ p ∈ pairsL b w, q = ⟨p.state + a.states, p.out⟩ := by
  rw [mem_pairs]
  constructor
  · rintro ⟨x, hx, o, hw, ho⟩
    rcases List.mem_append.1 hx with hx | hx
    · obtain ⟨h1, h2⟩ := Wy.unmap (fun s => s < a.states) id (alt_left ha hb) hw (ha.starts x hx).1.2
      exact .inl ((mem_pairs w q).2 ⟨x, hx, o, h2, ho⟩)
    · obtain ⟨x', hx', rfl⟩ := mem_shT.1 hx
      obtain ⟨h1, h2⟩ := Wy.unmap (fun s => a.states ≤ s) (fun s => s - a.states) (alt_right ha hb) hw (by have := (hb.starts x' hx').1.1; dsimp only; omega)
      dsimp only at h2
      rw [show x'.state + a.states - a.states = x'.state by omega] at h2
      refine .inr ⟨⟨q.state - a.states, q.out⟩, (mem_pairs w _).2 ⟨x', hx', o, h2, ho⟩, ?_⟩
      obtain ⟨s, z⟩ := q
      dsimp only
      rw [show s - a.states + a.states = s by omega]
  · rintro (h | ⟨p, h, rfl⟩)
    · obtain ⟨x, hx, o, hw, ho⟩ := (mem_pairs w q).1 h
      exact ⟨x, List.mem_append_left _ hx, o, hw.map id (fun y hy => List.mem_append_left _ hy), ho⟩
    · obtain ⟨x, hx, o, hw, ho⟩ := (mem_pairs w p).1 h
      exact ⟨_, List.mem_append_right _ (mem_shT.2 ⟨x, hx, rfl⟩), o, hw.map (fun s => s + a.states) (fun y hy => List.mem_append_right _ (mem_shA.2 ⟨y, hy, rfl⟩)), ho⟩
theorem card_map {K : Type} [DecidableEq K] {S T : List K} (f : K → K) (hf : ∀ x ∈ S, ∀ y ∈ S, f x = f y → x = y) (h : ∀ x ∈ S, f x ∈ T) : card S ≤ card T := by
  obtain ⟨l, h1, h2, h3⟩ := FM.ofL_len S
  obtain ⟨m, h4, h5, h6⟩ := FM.ofL_len T
  rw [← h3, ← h6]
  have := len_of_sub (l := l.map f) (m := m) (by
    rw [List.nodup_iff_pairwise_ne, List.pairwise_map]
    exact (List.nodup_iff_pairwise_ne.1 h1).imp_of_mem fun {x y} hx hy hne e => hne (hf x ((h2 x).1 hx) y ((h2 y).1 hy) e)) (fun x hx => by
    obtain ⟨y, hy, rfl⟩ := List.mem_map.1 hx
    exact (h5 _).2 (h y ((h2 y).1 hy)))
  rwa [List.length_map] at this
theorem alt_card {a b : Fst} (ha : FstOk a) (hb : FstOk b) (w : List UInt8) : card (pairsL (fAlt a b) w) ≤ card (pairsL (fAlt b a) w) := by
  refine card_map (swp a.states b.states) (fun x hx y hy e => ?_) (fun x hx => ?_)
  · have key : ∀ z ∈ pairsL (fAlt a b) w, 0 ≤ z.state ∧ z.state < a.states + b.states := fun z hz => by
      rcases (alt_pairs ha hb w z).1 hz with h | ⟨p, h, rfl⟩
      · have := (pairs_ok ha w z h).1; have := hb.st0; omega
      · have := (pairs_ok hb w p h).1; have := ha.st0; dsimp only; omega
    have k1 := key x hx
    have k2 := key y hy
    obtain ⟨s, o⟩ := x
    obtain ⟨s', o'⟩ := y
    unfold swp at e
    dsimp only at e k1 k2
    rw [FPair.mk.injEq] at e
    obtain ⟨e1, rfl⟩ := e
    have : s = s' := by
      split at e1 <;> split at e1 <;> omega
    rw [this]
  · rw [alt_pairs hb ha]
    rcases (alt_pairs ha hb w x).1 hx with h | ⟨p, h, rfl⟩
    · have := (pairs_ok ha w x h).1
      refine .inr ⟨x, h, ?_⟩
      unfold swp; rw [if_pos this.2]
    · have := (pairs_ok hb w p h).1
      refine .inl ?_
      unfold swp
      rw [if_neg (by dsimp only; omega)]
      dsimp only
      rw [show p.state + a.states - a.states = p.state by omega]; exact h
theorem alt_fits {a b : Fst} (ha : FstOk a) (hb : FstOk b) (w : List UInt8) : fitsB (fAlt a b) w = fitsB (fAlt b a) w := by
  have e : ∀ v, card (pairsL (fAlt a b) v) = card (pairsL (fAlt b a) v) := fun v => Nat.le_antisymm (alt_card ha hb v) (alt_card hb ha v)
  unfold fitsB
  simp only [e]

/-! ### One behind the other -/
theorem cat_right {a b : Fst} (ha : FstOk a) (hb : FstOk b) : ∀ x ∈ (fCat a b).arcs, a.states ≤ x.frm → a.states ≤ x.to ∧ (⟨x.frm - a.states, x.to - a.states, x.set, x.out, x.copy⟩ : Arc) ∈ b.arcs := fun x hx h => by
  rcases List.mem_append.1 hx with hx | hx
  · exact alt_right ha hb x hx h
  · obtain ⟨p, hp, q, hq, y, hy, -, rfl⟩ := mem_catA.1 hx
    have := (ha.ends p hp).1.2
    dsimp only at h; omega
theorem cat_way {a b : Fst} (ha : FstOk a) (hb : FstOk b) {s q : Int} {w m : List UInt8} (k : Wy (fCat a b) s w m q) : s < a.states →
    (q < a.states ∧ Wy a s w m q) ∨ (a.states ≤ q ∧ ∃ u v m1 m2, ∃ p ∈ a.ends, ∃ x ∈ b.starts, w = u ++ v ∧ Wy a s u m1 p.state ∧ Wy b x.state v m2 (q - a.states) ∧ m = m1 ++ (p.out ++ (x.out ++ m2))) := by
  induction k with
  | nil s => exact fun h => .inl ⟨h, .nil s⟩
  | @cons w o q x c hx hc hw ih =>
    intro h
    rcases List.mem_append.1 hx with hx | hx
    · rcases List.mem_append.1 hx with hx | hx
      · rcases ih (ha.arcs x hx).2.1.2 with ⟨h1, h2⟩ | ⟨h1, u, v, m1, m2, p, hp, y, hy, rfl, h3, h4, rfl⟩
        · exact .inl ⟨h1, .cons x c hx hc h2⟩
        · exact .inr ⟨h1, c :: u, v, em x c ++ m1, m2, p, hp, y, hy, rfl, .cons x c hx hc h3, h4, by rw [List.append_assoc]⟩
      · obtain ⟨y, hy, rfl⟩ := mem_shA.1 hx
        have := (hb.arcs y hy).1.1
        dsimp only at h; omega
    · obtain ⟨p, hp, y, hy, z, hz, e, rfl⟩ := mem_catA.1 hx
      dsimp only at hc hw h
      have hr := (hb.arcs z hz).2.1
      obtain ⟨h1, h2⟩ := Wy.unmap (fun s => a.states ≤ s) (fun s => s - a.states) (cat_right ha hb) hw (by omega)
      rw [show z.to + a.states - a.states = z.to by omega] at h2
      refine .inr ⟨h1, [], c :: w, [], em z c ++ o, p, hp, y, hy, rfl, .nil _, ?_, ?_⟩
      · rw [← e]; exact .cons z c hz hc h2
      · rw [em_front _ _ _ _ _ _ _ z.frm z.to]; simp
theorem rel_cat {a b : Fst} (ha : FstOk a) (hb : FstOk b) {w o : List UInt8} : Rel (fCat a b) w o ↔ ∃ u v o1 o2, w = u ++ v ∧ Rel a u o1 ∧ Rel b v o2 ∧ o = o1 ++ o2 := by
  constructor
  · rintro ⟨x, hx, e, he, m, hw, rfl⟩
    rcases cat_way ha hb hw (ha.starts x hx).1.2 with ⟨h1, h2⟩ | ⟨h1, u, v, m1, m2, p, hp, y, hy, rfl, h3, h4, rfl⟩
    · rcases List.mem_append.1 he with he | he
      · obtain ⟨z, hz, rfl⟩ := mem_shT.1 he
        have := (hb.ends z hz).1.1
        dsimp only at h1; omega
      · obtain ⟨p, hp, y, hy, z, hz, e1, rfl⟩ := mem_catE.1 he
        refine ⟨w, [], x.out ++ (m ++ p.out), y.out ++ ([] ++ z.out), by simp, ⟨x, hx, p, hp, m, h2, rfl⟩, ⟨y, hy, z, hz, [], ?_, rfl⟩, by simp⟩
        rw [e1]; exact .nil _
    · rcases List.mem_append.1 he with he | he
      · obtain ⟨z, hz, rfl⟩ := mem_shT.1 he
        dsimp only at h4
        rw [show z.state + a.states - a.states = z.state by omega] at h4
        exact ⟨u, v, x.out ++ (m1 ++ p.out), y.out ++ (m2 ++ z.out), rfl, ⟨x, hx, p, hp, m1, h3, rfl⟩, ⟨y, hy, z, hz, m2, h4, rfl⟩, by simp⟩
      · obtain ⟨p, hp, y, hy, z, hz, e1, rfl⟩ := mem_catE.1 he
        have := (ha.ends p hp).1.2
        dsimp only at h1; omega
  · rintro ⟨u, v, o1, o2, rfl, ⟨x, hx, p, hp, m, h1, rfl⟩, ⟨y, hy, z, hz, m2, h2, rfl⟩, rfl⟩
    have k1 : Wy (fCat a b) x.state u m p.state := h1.map id (fun c hc => List.mem_append_left _ (List.mem_append_left _ hc))
    cases v with
    | nil =>
      obtain ⟨rfl, e⟩ := h2.nil_inv
      refine ⟨x, hx, ⟨p.state, (p.out ++ y.out) ++ z.out⟩, List.mem_append_right _ (mem_catE.2 ⟨p, hp, y, hy, z, hz, e, rfl⟩), m, ?_, ?_⟩
      · rw [List.append_nil]; exact k1
      · simp
    | cons c v =>
      obtain ⟨d, hd, e, hc, m', h3, rfl⟩ := h2.cons_inv
      have k2 : Wy (fCat a b) (d.to + a.states) v m' (z.state + a.states) := h3.map (fun s => s + a.states) (fun q hq => List.mem_append_left _ (List.mem_append_right _ (mem_shA.2 ⟨q, hq, rfl⟩)))
      have k3 : Wy (fCat a b) p.state (c :: v) ((p.out ++ y.out) ++ em d c ++ m') (z.state + a.states) := by
        have := Wy.cons (t := fCat a b) (⟨p.state, d.to + a.states, d.set, (p.out ++ y.out) ++ d.out, d.copy⟩ : Arc) c (List.mem_append_right _ (mem_catA.2 ⟨p, hp, y, hy, d, hd, e, rfl⟩)) hc k2
        rwa [em_front _ _ _ _ _ _ _ d.frm d.to] at this
      exact ⟨x, hx, _, List.mem_append_left _ (mem_shT.2 ⟨z, hz, rfl⟩), _, k1.append k3, by simp⟩

/-! ### Again and again -/
theorem star_first {a : Fst} (ha : FstOk a) {x : Arc} (hx : x ∈ (fStar a).arcs) (h : x.frm = a.states) : ∃ q ∈ a.starts, ∃ y ∈ a.arcs, y.frm = q.state ∧ x = ⟨a.states, y.to, y.set, q.out ++ y.out, y.copy⟩ := by
  rcases List.mem_append.1 hx with hx | hx
  · rcases List.mem_append.1 hx with hx | hx
    · have := (ha.arcs x hx).1.2; omega
    · obtain ⟨q, hq, y, hy, e, rfl⟩ := mem_staA.1 hx
      exact ⟨q, hq, y, hy, e, by rw [Int.add_zero]; rfl⟩
  · obtain ⟨p, hp, q, hq, y, hy, e, rfl⟩ := mem_staB.1 hx
    have := (ha.ends p hp).1.2
    dsimp only at h; omega
theorem staA_in {a : Fst} {q : Tip} {y : Arc} (hq : q ∈ a.starts) (hy : y ∈ a.arcs) (e : y.frm = q.state) : (⟨a.states, y.to, y.set, q.out ++ y.out, y.copy⟩ : Arc) ∈ (fStar a).arcs := by
  refine List.mem_append_left _ (List.mem_append_right _ (mem_staA.2 ⟨q, hq, y, hy, e, ?_⟩))
  rw [Int.add_zero]; rfl
theorem staB_in {a : Fst} {p q : Tip} {y : Arc} (hp : p ∈ a.ends) (hq : q ∈ a.starts) (hy : y ∈ a.arcs) (e : y.frm = q.state) : (⟨p.state, y.to, y.set, (p.out ++ q.out) ++ y.out, y.copy⟩ : Arc) ∈ (fStar a).arcs := by
  refine List.mem_append_right _ (mem_staB.2 ⟨p, hp, q, hq, y, hy, e, ?_⟩)
  rw [Int.add_zero]
theorem star_way {a : Fst} (ha : FstOk a) {s q : Int} {w m : List UInt8} (k : Wy (fStar a) s w m q) : s < a.states →
    q < a.states ∧ (Wy a s w m q ∨ ∃ u v m1 m2, ∃ p ∈ a.ends, w = u ++ v ∧ v ≠ [] ∧ Wy a s u m1 p.state ∧ Wy (fStar a) a.states v m2 q ∧ m = m1 ++ (p.out ++ m2)) := by
  induction k with
  | nil s => exact fun h => ⟨h, .inl (.nil s)⟩
  | @cons w o q x c hx hc hw ih =>
    intro h
    rcases List.mem_append.1 hx with hx | hx
    · rcases List.mem_append.1 hx with hx | hx
      · obtain ⟨h1, h2⟩ := ih (ha.arcs x hx).2.1.2
        refine ⟨h1, ?_⟩
        rcases h2 with h2 | ⟨u, v, m1, m2, p, hp, rfl, hv, h3, h4, rfl⟩
        · exact .inl (.cons x c hx hc h2)
        · exact .inr ⟨c :: u, v, em x c ++ m1, m2, p, hp, rfl, hv, .cons x c hx hc h3, h4, by rw [List.append_assoc]⟩
      · obtain ⟨y, hy, z, hz, e, rfl⟩ := mem_staA.1 hx
        dsimp only at h; omega
    · obtain ⟨p, hp, y, hy, z, hz, e, rfl⟩ := mem_staB.1 hx
      dsimp only at hc hw h ih
      rw [Int.add_zero] at hw ih
      obtain ⟨h1, -⟩ := ih (ha.arcs z hz).2.1.2
      have k := Wy.cons (t := fStar a) _ c (staA_in hy hz e) hc hw
      rw [em_front _ _ _ _ _ _ _ z.frm z.to] at k
      refine ⟨h1, .inr ⟨[], c :: w, [], _, p, hp, rfl, by simp, .nil _, k, ?_⟩⟩
      rw [em_front _ _ _ _ _ _ _ z.frm z.to]; simp
theorem rel_star0 {a : Fst} (ha : FstOk a) {o : List UInt8} : Rel (fStar a) [] o ↔ o = [] := by
  constructor
  · rintro ⟨x, hx, e, he, m, hw, rfl⟩
    obtain rfl := List.mem_singleton.1 hx
    obtain ⟨rfl, h⟩ := hw.nil_inv
    dsimp only at h
    rcases List.mem_cons.1 he with rfl | he
    · rfl
    · have := (ha.ends e he).1.2; omega
  · rintro rfl
    exact ⟨⟨a.states, []⟩, List.mem_singleton.2 rfl, ⟨a.states, []⟩, List.mem_cons_self .., [], .nil _, rfl⟩
theorem rel_star {a : Fst} (ha : FstOk a) {w o : List UInt8} (hw0 : w ≠ []) : Rel (fStar a) w o ↔ ∃ u v o1 o2, u ≠ [] ∧ w = u ++ v ∧ Rel a u o1 ∧ Rel (fStar a) v o2 ∧ o = o1 ++ o2 := by
  constructor
  · rintro ⟨x, hx, e, he, m, hw, rfl⟩
    obtain rfl := List.mem_singleton.1 hx
    cases w with
    | nil => exact absurd rfl hw0
    | cons c w =>
      obtain ⟨d, hd, e1, hc, m', h3, rfl⟩ := hw.cons_inv
      obtain ⟨q, hq, y, hy, e2, rfl⟩ := star_first ha hd e1
      dsimp only at h3 hc
      obtain ⟨h4, h5⟩ := star_way ha h3 (ha.arcs y hy).2.1.2
      have he' : e ∈ a.ends := by
        rcases List.mem_cons.1 he with rfl | he
        · exact absurd h4 (Int.lt_irrefl _)
        · exact he
      rw [em_front _ _ _ _ _ _ _ y.frm y.to]
      rcases h5 with h5 | ⟨u, v, m1, m2, p, hp, rfl, hv, h5, h6, rfl⟩
      · refine ⟨c :: w, [], q.out ++ ((em y c ++ m') ++ e.out), [], by simp, by simp, ⟨q, hq, e, he', em y c ++ m', ?_, rfl⟩, (rel_star0 ha).2 rfl, by simp⟩
        rw [← e2]; exact .cons y c hy hc h5
      · refine ⟨c :: u, v, q.out ++ ((em y c ++ m1) ++ p.out), m2 ++ e.out, by simp, rfl, ⟨q, hq, p, hp, em y c ++ m1, ?_, rfl⟩, ⟨⟨a.states, []⟩, List.mem_singleton.2 rfl, e, he, m2, h6, rfl⟩, by simp⟩
        rw [← e2]; exact .cons y c hy hc h5
  · rintro ⟨u, v, o1, o2, hu, rfl, ⟨x, hx, p, hp, m, h1, rfl⟩, ⟨x2, hx2, e, he, m2, h2, rfl⟩, rfl⟩
    obtain rfl := List.mem_singleton.1 hx2
    cases u with
    | nil => exact absurd rfl hu
    | cons c u =>
      obtain ⟨d, hd, e1, hc, m', h3, rfl⟩ := h1.cons_inv
      have k1 : Wy (fStar a) d.to u m' p.state := h3.map id (fun y hy => List.mem_append_left _ (List.mem_append_left _ hy))
      have k2 := Wy.cons (t := fStar a) _ c (staA_in hx hd e1) hc k1
      rw [em_front _ _ _ _ _ _ _ d.frm d.to] at k2
      dsimp only at k2
      cases v with
      | nil =>
        obtain ⟨rfl, e2⟩ := h2.nil_inv
        dsimp only at e2
        obtain rfl : e = ⟨a.states, []⟩ := by
          rcases List.mem_cons.1 he with h | he
          · exact h
          · have := (ha.ends e he).1.2; omega
        have k3 : Wy (fStar a) a.states (c :: u ++ []) (x.out ++ em d c ++ m') p.state := by rw [List.append_nil]; exact k2
        exact ⟨⟨a.states, []⟩, List.mem_singleton.2 rfl, p, List.mem_cons_of_mem _ hp, _, k3, by simp⟩
      | cons c2 v =>
        obtain ⟨d2, hd2, e2, hc2, m3, h4, rfl⟩ := h2.cons_inv
        obtain ⟨q, hq, y, hy, e3, rfl⟩ := star_first ha hd2 e2
        dsimp only at h4 hc2
        have k3 := Wy.cons (t := fStar a) _ c2 (staB_in hp hq hy e3) hc2 h4
        rw [em_front _ _ _ _ _ _ _ y.frm y.to] at k3
        dsimp only at k3
        refine ⟨⟨a.states, []⟩, List.mem_singleton.2 rfl, e, he, _, k2.append k3, ?_⟩
        rw [em_front _ _ _ _ _ _ _ y.frm y.to]; simp
end Go.Proofs.YtjhbngjhdmapmaaGreatDoor
end

/- M3 -/
section
/- Decompiled: transducers put together. -/
set_option linter.unusedVariables false
set_option linter.unusedSimpArgs false
namespace Go.Proofs.YtjhbngjhdmapmaaGreatDoor
open Go Go.E Go.E.OpVal Go.E.OpOk Go.Proofs.Tryz
set_option maxRecDepth 100000
private theorem ag22 : Go.E.aggOf Tryz.prog 22 = some false := by kernel_rfl
private theorem ag23 : Go.E.aggOf Tryz.prog 23 = some false := by kernel_rfl
private theorem ag25 : Go.E.aggOf Tryz.prog 25 = some true := by kernel_rfl
private theorem ag27 : Go.E.aggOf Tryz.prog 27 = some false := by kernel_rfl
private theorem ag53 : Go.E.aggOf Tryz.prog 53 = some true := by kernel_rfl
private theorem ag66 : Go.E.aggOf Tryz.prog 66 = some true := by kernel_rfl
private theorem ag9 : Go.E.aggOf Tryz.prog 9 = some false := by kernel_rfl
private theorem by22 : Go.E.byOf Tryz.prog 22 = some 24 := by kernel_rfl
private theorem by23 : Go.E.byOf Tryz.prog 23 = some 24 := by kernel_rfl
private theorem by53 : Go.E.byOf Tryz.prog 53 = some 24 := by kernel_rfl
private theorem by66 : Go.E.byOf Tryz.prog 66 = some 72 := by kernel_rfl
private theorem fo25_0 : Go.E.foOf Tryz.prog 25 0 = some 0 := by kernel_rfl
private theorem fo25_1 : Go.E.foOf Tryz.prog 25 1 = some 1 := by kernel_rfl
private theorem fo25_2 : Go.E.foOf Tryz.prog 25 2 = some 2 := by kernel_rfl
private theorem fo25_3 : Go.E.foOf Tryz.prog 25 3 = some 3 := by kernel_rfl
private theorem fo53_0 : Go.E.foOf Tryz.prog 53 0 = some 0 := by kernel_rfl
private theorem fo53_1 : Go.E.foOf Tryz.prog 53 1 = some 1 := by kernel_rfl
private theorem fo66_0 : Go.E.foOf Tryz.prog 66 0 = some 0 := by kernel_rfl
private theorem fo66_1 : Go.E.foOf Tryz.prog 66 1 = some 1 := by kernel_rfl
private theorem fo66_2 : Go.E.foOf Tryz.prog 66 2 = some 2 := by kernel_rfl
private theorem fo66_3 : Go.E.foOf Tryz.prog 66 3 = some 6 := by kernel_rfl
private theorem fo66_4 : Go.E.foOf Tryz.prog 66 4 = some 7 := by kernel_rfl
private theorem fo96_0 : Go.E.foOf Tryz.prog 96 0 = some 0 := by kernel_rfl
private theorem fo96_1 : Go.E.foOf Tryz.prog 96 1 = some 4 := by kernel_rfl
private theorem pf31 : Go.E.plainF Tryz.prog 31 = true := by kernel_rfl
private theorem pf47 : Go.E.plainF Tryz.prog 47 = true := by kernel_rfl
private theorem pf48 : Go.E.plainF Tryz.prog 48 = true := by kernel_rfl
private theorem pf49 : Go.E.plainF Tryz.prog 49 = true := by kernel_rfl
private theorem pf50 : Go.E.plainF Tryz.prog 50 = true := by kernel_rfl
private theorem pf51 : Go.E.plainF Tryz.prog 51 = true := by kernel_rfl
private theorem pf52 : Go.E.plainF Tryz.prog 52 = true := by kernel_rfl
private theorem pf53 : Go.E.plainF Tryz.prog 53 = true := by kernel_rfl
private theorem pf54 : Go.E.plainF Tryz.prog 54 = true := by kernel_rfl
private theorem pf63 : Go.E.plainF Tryz.prog 63 = true := by kernel_rfl
private theorem pf64 : Go.E.plainF Tryz.prog 64 = true := by kernel_rfl
private theorem pf65 : Go.E.plainF Tryz.prog 65 = true := by kernel_rfl
private theorem pl25 : Go.E.plOf Tryz.prog 25 = some #[(0, 1), (1, 1), (2, 1), (3, 1)] := by kernel_rfl
private theorem pl53 : Go.E.plOf Tryz.prog 53 = some #[(0, 1), (1, 1)] := by kernel_rfl
private theorem pl66 : Go.E.plOf Tryz.prog 66 = some #[(0, 1), (1, 1), (2, 4), (6, 1), (7, 1)] := by kernel_rfl
private theorem pl96 : Go.E.plOf Tryz.prog 96 = some #[(0, 4), (4, 1)] := by kernel_rfl
private theorem sz22 : Go.E.szOf Tryz.prog 22 = some 1 := by kernel_rfl
private theorem sz23 : Go.E.szOf Tryz.prog 23 = some 1 := by kernel_rfl
private theorem sz25 : Go.E.szOf Tryz.prog 25 = some 4 := by kernel_rfl
private theorem sz27 : Go.E.szOf Tryz.prog 27 = some 1 := by kernel_rfl
private theorem sz53 : Go.E.szOf Tryz.prog 53 = some 2 := by kernel_rfl
private theorem sz66 : Go.E.szOf Tryz.prog 66 = some 8 := by kernel_rfl
private theorem ze22 : Go.E.zeroOf Tryz.prog 22 = some (.slice none 0 0) := by kernel_rfl
private theorem ze23 : Go.E.zeroOf Tryz.prog 23 = some (.slice none 0 0) := by kernel_rfl
private theorem ze25 : Go.E.zeroOf Tryz.prog 25 = some (.agg #[.int .i64 0, .slice none 0 0, .slice none 0 0, .slice none 0 0]) := by kernel_rfl
private theorem ze27 : Go.E.zeroOf Tryz.prog 27 = some (.int .i64 0) := by kernel_rfl
private theorem ze53 : Go.E.zeroOf Tryz.prog 53 = some (.agg #[.int .i64 0, .string ByteArray.empty]) := by kernel_rfl
private theorem ze66 : Go.E.zeroOf Tryz.prog 66 = some (.agg #[.int .i64 0, .int .i64 0, .int .u64 0, .int .u64 0, .int .u64 0, .int .u64 0, .string ByteArray.empty, .bool false]) := by kernel_rfl
private theorem ze96 : Go.E.zeroOf Tryz.prog 96 = some (.agg #[.int .i64 0, .slice none 0 0, .slice none 0 0, .slice none 0 0, .bool false]) := by kernel_rfl

noncomputable def rat_grow_starts_b1 (x1 : List Tip) (x2 : Int) (i138 : Int) (l140 : List Tip) (l144 : List Tip) (l148 : List Arc) (t151 : Bool) (k152 : Nat) : Option ((Int × (List Tip) × (List Tip) × (List Arc) × Bool × Nat) ⊕ (Grow)) :=
 iteO (decide (((k152 : Nat) : Int) < ((x1.length : Nat) : Int))) (bnd (rat_grow_start (⟨(⟨i138, l140, l144, l148⟩ : Fst), t151⟩ : Grow) (⟨IntKind.i64.wrap (((nth x1 k152 Tip.zero).state) + x2), (nth x1 k152 Tip.zero).out⟩ : Tip)) (fun v17 => nxt (v17.f.states, v17.f.starts, v17.f.ends, v17.f.arcs, v17.over, (k152 + 1)))) (fin (some (⟨(⟨i138, l140, l144, l148⟩ : Fst), t151⟩ : Grow)))
noncomputable def rat_grow_starts (x0 : Grow) (x1 : List Tip) (x2 : Int) : Option (Grow) :=
 iter (fun q : Int × (List Tip) × (List Tip) × (List Arc) × Bool × Nat => rat_grow_starts_b1 x1 x2 q.1 q.2.1 q.2.2.1 q.2.2.2.1 q.2.2.2.2.1 q.2.2.2.2.2) (x0.f.states, x0.f.starts, x0.f.ends, x0.f.arcs, x0.over, 0)
theorem rat_grow_starts_con {σ : Store} {x0 : Grow} {b0_0 : Nat} {Eb0 : Nat} {a0_1 : Option Addr} {c0_2 : Nat} {a0_3 : Option Addr} {c0_4 : Nat} {a0_5 : Option Addr} {c0_6 : Nat} {x1 : List Tip} {a1_0 : Option Addr} {c1_0 : Nat} {x2 : Int} (f1_0 : RS σ 2 encTip (.slice a1_0 x1.length c1_0) x1) {r : Grow} (hh : rat_grow_starts x0 x1 x2 = some r) :
  Con Tryz.prog 65 #[loc b0_0 0, .slice a1_0 x1.length c1_0, .int .i64 x2] σ [Res.cells b0_0 #[.int .i64 x0.f.states, .slice a0_1 x0.f.starts.length c0_2, .slice a0_3 x0.f.ends.length c0_4, .slice a0_5 x0.f.arcs.length c0_6, .bool x0.over] Eb0, Res.rowS 53 2 encTip (.slice a0_1 x0.f.starts.length c0_2) x0.f.starts, Res.rowS 53 2 encTip (.slice a0_3 x0.f.ends.length c0_4) x0.f.ends, Res.rowS 66 8 encArc (.slice a0_5 x0.f.arcs.length c0_6) x0.f.arcs] (fun v σ' H' => ∃ (ao1 : Option Addr), ∃ (co2 : Nat), ∃ (ao3 : Option Addr), ∃ (co4 : Nat), ∃ (ao5 : Option Addr), ∃ (co6 : Nat), v = .tuple #[] ∧ σ = σ' ∧ H' = [Res.cells b0_0 #[.int .i64 r.f.states, .slice ao1 r.f.starts.length co2, .slice ao3 r.f.ends.length co4, .slice ao5 r.f.arcs.length co6, .bool r.over] Eb0, Res.rowS 53 2 encTip (.slice ao1 r.f.starts.length co2) r.f.starts, Res.rowS 53 2 encTip (.slice ao3 r.f.ends.length co4) r.f.ends, Res.rowS 66 8 encArc (.slice ao5 r.f.arcs.length co6) r.f.arcs]) := by
 dsimp only [rat_grow_starts] at hh
 have f1_0b := f1_0.rv.big
 refine Con.mk (n := 24) Tryz.func65 z z z (fun w0 => ?_)
 refine TC.a (TL.s z z (TL.w z (lenC z underlying22 z) (TL.i z z (TL.en (TC.block (TC.loopG (α := (Int × (List Tip) × (List Tip) × (List Arc) × Bool × Nat) × ((Option Addr) × Nat × (Option Addr) × Nat × (Option Addr) × Nat)) (rgs [(7, 1), (10, 14)]) (fun g => [(10, .int .i64 ((g.1.2.2.2.2.2 : Nat) : Int))]) (fun g => [Res.cells b0_0 #[.int .i64 g.1.1, .slice g.2.1 g.1.2.1.length g.2.2.1, .slice g.2.2.2.1 g.1.2.2.1.length g.2.2.2.2.1, .slice g.2.2.2.2.2.1 g.1.2.2.2.1.length g.2.2.2.2.2.2, .bool g.1.2.2.2.2.1] Eb0, Res.rowS 53 2 encTip (.slice g.2.1 g.1.2.1.length g.2.2.1) g.1.2.1, Res.rowS 53 2 encTip (.slice g.2.2.2.1 g.1.2.2.1.length g.2.2.2.2.1) g.1.2.2.1, Res.rowS 66 8 encArc (.slice g.2.2.2.2.2.1 g.1.2.2.2.1.length g.2.2.2.2.2.2) g.1.2.2.2.1]) (fun g => σ) (fun g => iter (fun q : Int × (List Tip) × (List Tip) × (List Arc) × Bool × Nat => rat_grow_starts_b1 x1 x2 q.1 q.2.1 q.2.2.1 q.2.2.2.1 q.2.2.2.2.1 q.2.2.2.2.2) g.1 = some r) (fun g => rounds (fun q : Int × (List Tip) × (List Tip) × (List Arc) × Bool × Nat => rat_grow_starts_b1 x1 x2 q.1 q.2.1 q.2.2.1 q.2.2.2.1 q.2.2.2.2.1 q.2.2.2.2.2) g.1) ((x0.f.states, x0.f.starts, x0.f.ends, x0.f.arcs, x0.over, 0), (a0_1, c0_2, a0_3, c0_4, a0_5, c0_6)) (Sub.f [3, 3, 3, 3] 4) z (by repeat (first | exact trivial | refine ⟨z, ?_⟩)) hh (fun g1 j1 hg1 => ?_)))))))
 obtain ⟨⟨i138, l140, l144, l148, t151, k152⟩, ⟨a141, c142, a145, c146, a149, c150⟩⟩ := g1
 have hh := hg1; clear hg1
 try dsimp only
 obtain ⟨z1, hh, hR1⟩ := iter_e hh
 dsimp only [rat_grow_starts_b1] at hh
 refine TC.isSl (i := 1) z (fun _ hb153 _ => ?_)
 refine TC.isSl (i := 2) z (fun _ hb154 _ => ?_)
 refine TC.isSl (i := 3) z (fun _ hb155 _ => ?_)
 refine TC.a (TL.w z (OpVal.lss z z z) (TL.en (TC.seq (TC.cD z hh (fun h156 hh => ?_) (fun h156 hh => ?_)))))
 ·refine TC.skip (S.n (TC.seq (TC.block (TC.a (TL.w z (indexN z underlying22 sz53 z z f1_0.rv.sl (by omega)) (TL.w z (loadSA Tip.zero z ag53 sz53 z f1_0 (by omega) (by omega)) (TL.op z (OpOk.alloc z ze53 z z (fun b157 => ?_)))))))))
  refine TL.op z (storeAll z sz53 z z z z z z ?_)
  refine TL.en (TC.region (TL.l z z (TL.w z (fieldLoc z fo53_0 z) (TL.w z (loadLoc z ag3 z (i := 0) z z) (TL.i z z (TL.w z (addW z z z) (TL.w z (fieldLoc z fo53_1 z) (TL.w z (loadLoc z ag9 z (i := 0) z z) (TL.w z (buildL z pl53 ze53 z) (TL.front 4 z z (TL.front 4 z z (TL.front 4 z z (TL.front 4 z z ?_)))))))))))))
  obtain ⟨v17, u17, hh⟩ := bnd_e hh
  refine TL.op z (OpOk.call (rat_grow_start_con u17) z z pf49 z z z z ?_)
  rintro _ _ _ hle159 ⟨a159_1, c159_2, a159_3, c159_4, a159_5, c159_6, rfl, rfl, rfl⟩
  refine TL.nil (B.n (S.n (TC.region (TL.w z (OpVal.succ z z z (by omega)) (TL.i z z (TL.en ?_))))))
  obtain ⟨hh, hlt163⟩ := nxt_x hR1 hh
  exact lf ((v17.f.states, v17.f.starts, v17.f.ends, v17.f.arcs, v17.over, (k152 + 1)), (a159_1, c159_2, a159_3, c159_4, a159_5, c159_6)) hlt163 hh (Sub.f [3, 3, 3, 3] 4)
 ·refine TC.exit (S.x (S.x ?_))
  replace hh := fin_x hR1 hh
  refine TC.exitHere ?_
  obtain rfl := so hh
  exact RetOk.mk' (rs := []) [Res.cells b0_0 #[.int .i64 i138, .slice a141 l140.length c142, .slice a145 l144.length c146, .slice a149 l148.length c150, .bool t151] Eb0, Res.rowS 53 2 encTip (.slice a141 l140.length c142) l140, Res.rowS 53 2 encTip (.slice a145 l144.length c146) l144, Res.rowS 66 8 encArc (.slice a149 l148.length c150) l148] z (.inr z) RVs.nil (List.sublist_append_left _ _) ⟨a141, c142, a145, c146, a149, c150, z, z, z⟩

noncomputable def rat_grow_ends_b1 (x1 : List Tip) (x2 : Int) (i138 : Int) (l140 : List Tip) (l144 : List Tip) (l148 : List Arc) (t151 : Bool) (k152 : Nat) : Option ((Int × (List Tip) × (List Tip) × (List Arc) × Bool × Nat) ⊕ (Grow)) :=
 iteO (decide (((k152 : Nat) : Int) < ((x1.length : Nat) : Int))) (bnd (rat_grow_end (⟨(⟨i138, l140, l144, l148⟩ : Fst), t151⟩ : Grow) (⟨IntKind.i64.wrap (((nth x1 k152 Tip.zero).state) + x2), (nth x1 k152 Tip.zero).out⟩ : Tip)) (fun v17 => nxt (v17.f.states, v17.f.starts, v17.f.ends, v17.f.arcs, v17.over, (k152 + 1)))) (fin (some (⟨(⟨i138, l140, l144, l148⟩ : Fst), t151⟩ : Grow)))
noncomputable def rat_grow_ends (x0 : Grow) (x1 : List Tip) (x2 : Int) : Option (Grow) :=
 iter (fun q : Int × (List Tip) × (List Tip) × (List Arc) × Bool × Nat => rat_grow_ends_b1 x1 x2 q.1 q.2.1 q.2.2.1 q.2.2.2.1 q.2.2.2.2.1 q.2.2.2.2.2) (x0.f.states, x0.f.starts, x0.f.ends, x0.f.arcs, x0.over, 0)
theorem rat_grow_ends_con {σ : Store} {x0 : Grow} {b0_0 : Nat} {Eb0 : Nat} {a0_1 : Option Addr} {c0_2 : Nat} {a0_3 : Option Addr} {c0_4 : Nat} {a0_5 : Option Addr} {c0_6 : Nat} {x1 : List Tip} {a1_0 : Option Addr} {c1_0 : Nat} {x2 : Int} (f1_0 : RS σ 2 encTip (.slice a1_0 x1.length c1_0) x1) {r : Grow} (hh : rat_grow_ends x0 x1 x2 = some r) :
  Con Tryz.prog 51 #[loc b0_0 0, .slice a1_0 x1.length c1_0, .int .i64 x2] σ [Res.cells b0_0 #[.int .i64 x0.f.states, .slice a0_1 x0.f.starts.length c0_2, .slice a0_3 x0.f.ends.length c0_4, .slice a0_5 x0.f.arcs.length c0_6, .bool x0.over] Eb0, Res.rowS 53 2 encTip (.slice a0_1 x0.f.starts.length c0_2) x0.f.starts, Res.rowS 53 2 encTip (.slice a0_3 x0.f.ends.length c0_4) x0.f.ends, Res.rowS 66 8 encArc (.slice a0_5 x0.f.arcs.length c0_6) x0.f.arcs] (fun v σ' H' => ∃ (ao1 : Option Addr), ∃ (co2 : Nat), ∃ (ao3 : Option Addr), ∃ (co4 : Nat), ∃ (ao5 : Option Addr), ∃ (co6 : Nat), v = .tuple #[] ∧ σ = σ' ∧ H' = [Res.cells b0_0 #[.int .i64 r.f.states, .slice ao1 r.f.starts.length co2, .slice ao3 r.f.ends.length co4, .slice ao5 r.f.arcs.length co6, .bool r.over] Eb0, Res.rowS 53 2 encTip (.slice ao1 r.f.starts.length co2) r.f.starts, Res.rowS 53 2 encTip (.slice ao3 r.f.ends.length co4) r.f.ends, Res.rowS 66 8 encArc (.slice ao5 r.f.arcs.length co6) r.f.arcs]) := by
 dsimp only [rat_grow_ends] at hh
 have f1_0b := f1_0.rv.big
 refine Con.mk (n := 24) Tryz.func51 z z z (fun w0 => ?_)
 refine TC.a (TL.s z z (TL.w z (lenC z underlying22 z) (TL.i z z (TL.en (TC.block (TC.loopG (α := (Int × (List Tip) × (List Tip) × (List Arc) × Bool × Nat) × ((Option Addr) × Nat × (Option Addr) × Nat × (Option Addr) × Nat)) (rgs [(7, 1), (10, 14)]) (fun g => [(10, .int .i64 ((g.1.2.2.2.2.2 : Nat) : Int))]) (fun g => [Res.cells b0_0 #[.int .i64 g.1.1, .slice g.2.1 g.1.2.1.length g.2.2.1, .slice g.2.2.2.1 g.1.2.2.1.length g.2.2.2.2.1, .slice g.2.2.2.2.2.1 g.1.2.2.2.1.length g.2.2.2.2.2.2, .bool g.1.2.2.2.2.1] Eb0, Res.rowS 53 2 encTip (.slice g.2.1 g.1.2.1.length g.2.2.1) g.1.2.1, Res.rowS 53 2 encTip (.slice g.2.2.2.1 g.1.2.2.1.length g.2.2.2.2.1) g.1.2.2.1, Res.rowS 66 8 encArc (.slice g.2.2.2.2.2.1 g.1.2.2.2.1.length g.2.2.2.2.2.2) g.1.2.2.2.1]) (fun g => σ) (fun g => iter (fun q : Int × (List Tip) × (List Tip) × (List Arc) × Bool × Nat => rat_grow_ends_b1 x1 x2 q.1 q.2.1 q.2.2.1 q.2.2.2.1 q.2.2.2.2.1 q.2.2.2.2.2) g.1 = some r) (fun g => rounds (fun q : Int × (List Tip) × (List Tip) × (List Arc) × Bool × Nat => rat_grow_ends_b1 x1 x2 q.1 q.2.1 q.2.2.1 q.2.2.2.1 q.2.2.2.2.1 q.2.2.2.2.2) g.1) ((x0.f.states, x0.f.starts, x0.f.ends, x0.f.arcs, x0.over, 0), (a0_1, c0_2, a0_3, c0_4, a0_5, c0_6)) (Sub.f [3, 3, 3, 3] 4) z (by repeat (first | exact trivial | refine ⟨z, ?_⟩)) hh (fun g1 j1 hg1 => ?_)))))))
 obtain ⟨⟨i138, l140, l144, l148, t151, k152⟩, ⟨a141, c142, a145, c146, a149, c150⟩⟩ := g1
 have hh := hg1; clear hg1
 try dsimp only
 obtain ⟨z1, hh, hR1⟩ := iter_e hh
 dsimp only [rat_grow_ends_b1] at hh
 refine TC.isSl (i := 1) z (fun _ hb153 _ => ?_)
 refine TC.isSl (i := 2) z (fun _ hb154 _ => ?_)
 refine TC.isSl (i := 3) z (fun _ hb155 _ => ?_)
 refine TC.a (TL.w z (OpVal.lss z z z) (TL.en (TC.seq (TC.cD z hh (fun h156 hh => ?_) (fun h156 hh => ?_)))))
 ·refine TC.skip (S.n (TC.seq (TC.block (TC.a (TL.w z (indexN z underlying22 sz53 z z f1_0.rv.sl (by omega)) (TL.w z (loadSA Tip.zero z ag53 sz53 z f1_0 (by omega) (by omega)) (TL.op z (OpOk.alloc z ze53 z z (fun b157 => ?_)))))))))
  refine TL.op z (storeAll z sz53 z z z z z z ?_)
  refine TL.en (TC.region (TL.l z z (TL.w z (fieldLoc z fo53_0 z) (TL.w z (loadLoc z ag3 z (i := 0) z z) (TL.i z z (TL.w z (addW z z z) (TL.w z (fieldLoc z fo53_1 z) (TL.w z (loadLoc z ag9 z (i := 0) z z) (TL.w z (buildL z pl53 ze53 z) (TL.front 4 z z (TL.front 4 z z (TL.front 4 z z (TL.front 4 z z ?_)))))))))))))
  obtain ⟨v17, u17, hh⟩ := bnd_e hh
  refine TL.op z (OpOk.call (rat_grow_end_con u17) z z pf50 z z z z ?_)
  rintro _ _ _ hle159 ⟨a159_1, c159_2, a159_3, c159_4, a159_5, c159_6, rfl, rfl, rfl⟩
  refine TL.nil (B.n (S.n (TC.region (TL.w z (OpVal.succ z z z (by omega)) (TL.i z z (TL.en ?_))))))
  obtain ⟨hh, hlt163⟩ := nxt_x hR1 hh
  exact lf ((v17.f.states, v17.f.starts, v17.f.ends, v17.f.arcs, v17.over, (k152 + 1)), (a159_1, c159_2, a159_3, c159_4, a159_5, c159_6)) hlt163 hh (Sub.f [3, 3, 3, 3] 4)
 ·refine TC.exit (S.x (S.x ?_))
  replace hh := fin_x hR1 hh
  refine TC.exitHere ?_
  obtain rfl := so hh
  exact RetOk.mk' (rs := []) [Res.cells b0_0 #[.int .i64 i138, .slice a141 l140.length c142, .slice a145 l144.length c146, .slice a149 l148.length c150, .bool t151] Eb0, Res.rowS 53 2 encTip (.slice a141 l140.length c142) l140, Res.rowS 53 2 encTip (.slice a145 l144.length c146) l144, Res.rowS 66 8 encArc (.slice a149 l148.length c150) l148] z (.inr z) RVs.nil (List.sublist_append_left _ _) ⟨a141, c142, a145, c146, a149, c150, z, z, z⟩

noncomputable def rat_grow_arcs_b1 (x1 : List Arc) (x2 : Int) (i138 : Int) (l140 : List Tip) (l144 : List Tip) (l148 : List Arc) (t151 : Bool) (k152 : Nat) : Option ((Int × (List Tip) × (List Tip) × (List Arc) × Bool × Nat) ⊕ (Grow)) :=
 iteO (decide (((k152 : Nat) : Int) < ((x1.length : Nat) : Int))) (bnd (rat_grow_arc (⟨(⟨i138, l140, l144, l148⟩ : Fst), t151⟩ : Grow) (⟨IntKind.i64.wrap (((nth x1 k152 Arc.zero).frm) + x2), IntKind.i64.wrap (((nth x1 k152 Arc.zero).to) + x2), (nth x1 k152 Arc.zero).set, (nth x1 k152 Arc.zero).out, (nth x1 k152 Arc.zero).copy⟩ : Arc)) (fun v25 => nxt (v25.f.states, v25.f.starts, v25.f.ends, v25.f.arcs, v25.over, (k152 + 1)))) (fin (some (⟨(⟨i138, l140, l144, l148⟩ : Fst), t151⟩ : Grow)))
noncomputable def rat_grow_arcs (x0 : Grow) (x1 : List Arc) (x2 : Int) : Option (Grow) :=
 iter (fun q : Int × (List Tip) × (List Tip) × (List Arc) × Bool × Nat => rat_grow_arcs_b1 x1 x2 q.1 q.2.1 q.2.2.1 q.2.2.2.1 q.2.2.2.2.1 q.2.2.2.2.2) (x0.f.states, x0.f.starts, x0.f.ends, x0.f.arcs, x0.over, 0)
theorem rat_grow_arcs_con {σ : Store} {x0 : Grow} {b0_0 : Nat} {Eb0 : Nat} {a0_1 : Option Addr} {c0_2 : Nat} {a0_3 : Option Addr} {c0_4 : Nat} {a0_5 : Option Addr} {c0_6 : Nat} {x1 : List Arc} {a1_0 : Option Addr} {c1_0 : Nat} {x2 : Int} (f1_0 : RS σ 8 encArc (.slice a1_0 x1.length c1_0) x1) {r : Grow} (hh : rat_grow_arcs x0 x1 x2 = some r) :
  Con Tryz.prog 52 #[loc b0_0 0, .slice a1_0 x1.length c1_0, .int .i64 x2] σ [Res.cells b0_0 #[.int .i64 x0.f.states, .slice a0_1 x0.f.starts.length c0_2, .slice a0_3 x0.f.ends.length c0_4, .slice a0_5 x0.f.arcs.length c0_6, .bool x0.over] Eb0, Res.rowS 53 2 encTip (.slice a0_1 x0.f.starts.length c0_2) x0.f.starts, Res.rowS 53 2 encTip (.slice a0_3 x0.f.ends.length c0_4) x0.f.ends, Res.rowS 66 8 encArc (.slice a0_5 x0.f.arcs.length c0_6) x0.f.arcs] (fun v σ' H' => ∃ (ao1 : Option Addr), ∃ (co2 : Nat), ∃ (ao3 : Option Addr), ∃ (co4 : Nat), ∃ (ao5 : Option Addr), ∃ (co6 : Nat), v = .tuple #[] ∧ σ = σ' ∧ H' = [Res.cells b0_0 #[.int .i64 r.f.states, .slice ao1 r.f.starts.length co2, .slice ao3 r.f.ends.length co4, .slice ao5 r.f.arcs.length co6, .bool r.over] Eb0, Res.rowS 53 2 encTip (.slice ao1 r.f.starts.length co2) r.f.starts, Res.rowS 53 2 encTip (.slice ao3 r.f.ends.length co4) r.f.ends, Res.rowS 66 8 encArc (.slice ao5 r.f.arcs.length co6) r.f.arcs]) := by
 dsimp only [rat_grow_arcs] at hh
 have f1_0b := f1_0.rv.big
 refine Con.mk (n := 32) Tryz.func52 z z z (fun w0 => ?_)
 refine TC.a (TL.s z z (TL.w z (lenC z underlying23 z) (TL.i z z (TL.en (TC.block (TC.loopG (α := (Int × (List Tip) × (List Tip) × (List Arc) × Bool × Nat) × ((Option Addr) × Nat × (Option Addr) × Nat × (Option Addr) × Nat)) (rgs [(7, 1), (10, 22)]) (fun g => [(10, .int .i64 ((g.1.2.2.2.2.2 : Nat) : Int))]) (fun g => [Res.cells b0_0 #[.int .i64 g.1.1, .slice g.2.1 g.1.2.1.length g.2.2.1, .slice g.2.2.2.1 g.1.2.2.1.length g.2.2.2.2.1, .slice g.2.2.2.2.2.1 g.1.2.2.2.1.length g.2.2.2.2.2.2, .bool g.1.2.2.2.2.1] Eb0, Res.rowS 53 2 encTip (.slice g.2.1 g.1.2.1.length g.2.2.1) g.1.2.1, Res.rowS 53 2 encTip (.slice g.2.2.2.1 g.1.2.2.1.length g.2.2.2.2.1) g.1.2.2.1, Res.rowS 66 8 encArc (.slice g.2.2.2.2.2.1 g.1.2.2.2.1.length g.2.2.2.2.2.2) g.1.2.2.2.1]) (fun g => σ) (fun g => iter (fun q : Int × (List Tip) × (List Tip) × (List Arc) × Bool × Nat => rat_grow_arcs_b1 x1 x2 q.1 q.2.1 q.2.2.1 q.2.2.2.1 q.2.2.2.2.1 q.2.2.2.2.2) g.1 = some r) (fun g => rounds (fun q : Int × (List Tip) × (List Tip) × (List Arc) × Bool × Nat => rat_grow_arcs_b1 x1 x2 q.1 q.2.1 q.2.2.1 q.2.2.2.1 q.2.2.2.2.1 q.2.2.2.2.2) g.1) ((x0.f.states, x0.f.starts, x0.f.ends, x0.f.arcs, x0.over, 0), (a0_1, c0_2, a0_3, c0_4, a0_5, c0_6)) (Sub.f [3, 3, 3, 3] 4) z (by repeat (first | exact trivial | refine ⟨z, ?_⟩)) hh (fun g1 j1 hg1 => ?_)))))))
 obtain ⟨⟨i138, l140, l144, l148, t151, k152⟩, ⟨a141, c142, a145, c146, a149, c150⟩⟩ := g1
 have hh := hg1; clear hg1
 try dsimp only
 obtain ⟨z1, hh, hR1⟩ := iter_e hh
 dsimp only [rat_grow_arcs_b1] at hh
 refine TC.isSl (i := 1) z (fun _ hb153 _ => ?_)
 refine TC.isSl (i := 2) z (fun _ hb154 _ => ?_)
 refine TC.isSl (i := 3) z (fun _ hb155 _ => ?_)
 refine TC.a (TL.w z (OpVal.lss z z z) (TL.en (TC.seq (TC.cD z hh (fun h156 hh => ?_) (fun h156 hh => ?_)))))
 ·refine TC.skip (S.n (TC.seq (TC.block (TC.a (TL.w z (indexN z underlying23 sz66 z z f1_0.rv.sl (by omega)) (TL.w z (loadSA Arc.zero z ag66 sz66 z f1_0 (by omega) (by omega)) (TL.op z (OpOk.alloc z ze66 z z (fun b157 => ?_)))))))))
  refine TL.op z (storeAll z sz66 z z z z z z ?_)
  refine TL.en (TC.region (TL.l z z (TL.w z (fieldLoc z fo66_0 z) (TL.w z (loadLoc z ag3 z (i := 0) z z) (TL.i z z (TL.w z (addW z z z) (TL.w z (fieldLoc z fo66_1 z) (TL.w z (loadLoc z ag3 z (i := 0) z z) (TL.i z z (TL.w z (addW z z z) (TL.w z (fieldLoc z fo66_2 z) (TL.w z (loadLocA z ag64 sz64 z (i := 0) z z z) (TL.w z (fieldLoc z fo66_3 z) (TL.w z (loadLoc z ag9 z (i := 0) z z) (TL.w z (fieldLoc z fo66_4 z) ?_)))))))))))))))
  refine TL.w z (loadLoc z ag4 z (i := 0) z z) (TL.w z (buildL z pl66 ze66 z) (TL.front 4 z z (TL.front 4 z z (TL.front 4 z z (TL.front 4 z z ?_)))))
  obtain ⟨v25, u25, hh⟩ := bnd_e hh
  refine TL.op z (OpOk.call (rat_grow_arc_con u25) z z pf63 z z z z ?_)
  rintro _ _ _ hle159 ⟨a159_1, c159_2, a159_3, c159_4, a159_5, c159_6, rfl, rfl, rfl⟩
  refine TL.nil (B.n (S.n (TC.region (TL.w z (OpVal.succ z z z (by omega)) (TL.i z z (TL.en ?_))))))
  obtain ⟨hh, hlt163⟩ := nxt_x hR1 hh
  exact lf ((v25.f.states, v25.f.starts, v25.f.ends, v25.f.arcs, v25.over, (k152 + 1)), (a159_1, c159_2, a159_3, c159_4, a159_5, c159_6)) hlt163 hh (Sub.f [3, 3, 3, 3] 4)
 ·refine TC.exit (S.x (S.x ?_))
  replace hh := fin_x hR1 hh
  refine TC.exitHere ?_
  obtain rfl := so hh
  exact RetOk.mk' (rs := []) [Res.cells b0_0 #[.int .i64 i138, .slice a141 l140.length c142, .slice a145 l144.length c146, .slice a149 l148.length c150, .bool t151] Eb0, Res.rowS 53 2 encTip (.slice a141 l140.length c142) l140, Res.rowS 53 2 encTip (.slice a145 l144.length c146) l144, Res.rowS 66 8 encArc (.slice a149 l148.length c150) l148] z (.inr z) RVs.nil (List.sublist_append_left _ _) ⟨a141, c142, a145, c146, a149, c150, z, z, z⟩

noncomputable def rat_grow_bridge_b1 (x4 : List Arc) (x2 : List UInt8) (x3 : List UInt8) (x1 : Int) (x5 : Int) (i138 : Int) (l140 : List Tip) (l144 : List Tip) (l148 : List Arc) (t151 : Bool) (k152 : Nat) : Option ((Int × (List Tip) × (List Tip) × (List Arc) × Bool × Nat) ⊕ (Grow)) :=
 iteO (decide (((k152 : Nat) : Int) < ((x4.length : Nat) : Int))) (grd (x2.length + x3.length ≤ 9223372036854775807) (grd ((x2 ++ x3).length + ((nth x4 k152 Arc.zero).out).length ≤ 9223372036854775807) (bnd (rat_grow_arc (⟨(⟨i138, l140, l144, l148⟩ : Fst), t151⟩ : Grow) (⟨x1, IntKind.i64.wrap (((nth x4 k152 Arc.zero).to) + x5), (nth x4 k152 Arc.zero).set, ((x2 ++ x3) ++ (nth x4 k152 Arc.zero).out), (nth x4 k152 Arc.zero).copy⟩ : Arc)) (fun v26 => iteO v26.over (fin (some (⟨(⟨v26.f.states, v26.f.starts, v26.f.ends, v26.f.arcs⟩ : Fst), v26.over⟩ : Grow))) (nxt (v26.f.states, v26.f.starts, v26.f.ends, v26.f.arcs, v26.over, (k152 + 1))))))) (fin (some (⟨(⟨i138, l140, l144, l148⟩ : Fst), t151⟩ : Grow)))
noncomputable def rat_grow_bridge (x0 : Grow) (x1 : Int) (x2 : List UInt8) (x3 : List UInt8) (x4 : List Arc) (x5 : Int) : Option (Grow) :=
 grd (x2.length ≤ 281474976710656) (grd (x3.length ≤ 281474976710656) (iter (fun q : Int × (List Tip) × (List Tip) × (List Arc) × Bool × Nat => rat_grow_bridge_b1 x4 x2 x3 x1 x5 q.1 q.2.1 q.2.2.1 q.2.2.2.1 q.2.2.2.2.1 q.2.2.2.2.2) (x0.f.states, x0.f.starts, x0.f.ends, x0.f.arcs, x0.over, 0)))
theorem rat_grow_bridge_con {σ : Store} {x0 : Grow} {b0_0 : Nat} {Eb0 : Nat} {a0_1 : Option Addr} {c0_2 : Nat} {a0_3 : Option Addr} {c0_4 : Nat} {a0_5 : Option Addr} {c0_6 : Nat} {x1 : Int} {x2 : List UInt8} {x3 : List UInt8} {x4 : List Arc} {a4_0 : Option Addr} {c4_0 : Nat} {x5 : Int} (f4_0 : RS σ 8 encArc (.slice a4_0 x4.length c4_0) x4) {r : Grow} (hh : rat_grow_bridge x0 x1 x2 x3 x4 x5 = some r) :
  Con Tryz.prog 54 #[loc b0_0 0, .int .i64 x1, .string (bs x2), .string (bs x3), .slice a4_0 x4.length c4_0, .int .i64 x5] σ [Res.cells b0_0 #[.int .i64 x0.f.states, .slice a0_1 x0.f.starts.length c0_2, .slice a0_3 x0.f.ends.length c0_4, .slice a0_5 x0.f.arcs.length c0_6, .bool x0.over] Eb0, Res.rowS 53 2 encTip (.slice a0_1 x0.f.starts.length c0_2) x0.f.starts, Res.rowS 53 2 encTip (.slice a0_3 x0.f.ends.length c0_4) x0.f.ends, Res.rowS 66 8 encArc (.slice a0_5 x0.f.arcs.length c0_6) x0.f.arcs] (fun v σ' H' => ∃ (ao1 : Option Addr), ∃ (co2 : Nat), ∃ (ao3 : Option Addr), ∃ (co4 : Nat), ∃ (ao5 : Option Addr), ∃ (co6 : Nat), v = .tuple #[] ∧ σ = σ' ∧ H' = [Res.cells b0_0 #[.int .i64 r.f.states, .slice ao1 r.f.starts.length co2, .slice ao3 r.f.ends.length co4, .slice ao5 r.f.arcs.length co6, .bool r.over] Eb0, Res.rowS 53 2 encTip (.slice ao1 r.f.starts.length co2) r.f.starts, Res.rowS 53 2 encTip (.slice ao3 r.f.ends.length co4) r.f.ends, Res.rowS 66 8 encArc (.slice ao5 r.f.arcs.length co6) r.f.arcs]) := by
 dsimp only [rat_grow_bridge] at hh
 have f4_0b := f4_0.rv.big
 refine Con.mk (n := 43) Tryz.func54 z z z (fun w0 => ?_)
 have x2b := grd_c hh
 replace hh := grd_t hh
 have x3b := grd_c hh
 replace hh := grd_t hh
 refine TC.a (TL.s z z (TL.w z (lenC z underlying23 z) (TL.i z z (TL.en (TC.block (TC.loopG (α := (Int × (List Tip) × (List Tip) × (List Arc) × Bool × Nat) × ((Option Addr) × Nat × (Option Addr) × Nat × (Option Addr) × Nat)) (rgs [(13, 1), (16, 27)]) (fun g => [(16, .int .i64 ((g.1.2.2.2.2.2 : Nat) : Int))]) (fun g => [Res.cells b0_0 #[.int .i64 g.1.1, .slice g.2.1 g.1.2.1.length g.2.2.1, .slice g.2.2.2.1 g.1.2.2.1.length g.2.2.2.2.1, .slice g.2.2.2.2.2.1 g.1.2.2.2.1.length g.2.2.2.2.2.2, .bool g.1.2.2.2.2.1] Eb0, Res.rowS 53 2 encTip (.slice g.2.1 g.1.2.1.length g.2.2.1) g.1.2.1, Res.rowS 53 2 encTip (.slice g.2.2.2.1 g.1.2.2.1.length g.2.2.2.2.1) g.1.2.2.1, Res.rowS 66 8 encArc (.slice g.2.2.2.2.2.1 g.1.2.2.2.1.length g.2.2.2.2.2.2) g.1.2.2.2.1]) (fun g => σ) (fun g => iter (fun q : Int × (List Tip) × (List Tip) × (List Arc) × Bool × Nat => rat_grow_bridge_b1 x4 x2 x3 x1 x5 q.1 q.2.1 q.2.2.1 q.2.2.2.1 q.2.2.2.2.1 q.2.2.2.2.2) g.1 = some r) (fun g => rounds (fun q : Int × (List Tip) × (List Tip) × (List Arc) × Bool × Nat => rat_grow_bridge_b1 x4 x2 x3 x1 x5 q.1 q.2.1 q.2.2.1 q.2.2.2.1 q.2.2.2.2.1 q.2.2.2.2.2) g.1) ((x0.f.states, x0.f.starts, x0.f.ends, x0.f.arcs, x0.over, 0), (a0_1, c0_2, a0_3, c0_4, a0_5, c0_6)) (Sub.f [3, 3, 3, 3] 4) z (by repeat (first | exact trivial | refine ⟨z, ?_⟩)) hh (fun g1 j1 hg1 => ?_)))))))
 obtain ⟨⟨i138, l140, l144, l148, t151, k152⟩, ⟨a141, c142, a145, c146, a149, c150⟩⟩ := g1
 have hh := hg1; clear hg1
 try dsimp only
 obtain ⟨z1, hh, hR1⟩ := iter_e hh
 dsimp only [rat_grow_bridge_b1] at hh
 refine TC.isSl (i := 1) z (fun _ hb153 _ => ?_)
 refine TC.isSl (i := 2) z (fun _ hb154 _ => ?_)
 refine TC.isSl (i := 3) z (fun _ hb155 _ => ?_)
 refine TC.a (TL.w z (OpVal.lss z z z) (TL.en (TC.seq (TC.cD z hh (fun h156 hh => ?_) (fun h156 hh => ?_)))))
 ·refine TC.skip (S.n (TC.seq (TC.block (TC.a (TL.w z (indexN z underlying23 sz66 z z f4_0.rv.sl (by omega)) (TL.w z (loadSA Arc.zero z ag66 sz66 z f4_0 (by omega) (by omega)) (TL.op z (OpOk.alloc z ze66 z z (fun b157 => ?_)))))))))
  refine TL.op z (storeAll z sz66 z z z z z z ?_)
  refine TL.en (TC.a (TL.l z z (TL.i z z (TL.w z (fieldLoc z fo66_1 z) (TL.w z (loadLoc z ag3 z (i := 0) z z) (TL.i z z (TL.w z (addW z z z) (TL.w z (fieldLoc z fo66_2 z) (TL.w z (loadLocA z ag64 sz64 z (i := 0) z z z) (TL.w z (moveStr (.inl z) z) (TL.w z (moveStr (.inl z) z) ?_)))))))))))
  have u19 := grd_c hh
  replace hh := grd_t hh
  refine TL.w z (catBs z z z u19) (TL.w z (fieldLoc z fo66_3 z) (TL.w z (loadLoc z ag9 z (i := 0) z z) ?_))
  have u22 := grd_c hh
  replace hh := grd_t hh
  refine TL.w z (catBs z z z u22) (TL.w z (fieldLoc z fo66_4 z) (TL.w z (loadLoc z ag4 z (i := 0) z z) (TL.w z (buildL z pl66 ze66 z) (TL.front 4 z z (TL.front 4 z z (TL.front 4 z z (TL.front 4 z z ?_)))))))
  obtain ⟨v26, u26, hh⟩ := bnd_e hh
  refine TL.op z (OpOk.call (rat_grow_arc_con u26) z z pf63 z z z z ?_)
  rintro _ _ _ hle159 ⟨a159_1, c159_2, a159_3, c159_4, a159_5, c159_6, rfl, rfl, rfl⟩
  refine TL.en (TC.a (TL.l z z (TL.w z (nilCheckLoc z z) (TL.w z (fieldLoc z fo96_1 z) (TL.w z (loadLoc z ag4 z (i := 0) z z) (TL.en (TC.cB z hh (fun h163 hh => ?_) (fun h163 hh => ?_))))))))
  ·refine TC.ofSub (Sub.f [3, 3, 3, 3] 4) (TC.ret (B.r (S.r (S.r ?_))))
   replace hh := fin_x hR1 hh
   refine B.r ?_
   obtain rfl := so hh
   exact ro [Res.cells b0_0 #[.int .i64 v26.f.states, .slice a159_1 v26.f.starts.length c159_2, .slice a159_3 v26.f.ends.length c159_4, .slice a159_5 v26.f.arcs.length c159_6, .bool v26.over] Eb0, Res.rowS 53 2 encTip (.slice a159_1 v26.f.starts.length c159_2) v26.f.starts, Res.rowS 53 2 encTip (.slice a159_3 v26.f.ends.length c159_4) v26.f.ends, Res.rowS 66 8 encArc (.slice a159_5 v26.f.arcs.length c159_6) v26.f.arcs] z RVs.nil ⟨a159_1, c159_2, a159_3, c159_4, a159_5, c159_6, z, z, z⟩
  ·refine TC.skip (B.n (S.n (TC.region (TL.w z (OpVal.succ z z z (by omega)) (TL.i z z (TL.en ?_))))))
   obtain ⟨hh, hlt164⟩ := nxt_x hR1 hh
   exact lf ((v26.f.states, v26.f.starts, v26.f.ends, v26.f.arcs, v26.over, (k152 + 1)), (a159_1, c159_2, a159_3, c159_4, a159_5, c159_6)) hlt164 hh (Sub.f [3, 3, 3, 3] 4)
 ·refine TC.exit (S.x (S.x ?_))
  replace hh := fin_x hR1 hh
  refine TC.exitHere ?_
  obtain rfl := so hh
  exact RetOk.mk' (rs := []) [Res.cells b0_0 #[.int .i64 i138, .slice a141 l140.length c142, .slice a145 l144.length c146, .slice a149 l148.length c150, .bool t151] Eb0, Res.rowS 53 2 encTip (.slice a141 l140.length c142) l140, Res.rowS 53 2 encTip (.slice a145 l144.length c146) l144, Res.rowS 66 8 encArc (.slice a149 l148.length c150) l148] z (.inr z) RVs.nil (List.sublist_append_left _ _) ⟨a141, c142, a145, c146, a149, c150, z, z, z⟩

noncomputable def rat_both (x0 : Fst) (x1 : Fst) : Option (Bool) :=
 bnd (fst_Check x0) (fun v5 => iteO (decide (v5 = 0)) (bnd (fst_Check x1) (fun v9 => some (decide (v9 = 0)))) (some false))
theorem rat_both_con {σ : Store} {x0 : Fst} {a0_0 : Option Addr} {c0_0 : Nat} {a0_1 : Option Addr} {c0_1 : Nat} {a0_2 : Option Addr} {c0_2 : Nat} {x1 : Fst} {a1_0 : Option Addr} {c1_0 : Nat} {a1_1 : Option Addr} {c1_1 : Nat} {a1_2 : Option Addr} {c1_2 : Nat} (f0_0 : RS σ 2 encTip (.slice a0_0 x0.starts.length c0_0) x0.starts) (f0_1 : RS σ 2 encTip (.slice a0_1 x0.ends.length c0_1) x0.ends) (f0_2 : RS σ 8 encArc (.slice a0_2 x0.arcs.length c0_2) x0.arcs) (f1_0 : RS σ 2 encTip (.slice a1_0 x1.starts.length c1_0) x1.starts) (f1_1 : RS σ 2 encTip (.slice a1_1 x1.ends.length c1_1) x1.ends) (f1_2 : RS σ 8 encArc (.slice a1_2 x1.arcs.length c1_2) x1.arcs) {r : Bool} (hh : rat_both x0 x1 = some r) :
  Con Tryz.prog 64 #[.agg #[.int .i64 x0.states, .slice a0_0 x0.starts.length c0_0, .slice a0_1 x0.ends.length c0_1, .slice a0_2 x0.arcs.length c0_2], .agg #[.int .i64 x1.states, .slice a1_0 x1.starts.length c1_0, .slice a1_1 x1.ends.length c1_1, .slice a1_2 x1.arcs.length c1_2]] σ [] (PureP (.bool r) σ) := by
 dsimp only [rat_both] at hh
 have f0_0b := f0_0.rv.big
 have f0_1b := f0_1.rv.big
 have f0_2b := f0_2.rv.big
 have f1_0b := f1_0.rv.big
 have f1_1b := f1_1.rv.big
 have f1_2b := f1_2.rv.big
 refine Con.mk (n := 13) Tryz.func64 z z z (fun w0 => ?_)
 refine TC.a (TL.op z (boxA z z z z (fun b101 => ?_)))
 refine TL.op z (boxA z z z z (fun b103 => ?_))
 refine TL.j z z (TL.en (TC.a (TL.w z (loadAll z ag25 sz25 z (i := 1) z z) ?_)))
 obtain ⟨v5, u5, hh⟩ := bnd_e hh
 refine TL.op z (callP (fst_Check_con (x0 := x0) f0_0 f0_1 f0_2 u5) z z pf31 z z z ?_)
 refine TL.w z (OpVal.eql z z z) (TL.j z z (TL.split 8 z (fun h105 => ?_) (fun h105 => ?_)))
 ·replace hh := iteO_t h105 hh
  replace h105 := of_decide_eq_true h105
  refine TL.g z (loadAll z ag25 sz25 z (i := 0) z z) ?_
  obtain ⟨v9, u9, hh⟩ := bnd_e hh
  refine TL.gon z z z z z (callP (fst_Check_con (x0 := x1) f1_0 f1_1 f1_2 u9) z z pf31 z z z ?_)
  refine TL.g z (OpVal.eql z z z) (TL.w z (pickTB z z z) (TL.j z z (TL.en (TC.rt 0 ?_))))
  obtain rfl := so hh
  exact rq [4] ⟨z, z, z⟩
 ·replace hh := iteO_f h105 hh
  replace h105 := of_decide_eq_false h105
  refine TL.f z (TL.f z (TL.f z (TL.w z (pickFB z z z) (TL.j z z (TL.en (TC.rt 0 ?_))))))
  obtain rfl := so hh
  exact rq [4] ⟨z, z, z⟩

noncomputable def rat_leaving_j1 (l118 : List (List Arc)) (x0 : Fst) (k122 : Nat) : Option (((List (List Arc)) × Nat) ⊕ ((List (List Arc)))) :=
 nxt ((l118.set (((nth x0.arcs k122 Arc.zero).frm).toNat) ((nth l118 (((nth x0.arcs k122 Arc.zero).frm).toNat) ([] : List Arc)) ++ [(nth x0.arcs k122 Arc.zero)])), (k122 + 1))
noncomputable def rat_leaving_b1 (x0 : Fst) (l118 : List (List Arc)) (k122 : Nat) : Option (((List (List Arc)) × Nat) ⊕ ((List (List Arc)))) :=
 iteO (decide (((k122 : Nat) : Int) < ((x0.arcs.length : Nat) : Int))) (grd (0 ≤ ((nth x0.arcs k122 Arc.zero).frm) ∧ ((nth x0.arcs k122 Arc.zero).frm) < (l118.length : Int)) (grd (((nth l118 (((nth x0.arcs k122 Arc.zero).frm).toNat) ([] : List Arc)).length + [(nth x0.arcs k122 Arc.zero)].length) * 72 ≤ 140737488355328) (grd (0 ≤ ((nth x0.arcs k122 Arc.zero).frm) ∧ ((nth x0.arcs k122 Arc.zero).frm) < (l118.length : Int)) (rat_leaving_j1 l118 x0 k122)))) (fin (some l118))
noncomputable def rat_leaving (x0 : Fst) : Option ((List (List Arc))) :=
 grd (0 ≤ x0.states ∧ 24 * x0.states.toNat ≤ 281474976710656) (iter (fun q : (List (List Arc)) × Nat => rat_leaving_b1 x0 q.1 q.2) ((List.replicate x0.states.toNat ([] : List Arc)), 0))
def rat_leaving_P (σ : Store) (r : (List (List Arc))) : Value → Store → List Res → Prop := fun v σ' H' =>
 ∃ (a1 : Option Addr), ∃ (c1 : Nat),  v = .slice a1 r.length c1 ∧ RZ σ' (pkSl 8 encArc encArc_len) (.slice a1 r.length c1) r ∧ H' = []
theorem rat_leaving_con {σ : Store} {x0 : Fst} {a0_0 : Option Addr} {c0_0 : Nat} {a0_1 : Option Addr} {c0_1 : Nat} {a0_2 : Option Addr} {c0_2 : Nat} (f0_0 : RS σ 2 encTip (.slice a0_0 x0.starts.length c0_0) x0.starts) (f0_1 : RS σ 2 encTip (.slice a0_1 x0.ends.length c0_1) x0.ends) (f0_2 : RS σ 8 encArc (.slice a0_2 x0.arcs.length c0_2) x0.arcs) {r : (List (List Arc))} (hh : rat_leaving x0 = some r) :
  Con Tryz.prog 53 #[.agg #[.int .i64 x0.states, .slice a0_0 x0.starts.length c0_0, .slice a0_1 x0.ends.length c0_1, .slice a0_2 x0.arcs.length c0_2]] σ [] (rat_leaving_P σ r) := by
 dsimp only [rat_leaving] at hh
 have f0_0b := f0_0.rv.big
 have f0_1b := f0_1.rv.big
 have f0_2b := f0_2.rv.big
 refine Con.mk (n := 30) Tryz.func53 z z z (fun w0 => ?_)
 refine TC.a (TL.op z (boxA z z z z (fun b101 => ?_)))
 refine TL.s z z (TL.en (TC.a (TL.w z (fieldLoc z fo25_0 z) (TL.w z (loadLoc z ag3 z (i := 0) z z) ?_))))
 have u5 := grd_c hh
 replace hh := grd_t hh
 refine TL.op rfl (makeN (q := x0.states.toNat) (E := 66) (size := 8) (enc := encArc) rfl underlying85 sz23 by23 ze23 rfl rfl (by show Value.int _ _ = _; rw [Int.toNat_of_nonneg u5.1]) (by show Value.int _ _ = _; rw [Int.toNat_of_nonneg u5.1]) (by omega) (by decide) rfl (fun a103 c104 zf105 => ?_))
 refine TL.s z z (TL.en (TC.seq (TC.a (TL.w z (fieldLoc z fo25_3 z) (TL.w z (loadLoc z ag23 z (i := 1) z z) (TL.w z (lenC z underlying23 z) (TL.i z z (TL.en (TC.block (TC.loopG (α := ((List (List Arc)) × Nat) × ((List (NP Arc)))) (rgs [(5, 1), (12, 17)]) (fun g => [(12, .int .i64 ((g.1.2 : Nat) : Int))]) (fun g => [Res.nest 23 66 8 encArc (.slice a103 (List.replicate x0.states.toNat ([] : List Arc)).length c104) g.2]) (fun g => σ) (fun g => iter (fun q : (List (List Arc)) × Nat => rat_leaving_b1 x0 q.1 q.2) g.1 = some r ∧ g.1.1.length = (List.replicate x0.states.toNat ([] : List Arc)).length ∧ Zn g.2 g.1.1) (fun g => rounds (fun q : (List (List Arc)) × Nat => rat_leaving_b1 x0 q.1 q.2) g.1) (((List.replicate x0.states.toNat ([] : List Arc)), 0), (List.replicate x0.states.toNat (nilN : NP Arc))) (Sub.pre 1 z) z (by repeat (first | exact trivial | refine ⟨z, ?_⟩)) ⟨hh, z, zf105⟩ (fun g1 j1 hg1 => ?_)))))))))))
 obtain ⟨⟨l118, k122⟩, z120⟩ := g1
 obtain ⟨hh, hn119, zf121⟩ := hg1
 try dsimp only at hn119 zf121 ⊢
 obtain ⟨z1, hh, hR1⟩ := iter_e hh
 dsimp only [rat_leaving_b1] at hh
 have hn119b := hn119
 have zf121b := zf121.len
 refine TC.know (isSl_nest (q := 0) z zf121) (fun ⟨_, hb123⟩ => ?_)
 refine TC.a (TL.w z (OpVal.lss z z z) (TL.en (TC.seq (TC.cD z hh (fun h124 hh => ?_) (fun h124 hh => ?_)))))
 ·refine TC.skip (S.n (TC.cutG (α := (Unit) × ((List (NP Arc)))) (rgs [(5, 1), (14, 14)]) (fun g => []) (fun g => [Res.nest 23 66 8 encArc (.slice a103 (List.replicate x0.states.toNat ([] : List Arc)).length c104) g.2]) (fun g => σ) (fun g => rat_leaving_j1 l118 x0 k122 = some z1 ∧ (l118.set (((nth x0.arcs k122 Arc.zero).frm).toNat) ((nth l118 (((nth x0.arcs k122 Arc.zero).frm).toNat) ([] : List Arc)) ++ [(nth x0.arcs k122 Arc.zero)])).length = (List.replicate x0.states.toNat ([] : List Arc)).length ∧ Zn g.2 (l118.set (((nth x0.arcs k122 Arc.zero).frm).toNat) ((nth l118 (((nth x0.arcs k122 Arc.zero).frm).toNat) ([] : List Arc)) ++ [(nth x0.arcs k122 Arc.zero)]))) ?_ (fun g j hg => ?_)))
  ·skip
   refine TC.block (TC.a (TL.w z (indexN z underlying23 sz66 z z f0_2.rv.sl (by omega)) (TL.w z (loadSA Arc.zero z ag66 sz66 z f0_2 (by omega) (by omega)) (TL.op z (OpOk.alloc z ze66 z z (fun b128 => ?_))))))
   refine TL.op z (storeAll z sz66 z z z z z z ?_)
   refine TL.en ?_
   have u22 := grd_c hh
   replace hh := grd_t hh
   have u26 := grd_c hh
   replace hh := grd_t hh
   have u27 := grd_c hh
   replace hh := grd_t hh
   refine TC.drawR (Hr := [Res.cells b128 #[.int .i64 ((nth x0.arcs k122 Arc.zero).frm), .int .i64 ((nth x0.arcs k122 Arc.zero).to), .int .u64 ((((nth x0.arcs k122 Arc.zero).set).a : Nat) : Int), .int .u64 ((((nth x0.arcs k122 Arc.zero).set).b : Nat) : Int), .int .u64 ((((nth x0.arcs k122 Arc.zero).set).c : Nat) : Int), .int .u64 ((((nth x0.arcs k122 Arc.zero).set).d : Nat) : Int), .string (bs ((nth x0.arcs k122 Arc.zero).out)), .bool ((nth x0.arcs k122 Arc.zero).copy)] 66]) (fun r hr => mem_pick [0] z hr) [] (by kernel_rfl) (TA.a 0 z (moveSl (.inl z) z) z (TA.a 1 z (fieldLoc z fo66_0 z) z (TA.b 2 z (loadLoc z ag3 z (i := 0) z z) z (TA.a 3 z (moveSl (.inl z) z) z (TA.a 4 z (fieldLoc z fo66_0 z) z (TA.b 5 z (loadLoc z ag3 z (i := 0) z z) z (TA.know (isSl_nest (q := 1) z zf121) (fun ⟨hs141, hs141b⟩ => ?_))))))))
   refine TA.b 6 z (OpVal.index z underlying85 sz23 z z hs141 u22.1 u22.2) z (TA.b 8 z (loadAll z ag66 sz66 z (i := 0) z z) z ?_)
   obtain ⟨p142, hz142, hm142⟩ := Zn.at zf121 (i := ((nth x0.arcs k122 Arc.zero).frm).toNat) (by omega)
   refine TA.actN [7, 9] (by kernel_rfl) (an z z (OpVal.ok (loadN z ag23 z (q := 1) z hz142 hm142) z z ⟨(fun w h => sees_of (Store.le.refl _) (fun r hr => mem_pick [0] z hr) w h), ?_⟩) (an z z (OpOk.lit (enc := encArc) [(nth x0.arcs k122 Arc.zero)] z underlying23 sz66 ze66 z z z encArc_len (by decide) (by decide) Arc.zero z (by decide) z (by decide) encArc_one (fun a143 c144 => ⟨(fun w h => sees_of (Store.le.refl _) (fun r hr => mem_pick [1] z hr) w h), ?_⟩)) (True.intro)))
   ·skip
    refine TA.ac 9 z (OpOk.lit (enc := encArc) [(nth x0.arcs k122 Arc.zero)] z underlying23 sz66 ze66 z z z encArc_len (by decide) (by decide) Arc.zero z (by decide) z (by decide) encArc_one (fun a146 c147 => ⟨(fun w h => sees_of (Store.le.refl _) (fun r hr => mem_pick [1] z hr) w h), ?_⟩))
    refine TA.front 2 z z (TA.by (fun w h => Reach.takeN hz142 hm142 h) (TA.ac 10 z (appendS z z underlying23 sz66 by66 ze66 z z (by decide) z z z (.inr ⟨_, 1, z⟩) (by simpa using u26) (by decide) (fun a150 c151 => (k3 ?_)))))
    refine TA.know (isSl_nestX (q := 1) z zf121) (fun ⟨hs152, hs152b⟩ => ?_)
    refine TA.b 11 z (OpVal.index z underlying85 sz23 z z hs152 u27.1 u27.2) z (TA.front 1 z z (TA.front 1 z z ?_))
    have hn154 : (l118.set (((nth x0.arcs k122 Arc.zero).frm).toNat) ((nth l118 (((nth x0.arcs k122 Arc.zero).frm).toNat) ([] : List Arc)) ++ [(nth x0.arcs k122 Arc.zero)])).length = (List.replicate x0.states.toNat ([] : List Arc)).length := (List.length_set ..).trans hn119
    refine TA.ac 12 rfl (storeX (l' := ((nth l118 (((nth x0.arcs k122 Arc.zero).frm).toNat) ([] : List Arc)) ++ [(nth x0.arcs k122 Arc.zero)])) rfl sz23 rfl rfl rfl rfl rfl (by rw [zf121.len]; omega) zf121 (fun zf153 => (k2 ?_)))
    exact TA.dn (B.n (S.n (cf ((), (z120.set (((nth x0.arcs k122 Arc.zero).frm).toNat) (((nth l118 (((nth x0.arcs k122 Arc.zero).frm).toNat) ([] : List Arc)) ++ [(nth x0.arcs k122 Arc.zero)]), (a150, c151)))) ⟨hh, hn154, zf153⟩ (Sub.pre 1 z))))
   ·skip
    obtain ⟨p155, hz155, hm155⟩ := Zn.at zf121 (i := ((nth x0.arcs k122 Arc.zero).frm).toNat) (by omega)
    refine TA.ac 7 z (OpVal.ok (loadN z ag23 z (q := 2) z hz155 hm155) z z ⟨(fun w h => sees_of (Store.le.refl _) (fun r hr => mem_pick [1] z hr) w h), ?_⟩)
    refine TA.front 2 z z (TA.by (fun w h => Reach.takeN hz155 hm155 h) (TA.ac 10 z (appendS z z underlying23 sz66 by66 ze66 z z (by decide) z z z (.inr ⟨_, 1, z⟩) (by simpa using u26) (by decide) (fun a157 c158 => (k3 ?_)))))
    refine TA.know (isSl_nestX (q := 1) z zf121) (fun ⟨hs159, hs159b⟩ => ?_)
    refine TA.b 11 z (OpVal.index z underlying85 sz23 z z hs159 u27.1 u27.2) z (TA.front 1 z z (TA.front 1 z z ?_))
    have hn161 : (l118.set (((nth x0.arcs k122 Arc.zero).frm).toNat) ((nth l118 (((nth x0.arcs k122 Arc.zero).frm).toNat) ([] : List Arc)) ++ [(nth x0.arcs k122 Arc.zero)])).length = (List.replicate x0.states.toNat ([] : List Arc)).length := (List.length_set ..).trans hn119
    refine TA.ac 12 rfl (storeX (l' := ((nth l118 (((nth x0.arcs k122 Arc.zero).frm).toNat) ([] : List Arc)) ++ [(nth x0.arcs k122 Arc.zero)])) rfl sz23 rfl rfl rfl rfl rfl (by rw [zf121.len]; omega) zf121 (fun zf160 => (k2 ?_)))
    exact TA.dn (B.n (S.n (cf ((), (z120.set (((nth x0.arcs k122 Arc.zero).frm).toNat) (((nth l118 (((nth x0.arcs k122 Arc.zero).frm).toNat) ([] : List Arc)) ++ [(nth x0.arcs k122 Arc.zero)]), (a157, c158)))) ⟨hh, hn161, zf160⟩ (Sub.pre 1 z))))
  ·skip
   obtain ⟨_, z126⟩ := g
   obtain ⟨hh, hn125, zf127⟩ := hg
   try dsimp only at hn125 zf127 ⊢
   dsimp only [rat_leaving_j1] at hh
   have hn125b := hn125
   have zf127b := zf127.len
   refine TC.know (isSl_nest (q := 0) z zf127) (fun ⟨_, hb162⟩ => ?_)
   refine TC.region (TL.w z (OpVal.succ z z z (by omega)) (TL.i z z (TL.en ?_)))
   obtain ⟨hh, hlt163⟩ := nxt_x hR1 hh
   exact lf (((l118.set (((nth x0.arcs k122 Arc.zero).frm).toNat) ((nth l118 (((nth x0.arcs k122 Arc.zero).frm).toNat) ([] : List Arc)) ++ [(nth x0.arcs k122 Arc.zero)])), (k122 + 1)), z126) hlt163 ⟨hh, hn125, zf127⟩ (Sub.pre 1 z)
 ·refine TC.exit (S.x (S.x ?_))
  replace hh := fin_x hR1 hh
  refine TC.exitHere (S.n (TC.a (TL.s z z (TL.s z z (TL.en ?_)))))
  rw [← hn119]
  refine TC.seals (fun w h => Reach.sealNest encArc_len zf121 h) (fun τ166 hle165 hr164 => ?_)
  have hr164b := hr164.big
  refine TC.ret ?_
  obtain rfl := so hh
  exact rq [2] ⟨a103, c104, z, hr164, z⟩

noncomputable def rat_Alt (x0 : Fst) (x1 : Fst) : Option (Fst × Int) :=
 bnd (rat_both x0 x1) (fun v7 => iteO (!v7) (some ((⟨0, ([] : List Tip), ([] : List Tip), ([] : List Arc)⟩ : Fst), 1)) (bnd (rat_grow_starts (⟨(⟨IntKind.i64.wrap (x0.states + x1.states), ([] : List Tip), ([] : List Tip), ([] : List Arc)⟩ : Fst), false⟩ : Grow) x0.starts 0) (fun v30 => bnd (rat_grow_starts (⟨(⟨v30.f.states, v30.f.starts, v30.f.ends, v30.f.arcs⟩ : Fst), v30.over⟩ : Grow) x1.starts x0.states) (fun v36 => bnd (rat_grow_ends (⟨(⟨v36.f.states, v36.f.starts, v36.f.ends, v36.f.arcs⟩ : Fst), v36.over⟩ : Grow) x0.ends 0) (fun v40 => bnd (rat_grow_ends (⟨(⟨v40.f.states, v40.f.starts, v40.f.ends, v40.f.arcs⟩ : Fst), v40.over⟩ : Grow) x1.ends x0.states) (fun v46 => bnd (rat_grow_arcs (⟨(⟨v46.f.states, v46.f.starts, v46.f.ends, v46.f.arcs⟩ : Fst), v46.over⟩ : Grow) x0.arcs 0) (fun v50 => bnd (rat_grow_arcs (⟨(⟨v50.f.states, v50.f.starts, v50.f.ends, v50.f.arcs⟩ : Fst), v50.over⟩ : Grow) x1.arcs x0.states) (fun v56 => bnd (rat_grow_look (⟨(⟨v56.f.states, v56.f.starts, v56.f.ends, v56.f.arcs⟩ : Fst), v56.over⟩ : Grow)) (fun v57 => some ((⟨v57.1.states, v57.1.starts, v57.1.ends, v57.1.arcs⟩ : Fst), v57.2))))))))))
def rat_Alt_P (σ : Store) (r : Fst × Int) : Value → Store → List Res → Prop := fun v σ' H' =>
 ∃ (a1 : Option Addr), ∃ (c1 : Nat), ∃ (a2 : Option Addr), ∃ (c2 : Nat), ∃ (a3 : Option Addr), ∃ (c3 : Nat),  v = .tuple #[.agg #[.int .i64 r.1.states, .slice a1 r.1.starts.length c1, .slice a2 r.1.ends.length c2, .slice a3 r.1.arcs.length c3], .int .i64 r.2] ∧ RS σ' 2 encTip (.slice a1 r.1.starts.length c1) r.1.starts ∧ RS σ' 2 encTip (.slice a2 r.1.ends.length c2) r.1.ends ∧ RS σ' 8 encArc (.slice a3 r.1.arcs.length c3) r.1.arcs ∧ H' = []
theorem rat_Alt_con {σ : Store} {x0 : Fst} {a0_0 : Option Addr} {c0_0 : Nat} {a0_1 : Option Addr} {c0_1 : Nat} {a0_2 : Option Addr} {c0_2 : Nat} {x1 : Fst} {a1_0 : Option Addr} {c1_0 : Nat} {a1_1 : Option Addr} {c1_1 : Nat} {a1_2 : Option Addr} {c1_2 : Nat} (f0_0 : RS σ 2 encTip (.slice a0_0 x0.starts.length c0_0) x0.starts) (f0_1 : RS σ 2 encTip (.slice a0_1 x0.ends.length c0_1) x0.ends) (f0_2 : RS σ 8 encArc (.slice a0_2 x0.arcs.length c0_2) x0.arcs) (f1_0 : RS σ 2 encTip (.slice a1_0 x1.starts.length c1_0) x1.starts) (f1_1 : RS σ 2 encTip (.slice a1_1 x1.ends.length c1_1) x1.ends) (f1_2 : RS σ 8 encArc (.slice a1_2 x1.arcs.length c1_2) x1.arcs) {r : Fst × Int} (hh : rat_Alt x0 x1 = some r) :
  Con Tryz.prog 26 #[.agg #[.int .i64 x0.states, .slice a0_0 x0.starts.length c0_0, .slice a0_1 x0.ends.length c0_1, .slice a0_2 x0.arcs.length c0_2], .agg #[.int .i64 x1.states, .slice a1_0 x1.starts.length c1_0, .slice a1_1 x1.ends.length c1_1, .slice a1_2 x1.arcs.length c1_2]] σ [] (rat_Alt_P σ r) := by
 dsimp only [rat_Alt] at hh
 have f0_0b := f0_0.rv.big
 have f0_1b := f0_1.rv.big
 have f0_2b := f0_2.rv.big
 have f1_0b := f1_0.rv.big
 have f1_1b := f1_1.rv.big
 have f1_2b := f1_2.rv.big
 refine Con.mkD (n := 54) Tryz.func26 z z z (fun w0 => ?_)
 refine TB.seq endR_ret (TC.region (TL.op z (boxA z z z z (fun b101 => ?_))))
 refine TL.op z (boxA z z z z (fun b103 => ?_))
 refine TL.op z (OpOk.alloc z ze25 z z (fun b105 => ?_))
 refine TL.op z (OpOk.alloc z ze27 z z (fun b107 => ?_))
 refine TL.en (TB.seq endR_ret (TC.a (TL.w z (loadAll z ag25 sz25 z (i := 3) z z) (TL.w z (loadAll z ag25 sz25 z (i := 2) z z) ?_))))
 obtain ⟨v7, u7, hh⟩ := bnd_e hh
 refine TL.op z (callP (rat_both_con (x0 := x0) (x1 := x1) f0_0 f0_1 f0_2 f1_0 f1_1 f1_2 u7) z z pf64 z z z ?_)
 refine TL.w z (OpVal.not z z) (TL.en (TC.cB z hh (fun h109 hh => ?_) (fun h109 hh => ?_)))
 ·refine TC.a (TL.w z (buildL z pl25 ze25 z) (TL.front 1 z z (TL.op z (storeAll z sz25 z z z z z z ?_))))
  refine TL.front 1 z z (TL.op z (storeI z sz27 z z z z z ?_))
  refine TL.en (TC.ofSub (Sub.f [1] 2) (TC.ret (S.r ?_)))
  obtain rfl := so hh
  exact ro [] z (RVs.agg ag25 sz25 z (i := 0) z z (RVs.one ag27 z (i := 1) z z RVs.nil)) ⟨none, 0, none, 0, none, 0, z, (RS.nilF _ encTip encTip_len), (RS.nilF _ encTip encTip_len), (RS.nilF _ encArc encArc_len), z⟩
 ·refine TC.skip (S.n (TB.seq endR_ret (TC.region (TL.w z (buildL z pl96 ze96 z) (TL.op z (boxA z z z z (fun b110 => ?_)))))))
  refine TL.l z z (TL.en (TB.seqD (TLB.v z (moveLoc (.inl z) z) z z (TLB.dfr (dargs := [loc b110 0, loc b105 0, loc b107 0]) z z z z z (fun a_ w_ hw_ ha_ => ?_)))))
  refine TB.fin (Q := dfrQ _ _ _ _ 48 [loc b110 0, loc b105 0, loc b107 0]) (endR_dfr (cap := []) (dargs := [loc b110 0, loc b105 0, loc b107 0]) pf48) ?_ w_ a_ hw_ ha_
  clear hw_ ha_ a_ w_
  refine TC.a (TL.l z z (TL.w z (fieldLoc z fo25_0 z) (TL.w z (loadLoc z ag3 z (i := 4) z z) (TL.w z (fieldLoc z fo25_0 z) (TL.w z (loadLoc z ag3 z (i := 3) z z) (TL.w z (addW z z z) (TL.w z (nilCheckLoc z z) (TL.w z (fieldLoc z fo96_0 z) (TL.w z (fieldLoc z fo25_0 z) (TL.op z (storeI z sz3 z z z z z ?_)))))))))))
  refine TL.en (TC.a (TL.l z z (TL.w z (fieldLoc z fo25_1 z) (TL.w z (loadLoc z ag22 z (i := 4) z z) (TL.nilS 53 2 encTip (TL.nilS 53 2 encTip (TL.nilS 66 8 encArc (TL.front 1 z z (TL.front 2 z z (TL.front 3 z z ?_))))))))))
  obtain ⟨v30, u30, hh⟩ := bnd_e hh
  refine TL.op z (OpOk.call (rat_grow_starts_con f0_0 u30) z z pf65 z z z z ?_)
  rintro _ _ _ hle115 ⟨a115_1, c115_2, a115_3, c115_4, a115_5, c115_6, rfl, rfl, rfl⟩
  refine TL.en (TC.a (TL.l z z (TL.w z (fieldLoc z fo25_1 z) (TL.w z (loadLoc z ag22 z (i := 6) z z) (TL.w z (fieldLoc z fo25_0 z) (TL.w z (loadLoc z ag3 z (i := 7) z z) (TL.front 3 z z (TL.front 3 z z (TL.front 3 z z (TL.front 3 z z ?_))))))))))
  obtain ⟨v36, u36, hh⟩ := bnd_e hh
  refine TL.op z (OpOk.call (rat_grow_starts_con f1_0 u36) z z pf65 z z z z ?_)
  rintro _ _ _ hle119 ⟨a119_1, c119_2, a119_3, c119_4, a119_5, c119_6, rfl, rfl, rfl⟩
  refine TL.en (TC.a (TL.l z z (TL.w z (fieldLoc z fo25_2 z) (TL.w z (loadLoc z ag22 z (i := 7) z z) (TL.front 3 z z (TL.front 3 z z (TL.front 3 z z (TL.front 3 z z ?_))))))))
  obtain ⟨v40, u40, hh⟩ := bnd_e hh
  refine TL.op z (OpOk.call (rat_grow_ends_con f0_1 u40) z z pf51 z z z z ?_)
  rintro _ _ _ hle123 ⟨a123_1, c123_2, a123_3, c123_4, a123_5, c123_6, rfl, rfl, rfl⟩
  refine TL.en (TC.a (TL.l z z (TL.w z (fieldLoc z fo25_2 z) (TL.w z (loadLoc z ag22 z (i := 6) z z) (TL.w z (fieldLoc z fo25_0 z) (TL.w z (loadLoc z ag3 z (i := 7) z z) (TL.front 3 z z (TL.front 3 z z (TL.front 3 z z (TL.front 3 z z ?_))))))))))
  obtain ⟨v46, u46, hh⟩ := bnd_e hh
  refine TL.op z (OpOk.call (rat_grow_ends_con f1_1 u46) z z pf51 z z z z ?_)
  rintro _ _ _ hle127 ⟨a127_1, c127_2, a127_3, c127_4, a127_5, c127_6, rfl, rfl, rfl⟩
  refine TL.en (TC.a (TL.l z z (TL.w z (fieldLoc z fo25_3 z) (TL.w z (loadLoc z ag23 z (i := 7) z z) (TL.front 3 z z (TL.front 3 z z (TL.front 3 z z (TL.front 3 z z ?_))))))))
  obtain ⟨v50, u50, hh⟩ := bnd_e hh
  refine TL.op z (OpOk.call (rat_grow_arcs_con f0_2 u50) z z pf52 z z z z ?_)
  rintro _ _ _ hle131 ⟨a131_1, c131_2, a131_3, c131_4, a131_5, c131_6, rfl, rfl, rfl⟩
  refine TL.en (TC.a (TL.l z z (TL.w z (fieldLoc z fo25_3 z) (TL.w z (loadLoc z ag23 z (i := 6) z z) (TL.w z (fieldLoc z fo25_0 z) (TL.w z (loadLoc z ag3 z (i := 7) z z) (TL.front 3 z z (TL.front 3 z z (TL.front 3 z z (TL.front 3 z z ?_))))))))))
  obtain ⟨v56, u56, hh⟩ := bnd_e hh
  refine TL.op z (OpOk.call (rat_grow_arcs_con f1_2 u56) z z pf52 z z z z ?_)
  rintro _ _ _ hle135 ⟨a135_1, c135_2, a135_3, c135_4, a135_5, c135_6, rfl, rfl, rfl⟩
  refine TL.en (TC.front 4 z z (TC.front 5 z z (TC.front 5 z z (TC.front 5 z z (TC.front 5 z z (TC.front 5 z z ?_))))))
  obtain ⟨v57, u57, hh⟩ := bnd_e hh
  refine TC.ret (⟨.inl z, _, Sub.pre 6 z, (rat_grow_look_con u57).mono ?_⟩)
  rintro _ τ139 _ hle139 ⟨a139_1, c139_2, a139_4, c139_5, a139_7, c139_8, rfl, f139_3, f139_6, f139_9, rfl⟩
  have f139_3b := f139_3.rv.big
  have f139_6b := f139_6.rv.big
  have f139_9b := f139_9.rv.big
  obtain rfl := so hh
  exact RetOk.mk' (rs := [.cell 4 25, .cell 5 27]) [] z (.inl z) (RVs.agg ag25 sz25 z (i := 0) z z (RVs.one ag27 z (i := 1) z z RVs.nil)) (List.nil_sublist _) ⟨a139_1, c139_2, a139_4, c139_5, a139_7, c139_8, z, f139_3, f139_6, f139_9, z⟩

noncomputable def rat_free_j1 (k111 : Nat) : Option ((Nat) ⊕ ((Nat) ⊕ (Bool))) :=
 nxt (k111 + 1)
noncomputable def rat_free_b2 (x0 : Fst) (k105 : Nat) (k111 : Nat) : Option ((Nat) ⊕ ((Nat) ⊕ (Bool))) :=
 iteO (decide (((k111 : Nat) : Int) < ((x0.ends.length : Nat) : Int))) (iteO (decide (((nth x0.starts k105 Tip.zero).state) = ((nth x0.ends k111 Tip.zero).state))) (iteO (decide ((nth x0.starts k105 Tip.zero).out ≠ ([] : List UInt8))) (fin (fin (some true))) (iteO (decide ((nth x0.ends k111 Tip.zero).out ≠ ([] : List UInt8))) (fin (fin (some true))) (rat_free_j1 k111))) (rat_free_j1 k111)) (fin (nxt (k105 + 1)))
noncomputable def rat_free_b1 (x0 : Fst) (k105 : Nat) : Option ((Nat) ⊕ (Bool)) :=
 iteO (decide (((k105 : Nat) : Int) < ((x0.starts.length : Nat) : Int))) (iter (fun q : Nat => rat_free_b2 x0 k105 q) 0) (fin (some false))
noncomputable def rat_free (x0 : Fst) : Option (Bool) :=
 iter (fun q : Nat => rat_free_b1 x0 q) 0
theorem rat_free_con {σ : Store} {x0 : Fst} {a0_0 : Option Addr} {c0_0 : Nat} {a0_1 : Option Addr} {c0_1 : Nat} {a0_2 : Option Addr} {c0_2 : Nat} (f0_0 : RS σ 2 encTip (.slice a0_0 x0.starts.length c0_0) x0.starts) (f0_1 : RS σ 2 encTip (.slice a0_1 x0.ends.length c0_1) x0.ends) (f0_2 : RS σ 8 encArc (.slice a0_2 x0.arcs.length c0_2) x0.arcs) {r : Bool} (hh : rat_free x0 = some r) :
  Con Tryz.prog 47 #[.agg #[.int .i64 x0.states, .slice a0_0 x0.starts.length c0_0, .slice a0_1 x0.ends.length c0_1, .slice a0_2 x0.arcs.length c0_2]] σ [] (PureP (.bool r) σ) := by
 dsimp only [rat_free] at hh
 have f0_0b := f0_0.rv.big
 have f0_1b := f0_1.rv.big
 have f0_2b := f0_2.rv.big
 refine Con.mk (n := 38) Tryz.func47 z z z (fun w0 => ?_)
 refine TC.a (TL.op z (boxA z z z z (fun b101 => ?_)))
 refine TL.j z z (TL.en (TC.seq (TC.a (TL.w z (fieldLoc z fo25_1 z) (TL.w z (loadLoc z ag22 z (i := 0) z z) (TL.w z (lenC z underlying22 z) (TL.i z z (TL.en (TC.block (TC.loopG (α := (Nat) × (Unit)) (rgs [(2, 1), (4, 1), (6, 1), (10, 28)]) (fun g => [(10, .int .i64 ((g.1 : Nat) : Int))]) (fun g => [Res.cells b101 #[.int .i64 x0.states, .slice a0_0 x0.starts.length c0_0, .slice a0_1 x0.ends.length c0_1, .slice a0_2 x0.arcs.length c0_2] 25]) (fun g => σ) (fun g => iter (fun q : Nat => rat_free_b1 x0 q) g.1 = some r) (fun g => rounds (fun q : Nat => rat_free_b1 x0 q) g.1) (0, ()) (Sub.pre 1 z) z (by repeat (first | exact trivial | refine ⟨z, ?_⟩)) hh (fun g1 j1 hg1 => ?_)))))))))))
 obtain ⟨k105, _⟩ := g1
 have hh := hg1; clear hg1
 try dsimp only
 obtain ⟨z1, hh, hR1⟩ := iter_e hh
 dsimp only [rat_free_b1] at hh
 refine TC.a (TL.w z (OpVal.lss z z z) (TL.en (TC.seq (TC.cD z hh (fun h106 hh => ?_) (fun h106 hh => ?_)))))
 ·refine TC.skip (S.n (TC.seq (TC.block (TC.a (TL.w z (indexN z underlying22 sz53 z z f0_0.rv.sl (by omega)) (TL.w z (loadSA Tip.zero z ag53 sz53 z f0_0 (by omega) (by omega)) (TL.op z (OpOk.alloc z ze53 z z (fun b107 => ?_)))))))))
  refine TL.op z (storeAll z sz53 z z z z z z ?_)
  refine TL.en (TC.a (TL.w z (fieldLoc z fo25_2 z) (TL.w z (loadLoc z ag22 z (i := 1) z z) (TL.w z (lenC z underlying22 z) (TL.i z z (TL.en (TC.block (TC.loopG (α := (Nat) × (Unit)) (rgs [(2, 1), (6, 1), (17, 20)]) (fun g => [(17, .int .i64 ((g.1 : Nat) : Int))]) (fun g => [Res.cells b101 #[.int .i64 x0.states, .slice a0_0 x0.starts.length c0_0, .slice a0_1 x0.ends.length c0_1, .slice a0_2 x0.arcs.length c0_2] 25, Res.cells b107 #[.int .i64 ((nth x0.starts k105 Tip.zero).state), .string (bs ((nth x0.starts k105 Tip.zero).out))] 53]) (fun g => σ) (fun g => iter (fun q : Nat => rat_free_b2 x0 k105 q) g.1 = some z1) (fun g => rounds (fun q : Nat => rat_free_b2 x0 k105 q) g.1) (0, ()) (Sub.f [1] 2) z (by repeat (first | exact trivial | refine ⟨z, ?_⟩)) hh (fun g2 j2 hg2 => ?_)))))))))
  obtain ⟨k111, _⟩ := g2
  have hh := hg2; clear hg2
  try dsimp only
  obtain ⟨z2, hh, hR2⟩ := iter_e hh
  dsimp only [rat_free_b2] at hh
  refine TC.a (TL.w z (OpVal.lss z z z) (TL.en (TC.seq (TC.cD z hh (fun h112 hh => ?_) (fun h112 hh => ?_)))))
  ·refine TC.skip (S.n (TC.cutG (α := (Unit) × (Unit)) (rgs [(2, 1), (6, 1), (19, 17)]) (fun g => []) (fun g => [Res.cells b101 #[.int .i64 x0.states, .slice a0_0 x0.starts.length c0_0, .slice a0_1 x0.ends.length c0_1, .slice a0_2 x0.arcs.length c0_2] 25, Res.cells b107 #[.int .i64 ((nth x0.starts k105 Tip.zero).state), .string (bs ((nth x0.starts k105 Tip.zero).out))] 53]) (fun g => σ) (fun g => rat_free_j1 k111 = some z2) ?_ (fun g j hg => ?_)))
   ·skip
    refine TC.block (TC.a (TL.w z (indexN z underlying22 sz53 z z f0_1.rv.sl (by omega)) (TL.w z (loadSA Tip.zero z ag53 sz53 z f0_1 (by omega) (by omega)) (TL.op z (OpOk.alloc z ze53 z z (fun b113 => ?_))))))
    refine TL.op z (storeAll z sz53 z z z z z z ?_)
    refine TL.en (TC.a (TL.w z (fieldLoc z fo53_0 z) (TL.w z (loadLoc z ag3 z (i := 2) z z) (TL.w z (fieldLoc z fo53_0 z) (TL.w z (loadLoc z ag3 z (i := 0) z z) (TL.w z (OpVal.eql z z z) (TL.j z z (TL.split 26 z (fun h115 => ?_) (fun h115 => ?_)))))))))
    ·replace hh := iteO_t h115 hh
     replace h115 := of_decide_eq_true h115
     refine TL.g z (fieldLoc z fo53_1 z) (TL.g z (loadLoc z ag9 z (i := 2) z z) (TL.g z (neqBs z z z) (TL.g z (moveB (.inl z) z) (TL.split 30 z (fun h116 => ?_) (fun h116 => ?_)))))
     ·replace hh := iteO_t h116 hh
      replace h116 := of_decide_eq_true h116
      refine TL.f z (TL.f z (TL.f z (TL.g z (pickTB z z z) (TL.w z (pickTB z z z) (TL.en (TC.t z (TC.a (TL.j z z (TL.en (TC.rt 0 (B.r (S.r (S.r ?_)))))))))))))
      replace hh := fin_x hR2 hh
      refine B.r (B.r (S.r (S.r ?_)))
      replace hh := fin_x hR1 hh
      refine B.r (S.r ?_)
      obtain rfl := so hh
      exact rq [2] ⟨z, z, z⟩
     ·replace hh := iteO_f h116 hh
      replace h116 := of_decide_eq_false h116
      refine TL.g z (fieldLoc z fo53_1 z) (TL.g z (loadLoc z ag9 z (i := 0) z z) (TL.g z (neqBs z z z) (TL.g z (pickFB z z z) (TL.w z (pickTB z z z) (TL.en (TC.cD z hh (fun h117 hh => ?_) (fun h117 hh => ?_)))))))
      ·refine TC.a (TL.j z z (TL.en (TC.rt 0 (B.r (S.r (S.r ?_))))))
       replace hh := fin_x hR2 hh
       refine B.r (B.r (S.r (S.r ?_)))
       replace hh := fin_x hR1 hh
       refine B.r (S.r ?_)
       obtain rfl := so hh
       exact rq [2] ⟨z, z, z⟩
      ·exact TC.skip (B.n (S.n (cf ((), ()) hh (Sub.f [2, 2] 2))))
    ·replace hh := iteO_f h115 hh
     replace h115 := of_decide_eq_false h115
     exact TL.f z (TL.f z (TL.f z (TL.f z (TL.f z (TL.f z (TL.f z (TL.f z (TL.w z (pickFB z z z) (TL.en (TC.f z (TC.skip (B.n (S.n (cf ((), ()) hh (Sub.f [2, 2] 2)))))))))))))))
   ·skip
    obtain ⟨_, _⟩ := g
    have hh := hg; clear hg
    try dsimp only
    dsimp only [rat_free_j1] at hh
    refine TC.region (TL.w z (OpVal.succ z z z (by omega)) (TL.i z z (TL.en ?_)))
    obtain ⟨hh, hlt118⟩ := nxt_x hR2 hh
    exact lf ((k111 + 1), ()) hlt118 hh (Sub.f [1, 1] 2)
  ·refine TC.exit (S.x (S.x ?_))
   replace hh := fin_x hR2 hh
   refine TC.exitHere (B.n (S.n (TC.region (TL.w z (OpVal.succ z z z (by omega)) (TL.i z z (TL.en ?_))))))
   obtain ⟨hh, hlt119⟩ := nxt_x hR1 hh
   exact lf ((k105 + 1), ()) hlt119 hh (Sub.pre 1 z)
 ·refine TC.exit (S.x (S.x ?_))
  replace hh := fin_x hR1 hh
  refine TC.exitHere (S.n (TC.a (TL.j z z (TL.en (TC.rt 0 ?_)))))
  obtain rfl := so hh
  exact rq [2] ⟨z, z, z⟩

noncomputable def rat_Cat_j1 (l147 : List (List Tip)) (x1 : Fst) (k151 : Nat) : Option (((List (List Tip)) × Nat) ⊕ (Fst × Int)) :=
 nxt ((l147.set (((nth x1.ends k151 Tip.zero).state).toNat) ((nth l147 (((nth x1.ends k151 Tip.zero).state).toNat) ([] : List Tip)) ++ [(nth x1.ends k151 Tip.zero)])), (k151 + 1))
noncomputable def rat_Cat_j2 (k311 : Nat) (i329 : Int) (l331 : List Tip) (l335 : List Tip) (l339 : List Arc) (t342 : Bool) : Option ((Int × (List Tip) × (List Tip) × (List Arc) × Bool × Nat) ⊕ ((Int × (List Tip) × (List Tip) × (List Arc) × Bool × Nat) ⊕ (Fst × Int))) :=
 iteO t342 (bnd (rat_grow_look (⟨(⟨i329, l331, l335, l339⟩ : Fst), t342⟩ : Grow)) (fun v168 => fin (fin (some ((⟨v168.1.states, v168.1.starts, v168.1.ends, v168.1.arcs⟩ : Fst), v168.2))))) (nxt (i329, l331, l335, l339, t342, (k311 + 1)))
noncomputable def rat_Cat_b4 (l147 : List (List Tip)) (x1 : Fst) (k311 : Nat) (x0 : Fst) (k251 : Nat) (i383 : Int) (l385 : List Tip) (l389 : List Tip) (l393 : List Arc) (t396 : Bool) (k399 : Nat) : Option ((Int × (List Tip) × (List Tip) × (List Arc) × Bool × Nat) ⊕ ((Int × (List Tip) × (List Tip) × (List Arc) × Bool × Nat) ⊕ ((Int × (List Tip) × (List Tip) × (List Arc) × Bool × Nat) ⊕ (Fst × Int)))) :=
 iteO (decide (((k399 : Nat) : Int) < (((nth l147 (((nth x1.starts k311 Tip.zero).state).toNat) ([] : List Tip)).length : Nat) : Int))) (grd (((nth x0.ends k251 Tip.zero).out).length + ((nth x1.starts k311 Tip.zero).out).length ≤ 9223372036854775807) (grd (((nth x0.ends k251 Tip.zero).out ++ (nth x1.starts k311 Tip.zero).out).length + ((nth (nth l147 (((nth x1.starts k311 Tip.zero).state).toNat) ([] : List Tip)) k399 Tip.zero).out).length ≤ 9223372036854775807) (bnd (rat_grow_end (⟨(⟨i383, l385, l389, l393⟩ : Fst), t396⟩ : Grow) (⟨(nth x0.ends k251 Tip.zero).state, (((nth x0.ends k251 Tip.zero).out ++ (nth x1.starts k311 Tip.zero).out) ++ (nth (nth l147 (((nth x1.starts k311 Tip.zero).state).toNat) ([] : List Tip)) k399 Tip.zero).out)⟩ : Tip)) (fun v135 => iteO v135.over (fin (rat_Cat_j2 k311 v135.f.states v135.f.starts v135.f.ends v135.f.arcs v135.over)) (nxt (v135.f.states, v135.f.starts, v135.f.ends, v135.f.arcs, v135.over, (k399 + 1))))))) (fin (rat_Cat_j2 k311 i383 l385 l389 l393 t396))
noncomputable def rat_Cat_b3 (x1 : Fst) (v48 : (List (List Arc))) (x0 : Fst) (k251 : Nat) (l147 : List (List Tip)) (i295 : Int) (l297 : List Tip) (l301 : List Tip) (l305 : List Arc) (t308 : Bool) (k311 : Nat) : Option ((Int × (List Tip) × (List Tip) × (List Arc) × Bool × Nat) ⊕ ((Int × (List Tip) × (List Tip) × (List Arc) × Bool × Nat) ⊕ (Fst × Int))) :=
 iteO (decide (((k311 : Nat) : Int) < ((x1.starts.length : Nat) : Int))) (grd (0 ≤ ((nth x1.starts k311 Tip.zero).state) ∧ ((nth x1.starts k311 Tip.zero).state) < (v48.length : Int)) (bnd (rat_grow_bridge (⟨(⟨i295, l297, l301, l305⟩ : Fst), t308⟩ : Grow) ((nth x0.ends k251 Tip.zero).state) ((nth x0.ends k251 Tip.zero).out) ((nth x1.starts k311 Tip.zero).out) (nth v48 (((nth x1.starts k311 Tip.zero).state).toNat) ([] : List Arc)) x0.states) (fun v110 => grd (0 ≤ ((nth x1.starts k311 Tip.zero).state) ∧ ((nth x1.starts k311 Tip.zero).state) < (l147.length : Int)) (iter (fun q : Int × (List Tip) × (List Tip) × (List Arc) × Bool × Nat => rat_Cat_b4 l147 x1 k311 x0 k251 q.1 q.2.1 q.2.2.1 q.2.2.2.1 q.2.2.2.2.1 q.2.2.2.2.2) (v110.f.states, v110.f.starts, v110.f.ends, v110.f.arcs, v110.over, 0))))) (fin (nxt (i295, l297, l301, l305, t308, (k251 + 1))))
noncomputable def rat_Cat_b2 (x0 : Fst) (x1 : Fst) (v48 : (List (List Arc))) (l147 : List (List Tip)) (i235 : Int) (l237 : List Tip) (l241 : List Tip) (l245 : List Arc) (t248 : Bool) (k251 : Nat) : Option ((Int × (List Tip) × (List Tip) × (List Arc) × Bool × Nat) ⊕ (Fst × Int)) :=
 iteO (decide (((k251 : Nat) : Int) < ((x0.ends.length : Nat) : Int))) (iter (fun q : Int × (List Tip) × (List Tip) × (List Arc) × Bool × Nat => rat_Cat_b3 x1 v48 x0 k251 l147 q.1 q.2.1 q.2.2.1 q.2.2.2.1 q.2.2.2.2.1 q.2.2.2.2.2) (i235, l237, l241, l245, t248, 0)) (fin (bnd (rat_grow_look (⟨(⟨i235, l237, l241, l245⟩ : Fst), t248⟩ : Grow)) (fun v169 => some ((⟨v169.1.states, v169.1.starts, v169.1.ends, v169.1.arcs⟩ : Fst), v169.2))))
noncomputable def rat_Cat_b1 (x1 : Fst) (x0 : Fst) (v48 : (List (List Arc))) (v46 : Grow) (l147 : List (List Tip)) (k151 : Nat) : Option (((List (List Tip)) × Nat) ⊕ (Fst × Int)) :=
 iteO (decide (((k151 : Nat) : Int) < ((x1.ends.length : Nat) : Int))) (grd (0 ≤ ((nth x1.ends k151 Tip.zero).state) ∧ ((nth x1.ends k151 Tip.zero).state) < (l147.length : Int)) (grd (((nth l147 (((nth x1.ends k151 Tip.zero).state).toNat) ([] : List Tip)).length + [(nth x1.ends k151 Tip.zero)].length) * 24 ≤ 140737488355328) (grd (0 ≤ ((nth x1.ends k151 Tip.zero).state) ∧ ((nth x1.ends k151 Tip.zero).state) < (l147.length : Int)) (rat_Cat_j1 l147 x1 k151)))) (fin (iter (fun q : Int × (List Tip) × (List Tip) × (List Arc) × Bool × Nat => rat_Cat_b2 x0 x1 v48 l147 q.1 q.2.1 q.2.2.1 q.2.2.2.1 q.2.2.2.2.1 q.2.2.2.2.2) (v46.f.states, v46.f.starts, v46.f.ends, v46.f.arcs, v46.over, 0)))
noncomputable def rat_Cat (x0 : Fst) (x1 : Fst) : Option (Fst × Int) :=
 bnd (rat_both x0 x1) (fun v7 => iteO (!v7) (some ((⟨0, ([] : List Tip), ([] : List Tip), ([] : List Arc)⟩ : Fst), 1)) (bnd (rat_grow_starts (⟨(⟨IntKind.i64.wrap (x0.states + x1.states), ([] : List Tip), ([] : List Tip), ([] : List Arc)⟩ : Fst), false⟩ : Grow) x0.starts 0) (fun v30 => bnd (rat_grow_ends (⟨(⟨v30.f.states, v30.f.starts, v30.f.ends, v30.f.arcs⟩ : Fst), v30.over⟩ : Grow) x1.ends x0.states) (fun v36 => bnd (rat_grow_arcs (⟨(⟨v36.f.states, v36.f.starts, v36.f.ends, v36.f.arcs⟩ : Fst), v36.over⟩ : Grow) x0.arcs 0) (fun v40 => bnd (rat_grow_arcs (⟨(⟨v40.f.states, v40.f.starts, v40.f.ends, v40.f.arcs⟩ : Fst), v40.over⟩ : Grow) x1.arcs x0.states) (fun v46 => bnd (rat_leaving x1) (fun v48 => grd (0 ≤ x1.states ∧ 24 * x1.states.toNat ≤ 281474976710656) (iter (fun q : (List (List Tip)) × Nat => rat_Cat_b1 x1 x0 v48 v46 q.1 q.2) ((List.replicate x1.states.toNat ([] : List Tip)), 0)))))))))
def rat_Cat_P (σ : Store) (r : Fst × Int) : Value → Store → List Res → Prop := fun v σ' H' =>
 ∃ (a1 : Option Addr), ∃ (c1 : Nat), ∃ (a2 : Option Addr), ∃ (c2 : Nat), ∃ (a3 : Option Addr), ∃ (c3 : Nat),  v = .tuple #[.agg #[.int .i64 r.1.states, .slice a1 r.1.starts.length c1, .slice a2 r.1.ends.length c2, .slice a3 r.1.arcs.length c3], .int .i64 r.2] ∧ RS σ' 2 encTip (.slice a1 r.1.starts.length c1) r.1.starts ∧ RS σ' 2 encTip (.slice a2 r.1.ends.length c2) r.1.ends ∧ RS σ' 8 encArc (.slice a3 r.1.arcs.length c3) r.1.arcs ∧ H' = []
theorem rat_Cat_con {σ : Store} {x0 : Fst} {a0_0 : Option Addr} {c0_0 : Nat} {a0_1 : Option Addr} {c0_1 : Nat} {a0_2 : Option Addr} {c0_2 : Nat} {x1 : Fst} {a1_0 : Option Addr} {c1_0 : Nat} {a1_1 : Option Addr} {c1_1 : Nat} {a1_2 : Option Addr} {c1_2 : Nat} (f0_0 : RS σ 2 encTip (.slice a0_0 x0.starts.length c0_0) x0.starts) (f0_1 : RS σ 2 encTip (.slice a0_1 x0.ends.length c0_1) x0.ends) (f0_2 : RS σ 8 encArc (.slice a0_2 x0.arcs.length c0_2) x0.arcs) (f1_0 : RS σ 2 encTip (.slice a1_0 x1.starts.length c1_0) x1.starts) (f1_1 : RS σ 2 encTip (.slice a1_1 x1.ends.length c1_1) x1.ends) (f1_2 : RS σ 8 encArc (.slice a1_2 x1.arcs.length c1_2) x1.arcs) {r : Fst × Int} (hh : rat_Cat x0 x1 = some r) :
  Con Tryz.prog 28 #[.agg #[.int .i64 x0.states, .slice a0_0 x0.starts.length c0_0, .slice a0_1 x0.ends.length c0_1, .slice a0_2 x0.arcs.length c0_2], .agg #[.int .i64 x1.states, .slice a1_0 x1.starts.length c1_0, .slice a1_1 x1.ends.length c1_1, .slice a1_2 x1.arcs.length c1_2]] σ [] (rat_Cat_P σ r) := by
 dsimp only [rat_Cat] at hh
 have f0_0b := f0_0.rv.big
 have f0_1b := f0_1.rv.big
 have f0_2b := f0_2.rv.big
 have f1_0b := f1_0.rv.big
 have f1_1b := f1_1.rv.big
 have f1_2b := f1_2.rv.big
 refine Con.mkD (n := 142) Tryz.func28 z z z (fun w0 => ?_)
 refine TB.seq endR_ret (TC.region (TL.op z (boxA z z z z (fun b101 => ?_))))
 refine TL.op z (boxA z z z z (fun b103 => ?_))
 refine TL.op z (OpOk.alloc z ze25 z z (fun b105 => ?_))
 refine TL.op z (OpOk.alloc z ze27 z z (fun b107 => ?_))
 refine TL.en (TB.seq endR_ret (TC.a (TL.w z (loadAll z ag25 sz25 z (i := 3) z z) (TL.w z (loadAll z ag25 sz25 z (i := 2) z z) ?_))))
 obtain ⟨v7, u7, hh⟩ := bnd_e hh
 refine TL.op z (callP (rat_both_con (x0 := x0) (x1 := x1) f0_0 f0_1 f0_2 f1_0 f1_1 f1_2 u7) z z pf64 z z z ?_)
 refine TL.w z (OpVal.not z z) (TL.en (TC.cB z hh (fun h109 hh => ?_) (fun h109 hh => ?_)))
 ·refine TC.a (TL.w z (buildL z pl25 ze25 z) (TL.front 1 z z (TL.op z (storeAll z sz25 z z z z z z ?_))))
  refine TL.front 1 z z (TL.op z (storeI z sz27 z z z z z ?_))
  refine TL.en (TC.ofSub (Sub.f [1] 2) (TC.ret (S.r ?_)))
  obtain rfl := so hh
  exact ro [] z (RVs.agg ag25 sz25 z (i := 0) z z (RVs.one ag27 z (i := 1) z z RVs.nil)) ⟨none, 0, none, 0, none, 0, z, (RS.nilF _ encTip encTip_len), (RS.nilF _ encTip encTip_len), (RS.nilF _ encArc encArc_len), z⟩
 ·refine TC.skip (S.n (TB.seq endR_ret (TC.region (TL.w z (buildL z pl96 ze96 z) (TL.op z (boxA z z z z (fun b110 => ?_)))))))
  refine TL.l z z (TL.en (TB.seqD (TLB.v z (moveLoc (.inl z) z) z z (TLB.dfr (dargs := [loc b110 0, loc b105 0, loc b107 0]) z z z z z (fun a_ w_ hw_ ha_ => ?_)))))
  refine TB.fin (Q := dfrQ _ _ _ _ 48 [loc b110 0, loc b105 0, loc b107 0]) (endR_dfr (cap := []) (dargs := [loc b110 0, loc b105 0, loc b107 0]) pf48) ?_ w_ a_ hw_ ha_
  clear hw_ ha_ a_ w_
  refine TC.a (TL.l z z (TL.w z (fieldLoc z fo25_0 z) (TL.w z (loadLoc z ag3 z (i := 4) z z) (TL.w z (fieldLoc z fo25_0 z) (TL.w z (loadLoc z ag3 z (i := 3) z z) (TL.w z (addW z z z) (TL.w z (nilCheckLoc z z) (TL.w z (fieldLoc z fo96_0 z) (TL.w z (fieldLoc z fo25_0 z) (TL.op z (storeI z sz3 z z z z z ?_)))))))))))
  refine TL.en (TC.a (TL.l z z (TL.w z (fieldLoc z fo25_1 z) (TL.w z (loadLoc z ag22 z (i := 4) z z) (TL.nilS 53 2 encTip (TL.nilS 53 2 encTip (TL.nilS 66 8 encArc (TL.front 1 z z (TL.front 2 z z (TL.front 3 z z ?_))))))))))
  obtain ⟨v30, u30, hh⟩ := bnd_e hh
  refine TL.op z (OpOk.call (rat_grow_starts_con f0_0 u30) z z pf65 z z z z ?_)
  rintro _ _ _ hle115 ⟨a115_1, c115_2, a115_3, c115_4, a115_5, c115_6, rfl, rfl, rfl⟩
  refine TL.en (TC.a (TL.l z z (TL.w z (fieldLoc z fo25_2 z) (TL.w z (loadLoc z ag22 z (i := 6) z z) (TL.w z (fieldLoc z fo25_0 z) (TL.w z (loadLoc z ag3 z (i := 7) z z) (TL.front 3 z z (TL.front 3 z z (TL.front 3 z z (TL.front 3 z z ?_))))))))))
  obtain ⟨v36, u36, hh⟩ := bnd_e hh
  refine TL.op z (OpOk.call (rat_grow_ends_con f1_1 u36) z z pf51 z z z z ?_)
  rintro _ _ _ hle119 ⟨a119_1, c119_2, a119_3, c119_4, a119_5, c119_6, rfl, rfl, rfl⟩
  refine TL.en (TC.a (TL.l z z (TL.w z (fieldLoc z fo25_3 z) (TL.w z (loadLoc z ag23 z (i := 7) z z) (TL.front 3 z z (TL.front 3 z z (TL.front 3 z z (TL.front 3 z z ?_))))))))
  obtain ⟨v40, u40, hh⟩ := bnd_e hh
  refine TL.op z (OpOk.call (rat_grow_arcs_con f0_2 u40) z z pf52 z z z z ?_)
  rintro _ _ _ hle123 ⟨a123_1, c123_2, a123_3, c123_4, a123_5, c123_6, rfl, rfl, rfl⟩
  refine TL.en (TC.a (TL.l z z (TL.w z (fieldLoc z fo25_3 z) (TL.w z (loadLoc z ag23 z (i := 6) z z) (TL.w z (fieldLoc z fo25_0 z) (TL.w z (loadLoc z ag3 z (i := 7) z z) (TL.front 3 z z (TL.front 3 z z (TL.front 3 z z (TL.front 3 z z ?_))))))))))
  obtain ⟨v46, u46, hh⟩ := bnd_e hh
  refine TL.op z (OpOk.call (rat_grow_arcs_con f1_2 u46) z z pf52 z z z z ?_)
  rintro _ _ _ hle127 ⟨a127_1, c127_2, a127_3, c127_4, a127_5, c127_6, rfl, rfl, rfl⟩
  refine TL.en (TC.a (TL.w z (loadAll z ag25 sz25 z (i := 6) z z) ?_))
  obtain ⟨v48, u48, hh⟩ := bnd_e hh
  refine TL.op z (OpOk.call (rat_leaving_con (x0 := x1) f1_0 f1_1 f1_2 u48) z z pf53 z z z z ?_)
  rintro _ τ131 _ hle131 ⟨a131_1, c131_1, rfl, hr131_0, rfl⟩
  replace f0_1 := f0_1.mono hle131
  replace f1_0 := f1_0.mono hle131
  replace f1_1 := f1_1.mono hle131
  have hr131_0b := hr131_0.big
  refine TL.s z z (TL.en (TC.a (TL.w z (fieldLoc z fo25_0 z) (TL.w z (loadLoc z ag3 z (i := 6) z z) ?_))))
  have u52 := grd_c hh
  replace hh := grd_t hh
  refine TL.op rfl (makeN (q := x1.states.toNat) (E := 53) (size := 2) (enc := encTip) rfl underlying118 sz22 by22 ze22 rfl rfl (by show Value.int _ _ = _; rw [Int.toNat_of_nonneg u52.1]) (by show Value.int _ _ = _; rw [Int.toNat_of_nonneg u52.1]) (by omega) (by decide) rfl (fun a132 c133 zf134 => ?_))
  refine TL.s z z (TL.en (TC.seq (TC.a (TL.w z (fieldLoc z fo25_2 z) (TL.w z (loadLoc z ag22 z (i := 7) z z) (TL.w z (lenC z underlying22 z) (TL.i z z (TL.en (TC.block (TC.loopG (α := ((List (List Tip)) × Nat) × ((List (NP Tip)))) (rgs [(10, 1), (62, 17)]) (fun g => [(62, .int .i64 ((g.1.2 : Nat) : Int))]) (fun g => [Res.cells b101 #[.int .i64 x0.states, .slice a0_0 x0.starts.length c0_0, .slice a0_1 x0.ends.length c0_1, .slice a0_2 x0.arcs.length c0_2] 25, Res.cells b103 #[.int .i64 x1.states, .slice a1_0 x1.starts.length c1_0, .slice a1_1 x1.ends.length c1_1, .slice a1_2 x1.arcs.length c1_2] 25, Res.cells b105 #[.int .i64 0, .slice none 0 0, .slice none 0 0, .slice none 0 0] 25, Res.cells b107 #[.int .i64 0] 27, Res.cells b110 #[.int .i64 v46.f.states, .slice a127_1 v46.f.starts.length c127_2, .slice a127_3 v46.f.ends.length c127_4, .slice a127_5 v46.f.arcs.length c127_6, .bool v46.over] 96, Res.rowS 53 2 encTip (.slice a127_1 v46.f.starts.length c127_2) v46.f.starts, Res.rowS 53 2 encTip (.slice a127_3 v46.f.ends.length c127_4) v46.f.ends, Res.rowS 66 8 encArc (.slice a127_5 v46.f.arcs.length c127_6) v46.f.arcs, Res.nest 22 53 2 encTip (.slice a132 (List.replicate x1.states.toNat ([] : List Tip)).length c133) g.2]) (fun g => τ131) (fun g => iter (fun q : (List (List Tip)) × Nat => rat_Cat_b1 x1 x0 v48 v46 q.1 q.2) g.1 = some r ∧ g.1.1.length = (List.replicate x1.states.toNat ([] : List Tip)).length ∧ Zn g.2 g.1.1) (fun g => rounds (fun q : (List (List Tip)) × Nat => rat_Cat_b1 x1 x0 v48 v46 q.1 q.2) g.1) (((List.replicate x1.states.toNat ([] : List Tip)), 0), (List.replicate x1.states.toNat (nilN : NP Tip))) (Sub.f [4, 4, 4, 4, 5, 6, 7, 8] 9) z (by repeat (first | exact trivial | refine ⟨z, ?_⟩)) ⟨hh, z, zf134⟩ (fun g1 j1 hg1 => ?_)))))))))))
  obtain ⟨⟨l147, k151⟩, z149⟩ := g1
  obtain ⟨hh, hn148, zf150⟩ := hg1
  try dsimp only at hn148 zf150 ⊢
  obtain ⟨z1, hh, hR1⟩ := iter_e hh
  dsimp only [rat_Cat_b1] at hh
  have hn148b := hn148
  have zf150b := zf150.len
  refine TC.isSl (i := 5) z (fun _ hb152 _ => ?_)
  refine TC.isSl (i := 6) z (fun _ hb153 _ => ?_)
  refine TC.isSl (i := 7) z (fun _ hb154 _ => ?_)
  refine TC.know (isSl_nest (q := 8) z zf150) (fun ⟨_, hb155⟩ => ?_)
  refine TC.a (TL.w z (OpVal.lss z z z) (TL.en (TC.seq (TC.cD z hh (fun h156 hh => ?_) (fun h156 hh => ?_)))))
  ·refine TC.skip (S.n (TC.cutG (α := (Unit) × ((List (NP Tip)))) (rgs [(10, 1), (64, 14)]) (fun g => []) (fun g => [Res.cells b101 #[.int .i64 x0.states, .slice a0_0 x0.starts.length c0_0, .slice a0_1 x0.ends.length c0_1, .slice a0_2 x0.arcs.length c0_2] 25, Res.cells b103 #[.int .i64 x1.states, .slice a1_0 x1.starts.length c1_0, .slice a1_1 x1.ends.length c1_1, .slice a1_2 x1.arcs.length c1_2] 25, Res.cells b105 #[.int .i64 0, .slice none 0 0, .slice none 0 0, .slice none 0 0] 25, Res.cells b107 #[.int .i64 0] 27, Res.cells b110 #[.int .i64 v46.f.states, .slice a127_1 v46.f.starts.length c127_2, .slice a127_3 v46.f.ends.length c127_4, .slice a127_5 v46.f.arcs.length c127_6, .bool v46.over] 96, Res.rowS 53 2 encTip (.slice a127_1 v46.f.starts.length c127_2) v46.f.starts, Res.rowS 53 2 encTip (.slice a127_3 v46.f.ends.length c127_4) v46.f.ends, Res.rowS 66 8 encArc (.slice a127_5 v46.f.arcs.length c127_6) v46.f.arcs, Res.nest 22 53 2 encTip (.slice a132 (List.replicate x1.states.toNat ([] : List Tip)).length c133) g.2]) (fun g => τ131) (fun g => rat_Cat_j1 l147 x1 k151 = some z1 ∧ (l147.set (((nth x1.ends k151 Tip.zero).state).toNat) ((nth l147 (((nth x1.ends k151 Tip.zero).state).toNat) ([] : List Tip)) ++ [(nth x1.ends k151 Tip.zero)])).length = (List.replicate x1.states.toNat ([] : List Tip)).length ∧ Zn g.2 (l147.set (((nth x1.ends k151 Tip.zero).state).toNat) ((nth l147 (((nth x1.ends k151 Tip.zero).state).toNat) ([] : List Tip)) ++ [(nth x1.ends k151 Tip.zero)]))) ?_ (fun g j hg => ?_)))
   ·skip
    refine TC.block (TC.a (TL.w z (indexN z underlying22 sz53 z z f1_1.rv.sl (by omega)) (TL.w z (loadSA Tip.zero z ag53 sz53 z f1_1 (by omega) (by omega)) (TL.op z (OpOk.alloc z ze53 z z (fun b160 => ?_))))))
    refine TL.op z (storeAll z sz53 z z z z z z ?_)
    refine TL.en ?_
    have u69 := grd_c hh
    replace hh := grd_t hh
    have u73 := grd_c hh
    replace hh := grd_t hh
    have u74 := grd_c hh
    replace hh := grd_t hh
    refine TC.drawR (Hr := [Res.cells b160 #[.int .i64 ((nth x1.ends k151 Tip.zero).state), .string (bs ((nth x1.ends k151 Tip.zero).out))] 53, Res.cells b101 #[.int .i64 x0.states, .slice a0_0 x0.starts.length c0_0, .slice a0_1 x0.ends.length c0_1, .slice a0_2 x0.arcs.length c0_2] 25, Res.cells b103 #[.int .i64 x1.states, .slice a1_0 x1.starts.length c1_0, .slice a1_1 x1.ends.length c1_1, .slice a1_2 x1.arcs.length c1_2] 25, Res.cells b105 #[.int .i64 0, .slice none 0 0, .slice none 0 0, .slice none 0 0] 25, Res.cells b107 #[.int .i64 0] 27, Res.cells b110 #[.int .i64 v46.f.states, .slice a127_1 v46.f.starts.length c127_2, .slice a127_3 v46.f.ends.length c127_4, .slice a127_5 v46.f.arcs.length c127_6, .bool v46.over] 96, Res.rowS 53 2 encTip (.slice a127_1 v46.f.starts.length c127_2) v46.f.starts, Res.rowS 53 2 encTip (.slice a127_3 v46.f.ends.length c127_4) v46.f.ends, Res.rowS 66 8 encArc (.slice a127_5 v46.f.arcs.length c127_6) v46.f.arcs]) (fun r hr => mem_pick [0, 1, 2, 3, 4, 5, 6, 7, 8] z hr) [] (by kernel_rfl) (TA.a 0 z (moveSl (.inl z) z) z (TA.a 1 z (fieldLoc z fo53_0 z) z (TA.b 2 z (loadLoc z ag3 z (i := 0) z z) z (TA.a 3 z (moveSl (.inl z) z) z (TA.a 4 z (fieldLoc z fo53_0 z) z (TA.b 5 z (loadLoc z ag3 z (i := 0) z z) z (TA.know (isSl_nest (q := 9) z zf150) (fun ⟨hs173, hs173b⟩ => ?_))))))))
    refine TA.b 6 z (OpVal.index z underlying118 sz22 z z hs173 u69.1 u69.2) z (TA.b 8 z (loadAll z ag53 sz53 z (i := 0) z z) z ?_)
    obtain ⟨p174, hz174, hm174⟩ := Zn.at zf150 (i := ((nth x1.ends k151 Tip.zero).state).toNat) (by omega)
    refine TA.actN [7, 9] (by kernel_rfl) (an z z (OpVal.ok (loadN z ag22 z (q := 9) z hz174 hm174) z z ⟨(fun w h => sees_of (Store.le.refl _) (fun r hr => mem_pick [0, 1, 2, 3, 4, 5, 6, 7, 8] z hr) w h), ?_⟩) (an z z (OpOk.lit (enc := encTip) [(nth x1.ends k151 Tip.zero)] z underlying22 sz53 ze53 z z z encTip_len (by decide) (by decide) Tip.zero z (by decide) z (by decide) encTip_one (fun a175 c176 => ⟨(fun w h => sees_of (Store.le.refl _) (fun r hr => mem_pick [1, 2, 3, 4, 5, 6, 7, 8, 9] z hr) w h), ?_⟩)) (True.intro)))
    ·skip
     refine TA.ac 9 z (OpOk.lit (enc := encTip) [(nth x1.ends k151 Tip.zero)] z underlying22 sz53 ze53 z z z encTip_len (by decide) (by decide) Tip.zero z (by decide) z (by decide) encTip_one (fun a178 c179 => ⟨(fun w h => sees_of (Store.le.refl _) (fun r hr => mem_pick [1, 2, 3, 4, 5, 6, 7, 8, 9] z hr) w h), ?_⟩))
     refine TA.front 10 z z (TA.by (fun w h => Reach.takeN hz174 hm174 h) (TA.ac 10 z (appendS z z underlying22 sz53 by53 ze53 z z (by decide) z z z (.inr ⟨_, 1, z⟩) (by simpa using u73) (by decide) (fun a182 c183 => (k3 ?_)))))
     refine TA.know (isSl_nestX (q := 1) z zf150) (fun ⟨hs184, hs184b⟩ => ?_)
     refine TA.b 11 z (OpVal.index z underlying118 sz22 z z hs184 u74.1 u74.2) z (TA.front 1 z z (TA.front 1 z z ?_))
     have hn186 : (l147.set (((nth x1.ends k151 Tip.zero).state).toNat) ((nth l147 (((nth x1.ends k151 Tip.zero).state).toNat) ([] : List Tip)) ++ [(nth x1.ends k151 Tip.zero)])).length = (List.replicate x1.states.toNat ([] : List Tip)).length := (List.length_set ..).trans hn148
     refine TA.ac 12 rfl (storeX (l' := ((nth l147 (((nth x1.ends k151 Tip.zero).state).toNat) ([] : List Tip)) ++ [(nth x1.ends k151 Tip.zero)])) rfl sz22 rfl rfl rfl rfl rfl (by rw [zf150.len]; omega) zf150 (fun zf185 => (k2 ?_)))
     exact TA.dn (B.n (S.n (cf ((), (z149.set (((nth x1.ends k151 Tip.zero).state).toNat) (((nth l147 (((nth x1.ends k151 Tip.zero).state).toNat) ([] : List Tip)) ++ [(nth x1.ends k151 Tip.zero)]), (a182, c183)))) ⟨hh, hn186, zf185⟩ (Sub.f [10, 10, 10, 10, 10, 10, 10, 10] 9))))
    ·skip
     obtain ⟨p187, hz187, hm187⟩ := Zn.at zf150 (i := ((nth x1.ends k151 Tip.zero).state).toNat) (by omega)
     refine TA.ac 7 z (OpVal.ok (loadN z ag22 z (q := 10) z hz187 hm187) z z ⟨(fun w h => sees_of (Store.le.refl _) (fun r hr => mem_pick [1, 2, 3, 4, 5, 6, 7, 8, 9] z hr) w h), ?_⟩)
     refine TA.front 10 z z (TA.by (fun w h => Reach.takeN hz187 hm187 h) (TA.ac 10 z (appendS z z underlying22 sz53 by53 ze53 z z (by decide) z z z (.inr ⟨_, 1, z⟩) (by simpa using u73) (by decide) (fun a189 c190 => (k3 ?_)))))
     refine TA.know (isSl_nestX (q := 1) z zf150) (fun ⟨hs191, hs191b⟩ => ?_)
     refine TA.b 11 z (OpVal.index z underlying118 sz22 z z hs191 u74.1 u74.2) z (TA.front 1 z z (TA.front 1 z z ?_))
     have hn193 : (l147.set (((nth x1.ends k151 Tip.zero).state).toNat) ((nth l147 (((nth x1.ends k151 Tip.zero).state).toNat) ([] : List Tip)) ++ [(nth x1.ends k151 Tip.zero)])).length = (List.replicate x1.states.toNat ([] : List Tip)).length := (List.length_set ..).trans hn148
     refine TA.ac 12 rfl (storeX (l' := ((nth l147 (((nth x1.ends k151 Tip.zero).state).toNat) ([] : List Tip)) ++ [(nth x1.ends k151 Tip.zero)])) rfl sz22 rfl rfl rfl rfl rfl (by rw [zf150.len]; omega) zf150 (fun zf192 => (k2 ?_)))
     exact TA.dn (B.n (S.n (cf ((), (z149.set (((nth x1.ends k151 Tip.zero).state).toNat) (((nth l147 (((nth x1.ends k151 Tip.zero).state).toNat) ([] : List Tip)) ++ [(nth x1.ends k151 Tip.zero)]), (a189, c190)))) ⟨hh, hn193, zf192⟩ (Sub.f [10, 10, 10, 10, 10, 10, 10, 10] 9))))
   ·skip
    obtain ⟨_, z158⟩ := g
    obtain ⟨hh, hn157, zf159⟩ := hg
    try dsimp only at hn157 zf159 ⊢
    dsimp only [rat_Cat_j1] at hh
    have hn157b := hn157
    have zf159b := zf159.len
    refine TC.isSl (i := 5) z (fun _ hb194 _ => ?_)
    refine TC.isSl (i := 6) z (fun _ hb195 _ => ?_)
    refine TC.isSl (i := 7) z (fun _ hb196 _ => ?_)
    refine TC.know (isSl_nest (q := 8) z zf159) (fun ⟨_, hb197⟩ => ?_)
    refine TC.region (TL.w z (OpVal.succ z z z (by omega)) (TL.i z z (TL.en ?_)))
    obtain ⟨hh, hlt198⟩ := nxt_x hR1 hh
    exact lf (((l147.set (((nth x1.ends k151 Tip.zero).state).toNat) ((nth l147 (((nth x1.ends k151 Tip.zero).state).toNat) ([] : List Tip)) ++ [(nth x1.ends k151 Tip.zero)])), (k151 + 1)), z158) hlt198 ⟨hh, hn157, zf159⟩ (Sub.f [8, 8, 8, 8, 8, 8, 8, 8, 8] 9)
  ·refine TC.exit (S.x (S.x ?_))
   replace hh := fin_x hR1 hh
   refine TC.exitHere (S.n (TC.seq (TC.a (TL.w z (fieldLoc z fo25_2 z) (TL.w z (loadLoc z ag22 z (i := 0) z z) (TL.w z (lenC z underlying22 z) (TL.i z z (TL.en (TC.block (TC.loopG (α := (Int × (List Tip) × (List Tip) × (List Arc) × Bool × Nat) × ((Option Addr) × Nat × (Option Addr) × Nat × (Option Addr) × Nat)) (rgs [(12, 1), (14, 1), (16, 1), (82, 60)]) (fun g => [(82, .int .i64 ((g.1.2.2.2.2.2 : Nat) : Int))]) (fun g => [Res.cells b101 #[.int .i64 x0.states, .slice a0_0 x0.starts.length c0_0, .slice a0_1 x0.ends.length c0_1, .slice a0_2 x0.arcs.length c0_2] 25, Res.cells b103 #[.int .i64 x1.states, .slice a1_0 x1.starts.length c1_0, .slice a1_1 x1.ends.length c1_1, .slice a1_2 x1.arcs.length c1_2] 25, Res.cells b105 #[.int .i64 0, .slice none 0 0, .slice none 0 0, .slice none 0 0] 25, Res.cells b107 #[.int .i64 0] 27, Res.cells b110 #[.int .i64 g.1.1, .slice g.2.1 g.1.2.1.length g.2.2.1, .slice g.2.2.2.1 g.1.2.2.1.length g.2.2.2.2.1, .slice g.2.2.2.2.2.1 g.1.2.2.2.1.length g.2.2.2.2.2.2, .bool g.1.2.2.2.2.1] 96, Res.rowS 53 2 encTip (.slice g.2.1 g.1.2.1.length g.2.2.1) g.1.2.1, Res.rowS 53 2 encTip (.slice g.2.2.2.1 g.1.2.2.1.length g.2.2.2.2.1) g.1.2.2.1, Res.rowS 66 8 encArc (.slice g.2.2.2.2.2.1 g.1.2.2.2.1.length g.2.2.2.2.2.2) g.1.2.2.2.1, Res.nest 22 53 2 encTip (.slice a132 (List.replicate x1.states.toNat ([] : List Tip)).length c133) z149]) (fun g => τ131) (fun g => iter (fun q : Int × (List Tip) × (List Tip) × (List Arc) × Bool × Nat => rat_Cat_b2 x0 x1 v48 l147 q.1 q.2.1 q.2.2.1 q.2.2.2.1 q.2.2.2.2.1 q.2.2.2.2.2) g.1 = some r ∧ l147.length = (List.replicate x1.states.toNat ([] : List Tip)).length ∧ Zn z149 l147) (fun g => rounds (fun q : Int × (List Tip) × (List Tip) × (List Arc) × Bool × Nat => rat_Cat_b2 x0 x1 v48 l147 q.1 q.2.1 q.2.2.1 q.2.2.2.1 q.2.2.2.2.1 q.2.2.2.2.2) g.1) ((v46.f.states, v46.f.starts, v46.f.ends, v46.f.arcs, v46.over, 0), (a127_1, c127_2, a127_3, c127_4, a127_5, c127_6)) (Sub.f [8, 8, 8, 8, 8, 8, 8, 8, 8] 9) z (by repeat (first | exact trivial | refine ⟨z, ?_⟩)) ⟨hh, hn148, zf150⟩ (fun g2 j2 hg2 => ?_)))))))))))
   obtain ⟨⟨i235, l237, l241, l245, t248, k251⟩, ⟨a238, c239, a242, c243, a246, c247⟩⟩ := g2
   obtain ⟨hh, hn249, zf250⟩ := hg2
   try dsimp only at hn249 zf250 ⊢
   obtain ⟨z1, hh, hR1⟩ := iter_e hh
   dsimp only [rat_Cat_b2] at hh
   have hn249b := hn249
   have zf250b := zf250.len
   refine TC.isSl (i := 5) z (fun _ hb252 _ => ?_)
   refine TC.isSl (i := 6) z (fun _ hb253 _ => ?_)
   refine TC.isSl (i := 7) z (fun _ hb254 _ => ?_)
   refine TC.know (isSl_nest (q := 8) z zf250) (fun ⟨_, hb255⟩ => ?_)
   refine TC.a (TL.w z (OpVal.lss z z z) (TL.en (TC.seq (TC.cD z hh (fun h256 hh => ?_) (fun h256 hh => ?_)))))
   ·refine TC.skip (S.n (TC.seq (TC.block (TC.a (TL.w z (indexN z underlying22 sz53 z z f0_1.rv.sl (by omega)) (TL.w z (loadSA Tip.zero z ag53 sz53 z f0_1 (by omega) (by omega)) (TL.op z (OpOk.alloc z ze53 z z (fun b257 => ?_)))))))))
    refine TL.op z (storeAll z sz53 z z z z z z ?_)
    refine TL.en (TC.a (TL.w z (fieldLoc z fo25_1 z) (TL.w z (loadLoc z ag22 z (i := 2) z z) (TL.w z (lenC z underlying22 z) (TL.i z z (TL.en (TC.block (TC.loopG (α := (Int × (List Tip) × (List Tip) × (List Arc) × Bool × Nat) × ((Option Addr) × Nat × (Option Addr) × Nat × (Option Addr) × Nat)) (rgs [(14, 1), (16, 1), (89, 52)]) (fun g => [(89, .int .i64 ((g.1.2.2.2.2.2 : Nat) : Int))]) (fun g => [Res.cells b101 #[.int .i64 x0.states, .slice a0_0 x0.starts.length c0_0, .slice a0_1 x0.ends.length c0_1, .slice a0_2 x0.arcs.length c0_2] 25, Res.cells b103 #[.int .i64 x1.states, .slice a1_0 x1.starts.length c1_0, .slice a1_1 x1.ends.length c1_1, .slice a1_2 x1.arcs.length c1_2] 25, Res.cells b105 #[.int .i64 0, .slice none 0 0, .slice none 0 0, .slice none 0 0] 25, Res.cells b107 #[.int .i64 0] 27, Res.cells b110 #[.int .i64 g.1.1, .slice g.2.1 g.1.2.1.length g.2.2.1, .slice g.2.2.2.1 g.1.2.2.1.length g.2.2.2.2.1, .slice g.2.2.2.2.2.1 g.1.2.2.2.1.length g.2.2.2.2.2.2, .bool g.1.2.2.2.2.1] 96, Res.rowS 53 2 encTip (.slice g.2.1 g.1.2.1.length g.2.2.1) g.1.2.1, Res.rowS 53 2 encTip (.slice g.2.2.2.1 g.1.2.2.1.length g.2.2.2.2.1) g.1.2.2.1, Res.rowS 66 8 encArc (.slice g.2.2.2.2.2.1 g.1.2.2.2.1.length g.2.2.2.2.2.2) g.1.2.2.2.1, Res.nest 22 53 2 encTip (.slice a132 (List.replicate x1.states.toNat ([] : List Tip)).length c133) z149, Res.cells b257 #[.int .i64 ((nth x0.ends k251 Tip.zero).state), .string (bs ((nth x0.ends k251 Tip.zero).out))] 53]) (fun g => τ131) (fun g => iter (fun q : Int × (List Tip) × (List Tip) × (List Arc) × Bool × Nat => rat_Cat_b3 x1 v48 x0 k251 l147 q.1 q.2.1 q.2.2.1 q.2.2.2.1 q.2.2.2.2.1 q.2.2.2.2.2) g.1 = some z1 ∧ l147.length = (List.replicate x1.states.toNat ([] : List Tip)).length ∧ Zn z149 l147) (fun g => rounds (fun q : Int × (List Tip) × (List Tip) × (List Arc) × Bool × Nat => rat_Cat_b3 x1 v48 x0 k251 l147 q.1 q.2.1 q.2.2.1 q.2.2.2.1 q.2.2.2.2.1 q.2.2.2.2.2) g.1) ((i235, l237, l241, l245, t248, 0), (a238, c239, a242, c243, a246, c247)) (Sub.f [9, 9, 9, 9, 9, 9, 9, 9, 9] 10) z (by repeat (first | exact trivial | refine ⟨z, ?_⟩)) ⟨hh, hn249, zf250⟩ (fun g3 j3 hg3 => ?_)))))))))
    obtain ⟨⟨i295, l297, l301, l305, t308, k311⟩, ⟨a298, c299, a302, c303, a306, c307⟩⟩ := g3
    obtain ⟨hh, hn309, zf310⟩ := hg3
    try dsimp only at hn309 zf310 ⊢
    obtain ⟨z2, hh, hR2⟩ := iter_e hh
    dsimp only [rat_Cat_b3] at hh
    have hn309b := hn309
    have zf310b := zf310.len
    refine TC.isSl (i := 5) z (fun _ hb312 _ => ?_)
    refine TC.isSl (i := 6) z (fun _ hb313 _ => ?_)
    refine TC.isSl (i := 7) z (fun _ hb314 _ => ?_)
    refine TC.know (isSl_nest (q := 8) z zf310) (fun ⟨_, hb315⟩ => ?_)
    refine TC.a (TL.w z (OpVal.lss z z z) (TL.en (TC.seq (TC.cD z hh (fun h316 hh => ?_) (fun h316 hh => ?_)))))
    ·refine TC.skip (S.n (TC.seq (TC.block (TC.a (TL.w z (indexN z underlying22 sz53 z z f1_0.rv.sl (by omega)) (TL.w z (loadSA Tip.zero z ag53 sz53 z f1_0 (by omega) (by omega)) (TL.op z (OpOk.alloc z ze53 z z (fun b317 => ?_)))))))))
     refine TL.op z (storeAll z sz53 z z z z z z ?_)
     refine TL.en (TC.seq ?_)
     have u106 := grd_c hh
     replace hh := grd_t hh
     obtain ⟨v110, u110, hh⟩ := bnd_e hh
     refine TC.drawR (Hr := [Res.cells b317 #[.int .i64 ((nth x1.starts k311 Tip.zero).state), .string (bs ((nth x1.starts k311 Tip.zero).out))] 53, Res.cells b101 #[.int .i64 x0.states, .slice a0_0 x0.starts.length c0_0, .slice a0_1 x0.ends.length c0_1, .slice a0_2 x0.arcs.length c0_2] 25, Res.cells b103 #[.int .i64 x1.states, .slice a1_0 x1.starts.length c1_0, .slice a1_1 x1.ends.length c1_1, .slice a1_2 x1.arcs.length c1_2] 25, Res.cells b105 #[.int .i64 0, .slice none 0 0, .slice none 0 0, .slice none 0 0] 25, Res.cells b107 #[.int .i64 0] 27, Res.nest 22 53 2 encTip (.slice a132 (List.replicate x1.states.toNat ([] : List Tip)).length c133) z149, Res.cells b257 #[.int .i64 ((nth x0.ends k251 Tip.zero).state), .string (bs ((nth x0.ends k251 Tip.zero).out))] 53]) (fun r hr => mem_pick [0, 1, 2, 3, 4, 9, 10] z hr) [] (by kernel_rfl) (TA.a 0 z (moveLoc (.inl z) z) z (TA.a 1 z (fieldLoc z fo53_0 z) z (TA.b 2 z (loadLoc z ag3 z (i := 6) z z) z (TA.a 3 z (fieldLoc z fo53_1 z) z (TA.b 4 z (loadLoc z ag9 z (i := 6) z z) z (TA.a 5 z (fieldLoc z fo53_1 z) z (TA.b 6 z (loadLoc z ag9 z (i := 0) z z) z (TA.a 7 z (moveSl (.inl z) z) z (TA.a 8 z (fieldLoc z fo53_0 z) z (TA.b 9 z (loadLoc z ag3 z (i := 0) z z) z (TA.b 10 z (OpVal.index z underlying85 sz23 z z hr131_0.isSl u106.1 u106.2) z ?_)))))))))))
     obtain ⟨p324, hk324, hg324⟩ := RZ.seg hr131_0 (((nth x1.starts k311 Tip.zero).state).toNat) (by omega)
     replace hk324 : RS _ 8 encArc (.slice p324.1 (nth v48 (((nth x1.starts k311 Tip.zero).state).toNat) ([] : List Arc)).length p324.2) (nth v48 (((nth x1.starts k311 Tip.zero).state).toNat) ([] : List Arc)) := hk324
     have hk324b := hk324.rv.big
     refine TA.b 11 z (OpVal.of (loadSeg0 z ag23 z hg324 z) (v' := .slice p324.1 ((nth v48 (((nth x1.starts k311 Tip.zero).state).toNat) ([] : List Arc)).length) p324.2) z) z (TA.a 12 z (fieldLoc z fo25_0 z) z (TA.b 13 z (loadLoc z ag3 z (i := 1) z z) z (TA.front 8 z z (TA.front 8 z z (TA.front 8 z z (TA.front 8 z z (TA.ac 14 z (OpOk.call (rat_grow_bridge_con hk324 u110) z z pf54 z z z z ?_))))))))
     rintro _ _ _ hle325 ⟨a325_1, c325_2, a325_3, c325_4, a325_5, c325_6, rfl, rfl, rfl⟩
     refine kc 4 (TA.dn (S.n (TC.cutG (α := (Int × (List Tip) × (List Tip) × (List Arc) × Bool) × ((Option Addr) × Nat × (Option Addr) × Nat × (Option Addr) × Nat)) (rgs [(16, 1), (108, 28)]) (fun g => []) (fun g => [Res.cells b101 #[.int .i64 x0.states, .slice a0_0 x0.starts.length c0_0, .slice a0_1 x0.ends.length c0_1, .slice a0_2 x0.arcs.length c0_2] 25, Res.cells b103 #[.int .i64 x1.states, .slice a1_0 x1.starts.length c1_0, .slice a1_1 x1.ends.length c1_1, .slice a1_2 x1.arcs.length c1_2] 25, Res.cells b105 #[.int .i64 0, .slice none 0 0, .slice none 0 0, .slice none 0 0] 25, Res.cells b107 #[.int .i64 0] 27, Res.cells b110 #[.int .i64 g.1.1, .slice g.2.1 g.1.2.1.length g.2.2.1, .slice g.2.2.2.1 g.1.2.2.1.length g.2.2.2.2.1, .slice g.2.2.2.2.2.1 g.1.2.2.2.1.length g.2.2.2.2.2.2, .bool g.1.2.2.2.2] 96, Res.rowS 53 2 encTip (.slice g.2.1 g.1.2.1.length g.2.2.1) g.1.2.1, Res.rowS 53 2 encTip (.slice g.2.2.2.1 g.1.2.2.1.length g.2.2.2.2.1) g.1.2.2.1, Res.rowS 66 8 encArc (.slice g.2.2.2.2.2.1 g.1.2.2.2.1.length g.2.2.2.2.2.2) g.1.2.2.2.1, Res.nest 22 53 2 encTip (.slice a132 (List.replicate x1.states.toNat ([] : List Tip)).length c133) z149, Res.cells b257 #[.int .i64 ((nth x0.ends k251 Tip.zero).state), .string (bs ((nth x0.ends k251 Tip.zero).out))] 53]) (fun g => τ131) (fun g => rat_Cat_j2 k311 g.1.1 g.1.2.1 g.1.2.2.1 g.1.2.2.2.1 g.1.2.2.2.2 = some z2 ∧ l147.length = (List.replicate x1.states.toNat ([] : List Tip)).length ∧ Zn z149 l147) ?_ (fun g j hg => ?_))))
     ·skip
      refine TC.a (TL.s z z (TL.w z (fieldLoc z fo53_0 z) (TL.w z (loadLoc z ag3 z (i := 4) z z) ?_)))
      have u114 := grd_c hh
      replace hh := grd_t hh
      refine TL.know (isSl_nest (q := 9) z zf310) (fun ⟨hs345, hs345b⟩ => ?_)
      refine TL.w z (OpVal.index z underlying118 sz22 z z hs345 u114.1 u114.2) ?_
      obtain ⟨p346, hz346, hm346⟩ := Zn.at zf310 (i := ((nth x1.starts k311 Tip.zero).state).toNat) (by omega)
      refine TL.w z (loadN z ag22 z (q := 9) z hz346 hm346) (TL.w z (lenC z underlying22 z) (TL.i z z (TL.en (TC.block (TC.loopG (α := (Int × (List Tip) × (List Tip) × (List Arc) × Bool × Nat) × ((Option Addr) × Nat × (Option Addr) × Nat × (Option Addr) × Nat)) (rgs [(16, 1), (114, 22)]) (fun g => [(114, .int .i64 ((g.1.2.2.2.2.2 : Nat) : Int))]) (fun g => [Res.cells b101 #[.int .i64 x0.states, .slice a0_0 x0.starts.length c0_0, .slice a0_1 x0.ends.length c0_1, .slice a0_2 x0.arcs.length c0_2] 25, Res.cells b103 #[.int .i64 x1.states, .slice a1_0 x1.starts.length c1_0, .slice a1_1 x1.ends.length c1_1, .slice a1_2 x1.arcs.length c1_2] 25, Res.cells b105 #[.int .i64 0, .slice none 0 0, .slice none 0 0, .slice none 0 0] 25, Res.cells b107 #[.int .i64 0] 27, Res.cells b110 #[.int .i64 g.1.1, .slice g.2.1 g.1.2.1.length g.2.2.1, .slice g.2.2.2.1 g.1.2.2.1.length g.2.2.2.2.1, .slice g.2.2.2.2.2.1 g.1.2.2.2.1.length g.2.2.2.2.2.2, .bool g.1.2.2.2.2.1] 96, Res.rowS 53 2 encTip (.slice g.2.1 g.1.2.1.length g.2.2.1) g.1.2.1, Res.rowS 53 2 encTip (.slice g.2.2.2.1 g.1.2.2.1.length g.2.2.2.2.1) g.1.2.2.1, Res.rowS 66 8 encArc (.slice g.2.2.2.2.2.1 g.1.2.2.2.1.length g.2.2.2.2.2.2) g.1.2.2.2.1, Res.nest 22 53 2 encTip (.slice a132 (List.replicate x1.states.toNat ([] : List Tip)).length c133) z149, Res.cells b257 #[.int .i64 ((nth x0.ends k251 Tip.zero).state), .string (bs ((nth x0.ends k251 Tip.zero).out))] 53, Res.cells b317 #[.int .i64 ((nth x1.starts k311 Tip.zero).state), .string (bs ((nth x1.starts k311 Tip.zero).out))] 53]) (fun g => τ131) (fun g => iter (fun q : Int × (List Tip) × (List Tip) × (List Arc) × Bool × Nat => rat_Cat_b4 l147 x1 k311 x0 k251 q.1 q.2.1 q.2.2.1 q.2.2.2.1 q.2.2.2.2.1 q.2.2.2.2.2) g.1 = some z2 ∧ l147.length = (List.replicate x1.states.toNat ([] : List Tip)).length ∧ Zn z149 l147) (fun g => rounds (fun q : Int × (List Tip) × (List Tip) × (List Arc) × Bool × Nat => rat_Cat_b4 l147 x1 k311 x0 k251 q.1 q.2.1 q.2.2.1 q.2.2.2.1 q.2.2.2.2.1 q.2.2.2.2.2) g.1) ((v110.f.states, v110.f.starts, v110.f.ends, v110.f.arcs, v110.over, 0), (a325_1, c325_2, a325_3, c325_4, a325_5, c325_6)) (Sub.f [4, 10, 10, 6, 6, 6, 6, 10, 10, 10, 10] 11) z (by repeat (first | exact trivial | refine ⟨z, ?_⟩)) ⟨hh, hn309, zf310⟩ (fun g4 j4 hg4 => ?_))))))
      obtain ⟨⟨i383, l385, l389, l393, t396, k399⟩, ⟨a386, c387, a390, c391, a394, c395⟩⟩ := g4
      obtain ⟨hh, hn397, zf398⟩ := hg4
      try dsimp only at hn397 zf398 ⊢
      obtain ⟨z3, hh, hR3⟩ := iter_e hh
      dsimp only [rat_Cat_b4] at hh
      have hn397b := hn397
      have zf398b := zf398.len
      refine TC.isSl (i := 5) z (fun _ hb400 _ => ?_)
      refine TC.isSl (i := 6) z (fun _ hb401 _ => ?_)
      refine TC.isSl (i := 7) z (fun _ hb402 _ => ?_)
      refine TC.know (isSl_nest (q := 8) z zf398) (fun ⟨_, hb403⟩ => ?_)
      refine TC.a (TL.w z (OpVal.lss z z z) (TL.en (TC.seq (TC.cD z hh (fun h404 hh => ?_) (fun h404 hh => ?_)))))
      ·refine TC.skip (S.n (TC.seq (TC.block (TC.a (TL.know (isSl_inner (q := 8) z hz346 hm346) (fun ⟨hs405, hs405b⟩ => ?_))))))
       refine TL.w z (indexN z underlying22 sz53 z z hs405 (by omega)) (TL.w z (OpVal.seen (sees_inner (q := 8) z hz346 hm346) (loadOA Tip.zero z ag53 sz53 z (q := 0) z encTip_len (by omega) (by omega))) (TL.op z (OpOk.alloc z ze53 z z (fun b406 => ?_))))
       refine TL.op z (storeAll z sz53 z z z z z z ?_)
       refine TL.en (TC.a (TL.l z z (TL.w z (fieldLoc z fo53_0 z) (TL.w z (loadLoc z ag3 z (i := 10) z z) (TL.w z (fieldLoc z fo53_1 z) (TL.w z (loadLoc z ag9 z (i := 10) z z) (TL.w z (fieldLoc z fo53_1 z) (TL.w z (loadLoc z ag9 z (i := 11) z z) ?_))))))))
       have u130 := grd_c hh
       replace hh := grd_t hh
       refine TL.w z (catBs z z z u130) (TL.w z (fieldLoc z fo53_1 z) (TL.w z (loadLoc z ag9 z (i := 0) z z) ?_))
       have u133 := grd_c hh
       replace hh := grd_t hh
       refine TL.w z (catBs z z z u133) (TL.w z (buildL z pl53 ze53 z) (TL.front 8 z z (TL.front 8 z z (TL.front 8 z z (TL.front 8 z z ?_)))))
       obtain ⟨v135, u135, hh⟩ := bnd_e hh
       refine TL.op z (OpOk.call (rat_grow_end_con u135) z z pf50 z z z z ?_)
       rintro _ _ _ hle408 ⟨a408_1, c408_2, a408_3, c408_4, a408_5, c408_6, rfl, rfl, rfl⟩
       refine TL.en (TC.a (TL.l z z (TL.w z (nilCheckLoc z z) (TL.w z (fieldLoc z fo96_1 z) (TL.w z (loadLoc z ag4 z (i := 0) z z) (TL.en (TC.cB z hh (fun h412 hh => ?_) (fun h412 hh => ?_))))))))
       ·refine TC.exit (TC.exitOn z (S.x (S.x ?_)))
        replace hh := fin_x hR3 hh
        exact TC.exitHere (S.n (cf ((v135.f.states, v135.f.starts, v135.f.ends, v135.f.arcs, v135.over), (a408_1, c408_2, a408_3, c408_4, a408_5, c408_6)) ⟨hh, hn397, zf398⟩ (Sub.f [10, 10, 5, 5, 5, 5, 10, 10, 10, 10] 10)))
       ·refine TC.skip (B.n (S.n (TC.region (TL.w z (OpVal.succ z z z (by omega)) (TL.i z z (TL.en ?_))))))
        obtain ⟨hh, hlt413⟩ := nxt_x hR3 hh
        exact lf ((v135.f.states, v135.f.starts, v135.f.ends, v135.f.arcs, v135.over, (k399 + 1)), (a408_1, c408_2, a408_3, c408_4, a408_5, c408_6)) hlt413 ⟨hh, hn397, zf398⟩ (Sub.f [11, 11, 11, 6, 6, 6, 6, 11, 11, 11, 11] 11)
      ·refine TC.exit (S.x (S.x ?_))
       replace hh := fin_x hR3 hh
       exact TC.exitHere (S.n (cf ((i383, l385, l389, l393, t396), (a386, c387, a390, c391, a394, c395)) ⟨hh, hn397, zf398⟩ (Sub.f [9, 9, 9, 9, 9, 9, 9, 9, 9, 9] 10)))
     ·skip
      obtain ⟨⟨i329, l331, l335, l339, t342⟩, ⟨a332, c333, a336, c337, a340, c341⟩⟩ := g
      obtain ⟨hh, hn343, zf344⟩ := hg
      try dsimp only at hn343 zf344 ⊢
      dsimp only [rat_Cat_j2] at hh
      have hn343b := hn343
      have zf344b := zf344.len
      refine TC.isSl (i := 5) z (fun _ hb414 _ => ?_)
      refine TC.isSl (i := 6) z (fun _ hb415 _ => ?_)
      refine TC.isSl (i := 7) z (fun _ hb416 _ => ?_)
      refine TC.know (isSl_nest (q := 8) z zf344) (fun ⟨_, hb417⟩ => ?_)
      refine TC.a (TL.l z z (TL.w z (nilCheckLoc z z) (TL.w z (fieldLoc z fo96_1 z) (TL.w z (loadLoc z ag4 z (i := 4) z z) (TL.en (TC.cB z hh (fun h418 hh => ?_) (fun h418 hh => ?_)))))))
      ·refine TC.front 3 z z (TC.front 3 z z (TC.front 7 z z (TC.front 7 z z (TC.front 7 z z (TC.front 7 z z ?_)))))
       obtain ⟨v168, u168, hh⟩ := bnd_e hh
       refine TC.ret (B.r (S.r (S.r ?_)))
       replace hh := fin_x hR2 hh
       refine B.r (B.r (S.r (S.r ?_)))
       replace hh := fin_x hR1 hh
       refine B.r (S.r (⟨.inl z, _, Sub.pre 6 z, (rat_grow_look_con u168).mono ?_⟩))
       rintro _ τ419 _ hle419 ⟨a419_1, c419_2, a419_4, c419_5, a419_7, c419_8, rfl, f419_3, f419_6, f419_9, rfl⟩
       have f419_3b := f419_3.rv.big
       have f419_6b := f419_6.rv.big
       have f419_9b := f419_9.rv.big
       obtain rfl := so hh
       exact RetOk.mk' (rs := [.cell 4 25, .cell 5 27]) [] z (.inl z) (RVs.agg ag25 sz25 z (i := 0) z z (RVs.one ag27 z (i := 1) z z RVs.nil)) (List.nil_sublist _) ⟨a419_1, c419_2, a419_4, c419_5, a419_7, c419_8, z, f419_3, f419_6, f419_9, z⟩
      ·refine TC.skip (B.n (S.n (TC.region (TL.w z (OpVal.succ z z z (by omega)) (TL.i z z (TL.en ?_))))))
       obtain ⟨hh, hlt423⟩ := nxt_x hR2 hh
       exact lf ((i329, l331, l335, l339, t342, (k311 + 1)), (a332, c333, a336, c337, a340, c341)) hlt423 ⟨hh, hn343, zf344⟩ (Sub.f [9, 9, 9, 9, 9, 9, 9, 9, 9, 9] 10)
    ·refine TC.exit (S.x (S.x ?_))
     replace hh := fin_x hR2 hh
     refine TC.exitHere (B.n (S.n (TC.region (TL.w z (OpVal.succ z z z (by omega)) (TL.i z z (TL.en ?_))))))
     obtain ⟨hh, hlt424⟩ := nxt_x hR1 hh
     exact lf ((i295, l297, l301, l305, t308, (k251 + 1)), (a298, c299, a302, c303, a306, c307)) hlt424 ⟨hh, hn309, zf310⟩ (Sub.f [8, 8, 8, 8, 8, 8, 8, 8, 8] 9)
   ·refine TC.exit (S.x (S.x ?_))
    replace hh := fin_x hR1 hh
    refine TC.exitHere (S.n (TC.front 3 z z (TC.front 3 z z (TC.front 7 z z (TC.front 7 z z (TC.front 7 z z (TC.front 7 z z ?_)))))))
    obtain ⟨v169, u169, hh⟩ := bnd_e hh
    refine TC.ret (⟨.inl z, _, Sub.pre 6 z, (rat_grow_look_con u169).mono ?_⟩)
    rintro _ τ425 _ hle425 ⟨a425_1, c425_2, a425_4, c425_5, a425_7, c425_8, rfl, f425_3, f425_6, f425_9, rfl⟩
    have f425_3b := f425_3.rv.big
    have f425_6b := f425_6.rv.big
    have f425_9b := f425_9.rv.big
    obtain rfl := so hh
    exact RetOk.mk' (rs := [.cell 4 25, .cell 5 27]) [] z (.inl z) (RVs.agg ag25 sz25 z (i := 0) z z (RVs.one ag27 z (i := 1) z z RVs.nil)) (List.nil_sublist _) ⟨a425_1, c425_2, a425_4, c425_5, a425_7, c425_8, z, f425_3, f425_6, f425_9, z⟩

noncomputable def rat_Star_b3 (x0 : Fst) (v47 : (List (List Arc))) (k237 : Nat) (i274 : Int) (l276 : List Tip) (l280 : List Tip) (l284 : List Arc) (t287 : Bool) (k288 : Nat) : Option ((Int × (List Tip) × (List Tip) × (List Arc) × Bool × Nat) ⊕ ((Int × (List Tip) × (List Tip) × (List Arc) × Bool × Nat) ⊕ (Fst × Int))) :=
 iteO (decide (((k288 : Nat) : Int) < ((x0.starts.length : Nat) : Int))) (grd (0 ≤ ((nth x0.starts k288 Tip.zero).state) ∧ ((nth x0.starts k288 Tip.zero).state) < (v47.length : Int)) (bnd (rat_grow_bridge (⟨(⟨i274, l276, l280, l284⟩ : Fst), t287⟩ : Grow) ((nth x0.ends k237 Tip.zero).state) ((nth x0.ends k237 Tip.zero).out) ((nth x0.starts k288 Tip.zero).out) (nth v47 (((nth x0.starts k288 Tip.zero).state).toNat) ([] : List Arc)) 0) (fun v101 => iteO v101.over (bnd (rat_grow_look (⟨(⟨v101.f.states, v101.f.starts, v101.f.ends, v101.f.arcs⟩ : Fst), v101.over⟩ : Grow)) (fun v120 => fin (fin (some ((⟨v120.1.states, v120.1.starts, v120.1.ends, v120.1.arcs⟩ : Fst), v120.2))))) (nxt (v101.f.states, v101.f.starts, v101.f.ends, v101.f.arcs, v101.over, (k288 + 1)))))) (fin (nxt (i274, l276, l280, l284, t287, (k237 + 1))))
noncomputable def rat_Star_b2 (x0 : Fst) (v47 : (List (List Arc))) (i223 : Int) (l225 : List Tip) (l229 : List Tip) (l233 : List Arc) (t236 : Bool) (k237 : Nat) : Option ((Int × (List Tip) × (List Tip) × (List Arc) × Bool × Nat) ⊕ (Fst × Int)) :=
 iteO (decide (((k237 : Nat) : Int) < ((x0.ends.length : Nat) : Int))) (iter (fun q : Int × (List Tip) × (List Tip) × (List Arc) × Bool × Nat => rat_Star_b3 x0 v47 k237 q.1 q.2.1 q.2.2.1 q.2.2.2.1 q.2.2.2.2.1 q.2.2.2.2.2) (i223, l225, l229, l233, t236, 0)) (fin (bnd (rat_grow_look (⟨(⟨i223, l225, l229, l233⟩ : Fst), t236⟩ : Grow)) (fun v121 => some ((⟨v121.1.states, v121.1.starts, v121.1.ends, v121.1.arcs⟩ : Fst), v121.2))))
noncomputable def rat_Star_b1 (x0 : Fst) (v47 : (List (List Arc))) (i161 : Int) (l163 : List Tip) (l167 : List Tip) (l171 : List Arc) (t174 : Bool) (k175 : Nat) : Option ((Int × (List Tip) × (List Tip) × (List Arc) × Bool × Nat) ⊕ (Fst × Int)) :=
 iteO (decide (((k175 : Nat) : Int) < ((x0.starts.length : Nat) : Int))) (grd (0 ≤ ((nth x0.starts k175 Tip.zero).state) ∧ ((nth x0.starts k175 Tip.zero).state) < (v47.length : Int)) (bnd (rat_grow_bridge (⟨(⟨i161, l163, l167, l171⟩ : Fst), t174⟩ : Grow) x0.states ([] : List UInt8) ((nth x0.starts k175 Tip.zero).out) (nth v47 (((nth x0.starts k175 Tip.zero).state).toNat) ([] : List Arc)) 0) (fun v68 => nxt (v68.f.states, v68.f.starts, v68.f.ends, v68.f.arcs, v68.over, (k175 + 1))))) (fin (iter (fun q : Int × (List Tip) × (List Tip) × (List Arc) × Bool × Nat => rat_Star_b2 x0 v47 q.1 q.2.1 q.2.2.1 q.2.2.2.1 q.2.2.2.2.1 q.2.2.2.2.2) (i161, l163, l167, l171, t174, 0)))
noncomputable def rat_Star (x0 : Fst) : Option (Fst × Int) :=
 bnd (fst_Check x0) (fun v5 => iteO (decide (v5 ≠ 0)) (some ((⟨0, ([] : List Tip), ([] : List Tip), ([] : List Arc)⟩ : Fst), 1)) (bnd (rat_free x0) (fun v11 => iteO v11 (some ((⟨0, ([] : List Tip), ([] : List Tip), ([] : List Arc)⟩ : Fst), 11)) (bnd (rat_grow_start (⟨(⟨IntKind.i64.wrap (x0.states + 1), ([] : List Tip), ([] : List Tip), ([] : List Arc)⟩ : Fst), false⟩ : Grow) (⟨x0.states, ([] : List UInt8)⟩ : Tip)) (fun v32 => bnd (rat_grow_end (⟨(⟨v32.f.states, v32.f.starts, v32.f.ends, v32.f.arcs⟩ : Fst), v32.over⟩ : Grow) (⟨x0.states, ([] : List UInt8)⟩ : Tip)) (fun v37 => bnd (rat_grow_ends (⟨(⟨v37.f.states, v37.f.starts, v37.f.ends, v37.f.arcs⟩ : Fst), v37.over⟩ : Grow) x0.ends 0) (fun v41 => bnd (rat_grow_arcs (⟨(⟨v41.f.states, v41.f.starts, v41.f.ends, v41.f.arcs⟩ : Fst), v41.over⟩ : Grow) x0.arcs 0) (fun v45 => bnd (rat_leaving x0) (fun v47 => iter (fun q : Int × (List Tip) × (List Tip) × (List Arc) × Bool × Nat => rat_Star_b1 x0 v47 q.1 q.2.1 q.2.2.1 q.2.2.2.1 q.2.2.2.2.1 q.2.2.2.2.2) (v45.f.states, v45.f.starts, v45.f.ends, v45.f.arcs, v45.over, 0))))))))))
def rat_Star_P (σ : Store) (r : Fst × Int) : Value → Store → List Res → Prop := fun v σ' H' =>
 ∃ (a1 : Option Addr), ∃ (c1 : Nat), ∃ (a2 : Option Addr), ∃ (c2 : Nat), ∃ (a3 : Option Addr), ∃ (c3 : Nat),  v = .tuple #[.agg #[.int .i64 r.1.states, .slice a1 r.1.starts.length c1, .slice a2 r.1.ends.length c2, .slice a3 r.1.arcs.length c3], .int .i64 r.2] ∧ RS σ' 2 encTip (.slice a1 r.1.starts.length c1) r.1.starts ∧ RS σ' 2 encTip (.slice a2 r.1.ends.length c2) r.1.ends ∧ RS σ' 8 encArc (.slice a3 r.1.arcs.length c3) r.1.arcs ∧ H' = []
theorem rat_Star_con {σ : Store} {x0 : Fst} {a0_0 : Option Addr} {c0_0 : Nat} {a0_1 : Option Addr} {c0_1 : Nat} {a0_2 : Option Addr} {c0_2 : Nat} (f0_0 : RS σ 2 encTip (.slice a0_0 x0.starts.length c0_0) x0.starts) (f0_1 : RS σ 2 encTip (.slice a0_1 x0.ends.length c0_1) x0.ends) (f0_2 : RS σ 8 encArc (.slice a0_2 x0.arcs.length c0_2) x0.arcs) {r : Fst × Int} (hh : rat_Star x0 = some r) :
  Con Tryz.prog 18 #[.agg #[.int .i64 x0.states, .slice a0_0 x0.starts.length c0_0, .slice a0_1 x0.ends.length c0_1, .slice a0_2 x0.arcs.length c0_2]] σ [] (rat_Star_P σ r) := by
 dsimp only [rat_Star] at hh
 have f0_0b := f0_0.rv.big
 have f0_1b := f0_1.rv.big
 have f0_2b := f0_2.rv.big
 refine Con.mkD (n := 101) Tryz.func18 z z z (fun w0 => ?_)
 refine TB.seq endR_ret (TC.region (TL.op z (boxA z z z z (fun b101 => ?_))))
 refine TL.op z (OpOk.alloc z ze25 z z (fun b103 => ?_))
 refine TL.op z (OpOk.alloc z ze27 z z (fun b105 => ?_))
 refine TL.en (TB.seq endR_ret (TC.a (TL.w z (loadAll z ag25 sz25 z (i := 2) z z) ?_)))
 obtain ⟨v5, u5, hh⟩ := bnd_e hh
 refine TL.op z (callP (fst_Check_con (x0 := x0) f0_0 f0_1 f0_2 u5) z z pf31 z z z ?_)
 refine TL.w z (OpVal.neq z z z) (TL.en (TC.cD z hh (fun h107 hh => ?_) (fun h107 hh => ?_)))
 ·refine TC.a (TL.w z (buildL z pl25 ze25 z) (TL.front 1 z z (TL.op z (storeAll z sz25 z z z z z z ?_))))
  refine TL.front 1 z z (TL.op z (storeI z sz27 z z z z z ?_))
  refine TL.en (TC.ofSub (Sub.f [1] 2) (TC.ret (S.r ?_)))
  obtain rfl := so hh
  exact ro [] z (RVs.agg ag25 sz25 z (i := 0) z z (RVs.one ag27 z (i := 1) z z RVs.nil)) ⟨none, 0, none, 0, none, 0, z, (RS.nilF _ encTip encTip_len), (RS.nilF _ encTip encTip_len), (RS.nilF _ encArc encArc_len), z⟩
 ·refine TC.skip (S.n (TB.seq endR_ret (TC.a (TL.w z (loadAll z ag25 sz25 z (i := 2) z z) ?_))))
  obtain ⟨v11, u11, hh⟩ := bnd_e hh
  refine TL.op z (callP (rat_free_con (x0 := x0) f0_0 f0_1 f0_2 u11) z z pf47 z z z ?_)
  refine TL.en (TC.cB z hh (fun h108 hh => ?_) (fun h108 hh => ?_))
  ·refine TC.a (TL.w z (buildL z pl25 ze25 z) (TL.front 1 z z (TL.op z (storeAll z sz25 z z z z z z ?_))))
   refine TL.front 1 z z (TL.op z (storeI z sz27 z z z z z ?_))
   refine TL.en (TC.ofSub (Sub.f [1] 2) (TC.ret (S.r ?_)))
   obtain rfl := so hh
   exact ro [] z (RVs.agg ag25 sz25 z (i := 0) z z (RVs.one ag27 z (i := 1) z z RVs.nil)) ⟨none, 0, none, 0, none, 0, z, (RS.nilF _ encTip encTip_len), (RS.nilF _ encTip encTip_len), (RS.nilF _ encArc encArc_len), z⟩
  ·refine TC.skip (S.n (TB.seq endR_ret (TC.region (TL.w z (buildL z pl96 ze96 z) (TL.op z (boxA z z z z (fun b109 => ?_)))))))
   refine TL.l z z (TL.en (TB.seqD (TLB.v z (moveLoc (.inl z) z) z z (TLB.dfr (dargs := [loc b109 0, loc b103 0, loc b105 0]) z z z z z (fun a_ w_ hw_ ha_ => ?_)))))
   refine TB.fin (Q := dfrQ _ _ _ _ 48 [loc b109 0, loc b103 0, loc b105 0]) (endR_dfr (cap := []) (dargs := [loc b109 0, loc b103 0, loc b105 0]) pf48) ?_ w_ a_ hw_ ha_
   clear hw_ ha_ a_ w_
   refine TC.a (TL.l z z (TL.w z (fieldLoc z fo25_0 z) (TL.w z (loadLoc z ag3 z (i := 3) z z) (TL.w z (addW z z z) (TL.w z (nilCheckLoc z z) (TL.w z (fieldLoc z fo96_0 z) (TL.w z (fieldLoc z fo25_0 z) (TL.op z (storeI z sz3 z z z z z ?_)))))))))
   refine TL.en (TC.a (TL.l z z (TL.w z (fieldLoc z fo25_0 z) (TL.w z (loadLoc z ag3 z (i := 3) z z) (TL.w z (buildL z pl53 ze53 z) (TL.nilS 53 2 encTip (TL.nilS 53 2 encTip (TL.nilS 66 8 encArc (TL.front 1 z z (TL.front 2 z z (TL.front 3 z z ?_)))))))))))
   obtain ⟨v32, u32, hh⟩ := bnd_e hh
   refine TL.op z (OpOk.call (rat_grow_start_con u32) z z pf49 z z z z ?_)
   rintro _ _ _ hle114 ⟨a114_1, c114_2, a114_3, c114_4, a114_5, c114_6, rfl, rfl, rfl⟩
   refine TL.en (TC.a (TL.l z z (TL.w z (fieldLoc z fo25_0 z) (TL.w z (loadLoc z ag3 z (i := 6) z z) (TL.w z (buildL z pl53 ze53 z) (TL.front 3 z z (TL.front 3 z z (TL.front 3 z z (TL.front 3 z z ?_)))))))))
   obtain ⟨v37, u37, hh⟩ := bnd_e hh
   refine TL.op z (OpOk.call (rat_grow_end_con u37) z z pf50 z z z z ?_)
   rintro _ _ _ hle118 ⟨a118_1, c118_2, a118_3, c118_4, a118_5, c118_6, rfl, rfl, rfl⟩
   refine TL.en (TC.a (TL.l z z (TL.w z (fieldLoc z fo25_2 z) (TL.w z (loadLoc z ag22 z (i := 6) z z) (TL.front 3 z z (TL.front 3 z z (TL.front 3 z z (TL.front 3 z z ?_))))))))
   obtain ⟨v41, u41, hh⟩ := bnd_e hh
   refine TL.op z (OpOk.call (rat_grow_ends_con f0_1 u41) z z pf51 z z z z ?_)
   rintro _ _ _ hle122 ⟨a122_1, c122_2, a122_3, c122_4, a122_5, c122_6, rfl, rfl, rfl⟩
   refine TL.en (TC.a (TL.l z z (TL.w z (fieldLoc z fo25_3 z) (TL.w z (loadLoc z ag23 z (i := 6) z z) (TL.front 3 z z (TL.front 3 z z (TL.front 3 z z (TL.front 3 z z ?_))))))))
   obtain ⟨v45, u45, hh⟩ := bnd_e hh
   refine TL.op z (OpOk.call (rat_grow_arcs_con f0_2 u45) z z pf52 z z z z ?_)
   rintro _ _ _ hle126 ⟨a126_1, c126_2, a126_3, c126_4, a126_5, c126_6, rfl, rfl, rfl⟩
   refine TL.en (TC.a (TL.w z (loadAll z ag25 sz25 z (i := 6) z z) ?_))
   obtain ⟨v47, u47, hh⟩ := bnd_e hh
   refine TL.op z (OpOk.call (rat_leaving_con (x0 := x0) f0_0 f0_1 f0_2 u47) z z pf53 z z z z ?_)
   rintro _ τ130 _ hle130 ⟨a130_1, c130_1, rfl, hr130_0, rfl⟩
   replace f0_0 := f0_0.mono hle130
   replace f0_1 := f0_1.mono hle130
   have hr130_0b := hr130_0.big
   refine TL.s z z (TL.en (TC.seq (TC.a (TL.w z (fieldLoc z fo25_1 z) (TL.w z (loadLoc z ag22 z (i := 6) z z) (TL.w z (lenC z underlying22 z) (TL.i z z (TL.en (TC.block (TC.loopG (α := (Int × (List Tip) × (List Tip) × (List Arc) × Bool × Nat) × ((Option Addr) × Nat × (Option Addr) × Nat × (Option Addr) × Nat)) (rgs [(7, 1), (52, 16)]) (fun g => [(52, .int .i64 ((g.1.2.2.2.2.2 : Nat) : Int))]) (fun g => [Res.cells b101 #[.int .i64 x0.states, .slice a0_0 x0.starts.length c0_0, .slice a0_1 x0.ends.length c0_1, .slice a0_2 x0.arcs.length c0_2] 25, Res.cells b103 #[.int .i64 0, .slice none 0 0, .slice none 0 0, .slice none 0 0] 25, Res.cells b105 #[.int .i64 0] 27, Res.cells b109 #[.int .i64 g.1.1, .slice g.2.1 g.1.2.1.length g.2.2.1, .slice g.2.2.2.1 g.1.2.2.1.length g.2.2.2.2.1, .slice g.2.2.2.2.2.1 g.1.2.2.2.1.length g.2.2.2.2.2.2, .bool g.1.2.2.2.2.1] 96, Res.rowS 53 2 encTip (.slice g.2.1 g.1.2.1.length g.2.2.1) g.1.2.1, Res.rowS 53 2 encTip (.slice g.2.2.2.1 g.1.2.2.1.length g.2.2.2.2.1) g.1.2.2.1, Res.rowS 66 8 encArc (.slice g.2.2.2.2.2.1 g.1.2.2.2.1.length g.2.2.2.2.2.2) g.1.2.2.2.1]) (fun g => τ130) (fun g => iter (fun q : Int × (List Tip) × (List Tip) × (List Arc) × Bool × Nat => rat_Star_b1 x0 v47 q.1 q.2.1 q.2.2.1 q.2.2.2.1 q.2.2.2.2.1 q.2.2.2.2.2) g.1 = some r) (fun g => rounds (fun q : Int × (List Tip) × (List Tip) × (List Arc) × Bool × Nat => rat_Star_b1 x0 v47 q.1 q.2.1 q.2.2.1 q.2.2.2.1 q.2.2.2.2.1 q.2.2.2.2.2) g.1) ((v45.f.states, v45.f.starts, v45.f.ends, v45.f.arcs, v45.over, 0), (a126_1, c126_2, a126_3, c126_4, a126_5, c126_6)) (Sub.f [3, 3, 3, 3, 4, 5, 6] 7) z (by repeat (first | exact trivial | refine ⟨z, ?_⟩)) hh (fun g1 j1 hg1 => ?_)))))))))))
   obtain ⟨⟨i161, l163, l167, l171, t174, k175⟩, ⟨a164, c165, a168, c169, a172, c173⟩⟩ := g1
   have hh := hg1; clear hg1
   try dsimp only
   obtain ⟨z1, hh, hR1⟩ := iter_e hh
   dsimp only [rat_Star_b1] at hh
   refine TC.isSl (i := 4) z (fun _ hb176 _ => ?_)
   refine TC.isSl (i := 5) z (fun _ hb177 _ => ?_)
   refine TC.isSl (i := 6) z (fun _ hb178 _ => ?_)
   refine TC.a (TL.w z (OpVal.lss z z z) (TL.en (TC.seq (TC.cD z hh (fun h179 hh => ?_) (fun h179 hh => ?_)))))
   ·refine TC.skip (S.n (TC.seq (TC.block (TC.a (TL.w z (indexN z underlying22 sz53 z z f0_0.rv.sl (by omega)) (TL.w z (loadSA Tip.zero z ag53 sz53 z f0_0 (by omega) (by omega)) (TL.op z (OpOk.alloc z ze53 z z (fun b180 => ?_)))))))))
    refine TL.op z (storeAll z sz53 z z z z z z ?_)
    refine TL.en ?_
    have u66 := grd_c hh
    replace hh := grd_t hh
    obtain ⟨v68, u68, hh⟩ := bnd_e hh
    refine TC.drawR (Hr := [Res.cells b180 #[.int .i64 ((nth x0.starts k175 Tip.zero).state), .string (bs ((nth x0.starts k175 Tip.zero).out))] 53, Res.cells b101 #[.int .i64 x0.states, .slice a0_0 x0.starts.length c0_0, .slice a0_1 x0.ends.length c0_1, .slice a0_2 x0.arcs.length c0_2] 25, Res.cells b103 #[.int .i64 0, .slice none 0 0, .slice none 0 0, .slice none 0 0] 25, Res.cells b105 #[.int .i64 0] 27]) (fun r hr => mem_pick [0, 1, 2, 3] z hr) [] (by kernel_rfl) (TA.a 0 z (moveLoc (.inl z) z) z (TA.a 1 z (fieldLoc z fo25_0 z) z (TA.b 2 z (loadLoc z ag3 z (i := 1) z z) z (TA.a 3 z (fieldLoc z fo53_1 z) z (TA.b 4 z (loadLoc z ag9 z (i := 0) z z) z (TA.a 5 z (moveSl (.inl z) z) z (TA.a 6 z (fieldLoc z fo53_0 z) z (TA.b 7 z (loadLoc z ag3 z (i := 0) z z) z (TA.b 8 z (OpVal.index z underlying85 sz23 z z hr130_0.isSl u66.1 u66.2) z ?_)))))))))
    obtain ⟨p187, hk187, hg187⟩ := RZ.seg hr130_0 (((nth x0.starts k175 Tip.zero).state).toNat) (by omega)
    replace hk187 : RS _ 8 encArc (.slice p187.1 (nth v47 (((nth x0.starts k175 Tip.zero).state).toNat) ([] : List Arc)).length p187.2) (nth v47 (((nth x0.starts k175 Tip.zero).state).toNat) ([] : List Arc)) := hk187
    have hk187b := hk187.rv.big
    refine TA.b 9 z (OpVal.of (loadSeg0 z ag23 z hg187 z) (v' := .slice p187.1 ((nth v47 (((nth x0.starts k175 Tip.zero).state).toNat) ([] : List Arc)).length) p187.2) z) z (TA.front 7 z z (TA.front 7 z z (TA.front 7 z z (TA.front 7 z z (TA.ac 10 z (OpOk.call (rat_grow_bridge_con hk187 u68) z z pf54 z z z z ?_))))))
    rintro _ _ _ hle188 ⟨a188_1, c188_2, a188_3, c188_4, a188_5, c188_6, rfl, rfl, rfl⟩
    refine kc 4 (TA.dn (B.n (S.n (TC.region (TL.w z (OpVal.succ z z z (by omega)) (TL.i z z (TL.en ?_)))))))
    obtain ⟨hh, hlt192⟩ := nxt_x hR1 hh
    exact lf ((v68.f.states, v68.f.starts, v68.f.ends, v68.f.arcs, v68.over, (k175 + 1)), (a188_1, c188_2, a188_3, c188_4, a188_5, c188_6)) hlt192 hh (Sub.f [3, 3, 3, 3, 7, 7, 7] 7)
   ·refine TC.exit (S.x (S.x ?_))
    replace hh := fin_x hR1 hh
    refine TC.exitHere (S.n (TC.seq (TC.a (TL.w z (fieldLoc z fo25_2 z) (TL.w z (loadLoc z ag22 z (i := 0) z z) (TL.w z (lenC z underlying22 z) (TL.i z z (TL.en (TC.block (TC.loopG (α := (Int × (List Tip) × (List Tip) × (List Arc) × Bool × Nat) × ((Option Addr) × Nat × (Option Addr) × Nat × (Option Addr) × Nat)) (rgs [(9, 1), (11, 1), (71, 30)]) (fun g => [(71, .int .i64 ((g.1.2.2.2.2.2 : Nat) : Int))]) (fun g => [Res.cells b101 #[.int .i64 x0.states, .slice a0_0 x0.starts.length c0_0, .slice a0_1 x0.ends.length c0_1, .slice a0_2 x0.arcs.length c0_2] 25, Res.cells b103 #[.int .i64 0, .slice none 0 0, .slice none 0 0, .slice none 0 0] 25, Res.cells b105 #[.int .i64 0] 27, Res.cells b109 #[.int .i64 g.1.1, .slice g.2.1 g.1.2.1.length g.2.2.1, .slice g.2.2.2.1 g.1.2.2.1.length g.2.2.2.2.1, .slice g.2.2.2.2.2.1 g.1.2.2.2.1.length g.2.2.2.2.2.2, .bool g.1.2.2.2.2.1] 96, Res.rowS 53 2 encTip (.slice g.2.1 g.1.2.1.length g.2.2.1) g.1.2.1, Res.rowS 53 2 encTip (.slice g.2.2.2.1 g.1.2.2.1.length g.2.2.2.2.1) g.1.2.2.1, Res.rowS 66 8 encArc (.slice g.2.2.2.2.2.1 g.1.2.2.2.1.length g.2.2.2.2.2.2) g.1.2.2.2.1]) (fun g => τ130) (fun g => iter (fun q : Int × (List Tip) × (List Tip) × (List Arc) × Bool × Nat => rat_Star_b2 x0 v47 q.1 q.2.1 q.2.2.1 q.2.2.2.1 q.2.2.2.2.1 q.2.2.2.2.2) g.1 = some r) (fun g => rounds (fun q : Int × (List Tip) × (List Tip) × (List Arc) × Bool × Nat => rat_Star_b2 x0 v47 q.1 q.2.1 q.2.2.1 q.2.2.2.1 q.2.2.2.2.1 q.2.2.2.2.2) g.1) ((i161, l163, l167, l171, t174, 0), (a164, c165, a168, c169, a172, c173)) (Sub.f [6, 6, 6, 6, 6, 6, 6] 7) z (by repeat (first | exact trivial | refine ⟨z, ?_⟩)) hh (fun g2 j2 hg2 => ?_)))))))))))
    obtain ⟨⟨i223, l225, l229, l233, t236, k237⟩, ⟨a226, c227, a230, c231, a234, c235⟩⟩ := g2
    have hh := hg2; clear hg2
    try dsimp only
    obtain ⟨z1, hh, hR1⟩ := iter_e hh
    dsimp only [rat_Star_b2] at hh
    refine TC.isSl (i := 4) z (fun _ hb238 _ => ?_)
    refine TC.isSl (i := 5) z (fun _ hb239 _ => ?_)
    refine TC.isSl (i := 6) z (fun _ hb240 _ => ?_)
    refine TC.a (TL.w z (OpVal.lss z z z) (TL.en (TC.seq (TC.cD z hh (fun h241 hh => ?_) (fun h241 hh => ?_)))))
    ·refine TC.skip (S.n (TC.seq (TC.block (TC.a (TL.w z (indexN z underlying22 sz53 z z f0_1.rv.sl (by omega)) (TL.w z (loadSA Tip.zero z ag53 sz53 z f0_1 (by omega) (by omega)) (TL.op z (OpOk.alloc z ze53 z z (fun b242 => ?_)))))))))
     refine TL.op z (storeAll z sz53 z z z z z z ?_)
     refine TL.en (TC.a (TL.w z (fieldLoc z fo25_1 z) (TL.w z (loadLoc z ag22 z (i := 1) z z) (TL.w z (lenC z underlying22 z) (TL.i z z (TL.en (TC.block (TC.loopG (α := (Int × (List Tip) × (List Tip) × (List Arc) × Bool × Nat) × ((Option Addr) × Nat × (Option Addr) × Nat × (Option Addr) × Nat)) (rgs [(11, 1), (78, 22)]) (fun g => [(78, .int .i64 ((g.1.2.2.2.2.2 : Nat) : Int))]) (fun g => [Res.cells b101 #[.int .i64 x0.states, .slice a0_0 x0.starts.length c0_0, .slice a0_1 x0.ends.length c0_1, .slice a0_2 x0.arcs.length c0_2] 25, Res.cells b103 #[.int .i64 0, .slice none 0 0, .slice none 0 0, .slice none 0 0] 25, Res.cells b105 #[.int .i64 0] 27, Res.cells b109 #[.int .i64 g.1.1, .slice g.2.1 g.1.2.1.length g.2.2.1, .slice g.2.2.2.1 g.1.2.2.1.length g.2.2.2.2.1, .slice g.2.2.2.2.2.1 g.1.2.2.2.1.length g.2.2.2.2.2.2, .bool g.1.2.2.2.2.1] 96, Res.rowS 53 2 encTip (.slice g.2.1 g.1.2.1.length g.2.2.1) g.1.2.1, Res.rowS 53 2 encTip (.slice g.2.2.2.1 g.1.2.2.1.length g.2.2.2.2.1) g.1.2.2.1, Res.rowS 66 8 encArc (.slice g.2.2.2.2.2.1 g.1.2.2.2.1.length g.2.2.2.2.2.2) g.1.2.2.2.1, Res.cells b242 #[.int .i64 ((nth x0.ends k237 Tip.zero).state), .string (bs ((nth x0.ends k237 Tip.zero).out))] 53]) (fun g => τ130) (fun g => iter (fun q : Int × (List Tip) × (List Tip) × (List Arc) × Bool × Nat => rat_Star_b3 x0 v47 k237 q.1 q.2.1 q.2.2.1 q.2.2.2.1 q.2.2.2.2.1 q.2.2.2.2.2) g.1 = some z1) (fun g => rounds (fun q : Int × (List Tip) × (List Tip) × (List Arc) × Bool × Nat => rat_Star_b3 x0 v47 k237 q.1 q.2.1 q.2.2.1 q.2.2.2.1 q.2.2.2.2.1 q.2.2.2.2.2) g.1) ((i223, l225, l229, l233, t236, 0), (a226, c227, a230, c231, a234, c235)) (Sub.f [7, 7, 7, 7, 7, 7, 7] 8) z (by repeat (first | exact trivial | refine ⟨z, ?_⟩)) hh (fun g3 j3 hg3 => ?_)))))))))
     obtain ⟨⟨i274, l276, l280, l284, t287, k288⟩, ⟨a277, c278, a281, c282, a285, c286⟩⟩ := g3
     have hh := hg3; clear hg3
     try dsimp only
     obtain ⟨z2, hh, hR2⟩ := iter_e hh
     dsimp only [rat_Star_b3] at hh
     refine TC.isSl (i := 4) z (fun _ hb289 _ => ?_)
     refine TC.isSl (i := 5) z (fun _ hb290 _ => ?_)
     refine TC.isSl (i := 6) z (fun _ hb291 _ => ?_)
     refine TC.a (TL.w z (OpVal.lss z z z) (TL.en (TC.seq (TC.cD z hh (fun h292 hh => ?_) (fun h292 hh => ?_)))))
     ·refine TC.skip (S.n (TC.seq (TC.block (TC.a (TL.w z (indexN z underlying22 sz53 z z f0_0.rv.sl (by omega)) (TL.w z (loadSA Tip.zero z ag53 sz53 z f0_0 (by omega) (by omega)) (TL.op z (OpOk.alloc z ze53 z z (fun b293 => ?_)))))))))
      refine TL.op z (storeAll z sz53 z z z z z z ?_)
      refine TL.en (TC.seq ?_)
      have u99 := grd_c hh
      replace hh := grd_t hh
      obtain ⟨v101, u101, hh⟩ := bnd_e hh
      refine TC.drawR (Hr := [Res.cells b293 #[.int .i64 ((nth x0.starts k288 Tip.zero).state), .string (bs ((nth x0.starts k288 Tip.zero).out))] 53, Res.cells b101 #[.int .i64 x0.states, .slice a0_0 x0.starts.length c0_0, .slice a0_1 x0.ends.length c0_1, .slice a0_2 x0.arcs.length c0_2] 25, Res.cells b103 #[.int .i64 0, .slice none 0 0, .slice none 0 0, .slice none 0 0] 25, Res.cells b105 #[.int .i64 0] 27, Res.cells b242 #[.int .i64 ((nth x0.ends k237 Tip.zero).state), .string (bs ((nth x0.ends k237 Tip.zero).out))] 53]) (fun r hr => mem_pick [0, 1, 2, 3, 8] z hr) [] (by kernel_rfl) (TA.a 0 z (moveLoc (.inl z) z) z (TA.a 1 z (fieldLoc z fo53_0 z) z (TA.b 2 z (loadLoc z ag3 z (i := 4) z z) z (TA.a 3 z (fieldLoc z fo53_1 z) z (TA.b 4 z (loadLoc z ag9 z (i := 4) z z) z (TA.a 5 z (fieldLoc z fo53_1 z) z (TA.b 6 z (loadLoc z ag9 z (i := 0) z z) z (TA.a 7 z (moveSl (.inl z) z) z (TA.a 8 z (fieldLoc z fo53_0 z) z (TA.b 9 z (loadLoc z ag3 z (i := 0) z z) z (TA.b 10 z (OpVal.index z underlying85 sz23 z z hr130_0.isSl u99.1 u99.2) z ?_)))))))))))
      obtain ⟨p300, hk300, hg300⟩ := RZ.seg hr130_0 (((nth x0.starts k288 Tip.zero).state).toNat) (by omega)
      replace hk300 : RS _ 8 encArc (.slice p300.1 (nth v47 (((nth x0.starts k288 Tip.zero).state).toNat) ([] : List Arc)).length p300.2) (nth v47 (((nth x0.starts k288 Tip.zero).state).toNat) ([] : List Arc)) := hk300
      have hk300b := hk300.rv.big
      refine TA.b 11 z (OpVal.of (loadSeg0 z ag23 z hg300 z) (v' := .slice p300.1 ((nth v47 (((nth x0.starts k288 Tip.zero).state).toNat) ([] : List Arc)).length) p300.2) z) z (TA.front 7 z z (TA.front 7 z z (TA.front 7 z z (TA.front 7 z z (TA.ac 12 z (OpOk.call (rat_grow_bridge_con hk300 u101) z z pf54 z z z z ?_))))))
      rintro _ _ _ hle301 ⟨a301_1, c301_2, a301_3, c301_4, a301_5, c301_6, rfl, rfl, rfl⟩
      refine kc 4 (TA.dn (S.n (TC.a (TL.l z z (TL.w z (nilCheckLoc z z) (TL.w z (fieldLoc z fo96_1 z) (TL.w z (loadLoc z ag4 z (i := 0) z z) (TL.en (TC.cB z hh (fun h305 hh => ?_) (fun h305 hh => ?_))))))))))
      ·refine TC.front 7 z z (TC.front 7 z z (TC.front 5 z z (TC.front 5 z z (TC.front 5 z z (TC.front 5 z z ?_)))))
       obtain ⟨v120, u120, hh⟩ := bnd_e hh
       refine TC.ret (B.r (S.r (S.r ?_)))
       replace hh := fin_x hR2 hh
       refine B.r (B.r (S.r (S.r ?_)))
       replace hh := fin_x hR1 hh
       refine B.r (S.r (⟨.inl z, _, Sub.pre 6 z, (rat_grow_look_con u120).mono ?_⟩))
       rintro _ τ306 _ hle306 ⟨a306_1, c306_2, a306_4, c306_5, a306_7, c306_8, rfl, f306_3, f306_6, f306_9, rfl⟩
       have f306_3b := f306_3.rv.big
       have f306_6b := f306_6.rv.big
       have f306_9b := f306_9.rv.big
       obtain rfl := so hh
       exact RetOk.mk' (rs := [.cell 2 25, .cell 3 27]) [] z (.inl z) (RVs.agg ag25 sz25 z (i := 0) z z (RVs.one ag27 z (i := 1) z z RVs.nil)) (List.nil_sublist _) ⟨a306_1, c306_2, a306_4, c306_5, a306_7, c306_8, z, f306_3, f306_6, f306_9, z⟩
      ·refine TC.skip (B.n (S.n (TC.region (TL.w z (OpVal.succ z z z (by omega)) (TL.i z z (TL.en ?_))))))
       obtain ⟨hh, hlt310⟩ := nxt_x hR2 hh
       exact lf ((v101.f.states, v101.f.starts, v101.f.ends, v101.f.arcs, v101.over, (k288 + 1)), (a301_1, c301_2, a301_3, c301_4, a301_5, c301_6)) hlt310 hh (Sub.f [8, 4, 4, 4, 4, 8, 8, 8] 8)
     ·refine TC.exit (S.x (S.x ?_))
      replace hh := fin_x hR2 hh
      refine TC.exitHere (B.n (S.n (TC.region (TL.w z (OpVal.succ z z z (by omega)) (TL.i z z (TL.en ?_))))))
      obtain ⟨hh, hlt311⟩ := nxt_x hR1 hh
      exact lf ((i274, l276, l280, l284, t287, (k237 + 1)), (a277, c278, a281, c282, a285, c286)) hlt311 hh (Sub.f [6, 6, 6, 6, 6, 6, 6] 7)
    ·refine TC.exit (S.x (S.x ?_))
     replace hh := fin_x hR1 hh
     refine TC.exitHere (S.n (TC.front 2 z z (TC.front 2 z z (TC.front 6 z z (TC.front 6 z z (TC.front 6 z z (TC.front 6 z z ?_)))))))
     obtain ⟨v121, u121, hh⟩ := bnd_e hh
     refine TC.ret (⟨.inl z, _, Sub.pre 6 z, (rat_grow_look_con u121).mono ?_⟩)
     rintro _ τ312 _ hle312 ⟨a312_1, c312_2, a312_4, c312_5, a312_7, c312_8, rfl, f312_3, f312_6, f312_9, rfl⟩
     have f312_3b := f312_3.rv.big
     have f312_6b := f312_6.rv.big
     have f312_9b := f312_9.rv.big
     obtain rfl := so hh
     exact RetOk.mk' (rs := [.cell 2 25, .cell 3 27]) [] z (.inl z) (RVs.agg ag25 sz25 z (i := 0) z z (RVs.one ag27 z (i := 1) z z RVs.nil)) (List.nil_sublist _) ⟨a312_1, c312_2, a312_4, c312_5, a312_7, c312_8, z, f312_3, f312_6, f312_9, z⟩

end Go.Proofs.YtjhbngjhdmapmaaGreatDoor
end

/- RatG -/
section
/- What the program puts together: one or the other, one behind the other, again and again. Plain lemmas, no condition. -/
set_option linter.unusedVariables false
set_option linter.unusedSimpArgs false
namespace Go.Proofs.YtjhbngjhdmapmaaGreatDoor
open Go Go.E
set_option maxRecDepth 100000

/-! ### What grows -/
structure GB (F : Fst) : Prop where
  sN : F.starts.length ≤ 1024
  eN : F.ends.length ≤ 1024
  aN : F.arcs.length ≤ 16384
  s : ∀ x ∈ F.starts, x.out.length ≤ 1024
  e : ∀ x ∈ F.ends, x.out.length ≤ 1024
  a : ∀ x ∈ F.arcs, x.out.length ≤ 1024
/-- It holds this, or had no room. -/
def Gr (g : Grow) (F : Fst) : Prop := g.over = true ∨ g = ⟨F, false⟩ ∧ GB F
theorem Gr.nil (n : Int) : Gr ⟨⟨n, [], [], []⟩, false⟩ ⟨n, [], [], []⟩ := .inr ⟨rfl, by simp, by simp, by simp, by simp, by simp, by simp⟩
theorem Gr.st {g : Grow} {F : Fst} (h : Gr g F) (x : Tip) : Gr (growSt g x) ⟨F.states, F.starts ++ [x], F.ends, F.arcs⟩ := by
  unfold growSt
  split
  · exact .inl rfl
  · rename_i hn
    rcases h with h | ⟨rfl, h⟩
    · exact absurd (.inl h) hn
    · simp only [Bool.false_eq_true, false_or, not_or, Nat.not_le, Nat.not_lt] at hn
      refine .inr ⟨rfl, ?_, h.eN, h.aN, fun y hy => ?_, h.e, h.a⟩
      · simp only [List.length_append, List.length_singleton]; omega
      · rcases List.mem_append.1 hy with hy | hy
        · exact h.s y hy
        · rw [List.mem_singleton.1 hy]; exact hn.2
theorem Gr.en {g : Grow} {F : Fst} (h : Gr g F) (x : Tip) : Gr (growEn g x) ⟨F.states, F.starts, F.ends ++ [x], F.arcs⟩ := by
  unfold growEn
  split
  · exact .inl rfl
  · rename_i hn
    rcases h with h | ⟨rfl, h⟩
    · exact absurd (.inl h) hn
    · simp only [Bool.false_eq_true, false_or, not_or, Nat.not_le, Nat.not_lt] at hn
      refine .inr ⟨rfl, h.sN, ?_, h.aN, h.s, fun y hy => ?_, h.a⟩
      · simp only [List.length_append, List.length_singleton]; omega
      · rcases List.mem_append.1 hy with hy | hy
        · exact h.e y hy
        · rw [List.mem_singleton.1 hy]; exact hn.2
theorem Gr.ar {g : Grow} {F : Fst} (h : Gr g F) (x : Arc) : Gr (growAr g x) ⟨F.states, F.starts, F.ends, F.arcs ++ [x]⟩ := by
  unfold growAr
  split
  · exact .inl rfl
  · rename_i hn
    rcases h with h | ⟨rfl, h⟩
    · exact absurd (.inl h) hn
    · simp only [Bool.false_eq_true, false_or, not_or, Nat.not_le, Nat.not_lt] at hn
      refine .inr ⟨rfl, h.sN, h.eN, ?_, h.s, h.e, fun y hy => ?_⟩
      · simp only [List.length_append, List.length_singleton]; omega
      · rcases List.mem_append.1 hy with hy | hy
        · exact h.a y hy
        · rw [List.mem_singleton.1 hy]; exact hn.2
def pS (F : Fst) (l : List Tip) : Fst := ⟨F.states, F.starts ++ l, F.ends, F.arcs⟩
def pE (F : Fst) (l : List Tip) : Fst := ⟨F.states, F.starts, F.ends ++ l, F.arcs⟩
def pA (F : Fst) (l : List Arc) : Fst := ⟨F.states, F.starts, F.ends, F.arcs ++ l⟩
theorem pS_nil (F : Fst) : pS F [] = F := by simp [pS]
theorem pE_nil (F : Fst) : pE F [] = F := by simp [pE]
theorem pA_nil (F : Fst) : pA F [] = F := by simp [pA]
theorem pS_snoc (F : Fst) (l : List Tip) (x : Tip) : pS F (l ++ [x]) = ⟨(pS F l).states, (pS F l).starts ++ [x], (pS F l).ends, (pS F l).arcs⟩ := by simp [pS]
theorem pE_snoc (F : Fst) (l : List Tip) (x : Tip) : pE F (l ++ [x]) = ⟨(pE F l).states, (pE F l).starts, (pE F l).ends ++ [x], (pE F l).arcs⟩ := by simp [pE]
theorem pA_snoc (F : Fst) (l : List Arc) (x : Arc) : pA F (l ++ [x]) = ⟨(pA F l).states, (pA F l).starts, (pA F l).ends, (pA F l).arcs ++ [x]⟩ := by simp [pA]
theorem shT_snoc (n : Int) (l : List Tip) {k : Nat} (h : k < l.length) : shT n (l.take (k + 1)) = shT n (l.take k) ++ [⟨(nth l k Tip.zero).state + n, (nth l k Tip.zero).out⟩] := by
  rw [take_snoc l h Tip.zero]; unfold shT; rw [List.map_append]; rfl
theorem shA_snoc (n : Int) (l : List Arc) {k : Nat} (h : k < l.length) : shA n (l.take (k + 1)) = shA n (l.take k) ++ [⟨(nth l k Arc.zero).frm + n, (nth l k Arc.zero).to + n, (nth l k Arc.zero).set, (nth l k Arc.zero).out, (nth l k Arc.zero).copy⟩] := by
  rw [take_snoc l h Arc.zero]; unfold shA; rw [List.map_append]; rfl
theorem brA_snoc (s : Int) (p q : List UInt8) (l : List Arc) (n : Int) {k : Nat} (h : k < l.length) : brA s p q (l.take (k + 1)) n = brA s p q (l.take k) n ++ [⟨s, (nth l k Arc.zero).to + n, (nth l k Arc.zero).set, (p ++ q) ++ (nth l k Arc.zero).out, (nth l k Arc.zero).copy⟩] := by
  rw [take_snoc l h Arc.zero]; unfold brA; rw [List.map_append]; rfl
theorem wr_ok {a : Int} (h : -100000 ≤ a ∧ a ≤ 100000) : IntKind.i64.wrap a = a := wrap64_of (by omega) (by omega)
theorem starts_go {l : List Tip} {up : Int} (hr : ∀ x ∈ l, -100000 ≤ x.state + up ∧ x.state + up ≤ 100000) {g : Grow} {F : Fst} (h : Gr g F) : ∃ g', rat_grow_starts g l up = some g' ∧ Gr g' (pS F (shT up l)) := by
  unfold rat_grow_starts
  refine iter_up (step := fun q : Int × (List Tip) × (List Tip) × (List Arc) × Bool × Nat => rat_grow_starts_b1 l up q.1 q.2.1 q.2.2.1 q.2.2.2.1 q.2.2.2.2.1 q.2.2.2.2.2) (fun (s : Grow) k => (s.f.states, s.f.starts, s.f.ends, s.f.arcs, s.over, k)) l.length
    (fun k s => Gr s (pS F (shT up (l.take k)))) _ (fun k s hk hI => ?_) (fun s hI => ?_) (s0 := g) (by simpa [shT, pS_nil] using h)
  · refine .inl ⟨growSt s ⟨(nth l k Tip.zero).state + up, (nth l k Tip.zero).out⟩, ?_, ?_⟩
    · show rat_grow_starts_b1 l up s.f.states s.f.starts s.f.ends s.f.arcs s.over k = _
      unfold rat_grow_starts_b1
      rw [iteO_dt (by omega), start_eq, bnd_mk, wr_ok (hr _ (nth_mem' hk _))]; rfl
    · rw [shT_snoc up l hk, pS_snoc]; exact hI.st _
  · rw [List.take_length] at hI
    refine ⟨s, ?_, hI⟩
    show rat_grow_starts_b1 l up s.f.states s.f.starts s.f.ends s.f.arcs s.over l.length = _
    unfold rat_grow_starts_b1
    rw [iteO_df (by omega)]; rfl
theorem ends_go {l : List Tip} {up : Int} (hr : ∀ x ∈ l, -100000 ≤ x.state + up ∧ x.state + up ≤ 100000) {g : Grow} {F : Fst} (h : Gr g F) : ∃ g', rat_grow_ends g l up = some g' ∧ Gr g' (pE F (shT up l)) := by
  unfold rat_grow_ends
  refine iter_up (step := fun q : Int × (List Tip) × (List Tip) × (List Arc) × Bool × Nat => rat_grow_ends_b1 l up q.1 q.2.1 q.2.2.1 q.2.2.2.1 q.2.2.2.2.1 q.2.2.2.2.2) (fun (s : Grow) k => (s.f.states, s.f.starts, s.f.ends, s.f.arcs, s.over, k)) l.length
    (fun k s => Gr s (pE F (shT up (l.take k)))) _ (fun k s hk hI => ?_) (fun s hI => ?_) (s0 := g) (by simpa [shT, pE_nil] using h)
  · refine .inl ⟨growEn s ⟨(nth l k Tip.zero).state + up, (nth l k Tip.zero).out⟩, ?_, ?_⟩
    · show rat_grow_ends_b1 l up s.f.states s.f.starts s.f.ends s.f.arcs s.over k = _
      unfold rat_grow_ends_b1
      rw [iteO_dt (by omega), end_eq, bnd_mk, wr_ok (hr _ (nth_mem' hk _))]; rfl
    · rw [shT_snoc up l hk, pE_snoc]; exact hI.en _
  · rw [List.take_length] at hI
    refine ⟨s, ?_, hI⟩
    show rat_grow_ends_b1 l up s.f.states s.f.starts s.f.ends s.f.arcs s.over l.length = _
    unfold rat_grow_ends_b1
    rw [iteO_df (by omega)]; rfl
theorem arcs_go {l : List Arc} {up : Int} (hr : ∀ x ∈ l, (-100000 ≤ x.frm + up ∧ x.frm + up ≤ 100000) ∧ -100000 ≤ x.to + up ∧ x.to + up ≤ 100000) {g : Grow} {F : Fst} (h : Gr g F) : ∃ g', rat_grow_arcs g l up = some g' ∧ Gr g' (pA F (shA up l)) := by
  unfold rat_grow_arcs
  refine iter_up (step := fun q : Int × (List Tip) × (List Tip) × (List Arc) × Bool × Nat => rat_grow_arcs_b1 l up q.1 q.2.1 q.2.2.1 q.2.2.2.1 q.2.2.2.2.1 q.2.2.2.2.2) (fun (s : Grow) k => (s.f.states, s.f.starts, s.f.ends, s.f.arcs, s.over, k)) l.length
    (fun k s => Gr s (pA F (shA up (l.take k)))) _ (fun k s hk hI => ?_) (fun s hI => ?_) (s0 := g) (by simpa [shA, pA_nil] using h)
  · have hm := hr _ (nth_mem' hk Arc.zero)
    refine .inl ⟨growAr s ⟨(nth l k Arc.zero).frm + up, (nth l k Arc.zero).to + up, (nth l k Arc.zero).set, (nth l k Arc.zero).out, (nth l k Arc.zero).copy⟩, ?_, ?_⟩
    · show rat_grow_arcs_b1 l up s.f.states s.f.starts s.f.ends s.f.arcs s.over k = _
      unfold rat_grow_arcs_b1
      rw [iteO_dt (by omega), arc_eq, bnd_mk, wr_ok hm.1, wr_ok hm.2]; rfl
    · rw [shA_snoc up l hk, pA_snoc]; exact hI.ar _
  · rw [List.take_length] at hI
    refine ⟨s, ?_, hI⟩
    show rat_grow_arcs_b1 l up s.f.states s.f.starts s.f.ends s.f.arcs s.over l.length = _
    unfold rat_grow_arcs_b1
    rw [iteO_df (by omega)]; rfl
theorem bridge_go {l : List Arc} {s0 up : Int} {p q : List UInt8} (hp : p.length ≤ 1024) (hq : q.length ≤ 1024) (hr : ∀ x ∈ l, (-100000 ≤ x.to + up ∧ x.to + up ≤ 100000) ∧ x.out.length ≤ 1024) {g : Grow} {F : Fst} (h : Gr g F) : ∃ g', rat_grow_bridge g s0 p q l up = some g' ∧ Gr g' (pA F (brA s0 p q l up)) := by
  unfold rat_grow_bridge
  rw [grd_mk (by omega), grd_mk (by omega)]
  refine iter_up (step := fun z : Int × (List Tip) × (List Tip) × (List Arc) × Bool × Nat => rat_grow_bridge_b1 l p q s0 up z.1 z.2.1 z.2.2.1 z.2.2.2.1 z.2.2.2.2.1 z.2.2.2.2.2) (fun (s : Grow) k => (s.f.states, s.f.starts, s.f.ends, s.f.arcs, s.over, k)) l.length
    (fun k s => Gr s (pA F (brA s0 p q (l.take k) up))) _ (fun k s hk hI => ?_) (fun s hI => ?_) (s0 := g) (by simpa [brA, pA_nil] using h)
  · have hm := hr _ (nth_mem' hk Arc.zero)
    have hs : rat_grow_bridge_b1 l p q s0 up s.f.states s.f.starts s.f.ends s.f.arcs s.over k = (fun v26 : Grow => iteO v26.over (fin (some (⟨(⟨v26.f.states, v26.f.starts, v26.f.ends, v26.f.arcs⟩ : Fst), v26.over⟩ : Grow))) (nxt (v26.f.states, v26.f.starts, v26.f.ends, v26.f.arcs, v26.over, (k + 1)))) (growAr s ⟨s0, (nth l k Arc.zero).to + up, (nth l k Arc.zero).set, (p ++ q) ++ (nth l k Arc.zero).out, (nth l k Arc.zero).copy⟩) := by
      unfold rat_grow_bridge_b1
      rw [iteO_dt (by omega), grd_mk (by omega), grd_mk (by rw [List.length_append]; omega), arc_eq, bnd_mk, wr_ok hm.1]
    have hG := hI.ar ⟨s0, (nth l k Arc.zero).to + up, (nth l k Arc.zero).set, (p ++ q) ++ (nth l k Arc.zero).out, (nth l k Arc.zero).copy⟩
    rw [← pA_snoc, ← brA_snoc s0 p q l up hk] at hG
    generalize growAr s ⟨s0, (nth l k Arc.zero).to + up, (nth l k Arc.zero).set, (p ++ q) ++ (nth l k Arc.zero).out, (nth l k Arc.zero).copy⟩ = g' at hs hG
    cases ho : g'.over with
    | true => exact .inr ⟨g', by show rat_grow_bridge_b1 l p q s0 up s.f.states s.f.starts s.f.ends s.f.arcs s.over k = _; rw [hs]; dsimp only; rw [ho]; show some (Sum.inr _) = _; rw [← ho], .inl ho⟩
    | false => exact .inl ⟨g', by show rat_grow_bridge_b1 l p q s0 up s.f.states s.f.starts s.f.ends s.f.arcs s.over k = _; rw [hs]; dsimp only; rw [ho]; rfl, hG⟩
  · rw [List.take_length] at hI
    refine ⟨s, ?_, hI⟩
    show rat_grow_bridge_b1 l p q s0 up s.f.states s.f.starts s.f.ends s.f.arcs s.over l.length = _
    unfold rat_grow_bridge_b1
    rw [iteO_df (by omega)]; rfl
theorem leaving_go {t : Fst} (ht : FstOk t) : ∃ l, rat_leaving t = some l ∧ Grp Arc.frm id t.states.toNat l t.arcs := by
  have h0 := ht.st0
  have h1 := ht.st1
  unfold rat_leaving
  rw [grd_mk ⟨h0, by omega⟩]
  refine iter_up (step := fun q : (List (List Arc)) × Nat => rat_leaving_b1 t q.1 q.2) (fun (l : List (List Arc)) k => (l, k)) t.arcs.length (fun k l => Grp Arc.frm id t.states.toNat l (t.arcs.take k)) _
    (fun k l hk hI => ?_) (fun l hI => ?_) (s0 := List.replicate t.states.toNat []) (by simpa using Grp.nil Arc.frm id t.states.toNat)
  · have hlen := hI.len
    have hm := ht.arcs _ (nth_mem' hk Arc.zero)
    have hrow : (nth l (nth t.arcs k Arc.zero).frm.toNat []).length ≤ 16384 := by
      rw [hI.at hm.1.1 (by omega), List.length_map]
      have := List.length_filter_le (fun x : Arc => decide (x.frm = (nth t.arcs k Arc.zero).frm)) (t.arcs.take k)
      rw [List.length_take] at this
      have := ht.arcsN; omega
    refine .inl ⟨l.set (nth t.arcs k Arc.zero).frm.toNat (nth l (nth t.arcs k Arc.zero).frm.toNat [] ++ [nth t.arcs k Arc.zero]), ?_, ?_⟩
    · show rat_leaving_b1 t l k = _
      unfold rat_leaving_b1
      rw [iteO_dt (by omega), grd_mk (by omega), grd_mk (by rw [List.length_singleton]; omega), grd_mk (by omega)]; rfl
    · rw [take_snoc t.arcs hk Arc.zero]; exact hI.snoc hm.1.1 (by omega)
  · rw [List.take_length] at hI
    refine ⟨l, ?_, hI⟩
    show rat_leaving_b1 t l t.arcs.length = _
    unfold rat_leaving_b1
    rw [iteO_df (by omega)]; rfl
/-- What comes of it at the end. -/
def GEnd (F : Fst) (r : Fst × Int) : Prop := r = (⟨0, [], [], []⟩, 2) ∨ r = (F, 0) ∧ GB F ∧ F.states ≤ 1024
theorem gend {g : Grow} {F : Fst} (h : Gr g F) : GEnd F (lookG g) := by
  unfold lookG
  split
  · exact .inl rfl
  · rename_i hn
    rcases h with h | ⟨rfl, h⟩
    · exact absurd (.inl h) hn
    · simp only [Bool.false_eq_true, false_or, Int.not_lt] at hn
      exact .inr ⟨rfl, h, hn⟩
theorem shT_zero (l : List Tip) : shT 0 l = l := by
  unfold shT
  have : (fun x : Tip => (⟨x.state + 0, x.out⟩ : Tip)) = id := funext fun x => by rw [Int.add_zero]; rfl
  rw [this, List.map_id]
theorem shA_zero (l : List Arc) : shA 0 l = l := by
  unfold shA
  have : (fun x : Arc => (⟨x.frm + 0, x.to + 0, x.set, x.out, x.copy⟩ : Arc)) = id := funext fun x => by rw [Int.add_zero, Int.add_zero]; rfl
  rw [this, List.map_id]
theorem both_go (a b : Fst) : rat_both a b = some (fstB a && fstB b) := by
  unfold rat_both
  rw [fst_Check_eq, bnd_mk]
  cases ha : fstB a
  · rfl
  · rw [fst_Check_eq, bnd_mk]
    cases hb : fstB b <;> rfl

/-! ### Alt -/
theorem alt_go {a b : Fst} (ha : FstOk a) (hb : FstOk b) : ∃ r, rat_Alt a b = some r ∧ GEnd (fAlt a b) r := by
  have a0 := ha.st0
  have a1 := ha.st1
  have b0 := hb.st0
  have b1 := hb.st1
  have rT0 : ∀ l : List Tip, (∀ x ∈ l, (0 ≤ x.state ∧ x.state < a.states) ∧ x.out.length ≤ 1024) → ∀ x ∈ l, -100000 ≤ x.state + 0 ∧ x.state + 0 ≤ 100000 := fun l hl x hx => by have := hl x hx; omega
  have rT1 : ∀ l : List Tip, (∀ x ∈ l, (0 ≤ x.state ∧ x.state < b.states) ∧ x.out.length ≤ 1024) → ∀ x ∈ l, -100000 ≤ x.state + a.states ∧ x.state + a.states ≤ 100000 := fun l hl x hx => by have := hl x hx; omega
  unfold rat_Alt
  rw [both_go, (fstB_iff a).2 ha, (fstB_iff b).2 hb, bnd_mk]
  simp only [Bool.and_self, Bool.not_true, iteO_false]
  rw [wr_ok (by omega)]
  obtain ⟨g1, e1, h1⟩ := starts_go (rT0 _ ha.starts) (Gr.nil (a.states + b.states))
  rw [bnd_some e1]
  obtain ⟨g2, e2, h2⟩ := starts_go (rT1 _ hb.starts) h1
  rw [bnd_some e2]
  obtain ⟨g3, e3, h3⟩ := ends_go (rT0 _ ha.ends) h2
  rw [bnd_some e3]
  obtain ⟨g4, e4, h4⟩ := ends_go (rT1 _ hb.ends) h3
  rw [bnd_some e4]
  obtain ⟨g5, e5, h5⟩ := arcs_go (l := a.arcs) (up := 0) (fun x hx => by have := ha.arcs x hx; omega) h4
  rw [bnd_some e5]
  obtain ⟨g6, e6, h6⟩ := arcs_go (l := b.arcs) (up := a.states) (fun x hx => by have := hb.arcs x hx; omega) h5
  rw [bnd_some e6, bnd_some (look_eq g6)]
  refine ⟨lookG g6, rfl, ?_⟩
  have := gend h6
  rw [shT_zero, shT_zero, shA_zero] at this
  exact this

/-! ### Cat -/
theorem ends_grp {t : Fst} (ht : FstOk t) {R : Type} {Q : R → Prop} {step : List (List Tip) × Nat → Option ((List (List Tip) × Nat) ⊕ R)}
    (hs : ∀ l k, k < t.ends.length → step (l, k) = grd (0 ≤ ((nth t.ends k Tip.zero).state) ∧ ((nth t.ends k Tip.zero).state) < (l.length : Int)) (grd (((nth l (((nth t.ends k Tip.zero).state).toNat) ([] : List Tip)).length + [(nth t.ends k Tip.zero)].length) * 24 ≤ 140737488355328) (grd (0 ≤ ((nth t.ends k Tip.zero).state) ∧ ((nth t.ends k Tip.zero).state) < (l.length : Int)) (nxt ((l.set (((nth t.ends k Tip.zero).state).toNat) ((nth l (((nth t.ends k Tip.zero).state).toNat) ([] : List Tip)) ++ [(nth t.ends k Tip.zero)])), (k + 1))))))
    (hd : ∀ l, Grp Tip.state id t.states.toNat l t.ends → ∃ r, step (l, t.ends.length) = some (.inr r) ∧ Q r) : ∃ r, iter step (List.replicate t.states.toNat [], 0) = some r ∧ Q r := by
  have h0 := ht.st0
  refine iter_up (step := step) (fun (l : List (List Tip)) k => (l, k)) t.ends.length (fun k l => Grp Tip.state id t.states.toNat l (t.ends.take k)) _
    (fun k l hk hI => ?_) (fun l hI => ?_) (s0 := List.replicate t.states.toNat []) (by simpa using Grp.nil Tip.state id t.states.toNat)
  · have hlen := hI.len
    have hm := ht.ends _ (nth_mem' hk Tip.zero)
    have hrow : (nth l (nth t.ends k Tip.zero).state.toNat []).length ≤ 1024 := by
      rw [hI.at hm.1.1 (by omega), List.length_map]
      have := List.length_filter_le (fun x : Tip => decide (x.state = (nth t.ends k Tip.zero).state)) (t.ends.take k)
      rw [List.length_take] at this
      have := ht.endsN; omega
    refine .inl ⟨l.set (nth t.ends k Tip.zero).state.toNat (nth l (nth t.ends k Tip.zero).state.toNat [] ++ [nth t.ends k Tip.zero]), ?_, ?_⟩
    · rw [hs l k hk, grd_mk (by omega), grd_mk (by rw [List.length_singleton]; omega), grd_mk (by omega)]; rfl
    · rw [take_snoc t.ends hk Tip.zero]; exact hI.snoc hm.1.1 (by omega)
  · rw [List.take_length] at hI; exact hd l hI
def endA (b : Fst) (s : Int) : List Tip := b.ends.filter fun z => decide (z.state = s)
def cEnd (p q : Tip) (l : List Tip) : List Tip := l.map fun z => ⟨p.state, (p.out ++ q.out) ++ z.out⟩
/-- What one end and one beginning add. -/
def catS (F : Fst) (a b : Fst) (p q : Tip) : Fst := pE (pA F (brA p.state p.out q.out (lvA b q.state) a.states)) (cEnd p q (endA b q.state))
def catL (F : Fst) (a b : Fst) (p : Tip) (l : List Tip) : Fst := pE (pA F (l.flatMap fun q => brA p.state p.out q.out (lvA b q.state) a.states)) (l.flatMap fun q => cEnd p q (endA b q.state))
theorem catL_nil (F : Fst) (a b : Fst) (p : Tip) : catL F a b p [] = F := by simp [catL, pA, pE]
theorem catL_snoc (F : Fst) (a b : Fst) (p : Tip) (l : List Tip) (q : Tip) : catL F a b p (l ++ [q]) = catS (catL F a b p l) a b p q := by simp [catL, catS, pA, pE]
def catM (F : Fst) (a b : Fst) (l : List Tip) : Fst := pE (pA F (l.flatMap fun p => b.starts.flatMap fun q => brA p.state p.out q.out (lvA b q.state) a.states)) (l.flatMap fun p => b.starts.flatMap fun q => cEnd p q (endA b q.state))
theorem catM_nil (F : Fst) (a b : Fst) : catM F a b [] = F := by simp [catM, pA, pE]
theorem catM_snoc (F : Fst) (a b : Fst) (l : List Tip) (p : Tip) : catM F a b (l ++ [p]) = catL (catM F a b l) a b p b.starts := by simp [catM, catL, pA, pE]
theorem cat_b4 {a b : Fst} (ha : FstOk a) (hb : FstOk b) {l147 : List (List Tip)} (h147 : Grp Tip.state id b.states.toNat l147 b.ends) {k3 k2 : Nat} (hk3 : k3 < b.starts.length) (hk2 : k2 < a.ends.length) {g : Grow} {F : Fst} (hg : Gr g F) :
    ∃ r, iter (fun q : Int × (List Tip) × (List Tip) × (List Arc) × Bool × Nat => rat_Cat_b4 l147 b k3 a k2 q.1 q.2.1 q.2.2.1 q.2.2.2.1 q.2.2.2.2.1 q.2.2.2.2.2) (g.f.states, g.f.starts, g.f.ends, g.f.arcs, g.over, 0) = some r ∧
      ((∃ g' : Grow, r = .inl (g'.f.states, g'.f.starts, g'.f.ends, g'.f.arcs, g'.over, k3 + 1) ∧ Gr g' (pE F (cEnd (nth a.ends k2 Tip.zero) (nth b.starts k3 Tip.zero) (endA b (nth b.starts k3 Tip.zero).state)))) ∨ r = .inr (.inr (⟨0, [], [], []⟩, 2))) := by
  have hp := ha.ends _ (nth_mem' hk2 Tip.zero)
  have hq := hb.starts _ (nth_mem' hk3 Tip.zero)
  have b0 := hb.st0
  have hrow := h147.at hq.1.1 (by have := hq.1.2; omega)
  rw [List.map_id] at hrow
  obtain ⟨p, hpe⟩ : ∃ p, nth a.ends k2 Tip.zero = p := ⟨_, rfl⟩
  rw [hpe] at hp ⊢
  have hj : ∀ s : Grow, Gr s (pE F (cEnd p (nth b.starts k3 Tip.zero) (endA b (nth b.starts k3 Tip.zero).state))) → ∃ r, rat_Cat_j2 k3 s.f.states s.f.starts s.f.ends s.f.arcs s.over = some r ∧
      ((∃ g' : Grow, r = .inl (g'.f.states, g'.f.starts, g'.f.ends, g'.f.arcs, g'.over, k3 + 1) ∧ Gr g' (pE F (cEnd p (nth b.starts k3 Tip.zero) (endA b (nth b.starts k3 Tip.zero).state)))) ∨ r = .inr (.inr (⟨0, [], [], []⟩, 2))) := fun s hs => by
    unfold rat_Cat_j2
    cases ho : s.over with
    | true => exact ⟨_, by rw [iteO_true, bnd_some (look_eq ⟨s.f, true⟩)]; rfl, .inr rfl⟩
    | false => exact ⟨_, rfl, .inl ⟨s, by rw [ho], hs⟩⟩
  refine iter_up (step := fun q : Int × (List Tip) × (List Tip) × (List Arc) × Bool × Nat => rat_Cat_b4 l147 b k3 a k2 q.1 q.2.1 q.2.2.1 q.2.2.2.1 q.2.2.2.2.1 q.2.2.2.2.2) (fun (s : Grow) k => (s.f.states, s.f.starts, s.f.ends, s.f.arcs, s.over, k)) (endA b (nth b.starts k3 Tip.zero).state).length
    (fun k s => Gr s (pE F (cEnd p (nth b.starts k3 Tip.zero) ((endA b (nth b.starts k3 Tip.zero).state).take k)))) _ (fun k s hk hI => ?_) (fun s hI => ?_) (s0 := g) (by simpa [cEnd, pE_nil] using hg)
  · have hz : nth (endA b (nth b.starts k3 Tip.zero).state) k Tip.zero ∈ b.ends := (List.mem_filter.1 (nth_mem' hk Tip.zero)).1
    have hzl := (hb.ends _ hz).2
    have hs : rat_Cat_b4 l147 b k3 a k2 s.f.states s.f.starts s.f.ends s.f.arcs s.over k = (fun v135 : Grow => iteO v135.over (fin (rat_Cat_j2 k3 v135.f.states v135.f.starts v135.f.ends v135.f.arcs v135.over)) (nxt (v135.f.states, v135.f.starts, v135.f.ends, v135.f.arcs, v135.over, (k + 1)))) (growEn s ⟨(nth a.ends k2 Tip.zero).state, ((nth a.ends k2 Tip.zero).out ++ (nth b.starts k3 Tip.zero).out) ++ (nth (endA b (nth b.starts k3 Tip.zero).state) k Tip.zero).out⟩) := by
      unfold rat_Cat_b4
      rw [show nth l147 (nth b.starts k3 Tip.zero).state.toNat [] = endA b (nth b.starts k3 Tip.zero).state from hrow, iteO_dt (by omega), hpe, grd_mk (by omega), grd_mk (by rw [List.length_append]; omega), end_eq, bnd_mk]
    have hG := hI.en ⟨(nth a.ends k2 Tip.zero).state, ((nth a.ends k2 Tip.zero).out ++ (nth b.starts k3 Tip.zero).out) ++ (nth (endA b (nth b.starts k3 Tip.zero).state) k Tip.zero).out⟩
    rw [← pE_snoc, hpe, ← show cEnd p (nth b.starts k3 Tip.zero) ((endA b (nth b.starts k3 Tip.zero).state).take (k + 1)) = cEnd p (nth b.starts k3 Tip.zero) ((endA b (nth b.starts k3 Tip.zero).state).take k) ++ [⟨p.state, (p.out ++ (nth b.starts k3 Tip.zero).out) ++ (nth (endA b (nth b.starts k3 Tip.zero).state) k Tip.zero).out⟩] from by rw [take_snoc _ hk Tip.zero]; unfold cEnd; rw [List.map_append]; rfl, ← hpe] at hG
    generalize growEn s ⟨(nth a.ends k2 Tip.zero).state, ((nth a.ends k2 Tip.zero).out ++ (nth b.starts k3 Tip.zero).out) ++ (nth (endA b (nth b.starts k3 Tip.zero).state) k Tip.zero).out⟩ = g' at hs hG
    rw [hpe] at hG
    cases ho : g'.over with
    | true =>
      obtain ⟨r, h1, h2⟩ := hj g' (.inl ho)
      exact .inr ⟨r, by show rat_Cat_b4 l147 b k3 a k2 s.f.states s.f.starts s.f.ends s.f.arcs s.over k = _; rw [hs]; dsimp only; rw [h1, ho]; rfl, h2⟩
    | false => exact .inl ⟨g', by show rat_Cat_b4 l147 b k3 a k2 s.f.states s.f.starts s.f.ends s.f.arcs s.over k = _; rw [hs]; dsimp only; rw [ho]; rfl, hG⟩
  · rw [List.take_length] at hI
    obtain ⟨r, h1, h2⟩ := hj s hI
    refine ⟨r, ?_, h2⟩
    show rat_Cat_b4 l147 b k3 a k2 s.f.states s.f.starts s.f.ends s.f.arcs s.over (endA b (nth b.starts k3 Tip.zero).state).length = _
    unfold rat_Cat_b4
    rw [show nth l147 (nth b.starts k3 Tip.zero).state.toNat [] = endA b (nth b.starts k3 Tip.zero).state from hrow, iteO_df (by omega), h1]; rfl
section
variable {a b : Fst} (ha : FstOk a) (hb : FstOk b) {v48 : List (List Arc)} {l147 : List (List Tip)} (h48 : Grp Arc.frm id b.states.toNat v48 b.arcs) (h147 : Grp Tip.state id b.states.toNat l147 b.ends)
include ha hb h48 h147
theorem cat_b3 {k2 : Nat} (hk2 : k2 < a.ends.length) {g : Grow} {F : Fst} (hg : Gr g F) :
    ∃ r, iter (fun q : Int × (List Tip) × (List Tip) × (List Arc) × Bool × Nat => rat_Cat_b3 b v48 a k2 l147 q.1 q.2.1 q.2.2.1 q.2.2.2.1 q.2.2.2.2.1 q.2.2.2.2.2) (g.f.states, g.f.starts, g.f.ends, g.f.arcs, g.over, 0) = some r ∧
      ((∃ g' : Grow, r = .inl (g'.f.states, g'.f.starts, g'.f.ends, g'.f.arcs, g'.over, k2 + 1) ∧ Gr g' (catL F a b (nth a.ends k2 Tip.zero) b.starts)) ∨ r = .inr (⟨0, [], [], []⟩, 2)) := by
  have hp := ha.ends _ (nth_mem' hk2 Tip.zero)
  have b0 := hb.st0
  have a0 := ha.st0
  have a1 := ha.st1
  have b1 := hb.st1
  have l1 := h48.len
  have l2 := h147.len
  refine iter_up (step := fun q : Int × (List Tip) × (List Tip) × (List Arc) × Bool × Nat => rat_Cat_b3 b v48 a k2 l147 q.1 q.2.1 q.2.2.1 q.2.2.2.1 q.2.2.2.2.1 q.2.2.2.2.2) (fun (s : Grow) k => (s.f.states, s.f.starts, s.f.ends, s.f.arcs, s.over, k)) b.starts.length
    (fun k s => Gr s (catL F a b (nth a.ends k2 Tip.zero) (b.starts.take k))) _ (fun k s hk hI => ?_) (fun s hI => ?_) (s0 := g) (by simpa [catL_nil] using hg)
  · have hq := hb.starts _ (nth_mem' hk Tip.zero)
    have hrow := h48.at hq.1.1 (by omega)
    rw [List.map_id] at hrow
    obtain ⟨g1, e1, h1⟩ := bridge_go (l := lvA b (nth b.starts k Tip.zero).state) (s0 := (nth a.ends k2 Tip.zero).state) (up := a.states) hp.2 hq.2 (fun x hx => by have := hb.arcs x (List.mem_filter.1 hx).1; omega) hI
    obtain ⟨r, e2, h2⟩ := cat_b4 ha hb h147 hk hk2 h1
    have hs : rat_Cat_b3 b v48 a k2 l147 s.f.states s.f.starts s.f.ends s.f.arcs s.over k = some r := by
      unfold rat_Cat_b3
      rw [iteO_dt (by omega), grd_mk (by omega), show nth v48 (nth b.starts k Tip.zero).state.toNat [] = lvA b (nth b.starts k Tip.zero).state from hrow, bnd_some (show rat_grow_bridge (⟨(⟨s.f.states, s.f.starts, s.f.ends, s.f.arcs⟩ : Fst), s.over⟩ : Grow) _ _ _ _ _ = some g1 from e1), grd_mk (by omega)]
      exact e2
    rcases h2 with ⟨g', rfl, hG⟩ | rfl
    · refine .inl ⟨g', hs, ?_⟩
      rw [take_snoc b.starts hk Tip.zero, catL_snoc]; exact hG
    · exact .inr ⟨_, hs, .inr rfl⟩
  · rw [List.take_length] at hI
    refine ⟨_, ?_, .inl ⟨s, rfl, hI⟩⟩
    show rat_Cat_b3 b v48 a k2 l147 s.f.states s.f.starts s.f.ends s.f.arcs s.over b.starts.length = _
    unfold rat_Cat_b3
    rw [iteO_df (by omega)]; rfl
theorem cat_b2 {g : Grow} {F : Fst} (hg : Gr g F) :
    ∃ r, iter (fun q : Int × (List Tip) × (List Tip) × (List Arc) × Bool × Nat => rat_Cat_b2 a b v48 l147 q.1 q.2.1 q.2.2.1 q.2.2.2.1 q.2.2.2.2.1 q.2.2.2.2.2) (g.f.states, g.f.starts, g.f.ends, g.f.arcs, g.over, 0) = some r ∧ GEnd (catM F a b a.ends) r := by
  refine iter_up (step := fun q : Int × (List Tip) × (List Tip) × (List Arc) × Bool × Nat => rat_Cat_b2 a b v48 l147 q.1 q.2.1 q.2.2.1 q.2.2.2.1 q.2.2.2.2.1 q.2.2.2.2.2) (fun (s : Grow) k => (s.f.states, s.f.starts, s.f.ends, s.f.arcs, s.over, k)) a.ends.length
    (fun k s => Gr s (catM F a b (a.ends.take k))) _ (fun k s hk hI => ?_) (fun s hI => ?_) (s0 := g) (by simpa [catM_nil] using hg)
  · obtain ⟨r, e2, h2⟩ := cat_b3 ha hb h48 h147 hk hI
    have hs : rat_Cat_b2 a b v48 l147 s.f.states s.f.starts s.f.ends s.f.arcs s.over k = some r := by
      unfold rat_Cat_b2
      rw [iteO_dt (by omega)]; exact e2
    rcases h2 with ⟨g', rfl, hG⟩ | rfl
    · refine .inl ⟨g', hs, ?_⟩
      rw [take_snoc a.ends hk Tip.zero, catM_snoc]; exact hG
    · exact .inr ⟨_, hs, .inl rfl⟩
  · rw [List.take_length] at hI
    refine ⟨lookG s, ?_, gend hI⟩
    show rat_Cat_b2 a b v48 l147 s.f.states s.f.starts s.f.ends s.f.arcs s.over a.ends.length = _
    unfold rat_Cat_b2
    rw [iteO_df (by omega), bnd_some (look_eq s)]; rfl
end
theorem cat_go {a b : Fst} (ha : FstOk a) (hb : FstOk b) : ∃ r, rat_Cat a b = some r ∧ GEnd (fCat a b) r := by
  have a0 := ha.st0
  have a1 := ha.st1
  have b0 := hb.st0
  have b1 := hb.st1
  unfold rat_Cat
  rw [both_go, (fstB_iff a).2 ha, (fstB_iff b).2 hb, bnd_mk]
  simp only [Bool.and_self, Bool.not_true, iteO_false]
  rw [wr_ok (by omega)]
  obtain ⟨g1, e1, h1⟩ := starts_go (l := a.starts) (up := 0) (fun x hx => by have := ha.starts x hx; omega) (Gr.nil (a.states + b.states))
  rw [bnd_some e1]
  obtain ⟨g2, e2, h2⟩ := ends_go (l := b.ends) (up := a.states) (fun x hx => by have := hb.ends x hx; omega) h1
  rw [bnd_some e2]
  obtain ⟨g5, e5, h5⟩ := arcs_go (l := a.arcs) (up := 0) (fun x hx => by have := ha.arcs x hx; omega) h2
  rw [bnd_some e5]
  obtain ⟨g6, e6, h6⟩ := arcs_go (l := b.arcs) (up := a.states) (fun x hx => by have := hb.arcs x hx; omega) h5
  obtain ⟨v48, e48, h48⟩ := leaving_go hb
  rw [bnd_some e6, bnd_some e48, grd_mk ⟨b0, by omega⟩]
  refine ends_grp (step := fun q : (List (List Tip)) × Nat => rat_Cat_b1 b a v48 g6 q.1 q.2) hb (fun l k hk => ?_) (fun l hl => ?_)
  · show rat_Cat_b1 b a v48 g6 l k = _
    unfold rat_Cat_b1 rat_Cat_j1
    rw [iteO_dt (by omega)]
  · obtain ⟨r, e7, h7⟩ := cat_b2 ha hb h48 hl h6
    refine ⟨r, ?_, ?_⟩
    · show rat_Cat_b1 b a v48 g6 l b.ends.length = _
      unfold rat_Cat_b1
      rw [iteO_df (by omega)]
      exact (congrArg fin e7).trans rfl
    · rw [shT_zero, shA_zero] at h7
      exact h7

/-! ### Star -/
theorem free_go (a : Fst) : ∃ c, rat_free a = some c := by
  unfold rat_free
  obtain ⟨r, h, -⟩ := iter_up (step := fun q : Nat => rat_free_b1 a q) (fun (_ : Unit) k => k) a.starts.length (fun _ _ => True) (fun _ => True) (fun k s hk _ => by
      obtain ⟨r, e, h⟩ := iter_up (step := fun q : Nat => rat_free_b2 a k q) (fun (_ : Unit) j => j) a.ends.length (fun _ _ => True) (fun r => r = .inl (k + 1) ∨ r = .inr true) (fun j s hj _ => by
          show (∃ s', rat_free_b2 a k j = _ ∧ _) ∨ ∃ r, rat_free_b2 a k j = _ ∧ _
          unfold rat_free_b2 rat_free_j1
          rw [iteO_dt (by omega)]
          by_cases c1 : (nth a.starts k Tip.zero).state = (nth a.ends j Tip.zero).state
          · rw [iteO_dt c1]
            by_cases c2 : (nth a.starts k Tip.zero).out ≠ []
            · rw [iteO_dt c2]; exact .inr ⟨_, rfl, .inr rfl⟩
            · rw [iteO_df c2]
              by_cases c3 : (nth a.ends j Tip.zero).out ≠ []
              · rw [iteO_dt c3]; exact .inr ⟨_, rfl, .inr rfl⟩
              · rw [iteO_df c3]; exact .inl ⟨(), rfl, trivial⟩
          · rw [iteO_df c1]; exact .inl ⟨(), rfl, trivial⟩)
        (fun s _ => ⟨_, by
          show rat_free_b2 a k a.ends.length = _
          unfold rat_free_b2
          rw [iteO_df (by omega)]; rfl, .inl rfl⟩) (s0 := ()) trivial
      have hs : rat_free_b1 a k = some r := by
        unfold rat_free_b1
        rw [iteO_dt (by omega)]; exact e
      rcases h with rfl | rfl
      · exact .inl ⟨(), hs, trivial⟩
      · exact .inr ⟨_, hs, trivial⟩)
    (fun s _ => ⟨false, by
      show rat_free_b1 a a.starts.length = _
      unfold rat_free_b1
      rw [iteO_df (by omega)]; rfl, trivial⟩) (s0 := ()) trivial
  exact ⟨r, h⟩
def stL (F : Fst) (a : Fst) (s : Int) (p : List UInt8) (l : List Tip) : Fst := pA F (l.flatMap fun q => brA s p q.out (lvA a q.state) 0)
theorem stL_snoc (F : Fst) (a : Fst) (s : Int) (p : List UInt8) (l : List Tip) (q : Tip) : stL F a s p (l ++ [q]) = pA (stL F a s p l) (brA s p q.out (lvA a q.state) 0) := by simp [stL, pA]
def stM (F : Fst) (a : Fst) (l : List Tip) : Fst := pA F (l.flatMap fun p => a.starts.flatMap fun q => brA p.state p.out q.out (lvA a q.state) 0)
theorem stM_snoc (F : Fst) (a : Fst) (l : List Tip) (p : Tip) : stM F a (l ++ [p]) = stL (stM F a l) a p.state p.out a.starts := by simp [stM, stL, pA]
section
variable {a : Fst} (ha : FstOk a) {v47 : List (List Arc)} (h47 : Grp Arc.frm id a.states.toNat v47 a.arcs)
include ha h47
theorem star_b3 {k2 : Nat} (hk2 : k2 < a.ends.length) {g : Grow} {F : Fst} (hg : Gr g F) :
    ∃ r, iter (fun q : Int × (List Tip) × (List Tip) × (List Arc) × Bool × Nat => rat_Star_b3 a v47 k2 q.1 q.2.1 q.2.2.1 q.2.2.2.1 q.2.2.2.2.1 q.2.2.2.2.2) (g.f.states, g.f.starts, g.f.ends, g.f.arcs, g.over, 0) = some r ∧
      ((∃ g' : Grow, r = .inl (g'.f.states, g'.f.starts, g'.f.ends, g'.f.arcs, g'.over, k2 + 1) ∧ Gr g' (stL F a (nth a.ends k2 Tip.zero).state (nth a.ends k2 Tip.zero).out a.starts)) ∨ r = .inr (⟨0, [], [], []⟩, 2)) := by
  have hp := ha.ends _ (nth_mem' hk2 Tip.zero)
  have a0 := ha.st0
  have a1 := ha.st1
  have l1 := h47.len
  refine iter_up (step := fun q : Int × (List Tip) × (List Tip) × (List Arc) × Bool × Nat => rat_Star_b3 a v47 k2 q.1 q.2.1 q.2.2.1 q.2.2.2.1 q.2.2.2.2.1 q.2.2.2.2.2) (fun (s : Grow) k => (s.f.states, s.f.starts, s.f.ends, s.f.arcs, s.over, k)) a.starts.length
    (fun k s => Gr s (stL F a (nth a.ends k2 Tip.zero).state (nth a.ends k2 Tip.zero).out (a.starts.take k))) _ (fun k s hk hI => ?_) (fun s hI => ?_) (s0 := g) (by simpa [stL, pA_nil] using hg)
  · have hq := ha.starts _ (nth_mem' hk Tip.zero)
    have hrow := h47.at hq.1.1 (by omega)
    rw [List.map_id] at hrow
    obtain ⟨g1, e1, h1⟩ := bridge_go (l := lvA a (nth a.starts k Tip.zero).state) (s0 := (nth a.ends k2 Tip.zero).state) (up := 0) hp.2 hq.2 (fun x hx => by have := ha.arcs x (List.mem_filter.1 hx).1; omega) hI
    rw [← stL_snoc, ← take_snoc a.starts hk Tip.zero] at h1
    have hs : rat_Star_b3 a v47 k2 s.f.states s.f.starts s.f.ends s.f.arcs s.over k = (fun v101 : Grow => iteO v101.over (bnd (rat_grow_look (⟨(⟨v101.f.states, v101.f.starts, v101.f.ends, v101.f.arcs⟩ : Fst), v101.over⟩ : Grow)) (fun v120 => fin (fin (some ((⟨v120.1.states, v120.1.starts, v120.1.ends, v120.1.arcs⟩ : Fst), v120.2))))) (nxt (v101.f.states, v101.f.starts, v101.f.ends, v101.f.arcs, v101.over, (k + 1)))) g1 := by
      unfold rat_Star_b3
      rw [iteO_dt (by omega), grd_mk (by omega), show nth v47 (nth a.starts k Tip.zero).state.toNat [] = lvA a (nth a.starts k Tip.zero).state from hrow, bnd_some (show rat_grow_bridge (⟨(⟨s.f.states, s.f.starts, s.f.ends, s.f.arcs⟩ : Fst), s.over⟩ : Grow) _ _ _ _ _ = some g1 from e1)]
    cases ho : g1.over with
    | true =>
      refine .inr ⟨.inr (⟨0, [], [], []⟩, 2), ?_, .inr rfl⟩
      show rat_Star_b3 a v47 k2 s.f.states s.f.starts s.f.ends s.f.arcs s.over k = _
      rw [hs]; dsimp only; rw [ho, iteO_true, bnd_some (look_eq ⟨g1.f, true⟩)]; rfl
    | false => exact .inl ⟨g1, by show rat_Star_b3 a v47 k2 s.f.states s.f.starts s.f.ends s.f.arcs s.over k = _; rw [hs]; dsimp only; rw [ho]; rfl, h1⟩
  · rw [List.take_length] at hI
    refine ⟨_, ?_, .inl ⟨s, rfl, hI⟩⟩
    show rat_Star_b3 a v47 k2 s.f.states s.f.starts s.f.ends s.f.arcs s.over a.starts.length = _
    unfold rat_Star_b3
    rw [iteO_df (by omega)]; rfl
theorem star_b2 {g : Grow} {F : Fst} (hg : Gr g F) :
    ∃ r, iter (fun q : Int × (List Tip) × (List Tip) × (List Arc) × Bool × Nat => rat_Star_b2 a v47 q.1 q.2.1 q.2.2.1 q.2.2.2.1 q.2.2.2.2.1 q.2.2.2.2.2) (g.f.states, g.f.starts, g.f.ends, g.f.arcs, g.over, 0) = some r ∧ GEnd (stM F a a.ends) r := by
  refine iter_up (step := fun q : Int × (List Tip) × (List Tip) × (List Arc) × Bool × Nat => rat_Star_b2 a v47 q.1 q.2.1 q.2.2.1 q.2.2.2.1 q.2.2.2.2.1 q.2.2.2.2.2) (fun (s : Grow) k => (s.f.states, s.f.starts, s.f.ends, s.f.arcs, s.over, k)) a.ends.length
    (fun k s => Gr s (stM F a (a.ends.take k))) _ (fun k s hk hI => ?_) (fun s hI => ?_) (s0 := g) (by simpa [stM, pA_nil] using hg)
  · obtain ⟨r, e2, h2⟩ := star_b3 ha h47 hk hI
    have hs : rat_Star_b2 a v47 s.f.states s.f.starts s.f.ends s.f.arcs s.over k = some r := by
      unfold rat_Star_b2
      rw [iteO_dt (by omega)]; exact e2
    rcases h2 with ⟨g', rfl, hG⟩ | rfl
    · refine .inl ⟨g', hs, ?_⟩
      rw [take_snoc a.ends hk Tip.zero, stM_snoc]; exact hG
    · exact .inr ⟨_, hs, .inl rfl⟩
  · rw [List.take_length] at hI
    refine ⟨lookG s, ?_, gend hI⟩
    show rat_Star_b2 a v47 s.f.states s.f.starts s.f.ends s.f.arcs s.over a.ends.length = _
    unfold rat_Star_b2
    rw [iteO_df (by omega), bnd_some (look_eq s)]; rfl
theorem star_b1 {g : Grow} {F : Fst} (hg : Gr g F) :
    ∃ r, iter (fun q : Int × (List Tip) × (List Tip) × (List Arc) × Bool × Nat => rat_Star_b1 a v47 q.1 q.2.1 q.2.2.1 q.2.2.2.1 q.2.2.2.2.1 q.2.2.2.2.2) (g.f.states, g.f.starts, g.f.ends, g.f.arcs, g.over, 0) = some r ∧ GEnd (stM (stL F a a.states [] a.starts) a a.ends) r := by
  have a0 := ha.st0
  have a1 := ha.st1
  have l1 := h47.len
  refine iter_up (step := fun q : Int × (List Tip) × (List Tip) × (List Arc) × Bool × Nat => rat_Star_b1 a v47 q.1 q.2.1 q.2.2.1 q.2.2.2.1 q.2.2.2.2.1 q.2.2.2.2.2) (fun (s : Grow) k => (s.f.states, s.f.starts, s.f.ends, s.f.arcs, s.over, k)) a.starts.length
    (fun k s => Gr s (stL F a a.states [] (a.starts.take k))) _ (fun k s hk hI => ?_) (fun s hI => ?_) (s0 := g) (by simpa [stL, pA_nil] using hg)
  · have hq := ha.starts _ (nth_mem' hk Tip.zero)
    have hrow := h47.at hq.1.1 (by omega)
    rw [List.map_id] at hrow
    obtain ⟨g1, e1, h1⟩ := bridge_go (l := lvA a (nth a.starts k Tip.zero).state) (s0 := a.states) (up := 0) (p := []) (by simp) hq.2 (fun x hx => by have := ha.arcs x (List.mem_filter.1 hx).1; omega) hI
    rw [← stL_snoc, ← take_snoc a.starts hk Tip.zero] at h1
    refine .inl ⟨g1, ?_, h1⟩
    show rat_Star_b1 a v47 s.f.states s.f.starts s.f.ends s.f.arcs s.over k = _
    unfold rat_Star_b1
    rw [iteO_dt (by omega), grd_mk (by omega), show nth v47 (nth a.starts k Tip.zero).state.toNat [] = lvA a (nth a.starts k Tip.zero).state from hrow, bnd_some (show rat_grow_bridge (⟨(⟨s.f.states, s.f.starts, s.f.ends, s.f.arcs⟩ : Fst), s.over⟩ : Grow) _ _ _ _ _ = some g1 from e1)]; rfl
  · rw [List.take_length] at hI
    obtain ⟨r, e, h⟩ := star_b2 ha h47 hI
    refine ⟨r, ?_, h⟩
    show rat_Star_b1 a v47 s.f.states s.f.starts s.f.ends s.f.arcs s.over a.starts.length = _
    unfold rat_Star_b1
    rw [iteO_df (by omega)]
    exact (congrArg fin e).trans rfl
end
theorem star_go {a : Fst} (ha : FstOk a) : ∃ r, rat_Star a = some r ∧ (r = (⟨0, [], [], []⟩, 11) ∨ GEnd (fStar a) r) := by
  have a0 := ha.st0
  have a1 := ha.st1
  unfold rat_Star
  rw [fst_Check_eq, (fstB_iff a).2 ha, bnd_mk, errB_ne, Bool.not_true, iteO_false]
  obtain ⟨c, hc⟩ := free_go a
  rw [bnd_some hc]
  cases c with
  | true => exact ⟨_, rfl, .inl rfl⟩
  | false =>
    rw [iteO_false, wr_ok (by omega), bnd_some (start_eq _ _), bnd_some (end_eq _ _)]
    have h1 := ((Gr.nil (a.states + 1)).st ⟨a.states, []⟩).en ⟨a.states, []⟩
    obtain ⟨g2, e2, h2⟩ := ends_go (l := a.ends) (up := 0) (fun x hx => by have := ha.ends x hx; omega) h1
    rw [bnd_some (show rat_grow_ends _ a.ends 0 = some g2 from e2)]
    obtain ⟨g3, e3, h3⟩ := arcs_go (l := a.arcs) (up := 0) (fun x hx => by have := ha.arcs x hx; omega) h2
    rw [bnd_some (show rat_grow_arcs _ a.arcs 0 = some g3 from e3)]
    obtain ⟨v47, e47, h47⟩ := leaving_go ha
    rw [bnd_some e47]
    obtain ⟨r, e, h⟩ := star_b1 ha h47 h3
    refine ⟨r, e, .inr ?_⟩
    rw [shT_zero, shA_zero] at h
    exact h
end Go.Proofs.YtjhbngjhdmapmaaGreatDoor
end
