/- What the automatons of many ways are to be: plain functions on lists. No program, no condition. -/
import Derived.Test.YtcidppnlhhkhhaaData
set_option linter.unusedVariables false
set_option linter.unusedSimpArgs false
namespace Go.Proofs.Ytcidppnlhhkhhaa
open Go Go.E

def stateB (s n : Int) : Bool := decide (0 ≤ s) && decide (s < n)
/-- States that rise. -/
def riseFrom (n : Int) (l : List Int) (i : Nat) : Bool := stateB (nth l i 0) n && !(decide (0 < i) && decide (nth l i 0 ≤ nth l (i - 1) 0))
def riseB (l : List Int) (n : Int) : Bool := (List.range l.length).all (riseFrom n l)
theorem riseB_no {l : List Int} {st : Int} {k : Nat} (hk : k < l.length) (h : riseFrom st l k = false) : riseB l st = false := by
  unfold riseB
  rw [List.all_eq_false]
  exact ⟨k, by simpa using hk, by simp [h]⟩
theorem riseB_yes {l : List Int} {st : Int} {k : Nat} (hk : l.length ≤ k) (h : ∀ i, i < k → riseFrom st l i = true) : riseB l st = true := by
  unfold riseB
  rw [List.all_eq_true]
  intro i hi
  exact h i (by have := List.mem_range.1 hi; omega)
theorem all_step {p : Nat → Bool} {k : Nat} (h : ∀ i, i < k → p i = true) (hk : p k = true) : ∀ i, i < k + 1 → p i = true := fun i hi => by
  rcases Nat.lt_succ_iff_lt_or_eq.1 hi with h' | rfl
  · exact h i h'
  · exact hk
theorem riseB_state {l : List Int} {st : Int} (h : riseB l st = true) : ∀ x ∈ l, 0 ≤ x ∧ x < st := by
  unfold riseB at h
  rw [List.all_eq_true] at h
  intro x hx
  obtain ⟨j, hj, rfl⟩ := List.mem_iff_getElem.1 hx
  have := h j (List.mem_range.2 hj)
  have h2 := getD_some l hj 0
  rw [List.getElem?_eq_getElem hj, Option.some.injEq] at h2
  simp only [riseFrom, stateB, Bool.and_eq_true, decide_eq_true_eq] at this
  rw [h2]
  exact ⟨this.1.1, this.1.2⟩

def edgeB (n : Int) (x : Arrow) : Bool := stateB x.frm n && stateB x.to n && !decide (x.set = BSet.zero)
def checkB (n : Nfa) : Bool := decide (0 ≤ n.states) && decide (n.states ≤ 4096) && decide ((n.edges.length : Int) ≤ 65536) && riseB n.starts n.states && riseB n.ends n.states && n.edges.all (edgeB n.states)
def errB (b : Bool) : Int := if b then 0 else 1

theorem edges_no {n : Nfa} {k : Nat} (hk : k < n.edges.length) (h : edgeB n.states (nth n.edges k Arrow.zero) = false) : n.edges.all (edgeB n.states) = false := by
  rw [List.all_eq_false]
  exact ⟨_, List.mem_of_getElem? (getD_some n.edges hk Arrow.zero), by simp [h]⟩
theorem edges_yes {n : Nfa} (h : ∀ i, i < n.edges.length → edgeB n.states (nth n.edges i Arrow.zero) = true) : n.edges.all (edgeB n.states) = true := by
  rw [List.all_eq_true]
  intro x hx
  obtain ⟨j, hj, rfl⟩ := List.mem_iff_getElem.1 hx
  have h2 := getD_some n.edges hj Arrow.zero
  rw [List.getElem?_eq_getElem hj, Option.some.injEq] at h2
  rw [h2]; exact h j hj

theorem checkB_spec {n : Nfa} (h : checkB n = true) : 0 ≤ n.states ∧ n.states ≤ 4096 ∧ n.edges.length ≤ 65536 ∧ (∀ x ∈ n.starts, 0 ≤ x ∧ x < n.states) ∧ (∀ x ∈ n.ends, 0 ≤ x ∧ x < n.states) ∧ (∀ x ∈ n.edges, 0 ≤ x.frm ∧ x.frm < n.states ∧ 0 ≤ x.to ∧ x.to < n.states) := by
  simp only [checkB, Bool.and_eq_true, decide_eq_true_eq] at h
  obtain ⟨⟨⟨⟨⟨h1, h2⟩, h3⟩, h4⟩, h5⟩, h6⟩ := h
  refine ⟨h1, h2, by omega, riseB_state h4, riseB_state h5, fun x hx => ?_⟩
  have := List.all_eq_true.1 h6 x hx
  simp only [edgeB, stateB, Bool.and_eq_true, decide_eq_true_eq] at this
  omega

theorem findI_yes {l : List Int} {p : Int → Bool} {k : Nat} (hk : k < l.length) (h : ∀ i, i < k → p (nth l i 0) = false) (hp : p (nth l k 0) = true) : (if l.any p then ((l.findIdx p : Nat) : Int) else -1) = (k : Int) := by
  have ha : l.any p = true := List.any_eq_true.2 ⟨_, List.mem_of_getElem? (getD_some l hk 0), hp⟩
  have hn : ∀ i (hi : i < l.length), l[i] = nth l i 0 := fun i hi => by
    have := getD_some l hi 0
    rw [List.getElem?_eq_getElem hi, Option.some.injEq] at this; exact this
  have hf : l.findIdx p = k := by
    rw [List.findIdx_eq hk]
    refine ⟨by rw [hn k hk]; exact hp, fun j hj => ?_⟩
    rw [hn j (by omega)]; exact h j hj
  rw [if_pos ha, hf]
theorem findI_no {l : List Int} {p : Int → Bool} (h : ∀ i, i < l.length → p (nth l i 0) = false) : (if l.any p then ((l.findIdx p : Nat) : Int) else -1) = -1 := by
  have ha : ¬ l.any p = true := by
    rw [Bool.not_eq_true, List.any_eq_false]
    intro x hx
    obtain ⟨j, hj, rfl⟩ := List.mem_iff_getElem.1 hx
    have h2 := getD_some l hj 0
    rw [List.getElem?_eq_getElem hj, Option.some.injEq] at h2
    rw [h2, h j hj]; simp
  rw [if_neg ha]

/-- Few states and edges. -/
def fewB (n : Nfa) : Bool := (decide (n.states ≤ 40) || decide (4096 < n.states)) && decide ((n.edges.length : Int) ≤ 120) && decide ((n.starts.length : Int) + n.ends.length ≤ 100)

/-- Which states are in a list. -/
def marksTo (l : List Int) (k n : Nat) : List Bool := (List.range n).map fun i : Nat => (l.take k).contains (i : Int)
def marksL (l : List Int) (n : Nat) : List Bool := (List.range n).map fun i : Nat => l.contains (i : Int)
theorem marksTo_zero (l : List Int) (n : Nat) : marksTo l 0 n = List.replicate n false := by
  apply List.ext_getElem?
  intro i
  by_cases h : i < n <;> simp [marksTo, h]
theorem take_succ_nth {α : Type} (l : List α) {k : Nat} (hk : k < l.length) (d : α) : l.take (k + 1) = l.take k ++ [nth l k d] := by
  rw [List.take_add_one, getD_some l hk d]; rfl
theorem marksTo_succ {l : List Int} {k n : Nat} (hk : k < l.length) (hx : 0 ≤ nth l k 0) : marksTo l (k + 1) n = (marksTo l k n).set (nth l k 0).toNat true := by
  apply List.ext_getElem?
  intro i
  simp only [marksTo, List.getElem?_set, List.getElem?_map, List.length_map, List.length_range]
  by_cases h : i < n
  · simp only [List.getElem?_range h, Option.map_some, take_succ_nth l hk 0]
    by_cases he : (nth l k 0).toNat = i
    · have : (i : Int) = nth l k 0 := by omega
      simp [he, h, this]
    · have h2 : ¬ (i : Int) = nth l k 0 := by omega
      simp [he, h2]
  · rw [List.getElem?_eq_none (by simpa using h)]
    by_cases he : (nth l k 0).toNat = i
    · simp [he, h]
    · simp [he]
theorem marksTo_all (l : List Int) (n : Nat) : marksTo l l.length n = marksL l n := by simp [marksTo, marksL]
theorem marksTo_len (l : List Int) (k n : Nat) : (marksTo l k n).length = n := by simp [marksTo]
theorem marksL_len (l : List Int) (n : Nat) : (marksL l n).length = n := by simp [marksL]
theorem marksL_get {l : List Int} {n i : Nat} (h : i < n) : nth (marksL l n) i false = l.contains (i : Int) := by simp [nth, marksL, h]

def shiftL (l : List Int) (k : Int) : List Int := l.map (· + k)
def shiftTo (l : List Int) (i : Nat) (k : Int) : List Int := shiftL (l.take i) k ++ List.replicate (l.length - i) 0
theorem shiftL_len (l : List Int) (k : Int) : (shiftL l k).length = l.length := by simp [shiftL]
theorem shiftTo_len (l : List Int) (i : Nat) (k : Int) (h : i ≤ l.length) : (shiftTo l i k).length = l.length := by simp [shiftTo, shiftL]; omega
theorem shiftTo_succ {l : List Int} {i : Nat} {k : Int} (h : i < l.length) : (shiftTo l i k).set i (nth l i 0 + k) = shiftTo l (i + 1) k := by
  unfold shiftTo
  rw [take_succ_nth l h 0]
  have h1 : (shiftL (l.take i) k).length = i := by simp [shiftL]; omega
  rw [List.set_append_right _ _ (by omega), h1, Nat.sub_self]
  have h2 : l.length - i = (l.length - (i + 1)) + 1 := by omega
  rw [h2, List.replicate_succ, List.set_cons_zero]
  simp [shiftL]
theorem shiftTo_all (l : List Int) (k : Int) : shiftTo l l.length k = shiftL l k := by simp [shiftTo]

theorem shiftL_snoc {l : List Int} {i : Nat} {k : Int} (h : i < l.length) : shiftL (l.take (i + 1)) k = shiftL (l.take i) k ++ [nth l i 0 + k] := by
  rw [take_succ_nth l h 0]; simp [shiftL]
def shiftE (l : List Arrow) (k : Int) : List Arrow := l.map fun x => ⟨x.frm + k, x.to + k, x.set⟩
theorem shiftE_len (l : List Arrow) (k : Int) : (shiftE l k).length = l.length := by simp [shiftE]
theorem shiftE_snoc {l : List Arrow} {i : Nat} {k : Int} (h : i < l.length) : shiftE (l.take (i + 1)) k = shiftE (l.take i) k ++ [⟨(nth l i Arrow.zero).frm + k, (nth l i Arrow.zero).to + k, (nth l i Arrow.zero).set⟩] := by
  rw [take_succ_nth l h Arrow.zero]; simp [shiftE]
theorem nth_mem {α : Type} {l : List α} {i : Nat} (h : i < l.length) (d : α) : nth l i d ∈ l := List.mem_of_getElem? (getD_some l h d)

def emptyB (n : Nfa) : Bool := n.starts.any fun s => n.ends.contains s

theorem emptyB_yes {n : Nfa} {k : Nat} (hk : k < n.starts.length) (h : n.ends.contains (nth n.starts k 0) = true) : emptyB n = true := by
  unfold emptyB
  rw [List.any_eq_true]
  exact ⟨_, nth_mem hk 0, h⟩
theorem emptyB_no {n : Nfa} (h : ∀ i, i < n.starts.length → n.ends.contains (nth n.starts i 0) = false) : emptyB n = false := by
  unfold emptyB
  rw [List.any_eq_false]
  intro x hx
  obtain ⟨j, hj, rfl⟩ := List.mem_iff_getElem.1 hx
  have h2 := getD_some n.starts hj 0
  rw [List.getElem?_eq_getElem hj, Option.some.injEq] at h2
  rw [h2, h j hj]; simp

end Go.Proofs.Ytcidppnlhhkhhaa
