/- What automatons take: rows of edges. Plain. -/
import Derived.Test.YtcidppnlhhkhhaaN1p
import Derived.Test.YtcidppnlhhkhhaaN3p
set_option linter.unusedVariables false
set_option linter.unusedSimpArgs false
namespace Go.Proofs.Ytcidppnlhhkhhaa
open Go Go.E
set_option maxRecDepth 100000

/-- A row of edges by a text, from a state to a state. -/
def Run (n : Nfa) : Int → List UInt8 → Int → Prop
  | s, [], t => s = t
  | s, b :: w, t => ∃ e ∈ n.edges, e.set.has b.toNat = true ∧ e.frm = s ∧ Run n e.to w t

theorem mem_fold (n : Nfa) (w : List UInt8) : ∀ (l : List Int) (t : Int), t ∈ w.foldl (aftL n) l ↔ ∃ s ∈ l, Run n s w t := by
  induction w with
  | nil => intro l t; simp [Run]
  | cons b w ih =>
    intro l t
    rw [List.foldl_cons, ih]
    constructor
    · rintro ⟨s, hs, hr⟩
      obtain ⟨e, h1, h2, h3, rfl⟩ := mem_aftL.1 hs
      exact ⟨_, h3, e, h1, h2, rfl, hr⟩
    · rintro ⟨s, hs, e, h1, h2, rfl, hr⟩
      exact ⟨_, mem_aftL.2 ⟨e, h1, h2, hs, rfl⟩, hr⟩
theorem takesL_iff {n : Nfa} {w : List UInt8} : takesL n w = true ↔ ∃ s ∈ n.starts, ∃ t ∈ n.ends, Run n s w t := by
  simp only [takesL, List.any_eq_true, List.contains_iff_mem, reachL, mem_fold]
  constructor
  · rintro ⟨t, ht, s, hs, h⟩; exact ⟨s, hs, t, ht, h⟩
  · rintro ⟨s, hs, t, ht, h⟩; exact ⟨t, ht, s, hs, h⟩
theorem emptyB_iff {n : Nfa} : emptyB n = true ↔ ∃ s ∈ n.starts, s ∈ n.ends := by
  simp only [emptyB, List.any_eq_true, List.contains_iff_mem]
theorem takesL_nil {n : Nfa} : takesL n [] = true ↔ emptyB n = true := by
  rw [takesL_iff, emptyB_iff]
  constructor
  · rintro ⟨s, hs, t, ht, rfl⟩; exact ⟨s, hs, ht⟩
  · rintro ⟨s, hs, ht⟩; exact ⟨s, hs, s, ht, rfl⟩
theorem Run.ge {n : Nfa} (h : ∀ e ∈ n.edges, 0 ≤ e.to) : ∀ {w : List UInt8} {s t : Int}, Run n s w t → 0 ≤ s → 0 ≤ t
  | [], s, t, hr, hs => by cases hr; exact hs
  | b :: w, s, t, ⟨e, h1, _, _, h4⟩, _ => Run.ge h h4 (h e h1)
theorem Run.lt {n : Nfa} {k : Int} (h : ∀ e ∈ n.edges, e.to < k) : ∀ {w : List UInt8} {s t : Int}, Run n s w t → s < k → t < k
  | [], s, t, hr, hs => by cases hr; exact hs
  | b :: w, s, t, ⟨e, h1, _, _, h4⟩, _ => Run.lt h h4 (h e h1)
theorem Run.app {n : Nfa} : ∀ {w v : List UInt8} {s t : Int}, Run n s (w ++ v) t ↔ ∃ m, Run n s w m ∧ Run n m v t
  | [], v, s, t => ⟨fun h => ⟨s, rfl, h⟩, fun ⟨m, h1, h2⟩ => by cases h1; exact h2⟩
  | b :: w, v, s, t => by
    constructor
    · rintro ⟨e, h1, h2, h3, h4⟩
      obtain ⟨m, h5, h6⟩ := Run.app.1 h4
      exact ⟨m, ⟨e, h1, h2, h3, h5⟩, h6⟩
    · rintro ⟨m, ⟨e, h1, h2, h3, h5⟩, h6⟩
      exact ⟨e, h1, h2, h3, Run.app.2 ⟨m, h5, h6⟩⟩

theorem mem_shiftL {l : List Int} {k x : Int} : x ∈ shiftL l k ↔ x - k ∈ l := by
  simp only [shiftL, List.mem_map]
  constructor
  · rintro ⟨a, h, rfl⟩; rwa [show a + k - k = a by omega]
  · intro h; exact ⟨_, h, by omega⟩
theorem mem_shiftE {l : List Arrow} {k : Int} {x : Arrow} : x ∈ shiftE l k ↔ ∃ e ∈ l, x = ⟨e.frm + k, e.to + k, e.set⟩ := by
  simp only [shiftE, List.mem_map]
  constructor
  · rintro ⟨a, h, rfl⟩; exact ⟨a, h, rfl⟩
  · rintro ⟨a, h, rfl⟩; exact ⟨a, h, rfl⟩

/-- The second part, put behind the first one's states. -/
theorem run_right {n y : Nfa} {k : Int} (H : ∀ e, k ≤ e.frm → (e ∈ n.edges ↔ e ∈ shiftE y.edges k)) (hy : ∀ e ∈ y.edges, 0 ≤ e.frm ∧ 0 ≤ e.to) :
    ∀ (w : List UInt8) (s t : Int), k ≤ s → (Run n s w t ↔ Run y (s - k) w (t - k))
  | [], s, t, _ => by simp only [Run]; omega
  | b :: w, s, t, hs => by
    simp only [Run]
    constructor
    · rintro ⟨e, h1, h2, rfl, h4⟩
      obtain ⟨u, hu, he⟩ := mem_shiftE.1 ((H e hs).1 h1)
      subst he
      have := hy u hu
      refine ⟨u, hu, h2, by simp, ?_⟩
      have := (run_right H hy w _ t (by simp only; omega)).1 h4
      simpa using this
    · rintro ⟨u, hu, h2, h3, h4⟩
      have := hy u hu
      refine ⟨⟨u.frm + k, u.to + k, u.set⟩, (H _ (by simp only; omega)).2 (mem_shiftE.2 ⟨u, hu, rfl⟩), h2, by simp only; omega, ?_⟩
      refine (run_right H hy w _ t (by simp only; omega)).2 ?_
      simpa using h4

/-! ### One or the other -/
theorem alt_right {x y : Nfa} (hx : checkB x = true) : ∀ e : Arrow, x.states ≤ e.frm → (e ∈ (altN x y).edges ↔ e ∈ shiftE y.edges x.states) := by
  obtain ⟨k1, k2, k3, k4, k5, k6⟩ := checkB_spec hx
  intro e he
  simp only [altN, altE, List.mem_append]
  refine ⟨fun h => h.resolve_left fun h => ?_, .inr⟩
  have := k6 e h; omega
theorem alt_left {x y : Nfa} (hx : checkB x = true) (hy : checkB y = true) : ∀ (w : List UInt8) (s t : Int), s < x.states → (Run (altN x y) s w t ↔ Run x s w t)
  | [], s, t, _ => Iff.rfl
  | b :: w, s, t, hs => by
    obtain ⟨k1, k2, k3, k4, k5, k6⟩ := checkB_spec hx
    obtain ⟨l1, l2, l3, l4, l5, l6⟩ := checkB_spec hy
    simp only [Run]
    constructor
    · rintro ⟨e, h1, h2, rfl, h4⟩
      simp only [altN, altE, List.mem_append] at h1
      rcases h1 with h1 | h1
      · exact ⟨e, h1, h2, rfl, (alt_left hx hy w _ t (k6 e h1).2.2.2).1 h4⟩
      · obtain ⟨u, hu, rfl⟩ := mem_shiftE.1 h1
        have := l6 u hu
        simp only at hs; omega
    · rintro ⟨e, h1, h2, rfl, h4⟩
      exact ⟨e, by simp only [altN, altE, List.mem_append]; exact .inl h1, h2, rfl, (alt_left hx hy w _ t (k6 e h1).2.2.2).2 h4⟩
theorem takesL_alt {x y : Nfa} (hx : checkB x = true) (hy : checkB y = true) (w : List UInt8) : takesL (altN x y) w = (takesL x w || takesL y w) := by
  obtain ⟨k1, k2, k3, k4, k5, k6⟩ := checkB_spec hx
  obtain ⟨l1, l2, l3, l4, l5, l6⟩ := checkB_spec hy
  rw [Bool.eq_iff_iff, Bool.or_eq_true, takesL_iff, takesL_iff, takesL_iff]
  have R := run_right (alt_right (y := y) hx) (fun e he => ⟨(l6 e he).1, (l6 e he).2.2.1⟩) w
  have L := alt_left hx hy w
  simp only [altN, List.mem_append, mem_shiftL] at *
  constructor
  · rintro ⟨s, hs | hs, t, ht, h⟩
    · have h' := (L s t (k4 s hs).2).1 h
      refine .inl ⟨s, hs, t, ht.resolve_right fun ht => ?_, h'⟩
      have := h'.lt (fun e he => (k6 e he).2.2.2) (k4 s hs).2
      have := l5 _ ht; omega
    · have hs' := l4 _ hs
      have h' := (R s t (by omega)).1 h
      refine .inr ⟨s - x.states, hs, t - x.states, ht.resolve_left fun ht => ?_, h'⟩
      have := h'.ge (fun e he => (l6 e he).2.2.1) (by omega)
      have := k5 _ ht; omega
  · rintro (⟨s, hs, t, ht, h⟩ | ⟨s, hs, t, ht, h⟩)
    · exact ⟨s, .inl hs, t, .inl ht, (L s t (k4 s hs).2).2 h⟩
    · have := l4 _ hs
      refine ⟨s + x.states, .inr (by rwa [show s + x.states - x.states = s by omega]), t + x.states, .inr (by rwa [show t + x.states - x.states = t by omega]), (R _ _ (by omega)).2 ?_⟩
      rwa [show s + x.states - x.states = s by omega, show t + x.states - x.states = t by omega]

/-! ### One behind the other -/
theorem mem_catE {x y : Nfa} {e : Arrow} : e ∈ (catN x y).edges ↔ e ∈ x.edges ∨ e ∈ shiftE y.edges x.states ∨ ∃ u ∈ x.edges, u.to ∈ x.ends ∧ ∃ s ∈ y.starts, e = ⟨u.frm, s + x.states, u.set⟩ := by
  simp only [catN, catTo, List.take_length, List.mem_append, List.mem_flatMap, catOf, or_assoc]
  refine or_congr Iff.rfl (or_congr Iff.rfl ?_)
  constructor
  · rintro ⟨u, hu, h⟩
    split at h
    · rename_i hc
      simp only [catPut, List.mem_map, mem_shiftL] at h
      obtain ⟨s, hs, rfl⟩ := h
      exact ⟨u, hu, by simpa using hc, s - x.states, hs, by simp⟩
    · simp at h
  · rintro ⟨u, hu, hc, s, hs, rfl⟩
    refine ⟨u, hu, ?_⟩
    rw [if_pos (by simpa using hc)]
    simp only [catPut, List.mem_map, mem_shiftL]
    exact ⟨s + x.states, by rwa [show s + x.states - x.states = s by omega], rfl⟩
theorem cat_right {x y : Nfa} (hx : checkB x = true) : ∀ e : Arrow, x.states ≤ e.frm → (e ∈ (catN x y).edges ↔ e ∈ shiftE y.edges x.states) := by
  obtain ⟨k1, k2, k3, k4, k5, k6⟩ := checkB_spec hx
  intro e he
  rw [mem_catE]
  refine ⟨fun h => ?_, fun h => .inr (.inl h)⟩
  rcases h with h | h | ⟨u, hu, _, s, _, rfl⟩
  · have := k6 e h; omega
  · exact h
  · have := k6 u hu; simp only at he; omega
theorem cat_left {x y : Nfa} (hx : checkB x = true) (hy : checkB y = true) : ∀ (w : List UInt8) (s t : Int), s < x.states →
    (Run (catN x y) s w t ↔ (t < x.states ∧ Run x s w t) ∨ (x.states ≤ t ∧ ∃ v u, w = v ++ u ∧ v ≠ [] ∧ ∃ m ∈ x.ends, Run x s v m ∧ ∃ r ∈ y.starts, Run y r u (t - x.states)))
  | [], s, t, hs => by
    simp only [Run]
    constructor
    · rintro rfl; exact .inl ⟨hs, rfl⟩
    · rintro (⟨_, h⟩ | ⟨_, v, u, h, hv, _⟩)
      · exact h
      · have := congrArg List.length h; rw [List.length_append] at this
        exact absurd (List.eq_nil_of_length_eq_zero (by simp only [List.length_nil] at this; omega)) hv
  | b :: w, s, t, hs => by
    obtain ⟨k1, k2, k3, k4, k5, k6⟩ := checkB_spec hx
    obtain ⟨l1, l2, l3, l4, l5, l6⟩ := checkB_spec hy
    have R := run_right (cat_right (y := y) hx) (fun e he => ⟨(l6 e he).1, (l6 e he).2.2.1⟩) w
    constructor
    · rintro ⟨e, h1, h2, rfl, h4⟩
      rcases mem_catE.1 h1 with h1 | h1 | ⟨u, hu, hc, r, hr, rfl⟩
      · rcases (cat_left hx hy w _ t (k6 e h1).2.2.2).1 h4 with ⟨h5, h6⟩ | ⟨h5, v, u, rfl, hv, m, hm, h6, h7⟩
        · exact .inl ⟨h5, e, h1, h2, rfl, h6⟩
        · exact .inr ⟨h5, b :: v, u, rfl, by simp, m, hm, ⟨e, h1, h2, rfl, h6⟩, h7⟩
      · obtain ⟨u, hu, rfl⟩ := mem_shiftE.1 h1
        have := l6 u hu
        simp only at hs; omega
      · have := l4 r hr
        have h5 := (R _ t (by simp only; omega)).1 h4
        simp only [show r + x.states - x.states = r by omega] at h5
        have := h5.ge (fun e he => (l6 e he).2.2.1) (by omega)
        exact .inr ⟨by omega, [b], w, rfl, by simp, u.to, hc, ⟨u, hu, h2, rfl, rfl⟩, r, hr, h5⟩
    · rintro (⟨h5, e, h1, h2, rfl, h6⟩ | ⟨h5, v, u, h, hv, m, hm, h6, r, hr, h7⟩)
      · exact ⟨e, mem_catE.2 (.inl h1), h2, rfl, (cat_left hx hy w _ t (k6 e h1).2.2.2).2 (.inl ⟨h5, h6⟩)⟩
      · cases v with
        | nil => exact absurd rfl hv
        | cons c v =>
          rw [List.cons_append] at h
          injection h with hb hw
          subst hb hw
          obtain ⟨e, h1, h2, rfl, h8⟩ := h6
          by_cases hv0 : v = []
          · subst hv0
            cases h8
            have := l4 r hr
            refine ⟨⟨e.frm, r + x.states, e.set⟩, mem_catE.2 (.inr (.inr ⟨e, h1, hm, r, hr, rfl⟩)), h2, rfl, (R _ t (by simp only; omega)).2 ?_⟩
            simp only [show r + x.states - x.states = r by omega]
            exact h7
          · exact ⟨e, mem_catE.2 (.inl h1), h2, rfl, (cat_left hx hy _ _ t (k6 e h1).2.2.2).2 (.inr ⟨h5, v, u, rfl, hv0, m, hm, h8, r, hr, h7⟩)⟩
theorem mem_catS {x y : Nfa} {s : Int} : s ∈ (catN x y).starts ↔ s ∈ x.starts ∨ (emptyB x = true ∧ s - x.states ∈ y.starts) := by
  simp only [catN, catS]
  split
  · rename_i h; simp only [List.mem_append, mem_shiftL, h, true_and]
  · rename_i h; simp only [h, Bool.false_eq_true, false_and, or_false]
theorem mem_catD {x y : Nfa} {s : Int} : s ∈ (catN x y).ends ↔ s - x.states ∈ y.ends ∨ (emptyB y = true ∧ s ∈ x.ends) := by
  simp only [catN, catD]
  split
  · rename_i h; simp only [List.mem_append, mem_shiftL, h, true_and]; exact or_comm
  · rename_i h; simp only [List.nil_append, mem_shiftL, h, Bool.false_eq_true, false_and, or_false]
theorem takesL_cat {x y : Nfa} (hx : checkB x = true) (hy : checkB y = true) (w : List UInt8) : takesL (catN x y) w = true ↔ ∃ v u, w = v ++ u ∧ takesL x v = true ∧ takesL y u = true := by
  obtain ⟨k1, k2, k3, k4, k5, k6⟩ := checkB_spec hx
  obtain ⟨l1, l2, l3, l4, l5, l6⟩ := checkB_spec hy
  have R := run_right (cat_right (y := y) hx) (fun e he => ⟨(l6 e he).1, (l6 e he).2.2.1⟩) w
  have L := cat_left hx hy w
  rw [takesL_iff]
  constructor
  · rintro ⟨s, hs, t, ht, h⟩
    rcases mem_catS.1 hs with hs | ⟨hx0, hs⟩
    · have hs' := k4 s hs
      rcases (L s t hs'.2).1 h with ⟨h5, h6⟩ | ⟨h5, v, u, rfl, hv, m, hm, h6, r, hr, h7⟩
      · rcases mem_catD.1 ht with ht | ⟨hy0, ht⟩
        · have := l5 _ ht; omega
        · exact ⟨w, [], by simp, takesL_iff.2 ⟨s, hs, t, ht, h6⟩, takesL_nil.2 hy0⟩
      · rcases mem_catD.1 ht with ht | ⟨hy0, ht⟩
        · exact ⟨v, u, rfl, takesL_iff.2 ⟨s, hs, m, hm, h6⟩, takesL_iff.2 ⟨r, hr, _, ht, h7⟩⟩
        · have := k5 _ ht; omega
    · have hs' := l4 _ hs
      have h' := (R s t (by omega)).1 h
      rcases mem_catD.1 ht with ht | ⟨hy0, ht⟩
      · exact ⟨[], w, rfl, takesL_nil.2 hx0, takesL_iff.2 ⟨_, hs, _, ht, h'⟩⟩
      · have := h'.ge (fun e he => (l6 e he).2.2.1) (by omega)
        have := k5 _ ht; omega
  · rintro ⟨v, u, rfl, hv, hu⟩
    obtain ⟨r, hr, t, ht, h7⟩ := takesL_iff.1 hu
    have hr' := l4 _ hr
    have ht' := l5 _ ht
    have et : t + x.states - x.states = t := by omega
    have er : r + x.states - x.states = r := by omega
    by_cases hv0 : v = []
    · subst hv0
      exact ⟨r + x.states, mem_catS.2 (.inr ⟨takesL_nil.1 hv, by rwa [er]⟩), t + x.states, mem_catD.2 (.inl (by rwa [et])), (R _ _ (by omega)).2 (by rw [er, et]; exact h7)⟩
    · obtain ⟨s, hs, m, hm, h6⟩ := takesL_iff.1 hv
      exact ⟨s, mem_catS.2 (.inl hs), t + x.states, mem_catD.2 (.inl (by rwa [et])), (L s _ (k4 s hs).2).2 (.inr ⟨by omega, v, u, rfl, hv0, m, hm, h6, r, hr, by rw [et]; exact h7⟩)⟩

/-! ### A text, a set -/
theorem has_zero (b : Nat) : BSet.zero.has b = false := by
  simp only [BSet.has, BSet.zero, BSet.word]
  split <;> simp
theorem has_one (c b : UInt8) : (BSet.ofL [c]).has b.toNat = true ↔ b = c := by
  rw [BSet.ofL, BSet.make_has _ b.toNat_lt]
  simp only [List.any_cons, List.any_nil, Bool.or_false, decide_eq_true_eq]
  exact UInt8.toNat_inj
theorem mem_textE {s : List UInt8} {k : Nat} {e : Arrow} : e ∈ textE s k ↔ ∃ i < k, e = ⟨(i : Int), ((i + 1 : Nat) : Int), BSet.ofL [nth s i 0]⟩ := by
  simp only [textE, List.mem_map, List.mem_range]
  constructor
  · rintro ⟨i, h, rfl⟩; exact ⟨i, h, rfl⟩
  · rintro ⟨i, h, rfl⟩; exact ⟨i, h, rfl⟩
theorem run_text (s : List UInt8) : ∀ (w : List UInt8) (i : Nat), i ≤ s.length → (Run (textN s) (i : Int) w (s.length : Int) ↔ w = s.drop i)
  | [], i, hi => by
    simp only [Run]
    constructor
    · intro h; rw [List.drop_of_length_le (by omega)]
    · intro h
      have := congrArg List.length h
      rw [List.length_drop] at this
      simp at this; omega
  | b :: w, i, hi => by
    simp only [Run]
    constructor
    · rintro ⟨e, h1, h2, h3, h4⟩
      obtain ⟨j, hj, rfl⟩ := mem_textE.1 h1
      simp only at h2 h3 h4
      obtain rfl : j = i := by omega
      have := (run_text s w (j + 1) (by omega)).1 h4
      rw [has_one] at h2
      rw [List.drop_eq_getElem_cons hj, ← this, h2]
      have h5 := getD_some s hj 0
      rw [List.getElem?_eq_getElem hj, Option.some.injEq] at h5
      rw [h5]
    · intro h
      have hi' : i < s.length := by
        have := congrArg List.length h
        rw [List.length_drop] at this
        simp at this; omega
      rw [List.drop_eq_getElem_cons hi'] at h
      injection h with hb hw
      have h5 := getD_some s hi' 0
      rw [List.getElem?_eq_getElem hi', Option.some.injEq] at h5
      exact ⟨⟨(i : Int), ((i + 1 : Nat) : Int), BSet.ofL [nth s i 0]⟩, mem_textE.2 ⟨i, hi', rfl⟩, by rw [has_one, hb, h5], rfl, (run_text s w (i + 1) (by omega)).2 hw⟩
theorem takesL_text (s w : List UInt8) : takesL (textN s) w = decide (w = s) := by
  rw [Bool.eq_iff_iff, takesL_iff, decide_eq_true_eq]
  have h := run_text s w 0 (Nat.zero_le _)
  rw [List.drop_zero] at h
  rw [← h]
  simp [textN]
theorem mem_setE {t : BSet} {e : Arrow} : e ∈ setE t ↔ t ≠ BSet.zero ∧ e = ⟨0, 1, t⟩ := by
  unfold setE
  split
  · rename_i h; simp [h]
  · rename_i h; simp [h]
theorem takesL_set (t : BSet) (w : List UInt8) : takesL (setN t) w = true ↔ ∃ b, w = [b] ∧ t.has b.toNat = true := by
  rw [takesL_iff]
  constructor
  · rintro ⟨s, hs, u, hu, h⟩
    have hs0 : s = 0 := by simpa [setN] using hs
    have hu1 : u = 1 := by simpa [setN] using hu
    subst hs0 hu1
    cases w with
    | nil => exact absurd (show (0 : Int) = 1 from h) (by decide)
    | cons b w =>
      obtain ⟨e, h1, h2, _, h4⟩ := h
      obtain ⟨_, rfl⟩ := mem_setE.1 h1
      refine ⟨b, ?_, h2⟩
      cases w with
      | nil => rfl
      | cons c w =>
        obtain ⟨e, h1, _, h3, _⟩ := h4
        obtain ⟨_, rfl⟩ := mem_setE.1 h1
        exact absurd (show (0 : Int) = 1 from h3) (by decide)
  · rintro ⟨b, rfl, h⟩
    refine ⟨0, by simp [setN], 1, by simp [setN], ⟨0, 1, t⟩, mem_setE.2 ⟨fun h0 => ?_, rfl⟩, h, rfl, rfl⟩
    rw [h0, has_zero] at h; cases h
end Go.Proofs.Ytcidppnlhhkhhaa
