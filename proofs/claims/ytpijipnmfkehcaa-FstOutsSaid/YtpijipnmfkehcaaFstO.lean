/- The reference's Outs of a transducer, and the law on what a text is related to. Plain lemmas, no condition. -/
import Derived.Test.YtpijipnmfkehcaaFstL
import Derived.Test.YtpijipnmfkehcaaRightP
import Derived.Test.YtpijipnmfkehcaaIt
import Derived.Test.YtpijipnmfkehcaaF7
set_option linter.unusedVariables false
set_option linter.unusedSimpArgs false
namespace Go.Proofs.Ytpijipnmfkehcaa
open Go Go.E
set_option maxRecDepth 100000

/-! ### Texts, rising, each once -/
theorem rin9_eq (x : List UInt8) (l : List (List UInt8)) (hx : x.length ≤ 281474976710656) : whittleref09_in x l = some (decide (x ∈ l)) := by
  unfold whittleref09_in
  rw [grd_mk hx]
  refine Exists.elim (iter_for (step := fun q : Nat => whittleref09_in_b1 l x q) (fun (_ : Unit) k => k) l [] (fun p _ => x ∉ p) (fun r => r = decide (x ∈ l)) ?_ ?_ (s0 := ()) (by simp)) (fun r hr => by rw [hr.1, hr.2])
  · intro k s hk hI
    by_cases he : nth l k [] = x
    · right
      refine ⟨true, by simp only [whittleref09_in_b1, lt_dec hk, iteO_true, he, decide_true]; rfl, ?_⟩
      have := nth_mem' hk []; rw [he] at this; simp [this]
    · left
      refine ⟨(), by simp only [whittleref09_in_b1, lt_dec hk, iteO_true, decide_eq_false he, iteO_false]; rfl, ?_⟩
      rw [List.mem_append, List.mem_singleton]
      rintro (h | h)
      · exact hI h
      · exact he h.symm
  · intro s hI
    exact ⟨false, by simp only [whittleref09_in_b1, Int.lt_irrefl, decide_false, iteO_false]; rfl, by simp [hI]⟩
abbrev ltB (x y : List UInt8) : Prop := Lib.compareBytes x y < 0
theorem ltB_of {x y : List UInt8} (h : ¬ ltB x y) (hn : x ≠ y) : ltB y x := by
  have a := cmpB_good.anti y x
  have b := cmpB_good.eq x y
  have : Lib.compareBytes x y ≠ 0 := fun h => hn (b.1 h)
  unfold ltB at *; omega
theorem add9_eq (l : List (List UInt8)) (x : List UInt8) (hx : x.length ≤ 281474976710656) (hl : l.length ≤ 4000000000) (hp : l.Pairwise ltB) : ∃ r, whittleref09_add l x = some r ∧ r.Pairwise ltB ∧ (∀ y, y ∈ r ↔ y ∈ l ∨ y = x) ∧ r.length ≤ l.length + 1 := by
  unfold whittleref09_add
  rw [grd_mk hx, rin9_eq x l hx, bnd, Option.bind_some]
  by_cases hm : x ∈ l
  · rw [decide_eq_true hm, iteO_true]
    refine ⟨l, rfl, hp, fun y => ⟨.inl, ?_⟩, by omega⟩
    rintro (h | rfl)
    · exact h
    · exact hm
  rw [decide_eq_false hm, iteO_false]
  refine iter_for (step := fun q : (List (List UInt8)) × Bool × Nat => whittleref09_add_b1 l x q.1 q.2.1 q.2.2) (fun (s : List (List UInt8) × Bool) k => (s.1, s.2, k)) l []
    (fun p s => (s.2 = false → s.1 = p ∧ ∀ y ∈ p, ltB y x) ∧ (s.2 = true → s.1.Pairwise ltB ∧ (∀ y, y ∈ s.1 ↔ y ∈ p ∨ y = x) ∧ (∃ y ∈ p, ltB x y) ∧ s.1.length = p.length + 1)) _ ?_ ?_ (s0 := ([], false)) ⟨fun _ => ⟨rfl, by simp⟩, fun h => by cases h⟩
  · rintro k ⟨o, t⟩ hk ⟨h1, h2⟩
    simp only at h1 h2
    left
    have hsp := take_split l hk []
    have hpre : (l.take k ++ [nth l k []]).Pairwise ltB := by
      rw [← take_snoc l hk []]; exact hp.sublist (List.take_sublist _ _)
    rw [List.pairwise_append] at hpre
    have hlt : ∀ y ∈ l.take k, ltB y (nth l k []) := fun y hy => hpre.2.2 y hy _ (List.mem_singleton.2 rfl)
    have hne : x ≠ nth l k [] := fun e => hm (e ▸ nth_mem' hk [])
    have htl : (l.take k).length = k := by rw [List.length_take]; omega
    cases t with
    | false =>
      obtain ⟨rfl, h4⟩ := h1 rfl
      by_cases hc : ltB x (nth l k [])
      · refine ⟨(l.take k ++ [x] ++ [nth l k []], true), ?_, ⟨fun h => (by cases h), fun _ => ⟨?_, ?_, ⟨_, by simp, hc⟩, by simp⟩⟩⟩
        · simp only [whittleref09_add_b1, lt_dec hk, iteO_true, Bool.not_false, decide_eq_true (show Lib.compareBytes x (nth l k []) < 0 from hc), whittleref09_add_j1]
          rw [grd_mk (by rw [htl, List.length_singleton]; omega), grd_mk (by rw [List.length_append, htl, List.length_singleton, List.length_singleton]; omega)]
          rfl
        · show (l.take k ++ [x] ++ [nth l k []]).Pairwise ltB
          rw [List.pairwise_append, List.pairwise_append]
          refine ⟨⟨hpre.1, List.pairwise_singleton .., fun y hy z hz => ?_⟩, List.pairwise_singleton .., fun y hy z hz => ?_⟩
          · rw [List.mem_singleton.1 hz]; exact h4 y hy
          · rw [List.mem_singleton.1 hz]
            rw [List.mem_append, List.mem_singleton] at hy
            rcases hy with hy | rfl
            · exact hlt y hy
            · exact hc
        · intro y
          simp only [List.mem_append, List.mem_singleton]
          constructor
          · rintro ((h | h) | h)
            · exact .inl (.inl h)
            · exact .inr h
            · exact .inl (.inr h)
          · rintro ((h | h) | h)
            · exact .inl (.inl h)
            · exact .inr h
            · exact .inl (.inr h)
      · refine ⟨(l.take k ++ [nth l k []], false), ?_, ⟨fun _ => ⟨rfl, fun y hy => ?_⟩, fun h => (by cases h)⟩⟩
        · simp only [whittleref09_add_b1, lt_dec hk, iteO_true, Bool.not_false, decide_eq_false (show ¬ Lib.compareBytes x (nth l k []) < 0 from hc), iteO_false, whittleref09_add_j1]
          rw [grd_mk (by rw [htl, List.length_singleton]; omega)]
          rfl
        · rw [List.mem_append, List.mem_singleton] at hy
          rcases hy with hy | rfl
          · exact h4 y hy
          · exact ltB_of hc hne
    | true =>
      obtain ⟨h3, h4, ⟨y0, hy0, hxy⟩, h5⟩ := h2 rfl
      refine ⟨(o ++ [nth l k []], true), ?_, ⟨fun h => (by cases h), fun _ => ⟨?_, ?_, ⟨y0, List.mem_append_left _ hy0, hxy⟩, by simp only [List.length_append, h5, List.length_singleton]⟩⟩⟩
      · simp only [whittleref09_add_b1, lt_dec hk, iteO_true, Bool.not_true, iteO_false, whittleref09_add_j1]
        rw [grd_mk (by rw [h5, htl, List.length_singleton]; omega)]
        rfl
      · show (o ++ [nth l k []]).Pairwise ltB
        rw [List.pairwise_append]
        refine ⟨h3, List.pairwise_singleton .., fun y hy z hz => ?_⟩
        rw [List.mem_singleton.1 hz]
        rcases (h4 y).1 hy with h | rfl
        · exact hlt y h
        · exact cmpB_good.trans _ _ _ hxy (hlt _ hy0)
      · intro y
        rw [List.mem_append, List.mem_append, h4]
        constructor
        · rintro ((h | h) | h)
          · exact .inl (.inl h)
          · exact .inr h
          · exact .inl (.inr h)
        · rintro ((h | h) | h)
          · exact .inl (.inl h)
          · exact .inr h
          · exact .inl (.inr h)
  · rintro ⟨o, t⟩ ⟨h1, h2⟩
    simp only at h1 h2
    cases t with
    | false =>
      obtain ⟨rfl, h4⟩ := h1 rfl
      refine ⟨o ++ [x], ?_, ?_, ?_, by simp⟩
      · simp only [whittleref09_add_b1, Int.lt_irrefl, decide_false, iteO_false, Bool.not_false, iteO_true]
        rw [grd_mk (by rw [List.length_singleton]; omega)]; rfl
      · rw [List.pairwise_append]
        exact ⟨hp, List.pairwise_singleton .., fun y hy z hz => by rw [List.mem_singleton.1 hz]; exact h4 y hy⟩
      · intro y; rw [List.mem_append, List.mem_singleton]
    | true =>
      obtain ⟨h3, h4, _, h5⟩ := h2 rfl
      refine ⟨o, ?_, h3, h4, by omega⟩
      simp only [whittleref09_add_b1, Int.lt_irrefl, decide_false, iteO_false, Bool.not_true]; rfl
def leafOf (x : List UInt8) : ReLeaf := ⟨3, x, BSet.zero, 0, 0⟩
theorem leaf_end (l : List (List UInt8)) : usesLeaf_j1 l = some l := by
  unfold usesLeaf_j1
  refine iter_done (s := ()) ?_
  simp only [usesLeaf_b1]; rfl
theorem texts_eq (l : List (List UInt8)) (hl : l.length ≤ 1000000000) (ho : ∀ x ∈ l, x.length ≤ 281474976710656) : whittleref15_Texts l = some (onceL [] Lib.compareBytes l) := by
  unfold whittleref15_Texts
  refine iter_fold (step := fun q : (List ReLeaf) × Nat => whittleref15_Texts_b1 l q.1 q.2) l [] (fun k => (l.take k).map leafOf) ?_ ?_
  · intro k hk
    simp only [whittleref15_Texts_b1, lt_dec hk, iteO_true]
    rw [grd_mk (by simp only [List.length_map, List.length_take, List.length_singleton]; omega), take_snoc l hk [], List.map_append]
    rfl
  · simp only [whittleref15_Texts_b1, Int.lt_irrefl, decide_false, iteO_false, List.take_length]
    unfold whittleref09_Uses usesRoot
    rw [decide_eq_false (show ¬ (5 : Int) = 3 by decide), iteO_false]
    unfold usesRoot_j1
    have hlen : (l.map leafOf).length = l.length := List.length_map _
    refine Exists.elim (iter_for (step := fun q : (List (List UInt8)) × Nat => usesRoot_b1 ⟨5, [], BSet.zero, l.map leafOf, 0, 0⟩ q.1 q.2) (fun s k => (s, k)) l [] (fun p s => s.Pairwise ltB ∧ (∀ y, y ∈ s ↔ y ∈ p) ∧ s.length ≤ p.length)
      (fun r => r = onceL [] Lib.compareBytes l) ?_ ?_ (s0 := []) ⟨List.Pairwise.nil, by simp, by simp⟩) (fun r hr => by rw [hr.1, hr.2]; rfl)
    · rintro k s hk ⟨h1, h2, h3⟩
      left
      have htl : (l.take k).length = k := by rw [List.length_take]; omega
      obtain ⟨r, hr, g1, g2, g3⟩ := add9_eq s (nth l k []) (ho _ (nth_mem' hk [])) (by omega) h1
      have hn : nth (l.map leafOf) k ReLeaf.zero = leafOf (nth l k []) := by
        simp only [nth, List.getD, List.getElem?_map]
        have := getD_some l hk []
        rw [this]; rfl
      refine ⟨r, ?_, g1, fun y => by rw [g2, h2, List.mem_append, List.mem_singleton], by rw [List.length_append, List.length_singleton]; omega⟩
      have hk' : k < (l.map leafOf).length := by rw [hlen]; exact hk
      simp only [usesRoot_b1, lt_dec hk', iteO_true, hn]
      unfold usesLeaf
      simp only [leafOf, decide_true, iteO_true, hr, bnd, Option.bind_some, leaf_end]; rfl
    · rintro s ⟨h1, h2, _⟩
      refine ⟨s, ?_, rising_eq cmpB_good h1 (sorted_onceL cmpB_good l) fun x => by rw [h2, mem_onceL]⟩
      simp only [usesRoot_b1, hlen, Int.lt_irrefl, decide_false, iteO_false]; rfl

/-! ### Pairs, step by step -/
theorem with_eq (l : List Tip) (x : Tip) (h : l.length ≤ 1000000) : whittleref15_with l x = some (if x ∈ l then l else l ++ [x]) := by
  unfold whittleref15_with
  refine Exists.elim (iter_for (step := fun q : Nat => whittleref15_with_b1 l x q) (fun (_ : Unit) k => k) l Tip.zero (fun p _ => x ∉ p) (fun r => r = if x ∈ l then l else l ++ [x]) ?_ ?_ (s0 := ()) (by simp)) (fun r hr => by rw [hr.1, hr.2])
  · intro k s hk hI
    by_cases he : nth l k Tip.zero = x
    · right
      refine ⟨l, by simp only [whittleref15_with_b1, lt_dec hk, iteO_true, decide_eq_true he]; rfl, ?_⟩
      have := nth_mem' hk Tip.zero; rw [he] at this; rw [if_pos this]
    · left
      refine ⟨(), by simp only [whittleref15_with_b1, lt_dec hk, iteO_true, decide_eq_false he, iteO_false]; rfl, ?_⟩
      rw [List.mem_append, List.mem_singleton]
      rintro (h | h)
      · exact hI h
      · exact he h.symm
  · intro s hI
    refine ⟨l ++ [x], ?_, by rw [if_neg hI]⟩
    simp only [whittleref15_with_b1, Int.lt_irrefl, decide_false, iteO_false]
    rw [grd_mk (by rw [List.length_singleton]; omega)]; rfl
theorem tp_inj {x y : Tip} (h : tp x = tp y) : x = y := by cases x; cases y; cases h; rfl
/-- Some things of a set, or all. -/
structure Gath (o : List Tip) (S : List FPair) : Prop where
  nd : o.Nodup
  sub : ∀ y ∈ o, tp y ∈ S
  len : o.length ≤ 4097
  all : o.length ≤ 4096 → ∀ q ∈ S, ∃ y ∈ o, tp y = q
theorem Gath.nil : Gath [] [] := ⟨List.nodup_nil, by simp, by simp, by simp⟩
theorem Gath.more {o : List Tip} {S : List FPair} (h : Gath o S) (hl : o.length ≤ 4096) (x : Tip) : Gath (if x ∈ o then o else o ++ [x]) (S ++ [tp x]) := by
  by_cases hx : x ∈ o
  · rw [if_pos hx]
    refine ⟨h.nd, fun y hy => List.mem_append_left _ (h.sub y hy), h.len, fun h4 q hq => ?_⟩
    rw [List.mem_append, List.mem_singleton] at hq
    rcases hq with hq | rfl
    · exact h.all h4 q hq
    · exact ⟨x, hx, rfl⟩
  · rw [if_neg hx]
    refine ⟨?_, fun y hy => ?_, by rw [List.length_append, List.length_singleton]; omega, fun h4 q hq => ?_⟩
    · rw [List.nodup_append]
      exact ⟨h.nd, by simp, fun a ha b hb => by rw [List.mem_singleton.1 hb]; intro e; subst e; exact hx ha⟩
    · rw [List.mem_append, List.mem_singleton] at *
      rcases hy with hy | rfl
      · exact .inl (h.sub y hy)
      · exact .inr rfl
    · rw [List.mem_append, List.mem_singleton] at hq
      rcases hq with hq | rfl
      · obtain ⟨y, hy, e⟩ := h.all hl q hq
        exact ⟨y, List.mem_append_left _ hy, e⟩
      · exact ⟨x, by simp, rfl⟩
theorem Gath.full {o : List Tip} {S T : List FPair} (h : Gath o S) (hl : 4096 < o.length) (hs : ∀ q ∈ S, q ∈ T) : Gath o T := ⟨h.nd, fun y hy => hs _ (h.sub y hy), h.len, fun h4 => by omega⟩
theorem Gath.card_ge {o : List Tip} {S : List FPair} (h : Gath o S) : o.length ≤ card S := by
  obtain ⟨l, h1, h2, h3⟩ := FM.ofL_len S
  rw [← h3, ← List.length_map (f := tp)]
  refine len_of_sub ?_ fun x hx => ?_
  · unfold List.Nodup
    rw [List.pairwise_map]
    exact h.nd.imp fun hab e => hab (tp_inj e)
  · obtain ⟨y, hy, rfl⟩ := List.mem_map.1 hx
    exact (h2 _).2 (h.sub y hy)
theorem Gath.card_le {o : List Tip} {S : List FPair} (h : Gath o S) (hl : o.length ≤ 4096) : card S ≤ 4096 := by
  have h1 : card S ≤ card (o.map tp) := card_mono fun q hq => by
    obtain ⟨y, hy, rfl⟩ := h.all hl q hq
    exact List.mem_map.2 ⟨y, hy, rfl⟩
  have h2 := Go.E.card_le (o.map tp)
  rw [List.length_map] at h2; omega
def armsA (t : Fst) (z : Tip) (g : List Arc) (b : UInt8) : List FPair := aftA (g.filter fun a => decide (a.frm = z.state)) (tp z) b
theorem armsA_snoc (t : Fst) (z : Tip) (g : List Arc) (a : Arc) (b : UInt8) : armsA t z (g ++ [a]) b = armsA t z g b ++ (if a.frm = z.state then (if a.set.has b.toNat then [⟨a.to, outOf (tp z) a b⟩] else []) else []) := by
  unfold armsA
  rw [List.filter_append]
  by_cases h : a.frm = z.state
  · rw [if_pos h, show List.filter (fun a => decide (a.frm = z.state)) [a] = [a] from by simp [h], aftA_snoc]
  · rw [if_neg h, show List.filter (fun a => decide (a.frm = z.state)) [a] = [] from by simp [h], List.append_nil, List.append_nil]
theorem aftP_snoc (t : Fst) (S : List FPair) (z : Tip) (b : UInt8) : aftP t (S ++ [tp z]) b = aftP t S b ++ armsA t z t.arcs b := by
  unfold aftP armsA
  rw [List.flatMap_append]; simp [tp]
theorem rarcs_run {t : Fst} (ht : FstOk t) (at_ : List Tip) (b : UInt8) (k : Nat) (z : Tip) (hz : nth at_ k Tip.zero = z) (hzl : z.out.length ≤ 100000000) {o : List Tip} {S : List FPair} (h : Gath o S) :
    ∃ r, iter (fun q : (List Tip) × Nat => whittleref15_Step_b2 t at_ k b q.1 q.2) (o, 0) = some r ∧ ∃ o', r = .inl (o', k + 1) ∧ Gath o' (S ++ armsA t z t.arcs b) := by
  refine iter_for (step := fun q : (List Tip) × Nat => whittleref15_Step_b2 t at_ k b q.1 q.2) (fun s i => (s, i)) t.arcs Arc.zero (fun p s => Gath s (S ++ armsA t z p b)) _ ?_ ?_ (s0 := o) (by simpa [armsA, aftA] using h)
  · intro i s hi hI
    have ha := ht.arcs _ (nth_mem' hi Arc.zero)
    by_cases hb : s.length ≤ 4096
    · left
      have hlen : decide (((s.length : Nat) : Int) ≤ 4096) = true := decide_eq_true (by omega)
      by_cases hf : (nth t.arcs i Arc.zero).frm = z.state
      · cases hh : (nth t.arcs i Arc.zero).set.has b.toNat
        · refine ⟨s, ?_, ?_⟩
          · simp only [whittleref15_Step_b2, lt_dec hi, hlen, iteO_true, hz, decide_eq_false (show ¬ (nth t.arcs i Arc.zero).frm ≠ z.state from fun h => h hf), iteO_false, hh, Bool.not_false, whittleref15_Step_j2]; rfl
          · rw [armsA_snoc, if_pos hf, hh]; simpa using hI
        · have hm := hI.more hb ⟨(nth t.arcs i Arc.zero).to, outOf (tp z) (nth t.arcs i Arc.zero) b⟩
          refine ⟨_, ?_, by rw [armsA_snoc, if_pos hf, hh, if_pos rfl, ← List.append_assoc]; exact hm⟩
          have hj : whittleref15_Step_b2 t at_ k b s i = whittleref15_Step_j3 s t i (outOf (tp z) (nth t.arcs i Arc.zero) b) := by
            simp only [whittleref15_Step_b2, lt_dec hi, hlen, iteO_true, hz, decide_eq_false (show ¬ (nth t.arcs i Arc.zero).frm ≠ z.state from fun h => h hf), iteO_false, hh, Bool.not_true]
            rw [grd_mk (by omega)]
            unfold outOf
            cases (nth t.arcs i Arc.zero).copy
            · simp [tp]
            · simp only [iteO_true, if_true]
              rw [grd_mk (by simp only [List.length_append, List.length_singleton]; omega)]; rfl
          simp only [hj, whittleref15_Step_j3, with_eq s _ (show s.length ≤ 1000000 by omega), bnd, Option.bind_some, whittleref15_Step_j2]; rfl
      · refine ⟨s, ?_, by rw [armsA_snoc, if_neg hf, List.append_nil]; exact hI⟩
        simp only [whittleref15_Step_b2, lt_dec hi, hlen, iteO_true, hz, decide_eq_true (show (nth t.arcs i Arc.zero).frm ≠ z.state from hf), whittleref15_Step_j2]; rfl
    · right
      refine ⟨.inl (s, k + 1), ?_, s, rfl, hI.full (by omega) fun q hq => ?_⟩
      · simp only [whittleref15_Step_b2, lt_dec hi, iteO_true, decide_eq_false (show ¬ ((s.length : Nat) : Int) ≤ 4096 by omega), iteO_false, whittleref15_Step_j1]; rfl
      · rw [List.mem_append] at *
        refine hq.imp id fun hq => ?_
        unfold armsA at *
        rw [mem_aftA] at *
        obtain ⟨a, h1, h2⟩ := hq
        rw [List.mem_filter] at h1
        exact ⟨a, List.mem_filter.2 ⟨List.mem_of_mem_take h1.1, h1.2⟩, h2⟩
  · intro s hI
    refine ⟨.inl (s, k + 1), ?_, s, rfl, hI⟩
    simp only [whittleref15_Step_b2, Int.lt_irrefl, decide_false, iteO_false, whittleref15_Step_j1]; rfl
theorem rstep_eq {t : Fst} (ht : FstOk t) (at_ : List Tip) (b : UInt8) (hz : ∀ z ∈ at_, z.out.length ≤ 100000000) : ∃ o, whittleref15_Step t at_ b = some o ∧ Gath o (aftP t (at_.map tp) b) := by
  unfold whittleref15_Step
  refine iter_for (step := fun q : (List Tip) × Nat => whittleref15_Step_b1 at_ t b q.1 q.2) (fun s i => (s, i)) at_ Tip.zero (fun p s => Gath s (aftP t (p.map tp) b)) _ ?_ ?_ (s0 := []) Gath.nil
  · intro k s hk hI
    left
    obtain ⟨r, hr, o', rfl, hg⟩ := rarcs_run ht at_ b k _ rfl (hz _ (nth_mem' hk Tip.zero)) hI
    refine ⟨o', by simp only [whittleref15_Step_b1, lt_dec hk, iteO_true, hr], ?_⟩
    rw [List.map_append, List.map_cons, List.map_nil, aftP_snoc]; exact hg
  · intro s hI
    exact ⟨s, by simp only [whittleref15_Step_b1, Int.lt_irrefl, decide_false, iteO_false]; rfl, hI⟩
theorem rends_run {t : Fst} (ht : FstOk t) (at_ : List Tip) (hl : at_.length ≤ 4096) (hz : ∀ z ∈ at_, z.out.length ≤ 100000000) :
    iter (fun q : (List (List UInt8)) × Nat => whittleref15_Outs_b3 at_ t q.1 q.2) ([], 0) = some (onceL [] Lib.compareBytes (endT t (at_.map tp)), 0) := by
  have hE := ht.endsN
  refine Exists.elim (iter_for (step := fun q : (List (List UInt8)) × Nat => whittleref15_Outs_b3 at_ t q.1 q.2) (fun s i => (s, i)) at_ Tip.zero (fun p s => s = endT t (p.map tp) ∧ s.length ≤ p.length * 1024 ∧ ∀ x ∈ s, x.length ≤ 200000000) (fun r => r = (onceL [] Lib.compareBytes (endT t (at_.map tp)), 0)) ?_ ?_ (s0 := []) ⟨rfl, by simp, by simp⟩) (fun r hr => by rw [hr.1, hr.2])
  · rintro k s hk ⟨rfl, h2, h3⟩
    left
    have hkl : (at_.take k).length = k := by rw [List.length_take]; omega
    have hzk := hz _ (nth_mem' hk Tip.zero)
    have hin : ∃ r, iter (fun q : (List (List UInt8)) × Nat => whittleref15_Outs_b4 t at_ k q.1 q.2) (endT t ((at_.take k).map tp), 0) = some r ∧ r = .inl (endT t ((at_.take k ++ [nth at_ k Tip.zero]).map tp), k + 1) := by
      refine iter_for (step := fun q : (List (List UInt8)) × Nat => whittleref15_Outs_b4 t at_ k q.1 q.2) (fun s i => (s, i)) t.ends Tip.zero (fun p s => s = endT t ((at_.take k).map tp) ++ ((p.filter fun e => decide (e.state = (nth at_ k Tip.zero).state)).map Tip.out).map (fun o => (nth at_ k Tip.zero).out ++ o)) _ ?_ ?_ (s0 := endT t ((at_.take k).map tp)) (by simp)
      · rintro i s hi rfl
        left
        have he := ht.ends _ (nth_mem' hi Tip.zero)
        have hil : (t.ends.take i).length = i := by rw [List.length_take]; omega
        have hfl : ((t.ends.take i).filter fun e => decide (e.state = (nth at_ k Tip.zero).state)).length ≤ 1024 := by
          have := List.length_filter_le (fun e : Tip => decide (e.state = (nth at_ k Tip.zero).state)) (t.ends.take i); omega
        rw [hkl] at h2
        by_cases hs : (nth t.ends i Tip.zero).state = (nth at_ k Tip.zero).state
        · refine ⟨_, ?_, rfl⟩
          simp only [whittleref15_Outs_b4, lt_dec hi, iteO_true, decide_eq_true hs, whittleref15_Outs_j1]
          rw [grd_mk (by omega), grd_mk (by simp only [List.length_append, List.length_map, List.length_singleton] at *; omega)]
          simp [List.filter_append, hs, nxt]
        · refine ⟨_, ?_, rfl⟩
          simp only [whittleref15_Outs_b4, lt_dec hi, iteO_true, decide_eq_false hs, iteO_false, whittleref15_Outs_j1]
          simp [List.filter_append, hs, nxt]
      · rintro s rfl
        refine ⟨_, by simp only [whittleref15_Outs_b4, Int.lt_irrefl, decide_false, iteO_false]; rfl, ?_⟩
        simp only [endT, List.map_append, List.map_cons, List.map_nil, List.flatMap_append, List.flatMap_cons, List.flatMap_nil, List.append_nil]; rfl
    obtain ⟨r, hr, rfl⟩ := hin
    refine ⟨endT t ((at_.take k ++ [nth at_ k Tip.zero]).map tp), by simp only [whittleref15_Outs_b3, lt_dec hk, iteO_true, hr], rfl, ?_, ?_⟩
    · have e : endT t ((at_.take k ++ [nth at_ k Tip.zero]).map tp) = endT t ((at_.take k).map tp) ++ ((t.ends.filter fun e => decide (e.state = (nth at_ k Tip.zero).state)).map Tip.out).map (fun o => (nth at_ k Tip.zero).out ++ o) := by
        simp only [endT, List.map_append, List.map_cons, List.map_nil, List.flatMap_append, List.flatMap_cons, List.flatMap_nil, List.append_nil]; rfl
      rw [e]
      have := List.length_filter_le (fun e : Tip => decide (e.state = (nth at_ k Tip.zero).state)) t.ends
      simp only [List.length_append, List.length_map, List.length_singleton] at *; omega
    · intro x hx
      rw [mem_endT] at hx
      obtain ⟨p, hp, e, he, _, rfl⟩ := hx
      obtain ⟨y, hy, rfl⟩ := List.mem_map.1 hp
      have h5 := (ht.ends e he).2
      have h6 : y.out.length ≤ 100000000 := by
        refine hz y ?_
        rw [List.mem_append, List.mem_singleton] at hy
        rcases hy with hy | rfl
        · exact List.mem_of_mem_take hy
        · exact nth_mem' hk Tip.zero
      rw [List.length_append]; simp only [tp]; omega
  · rintro s ⟨rfl, h2, h3⟩
    refine ⟨_, ?_, rfl⟩
    simp only [whittleref15_Outs_b3, Int.lt_irrefl, decide_false, iteO_false]
    rw [texts_eq _ (by omega) (fun x hx => by have := h3 x hx; omega)]; rfl
theorem rtext_run {t : Fst} (ht : FstOk t) (w : List UInt8) (hw : w.length ≤ 256) (at_ : List Tip) (h0 : Gath at_ (t.starts.map tp)) :
    iter (fun q : (List Tip) × Nat => whittleref15_Outs_b2 w t q.1 q.2) (at_, 0) = some (if fitsB t w then (outsL t w, 0) else ([], 2)) := by
  refine Exists.elim (iter_for (step := fun q : (List Tip) × Nat => whittleref15_Outs_b2 w t q.1 q.2) (fun s i => (s, i)) w 0 (fun p s => Gath s (pairsL t p) ∧ ∀ j, j < p.length → card (pairsL t (p.take j)) ≤ 4096) (fun r => r = if fitsB t w then (outsL t w, 0) else ([], 2)) ?_ ?_ (s0 := at_) ⟨h0, by simp⟩) (fun r hr => by rw [hr.1, hr.2])
  · rintro k s hk ⟨hG, hc⟩
    have hkl : (w.take k).length = k := by rw [List.length_take]; omega
    by_cases hb : s.length ≤ 4096
    · left
      have hz : ∀ z ∈ s, z.out.length ≤ 100000000 := fun z hz => by
        have := (pairs_ok ht (w.take k) _ (hG.sub z hz)).2
        simp only [tp] at this; omega
      obtain ⟨o, ho, hg⟩ := rstep_eq ht s (nth w k 0) hz
      have hcard := hG.card_le hb
      refine ⟨o, ?_, ?_, fun j hj => ?_⟩
      · simp only [whittleref15_Outs_b2, lt_dec hk, iteO_true, decide_eq_false (show ¬ (4096 : Int) < ((s.length : Nat) : Int) by omega), iteO_false, ho, bnd, Option.bind_some]; rfl
      · rw [pairsL_snoc]
        refine ⟨hg.nd, fun y hy => ?_, hg.len, fun h4 q hq => hg.all h4 q ?_⟩
        · have := hg.sub y hy
          rw [mem_aftP] at *
          obtain ⟨p, hp, r⟩ := this
          obtain ⟨z, hz, rfl⟩ := List.mem_map.1 hp
          exact ⟨_, hG.sub z hz, r⟩
        · rw [mem_aftP] at *
          obtain ⟨p, hp, r⟩ := hq
          obtain ⟨z, hz, rfl⟩ := hG.all hb p hp
          exact ⟨_, List.mem_map.2 ⟨z, hz, rfl⟩, r⟩
      · rw [List.length_append, List.length_singleton, hkl] at hj
        rw [List.take_append_of_le_length (by omega)]
        by_cases hjk : j = k
        · rw [List.take_of_length_le (by omega)]; exact hcard
        · exact hc j (by omega)
    · right
      refine ⟨([], 2), ?_, ?_⟩
      · simp only [whittleref15_Outs_b2, lt_dec hk, iteO_true, decide_eq_true (show (4096 : Int) < ((s.length : Nat) : Int) by omega)]; rfl
      · rw [if_neg]
        intro hf
        have h1 := hG.card_ge
        cases k with
        | zero => have := card_start ht; rw [List.take_zero] at h1; exact absurd (Nat.le_trans h1 this) hb
        | succ k =>
          rw [fitsB, List.all_eq_true] at hf
          have := hf k (List.mem_range.2 (by omega))
          simp only [decide_eq_true_eq] at this; omega
  · rintro s ⟨hG, hc⟩
    by_cases hb : s.length ≤ 4096
    · refine ⟨(outsL t w, 0), ?_, ?_⟩
      · have hz : ∀ z ∈ s, z.out.length ≤ 100000000 := fun z hz => by
          have := (pairs_ok ht w _ (hG.sub z hz)).2
          simp only [tp] at this; omega
        simp only [whittleref15_Outs_b2, Int.lt_irrefl, decide_false, iteO_false, decide_eq_false (show ¬ (4096 : Int) < ((s.length : Nat) : Int) by omega), rends_run ht s hb hz, outsL]
        rw [onceL_congr cmpB_good (l := endT t (s.map tp)) (m := endT t (pairsL t w)) fun x => ?_]
        · rfl
        · rw [mem_endT, mem_endT]
          constructor
          · rintro ⟨p, hp, r⟩
            obtain ⟨z, hz, rfl⟩ := List.mem_map.1 hp
            exact ⟨_, hG.sub z hz, r⟩
          · rintro ⟨p, hp, r⟩
            obtain ⟨z, hz, rfl⟩ := hG.all hb p hp
            exact ⟨_, List.mem_map.2 ⟨z, hz, rfl⟩, r⟩
      · rw [if_pos]
        rw [fitsB, List.all_eq_true]
        intro k hk
        have hk := List.mem_range.1 hk
        rw [decide_eq_true_eq]
        by_cases hkl : k + 1 = w.length
        · rw [List.take_of_length_le (by omega)]; exact hG.card_le hb
        · exact hc (k + 1) (by omega)
    · refine ⟨([], 2), ?_, ?_⟩
      · simp only [whittleref15_Outs_b2, Int.lt_irrefl, decide_false, iteO_false, decide_eq_true (show (4096 : Int) < ((s.length : Nat) : Int) by omega), iteO_true]; rfl
      · rw [if_neg]
        intro hf
        have h1 := hG.card_ge
        by_cases hw0 : w.length = 0
        · have e : w = [] := List.eq_nil_of_length_eq_zero hw0
          subst e
          have := card_start ht; exact absurd (Nat.le_trans h1 this) hb
        · rw [fitsB, List.all_eq_true] at hf
          have := hf (w.length - 1) (List.mem_range.2 (by omega))
          rw [decide_eq_true_eq, List.take_of_length_le (by omega)] at this; omega
theorem routs_eq (t : Fst) (w : List UInt8) (hw : w.length ≤ 281474976710656) : whittleref15_Outs t w = some (if fstB t = true then (if w.length ≤ 256 then (if fitsB t w = true then (outsL t w, 0) else ([], 2)) else ([], 2)) else ([], 1)) := by
  unfold whittleref15_Outs
  rw [grd_mk hw, right_eq, bnd, Option.bind_some]
  by_cases h : fstB t = true
  · have ht := (fstB_iff t).1 h
    have hS := ht.startsN
    rw [h, if_pos rfl, Bool.not_true, iteO_false]
    by_cases h2 : w.length ≤ 256
    · rw [decide_eq_false (by omega), iteO_false, if_pos h2]
      refine Exists.elim (iter_for (step := fun q : (List Tip) × Nat => whittleref15_Outs_b1 t w q.1 q.2) (fun s i => (s, i)) t.starts Tip.zero (fun p s => Gath s (p.map tp) ∧ s.length ≤ p.length) (fun r => r = if fitsB t w then (outsL t w, 0) else ([], 2)) ?_ ?_ (s0 := []) ⟨Gath.nil, by simp⟩) (fun r hr => by rw [hr.1, hr.2])
      · rintro k s hk ⟨hG, hl⟩
        left
        have hkl : (t.starts.take k).length = k := by rw [List.length_take]; omega
        refine ⟨_, by simp only [whittleref15_Outs_b1, lt_dec hk, iteO_true, with_eq s (nth t.starts k Tip.zero) (show s.length ≤ 1000000 by omega), bnd, Option.bind_some]; rfl, ?_, ?_⟩
        · rw [List.map_append, List.map_cons, List.map_nil]; exact hG.more (by omega) _
        · rw [List.length_append, List.length_singleton]
          split
          · omega
          · rw [List.length_append, List.length_singleton]; omega
      · rintro s ⟨hG, _⟩
        exact ⟨_, by simp only [whittleref15_Outs_b1, Int.lt_irrefl, decide_false, iteO_false, rtext_run ht w h2 s hG]; rfl, rfl⟩
    · rw [decide_eq_true (by omega), iteO_true, if_neg h2]
  · simp only [Bool.not_eq_true] at h
    rw [h]; rfl
theorem rcheck_eq (t : Fst) : whittleref15_Check t = some (errB (fstB t)) := by
  unfold whittleref15_Check
  rw [right_eq, bnd, Option.bind_some]
  cases fstB t <;> rfl
theorem rhas_eq (t : Fst) (w o : List UInt8) (hw : w.length ≤ 281474976710656) (ho : o.length ≤ 281474976710656) :
    whittleref15_Has t w o = some (if fstB t = true then (if w.length ≤ 256 then (if fitsB t w = true then (decide (o ∈ outsL t w), 0) else (false, 2)) else (false, 2)) else (false, 1)) := by
  unfold whittleref15_Has
  rw [grd_mk hw, grd_mk ho, routs_eq t w hw, bnd, Option.bind_some]
  split
  · split
    · split
      · rw [decide_eq_false (by simp), iteO_false]
        generalize outsL t w = l
        refine Exists.elim (iter_for (step := fun q : Nat => whittleref15_Has_b1 (l, 0) o q) (fun (_ : Unit) k => k) l [] (fun p _ => o ∉ p) (fun r => r = (decide (o ∈ l), 0)) ?_ ?_ (s0 := ()) (by simp)) (fun r hr => by rw [hr.1, hr.2])
        · intro k s hk hI
          by_cases he : nth l k [] = o
          · right
            refine ⟨(true, 0), by simp only [whittleref15_Has_b1, lt_dec hk, iteO_true, decide_eq_true he]; rfl, ?_⟩
            have := nth_mem' hk []; rw [he] at this; simp [this]
          · left
            refine ⟨(), by simp only [whittleref15_Has_b1, lt_dec hk, iteO_true, decide_eq_false he, iteO_false]; rfl, ?_⟩
            rw [List.mem_append, List.mem_singleton]
            rintro (h | h)
            · exact hI h
            · exact he h.symm
        · intro s hI
          exact ⟨(false, 0), by simp only [whittleref15_Has_b1, Int.lt_irrefl, decide_false, iteO_false]; rfl, by simp [hI]⟩
      · rfl
    · rfl
  · rfl
theorem fstOuts_j (t : Fst) (w o : List UInt8) (hw : w.length ≤ 281474976710656) (ho : o.length ≤ 281474976710656) : whittlelaw15_FstOuts_j1 t w o = some true := by
  unfold whittlelaw15_FstOuts_j1
  simp only [outs_eq t w hw, routs_eq t w hw, has_eq t w o hw ho, rhas_eq t w o hw ho, awake_eq, fst_Check_eq, rcheck_eq, texts_refl, bnd, Option.bind_some, decide_true, iteO_true, beq_self_eq_true]
theorem fstOuts_eq (t : Fst) (w o : List UInt8) (h1 : t.starts.length ≤ 281474976710656) (h2 : t.ends.length ≤ 281474976710656) (h3 : t.arcs.length ≤ 281474976710656) (hw : w.length ≤ 281474976710656) (ho : o.length ≤ 281474976710656) : whittlelaw15_FstOuts t w o = some true := by
  obtain ⟨b, hb, hbt⟩ := few_eq t h1 h2 h3
  unfold whittlelaw15_FstOuts
  rw [grd_mk hw, grd_mk ho, hb, bnd, Option.bind_some]
  have hit : ∀ (c : Bool) (x y : Option Bool), x = some true → y = some true → iteO c x y = some true := fun c x y hx hy => by cases c; exact hy; exact hx
  have hj := fstOuts_j t w o hw ho
  refine hit _ _ _ rfl (hit _ _ _ (hit _ _ _ rfl (hit _ _ _ rfl (hit _ _ _ rfl hj))) (hit _ _ _ rfl (hit _ _ _ rfl hj)))
end Go.Proofs.Ytpijipnmfkehcaa
