/- What the program's Outs gives. Plain lemmas, no condition. -/
import Derived.Test.YtpijipnmfkehcaaFstP
set_option linter.unusedVariables false
set_option linter.unusedSimpArgs false
namespace Go.Proofs.Ytpijipnmfkehcaa
open Go Go.E
set_option maxRecDepth 100000

theorem tipB_ok {n : Int} {p : Tip} (h : tipB n p = true) : (0 ≤ p.state ∧ p.state < n) ∧ p.out.length ≤ 1024 := by
  simp only [tipB, Bool.and_eq_true, decide_eq_true_eq] at h; exact ⟨h.1, by omega⟩
theorem tipsB_ok {n : Int} {l : List Tip} (h : tipsB l n = true) : l.length ≤ 1024 ∧ ∀ p ∈ l, (0 ≤ p.state ∧ p.state < n) ∧ p.out.length ≤ 1024 := by
  simp only [tipsB, Bool.and_eq_true, decide_eq_true_eq, List.all_eq_true] at h
  exact ⟨by omega, fun p hp => tipB_ok (h.2 p hp)⟩
theorem arcB_ok {n : Int} {a : Arc} (h : arcB n a = true) : (0 ≤ a.frm ∧ a.frm < n) ∧ (0 ≤ a.to ∧ a.to < n) ∧ a.set ≠ BSet.zero ∧ a.out.length ≤ 1024 := by
  simp only [arcB, Bool.and_eq_true, decide_eq_true_eq] at h
  obtain ⟨⟨⟨⟨⟨p1, p2⟩, p3⟩, p4⟩, p5⟩, p6⟩ := h
  exact ⟨⟨p1, p2⟩, ⟨p3, p4⟩, p5, by omega⟩
structure FstOk (t : Fst) : Prop where
  st0 : 0 ≤ t.states
  st1 : t.states ≤ 1024
  arcsN : t.arcs.length ≤ 16384
  startsN : t.starts.length ≤ 1024
  endsN : t.ends.length ≤ 1024
  starts : ∀ p ∈ t.starts, (0 ≤ p.state ∧ p.state < t.states) ∧ p.out.length ≤ 1024
  ends : ∀ p ∈ t.ends, (0 ≤ p.state ∧ p.state < t.states) ∧ p.out.length ≤ 1024
  arcs : ∀ a ∈ t.arcs, (0 ≤ a.frm ∧ a.frm < t.states) ∧ (0 ≤ a.to ∧ a.to < t.states) ∧ a.set ≠ BSet.zero ∧ a.out.length ≤ 1024
theorem fstB_iff (t : Fst) : fstB t = true ↔ FstOk t := by
  constructor
  · intro h
    simp only [fstB, Bool.and_eq_true, decide_eq_true_eq, List.all_eq_true] at h
    obtain ⟨⟨⟨⟨⟨h1, h2⟩, h3⟩, h4⟩, h5⟩, h6⟩ := h
    exact ⟨h1, h2, by omega, (tipsB_ok h4).1, (tipsB_ok h5).1, (tipsB_ok h4).2, (tipsB_ok h5).2, fun a ha => arcB_ok (h6 a ha)⟩
  · rintro ⟨h1, h2, h3, h4, h5, h6, h7, h8⟩
    have hT : ∀ l : List Tip, l.length ≤ 1024 → (∀ p ∈ l, (0 ≤ p.state ∧ p.state < t.states) ∧ p.out.length ≤ 1024) → tipsB l t.states = true := fun l hl hp => by
      simp only [tipsB, Bool.and_eq_true, decide_eq_true_eq, List.all_eq_true]
      refine ⟨by omega, fun p hq => ?_⟩
      have := hp p hq
      simp only [tipB, Bool.and_eq_true, decide_eq_true_eq]; omega
    simp only [fstB, Bool.and_eq_true, decide_eq_true_eq, List.all_eq_true]
    refine ⟨⟨⟨⟨⟨h1, h2⟩, by omega⟩, hT _ h4 h6⟩, hT _ h5 h7⟩, fun a ha => ?_⟩
    obtain ⟨p1, p2, p3, p4⟩ := h8 a ha
    simp only [arcB, Bool.and_eq_true, decide_eq_true_eq]
    exact ⟨⟨⟨⟨p1, p2.1⟩, p2.2⟩, p3⟩, by omega⟩

theorem pairsL_snoc (t : Fst) (w : List UInt8) (b : UInt8) : pairsL t (w ++ [b]) = aftP t (pairsL t w) b := by simp [pairsL]
theorem outOf_len (p : FPair) (a : Arc) (b : UInt8) : (outOf p a b).length ≤ p.out.length + a.out.length + 1 := by
  unfold outOf; split <;> simp only [List.length_append, List.length_singleton] <;> omega
theorem pairs_ok {t : Fst} (ht : FstOk t) (w : List UInt8) : ∀ p ∈ pairsL t w, (0 ≤ p.state ∧ p.state < t.states) ∧ p.out.length ≤ 1024 + 1025 * w.length := by
  induction w using rev_ind with
  | h0 =>
    intro p hp
    obtain ⟨x, hx, rfl⟩ := List.mem_map.1 hp
    have := ht.starts x hx
    exact ⟨this.1, by have := this.2; simp only [tp, List.length_nil]; omega⟩
  | h1 w b ih =>
    intro q hq
    rw [pairsL_snoc, mem_aftP] at hq
    obtain ⟨p, hp, a, ha, _, _, rfl⟩ := hq
    have h1 := ht.arcs a ha
    have h2 := (ih p hp).2
    have h3 := outOf_len p a b
    refine ⟨h1.2.1, ?_⟩
    rw [List.length_append, List.length_singleton]
    simp only; omega

theorem b6_run (l229 : List (List (List UInt8))) (z : FPair × Unit) (l : List (List UInt8)) (hz : z.1.out.length ≤ 100000000) (hes : ∀ o ∈ nth l229 z.1.state.toNat [], o.length ≤ 1024) (hl : l.length + (nth l229 z.1.state.toNat []).length ≤ 8000000000) :
    iter (fun q : (List (List UInt8)) × Nat => fst_Outs_b6 l229 z q.1 q.2) (l, 0) = some (.inl (l ++ (nth l229 z.1.state.toNat []).map fun o => z.1.out ++ o)) := by
  generalize hgd : nth l229 z.1.state.toNat ([] : List (List UInt8)) = es at hes hl
  have := iter_fold (step := fun q : (List (List UInt8)) × Nat => fst_Outs_b6 l229 z q.1 q.2) (r := .inl (l ++ es.map fun o => z.1.out ++ o)) es [] (fun k => l ++ (es.take k).map fun o => z.1.out ++ o) ?_ ?_
  · simpa using this
  · intro k hk
    have ho := hes _ (nth_mem' hk [])
    simp only [fst_Outs_b6, hgd, lt_dec hk, iteO_true]
    rw [grd_mk (by omega), grd_mk (by simp only [List.length_append, List.length_map, List.length_take, List.length_singleton]; omega), take_snoc es hk []]
    simp [nxt]
  · simp only [fst_Outs_b6, hgd, Int.lt_irrefl, decide_false, iteO_false, List.take_length]; rfl
def endG (l229 : List (List (List UInt8))) (q : List (FPair × Unit)) : List (List UInt8) := q.flatMap fun z => (nth l229 z.1.state.toNat []).map fun o => z.1.out ++ o
theorem b5_run (l229 : List (List (List UInt8))) (he : ∀ i, (nth l229 i []).length ≤ 1024 ∧ ∀ o ∈ nth l229 i [], o.length ≤ 1024) : ∀ (q : List (FPair × Unit)) (l : List (List UInt8)), (∀ z ∈ q, (0 ≤ z.1.state ∧ z.1.state < (l229.length : Int)) ∧ z.1.out.length ≤ 100000000) → l.length + q.length * 1024 ≤ 8000000000 →
    runL (fun (q : (List (List UInt8))) (oE : Option (FPair × Unit)) => fst_Outs_b5 l229 q oE) q l = some (onceL [] Lib.compareBytes (l ++ endG l229 q), 0)
  | [], l, _, hl => by
    simp only [runL, fst_Outs_b5, optE, onceS_eq (l := l) (by simp at hl; omega), bnd, Option.bind_some, fin_some, endG, List.flatMap_nil, List.append_nil]
  | z :: q, l, hq, hl => by
    have hz := hq z (List.mem_cons_self ..)
    have h1 := he z.1.state.toNat
    simp only [List.length_cons] at hl
    have hst : fst_Outs_b5 l229 l (some z) = some (.inl (l ++ (nth l229 z.1.state.toNat []).map fun o => z.1.out ++ o)) := by
      simp only [fst_Outs_b5, optE]
      rw [grd_mk hz.1, b6_run l229 z l hz.2 h1.2 (by omega)]
    simp only [runL, hst]
    rw [b5_run l229 he q _ (fun y hy => hq y (List.mem_cons_of_mem _ hy)) (by rw [List.length_append, List.length_map]; omega)]
    simp [endG]
theorem ends_run {t : Fst} (ht : FstOk t) (S : List FPair) (hS : ∀ p ∈ S, (0 ≤ p.state ∧ p.state < t.states) ∧ p.out.length ≤ 100000000) (hc : card S ≤ 4096) :
    iter (fun q : (List (List (List UInt8))) × Nat => fst_Outs_b4 t (FM.ofL S) q.1 q.2) (List.replicate t.states.toNat [], 0) = some (onceL [] Lib.compareBytes (endT t S), 0) := by
  have ht0 := ht.st0
  refine Exists.elim (iter_run (step := fun q : (List (List (List UInt8))) × Nat => fst_Outs_b4 t (FM.ofL S) q.1 q.2) (fun q => q.2 ≤ t.ends.length ∧ Grp Tip.state Tip.out t.states.toNat q.1 (t.ends.take q.2))
    (fun r => r = (onceL [] Lib.compareBytes (endT t S), 0)) (fun q => t.ends.length - q.2) ?_ (List.replicate t.states.toNat [], 0) ⟨Nat.zero_le _, by simpa using Grp.nil Tip.state Tip.out t.states.toNat⟩) (fun r hr => by rw [hr.1, hr.2])
  rintro ⟨l, k⟩ ⟨hk, hG⟩
  simp only at hk hG
  have hlen := hG.len
  by_cases hlt : k < t.ends.length
  · left
    have hm := ht.ends _ (nth_mem' hlt Tip.zero)
    have hrow : (nth l (nth t.ends k Tip.zero).state.toNat []).length ≤ 1024 := by
      rw [hG.at hm.1.1 (by omega), List.length_map]
      have := List.length_filter_le (fun x : Tip => decide (x.state = (nth t.ends k Tip.zero).state)) (t.ends.take k)
      rw [List.length_take] at this
      have := ht.endsN; omega
    refine ⟨(l.set (nth t.ends k Tip.zero).state.toNat (nth l (nth t.ends k Tip.zero).state.toNat [] ++ [(nth t.ends k Tip.zero).out]), k + 1), ?_, ⟨by simp only; omega, ?_⟩, by simp only; omega⟩
    · simp only [fst_Outs_b4, lt_dec hlt, iteO_true]
      rw [grd_mk (by omega), grd_mk (by rw [List.length_singleton]; omega), grd_mk (by omega)]
      rfl
    · simp only
      rw [take_snoc t.ends hlt Tip.zero]
      exact hG.snoc hm.1.1 (by omega)
  · right
    have e : t.ends.take k = t.ends := List.take_of_length_le (by omega)
    rw [e] at hG
    refine ⟨_, ?_, rfl⟩
    simp only [fst_Outs_b4, decide_eq_false (show ¬ ((k : Nat) : Int) < ((t.ends.length : Nat) : Int) by omega), iteO_false]
    have hrow : ∀ i, (nth l i []).length ≤ 1024 ∧ ∀ o ∈ nth l i [], o.length ≤ 1024 := fun i => by
      by_cases hi : i < t.states.toNat
      · rw [hG.row i hi, List.length_map]
        refine ⟨Nat.le_trans (List.length_filter_le _ _) ht.endsN, fun o ho => ?_⟩
        obtain ⟨x, hx, rfl⟩ := List.mem_map.1 ho
        exact (ht.ends x (List.mem_filter.1 hx).1).2
      · have : nth l i [] = [] := by simp [nth, List.getD, show l.length ≤ i by omega]
        rw [this]; simp
    obtain ⟨q0, hq0⟩ := Rep.ofL S
    rw [allP_i (r := (onceL [] Lib.compareBytes (endT t S), 0)) q0 hq0 fun q hq => ?_]
    · rfl
    · obtain ⟨h1, h2⟩ := Rep.of_ofL hq
      rw [b5_run l hrow q [] (fun z hz => by have := hS z.1 ((h1 z).1 hz); exact ⟨⟨this.1.1, by omega⟩, this.2⟩) (by simp; omega)]
      congr 2
      refine onceL_congr cmpB_good fun x => ?_
      simp only [endG, endT, List.nil_append, List.mem_flatMap]
      constructor
      · rintro ⟨z, hz, h⟩
        have hzS := (h1 z).1 hz
        have := hS z.1 hzS
        rw [hG.at this.1.1 (by omega)] at h
        exact ⟨z.1, hzS, h⟩
      · rintro ⟨p, hp, h⟩
        have := hS p hp
        refine ⟨(p, ()), (h1 (p, ())).2 hp, ?_⟩
        rw [hG.at this.1.1 (by omega)]
        exact h
theorem aftG_eq {t : Fst} {l : List (List Arc)} (hG : Grp Arc.frm id t.states.toNat l t.arcs) (S : List FPair) (hS : ∀ p ∈ S, 0 ≤ p.state ∧ p.state < t.states) (b : UInt8) : aftG l S b = aftP t S b := by
  unfold aftG aftP
  rw [List.flatMap_def, List.flatMap_def]
  congr 1
  refine List.map_congr_left fun p hp => ?_
  have := hS p hp
  rw [hG.at this.1 (by omega), List.map_id]
theorem card_start {t : Fst} (ht : FstOk t) : card (t.starts.map tp) ≤ 4096 := by
  have := card_le (t.starts.map tp)
  rw [List.length_map] at this
  have := ht.startsN; omega
theorem text_run {t : Fst} (ht : FstOk t) (w : List UInt8) (hw : w.length ≤ 256) (l : List (List Arc)) (hG : Grp Arc.frm id t.states.toNat l t.arcs) :
    iter (fun q : (FM FPair Unit) × Nat => fst_Outs_b3 w l t q.1 q.2) (FM.ofL (t.starts.map tp), 0) = some (if fitsB t w then (outsL t w, 0) else ([], 2)) := by
  have ht0 := ht.st0
  have ht1 := ht.st1
  have hlen := hG.len
  have hrow : ∀ i, ∀ a ∈ nth l i [], a.out.length ≤ 1024 := fun i a ha => by
    by_cases hi : i < t.states.toNat
    · rw [hG.row i hi, List.map_id] at ha
      exact (ht.arcs a (List.mem_filter.1 ha).1).2.2.2
    · have : nth l i [] = [] := by simp [nth, List.getD, show l.length ≤ i by omega]
      rw [this] at ha; cases ha
  refine Exists.elim (iter_run (step := fun q : (FM FPair Unit) × Nat => fst_Outs_b3 w l t q.1 q.2) (fun q => q.2 ≤ w.length ∧ q.1 = FM.ofL (pairsL t (w.take q.2)) ∧ card (pairsL t (w.take q.2)) ≤ 4096 ∧ ∀ j, j < q.2 → card (pairsL t (w.take (j + 1))) ≤ 4096)
    (fun r => r = if fitsB t w then (outsL t w, 0) else ([], 2)) (fun q => w.length - q.2) ?_ (FM.ofL (t.starts.map tp), 0) ⟨Nat.zero_le _, rfl, card_start ht, fun j hj => by cases hj⟩) (fun r hr => by rw [hr.1, hr.2])
  rintro ⟨m, k⟩ ⟨hk, hm, hc, hf⟩
  simp only at hk hm hc hf
  subst hm
  have hok := pairs_ok ht (w.take k)
  have hlt' : (w.take k).length ≤ 256 := by rw [List.length_take]; omega
  by_cases hlt : k < w.length
  · have hstep := step_eq l (nth w k 0) (pairsL t (w.take k)) hrow (fun p hp => by have := hok p hp; exact ⟨⟨this.1.1, by omega⟩, by omega⟩)
    rw [aftG_eq hG _ (fun p hp => (hok p hp).1), ← pairsL_snoc, ← take_snoc w hlt 0] at hstep
    simp only [fst_Outs_b3, lt_dec hlt, iteO_true, hstep, bnd, Option.bind_some]
    by_cases hb : card (pairsL t (w.take (k + 1))) ≤ 4096
    · left
      rw [if_pos hb]
      refine ⟨(FM.ofL (pairsL t (w.take (k + 1))), k + 1), rfl, ⟨by simp only; omega, rfl, hb, fun j hj => ?_⟩, by simp only; omega⟩
      simp only at hj
      by_cases e : j = k
      · subst e; exact hb
      · exact hf j (by omega)
    · right
      rw [if_neg hb]
      refine ⟨([], 2), rfl, ?_⟩
      rw [if_neg]
      intro h
      rw [fitsB, List.all_eq_true] at h
      exact hb (by simpa using h k (List.mem_range.2 hlt))
  · right
    have e : w.take k = w := List.take_of_length_le (by omega)
    have hk' : k = w.length := by omega
    refine ⟨(outsL t w, 0), ?_, ?_⟩
    · simp only [fst_Outs_b3, decide_eq_false (show ¬ ((k : Nat) : Int) < ((w.length : Nat) : Int) by omega), iteO_false]
      rw [grd_mk (by omega), e, ends_run ht _ (fun p hp => by have := pairs_ok ht w p hp; exact ⟨this.1, by omega⟩) (by rw [e] at hc; exact hc)]
      rfl
    · rw [if_pos]
      rw [fitsB, List.all_eq_true]
      intro j hj
      simpa using hf j (by rw [hk']; exact List.mem_range.1 hj)
theorem starts_run (t : Fst) (w : List UInt8) (l : List (List Arc)) {r : List (List UInt8) × Int} (h : iter (fun q : (FM FPair Unit) × Nat => fst_Outs_b3 w l t q.1 q.2) (FM.ofL (t.starts.map tp), 0) = some r) :
    iter (fun q : (FM FPair Unit) × Nat => fst_Outs_b2 t w l q.1 q.2) (FM.emp, 0) = some r := by
  refine iter_fold (step := fun q : (FM FPair Unit) × Nat => fst_Outs_b2 t w l q.1 q.2) t.starts Tip.zero (fun k => FM.ofL ((t.starts.take k).map tp)) ?_ ?_
  · intro k hk
    simp only [fst_Outs_b2, lt_dec hk, iteO_true]
    rw [take_snoc t.starts hk Tip.zero, List.map_append, List.map_cons, List.map_nil, FM.ofL_snoc]
    rfl
  · simp only [fst_Outs_b2, Int.lt_irrefl, decide_false, iteO_false, List.take_length, h]; rfl
theorem arcs_run {t : Fst} (ht : FstOk t) (w : List UInt8) (hw : w.length ≤ 256) :
    iter (fun q : (List (List Arc)) × Nat => fst_Outs_b1 t w q.1 q.2) (List.replicate t.states.toNat [], 0) = some (if fitsB t w then (outsL t w, 0) else ([], 2)) := by
  have ht0 := ht.st0
  refine Exists.elim (iter_run (step := fun q : (List (List Arc)) × Nat => fst_Outs_b1 t w q.1 q.2) (fun q => q.2 ≤ t.arcs.length ∧ Grp Arc.frm id t.states.toNat q.1 (t.arcs.take q.2))
    (fun r => r = if fitsB t w then (outsL t w, 0) else ([], 2)) (fun q => t.arcs.length - q.2) ?_ (List.replicate t.states.toNat [], 0) ⟨Nat.zero_le _, by simpa using Grp.nil Arc.frm id t.states.toNat⟩) (fun r hr => by rw [hr.1, hr.2])
  rintro ⟨l, k⟩ ⟨hk, hG⟩
  simp only at hk hG
  have hlen := hG.len
  by_cases hlt : k < t.arcs.length
  · left
    have hm := ht.arcs _ (nth_mem' hlt Arc.zero)
    have hrow : (nth l (nth t.arcs k Arc.zero).frm.toNat []).length ≤ 16384 := by
      rw [hG.at hm.1.1 (by omega), List.length_map]
      have := List.length_filter_le (fun x : Arc => decide (x.frm = (nth t.arcs k Arc.zero).frm)) (t.arcs.take k)
      rw [List.length_take] at this
      have := ht.arcsN; omega
    refine ⟨(l.set (nth t.arcs k Arc.zero).frm.toNat (nth l (nth t.arcs k Arc.zero).frm.toNat [] ++ [nth t.arcs k Arc.zero]), k + 1), ?_, ⟨by simp only; omega, ?_⟩, by simp only; omega⟩
    · simp only [fst_Outs_b1, lt_dec hlt, iteO_true]
      rw [grd_mk (by omega), grd_mk (by rw [List.length_singleton]; omega), grd_mk (by omega)]
      rfl
    · simp only
      rw [take_snoc t.arcs hlt Arc.zero]
      exact hG.snoc hm.1.1 (by omega)
  · right
    have e : t.arcs.take k = t.arcs := List.take_of_length_le (by omega)
    rw [e] at hG
    refine ⟨_, ?_, rfl⟩
    simp only [fst_Outs_b1, decide_eq_false (show ¬ ((k : Nat) : Int) < ((t.arcs.length : Nat) : Int) by omega), iteO_false]
    rw [starts_run t w l (text_run ht w hw l hG)]
    rfl
/-- The program's answer. -/
theorem outs_eq (t : Fst) (w : List UInt8) (hw : w.length ≤ 281474976710656) : fst_Outs t w = some (if fstB t = true then (if w.length ≤ 256 then (if fitsB t w = true then (outsL t w, 0) else ([], 2)) else ([], 2)) else ([], 1)) := by
  unfold fst_Outs
  rw [grd_mk hw, fst_Check_eq, bnd, Option.bind_some, errB_ne]
  by_cases h : fstB t = true
  · have ht := (fstB_iff t).1 h
    have ht0 := ht.st0
    have ht1 := ht.st1
    rw [h, if_pos rfl, Bool.not_true, iteO_false]
    by_cases h2 : w.length ≤ 256
    · rw [decide_eq_false (by omega), iteO_false, if_pos h2, grd_mk (by omega), arcs_run ht w h2]
    · rw [decide_eq_true (by omega), iteO_true, if_neg h2]
  · simp only [Bool.not_eq_true] at h
    rw [h]; rfl
end Go.Proofs.Ytpijipnmfkehcaa
