/- What the program says of a transducer. Plain lemmas, no condition. -/
import Derived.Test.YtpijipnmfkehcaaF4
import Derived.Test.YtpijipnmfkehcaaOnce
import Derived.Test.YtpijipnmfkehcaaFMp
set_option linter.unusedVariables false
set_option linter.unusedSimpArgs false
namespace Go.Proofs.Ytpijipnmfkehcaa
open Go Go.E
set_option maxRecDepth 100000

/-! ### Right, or not -/
def tipB (n : Int) (p : Tip) : Bool := decide (0 ≤ p.state) && decide (p.state < n) && decide ((p.out.length : Int) ≤ 1024)
def tipsB (l : List Tip) (n : Int) : Bool := decide ((l.length : Int) ≤ 1024) && l.all (tipB n)
def arcB (n : Int) (a : Arc) : Bool := decide (0 ≤ a.frm) && decide (a.frm < n) && decide (0 ≤ a.to) && decide (a.to < n) && decide (a.set ≠ BSet.zero) && decide ((a.out.length : Int) ≤ 1024)
def fstB (t : Fst) : Bool := decide (0 ≤ t.states) && decide (t.states ≤ 1024) && decide ((t.arcs.length : Int) ≤ 16384) && tipsB t.starts t.states && tipsB t.ends t.states && t.arcs.all (arcB t.states)
theorem fst_state_eq (s n : Int) : fst_state s n = some (decide (0 ≤ s) && decide (s < n)) := by
  unfold fst_state
  by_cases h : 0 ≤ s <;> simp [h]
theorem lt_dec {k n : Nat} (h : k < n) : decide (((k : Nat) : Int) < ((n : Nat) : Int)) = true := decide_eq_true (by omega)
theorem rightTips_eq (l : List Tip) (n : Int) : fst_rightTips l n = some (tipsB l n) := by
  unfold fst_rightTips tipsB
  by_cases h : (l.length : Int) ≤ 1024
  · rw [decide_eq_false (by omega), iteO_false, iter_all (y := true) (no := false) l Tip.zero (tipB n)]
    · rw [decide_eq_true h, Bool.true_and]; cases l.all (tipB n) <;> rfl
    · intro k hk hp
      simp only [tipB, Bool.and_eq_true, decide_eq_true_eq] at hp
      simp only [fst_rightTips_b1, lt_dec hk, iteO_true, fst_state_eq, bnd, Option.bind_some, hp.1.1, hp.1.2, decide_true, Bool.and_self, Bool.not_true, iteO_false, decide_eq_false (show ¬ (1024 : Int) < ((nth l k Tip.zero).out.length : Int) by omega)]; rfl
    · intro k hk hp
      simp only [fst_rightTips_b1, lt_dec hk, iteO_true, fst_state_eq, bnd, Option.bind_some]
      by_cases hc : (decide (0 ≤ (nth l k Tip.zero).state) && decide ((nth l k Tip.zero).state < n)) = true
      · rw [hc]
        simp only [tipB, hc, Bool.true_and, decide_eq_false_iff_not] at hp
        simp only [Bool.not_true, iteO_false, decide_eq_true (show (1024 : Int) < ((nth l k Tip.zero).out.length : Int) by omega), iteO_true]; rfl
      · simp only [Bool.not_eq_true] at hc
        rw [hc]; rfl
    · simp only [fst_rightTips_b1, Int.lt_irrefl, decide_false, iteO_false]; rfl
  · rw [decide_eq_true (by omega), iteO_true]; simp [h]
theorem fst_Check_eq (t : Fst) : fst_Check t = some (errB (fstB t)) := by
  unfold fst_Check
  by_cases h1 : t.states < 0
  · rw [decide_eq_true h1, iteO_true]; simp [fstB, errB, show ¬ 0 ≤ t.states by omega]
  rw [decide_eq_false h1, iteO_false]
  by_cases h2 : 1024 < t.states
  · rw [decide_eq_true h2, iteO_true]; simp [fstB, errB, show ¬ t.states ≤ 1024 by omega]
  rw [decide_eq_false h2, iteO_false]
  by_cases h3 : (16384 : Int) < (t.arcs.length : Int)
  · rw [decide_eq_true h3, iteO_true]; simp only [fstB, decide_eq_false (show ¬ (t.arcs.length : Int) ≤ 16384 by omega), Bool.and_false, Bool.false_and]; rfl
  rw [decide_eq_false h3, iteO_false, rightTips_eq, bnd, Option.bind_some]
  have e0 : fstB t = (tipsB t.starts t.states && tipsB t.ends t.states && t.arcs.all (arcB t.states)) := by
    simp only [fstB, decide_eq_true (show 0 ≤ t.states by omega), decide_eq_true (show t.states ≤ 1024 by omega), decide_eq_true (show (t.arcs.length : Int) ≤ 16384 by omega), Bool.true_and]
  rw [e0]
  cases h4 : tipsB t.starts t.states
  · rfl
  simp only [Bool.not_true, iteO_false, rightTips_eq, bnd, Option.bind_some]
  cases h5 : tipsB t.ends t.states
  · rfl
  simp only [Bool.not_true, iteO_false, Bool.and_self, Bool.true_and]
  rw [iter_all (y := 0) (no := 1) t.arcs Arc.zero (arcB t.states)]
  · rfl
  · intro k hk hp
    simp only [arcB, Bool.and_eq_true, decide_eq_true_eq] at hp
    obtain ⟨⟨⟨⟨⟨p1, p2⟩, p3⟩, p4⟩, p5⟩, p6⟩ := hp
    simp only [fst_Check_b1, lt_dec hk, iteO_true, fst_state_eq, bnd, Option.bind_some, p1, p2, p3, p4, p5, decide_true, decide_false, Bool.and_self, Bool.not_true, iteO_false, decide_eq_false (show ¬ (1024 : Int) < ((nth t.arcs k Arc.zero).out.length : Int) by omega)]; rfl
  · intro k hk hp
    simp only [fst_Check_b1, lt_dec hk, iteO_true, fst_state_eq, bnd, Option.bind_some]
    cases hc : (decide (0 ≤ (nth t.arcs k Arc.zero).frm) && decide ((nth t.arcs k Arc.zero).frm < t.states))
    · rfl
    cases hd : (decide (0 ≤ (nth t.arcs k Arc.zero).to) && decide ((nth t.arcs k Arc.zero).to < t.states))
    · rfl
    simp only [Bool.not_true, iteO_false]
    by_cases he : (nth t.arcs k Arc.zero).set = BSet.zero
    · rw [decide_eq_true he]; rfl
    rw [decide_eq_false he, iteO_false]
    have hd' : (decide (0 ≤ (nth t.arcs k Arc.zero).frm) && decide ((nth t.arcs k Arc.zero).frm < t.states) && decide (0 ≤ (nth t.arcs k Arc.zero).to) && decide ((nth t.arcs k Arc.zero).to < t.states)) = true := by rw [Bool.and_assoc, hc, hd]; rfl
    simp only [arcB, hd', Bool.true_and, ne_eq, he, not_false_eq_true, decide_true, decide_eq_false_iff_not] at hp
    rw [decide_eq_true (by omega)]; rfl
  · simp only [fst_Check_b1, Int.lt_irrefl, decide_false, iteO_false]; rfl

theorem errB_ne {b : Bool} : decide (errB b ≠ 0) = !b := by cases b <;> rfl

/-! ### One byte more -/
def outOf (p : FPair) (a : Arc) (b : UInt8) : List UInt8 := if a.copy then (p.out ++ a.out) ++ [b] else p.out ++ a.out
def aftA (g : List Arc) (p : FPair) (b : UInt8) : List FPair := (g.filter fun a => a.set.has b.toNat).map fun a => ⟨a.to, outOf p a b⟩
def aftP (t : Fst) (S : List FPair) (b : UInt8) : List FPair := S.flatMap fun p => aftA (t.arcs.filter fun a => decide (a.frm = p.state)) p b
def tp (x : Tip) : FPair := ⟨x.state, x.out⟩
def pairsL (t : Fst) (w : List UInt8) : List FPair := w.foldl (aftP t) (t.starts.map tp)
def fitsB (t : Fst) (w : List UInt8) : Bool := (List.range w.length).all fun k => decide (card (pairsL t (w.take (k + 1))) ≤ 4096)
def endT (t : Fst) (S : List FPair) : List (List UInt8) := S.flatMap fun p => ((t.ends.filter fun e => decide (e.state = p.state)).map Tip.out).map fun o => p.out ++ o
def outsL (t : Fst) (w : List UInt8) : List (List UInt8) := onceL [] Lib.compareBytes (endT t (pairsL t w))
theorem mem_aftA {g : List Arc} {p q : FPair} {b : UInt8} : q ∈ aftA g p b ↔ ∃ a ∈ g, a.set.has b.toNat = true ∧ q = ⟨a.to, outOf p a b⟩ := by
  simp only [aftA, List.mem_map, List.mem_filter]
  constructor
  · rintro ⟨a, ⟨h1, h2⟩, h3⟩; exact ⟨a, h1, h2, h3.symm⟩
  · rintro ⟨a, h1, h2, h3⟩; exact ⟨a, ⟨h1, h2⟩, h3.symm⟩
theorem mem_aftP {t : Fst} {S : List FPair} {b : UInt8} {q : FPair} : q ∈ aftP t S b ↔ ∃ p ∈ S, ∃ a ∈ t.arcs, a.frm = p.state ∧ a.set.has b.toNat = true ∧ q = ⟨a.to, outOf p a b⟩ := by
  simp only [aftP, List.mem_flatMap, mem_aftA, List.mem_filter, decide_eq_true_eq]
  constructor
  · rintro ⟨p, h1, a, ⟨h2, h3⟩, h4, h5⟩; exact ⟨p, h1, a, h2, h3, h4, h5⟩
  · rintro ⟨p, h1, a, h2, h3, h4, h5⟩; exact ⟨p, h1, a, ⟨h2, h3⟩, h4, h5⟩
theorem aftA_snoc (g : List Arc) (a : Arc) (p : FPair) (b : UInt8) : aftA (g ++ [a]) p b = aftA g p b ++ (if a.set.has b.toNat then [⟨a.to, outOf p a b⟩] else []) := by
  rw [aftA, List.filter_append, List.map_append]
  cases h : a.set.has b.toNat <;> simp [aftA, h]
theorem b2_step (x0 : List (List Arc)) (z : FPair × Unit) (b : UInt8) (S : List FPair) (hS : card S ≤ 4096) (hz : z.1.out.length ≤ 100000000) (hg : ∀ a ∈ nth x0 z.1.state.toNat [], a.out.length ≤ 1024) :
    iter (fun q : (FM FPair Unit) × Nat => fst_step_b2 x0 z b q.1 q.2) (FM.ofL S, 0) =
      some (if card (S ++ aftA (nth x0 z.1.state.toNat []) z.1 b) ≤ 4096 then .inl (FM.ofL (S ++ aftA (nth x0 z.1.state.toNat []) z.1 b)) else .inr (FM.emp, false)) := by
  generalize hgd : nth x0 z.1.state.toNat ([] : List Arc) = g at hg
  refine Exists.elim (iter_run (step := fun q : (FM FPair Unit) × Nat => fst_step_b2 x0 z b q.1 q.2)
    (fun q => q.2 ≤ g.length ∧ q.1 = FM.ofL (S ++ aftA (g.take q.2) z.1 b) ∧ card (S ++ aftA (g.take q.2) z.1 b) ≤ 4096)
    (fun r => r = if card (S ++ aftA g z.1 b) ≤ 4096 then .inl (FM.ofL (S ++ aftA g z.1 b)) else .inr (FM.emp, false)) (fun q => g.length - q.2) ?_ (FM.ofL S, 0) ⟨Nat.zero_le _, by simp [aftA], by simpa [aftA] using hS⟩) (fun r hr => by rw [hr.1, hr.2])
  rintro ⟨m, k⟩ ⟨hk, hm, hc⟩
  simp only at hk hm hc
  subst hm
  by_cases hlt : k < g.length
  · have hmem : nth g k Arc.zero ∈ g := nth_mem' hlt _
    have ho := hg _ hmem
    have hsn : aftA (g.take (k + 1)) z.1 b = aftA (g.take k) z.1 b ++ (if (nth g k Arc.zero).set.has b.toNat then [⟨(nth g k Arc.zero).to, outOf z.1 (nth g k Arc.zero) b⟩] else []) := by rw [take_snoc g hlt Arc.zero, aftA_snoc]
    cases hh : (nth g k Arc.zero).set.has b.toNat
    · left
      rw [hh] at hsn
      refine ⟨(FM.ofL (S ++ aftA (g.take k) z.1 b), k + 1), ?_, ⟨by simp only; omega, by simp only [hsn]; simp, by simp only [hsn]; simpa using hc⟩, by simp only; omega⟩
      simp only [fst_step_b2, hgd, lt_dec hlt, iteO_true, hh, Bool.not_false]; rfl
    · rw [hh] at hsn
      simp only [if_true] at hsn
      have hout : fst_step_b2 x0 z b (FM.ofL (S ++ aftA (g.take k) z.1 b)) k = fst_step_j2 (FM.ofL (S ++ aftA (g.take k) z.1 b)) x0 z k (outOf z.1 (nth g k Arc.zero) b) := by
        simp only [fst_step_b2, hgd, lt_dec hlt, iteO_true, hh, Bool.not_true, iteO_false]
        rw [grd_mk (by omega)]
        unfold outOf
        cases (nth g k Arc.zero).copy
        · simp
        · simp only [iteO_true, if_true]
          rw [grd_mk (by simp only [List.length_append, List.length_singleton]; omega)]
      have hput : FM.put (FM.ofL (S ++ aftA (g.take k) z.1 b)) (⟨(nth g k Arc.zero).to, outOf z.1 (nth g k Arc.zero) b⟩ : FPair) () = FM.ofL (S ++ aftA (g.take (k + 1)) z.1 b) := by rw [← FM.ofL_snoc, hsn, List.append_assoc]
      simp only [hout, fst_step_j2, hgd, hput]
      by_cases hbig : card (S ++ aftA (g.take (k + 1)) z.1 b) ≤ 4096
      · left
        refine ⟨(FM.ofL (S ++ aftA (g.take (k + 1)) z.1 b), k + 1), ?_, ⟨by simp only; omega, rfl, hbig⟩, by simp only; omega⟩
        rw [decide_eq_false (by unfold card at hbig; omega), iteO_false]; rfl
      · right
        refine ⟨.inr (FM.emp, false), ?_, ?_⟩
        · rw [decide_eq_true (by unfold card at hbig; omega), iteO_true]; rfl
        · rw [if_neg]
          have : card (S ++ aftA (g.take (k + 1)) z.1 b) ≤ card (S ++ aftA g z.1 b) := card_mono fun x hx => by
            rw [List.mem_append] at *
            refine hx.imp id fun hx => ?_
            rw [mem_aftA] at *
            obtain ⟨a, h1, h2⟩ := hx
            exact ⟨a, List.mem_of_mem_take h1, h2⟩
          omega
  · right
    have e : g.take k = g := List.take_of_length_le (by omega)
    rw [e] at hc ⊢
    rw [if_pos hc]
    refine ⟨_, ?_, rfl⟩
    simp only [fst_step_b2, hgd, decide_eq_false (show ¬ ((k : Nat) : Int) < ((g.length : Nat) : Int) by omega), iteO_false]; rfl
def aftG (x0 : List (List Arc)) (S : List FPair) (b : UInt8) : List FPair := S.flatMap fun p => aftA (nth x0 p.state.toNat []) p b
theorem step_run (x0 : List (List Arc)) (b : UInt8) (hg : ∀ i, ∀ a ∈ nth x0 i [], a.out.length ≤ 1024) : ∀ (q : List (FPair × Unit)) (T : List FPair), (∀ z ∈ q, (0 ≤ z.1.state ∧ z.1.state < (x0.length : Int)) ∧ z.1.out.length ≤ 100000000) → card T ≤ 4096 →
    runL (fun (q : (FM FPair Unit)) (oE : Option (FPair × Unit)) => fst_step_b1 x0 b q oE) q (FM.ofL T) = some (if card (T ++ aftG x0 (q.map Prod.fst) b) ≤ 4096 then (FM.ofL (T ++ aftG x0 (q.map Prod.fst) b), true) else (FM.emp, false))
  | [], T, _, hT => by
    simp only [runL, fst_step_b1, optE, fin_some, aftG, List.map_nil, List.flatMap_nil, List.append_nil, if_pos hT]
  | z :: q, T, hq, hT => by
    have hz := hq z (List.mem_cons_self ..)
    have e : T ++ aftG x0 ((z :: q).map Prod.fst) b = (T ++ aftA (nth x0 z.1.state.toNat []) z.1 b) ++ aftG x0 (q.map Prod.fst) b := by simp [aftG]
    have hst : fst_step_b1 x0 b (FM.ofL T) (some z) = some (if card (T ++ aftA (nth x0 z.1.state.toNat []) z.1 b) ≤ 4096 then .inl (FM.ofL (T ++ aftA (nth x0 z.1.state.toNat []) z.1 b)) else .inr (FM.emp, false)) := by
      simp only [fst_step_b1, optE]
      rw [grd_mk hz.1, b2_step x0 z b T hT hz.2 (hg _)]
    simp only [runL, hst]
    by_cases hc : card (T ++ aftA (nth x0 z.1.state.toNat []) z.1 b) ≤ 4096
    · rw [if_pos hc]
      simp only
      rw [step_run x0 b hg q _ (fun y hy => hq y (List.mem_cons_of_mem _ hy)) hc, e]
    · rw [if_neg hc]
      simp only
      rw [if_neg]
      rw [e]
      have := card_mono (S := T ++ aftA (nth x0 z.1.state.toNat []) z.1 b) (T := (T ++ aftA (nth x0 z.1.state.toNat []) z.1 b) ++ aftG x0 (q.map Prod.fst) b) (fun x hx => List.mem_append_left _ hx)
      omega
theorem step_eq (x0 : List (List Arc)) (b : UInt8) (S : List FPair) (hg : ∀ i, ∀ a ∈ nth x0 i [], a.out.length ≤ 1024) (hS : ∀ p ∈ S, (0 ≤ p.state ∧ p.state < (x0.length : Int)) ∧ p.out.length ≤ 100000000) :
    fst_step x0 (FM.ofL S) b = some (if card (aftG x0 S b) ≤ 4096 then (FM.ofL (aftG x0 S b), true) else (FM.emp, false)) := by
  obtain ⟨q0, hq0⟩ := Rep.ofL S
  unfold fst_step
  refine allP_i q0 hq0 fun q hq => ?_
  have h1 := (Rep.of_ofL hq).1
  have := step_run x0 b hg q [] (fun z hz => hS z.1 ((h1 z).1 hz)) (by decide)
  have hcg : ∀ x, x ∈ [] ++ aftG x0 (q.map Prod.fst) b ↔ x ∈ aftG x0 S b := fun x => by
    simp only [aftG, List.nil_append, List.mem_flatMap, List.mem_map]
    constructor
    · rintro ⟨p, ⟨z, hz, rfl⟩, h⟩; exact ⟨z.1, (h1 z).1 hz, h⟩
    · rintro ⟨p, hp, h⟩; exact ⟨p, ⟨(p, ()), (h1 (p, ())).2 hp, rfl⟩, h⟩
  rw [card_congr hcg, FM.ofL_congr hcg] at this
  exact this
end Go.Proofs.Ytpijipnmfkehcaa
