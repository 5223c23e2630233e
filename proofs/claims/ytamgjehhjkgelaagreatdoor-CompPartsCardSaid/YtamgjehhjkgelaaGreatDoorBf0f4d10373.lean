/- Parts of a proof, one behind the other: what a machine reaches, functions decompiled, plain lemmas. Conditions stand with each lemma. -/
import Derived.Test.YtamgjehhjkgelaaGreatDoorB8c52fea6f4
import Derived.Test.YtamgjehhjkgelaaGreatDoorBb5dac1432b
import Derived.Test.YtamgjehhjkgelaaGreatDoorB8e7ebb4a68

set_option linter.unusedVariables false
set_option linter.unusedSimpArgs false
set_option linter.unusedSectionVars false
set_option maxRecDepth 100000

section
namespace Go.E
open Go
section
variable {K : Type} [DecidableEq K]
theorem len_of_sub : ∀ {l m : List K}, l.Nodup → (∀ x ∈ l, x ∈ m) → l.length ≤ m.length
  | [], m, _, _ => Nat.zero_le _
  | x :: l, m, hn, hs => by
    rw [List.nodup_cons] at hn
    have hx := hs x (List.mem_cons_self ..)
    have := len_of_sub (m := m.erase x) hn.2 fun y hy => by
      have h1 := hs y (List.mem_cons_of_mem _ hy)
      refine (List.mem_erase_of_ne ?_).2 h1
      intro e; subst e; exact hn.1 hy
    rw [List.length_erase_of_mem hx] at this
    have hp := List.length_pos_of_mem hx
    simp only [List.length_cons]; omega
def FM.ofL (S : List K) : FM K Unit := S.foldl (fun m k => m.put k ()) FM.emp
theorem FM.ofL_snoc (S : List K) (k : K) : FM.ofL (S ++ [k]) = (FM.ofL S).put k () := by simp [FM.ofL]
theorem FM.ofL_f (S : List K) (x : K) : (FM.ofL S).f x = if x ∈ S then some () else none := by
  have key : ∀ (S : List K) (m : FM K Unit), (S.foldl (fun m k => m.put k ()) m).f x = if x ∈ S then some () else m.f x := by
    intro S
    induction S with
    | nil => intro m; simp
    | cons y S ih =>
      intro m
      rw [List.foldl_cons, ih]
      by_cases h : x ∈ S
      · simp [h]
      · by_cases e : x = y
        · subst e; simp [FM.put]
        · simp [h, FM.put, e]
  rw [FM.ofL, key]; rfl
def card (S : List K) : Nat := (FM.ofL S).n
theorem rev_ind {p : List K → Prop} (h0 : p []) (h1 : ∀ l x, p l → p (l ++ [x])) (l : List K) : p l := by
  have : ∀ m : List K, p m.reverse := fun m => by
    induction m with
    | nil => exact h0
    | cons x m ih => rw [List.reverse_cons]; exact h1 _ _ ih
  simpa using this l.reverse
theorem FM.ofL_len (S : List K) : ∃ l : List K, l.Nodup ∧ (∀ x, x ∈ l ↔ x ∈ S) ∧ l.length = card S := by
  induction S using rev_ind with
  | h0 => exact ⟨[], List.nodup_nil, by simp, rfl⟩
  | h1 S k ih =>
    obtain ⟨l, h1, h2, h3⟩ := ih
    have hf := FM.ofL_f S k
    by_cases hk : k ∈ S
    · refine ⟨l, h1, fun x => ?_, ?_⟩
      · rw [h2, List.mem_append, List.mem_singleton]
        constructor
        · exact .inl
        · rintro (h | rfl)
          · exact h
          · exact hk
      · rw [h3, card, card, FM.ofL_snoc, FM.put]; simp [hf, hk]
    · refine ⟨l ++ [k], ?_, fun x => by rw [List.mem_append, List.mem_append, h2], ?_⟩
      · rw [List.nodup_append]
        exact ⟨h1, by simp, fun x hx y hy => by
          rw [List.mem_singleton] at hy; subst hy
          intro e; subst e; exact hk ((h2 _).1 hx)⟩
      · rw [List.length_append, h3, card, card, FM.ofL_snoc, FM.put]; simp [hf, hk]
theorem card_mono {S T : List K} (h : ∀ x ∈ S, x ∈ T) : card S ≤ card T := by
  obtain ⟨l, h1, h2, h3⟩ := FM.ofL_len S
  obtain ⟨m, _, h5, h6⟩ := FM.ofL_len T
  rw [← h3, ← h6]
  exact len_of_sub h1 fun x hx => (h5 x).2 (h x ((h2 x).1 hx))
theorem card_congr {S T : List K} (h : ∀ x, x ∈ S ↔ x ∈ T) : card S = card T := Nat.le_antisymm (card_mono fun x hx => (h x).1 hx) (card_mono fun x hx => (h x).2 hx)
theorem card_le (S : List K) : card S ≤ S.length := by
  obtain ⟨l, h1, h2, h3⟩ := FM.ofL_len S
  rw [← h3]; exact len_of_sub h1 fun x hx => (h2 x).1 hx
theorem FM.ofL_congr {S T : List K} (h : ∀ x, x ∈ S ↔ x ∈ T) : FM.ofL S = FM.ofL T := by
  have e1 : (FM.ofL S).f = (FM.ofL T).f := funext fun x => by rw [FM.ofL_f, FM.ofL_f]; simp only [h]
  have e2 : (FM.ofL S).n = (FM.ofL T).n := card_congr h
  cases hS : FM.ofL S; cases hT : FM.ofL T
  rw [hS] at e1 e2; rw [hT] at e1 e2
  simp only at e1 e2
  rw [e1, e2]
theorem Rep.of_ofL {S : List K} {q : List (K × Unit)} (h : Rep q (FM.ofL S)) : (∀ z, z ∈ q ↔ z.1 ∈ S) ∧ q.length = card S := by
  refine ⟨fun z => ?_, h.len⟩
  obtain ⟨k, v⟩ := z
  rw [h.mem, FM.ofL_f]
  by_cases hk : k ∈ S <;> simp [hk]
theorem Rep.ofL (S : List K) : ∃ q : List (K × Unit), Rep q (FM.ofL S) := by
  obtain ⟨l, h1, h2, h3⟩ := FM.ofL_len S
  refine ⟨l.map fun x => (x, ()), ⟨fun k v => ?_, by rw [List.length_map, h3]; rfl, ?_⟩⟩
  · rw [FM.ofL_f, List.mem_map]
    constructor
    · rintro ⟨x, hx, e⟩
      cases e
      rw [if_pos ((h2 _).1 hx)]
    · intro h
      split at h
      · rename_i hk; exact ⟨k, (h2 k).2 hk, rfl⟩
      · cases h
  · rw [List.map_map, show (Prod.fst ∘ fun x : K => (x, ())) = id from rfl, List.map_id]; exact h1
end
section
variable {β γ : Type}
structure Grp (key : β → Int) (val : β → γ) (n : Nat) (l : List (List γ)) (xs : List β) : Prop where
  len : l.length = n
  row : ∀ i, i < n → nth l i [] = (xs.filter fun x => decide (key x = (i : Int))).map val
theorem Grp.nil (key : β → Int) (val : β → γ) (n : Nat) : Grp key val n (List.replicate n []) [] := ⟨List.length_replicate .., fun i hi => by simp [nth, List.getD, List.getElem?_replicate, hi]⟩
theorem Grp.snoc {key : β → Int} {val : β → γ} {n : Nat} {l : List (List γ)} {xs : List β} (h : Grp key val n l xs) {x : β} (h0 : 0 ≤ key x) (h1 : key x < n) :
    Grp key val n (l.set (key x).toNat (nth l (key x).toNat [] ++ [val x])) (xs ++ [x]) := by
  refine ⟨by rw [List.length_set]; exact h.len, fun i hi => ?_⟩
  rw [List.filter_append, List.map_append, ← h.row i hi]
  by_cases e : i = (key x).toNat
  · subst e
    have : key x = ((key x).toNat : Int) := by omega
    have hl := h.len
    rw [show nth (l.set (key x).toNat (nth l (key x).toNat [] ++ [val x])) (key x).toNat [] = nth l (key x).toNat [] ++ [val x] from by simp [nth, List.getD, hl, hi]]
    simp [this.symm]
  · have hne : ¬ key x = (i : Int) := by omega
    rw [show nth (l.set (key x).toNat (nth l (key x).toNat [] ++ [val x])) i [] = nth l i [] from by simp [nth, List.getD, List.getElem?_set, Ne.symm e]]
    simp [hne]
theorem Grp.at {key : β → Int} {val : β → γ} {n : Nat} {l : List (List γ)} {xs : List β} (h : Grp key val n l xs) {s : Int} (h0 : 0 ≤ s) (h1 : s < n) : nth l s.toNat [] = (xs.filter fun x => decide (key x = s)).map val := by
  rw [h.row _ (by omega)]
  have : ((s.toNat : Nat) : Int) = s := by omega
  simp only [this]
theorem iter_all {α R : Type} {step : Nat → Option (Nat ⊕ R)} {y no : R} (l : List α) (d : α) (p : α → Bool) (hs : ∀ k, k < l.length → p (nth l k d) = true → step k = some (.inl (k + 1)))
    (hn : ∀ k, k < l.length → p (nth l k d) = false → step k = some (.inr no)) (hd : step l.length = some (.inr y)) : iter step 0 = some (if l.all p then y else no) := by
  have h := iter_any0 (step := step) (y := no) (no := y) (fun k => k) (fun k => !p (nth l k d)) l.length (fun k hk hp => hs k hk (by simpa using hp)) (fun k hk hp => hn k hk (by simpa using hp)) hd
  rw [h, range_any l d (fun x => !p x)]
  by_cases ha : l.all p = true
  · have : (l.any fun x => !p x) = false := by rw [List.any_eq_false]; intro x hx; have := (List.all_eq_true.1 ha) x hx; simp [this]
    rw [this, ha]; rfl
  · have : (l.any fun x => !p x) = true := by
      rw [Bool.not_eq_true, List.all_eq_false] at ha
      obtain ⟨x, hx, h⟩ := ha
      exact List.any_eq_true.2 ⟨x, hx, by simpa using h⟩
    rw [this]; simp only [cond_true]; rw [if_neg ha]
theorem iter_fold {α S R : Type} {step : S × Nat → Option ((S × Nat) ⊕ R)} {r : R} (l : List α) (d : α) (f : Nat → S) (hs : ∀ k, k < l.length → step (f k, k) = some (.inl (f (k + 1), k + 1))) (hd : step (f l.length, l.length) = some (.inr r)) :
    iter step (f 0, 0) = some r := iter_seq0 (fun k => (f k, k)) l.length hs hd
end
end Go.E
end

section
namespace Go.Proofs.YtamgjehhjkgelaaGreatDoor
open Go Go.E
def tipB (n : Int) (p : Tip) : Bool := decide (0 ≤ p.state) && decide (p.state < n) && decide ((p.out.length : Int) ≤ 1024)
def tipsB (l : List Tip) (n : Int) : Bool := decide ((l.length : Int) ≤ 1024) && l.all (tipB n)
def arcB (n : Int) (a : Arc) : Bool := decide (0 ≤ a.frm) && decide (a.frm < n) && decide (0 ≤ a.to) && decide (a.to < n) && decide (a.set ≠ BSet.zero) && decide ((a.out.length : Int) ≤ 1024)
def fstB (t : Fst) : Bool := decide (0 ≤ t.states) && decide (t.states ≤ 1024) && decide ((t.arcs.length : Int) ≤ 16384) && tipsB t.starts t.states && tipsB t.ends t.states && t.arcs.all (arcB t.states)
theorem Dq_ (s n : Int) : B2_ s n = some (decide (0 ≤ s) && decide (s < n)) := by
  unfold B2_
  by_cases h : 0 ≤ s <;> simp [h]
theorem rightTips_eq (l : List Tip) (n : Int) : A5_ l n = some (tipsB l n) := by
  unfold A5_ tipsB
  by_cases h : (l.length : Int) ≤ 1024
  · rw [decide_eq_false (by omega), iteO_false, iter_all (y := true) (no := false) l Tip.zero (tipB n)]
    · rw [decide_eq_true h, Bool.true_and]; cases l.all (tipB n) <;> rfl
    · intro k hk hp
      simp only [tipB, Bool.and_eq_true, decide_eq_true_eq] at hp
      simp only [Am_, lt_dec hk, iteO_true, Dq_, bnd, Option.bind_some, hp.1.1, hp.1.2, decide_true, Bool.and_self, Bool.not_true, iteO_false, decide_eq_false (show ¬ (1024 : Int) < ((nth l k Tip.zero).out.length : Int) by omega)]; rfl
    · intro k hk hp
      simp only [Am_, lt_dec hk, iteO_true, Dq_, bnd, Option.bind_some]
      by_cases hc : (decide (0 ≤ (nth l k Tip.zero).state) && decide ((nth l k Tip.zero).state < n)) = true
      · rw [hc]
        simp only [tipB, hc, Bool.true_and, decide_eq_false_iff_not] at hp
        simp only [Bool.not_true, iteO_false, decide_eq_true (show (1024 : Int) < ((nth l k Tip.zero).out.length : Int) by omega), iteO_true]; rfl
      · simp only [Bool.not_eq_true] at hc
        rw [hc]; rfl
    · simp only [Am_, Int.lt_irrefl, decide_false, iteO_false]; rfl
  · rw [decide_eq_true (by omega), iteO_true]; simp [h]
theorem Ga_ (t : Fst) : Bc_ t = some (errB (fstB t)) := by
  unfold Bc_
  by_cases h1 : t.states < 0
  · rw [decide_eq_true h1, iteO_true]; simp [fstB, errB, show ¬ 0 ≤ t.states by omega]
  rw [decide_eq_false h1, iteO_false]
  by_cases h2 : 1024 < t.states
  · rw [decide_eq_true h2, iteO_true]; simp [fstB, errB, show ¬ t.states ≤ 1024 by omega]
  rw [decide_eq_false h2, iteO_false]
  by_cases h3 : (16384 : Int) < (t.arcs.length : Int)
  · rw [decide_eq_true h3, iteO_true]; simp only [fstB, decide_eq_false (show ¬ (t.arcs.length : Int) ≤ 16384 by omega), Bool.and_false, Bool.false_and]; rfl
  rw [decide_eq_false h3, iteO_false, rightTips_eq, bnd, Option.bind_some]
  have e0 : fstB t = (tipsB t.starts t.states && tipsB t.ends t.states && t.arcs.all (arcB t.states)) := by
    simp only [fstB, decide_eq_true (show 0 ≤ t.states by omega), decide_eq_true (show t.states ≤ 1024 by omega), decide_eq_true (show (t.arcs.length : Int) ≤ 16384 by omega), Bool.true_and]
  rw [e0]
  cases h4 : tipsB t.starts t.states
  · rfl
  simp only [Bool.not_true, iteO_false, rightTips_eq, bnd, Option.bind_some]
  cases h5 : tipsB t.ends t.states
  · rfl
  simp only [Bool.not_true, iteO_false, Bool.and_self, Bool.true_and]
  rw [iter_all (y := 0) (no := 1) t.arcs Arc.zero (arcB t.states)]
  · rfl
  · intro k hk hp
    simp only [arcB, Bool.and_eq_true, decide_eq_true_eq] at hp
    obtain ⟨⟨⟨⟨⟨p1, p2⟩, p3⟩, p4⟩, p5⟩, p6⟩ := hp
    simp only [A4_, lt_dec hk, iteO_true, Dq_, bnd, Option.bind_some, p1, p2, p3, p4, p5, decide_true, decide_false, Bool.and_self, Bool.not_true, iteO_false, decide_eq_false (show ¬ (1024 : Int) < ((nth t.arcs k Arc.zero).out.length : Int) by omega)]; rfl
  · intro k hk hp
    simp only [A4_, lt_dec hk, iteO_true, Dq_, bnd, Option.bind_some]
    cases hc : (decide (0 ≤ (nth t.arcs k Arc.zero).frm) && decide ((nth t.arcs k Arc.zero).frm < t.states))
    · rfl
    cases hd : (decide (0 ≤ (nth t.arcs k Arc.zero).to) && decide ((nth t.arcs k Arc.zero).to < t.states))
    · rfl
    simp only [Bool.not_true, iteO_false]
    by_cases he : (nth t.arcs k Arc.zero).set = BSet.zero
    · rw [decide_eq_true he]; rfl
    rw [decide_eq_false he, iteO_false]
    have hd' : (decide (0 ≤ (nth t.arcs k Arc.zero).frm) && decide ((nth t.arcs k Arc.zero).frm < t.states) && decide (0 ≤ (nth t.arcs k Arc.zero).to) && decide ((nth t.arcs k Arc.zero).to < t.states)) = true := by rw [Bool.and_assoc, hc, hd]; rfl
    simp only [arcB, hd', Bool.true_and, ne_eq, he, not_false_eq_true, decide_true, decide_eq_false_iff_not] at hp
    rw [decide_eq_true (by omega)]; rfl
  · simp only [A4_, Int.lt_irrefl, decide_false, iteO_false]; rfl
theorem errB_ne {b : Bool} : decide (errB b ≠ 0) = !b := by cases b <;> rfl
def outOf (p : FPair) (a : Arc) (b : UInt8) : List UInt8 := if a.copy then (p.out ++ a.out) ++ [b] else p.out ++ a.out
def aftA (g : List Arc) (p : FPair) (b : UInt8) : List FPair := (g.filter fun a => a.set.has b.toNat).map fun a => ⟨a.to, outOf p a b⟩
def aftP (t : Fst) (S : List FPair) (b : UInt8) : List FPair := S.flatMap fun p => aftA (t.arcs.filter fun a => decide (a.frm = p.state)) p b
def tp (x : Tip) : FPair := ⟨x.state, x.out⟩
def pairsL (t : Fst) (w : List UInt8) : List FPair := w.foldl (aftP t) (t.starts.map tp)
def fitsB (t : Fst) (w : List UInt8) : Bool := (List.range w.length).all fun k => decide (card (pairsL t (w.take (k + 1))) ≤ 4096)
def endT (t : Fst) (S : List FPair) : List (List UInt8) := S.flatMap fun p => ((t.ends.filter fun e => decide (e.state = p.state)).map Tip.out).map fun o => p.out ++ o
def outsL (t : Fst) (w : List UInt8) : List (List UInt8) := onceL [] Lib.compareBytes (endT t (pairsL t w))
theorem mem_aftA {g : List Arc} {p q : FPair} {b : UInt8} : q ∈ aftA g p b ↔ ∃ a ∈ g, a.set.has b.toNat = true ∧ q = ⟨a.to, outOf p a b⟩ := by
  simp only [aftA, List.mem_map, List.mem_filter]
  constructor
  · rintro ⟨a, ⟨h1, h2⟩, h3⟩; exact ⟨a, h1, h2, h3.symm⟩
  · rintro ⟨a, h1, h2, h3⟩; exact ⟨a, ⟨h1, h2⟩, h3.symm⟩
theorem mem_aftP {t : Fst} {S : List FPair} {b : UInt8} {q : FPair} : q ∈ aftP t S b ↔ ∃ p ∈ S, ∃ a ∈ t.arcs, a.frm = p.state ∧ a.set.has b.toNat = true ∧ q = ⟨a.to, outOf p a b⟩ := by
  simp only [aftP, List.mem_flatMap, mem_aftA, List.mem_filter, decide_eq_true_eq]
  constructor
  · rintro ⟨p, h1, a, ⟨h2, h3⟩, h4, h5⟩; exact ⟨p, h1, a, h2, h3, h4, h5⟩
  · rintro ⟨p, h1, a, h2, h3, h4, h5⟩; exact ⟨p, h1, a, ⟨h2, h3⟩, h4, h5⟩
theorem aftA_snoc (g : List Arc) (a : Arc) (p : FPair) (b : UInt8) : aftA (g ++ [a]) p b = aftA g p b ++ (if a.set.has b.toNat then [⟨a.to, outOf p a b⟩] else []) := by
  rw [aftA, List.filter_append, List.map_append]
  cases h : a.set.has b.toNat <;> simp [aftA, h]
theorem b2_step (x0 : List (List Arc)) (z : FPair × Unit) (b : UInt8) (S : List FPair) (hS : card S ≤ 4096) (hz : z.1.out.length ≤ 100000000) (hg : ∀ a ∈ nth x0 z.1.state.toNat [], a.out.length ≤ 1024) :
    iter (fun q : (FM FPair Unit) × Nat => Ay_ x0 z b q.1 q.2) (FM.ofL S, 0) =
      some (if card (S ++ aftA (nth x0 z.1.state.toNat []) z.1 b) ≤ 4096 then .inl (FM.ofL (S ++ aftA (nth x0 z.1.state.toNat []) z.1 b)) else .inr (FM.emp, false)) := by
  generalize hgd : nth x0 z.1.state.toNat ([] : List Arc) = g at hg
  refine Exists.elim (iter_run (step := fun q : (FM FPair Unit) × Nat => Ay_ x0 z b q.1 q.2)
    (fun q => q.2 ≤ g.length ∧ q.1 = FM.ofL (S ++ aftA (g.take q.2) z.1 b) ∧ card (S ++ aftA (g.take q.2) z.1 b) ≤ 4096)
    (fun r => r = if card (S ++ aftA g z.1 b) ≤ 4096 then .inl (FM.ofL (S ++ aftA g z.1 b)) else .inr (FM.emp, false)) (fun q => g.length - q.2) ?_ (FM.ofL S, 0) ⟨Nat.zero_le _, by simp [aftA], by simpa [aftA] using hS⟩) (fun r hr => by rw [hr.1, hr.2])
  rintro ⟨m, k⟩ ⟨hk, hm, hc⟩
  simp only at hk hm hc
  subst hm
  by_cases hlt : k < g.length
  · have hmem : nth g k Arc.zero ∈ g := nth_mem' hlt _
    have ho := hg _ hmem
    have hsn : aftA (g.take (k + 1)) z.1 b = aftA (g.take k) z.1 b ++ (if (nth g k Arc.zero).set.has b.toNat then [⟨(nth g k Arc.zero).to, outOf z.1 (nth g k Arc.zero) b⟩] else []) := by rw [take_snoc g hlt Arc.zero, aftA_snoc]
    cases hh : (nth g k Arc.zero).set.has b.toNat
    · left
      rw [hh] at hsn
      refine ⟨(FM.ofL (S ++ aftA (g.take k) z.1 b), k + 1), ?_, ⟨by simp only; omega, by simp only [hsn]; simp, by simp only [hsn]; simpa using hc⟩, by simp only; omega⟩
      simp only [Ay_, hgd, lt_dec hlt, iteO_true, hh, Bool.not_false]; rfl
    · rw [hh] at hsn
      simp only [if_true] at hsn
      have hout : Ay_ x0 z b (FM.ofL (S ++ aftA (g.take k) z.1 b)) k = Cg_ (FM.ofL (S ++ aftA (g.take k) z.1 b)) x0 z k (outOf z.1 (nth g k Arc.zero) b) := by
        simp only [Ay_, hgd, lt_dec hlt, iteO_true, hh, Bool.not_true, iteO_false]
        rw [grd_mk (by omega)]
        unfold outOf
        cases (nth g k Arc.zero).copy
        · simp
        · simp only [iteO_true, if_true]
          rw [grd_mk (by simp only [List.length_append, List.length_singleton]; omega)]
      have hput : FM.put (FM.ofL (S ++ aftA (g.take k) z.1 b)) (⟨(nth g k Arc.zero).to, outOf z.1 (nth g k Arc.zero) b⟩ : FPair) () = FM.ofL (S ++ aftA (g.take (k + 1)) z.1 b) := by rw [← FM.ofL_snoc, hsn, List.append_assoc]
      simp only [hout, Cg_, hgd, hput]
      by_cases hbig : card (S ++ aftA (g.take (k + 1)) z.1 b) ≤ 4096
      · left
        refine ⟨(FM.ofL (S ++ aftA (g.take (k + 1)) z.1 b), k + 1), ?_, ⟨by simp only; omega, rfl, hbig⟩, by simp only; omega⟩
        rw [decide_eq_false (by unfold card at hbig; omega), iteO_false]; rfl
      · right
        refine ⟨.inr (FM.emp, false), ?_, ?_⟩
        · rw [decide_eq_true (by unfold card at hbig; omega), iteO_true]; rfl
        · rw [if_neg]
          have : card (S ++ aftA (g.take (k + 1)) z.1 b) ≤ card (S ++ aftA g z.1 b) := card_mono fun x hx => by
            rw [List.mem_append] at *
            refine hx.imp id fun hx => ?_
            rw [mem_aftA] at *
            obtain ⟨a, h1, h2⟩ := hx
            exact ⟨a, List.mem_of_mem_take h1, h2⟩
          omega
  · right
    have e : g.take k = g := List.take_of_length_le (by omega)
    rw [e] at hc ⊢
    rw [if_pos hc]
    refine ⟨_, ?_, rfl⟩
    simp only [Ay_, hgd, decide_eq_false (show ¬ ((k : Nat) : Int) < ((g.length : Nat) : Int) by omega), iteO_false]; rfl
def aftG (x0 : List (List Arc)) (S : List FPair) (b : UInt8) : List FPair := S.flatMap fun p => aftA (nth x0 p.state.toNat []) p b
theorem step_run (x0 : List (List Arc)) (b : UInt8) (hg : ∀ i, ∀ a ∈ nth x0 i [], a.out.length ≤ 1024) : ∀ (q : List (FPair × Unit)) (T : List FPair), (∀ z ∈ q, (0 ≤ z.1.state ∧ z.1.state < (x0.length : Int)) ∧ z.1.out.length ≤ 100000000) → card T ≤ 4096 →
    runL (fun (q : (FM FPair Unit)) (oE : Option (FPair × Unit)) => Bm_ x0 b q oE) q (FM.ofL T) = some (if card (T ++ aftG x0 (q.map Prod.fst) b) ≤ 4096 then (FM.ofL (T ++ aftG x0 (q.map Prod.fst) b), true) else (FM.emp, false))
  | [], T, _, hT => by
    simp only [runL, Bm_, optE, fin_some, aftG, List.map_nil, List.flatMap_nil, List.append_nil, if_pos hT]
  | z :: q, T, hq, hT => by
    have hz := hq z (List.mem_cons_self ..)
    have e : T ++ aftG x0 ((z :: q).map Prod.fst) b = (T ++ aftA (nth x0 z.1.state.toNat []) z.1 b) ++ aftG x0 (q.map Prod.fst) b := by simp [aftG]
    have hst : Bm_ x0 b (FM.ofL T) (some z) = some (if card (T ++ aftA (nth x0 z.1.state.toNat []) z.1 b) ≤ 4096 then .inl (FM.ofL (T ++ aftA (nth x0 z.1.state.toNat []) z.1 b)) else .inr (FM.emp, false)) := by
      simp only [Bm_, optE]
      rw [grd_mk hz.1, b2_step x0 z b T hT hz.2 (hg _)]
    simp only [runL, hst]
    by_cases hc : card (T ++ aftA (nth x0 z.1.state.toNat []) z.1 b) ≤ 4096
    · rw [if_pos hc]
      simp only
      rw [step_run x0 b hg q _ (fun y hy => hq y (List.mem_cons_of_mem _ hy)) hc, e]
    · rw [if_neg hc]
      simp only
      rw [if_neg]
      rw [e]
      have := card_mono (S := T ++ aftA (nth x0 z.1.state.toNat []) z.1 b) (T := (T ++ aftA (nth x0 z.1.state.toNat []) z.1 b) ++ aftG x0 (q.map Prod.fst) b) (fun x hx => List.mem_append_left _ hx)
      omega
theorem step_eq (x0 : List (List Arc)) (b : UInt8) (S : List FPair) (hg : ∀ i, ∀ a ∈ nth x0 i [], a.out.length ≤ 1024) (hS : ∀ p ∈ S, (0 ≤ p.state ∧ p.state < (x0.length : Int)) ∧ p.out.length ≤ 100000000) :
    E6_ x0 (FM.ofL S) b = some (if card (aftG x0 S b) ≤ 4096 then (FM.ofL (aftG x0 S b), true) else (FM.emp, false)) := by
  obtain ⟨q0, hq0⟩ := Rep.ofL S
  unfold E6_
  refine allP_i q0 hq0 fun q hq => ?_
  have h1 := (Rep.of_ofL hq).1
  have := step_run x0 b hg q [] (fun z hz => hS z.1 ((h1 z).1 hz)) (by decide)
  have hcg : ∀ x, x ∈ [] ++ aftG x0 (q.map Prod.fst) b ↔ x ∈ aftG x0 S b := fun x => by
    simp only [aftG, List.nil_append, List.mem_flatMap, List.mem_map]
    constructor
    · rintro ⟨p, ⟨z, hz, rfl⟩, h⟩; exact ⟨z.1, (h1 z).1 hz, h⟩
    · rintro ⟨p, hp, h⟩; exact ⟨p, ⟨(p, ()), (h1 (p, ())).2 hp, rfl⟩, h⟩
  rw [card_congr hcg, FM.ofL_congr hcg] at this
  exact this
end Go.Proofs.YtamgjehhjkgelaaGreatDoor
end

section
namespace Go.Proofs.YtamgjehhjkgelaaGreatDoor
open Go Go.E
theorem tipB_ok {n : Int} {p : Tip} (h : tipB n p = true) : (0 ≤ p.state ∧ p.state < n) ∧ p.out.length ≤ 1024 := by
  simp only [tipB, Bool.and_eq_true, decide_eq_true_eq] at h; exact ⟨h.1, by omega⟩
theorem tipsB_ok {n : Int} {l : List Tip} (h : tipsB l n = true) : l.length ≤ 1024 ∧ ∀ p ∈ l, (0 ≤ p.state ∧ p.state < n) ∧ p.out.length ≤ 1024 := by
  simp only [tipsB, Bool.and_eq_true, decide_eq_true_eq, List.all_eq_true] at h
  exact ⟨by omega, fun p hp => tipB_ok (h.2 p hp)⟩
theorem arcB_ok {n : Int} {a : Arc} (h : arcB n a = true) : (0 ≤ a.frm ∧ a.frm < n) ∧ (0 ≤ a.to ∧ a.to < n) ∧ a.set ≠ BSet.zero ∧ a.out.length ≤ 1024 := by
  simp only [arcB, Bool.and_eq_true, decide_eq_true_eq] at h
  obtain ⟨⟨⟨⟨⟨p1, p2⟩, p3⟩, p4⟩, p5⟩, p6⟩ := h
  exact ⟨⟨p1, p2⟩, ⟨p3, p4⟩, p5, by omega⟩
structure FstOk (t : Fst) : Prop where
  st0 : 0 ≤ t.states
  st1 : t.states ≤ 1024
  arcsN : t.arcs.length ≤ 16384
  startsN : t.starts.length ≤ 1024
  endsN : t.ends.length ≤ 1024
  starts : ∀ p ∈ t.starts, (0 ≤ p.state ∧ p.state < t.states) ∧ p.out.length ≤ 1024
  ends : ∀ p ∈ t.ends, (0 ≤ p.state ∧ p.state < t.states) ∧ p.out.length ≤ 1024
  arcs : ∀ a ∈ t.arcs, (0 ≤ a.frm ∧ a.frm < t.states) ∧ (0 ≤ a.to ∧ a.to < t.states) ∧ a.set ≠ BSet.zero ∧ a.out.length ≤ 1024
theorem fstB_iff (t : Fst) : fstB t = true ↔ FstOk t := by
  constructor
  · intro h
    simp only [fstB, Bool.and_eq_true, decide_eq_true_eq, List.all_eq_true] at h
    obtain ⟨⟨⟨⟨⟨h1, h2⟩, h3⟩, h4⟩, h5⟩, h6⟩ := h
    exact ⟨h1, h2, by omega, (tipsB_ok h4).1, (tipsB_ok h5).1, (tipsB_ok h4).2, (tipsB_ok h5).2, fun a ha => arcB_ok (h6 a ha)⟩
  · rintro ⟨h1, h2, h3, h4, h5, h6, h7, h8⟩
    have hT : ∀ l : List Tip, l.length ≤ 1024 → (∀ p ∈ l, (0 ≤ p.state ∧ p.state < t.states) ∧ p.out.length ≤ 1024) → tipsB l t.states = true := fun l hl hp => by
      simp only [tipsB, Bool.and_eq_true, decide_eq_true_eq, List.all_eq_true]
      refine ⟨by omega, fun p hq => ?_⟩
      have := hp p hq
      simp only [tipB, Bool.and_eq_true, decide_eq_true_eq]; omega
    simp only [fstB, Bool.and_eq_true, decide_eq_true_eq, List.all_eq_true]
    refine ⟨⟨⟨⟨⟨h1, h2⟩, by omega⟩, hT _ h4 h6⟩, hT _ h5 h7⟩, fun a ha => ?_⟩
    obtain ⟨p1, p2, p3, p4⟩ := h8 a ha
    simp only [arcB, Bool.and_eq_true, decide_eq_true_eq]
    exact ⟨⟨⟨⟨p1, p2.1⟩, p2.2⟩, p3⟩, by omega⟩
theorem pairsL_snoc (t : Fst) (w : List UInt8) (b : UInt8) : pairsL t (w ++ [b]) = aftP t (pairsL t w) b := by simp [pairsL]
theorem outOf_len (p : FPair) (a : Arc) (b : UInt8) : (outOf p a b).length ≤ p.out.length + a.out.length + 1 := by
  unfold outOf; split <;> simp only [List.length_append, List.length_singleton] <;> omega
theorem pairs_ok {t : Fst} (ht : FstOk t) (w : List UInt8) : ∀ p ∈ pairsL t w, (0 ≤ p.state ∧ p.state < t.states) ∧ p.out.length ≤ 1024 + 1025 * w.length := by
  induction w using rev_ind with
  | h0 =>
    intro p hp
    obtain ⟨x, hx, rfl⟩ := List.mem_map.1 hp
    have := ht.starts x hx
    exact ⟨this.1, by have := this.2; simp only [tp, List.length_nil]; omega⟩
  | h1 w b ih =>
    intro q hq
    rw [pairsL_snoc, mem_aftP] at hq
    obtain ⟨p, hp, a, ha, _, _, rfl⟩ := hq
    have h1 := ht.arcs a ha
    have h2 := (ih p hp).2
    have h3 := outOf_len p a b
    refine ⟨h1.2.1, ?_⟩
    rw [List.length_append, List.length_singleton]
    simp only; omega
theorem b6_run (l229 : List (List (List UInt8))) (z : FPair × Unit) (l : List (List UInt8)) (hz : z.1.out.length ≤ 100000000) (hes : ∀ o ∈ nth l229 z.1.state.toNat [], o.length ≤ 1024) (hl : l.length + (nth l229 z.1.state.toNat []).length ≤ 8000000000) :
    iter (fun q : (List (List UInt8)) × Nat => Bn_ l229 z q.1 q.2) (l, 0) = some (.inl (l ++ (nth l229 z.1.state.toNat []).map fun o => z.1.out ++ o)) := by
  generalize hgd : nth l229 z.1.state.toNat ([] : List (List UInt8)) = es at hes hl
  have := iter_fold (step := fun q : (List (List UInt8)) × Nat => Bn_ l229 z q.1 q.2) (r := .inl (l ++ es.map fun o => z.1.out ++ o)) es [] (fun k => l ++ (es.take k).map fun o => z.1.out ++ o) ?_ ?_
  · simpa using this
  · intro k hk
    have ho := hes _ (nth_mem' hk [])
    simp only [Bn_, hgd, lt_dec hk, iteO_true]
    rw [grd_mk (by omega), grd_mk (by simp only [List.length_append, List.length_map, List.length_take, List.length_singleton]; omega), take_snoc es hk []]
    simp [nxt]
  · simp only [Bn_, hgd, Int.lt_irrefl, decide_false, iteO_false, List.take_length]; rfl
def endG (l229 : List (List (List UInt8))) (q : List (FPair × Unit)) : List (List UInt8) := q.flatMap fun z => (nth l229 z.1.state.toNat []).map fun o => z.1.out ++ o
theorem b5_run (l229 : List (List (List UInt8))) (he : ∀ i, (nth l229 i []).length ≤ 1024 ∧ ∀ o ∈ nth l229 i [], o.length ≤ 1024) : ∀ (q : List (FPair × Unit)) (l : List (List UInt8)), (∀ z ∈ q, (0 ≤ z.1.state ∧ z.1.state < (l229.length : Int)) ∧ z.1.out.length ≤ 100000000) → l.length + q.length * 1024 ≤ 8000000000 →
    runL (fun (q : (List (List UInt8))) (oE : Option (FPair × Unit)) => Bj_ l229 q oE) q l = some (onceL [] Lib.compareBytes (l ++ endG l229 q), 0)
  | [], l, _, hl => by
    simp only [runL, Bj_, optE, Hq_ (l := l) (by simp at hl; omega), bnd, Option.bind_some, fin_some, endG, List.flatMap_nil, List.append_nil]
  | z :: q, l, hq, hl => by
    have hz := hq z (List.mem_cons_self ..)
    have h1 := he z.1.state.toNat
    simp only [List.length_cons] at hl
    have hst : Bj_ l229 l (some z) = some (.inl (l ++ (nth l229 z.1.state.toNat []).map fun o => z.1.out ++ o)) := by
      simp only [Bj_, optE]
      rw [grd_mk hz.1, b6_run l229 z l hz.2 h1.2 (by omega)]
    simp only [runL, hst]
    rw [b5_run l229 he q _ (fun y hy => hq y (List.mem_cons_of_mem _ hy)) (by rw [List.length_append, List.length_map]; omega)]
    simp [endG]
theorem ends_run {t : Fst} (ht : FstOk t) (S : List FPair) (hS : ∀ p ∈ S, (0 ≤ p.state ∧ p.state < t.states) ∧ p.out.length ≤ 100000000) (hc : card S ≤ 4096) :
    iter (fun q : (List (List (List UInt8))) × Nat => Bk_ t (FM.ofL S) q.1 q.2) (List.replicate t.states.toNat [], 0) = some (onceL [] Lib.compareBytes (endT t S), 0) := by
  have ht0 := ht.st0
  refine Exists.elim (iter_run (step := fun q : (List (List (List UInt8))) × Nat => Bk_ t (FM.ofL S) q.1 q.2) (fun q => q.2 ≤ t.ends.length ∧ Grp Tip.state Tip.out t.states.toNat q.1 (t.ends.take q.2))
    (fun r => r = (onceL [] Lib.compareBytes (endT t S), 0)) (fun q => t.ends.length - q.2) ?_ (List.replicate t.states.toNat [], 0) ⟨Nat.zero_le _, by simpa using Grp.nil Tip.state Tip.out t.states.toNat⟩) (fun r hr => by rw [hr.1, hr.2])
  rintro ⟨l, k⟩ ⟨hk, hG⟩
  simp only at hk hG
  have hlen := hG.len
  by_cases hlt : k < t.ends.length
  · left
    have hm := ht.ends _ (nth_mem' hlt Tip.zero)
    have hrow : (nth l (nth t.ends k Tip.zero).state.toNat []).length ≤ 1024 := by
      rw [hG.at hm.1.1 (by omega), List.length_map]
      have := List.length_filter_le (fun x : Tip => decide (x.state = (nth t.ends k Tip.zero).state)) (t.ends.take k)
      rw [List.length_take] at this
      have := ht.endsN; omega
    refine ⟨(l.set (nth t.ends k Tip.zero).state.toNat (nth l (nth t.ends k Tip.zero).state.toNat [] ++ [(nth t.ends k Tip.zero).out]), k + 1), ?_, ⟨by simp only; omega, ?_⟩, by simp only; omega⟩
    · simp only [Bk_, lt_dec hlt, iteO_true]
      rw [grd_mk (by omega), grd_mk (by rw [List.length_singleton]; omega), grd_mk (by omega)]
      rfl
    · simp only
      rw [take_snoc t.ends hlt Tip.zero]
      exact hG.snoc hm.1.1 (by omega)
  · right
    have e : t.ends.take k = t.ends := List.take_of_length_le (by omega)
    rw [e] at hG
    refine ⟨_, ?_, rfl⟩
    simp only [Bk_, decide_eq_false (show ¬ ((k : Nat) : Int) < ((t.ends.length : Nat) : Int) by omega), iteO_false]
    have hrow : ∀ i, (nth l i []).length ≤ 1024 ∧ ∀ o ∈ nth l i [], o.length ≤ 1024 := fun i => by
      by_cases hi : i < t.states.toNat
      · rw [hG.row i hi, List.length_map]
        refine ⟨Nat.le_trans (List.length_filter_le _ _) ht.endsN, fun o ho => ?_⟩
        obtain ⟨x, hx, rfl⟩ := List.mem_map.1 ho
        exact (ht.ends x (List.mem_filter.1 hx).1).2
      · have : nth l i [] = [] := by simp [nth, List.getD, show l.length ≤ i by omega]
        rw [this]; simp
    obtain ⟨q0, hq0⟩ := Rep.ofL S
    rw [allP_i (r := (onceL [] Lib.compareBytes (endT t S), 0)) q0 hq0 fun q hq => ?_]
    · rfl
    · obtain ⟨h1, h2⟩ := Rep.of_ofL hq
      rw [b5_run l hrow q [] (fun z hz => by have := hS z.1 ((h1 z).1 hz); exact ⟨⟨this.1.1, by omega⟩, this.2⟩) (by simp; omega)]
      congr 2
      refine G5_ cmpB_good fun x => ?_
      simp only [endG, endT, List.nil_append, List.mem_flatMap]
      constructor
      · rintro ⟨z, hz, h⟩
        have hzS := (h1 z).1 hz
        have := hS z.1 hzS
        rw [hG.at this.1.1 (by omega)] at h
        exact ⟨z.1, hzS, h⟩
      · rintro ⟨p, hp, h⟩
        have := hS p hp
        refine ⟨(p, ()), (h1 (p, ())).2 hp, ?_⟩
        rw [hG.at this.1.1 (by omega)]
        exact h
theorem aftG_eq {t : Fst} {l : List (List Arc)} (hG : Grp Arc.frm id t.states.toNat l t.arcs) (S : List FPair) (hS : ∀ p ∈ S, 0 ≤ p.state ∧ p.state < t.states) (b : UInt8) : aftG l S b = aftP t S b := by
  unfold aftG aftP
  rw [List.flatMap_def, List.flatMap_def]
  congr 1
  refine List.map_congr_left fun p hp => ?_
  have := hS p hp
  rw [hG.at this.1 (by omega), List.map_id]
theorem card_start {t : Fst} (ht : FstOk t) : card (t.starts.map tp) ≤ 4096 := by
  have := card_le (t.starts.map tp)
  rw [List.length_map] at this
  have := ht.startsN; omega
theorem Hp_ {t : Fst} (ht : FstOk t) (w : List UInt8) (hw : w.length ≤ 256) (l : List (List Arc)) (hG : Grp Arc.frm id t.states.toNat l t.arcs) :
    iter (fun q : (FM FPair Unit) × Nat => A9_ w l t q.1 q.2) (FM.ofL (t.starts.map tp), 0) = some (if fitsB t w then (outsL t w, 0) else ([], 2)) := by
  have ht0 := ht.st0
  have ht1 := ht.st1
  have hlen := hG.len
  have hrow : ∀ i, ∀ a ∈ nth l i [], a.out.length ≤ 1024 := fun i a ha => by
    by_cases hi : i < t.states.toNat
    · rw [hG.row i hi, List.map_id] at ha
      exact (ht.arcs a (List.mem_filter.1 ha).1).2.2.2
    · have : nth l i [] = [] := by simp [nth, List.getD, show l.length ≤ i by omega]
      rw [this] at ha; cases ha
  refine Exists.elim (iter_run (step := fun q : (FM FPair Unit) × Nat => A9_ w l t q.1 q.2) (fun q => q.2 ≤ w.length ∧ q.1 = FM.ofL (pairsL t (w.take q.2)) ∧ card (pairsL t (w.take q.2)) ≤ 4096 ∧ ∀ j, j < q.2 → card (pairsL t (w.take (j + 1))) ≤ 4096)
    (fun r => r = if fitsB t w then (outsL t w, 0) else ([], 2)) (fun q => w.length - q.2) ?_ (FM.ofL (t.starts.map tp), 0) ⟨Nat.zero_le _, rfl, card_start ht, fun j hj => by cases hj⟩) (fun r hr => by rw [hr.1, hr.2])
  rintro ⟨m, k⟩ ⟨hk, hm, hc, hf⟩
  simp only at hk hm hc hf
  subst hm
  have hok := pairs_ok ht (w.take k)
  have hlt' : (w.take k).length ≤ 256 := by rw [List.length_take]; omega
  by_cases hlt : k < w.length
  · have hstep := step_eq l (nth w k 0) (pairsL t (w.take k)) hrow (fun p hp => by have := hok p hp; exact ⟨⟨this.1.1, by omega⟩, by omega⟩)
    rw [aftG_eq hG _ (fun p hp => (hok p hp).1), ← pairsL_snoc, ← take_snoc w hlt 0] at hstep
    simp only [A9_, lt_dec hlt, iteO_true, hstep, bnd, Option.bind_some]
    by_cases hb : card (pairsL t (w.take (k + 1))) ≤ 4096
    · left
      rw [if_pos hb]
      refine ⟨(FM.ofL (pairsL t (w.take (k + 1))), k + 1), rfl, ⟨by simp only; omega, rfl, hb, fun j hj => ?_⟩, by simp only; omega⟩
      simp only at hj
      by_cases e : j = k
      · subst e; exact hb
      · exact hf j (by omega)
    · right
      rw [if_neg hb]
      refine ⟨([], 2), rfl, ?_⟩
      rw [if_neg]
      intro h
      rw [fitsB, List.all_eq_true] at h
      exact hb (by simpa using h k (List.mem_range.2 hlt))
  · right
    have e : w.take k = w := List.take_of_length_le (by omega)
    have hk' : k = w.length := by omega
    refine ⟨(outsL t w, 0), ?_, ?_⟩
    · simp only [A9_, decide_eq_false (show ¬ ((k : Nat) : Int) < ((w.length : Nat) : Int) by omega), iteO_false]
      rw [grd_mk (by omega), e, ends_run ht _ (fun p hp => by have := pairs_ok ht w p hp; exact ⟨this.1, by omega⟩) (by rw [e] at hc; exact hc)]
      rfl
    · rw [if_pos]
      rw [fitsB, List.all_eq_true]
      intro j hj
      simpa using hf j (by rw [hk']; exact List.mem_range.1 hj)
theorem starts_run (t : Fst) (w : List UInt8) (l : List (List Arc)) {r : List (List UInt8) × Int} (h : iter (fun q : (FM FPair Unit) × Nat => A9_ w l t q.1 q.2) (FM.ofL (t.starts.map tp), 0) = some r) :
    iter (fun q : (FM FPair Unit) × Nat => Bl_ t w l q.1 q.2) (FM.emp, 0) = some r := by
  refine iter_fold (step := fun q : (FM FPair Unit) × Nat => Bl_ t w l q.1 q.2) t.starts Tip.zero (fun k => FM.ofL ((t.starts.take k).map tp)) ?_ ?_
  · intro k hk
    simp only [Bl_, lt_dec hk, iteO_true]
    rw [take_snoc t.starts hk Tip.zero, List.map_append, List.map_cons, List.map_nil, FM.ofL_snoc]
    rfl
  · simp only [Bl_, Int.lt_irrefl, decide_false, iteO_false, List.take_length, h]; rfl
theorem arcs_run {t : Fst} (ht : FstOk t) (w : List UInt8) (hw : w.length ≤ 256) :
    iter (fun q : (List (List Arc)) × Nat => Bi_ t w q.1 q.2) (List.replicate t.states.toNat [], 0) = some (if fitsB t w then (outsL t w, 0) else ([], 2)) := by
  have ht0 := ht.st0
  refine Exists.elim (iter_run (step := fun q : (List (List Arc)) × Nat => Bi_ t w q.1 q.2) (fun q => q.2 ≤ t.arcs.length ∧ Grp Arc.frm id t.states.toNat q.1 (t.arcs.take q.2))
    (fun r => r = if fitsB t w then (outsL t w, 0) else ([], 2)) (fun q => t.arcs.length - q.2) ?_ (List.replicate t.states.toNat [], 0) ⟨Nat.zero_le _, by simpa using Grp.nil Arc.frm id t.states.toNat⟩) (fun r hr => by rw [hr.1, hr.2])
  rintro ⟨l, k⟩ ⟨hk, hG⟩
  simp only at hk hG
  have hlen := hG.len
  by_cases hlt : k < t.arcs.length
  · left
    have hm := ht.arcs _ (nth_mem' hlt Arc.zero)
    have hrow : (nth l (nth t.arcs k Arc.zero).frm.toNat []).length ≤ 16384 := by
      rw [hG.at hm.1.1 (by omega), List.length_map]
      have := List.length_filter_le (fun x : Arc => decide (x.frm = (nth t.arcs k Arc.zero).frm)) (t.arcs.take k)
      rw [List.length_take] at this
      have := ht.arcsN; omega
    refine ⟨(l.set (nth t.arcs k Arc.zero).frm.toNat (nth l (nth t.arcs k Arc.zero).frm.toNat [] ++ [nth t.arcs k Arc.zero]), k + 1), ?_, ⟨by simp only; omega, ?_⟩, by simp only; omega⟩
    · simp only [Bi_, lt_dec hlt, iteO_true]
      rw [grd_mk (by omega), grd_mk (by rw [List.length_singleton]; omega), grd_mk (by omega)]
      rfl
    · simp only
      rw [take_snoc t.arcs hlt Arc.zero]
      exact hG.snoc hm.1.1 (by omega)
  · right
    have e : t.arcs.take k = t.arcs := List.take_of_length_le (by omega)
    rw [e] at hG
    refine ⟨_, ?_, rfl⟩
    simp only [Bi_, decide_eq_false (show ¬ ((k : Nat) : Int) < ((t.arcs.length : Nat) : Int) by omega), iteO_false]
    rw [starts_run t w l (Hp_ ht w hw l hG)]
    rfl
theorem outs_eq (t : Fst) (w : List UInt8) (hw : w.length ≤ 281474976710656) : Ey_ t w = some (if fstB t = true then (if w.length ≤ 256 then (if fitsB t w = true then (outsL t w, 0) else ([], 2)) else ([], 2)) else ([], 1)) := by
  unfold Ey_
  rw [grd_mk hw, Ga_, bnd, Option.bind_some, errB_ne]
  by_cases h : fstB t = true
  · have ht := (fstB_iff t).1 h
    have ht0 := ht.st0
    have ht1 := ht.st1
    rw [h, if_pos rfl, Bool.not_true, iteO_false]
    by_cases h2 : w.length ≤ 256
    · rw [decide_eq_false (by omega), iteO_false, if_pos h2, grd_mk (by omega), arcs_run ht w h2]
    · rw [decide_eq_true (by omega), iteO_true, if_neg h2]
  · simp only [Bool.not_eq_true] at h
    rw [h]; rfl
end Go.Proofs.YtamgjehhjkgelaaGreatDoor
end

section
namespace Go.Proofs.YtamgjehhjkgelaaGreatDoor
open Go Go.E
def toS (d : Dfa) (s z : Nat) : BSet := BSet.make fun b => decide (nth (nth d.next s ([] : List Int)) (nth d.cls b (0 : Int)).toNat (0 : Int) = ((z : Nat) : Int))
def backR (d : Dfa) (s m : Nat) : List Arrow := (List.range m).flatMap fun z => if toS d s z = BSet.zero then [] else [⟨((s : Nat) : Int), ((z : Nat) : Int), toS d s z⟩]
def backE (d : Dfa) (m : Nat) : List Arrow := (List.range m).flatMap fun s => backR d s d.next.length
def endsN (d : Dfa) (m : Nat) : List Int := (List.range m).flatMap fun s => if nth d.fin s false = true then [((s : Nat) : Int)] else []
def backN (d : Dfa) : Nfa := ⟨((d.next.length : Nat) : Int), [0], endsN d d.next.length, backE d d.next.length⟩
def mkF (d : Dfa) (out : List UInt8) (c : Bool) : Fst := ⟨((d.next.length : Nat) : Int), [⟨0, []⟩], (endsN d d.next.length).map fun s => ⟨s, out⟩, (backE d d.next.length).map fun x => ⟨x.frm, x.to, x.set, [], c⟩⟩
theorem flat_len {α β : Type} (f : α → List β) (k : Nat) : ∀ l : List α, (∀ x ∈ l, (f x).length ≤ k) → (l.flatMap f).length ≤ l.length * k
  | [], _ => by simp
  | x :: l, h => by
    have h1 := h x (List.mem_cons_self ..)
    have h2 := flat_len f k l fun y hy => h y (List.mem_cons_of_mem _ hy)
    rw [List.flatMap_cons, List.length_append, List.length_cons, Nat.add_mul, Nat.one_mul]; omega
theorem backR_len (d : Dfa) (s m : Nat) : (backR d s m).length ≤ m := by
  have := flat_len (fun z => if toS d s z = BSet.zero then [] else [(⟨((s : Nat) : Int), ((z : Nat) : Int), toS d s z⟩ : Arrow)]) 1 (List.range m) (fun z _ => by split <;> simp)
  rw [List.length_range, Nat.mul_one] at this; exact this
theorem backE_len (d : Dfa) (m : Nat) : (backE d m).length ≤ m * d.next.length := by
  have := flat_len (fun s => backR d s d.next.length) d.next.length (List.range m) (fun s _ => backR_len _ _ _)
  rw [List.length_range] at this; exact this
theorem endsN_len (d : Dfa) (m : Nat) : (endsN d m).length ≤ m := by
  have := flat_len (fun s => if nth d.fin s false = true then [((s : Nat) : Int)] else []) 1 (List.range m) (fun z _ => by split <;> simp)
  rw [List.length_range, Nat.mul_one] at this; exact this
end Go.Proofs.YtamgjehhjkgelaaGreatDoor
end

section
namespace Go.E
open Go
theorem iter_for {α S T R : Type} {step : T → Option (T ⊕ R)} (g : S → Nat → T) (l : List α) (d : α) (I : List α → S → Prop) (Q : R → Prop)
    (hs : ∀ k s, k < l.length → I (l.take k) s → (∃ s', step (g s k) = some (.inl (g s' (k + 1))) ∧ I (l.take k ++ [nth l k d]) s') ∨ ∃ r, step (g s k) = some (.inr r) ∧ Q r)
    (hd : ∀ s, I l s → ∃ r, step (g s l.length) = some (.inr r) ∧ Q r) {s0 : S} (h0 : I [] s0) : ∃ r, iter step (g s0 0) = some r ∧ Q r := by
  have key : ∀ m k s, l.length - k = m → k ≤ l.length → I (l.take k) s → ∃ r, iter step (g s k) = some r ∧ Q r := by
    intro m
    induction m with
    | zero =>
      intro k s hm hk hI
      have hk : k = l.length := by omega
      subst hk
      rw [List.take_length] at hI
      obtain ⟨r, h1, h2⟩ := hd s hI
      exact ⟨r, iter_done h1, h2⟩
    | succ m ih =>
      intro k s hm hk hI
      rcases hs k s (by omega) hI with ⟨s', h1, h2⟩ | ⟨r, h1, h2⟩
      · rw [← take_snoc l (by omega) d] at h2
        obtain ⟨r, h3, h4⟩ := ih (k + 1) s' (by omega) (by omega) h2
        exact ⟨r, iter_next h1 h3, h4⟩
      · exact ⟨r, iter_done h1, h2⟩
  exact key _ 0 s0 rfl (Nat.zero_le _) h0
end Go.E
end

section
namespace Go.E
open Go
theorem iteO_dt {α : Type} {p : Prop} [Decidable p] {a b : Option α} (h : p) : iteO (decide p) a b = a := by rw [decide_eq_true h]; rfl
theorem iteO_df {α : Type} {p : Prop} [Decidable p] {a b : Option α} (h : ¬ p) : iteO (decide p) a b = b := by rw [decide_eq_false h]; rfl
theorem bnd_mk {α β : Type} {x : α} {f : α → Option β} : bnd (some x) f = f x := rfl
theorem iter_up {S T R : Type} {step : T → Option (T ⊕ R)} (g : S → Nat → T) (n : Nat) (I : Nat → S → Prop) (Q : R → Prop)
    (hs : ∀ k s, k < n → I k s → (∃ s', step (g s k) = some (.inl (g s' (k + 1))) ∧ I (k + 1) s') ∨ ∃ r, step (g s k) = some (.inr r) ∧ Q r)
    (hd : ∀ s, I n s → ∃ r, step (g s n) = some (.inr r) ∧ Q r) {s0 : S} (h0 : I 0 s0) : ∃ r, iter step (g s0 0) = some r ∧ Q r := by
  have key : ∀ m k s, n - k = m → k ≤ n → I k s → ∃ r, iter step (g s k) = some r ∧ Q r := by
    intro m
    induction m with
    | zero =>
      intro k s hm hk hI
      have hk : k = n := by omega
      subst hk
      obtain ⟨r, h1, h2⟩ := hd s hI
      exact ⟨r, iter_done h1, h2⟩
    | succ m ih =>
      intro k s hm hk hI
      rcases hs k s (by omega) hI with ⟨s', h1, h2⟩ | ⟨r, h1, h2⟩
      · obtain ⟨r, h3, h4⟩ := ih (k + 1) s' (by omega) (by omega) h2
        exact ⟨r, iter_next h1 h3, h4⟩
      · exact ⟨r, iter_done h1, h2⟩
  exact key _ 0 s0 rfl (Nat.zero_le _) h0
end Go.E
end

section
namespace Go.Proofs.YtamgjehhjkgelaaGreatDoor
open Go Go.E
theorem u64or_lt' (a b : Nat) : u64or a b < 18446744073709551616 := (BitVec.ofNat 64 a ||| BitVec.ofNat 64 b).isLt
theorem has_bit' (s : BSet) (n : Nat) : s.has n = (s.word (n / 64)).testBit (n % 64) := by
  unfold BSet.has; rw [Nat.testBit_eq_decide_div_mod_eq]
theorem Hs_ {s t : BSet} (h : ∀ n, n < 256 → s.has n = t.has n) : s = t := by
  refine BSet.ext_word fun i hi => Nat.eq_of_testBit_eq fun j => ?_
  by_cases hj : j < 64
  · have h1 := h (64 * i + j) (by omega)
    rw [has_bit', has_bit', show (64 * i + j) / 64 = i by omega, show (64 * i + j) % 64 = j by omega] at h1
    exact h1
  · have h2 : ∀ u : BSet, (u.word i).testBit j = false := fun u => Nat.testBit_lt_two_pow (Nat.lt_of_lt_of_le (BSet.word_lt u.isOk i) (show 2 ^ 64 ≤ 2 ^ j from Nat.pow_le_pow_right (by omega) (by omega)))
    rw [h2, h2]
theorem any_eq (a b : BSet) : Cl_ a b = some (BSet.make fun n => a.has n || b.has n) := by
  have h : ∃ r, Cl_ a b = some r ∧ ∀ i, i < 4 → r.word i = u64or (a.word i) (b.word i) := by
    unfold Cl_
    exact iter_up (step := fun q : BSet × Nat => A1_ b q.1 q.2) (fun (s : BSet) k => (s, k)) 4 (fun k s => ∀ i, i < 4 → s.word i = if i < k then u64or (a.word i) (b.word i) else a.word i) (fun r => ∀ i, i < 4 → r.word i = u64or (a.word i) (b.word i))
      (fun k s hk hI => .inl ⟨BSet.setWord s k (u64or (BSet.word s k) (BSet.word b k)), by
        show A1_ b s k = _
        unfold A1_
        rw [iteO_dt (by omega), grd_mk hk, grd_mk hk, grd_mk hk, grd_mk (u64or_lt' _ _)]; rfl, fun i hi => by
        rw [BSet.word_set s hk _ i (u64or_lt' _ _) hi]
        by_cases e : i = k
        · subst e; rw [if_pos rfl, if_pos (by omega), hI i hi, if_neg (by omega)]
        · rw [if_neg e, hI i hi]
          by_cases e2 : i < k
          · rw [if_pos e2, if_pos (by omega)]
          · rw [if_neg e2, if_neg (by omega)]⟩)
      (fun s hI => ⟨s, by
        show A1_ b s 4 = _
        unfold A1_
        rw [iteO_df (by omega)]; rfl, fun i hi => by rw [hI i hi, if_pos hi]⟩) (s0 := a) (fun i hi => by rw [if_neg (by omega)])
  obtain ⟨r, h1, h2⟩ := h
  rw [h1]
  congr 1
  refine Hs_ fun n hn => ?_
  have l1 := BSet.word_lt a.isOk (n / 64)
  have l2 := BSet.word_lt b.isOk (n / 64)
  rw [BSet.make_has _ hn, has_bit', has_bit', has_bit', h2 _ (by omega)]
  unfold u64or
  rw [BitVec.toNat_or, BitVec.toNat_ofNat, BitVec.toNat_ofNat, Nat.mod_eq_of_lt l1, Nat.mod_eq_of_lt l2, Nat.testBit_or]
def cntS (o : Option Nat) (n : Int) : Option Nat := o.bind fun k => if n < 0 ∨ (k : Int) < n then none else some (if n = k then k + 1 else k)
def cntF (l : List Int) : Option Nat := l.foldl cntS (some 0)
theorem cntS_none : ∀ l : List Int, l.foldl cntS none = none
  | [] => rfl
  | _ :: l => cntS_none l
theorem cntF_snoc (l : List Int) (n : Int) : cntF (l ++ [n]) = cntS (cntF l) n := by simp [cntF, List.foldl_append]
theorem cntF_none {l m : List Int} (h : cntF l = none) : cntF (l ++ m) = none := by
  unfold cntF at h ⊢; rw [List.foldl_append, h, cntS_none]
theorem cntF_le : ∀ (l : List Int) (j k : Nat), l.foldl cntS (some j) = some k → k ≤ j + l.length
  | [], j, k, h => by cases h; simp
  | n :: l, j, k, h => by
    rw [List.foldl_cons] at h
    by_cases hc : n < 0 ∨ (j : Int) < n
    · rw [show cntS (some j) n = none by simp [cntS, hc], cntS_none] at h; cases h
    · rw [show cntS (some j) n = some (if n = j then j + 1 else j) by simp [cntS, hc]] at h
      have := cntF_le l _ k h
      simp only [List.length_cons]
      split at this <;> omega
def clsF (cls : List Int) (k c : Nat) : Nat → Bool := fun b => decide (b < k) && decide (nth cls b (0 : Int) = ((c : Nat) : Int))
def clsS (cls : List Int) (c : Nat) : BSet := BSet.make fun b => decide (nth cls b (0 : Int) = ((c : Nat) : Int))
structure SetsI (cls : List Int) (k : Nat) (s : List BSet) : Prop where
  cnt : cntF (cls.take k) = some s.length
  sets : ∀ c, c < s.length → nth s c BSet.zero = BSet.make (clsF cls k c)
  low : ∀ b, b < k → 0 ≤ nth cls b (0 : Int) ∧ nth cls b (0 : Int) < ((s.length : Nat) : Int)
  some_ : ∀ c, c < s.length → ∃ b, b < k ∧ nth cls b (0 : Int) = ((c : Nat) : Int)
theorem nth_set' {α : Type} (l : List α) (i j : Nat) (x d : α) (hi : i < l.length) : nth (l.set i x) j d = if j = i then x else nth l j d := by
  unfold nth
  rw [List.getD_eq_getElem?_getD, List.getD_eq_getElem?_getD, List.getElem?_set]
  by_cases h : i = j
  · subst h; rw [if_pos rfl, if_pos rfl, if_pos hi]; rfl
  · rw [if_neg h, if_neg (fun e => h e.symm)]
theorem nth_app_l {α : Type} (l m : List α) (j : Nat) (d : α) (h : j < l.length) : nth (l ++ m) j d = nth l j d := by
  unfold nth; rw [List.getD_eq_getElem?_getD, List.getD_eq_getElem?_getD, List.getElem?_append_left h]
theorem nth_app_e {α : Type} (l : List α) (x d : α) : nth (l ++ [x]) l.length d = x := by
  unfold nth; rw [List.getD_eq_getElem?_getD, List.getElem?_append_right (Nat.le_refl _)]; simp
theorem take_cons' {l : List Int} {k : Nat} (h : k < l.length) : l.take (k + 1) = l.take k ++ [nth l k 0] := by
  rw [List.take_add_one, getD_some l h 0]; rfl
theorem of1' (k : Nat) (hk : k < 256) {n : Nat} (h : n < 256) : (BSet.ofL [toU8 ((k : Nat) : Int)]).has n = decide (n = k) := by
  unfold BSet.ofL
  rw [BSet.make_has _ h]
  have := toU8_val ((k : Nat) : Int)
  rw [wrap_u8] at this
  have e : (toU8 ((k : Nat) : Int)).toNat = k := by omega
  simp [e]
theorem sets_put {cls : List Int} {k : Nat} {s l : List BSet} (hk : k < 256) (hI : SetsI cls k s) {n : Nat} (hn : nth cls k (0 : Int) = ((n : Nat) : Int)) (hle : s.length ≤ l.length) (hl : l.length ≤ s.length + 1) (hnl : n < l.length) (hs : ∀ c, c < s.length → nth l c BSet.zero = nth s c BSet.zero) (hz : s.length < l.length → n = s.length ∧ nth l n BSet.zero = BSet.zero)
    (hc : cntF (cls.take (k + 1)) = some l.length) : SetsI cls (k + 1) (l.set n (BSet.make fun b => (nth l n BSet.zero).has b || (BSet.ofL [toU8 ((k : Nat) : Int)]).has b)) where
  cnt := by rw [List.length_set]; exact hc
  sets := fun c hcl => by
    rw [List.length_set] at hcl
    rw [nth_set' _ _ _ _ _ hnl]
    by_cases e : c = n
    · subst e
      rw [if_pos rfl]
      refine BSet.make_congr fun b hb => ?_
      rw [of1' k hk hb]
      have h0 : (nth l c BSet.zero).has b = clsF cls k c b := by
        by_cases h1 : c < s.length
        · rw [hs c h1, hI.sets c h1, BSet.make_has _ hb]
        · have h2 := hz (by omega)
          rw [h2.2]
          have h3 : clsF cls k c b = false := by
            unfold clsF
            by_cases hbk : b < k
            · have := (hI.low b hbk).2
              rw [decide_eq_false (show ¬ nth cls b (0 : Int) = ((c : Nat) : Int) by omega), Bool.and_false]
            · rw [decide_eq_false hbk, Bool.false_and]
          rw [h3, ← BSet.make_zero, BSet.make_has _ hb]
      rw [h0]
      unfold clsF
      by_cases hb2 : b = k
      · subst hb2; rw [hn]; simp
      · by_cases hb3 : b < k
        · rw [decide_eq_true hb3, decide_eq_true (show b < k + 1 by omega), decide_eq_false hb2, Bool.or_false]
        · rw [decide_eq_false hb3, decide_eq_false (show ¬ b < k + 1 by omega), decide_eq_false hb2]; rfl
    · rw [if_neg e]
      have h1 : c < s.length := by
        by_cases h2 : s.length < l.length
        · have := (hz h2).1; omega
        · omega
      rw [hs c h1, hI.sets c h1]
      refine BSet.make_congr fun b hb => ?_
      unfold clsF
      by_cases hb2 : b = k
      · subst hb2
        rw [decide_eq_false (Nat.lt_irrefl _), hn, decide_eq_false (show ¬ ((n : Nat) : Int) = ((c : Nat) : Int) by omega)]; simp
      · rw [decide_eq_decide.2 (show b < k ↔ b < k + 1 by omega)]
  low := fun b hb => by
    rw [List.length_set]
    by_cases e : b = k
    · subst e; rw [hn]; omega
    · have := hI.low b (by omega); omega
  some_ := fun c hcl => by
    rw [List.length_set] at hcl
    by_cases h1 : c < s.length
    · obtain ⟨b, h2, h3⟩ := hI.some_ c h1; exact ⟨b, by omega, h3⟩
    · have h2 := hz (by omega)
      exact ⟨k, by omega, by rw [hn]; omega⟩
theorem partSets_full (cls : List Int) : ∃ r, C1_ cls = some r ∧ (((cls.length ≠ 256 ∨ cntF cls = none) ∧ r.2 = 1) ∨ (cls.length = 256 ∧ cntF cls = some r.1.length ∧ r.2 = 0 ∧ (∀ c, c < r.1.length → nth r.1 c BSet.zero = clsS cls c) ∧ ∀ c, c < r.1.length → ∃ b, b < 256 ∧ nth cls b (0 : Int) = ((c : Nat) : Int))) := by
  unfold C1_
  by_cases h256 : cls.length = 256
  · rw [iteO_df (show ¬ ((cls.length : Nat) : Int) ≠ 256 by omega)]
    obtain ⟨r, h1, h2⟩ := iter_up (step := fun q : List BSet × Nat => At_ cls q.1 q.2) (fun (s : List BSet) k => (s, k)) 256 (fun k s => SetsI cls k s) (fun r => (cntF cls = none ∧ r.2 = 1) ∨ (SetsI cls 256 r.1 ∧ r.2 = 0))
      (fun k s hk hI => by
        have hk' : k < cls.length := by omega
        have hsp : cls = cls.take k ++ (nth cls k 0 :: cls.drop (k + 1)) := by
          rw [← List.singleton_append, ← List.append_assoc, ← take_cons' hk', List.take_append_drop]
        have hle := cntF_le _ _ _ hI.cnt
        rw [List.length_take, Nat.zero_add] at hle
        have hstop : (nth cls k 0 < 0 ∨ (s.length : Int) < nth cls k 0) → cntF cls = none := fun hc => by
          rw [hsp, ← List.singleton_append, ← List.append_assoc]
          exact cntF_none (by rw [cntF_snoc, hI.cnt]; simp [cntS, hc])
        have hgo : ∀ l : List BSet, 0 ≤ nth cls k 0 → nth cls k 0 < (l.length : Int) → B7_ cls k l = some (.inl (l.set (nth cls k (0 : Int)).toNat (BSet.make fun b => (nth l (nth cls k (0 : Int)).toNat BSet.zero).has b || (BSet.ofL [toU8 ((k : Nat) : Int)]).has b), k + 1)) := fun l h0 h1 => by
          unfold B7_; rw [grd_mk ⟨h0, h1⟩, grd_mk (by simp), bnd_some (any_eq _ _), grd_mk ⟨h0, h1⟩]; rfl
        show (∃ s', At_ cls s k = _ ∧ _) ∨ ∃ r, At_ cls s k = _ ∧ _
        unfold At_
        rw [iteO_dt (by omega)]
        by_cases c1 : nth cls k 0 < 0
        · right; rw [iteO_dt c1]; exact ⟨_, rfl, .inl ⟨hstop (.inl c1), rfl⟩⟩
        rw [iteO_df c1]
        by_cases c2 : (s.length : Int) < nth cls k 0
        · right; rw [iteO_dt c2]; exact ⟨_, rfl, .inl ⟨hstop (.inr c2), rfl⟩⟩
        rw [iteO_df c2]
        left
        by_cases c3 : nth cls k 0 = (s.length : Int)
        · rw [iteO_dt c3, grd_mk (by simp; omega), hgo _ (by omega) (by simp; omega)]
          refine ⟨_, rfl, sets_put hk hI (n := (nth cls k (0 : Int)).toNat) (by omega) (by simp) (by simp) (by simp; omega) (fun c hc => nth_app_l _ _ _ _ hc) (fun _ => ⟨by omega, ?_⟩) ?_⟩
          · rw [show (nth cls k (0 : Int)).toNat = s.length by omega, nth_app_e]
          · rw [take_cons' hk', cntF_snoc, hI.cnt]; simp [cntS, c3]
        · rw [iteO_df c3, hgo _ (by omega) (by omega)]
          refine ⟨_, rfl, sets_put hk hI (n := (nth cls k (0 : Int)).toNat) (by omega) (Nat.le_refl _) (by omega) (by omega) (fun _ _ => rfl) (fun h => absurd h (Nat.lt_irrefl _)) ?_⟩
          rw [take_cons' hk', cntF_snoc, hI.cnt]; simp [cntS, c3]; omega)
      (fun s hI => ⟨(s, 0), by
        show At_ cls s 256 = _
        unfold At_
        rw [iteO_df (by omega)]; rfl, .inr ⟨hI, rfl⟩⟩) (s0 := []) ⟨rfl, by simp, by simp, by simp⟩
    refine ⟨r, h1, ?_⟩
    rcases h2 with ⟨h2, h3⟩ | ⟨h2, h3⟩
    · exact .inl ⟨.inr h2, h3⟩
    · have h4 := h2.cnt
      rw [List.take_of_length_le (by omega)] at h4
      refine .inr ⟨h256, h4, h3, fun c hc => ?_, h2.some_⟩
      rw [h2.sets c hc]
      exact BSet.make_congr fun b hb => by unfold clsF; rw [decide_eq_true hb, Bool.true_and]
  · rw [iteO_dt (show ((cls.length : Nat) : Int) ≠ 256 by omega)]
    exact ⟨_, rfl, .inl ⟨.inl h256, rfl⟩⟩
end Go.Proofs.YtamgjehhjkgelaaGreatDoor
end

section
namespace Go.Proofs.YtamgjehhjkgelaaGreatDoor
open Go Go.E
theorem partSets_ok (cls : List Int) : ∃ r, C1_ cls = some r ∧ (((cls.length ≠ 256 ∨ cntF cls = none) ∧ r.2 = 1) ∨ (cls.length = 256 ∧ cntF cls = some r.1.length ∧ r.2 = 0)) := by
  obtain ⟨r, h, h1 | h1⟩ := partSets_full cls
  · exact ⟨r, h, .inl h1⟩
  · exact ⟨r, h, .inr ⟨h1.1, h1.2.1, h1.2.2.1⟩⟩
def goodS (n : Nat) (s : Int) : Bool := decide (0 ≤ s) && decide (s < (n : Int))
def goodR (n m : Nat) (row : List Int) : Bool := decide (row.length = m) && row.all (goodS n)
def rightD (d : Dfa) : Bool := decide (d.cls.length = 256) && (match cntF d.cls with | some m => d.next.all (goodR d.next.length m) | none => false) && decide (1 ≤ d.next.length ∧ d.next.length ≤ 1024) && decide (d.fin.length = d.next.length)
theorem all_snocD {α : Type} (p : α → Bool) (l : List α) (x : α) : (l ++ [x]).all p = (l.all p && p x) := by simp [List.all_append]
theorem all_falseD {α : Type} {p : α → Bool} {l : List α} {k : Nat} (hk : k < l.length) (d : α) (h : p (nth l k d) = false) : l.all p = false := by
  rw [List.all_eq_false]; exact ⟨_, List.mem_of_getElem? (getD_some l hk d), by simp [h]⟩
theorem chk_in (d : Dfa) (k : Nat) : ∃ r, iter (fun q : Nat => Be_ d k q) 0 = some r ∧ (((nth d.next k []).all (goodS d.next.length) = true ∧ r = .inl (k + 1)) ∨ ((nth d.next k []).all (goodS d.next.length) = false ∧ r = .inr 1)) :=
  iter_for (step := fun q : Nat => Be_ d k q) (fun (_ : Unit) j => j) (nth d.next k []) 0 (fun pre _ => pre.all (goodS d.next.length) = true) (fun r => ((nth d.next k []).all (goodS d.next.length) = true ∧ r = .inl (k + 1)) ∨ ((nth d.next k []).all (goodS d.next.length) = false ∧ r = .inr 1))
    (fun j s hj hI => by
      simp only [Be_]
      rw [show decide (((j : Nat) : Int) < (((nth d.next k ([] : List Int)).length : Nat) : Int)) = true from decide_eq_true (by omega), iteO_true]
      by_cases c1 : nth (nth d.next k ([] : List Int)) j (0 : Int) < 0
      · right; rw [decide_eq_true c1, iteO_true]; exact ⟨_, rfl, .inr ⟨all_falseD hj 0 (by simp [goodS]; omega), rfl⟩⟩
      rw [decide_eq_false c1, iteO_false]
      by_cases c2 : ((d.next.length : Nat) : Int) ≤ nth (nth d.next k ([] : List Int)) j (0 : Int)
      · right; rw [decide_eq_true c2, iteO_true]; exact ⟨_, rfl, .inr ⟨all_falseD hj 0 (by simp [goodS]; omega), rfl⟩⟩
      rw [decide_eq_false c2, iteO_false]
      left
      exact ⟨(), rfl, by rw [all_snocD, hI]; simp [goodS]; omega⟩)
    (fun s hI => by
      simp only [Be_]
      rw [show decide ((((nth d.next k ([] : List Int)).length : Nat) : Int) < (((nth d.next k ([] : List Int)).length : Nat) : Int)) = false from decide_eq_false (by omega), iteO_false]
      exact ⟨_, rfl, .inl ⟨hI, rfl⟩⟩) (s0 := ()) rfl
theorem chk_out (d : Dfa) (v : (List BSet) × Int) : ∃ r, iter (fun q : Nat => Bf_ d v q) 0 = some r ∧ ((d.next.all (goodR d.next.length v.1.length) = true ∧ r = 0) ∨ (d.next.all (goodR d.next.length v.1.length) = false ∧ r = 1)) :=
  iter_for (step := fun q : Nat => Bf_ d v q) (fun (_ : Unit) j => j) d.next [] (fun pre _ => pre.all (goodR d.next.length v.1.length) = true) (fun r => (d.next.all (goodR d.next.length v.1.length) = true ∧ r = 0) ∨ (d.next.all (goodR d.next.length v.1.length) = false ∧ r = 1))
    (fun k s hk hI => by
      simp only [Bf_]
      rw [show decide (((k : Nat) : Int) < ((d.next.length : Nat) : Int)) = true from decide_eq_true (by omega), iteO_true]
      by_cases c1 : (nth d.next k ([] : List Int)).length = v.1.length
      · rw [show decide ((((nth d.next k ([] : List Int)).length : Nat) : Int) ≠ ((v.1.length : Nat) : Int)) = false from decide_eq_false (by omega), iteO_false]
        obtain ⟨r, h1, h2 | h2⟩ := chk_in d k
        · left; rw [h1, h2.2]; exact ⟨(), rfl, by rw [all_snocD, hI]; simp [goodR, c1, h2.1]⟩
        · right; rw [h1, h2.2]; exact ⟨_, rfl, .inr ⟨all_falseD hk [] (by simp only [goodR, h2.1, Bool.and_false]), rfl⟩⟩
      · right
        rw [show decide ((((nth d.next k ([] : List Int)).length : Nat) : Int) ≠ ((v.1.length : Nat) : Int)) = true from decide_eq_true (by omega), iteO_true]
        exact ⟨_, rfl, .inr ⟨all_falseD hk [] (by simp [goodR, c1]), rfl⟩⟩)
    (fun s hI => by
      simp only [Bf_]
      rw [show decide (((d.next.length : Nat) : Int) < ((d.next.length : Nat) : Int)) = false from decide_eq_false (by omega), iteO_false]
      exact ⟨_, rfl, .inl ⟨hI, rfl⟩⟩) (s0 := ()) rfl
theorem dcheck_eq (d : Dfa) : Dh_ d = some (if rightD d = true then 0 else 1) := by
  unfold Dh_
  obtain ⟨v, hv, h⟩ := partSets_ok d.cls
  rw [bnd_some hv]
  rcases h with ⟨h1, h2⟩ | ⟨h1, h2, h3⟩
  · rw [decide_eq_true (show v.2 ≠ 0 by omega), iteO_true]
    rw [if_neg]
    rcases h1 with h1 | h1
    · simp [rightD, h1]
    · simp [rightD, h1]
  · rw [decide_eq_false (show ¬ v.2 ≠ 0 by omega), iteO_false]
    by_cases c1 : d.next.length < 1
    · rw [show decide (((d.next.length : Nat) : Int) < 1) = true from decide_eq_true (by omega), iteO_true, if_neg]
      simp only [rightD, Bool.and_eq_true, decide_eq_true_eq]; omega
    rw [show decide (((d.next.length : Nat) : Int) < 1) = false from decide_eq_false (by omega), iteO_false]
    by_cases c2 : 1024 < d.next.length
    · rw [show decide (1024 < ((d.next.length : Nat) : Int)) = true from decide_eq_true (by omega), iteO_true, if_neg]
      simp only [rightD, Bool.and_eq_true, decide_eq_true_eq]; omega
    rw [show decide (1024 < ((d.next.length : Nat) : Int)) = false from decide_eq_false (by omega), iteO_false]
    by_cases c3 : d.fin.length = d.next.length
    · rw [show decide (((d.fin.length : Nat) : Int) ≠ ((d.next.length : Nat) : Int)) = false from decide_eq_false (by omega), iteO_false]
      obtain ⟨r, hr, hr2⟩ := chk_out d v
      rw [hr]
      have e : rightD d = d.next.all (goodR d.next.length v.1.length) := by
        simp only [rightD, h1, h2, c3, decide_true, Bool.true_and, Bool.and_true]
        rw [show decide (1 ≤ d.next.length ∧ d.next.length ≤ 1024) = true from decide_eq_true (by omega), Bool.and_true]
      rw [e]
      rcases hr2 with ⟨h4, h5⟩ | ⟨h4, h5⟩
      · rw [h4, h5, if_pos rfl]
      · rw [h4, h5, if_neg (by simp)]
    · rw [show decide (((d.fin.length : Nat) : Int) ≠ ((d.next.length : Nat) : Int)) = true from decide_eq_true (by omega), iteO_true, if_neg]
      simp only [rightD, Bool.and_eq_true, decide_eq_true_eq]; omega
theorem cnt_mem : ∀ (l : List Int) (j m : Nat), l.foldl cntS (some j) = some m → j ≤ m ∧ ∀ n ∈ l, 0 ≤ n ∧ n < (m : Int)
  | [], j, m, h => by cases h; simp
  | n :: l, j, m, h => by
    rw [List.foldl_cons] at h
    by_cases hc : n < 0 ∨ (j : Int) < n
    · rw [show cntS (some j) n = none by simp [cntS, hc], cntS_none] at h; cases h
    · rw [show cntS (some j) n = some (if n = j then j + 1 else j) by simp [cntS, hc]] at h
      obtain ⟨h1, h2⟩ := cnt_mem l _ m h
      refine ⟨by split at h1 <;> omega, fun k hk => ?_⟩
      rcases List.mem_cons.1 hk with rfl | hk
      · split at h1 <;> omega
      · exact h2 k hk
def okS (d : Dfa) (s : Int) : Prop := 0 ≤ s ∧ s < (d.next.length : Int)
def dlt (d : Dfa) (s : Int) (b : UInt8) : Int := nth (nth d.next s.toNat ([] : List Int)) ((nth d.cls b.toNat (0 : Int)).toNat) (0 : Int)
theorem nth_memD {α : Type} {l : List α} {i : Nat} (hi : i < l.length) (d : α) : nth l i d ∈ l := List.mem_of_getElem? (getD_some l hi d)
structure DltOk (d : Dfa) (s : Int) (b : UInt8) : Prop where
  cl : b.toNat < d.cls.length
  c : 0 ≤ nth d.cls b.toNat (0 : Int) ∧ nth d.cls b.toNat (0 : Int) < ((nth d.next s.toNat ([] : List Int)).length : Int)
  nx : okS d (dlt d s b)
  f : 0 ≤ dlt d s b ∧ dlt d s b < (d.fin.length : Int)
end Go.Proofs.YtamgjehhjkgelaaGreatDoor
end

section
namespace Go.Proofs.YtamgjehhjkgelaaGreatDoor
open Go Go.E
def growSt (g : Grow) (x : Tip) : Grow := if g.over = true ∨ 1024 ≤ g.f.starts.length ∨ 1024 < x.out.length then ⟨g.f, true⟩ else ⟨⟨g.f.states, g.f.starts ++ [x], g.f.ends, g.f.arcs⟩, false⟩
def growEn (g : Grow) (x : Tip) : Grow := if g.over = true ∨ 1024 ≤ g.f.ends.length ∨ 1024 < x.out.length then ⟨g.f, true⟩ else ⟨⟨g.f.states, g.f.starts, g.f.ends ++ [x], g.f.arcs⟩, false⟩
def growAr (g : Grow) (x : Arc) : Grow := if g.over = true ∨ 16384 ≤ g.f.arcs.length ∨ 1024 < x.out.length then ⟨g.f, true⟩ else ⟨⟨g.f.states, g.f.starts, g.f.ends, g.f.arcs ++ [x]⟩, false⟩
def lookG (g : Grow) : Fst × Int := if g.over = true ∨ 1024 < g.f.states then (⟨0, [], [], []⟩, 2) else (g.f, 0)
theorem start_eq (g : Grow) (x : Tip) : B8_ g x = some (growSt g x) := by
  unfold B8_ growSt
  obtain ⟨⟨n, S, E, A⟩, o⟩ := g
  cases o with
  | true => rw [if_pos (.inl rfl)]; rfl
  | false =>
    dsimp only
    rw [iteO_false]
    by_cases h1 : 1024 ≤ S.length
    · rw [iteO_dt (by omega), if_pos (.inr (.inl h1))]
    · rw [iteO_df (by omega)]
      by_cases h2 : 1024 < x.out.length
      · rw [iteO_dt (by omega), if_pos (.inr (.inr h2))]
      · rw [iteO_df (by omega), grd_mk (by simp only [List.length_singleton]; omega), if_neg (by simp; omega)]
theorem end_eq (g : Grow) (x : Tip) : Cz_ g x = some (growEn g x) := by
  unfold Cz_ growEn
  obtain ⟨⟨n, S, E, A⟩, o⟩ := g
  cases o with
  | true => rw [if_pos (.inl rfl)]; rfl
  | false =>
    dsimp only
    rw [iteO_false]
    by_cases h1 : 1024 ≤ E.length
    · rw [iteO_dt (by omega), if_pos (.inr (.inl h1))]
    · rw [iteO_df (by omega)]
      by_cases h2 : 1024 < x.out.length
      · rw [iteO_dt (by omega), if_pos (.inr (.inr h2))]
      · rw [iteO_df (by omega), grd_mk (by simp only [List.length_singleton]; omega), if_neg (by simp; omega)]
theorem arc_eq (g : Grow) (x : Arc) : C3_ g x = some (growAr g x) := by
  unfold C3_ growAr
  obtain ⟨⟨n, S, E, A⟩, o⟩ := g
  cases o with
  | true => rw [if_pos (.inl rfl)]; rfl
  | false =>
    dsimp only
    rw [iteO_false]
    by_cases h1 : 16384 ≤ A.length
    · rw [iteO_dt (by omega), if_pos (.inr (.inl h1))]
    · rw [iteO_df (by omega)]
      by_cases h2 : 1024 < x.out.length
      · rw [iteO_dt (by omega), if_pos (.inr (.inr h2))]
      · rw [iteO_df (by omega), grd_mk (by simp only [List.length_singleton]; omega), if_neg (by simp; omega)]
theorem look_eq (g : Grow) : Cb_ g = some (lookG g) := by
  unfold Cb_ lookG
  obtain ⟨⟨n, S, E, A⟩, o⟩ := g
  cases o with
  | true => rw [if_pos (.inl rfl)]; rfl
  | false =>
    dsimp only
    rw [iteO_false]
    by_cases h : 1024 < n
    · rw [iteO_dt h, if_pos (.inr h)]
    · rw [iteO_df h, if_neg (by simp; omega)]
theorem cls_run {S : Type} {B : S → Int × BSet → Option (Nat × S)} {x1 : List BSet} (I : Nat → S → Prop) (hB : ∀ k l, k < x1.length → I k l → ∃ l', B l (((k : Nat) : Int), nth x1 k BSet.zero) = some (0, l') ∧ I (k + 1) l') {l0 : S} (h0 : I 0 l0) :
    ∃ l, Av_ (stepY B) (0, l0) x1 = some (0, l) ∧ I x1.length l := by
  unfold Av_
  obtain ⟨r, h1, l, h2, h3⟩ := iter_up (step := fun q : Nat × (Nat × S) => Ah_ x1 (stepY B) q.1 q.2) (fun (s : S) k => (k, (0, s))) x1.length I (fun r => ∃ l, r = (0, l) ∧ I x1.length l)
    (fun k l hk hI => by
      obtain ⟨l', h1, h2⟩ := hB k l hk hI
      refine .inl ⟨l', ?_, h2⟩
      show Ah_ x1 (stepY B) k (0, l) = _
      unfold Ah_
      rw [iteO_dt (by omega)]
      have hs : stepY B (0, l) (((k : Nat) : Int), nth x1 k BSet.zero) = some ((0, l'), true) := by
        unfold stepY
        rw [if_pos rfl, h1]; rfl
      rw [bnd_some hs]; rfl)
    (fun l hI => ⟨(0, l), by
      show Ah_ x1 (stepY B) x1.length (0, l) = _
      unfold Ah_
      rw [iteO_df (by omega)]; rfl, l, rfl, hI⟩) h0
  exact ⟨l, by rw [h1, h2], h3⟩
structure RowOk (d : Dfa) (m s b : Nat) : Prop where
  cl : b < d.cls.length
  c0 : 0 ≤ nth d.cls b (0 : Int)
  c1 : nth d.cls b (0 : Int) < ((m : Nat) : Int)
  n0 : 0 ≤ nth (nth d.next s ([] : List Int)) (nth d.cls b (0 : Int)).toNat (0 : Int)
  n1 : nth (nth d.next s ([] : List Int)) (nth d.cls b (0 : Int)).toNat (0 : Int) < ((d.next.length : Nat) : Int)
theorem right_parts {d : Dfa} (h : rightD d = true) : ∃ m, cntF d.cls = some m ∧ d.cls.length = 256 ∧ 1 ≤ d.next.length ∧ d.next.length ≤ 1024 ∧ d.fin.length = d.next.length ∧ (∀ s, s < d.next.length → (nth d.next s ([] : List Int)).length = m ∧ ∀ c, c < m → 0 ≤ nth (nth d.next s ([] : List Int)) c (0 : Int) ∧ nth (nth d.next s ([] : List Int)) c (0 : Int) < ((d.next.length : Nat) : Int)) := by
  simp only [rightD, Bool.and_eq_true, decide_eq_true_eq] at h
  obtain ⟨⟨⟨h1, h2⟩, h3⟩, h4⟩ := h
  cases hm : cntF d.cls with
  | none => rw [hm] at h2; cases h2
  | some m =>
    rw [hm] at h2
    refine ⟨m, rfl, h1, h3.1, h3.2, h4, fun s hs => ?_⟩
    have hrow := List.all_eq_true.1 h2 _ (nth_memD (l := d.next) (i := s) hs [])
    simp only [goodR, Bool.and_eq_true, decide_eq_true_eq] at hrow
    refine ⟨hrow.1, fun c hc => ?_⟩
    have hx := List.all_eq_true.1 hrow.2 _ (nth_memD (l := nth d.next s []) (i := c) (by omega) 0)
    simp only [goodS, Bool.and_eq_true, decide_eq_true_eq] at hx
    exact hx
theorem row_ok {d : Dfa} {m : Nat} (h : rightD d = true) (hm : cntF d.cls = some m) {s b : Nat} (hs : s < d.next.length) (hb : b < 256) : RowOk d m s b := by
  obtain ⟨m', h1, h2, h3, h4, h5, h6⟩ := right_parts h
  rw [hm] at h1; cases h1
  have hcl : b < d.cls.length := by omega
  have hc := (cnt_mem d.cls 0 m hm).2 _ (nth_memD hcl 0)
  obtain ⟨-, h7⟩ := h6 s hs
  have h8 := h7 (nth d.cls b (0 : Int)).toNat (by omega)
  exact ⟨hcl, hc.1, hc.2, h8.1, h8.2⟩
theorem toS_far {d : Dfa} (h : rightD d = true) {s z : Nat} (hs : s < d.next.length) (hz : d.next.length ≤ z) : toS d s z = BSet.zero := by
  obtain ⟨m, hm, -⟩ := right_parts h
  unfold toS
  rw [← BSet.make_zero]
  refine BSet.make_congr fun b hb => decide_eq_false ?_
  have := (row_ok h hm hs hb).n1
  omega
theorem backR_snoc (d : Dfa) (s m : Nat) : backR d s (m + 1) = backR d s m ++ (if toS d s m = BSet.zero then [] else [⟨((s : Nat) : Int), ((m : Nat) : Int), toS d s m⟩]) := by
  unfold backR
  rw [List.range_succ, List.flatMap_append]; simp
theorem backR_far {d : Dfa} (h : rightD d = true) {s : Nat} (hs : s < d.next.length) : ∀ j, backR d s (d.next.length + j) = backR d s d.next.length
  | 0 => rfl
  | j + 1 => by rw [← Nat.add_assoc, backR_snoc, toS_far h hs (by omega), if_pos rfl, List.append_nil, backR_far h hs j]
theorem backE_snoc (d : Dfa) (m : Nat) : backE d (m + 1) = backE d m ++ backR d m d.next.length := by
  unfold backE
  rw [List.range_succ, List.flatMap_append]; simp
theorem endsN_snoc (d : Dfa) (m : Nat) : endsN d (m + 1) = endsN d m ++ (if nth d.fin m false = true then [((m : Nat) : Int)] else []) := by
  unfold endsN
  rw [List.range_succ, List.flatMap_append]; simp
structure ByI (d : Dfa) (s k : Nat) (l : List BSet) : Prop where
  len : l.length = 1024
  at_ : ∀ z, z < 1024 → nth l z BSet.zero = BSet.make fun b => decide (nth d.cls b (0 : Int) < ((k : Nat) : Int)) && decide (nth (nth d.next s ([] : List Int)) (nth d.cls b (0 : Int)).toNat (0 : Int) = ((z : Nat) : Int))
theorem by_step {d : Dfa} {m s k : Nat} {l : List BSet} (h : rightD d = true) (hm : cntF d.cls = some m) (hs : s < d.next.length) (hk : k < m) (hI : ByI d s k l) :
    ∃ l', Bo_ d s l ((k : Nat) : Int) (clsS d.cls k) = some (0, l') ∧ ByI d s (k + 1) l' := by
  obtain ⟨m', h1, h2, h3, h4, h5, h6⟩ := right_parts h
  rw [hm] at h1; cases h1
  obtain ⟨h7, h8⟩ := h6 s hs
  have h9 := h8 k hk
  have hz : (nth (nth d.next s ([] : List Int)) k (0 : Int)).toNat < l.length := by rw [hI.len]; omega
  refine ⟨l.set (nth (nth d.next s ([] : List Int)) k (0 : Int)).toNat (BSet.make fun b => (nth l (nth (nth d.next s ([] : List Int)) k (0 : Int)).toNat BSet.zero).has b || (clsS d.cls k).has b), ?_, ⟨by rw [List.length_set]; exact hI.len, fun z hz2 => ?_⟩⟩
  · unfold Bo_
    rw [show ((k : Nat) : Int).toNat = k from Int.toNat_natCast k]
    have q1 : 0 ≤ ((k : Nat) : Int) ∧ ((k : Nat) : Int) < (((nth d.next s ([] : List Int)).length : Nat) : Int) := ⟨by omega, by omega⟩
    have q2 : 0 ≤ nth (nth d.next s ([] : List Int)) k (0 : Int) ∧ nth (nth d.next s ([] : List Int)) k (0 : Int) < 1024 := ⟨h9.1, by omega⟩
    first | rw [grd_mk hs, grd_mk q1, grd_mk hs, grd_mk q1, grd_mk q2, bnd_some (any_eq _ _), grd_mk q2] | rw [grd_mk q1, grd_mk q1, grd_mk q2, bnd_some (any_eq _ _), grd_mk q2]
  · rw [nth_set' _ _ _ _ _ hz]
    split
    · rename_i e
      subst e
      rw [hI.at_ _ hz2]
      refine BSet.make_congr fun b hb => ?_
      have hr := row_ok h hm hs hb
      rw [BSet.make_has _ hb]
      unfold clsS
      rw [BSet.make_has _ hb]
      by_cases e1 : nth d.cls b (0 : Int) = ((k : Nat) : Int)
      · rw [e1, Int.toNat_natCast]
        simp; omega
      · rw [decide_eq_false e1, Bool.or_false]
        congr 1
        rw [decide_eq_decide]; omega
    · rename_i e
      rw [hI.at_ _ hz2]
      refine BSet.make_congr fun b hb => ?_
      have hr := row_ok h hm hs hb
      by_cases e1 : nth d.cls b (0 : Int) = ((k : Nat) : Int)
      · rw [e1, Int.toNat_natCast, decide_eq_false (show ¬ nth (nth d.next s ([] : List Int)) k (0 : Int) = ((z : Nat) : Int) by omega)]; simp
      · congr 1
        rw [decide_eq_decide]; omega
theorem by_all {d : Dfa} {m s : Nat} {l : List BSet} (h : rightD d = true) (hm : cntF d.cls = some m) (hs : s < d.next.length) (hI : ByI d s m l) : l.length = 1024 ∧ ∀ z, z < 1024 → nth l z BSet.zero = toS d s z :=
  ⟨hI.len, fun z hz => by
    rw [hI.at_ z hz]
    unfold toS
    refine BSet.make_congr fun b hb => ?_
    rw [decide_eq_true (row_ok h hm hs hb).c1, Bool.true_and]⟩
theorem nth_rep {α : Type} (n i : Nat) (x : α) : nth (List.replicate n x) i x = x := by
  unfold nth
  rw [List.getD_eq_getElem?_getD, List.getElem?_replicate]
  split <;> rfl
theorem bys_run {d : Dfa} {v6 : List BSet × Int} {s : Nat} (h : rightD d = true) (hm : cntF d.cls = some v6.1.length) (hsets : ∀ c, c < v6.1.length → nth v6.1 c BSet.zero = clsS d.cls c) (hs : s < d.next.length) :
    ∃ l, Av_ (stepY (fun (q : (List BSet)) (x : Int × BSet) => Bo_ d s q x.1 x.2)) (0, (List.replicate 1024 BSet.zero)) v6.1 = some (0, l) ∧ l.length = 1024 ∧ ∀ z, z < 1024 → nth l z BSet.zero = toS d s z := by
  obtain ⟨l, h1, h2⟩ := cls_run (B := fun (q : (List BSet)) (x : Int × BSet) => Bo_ d s q x.1 x.2) (x1 := v6.1) (ByI d s) (fun k l hk hI => by
    dsimp only
    rw [hsets k hk]; exact by_step h hm hs hk hI) (l0 := List.replicate 1024 BSet.zero) ⟨List.length_replicate, fun z _ => by
      rw [nth_rep, ← BSet.make_zero]
      refine BSet.make_congr fun b hb => ?_
      have := (row_ok h hm hs hb).c0
      rw [decide_eq_false (by omega), Bool.false_and]⟩
  exact ⟨l, h1, by_all h hm hs h2⟩
theorem back_in {d : Dfa} {s : Nat} {l : List BSet} {E : List Int} {A0 : List Arrow} (h : rightD d = true) (hs : s < d.next.length) (hl : ∀ z, z < 1024 → nth l z BSet.zero = toS d s z) (hA : A0.length ≤ 20000) (hn : d.next.length ≤ 100) :
    iter (fun q : (List Arrow) × Nat => Az_ l s E q.1 q.2) (A0, 0) = some (.inl (E, A0 ++ backR d s d.next.length, s + 1)) := by
  obtain ⟨r, h1, rfl⟩ := iter_up (step := fun q : (List Arrow) × Nat => Az_ l s E q.1 q.2) (fun (A : List Arrow) k => (A, k)) 1024 (fun k A => A = A0 ++ backR d s k) (fun r => r = .inl (E, A0 ++ backR d s d.next.length, s + 1))
    (fun k A hk hI => by
      subst hI
      have hlen := backR_len d s k
      refine .inl ⟨A0 ++ backR d s (k + 1), ?_, rfl⟩
      show Az_ l s E _ k = _
      unfold Az_ C6_
      rw [iteO_dt (by omega), hl k hk]
      by_cases hz : toS d s k = BSet.zero
      · rw [iteO_df (by simpa using hz), backR_snoc, if_pos hz, List.append_nil]; rfl
      · rw [iteO_dt hz, grd_mk (by simp only [List.length_append, List.length_singleton]; omega), backR_snoc, if_neg hz, List.append_assoc]; rfl)
    (fun A hI => by
      subst hI
      have hlen := backR_len d s d.next.length
      have e := backR_far h hs (1024 - d.next.length)
      rw [show d.next.length + (1024 - d.next.length) = 1024 by omega] at e
      refine ⟨_, ?_, rfl⟩
      show Az_ l s E _ 1024 = _
      unfold Az_
      rw [iteO_df (by omega), e, iteO_df (by simp only [List.length_append]; omega)]; rfl) (s0 := A0) (by simp [backR])
  exact h1
theorem dback_eq {d : Dfa} (hn : d.next.length ≤ 100) : Fa_ d = some (if rightD d = true then (backN d, 0) else (⟨0, [], [], []⟩, 1)) := by
  unfold Fa_
  obtain ⟨v6, hv, hp⟩ := partSets_full d.cls
  rw [bnd_some hv]
  by_cases h : rightD d = true
  · rw [if_pos h]
    obtain ⟨m, hm, h2, h3, h4, h5, h6⟩ := right_parts h
    rcases hp with ⟨hp, -⟩ | ⟨-, hc, h0, hsets, -⟩
    · rcases hp with hp | hp
      · exact absurd h2 hp
      · rw [hm] at hp; cases hp
    rw [iteO_df (by omega), dcheck_eq, bnd_mk, if_pos h, iteO_df (by simp)]
    have hm2 : m = v6.1.length := by rw [hm] at hc; exact Option.some.inj hc
    subst hm2
    obtain ⟨r, h7, rfl⟩ := iter_up (step := fun q : (List Int) × (List Arrow) × Nat => Ba_ d v6 q.1 q.2.1 q.2.2) (fun (s : List Int × List Arrow) k => (s.1, s.2, k)) d.next.length (fun k s => s = (endsN d k, backE d k)) (fun r => r = (backN d, 0))
      (fun k s hk hI => by
        subst hI
        have e1 := endsN_len d k
        have e2 := backE_len d k
        have e3 := Nat.mul_le_mul (show k ≤ 100 by omega) hn
        obtain ⟨l, q1, q2, q3⟩ := bys_run h hm hsets hk
        refine .inl ⟨(endsN d (k + 1), backE d (k + 1)), ?_, rfl⟩
        show Ba_ d v6 _ _ k = _
        have hj : ∀ E : List Int, Ck_ v6 d k (backE d k) E = some (.inl (E, backE d (k + 1), k + 1)) := fun E => by
          unfold Ck_ B4_
          rw [bnd_mk, bnd_some q1]
          show Dm_ k E (backE d k) 0 l = _
          unfold Dm_
          show iter _ _ = _
          rw [back_in h hk q3 (by omega) hn, backE_snoc]
        unfold Ba_
        rw [iteO_dt (by omega), grd_mk (by omega), endsN_snoc]
        by_cases hf : nth d.fin k false = true
        · rw [hf, iteO_true, if_pos rfl, grd_mk (by simp only [List.length_singleton]; omega), hj]
        · simp only [Bool.not_eq_true] at hf
          rw [hf, iteO_false, if_neg (by simp), List.append_nil, hj])
      (fun s hI => by
        subst hI
        refine ⟨_, ?_, rfl⟩
        show Ba_ d v6 _ _ d.next.length = _
        unfold Ba_
        rw [iteO_df (by omega)]; rfl) (s0 := ([], [])) (by simp [endsN, backE])
    exact h7
  · rw [if_neg h, dcheck_eq]
    by_cases hv2 : v6.2 = 0
    · rw [iteO_df (by omega), bnd_mk, if_neg h, iteO_dt (by simp)]
    · rw [iteO_dt hv2]
theorem gstarts_run {v5 : Nfa × Int} {x1 : List UInt8} {x2 : Bool} {n : Int} {R : Fst × Int} (hs : v5.1.starts = [0])
    (hnext : iter (fun q : Int × (List Tip) × (List Tip) × (List Arc) × Bool × Nat => A0_ v5 x1 x2 q.1 q.2.1 q.2.2.1 q.2.2.2.1 q.2.2.2.2.1 q.2.2.2.2.2) (n, [⟨0, []⟩], [], [], false, 0) = some R) :
    iter (fun q : Int × (List Tip) × (List Tip) × (List Arc) × Bool × Nat => A7_ v5 x1 x2 q.1 q.2.1 q.2.2.1 q.2.2.2.1 q.2.2.2.2.1 q.2.2.2.2.2) (n, [], [], [], false, 0) = some R := by
  have h1 : A7_ v5 x1 x2 n [] [] [] false 0 = some (.inl (n, [⟨0, []⟩], [], [], false, 1)) := by
    unfold A7_
    rw [hs, iteO_dt (by simp), start_eq, bnd_mk]; rfl
  refine iter_next (s' := (n, [⟨0, []⟩], [], [], false, 1)) h1 (iter_done ?_)
  show A7_ v5 x1 x2 n [⟨0, []⟩] [] [] false 1 = _
  unfold A7_
  rw [hs, iteO_df (by simp)]
  show fin _ = _
  rw [hnext]; rfl
theorem ratBack_eq {d : Dfa} (hn : d.next.length ≤ 100) (out : List UInt8) (c : Bool) (ho : out.length ≤ 1024) : E8_ d out c = some (if rightD d = true then (mkF d out c, 0) else (⟨0, [], [], []⟩, 1)) := by
  unfold E8_
  rw [grd_mk (by omega), dback_eq hn, bnd_mk]
  by_cases h : rightD d = true
  · rw [if_pos h, if_pos h]
    dsimp only
    rw [iteO_df (by simp)]
    have e1 := endsN_len d d.next.length
    have e2 := backE_len d d.next.length
    have e3 := Nat.mul_le_mul hn hn
    refine gstarts_run (v5 := (backN d, 0)) rfl ?_
    obtain ⟨r, h1, rfl⟩ := iter_up (step := fun q : Int × (List Tip) × (List Tip) × (List Arc) × Bool × Nat => A0_ (backN d, 0) out c q.1 q.2.1 q.2.2.1 q.2.2.2.1 q.2.2.2.2.1 q.2.2.2.2.2) (fun (E : List Tip) k => (((d.next.length : Nat) : Int), [⟨0, []⟩], E, [], false, k)) (endsN d d.next.length).length
      (fun k E => E = ((endsN d d.next.length).take k).map fun s => ⟨s, out⟩) (fun r => r = (mkF d out c, 0))
      (fun k E hk hI => by
        subst hI
        refine .inl ⟨_, ?_, rfl⟩
        show A0_ (backN d, 0) out c _ _ _ _ _ k = _
        unfold A0_
        show iteO (decide (((k : Nat) : Int) < (((endsN d d.next.length).length : Nat) : Int))) _ _ = _
        rw [iteO_dt (by omega), end_eq, bnd_mk]
        unfold growEn
        rw [if_neg (by simp only [Bool.false_eq_true, false_or, List.length_map, List.length_take]; omega)]
        rw [List.take_add_one, getD_some _ hk 0, Option.toList_some, List.map_append]; rfl)
      (fun E hI => by
        subst hI
        rw [List.take_length]
        refine ⟨_, ?_, rfl⟩
        show A0_ (backN d, 0) out c _ _ _ _ _ (endsN d d.next.length).length = _
        unfold A0_
        show iteO (decide ((((endsN d d.next.length).length : Nat) : Int) < (((endsN d d.next.length).length : Nat) : Int))) _ _ = _
        rw [iteO_df (by omega)]
        obtain ⟨r, h1, rfl⟩ := iter_up (step := fun q : Int × (List Tip) × (List Tip) × (List Arc) × Bool × Nat => A6_ (backN d, 0) c q.1 q.2.1 q.2.2.1 q.2.2.2.1 q.2.2.2.2.1 q.2.2.2.2.2) (fun (A : List Arc) k => (((d.next.length : Nat) : Int), [⟨0, []⟩], (endsN d d.next.length).map (fun s => (⟨s, out⟩ : Tip)), A, false, k)) (backE d d.next.length).length
          (fun k A => A = ((backE d d.next.length).take k).map fun x => ⟨x.frm, x.to, x.set, [], c⟩) (fun r => r = (mkF d out c, 0))
          (fun k A hk hI => by
            subst hI
            refine .inl ⟨_, ?_, rfl⟩
            show A6_ (backN d, 0) c _ _ _ _ _ k = _
            unfold A6_
            show iteO (decide (((k : Nat) : Int) < (((backE d d.next.length).length : Nat) : Int))) _ _ = _
            rw [iteO_dt (by omega), arc_eq, bnd_mk]
            unfold growAr
            rw [if_neg (by simp only [Bool.false_eq_true, false_or, List.length_map, List.length_take, List.length_nil]; omega)]
            rw [List.take_add_one, getD_some _ hk Arrow.zero, Option.toList_some, List.map_append]; rfl)
          (fun A hI => by
            subst hI
            rw [List.take_length]
            refine ⟨_, ?_, rfl⟩
            show A6_ (backN d, 0) c _ _ _ _ _ (backE d d.next.length).length = _
            unfold A6_
            show iteO (decide ((((backE d d.next.length).length : Nat) : Int) < (((backE d d.next.length).length : Nat) : Int))) _ _ = _
            rw [iteO_df (by omega), look_eq, bnd_mk]
            unfold lookG
            rw [if_neg (by simp only [Bool.false_eq_true, false_or]; omega)]; rfl) (s0 := []) (by simp)
        show fin (iter _ _) = _
        rw [h1]; rfl) (s0 := []) (by simp)
    exact h1
  · rw [if_neg h, if_neg h]; rfl
theorem cross_eq {d : Dfa} (hn : d.next.length ≤ 100) (out : List UInt8) (ho : out.length ≤ 281474976710656) : Dg_ d out = some (if rightD d = true then (if 1024 < out.length then (⟨0, [], [], []⟩, 2) else (mkF d out false, 0)) else (⟨0, [], [], []⟩, 1)) := by
  unfold Dg_
  rw [grd_mk ho, dcheck_eq, bnd_mk]
  by_cases h : rightD d = true
  · rw [if_pos h, if_pos h, iteO_df (by simp)]
    by_cases h2 : 1024 < out.length
    · rw [iteO_dt (by omega), if_pos h2]
    · rw [iteO_df (by omega), if_neg h2, ratBack_eq hn out false (by omega), bnd_mk, if_pos h]
  · rw [if_neg h, if_neg h, iteO_dt (by simp)]
end Go.Proofs.YtamgjehhjkgelaaGreatDoor
end

section
namespace Go.Proofs.YtamgjehhjkgelaaGreatDoor
open Go Go.E
end Go.Proofs.YtamgjehhjkgelaaGreatDoor
end

section
namespace Go.Proofs.YtamgjehhjkgelaaGreatDoor
open Go Go.E
structure Alike (s t : Fst) : Prop where
  states : s.states = t.states
  starts : ∀ x, x ∈ s.starts ↔ x ∈ t.starts
  ends : ∀ x, x ∈ s.ends ↔ x ∈ t.ends
  arcs : ∀ x, x ∈ s.arcs ↔ x ∈ t.arcs
structure Within (s t : Fst) : Prop where
  starts : ∀ x ∈ s.starts, x ∈ t.starts
  ends : ∀ x ∈ s.ends, x ∈ t.ends
  arcs : ∀ x ∈ s.arcs, x ∈ t.arcs
theorem same_run {α R : Type} {step : Nat → Option (Nat ⊕ R)} {y : R} (n : Nat) (hs : ∀ k, k < n → step k = some (.inl (k + 1))) (hd : step n = some (.inr y)) : iter step 0 = some y := iter_seq0 (fun k => k) n hs hd
theorem texts_refl (l : List (List UInt8)) : Bd_ l l = some true := by
  unfold Bd_
  rw [decide_eq_false (by simp), iteO_false]
  refine same_run (α := Unit) l.length (fun k hk => ?_) ?_
  · simp only [Ao_, lt_dec hk, iteO_true, grd_mk hk, ne_eq, not_true_eq_false, decide_false, iteO_false]; rfl
  · simp only [Ao_, Int.lt_irrefl, decide_false, iteO_false]; rfl
theorem sameTips_refl (l : List Tip) : Aw_ l l = some true := by
  unfold Aw_
  rw [decide_eq_false (by simp), iteO_false]
  refine same_run (α := Unit) l.length (fun k hk => ?_) ?_
  · simp only [Ak_, lt_dec hk, iteO_true, grd_mk hk, not_true_eq_false, decide_false, iteO_false]; rfl
  · simp only [Ak_, Int.lt_irrefl, decide_false, iteO_false]; rfl
end Go.Proofs.YtamgjehhjkgelaaGreatDoor
end

section
namespace Go.E
open Go
theorem OpVal.gtrBs {P : Program} {n : Nat} {e : Env} {σ : Store} {H : List Res} {o : Oper} {x y : Operand} {l m : List UInt8} {T T' : TypeId} (ho : o.op = .binOp .gtr T x y T') (hx : ev e x = .string (bs l)) (hy : ev e y = .string (bs m)) : OpVal P n o e σ H (.bool (!(decide (Lib.compareBytes l m < 0) || l == m))) := fun w _ => by
  simp only [execOp, ho, hx, hy, Sem.run_bind, run_eqGuard_str, Result.andThen_ok, binOp, Op.stringOp, ByteArray.toList_eq, bs_list, bytesLess_eq, Sem.run_pure]
end Go.E
end

section
namespace Go.Proofs.YtamgjehhjkgelaaGreatDoor
open Go Go.E Go.E.OpVal Go.E.OpOk Go.Proofs.Tryz
private theorem ag9 : Go.E.aggOf Tryz.prog 9 = some false := by kernel_rfl
private theorem fo43_0 : Go.E.foOf Tryz.prog 43 0 = some 0 := by kernel_rfl
private theorem fo43_1 : Go.E.foOf Tryz.prog 43 1 = some 1 := by kernel_rfl
private theorem pf104 : Go.E.plainF Tryz.prog 104 = true := by kernel_rfl
private theorem pf131 : Go.E.plainF Tryz.prog 131 = true := by kernel_rfl
private theorem pf92 : Go.E.plainF Tryz.prog 92 = true := by kernel_rfl
private theorem pf93 : Go.E.plainF Tryz.prog 93 = true := by kernel_rfl
noncomputable def isNaNS (x0 : List UInt8) : Option (Bool) :=
 some (decide (x0 ≠ x0))
theorem isNaNS_con {σ : Store} {x0 : List UInt8}  {r : Bool} (hh : isNaNS x0 = some r) :
  Con Tryz.prog 131 #[.string (bs x0)] σ [] (PureP (.bool r) σ) := by
 dsimp only [isNaNS] at hh
 refine Con.mk (n := 6) Tryz.func131 z z z (fun w0 => ?_)
 refine TC.a (TL.j z z (TL.en (TC.a (TL.w z (moveStr (.inl z) z) (TL.w z (moveStr (.inl z) z) (TL.w z (neqBs z z z) (TL.j z z (TL.en (TC.ret ?_)))))))))
 obtain rfl := so hh
 exact rq [2] ⟨z, z, z⟩
noncomputable def compareS (x0 : List UInt8) (x1 : List UInt8) : Option (Int) :=
 bnd (isNaNS x0) (fun v3 => bnd (isNaNS x1) (fun v6 => iteO v3 (iteO v6 (some 0) (some (-1))) (iteO v6 (some 1) (iteO (decide (Lib.compareBytes x0 x1 < 0)) (some (-1)) (iteO (!(decide (Lib.compareBytes x0 x1 < 0) || x0 == x1)) (some 1) (some 0))))))
theorem compareS_con {σ : Store} {x0 : List UInt8} {x1 : List UInt8}  {r : Int} (hh : compareS x0 x1 = some r) :
  Con Tryz.prog 104 #[.string (bs x0), .string (bs x1)] σ [] (PureP (.int .i64 r) σ) := by
 dsimp only [compareS] at hh
 refine Con.mk (n := 20) Tryz.func104 z z z (fun w0 => ?_)
 refine TC.a (TL.i z z (TL.en (TC.a (TL.w z (moveStr (.inl z) z) ?_))))
 obtain ⟨v3, u3, hh⟩ := bnd_e hh
 refine TL.op z (callP (isNaNS_con u3) z z pf131 z z z ?_)
 refine TL.j z z (TL.en (TC.a (TL.w z (moveStr (.inl z) z) ?_)))
 obtain ⟨v6, u6, hh⟩ := bnd_e hh
 refine TL.op z (callP (isNaNS_con u6) z z pf131 z z z ?_)
 refine TL.j z z (TL.en (TC.seq (TC.a (TL.j z z (TL.en (TC.cB z hh (fun h101 hh => ?_) (fun h101 hh => ?_)))))))
 ·refine TC.seq (TC.a (TL.j z z (TL.en (TC.cB z hh (fun h102 hh => ?_) (fun h102 hh => ?_)))))
  ·refine TC.a (TL.i z z (TL.en (TC.ret (S.r (S.r ?_)))))
   obtain rfl := so hh
   exact rq [4] ⟨z, z, z⟩
  ·refine TC.skip (S.n (TC.a (TL.i z z (TL.en (TC.ret (S.r ?_))))))
   obtain rfl := so hh
   exact rq [4] ⟨z, z, z⟩
 ·refine TC.skip (S.n (TC.seq (TC.a (TL.j z z (TL.en (TC.cB z hh (fun h103 hh => ?_) (fun h103 hh => ?_)))))))
  ·refine TC.a (TL.i z z (TL.en (TC.ret (S.r ?_))))
   obtain rfl := so hh
   exact rq [4] ⟨z, z, z⟩
  ·refine TC.skip (S.n (TC.seq (TC.a (TL.w z (moveStr (.inl z) z) (TL.w z (moveStr (.inl z) z) (TL.w z (lssBs z z z) (TL.en (TC.cD z hh (fun h104 hh => ?_) (fun h104 hh => ?_)))))))))
   ·refine TC.a (TL.i z z (TL.en (TC.ret (S.r ?_))))
    obtain rfl := so hh
    exact rq [4] ⟨z, z, z⟩
   ·refine TC.skip (S.n (TC.seq (TC.a (TL.w z (moveStr (.inl z) z) (TL.w z (moveStr (.inl z) z) (TL.w z (gtrBs z z z) (TL.en (TC.cB z hh (fun h105 hh => ?_) (fun h105 hh => ?_)))))))))
    ·refine TC.a (TL.i z z (TL.en (TC.ret (S.r ?_))))
     obtain rfl := so hh
     exact rq [4] ⟨z, z, z⟩
    ·refine TC.skip (S.n (TC.a (TL.i z z (TL.en (TC.ret ?_)))))
     obtain rfl := so hh
     exact rq [4] ⟨z, z, z⟩
noncomputable def comp_compare (x0 : Tip) (x1 : Tip) : Option (Int) :=
 bnd (A8_ x0.state x1.state) (fun v8 => bnd (compareS x0.out x1.out) (fun v13 => bnd (E3_ [v8, v13]) (fun v15 => some v15)))
theorem comp_compare_con {σ : Store} {x0 : Tip} {x1 : Tip}  {r : Int} (hh : comp_compare x0 x1 = some r) :
  Con Tryz.prog 69 #[.agg #[.int .i64 x0.state, .string (bs x0.out)], .agg #[.int .i64 x1.state, .string (bs x1.out)]] σ [] (PureP (.int .i64 r) σ) := by
 dsimp only [comp_compare] at hh
 refine Con.mk (n := 17) Tryz.func69 z z z (fun w0 => ?_)
 refine TC.a (TL.op z (boxA z z z z (fun b101 => ?_)))
 refine TL.op z (boxA z z z z (fun b103 => ?_))
 refine TL.i z z (TL.en (TC.seq ?_))
 obtain ⟨v8, u8, hh⟩ := bnd_e hh
 obtain ⟨v13, u13, hh⟩ := bnd_e hh
 obtain ⟨v15, u15, hh⟩ := bnd_e hh
 refine TC.draw [] (by kernel_rfl) (TA.a 0 z (fieldLoc z fo43_0 z) z (TA.b 1 z (loadLoc z ag3 z (i := 1) z z) z (TA.a 2 z (fieldLoc z fo43_0 z) z (TA.b 3 z (loadLoc z ag3 z (i := 0) z z) z (TA.a 5 z (fieldLoc z fo43_1 z) z (TA.b 6 z (loadLoc z ag9 z (i := 1) z z) z (TA.a 7 z (fieldLoc z fo43_1 z) z (TA.b 8 z (loadLoc z ag9 z (i := 0) z z) z (TA.ac 4 z (callP (B3_ u8) z z pf93 z z z (k0 ?_)))))))))))
 refine TA.ac 9 z (callP (compareS_con u13) z z pf104 z z z (k0 ?_))
 refine TA.ac 10 z (OpOk.lit (enc := Go.E.encI) [v8, v13] z underlying46 sz3 ze3 z z z Go.E.encI_len (by decide) (by decide) (0 : Int) z (by decide) z (by decide) Go.E.encI_one (fun a110 c111 => (k1 ?_)))
 refine TA.ac 11 z (callK (Con.lend Go.E.encI_len (fun _ hle114 hr113 => Fu_ hr113 u15)) z z pf92 z z z z (k1 ?_))
 refine TA.a 12 z (moveI (.inr z) z) z (TA.dn (S.n (TC.rt 0 ?_)))
 obtain rfl := so hh
 exact rq [4] ⟨z, z, z⟩
end Go.Proofs.YtamgjehhjkgelaaGreatDoor
end

section
namespace Go.Proofs.YtamgjehhjkgelaaGreatDoor
open Go Go.E
theorem cmpB_vals : ∀ x y : List UInt8, (iteO (decide (Lib.compareBytes x y < 0)) (some (-1 : Int)) (iteO (!(decide (Lib.compareBytes x y < 0) || x == y)) (some 1) (some 0))) = some (Lib.compareBytes x y)
  | [], [] => rfl
  | [], _ :: _ => rfl
  | _ :: _, [] => rfl
  | a :: x, b :: y => by
    have ih := cmpB_vals x y
    unfold Lib.compareBytes
    by_cases h : a < b
    · rw [if_pos h]; rfl
    · rw [if_neg h]
      by_cases h2 : b < a
      · rw [if_pos h2]
        have : (a :: x == b :: y) = false := by
          rw [beq_eq_false_iff_ne]
          intro e; cases e; exact h h2
        rw [this]; rfl
      · rw [if_neg h2]
        have e : a = b := UInt8.le_antisymm (UInt8.not_lt.1 h2) (UInt8.not_lt.1 h)
        subst e
        have : (a :: x == a :: y) = (x == y) := by simp
        rw [this]; exact ih
theorem compareS_eq (x y : List UInt8) : compareS x y = some (Lib.compareBytes x y) := by
  unfold compareS isNaNS
  rw [← cmpB_vals x y]
  simp [bnd, iteO]
theorem comp_compare_eq (x y : Tip) : comp_compare x y = some (cmpTip x y) := by
  unfold comp_compare
  rw [bnd_some (B5_ _ _), bnd_some (compareS_eq _ _), bnd_some (F7_ _)]; rfl
theorem Hk_ {σ : Store} {a : Option Addr} {c : Nat} {l : List Tip} : Con Tryz.prog 68 #[.slice a l.length c, .func (.func 69) #[] #[]] σ [Res.rowS 43 2 encTip (.slice a l.length c) l] (SortP 43 2 encTip a c l (sortL cmpTip l) σ) :=
  Con.sortK (k := 2) layT0 rfl Tryz.isAgg43 Tryz.sizeOf43 encTip_len encTip_one cmpTip_good.total (fun args w => run_callFunc (by kernel_rfl) args w) (fun x y τ => comp_compare_con (comp_compare_eq x y))
end Go.Proofs.YtamgjehhjkgelaaGreatDoor
end

section
namespace Go.Proofs.YtamgjehhjkgelaaGreatDoor
open Go Go.E Go.E.OpVal Go.E.OpOk Go.Proofs.Tryz
private theorem ag23 : Go.E.aggOf Tryz.prog 23 = some false := by kernel_rfl
private theorem ag25 : Go.E.aggOf Tryz.prog 25 = some true := by kernel_rfl
private theorem ag4 : Go.E.aggOf Tryz.prog 4 = some false := by kernel_rfl
private theorem ag43 : Go.E.aggOf Tryz.prog 43 = some true := by kernel_rfl
private theorem ag66 : Go.E.aggOf Tryz.prog 66 = some true := by kernel_rfl
private theorem by23 : Go.E.byOf Tryz.prog 23 = some 24 := by kernel_rfl
private theorem by43 : Go.E.byOf Tryz.prog 43 = some 24 := by kernel_rfl
private theorem by66 : Go.E.byOf Tryz.prog 66 = some 72 := by kernel_rfl
private theorem fo25_0 : Go.E.foOf Tryz.prog 25 0 = some 0 := by kernel_rfl
private theorem fo25_3 : Go.E.foOf Tryz.prog 25 3 = some 3 := by kernel_rfl
private theorem fo66_0 : Go.E.foOf Tryz.prog 66 0 = some 0 := by kernel_rfl
private theorem fo66_1 : Go.E.foOf Tryz.prog 66 1 = some 1 := by kernel_rfl
private theorem fo66_2 : Go.E.foOf Tryz.prog 66 2 = some 2 := by kernel_rfl
private theorem fo66_3 : Go.E.foOf Tryz.prog 66 3 = some 6 := by kernel_rfl
private theorem fo66_4 : Go.E.foOf Tryz.prog 66 4 = some 7 := by kernel_rfl
private theorem es43 (x y : Tip) : Go.E.EqAt Tryz.prog 2 43 (.agg (Go.E.encTip x).toArray) (.agg (Go.E.encTip y).toArray) (decide (x = y)) :=
 (EqAt.struct (ts := [(false, 3, 0), (false, 9, 1)]) (by kernel_rfl) (by kernel_rfl) (by kernel_rfl) (EqC.one (by kernel_rfl) rfl rfl (EqAt.int underlying3 x.state y.state) (EqC.one (by kernel_rfl) rfl rfl (EqAt.str underlying9 x.out y.out) EqC.nil))).of (by rw [Bool.eq_iff_iff]; cases x; cases y; simp)
private theorem kl43 : Go.E.KeyL Tryz.prog 43 (fun x => Value.agg (Go.E.encTip x).toArray) :=
 KeyL.struct underlying43 es43 rfl (fun x => CkAt.struct (n := 1) (ts := [(false, 3, 0), (false, 9, 1)]) (by kernel_rfl) (by kernel_rfl) (CkC.one (by kernel_rfl) rfl (CkAt.int underlying3 _) (CkC.one (by kernel_rfl) rfl (CkAt.str underlying9 _) CkC.nil))) rfl encTip_bits
private theorem pf21 : Go.E.plainF Tryz.prog 21 = true := by kernel_rfl
private theorem pf22 : Go.E.plainF Tryz.prog 22 = true := by kernel_rfl
private theorem pf34 : Go.E.plainF Tryz.prog 34 = true := by kernel_rfl
private theorem pf62 : Go.E.plainF Tryz.prog 62 = true := by kernel_rfl
private theorem pf68 : Go.E.plainF Tryz.prog 68 = true := by kernel_rfl
private theorem pl43 : Go.E.plOf Tryz.prog 43 = some #[(0, 1), (1, 1)] := by kernel_rfl
private theorem pl82 : Go.E.plOf Tryz.prog 82 = some #[] := by kernel_rfl
private theorem sz23 : Go.E.szOf Tryz.prog 23 = some 1 := by kernel_rfl
private theorem sz25 : Go.E.szOf Tryz.prog 25 = some 4 := by kernel_rfl
private theorem sz43 : Go.E.szOf Tryz.prog 43 = some 2 := by kernel_rfl
private theorem sz66 : Go.E.szOf Tryz.prog 66 = some 8 := by kernel_rfl
private theorem sz82 : Go.E.szOf Tryz.prog 82 = some 0 := by kernel_rfl
private theorem sz9 : Go.E.szOf Tryz.prog 9 = some 1 := by kernel_rfl
private theorem ze23 : Go.E.zeroOf Tryz.prog 23 = some (.slice none 0 0) := by kernel_rfl
private theorem ze43 : Go.E.zeroOf Tryz.prog 43 = some (.agg #[.int .i64 0, .string ByteArray.empty]) := by kernel_rfl
private theorem ze66 : Go.E.zeroOf Tryz.prog 66 = some (.agg #[.int .i64 0, .int .i64 0, .int .u64 0, .int .u64 0, .int .u64 0, .int .u64 0, .string ByteArray.empty, .bool false]) := by kernel_rfl
private theorem ze82 : Go.E.zeroOf Tryz.prog 82 = some (.agg #[]) := by kernel_rfl
noncomputable def comp_leaving_j1 (l118 : List (List Arc)) (x0 : Fst) (k122 : Nat) : Option (((List (List Arc)) × Nat) ⊕ ((List (List Arc)))) :=
 nxt ((l118.set (((nth x0.arcs k122 Arc.zero).frm).toNat) ((nth l118 (((nth x0.arcs k122 Arc.zero).frm).toNat) ([] : List Arc)) ++ [(nth x0.arcs k122 Arc.zero)])), (k122 + 1))
noncomputable def comp_leaving_b1 (x0 : Fst) (l118 : List (List Arc)) (k122 : Nat) : Option (((List (List Arc)) × Nat) ⊕ ((List (List Arc)))) :=
 iteO (decide (((k122 : Nat) : Int) < ((x0.arcs.length : Nat) : Int))) (grd (0 ≤ ((nth x0.arcs k122 Arc.zero).frm) ∧ ((nth x0.arcs k122 Arc.zero).frm) < (l118.length : Int)) (grd (((nth l118 (((nth x0.arcs k122 Arc.zero).frm).toNat) ([] : List Arc)).length + [(nth x0.arcs k122 Arc.zero)].length) * 72 ≤ 140737488355328) (grd (0 ≤ ((nth x0.arcs k122 Arc.zero).frm) ∧ ((nth x0.arcs k122 Arc.zero).frm) < (l118.length : Int)) (comp_leaving_j1 l118 x0 k122)))) (fin (some l118))
noncomputable def comp_leaving (x0 : Fst) : Option ((List (List Arc))) :=
 grd (0 ≤ x0.states ∧ 24 * x0.states.toNat ≤ 281474976710656) (iter (fun q : (List (List Arc)) × Nat => comp_leaving_b1 x0 q.1 q.2) ((List.replicate x0.states.toNat ([] : List Arc)), 0))
def comp_leaving_P (σ : Store) (r : (List (List Arc))) : Value → Store → List Res → Prop := fun v σ' H' =>
 ∃ (a1 : Option Addr), ∃ (c1 : Nat),  v = .slice a1 r.length c1 ∧ RZ σ' (pkSl 8 encArc encArc_len) (.slice a1 r.length c1) r ∧ H' = []
theorem comp_leaving_con {σ : Store} {x0 : Fst} {a0_0 : Option Addr} {c0_0 : Nat} {a0_1 : Option Addr} {c0_1 : Nat} {a0_2 : Option Addr} {c0_2 : Nat} (f0_0 : RS σ 2 encTip (.slice a0_0 x0.starts.length c0_0) x0.starts) (f0_1 : RS σ 2 encTip (.slice a0_1 x0.ends.length c0_1) x0.ends) (f0_2 : RS σ 8 encArc (.slice a0_2 x0.arcs.length c0_2) x0.arcs) {r : (List (List Arc))} (hh : comp_leaving x0 = some r) :
  Con Tryz.prog 22 #[.agg #[.int .i64 x0.states, .slice a0_0 x0.starts.length c0_0, .slice a0_1 x0.ends.length c0_1, .slice a0_2 x0.arcs.length c0_2]] σ [] (comp_leaving_P σ r) := by
 dsimp only [comp_leaving] at hh
 have f0_0b := f0_0.rv.big
 have f0_1b := f0_1.rv.big
 have f0_2b := f0_2.rv.big
 refine Con.mk (n := 30) Tryz.func22 z z z (fun w0 => ?_)
 refine TC.a (TL.op z (boxA z z z z (fun b101 => ?_)))
 refine TL.s z z (TL.en (TC.a (TL.w z (fieldLoc z fo25_0 z) (TL.w z (loadLoc z ag3 z (i := 0) z z) ?_))))
 have u5 := grd_c hh
 replace hh := grd_t hh
 refine TL.op rfl (makeN (q := x0.states.toNat) (E := 66) (size := 8) (enc := encArc) rfl underlying68 sz23 by23 ze23 rfl rfl (by show Value.int _ _ = _; rw [Int.toNat_of_nonneg u5.1]) (by show Value.int _ _ = _; rw [Int.toNat_of_nonneg u5.1]) (by omega) (by decide) rfl (fun a103 c104 zf105 => ?_))
 refine TL.s z z (TL.en (TC.seq (TC.a (TL.w z (fieldLoc z fo25_3 z) (TL.w z (loadLoc z ag23 z (i := 1) z z) (TL.w z (lenC z underlying23 z) (TL.i z z (TL.en (TC.block (TC.loopG (α := ((List (List Arc)) × Nat) × ((List (NP Arc)))) (rgs [(5, 1), (12, 17)]) (fun g => [(12, .int .i64 ((g.1.2 : Nat) : Int))]) (fun g => [Res.nest 23 66 8 encArc (.slice a103 (List.replicate x0.states.toNat ([] : List Arc)).length c104) g.2]) (fun g => σ) (fun g => iter (fun q : (List (List Arc)) × Nat => comp_leaving_b1 x0 q.1 q.2) g.1 = some r ∧ g.1.1.length = (List.replicate x0.states.toNat ([] : List Arc)).length ∧ Zn g.2 g.1.1) (fun g => rounds (fun q : (List (List Arc)) × Nat => comp_leaving_b1 x0 q.1 q.2) g.1) (((List.replicate x0.states.toNat ([] : List Arc)), 0), (List.replicate x0.states.toNat (nilN : NP Arc))) (Sub.pre 1 z) z (by repeat (first | exact trivial | refine ⟨z, ?_⟩)) ⟨hh, z, zf105⟩ (fun g1 j1 hg1 => ?_)))))))))))
 obtain ⟨⟨l118, k122⟩, z120⟩ := g1
 obtain ⟨hh, hn119, zf121⟩ := hg1
 try dsimp only at hn119 zf121 ⊢
 obtain ⟨z1, hh, hR1⟩ := iter_e hh
 dsimp only [comp_leaving_b1] at hh
 have hn119b := hn119
 have zf121b := zf121.len
 refine TC.know (isSl_nest (q := 0) z zf121) (fun ⟨_, hb123⟩ => ?_)
 refine TC.a (TL.w z (OpVal.lss z z z) (TL.en (TC.seq (TC.cD z hh (fun h124 hh => ?_) (fun h124 hh => ?_)))))
 ·refine TC.skip (S.n (TC.cutG (α := (Unit) × ((List (NP Arc)))) (rgs [(5, 1), (14, 14)]) (fun g => []) (fun g => [Res.nest 23 66 8 encArc (.slice a103 (List.replicate x0.states.toNat ([] : List Arc)).length c104) g.2]) (fun g => σ) (fun g => comp_leaving_j1 l118 x0 k122 = some z1 ∧ (l118.set (((nth x0.arcs k122 Arc.zero).frm).toNat) ((nth l118 (((nth x0.arcs k122 Arc.zero).frm).toNat) ([] : List Arc)) ++ [(nth x0.arcs k122 Arc.zero)])).length = (List.replicate x0.states.toNat ([] : List Arc)).length ∧ Zn g.2 (l118.set (((nth x0.arcs k122 Arc.zero).frm).toNat) ((nth l118 (((nth x0.arcs k122 Arc.zero).frm).toNat) ([] : List Arc)) ++ [(nth x0.arcs k122 Arc.zero)]))) ?_ (fun g j hg => ?_)))
  ·skip
   refine TC.block (TC.a (TL.w z (indexN z underlying23 sz66 z z f0_2.rv.sl (by omega)) (TL.w z (loadSA Arc.zero z ag66 sz66 z f0_2 (by omega) (by omega)) (TL.op z (OpOk.alloc z ze66 z z (fun b128 => ?_))))))
   refine TL.op z (storeAll z sz66 z z z z z z ?_)
   refine TL.en ?_
   have u22 := grd_c hh
   replace hh := grd_t hh
   have u26 := grd_c hh
   replace hh := grd_t hh
   have u27 := grd_c hh
   replace hh := grd_t hh
   refine TC.drawR (Hr := [Res.cells b128 #[.int .i64 ((nth x0.arcs k122 Arc.zero).frm), .int .i64 ((nth x0.arcs k122 Arc.zero).to), .int .u64 ((((nth x0.arcs k122 Arc.zero).set).a : Nat) : Int), .int .u64 ((((nth x0.arcs k122 Arc.zero).set).b : Nat) : Int), .int .u64 ((((nth x0.arcs k122 Arc.zero).set).c : Nat) : Int), .int .u64 ((((nth x0.arcs k122 Arc.zero).set).d : Nat) : Int), .string (bs ((nth x0.arcs k122 Arc.zero).out)), .bool ((nth x0.arcs k122 Arc.zero).copy)] 66]) (fun r hr => mem_pick [0] z hr) [] (by kernel_rfl) (TA.a 0 z (moveSl (.inl z) z) z (TA.a 1 z (fieldLoc z fo66_0 z) z (TA.b 2 z (loadLoc z ag3 z (i := 0) z z) z (TA.a 3 z (moveSl (.inl z) z) z (TA.a 4 z (fieldLoc z fo66_0 z) z (TA.b 5 z (loadLoc z ag3 z (i := 0) z z) z (TA.know (isSl_nest (q := 1) z zf121) (fun ⟨hs141, hs141b⟩ => ?_))))))))
   refine TA.b 6 z (OpVal.index z underlying68 sz23 z z hs141 u22.1 u22.2) z (TA.b 8 z (loadAll z ag66 sz66 z (i := 0) z z) z ?_)
   obtain ⟨p142, hz142, hm142⟩ := Zn.at zf121 (i := ((nth x0.arcs k122 Arc.zero).frm).toNat) (by omega)
   refine TA.actN [7, 9] (by kernel_rfl) (an z z (OpVal.ok (loadN z ag23 z (q := 1) z hz142 hm142) z z ⟨(fun w h => sees_of (Store.le.refl _) (fun r hr => mem_pick [0] z hr) w h), ?_⟩) (an z z (OpOk.lit (enc := encArc) [(nth x0.arcs k122 Arc.zero)] z underlying23 sz66 ze66 z z z encArc_len (by decide) (by decide) Arc.zero z (by decide) z (by decide) encArc_one (fun a143 c144 => ⟨(fun w h => sees_of (Store.le.refl _) (fun r hr => mem_pick [1] z hr) w h), ?_⟩)) (True.intro)))
   ·skip
    refine TA.ac 9 z (OpOk.lit (enc := encArc) [(nth x0.arcs k122 Arc.zero)] z underlying23 sz66 ze66 z z z encArc_len (by decide) (by decide) Arc.zero z (by decide) z (by decide) encArc_one (fun a146 c147 => ⟨(fun w h => sees_of (Store.le.refl _) (fun r hr => mem_pick [1] z hr) w h), ?_⟩))
    refine TA.front 2 z z (TA.by (fun w h => Reach.takeN hz142 hm142 h) (TA.ac 10 z (appendS z z underlying23 sz66 by66 ze66 z z (by decide) z z z (.inr ⟨_, 1, z⟩) (by simpa using u26) (by decide) (fun a150 c151 => (k3 ?_)))))
    refine TA.know (isSl_nestX (q := 1) z zf121) (fun ⟨hs152, hs152b⟩ => ?_)
    refine TA.b 11 z (OpVal.index z underlying68 sz23 z z hs152 u27.1 u27.2) z (TA.front 1 z z (TA.front 1 z z ?_))
    have hn154 : (l118.set (((nth x0.arcs k122 Arc.zero).frm).toNat) ((nth l118 (((nth x0.arcs k122 Arc.zero).frm).toNat) ([] : List Arc)) ++ [(nth x0.arcs k122 Arc.zero)])).length = (List.replicate x0.states.toNat ([] : List Arc)).length := (List.length_set ..).trans hn119
    refine TA.ac 12 rfl (storeX (l' := ((nth l118 (((nth x0.arcs k122 Arc.zero).frm).toNat) ([] : List Arc)) ++ [(nth x0.arcs k122 Arc.zero)])) rfl sz23 rfl rfl rfl rfl rfl (by rw [zf121.len]; omega) zf121 (fun zf153 => (k2 ?_)))
    exact TA.dn (B.n (S.n (cf ((), (z120.set (((nth x0.arcs k122 Arc.zero).frm).toNat) (((nth l118 (((nth x0.arcs k122 Arc.zero).frm).toNat) ([] : List Arc)) ++ [(nth x0.arcs k122 Arc.zero)]), (a150, c151)))) ⟨hh, hn154, zf153⟩ (Sub.pre 1 z))))
   ·skip
    obtain ⟨p155, hz155, hm155⟩ := Zn.at zf121 (i := ((nth x0.arcs k122 Arc.zero).frm).toNat) (by omega)
    refine TA.ac 7 z (OpVal.ok (loadN z ag23 z (q := 2) z hz155 hm155) z z ⟨(fun w h => sees_of (Store.le.refl _) (fun r hr => mem_pick [1] z hr) w h), ?_⟩)
    refine TA.front 2 z z (TA.by (fun w h => Reach.takeN hz155 hm155 h) (TA.ac 10 z (appendS z z underlying23 sz66 by66 ze66 z z (by decide) z z z (.inr ⟨_, 1, z⟩) (by simpa using u26) (by decide) (fun a157 c158 => (k3 ?_)))))
    refine TA.know (isSl_nestX (q := 1) z zf121) (fun ⟨hs159, hs159b⟩ => ?_)
    refine TA.b 11 z (OpVal.index z underlying68 sz23 z z hs159 u27.1 u27.2) z (TA.front 1 z z (TA.front 1 z z ?_))
    have hn161 : (l118.set (((nth x0.arcs k122 Arc.zero).frm).toNat) ((nth l118 (((nth x0.arcs k122 Arc.zero).frm).toNat) ([] : List Arc)) ++ [(nth x0.arcs k122 Arc.zero)])).length = (List.replicate x0.states.toNat ([] : List Arc)).length := (List.length_set ..).trans hn119
    refine TA.ac 12 rfl (storeX (l' := ((nth l118 (((nth x0.arcs k122 Arc.zero).frm).toNat) ([] : List Arc)) ++ [(nth x0.arcs k122 Arc.zero)])) rfl sz23 rfl rfl rfl rfl rfl (by rw [zf121.len]; omega) zf121 (fun zf160 => (k2 ?_)))
    exact TA.dn (B.n (S.n (cf ((), (z120.set (((nth x0.arcs k122 Arc.zero).frm).toNat) (((nth l118 (((nth x0.arcs k122 Arc.zero).frm).toNat) ([] : List Arc)) ++ [(nth x0.arcs k122 Arc.zero)]), (a157, c158)))) ⟨hh, hn161, zf160⟩ (Sub.pre 1 z))))
  ·skip
   obtain ⟨_, z126⟩ := g
   obtain ⟨hh, hn125, zf127⟩ := hg
   try dsimp only at hn125 zf127 ⊢
   dsimp only [comp_leaving_j1] at hh
   have hn125b := hn125
   have zf127b := zf127.len
   refine TC.know (isSl_nest (q := 0) z zf127) (fun ⟨_, hb162⟩ => ?_)
   refine TC.region (TL.w z (OpVal.succ z z z (by omega)) (TL.i z z (TL.en ?_)))
   obtain ⟨hh, hlt163⟩ := nxt_x hR1 hh
   exact lf (((l118.set (((nth x0.arcs k122 Arc.zero).frm).toNat) ((nth l118 (((nth x0.arcs k122 Arc.zero).frm).toNat) ([] : List Arc)) ++ [(nth x0.arcs k122 Arc.zero)])), (k122 + 1)), z126) hlt163 ⟨hh, hn125, zf127⟩ (Sub.pre 1 z)
 ·refine TC.exit (S.x (S.x ?_))
  replace hh := fin_x hR1 hh
  refine TC.exitHere (S.n (TC.a (TL.s z z (TL.s z z (TL.en ?_)))))
  rw [← hn119]
  refine TC.seals (fun w h => Reach.sealNest encArc_len zf121 h) (fun τ166 hle165 hr164 => ?_)
  have hr164b := hr164.big
  refine TC.ret ?_
  obtain rfl := so hh
  exact rq [2] ⟨a103, c104, z, hr164, z⟩
noncomputable def comp_ways_j1 (k163 : Nat) (m167 : FM Tip Unit) (l168 : List Tip) : Option (((FM Tip Unit) × (List Tip) × Nat) ⊕ (((FM Tip Unit) × (List Tip) × Nat) ⊕ (((List Tip) × Nat) ⊕ ((List Tip) × Bool)))) :=
 nxt (m167, l168, (k163 + 1))
noncomputable def comp_ways_j2 (m159 : FM Tip Unit) (k163 : Nat) (l160 : List Tip) (x176 : Tip) : Option (((FM Tip Unit) × (List Tip) × Nat) ⊕ (((FM Tip Unit) × (List Tip) × Nat) ⊕ (((List Tip) × Nat) ⊕ ((List Tip) × Bool)))) :=
 iteO (m159.has x176) (comp_ways_j1 k163 m159 l160) (iteO (decide (4096 ≤ ((l160.length : Nat) : Int))) (fin (fin (fin (some (([] : List Tip), false))))) (grd ((l160.length + [x176].length) * 24 ≤ 140737488355328) (comp_ways_j1 k163 (m159.put x176 ()) (l160 ++ [x176]))))
noncomputable def comp_ways_b3 (x0 : List (List Arc)) (l115 : List Tip) (k140 : Nat) (x2 : List UInt8) (k118 : Nat) (m159 : FM Tip Unit) (l160 : List Tip) (k163 : Nat) : Option (((FM Tip Unit) × (List Tip) × Nat) ⊕ (((FM Tip Unit) × (List Tip) × Nat) ⊕ (((List Tip) × Nat) ⊕ ((List Tip) × Bool)))) :=
 iteO (decide (((k163 : Nat) : Int) < (((nth x0 (((nth l115 k140 Tip.zero).state).toNat) ([] : List Arc)).length : Nat) : Int))) (iteO (!(((nth (nth x0 (((nth l115 k140 Tip.zero).state).toNat) ([] : List Arc)) k163 Arc.zero).set).has (nth x2 k118 (0 : UInt8)).toNat)) (comp_ways_j1 k163 m159 l160) (grd (((nth l115 k140 Tip.zero).out).length + ((nth (nth x0 (((nth l115 k140 Tip.zero).state).toNat) ([] : List Arc)) k163 Arc.zero).out).length ≤ 9223372036854775807) (iteO ((nth (nth x0 (((nth l115 k140 Tip.zero).state).toNat) ([] : List Arc)) k163 Arc.zero).copy) (grd (k118 ≤ (k118 + 1) ∧ (k118 + 1) ≤ x2.length) (grd (((nth l115 k140 Tip.zero).out ++ (nth (nth x0 (((nth l115 k140 Tip.zero).state).toNat) ([] : List Arc)) k163 Arc.zero).out).length + ((x2.take (k118 + 1)).drop k118).length ≤ 9223372036854775807) (comp_ways_j2 m159 k163 l160 (⟨(nth (nth x0 (((nth l115 k140 Tip.zero).state).toNat) ([] : List Arc)) k163 Arc.zero).to, (((nth l115 k140 Tip.zero).out ++ (nth (nth x0 (((nth l115 k140 Tip.zero).state).toNat) ([] : List Arc)) k163 Arc.zero).out) ++ ((x2.take (k118 + 1)).drop k118))⟩ : Tip)))) (comp_ways_j2 m159 k163 l160 (⟨(nth (nth x0 (((nth l115 k140 Tip.zero).state).toNat) ([] : List Arc)) k163 Arc.zero).to, ((nth l115 k140 Tip.zero).out ++ (nth (nth x0 (((nth l115 k140 Tip.zero).state).toNat) ([] : List Arc)) k163 Arc.zero).out)⟩ : Tip))))) (fin (nxt (m159, l160, (k140 + 1))))
noncomputable def comp_ways_b2 (l115 : List Tip) (x0 : List (List Arc)) (x2 : List UInt8) (k118 : Nat) (m135 : FM Tip Unit) (l137 : List Tip) (k140 : Nat) : Option (((FM Tip Unit) × (List Tip) × Nat) ⊕ (((List Tip) × Nat) ⊕ ((List Tip) × Bool))) :=
 iteO (decide (((k140 : Nat) : Int) < ((l115.length : Nat) : Int))) (grd (0 ≤ ((nth l115 k140 Tip.zero).state) ∧ ((nth l115 k140 Tip.zero).state) < (x0.length : Int)) (iter (fun q : (FM Tip Unit) × (List Tip) × Nat => comp_ways_b3 x0 l115 k140 x2 k118 q.1 q.2.1 q.2.2) (m135, l137, 0))) (fin (nxt (l137, (k118 + 1))))
noncomputable def comp_ways_b1 (x2 : List UInt8) (x0 : List (List Arc)) (l115 : List Tip) (k118 : Nat) : Option (((List Tip) × Nat) ⊕ ((List Tip) × Bool)) :=
 iteO (decide (((k118 : Nat) : Int) < ((x2.length : Nat) : Int))) (iter (fun q : (FM Tip Unit) × (List Tip) × Nat => comp_ways_b2 l115 x0 x2 k118 q.1 q.2.1 q.2.2) ((FM.emp : FM Tip Unit), ([] : List Tip), 0)) (fin (some ((sortL cmpTip l115), true)))
noncomputable def comp_ways (x0 : List (List Arc)) (x1 : Int) (x2 : List UInt8) : Option ((List Tip) × Bool) :=
 grd (x2.length ≤ 281474976710656) (iter (fun q : (List Tip) × Nat => comp_ways_b1 x2 x0 q.1 q.2) ([(⟨x1, ([] : List UInt8)⟩ : Tip)], 0))
def comp_ways_P (σ : Store) (r : (List Tip) × Bool) : Value → Store → List Res → Prop := fun v σ' H' =>
 ∃ (a1 : Option Addr), ∃ (c1 : Nat),  v = .tuple #[.slice a1 r.1.length c1, .bool r.2] ∧ σ = σ' ∧ H' = [Res.rowS 43 2 encTip (.slice a1 r.1.length c1) r.1]
theorem comp_ways_con {σ : Store} {x0 : List (List Arc)} {a0_0 : Option Addr} {c0_0 : Nat} {x1 : Int} {x2 : List UInt8} (f0_0 : RZ σ (pkSl 8 encArc encArc_len) (.slice a0_0 x0.length c0_0) x0) {r : (List Tip) × Bool} (hh : comp_ways x0 x1 x2 = some r) :
  Con Tryz.prog 34 #[.slice a0_0 x0.length c0_0, .int .i64 x1, .string (bs x2)] σ [] (comp_ways_P σ r) := by
 dsimp only [comp_ways] at hh
 have f0_0b := f0_0.big
 refine Con.mk (n := 94) Tryz.func34 z z z (fun w0 => ?_)
 have x2b := grd_c hh
 replace hh := grd_t hh
 refine TC.a (TL.s z z (TL.j z z (TL.en (TC.a (TL.i z z (TL.w z (buildL z pl43 ze43 z) (TL.op z (OpOk.lit (enc := encTip) [(⟨x1, ([] : List UInt8)⟩ : Tip)] z underlying22 sz43 ze43 z z z encTip_len (by decide) (by decide) Tip.zero z (by decide) z (by decide) encTip_one (fun a101 c102 => ?_)))))))))
 refine TL.s z z (TL.en (TC.seq (TC.a (TL.w z (moveStr (.inl z) z) (TL.w z (lenBs z underlying9 z) (TL.i z z (TL.en (TC.block (TC.loopG (α := ((List Tip) × Nat) × ((Option Addr) × Nat)) (rgs [(6, 6), (13, 1), (15, 4), (24, 67)]) (fun g => [(8, .slice g.2.1 g.1.1.length g.2.2), (24, .int .i64 ((g.1.2 : Nat) : Int))]) (fun g => [Res.rowS 43 2 encTip (.slice g.2.1 g.1.1.length g.2.2) g.1.1]) (fun g => σ) (fun g => iter (fun q : (List Tip) × Nat => comp_ways_b1 x2 x0 q.1 q.2) g.1 = some r) (fun g => rounds (fun q : (List Tip) × Nat => comp_ways_b1 x2 x0 q.1 q.2) g.1) (([(⟨x1, ([] : List UInt8)⟩ : Tip)], 0), (a101, c102)) (Sub.pre 1 z) z (by repeat (first | exact trivial | refine ⟨z, ?_⟩)) hh (fun g1 j1 hg1 => ?_))))))))))
 obtain ⟨⟨l115, k118⟩, ⟨a116, c117⟩⟩ := g1
 have hh := hg1; clear hg1
 try dsimp only
 obtain ⟨z1, hh, hR1⟩ := iter_e hh
 dsimp only [comp_ways_b1] at hh
 refine TC.isSl (i := 0) z (fun _ hb119 _ => ?_)
 refine TC.a (TL.w z (OpVal.lss z z z) (TL.en (TC.seq (TC.cD z hh (fun h120 hh => ?_) (fun h120 hh => ?_)))))
 ·refine TC.skip (S.n (TC.seq (TC.block (TC.a (TL.i z z (TL.i z z (TL.en (TC.a (TL.op z (makeMapB (enc := (fun x => Value.agg (encTip x).toArray)) (encV := unitV) z z z (fun b121 => ?_)))))))))))
  refine TL.w z (moveMap (.inr z) z) (TL.en (TC.a (TL.s z z (TL.en (TC.seq (TC.a (TL.s z z (TL.w z (lenC z underlying22 z) (TL.i z z (TL.en (TC.block (TC.nilS 43 2 encTip (TC.loopG (α := ((FM Tip Unit) × (List Tip) × Nat) × ((Option Addr) × Nat)) (rgs [(6, 2), (11, 1), (13, 1), (15, 4), (30, 59)]) (fun g => [(11, .slice g.2.1 g.1.2.1.length g.2.2), (30, .int .i64 ((g.1.2.2 : Nat) : Int))]) (fun g => [Res.mapB (fun x => Value.agg (encTip x).toArray) unitV (some b121) g.1.1, Res.rowS 43 2 encTip (.slice g.2.1 g.1.2.1.length g.2.2) g.1.2.1, Res.rowS 43 2 encTip (.slice a116 l115.length c117) l115]) (fun g => σ) (fun g => iter (fun q : (FM Tip Unit) × (List Tip) × Nat => comp_ways_b2 l115 x0 x2 k118 q.1 q.2.1 q.2.2) g.1 = some z1) (fun g => rounds (fun q : (FM Tip Unit) × (List Tip) × Nat => comp_ways_b2 l115 x0 x2 k118 q.1 q.2.1 q.2.2) g.1) (((FM.emp : FM Tip Unit), ([] : List Tip), 0), (none, 0)) (Sub.f [2, 1, 2] 3) z (by repeat (first | exact trivial | refine ⟨z, ?_⟩)) hh (fun g2 j2 hg2 => ?_))))))))))))))
  obtain ⟨⟨m135, l137, k140⟩, ⟨a138, c139⟩⟩ := g2
  have hh := hg2; clear hg2
  try dsimp only
  obtain ⟨z2, hh, hR2⟩ := iter_e hh
  dsimp only [comp_ways_b2] at hh
  refine TC.isSl (i := 1) z (fun _ hb142 _ => ?_)
  refine TC.isSl (i := 2) z (fun _ hb143 _ => ?_)
  refine TC.a (TL.w z (OpVal.lss z z z) (TL.en (TC.seq (TC.cD z hh (fun h144 hh => ?_) (fun h144 hh => ?_)))))
  ·refine TC.skip (S.n (TC.seq (TC.block (TC.a (TL.isSl (i := 2) z (fun hs145 _ _ => ?_))))))
   refine TL.w z (indexN z underlying22 sz43 z z hs145 (by omega)) (TL.w z (loadOA Tip.zero z ag43 sz43 z (q := 2) z encTip_len (by omega) (by omega)) (TL.op z (OpOk.alloc z ze43 z z (fun b146 => ?_))))
   refine TL.op z (storeAll z sz43 z z z z z z ?_)
   refine TL.en (TC.a (TL.s z z (TL.w z (fieldLoc z fo43_0 z) (TL.w z (loadLoc z ag3 z (i := 0) z z) ?_))))
   have u27 := grd_c hh
   replace hh := grd_t hh
   refine TL.w z (OpVal.index z underlying68 sz23 z z f0_0.isSl u27.1 u27.2) ?_
   obtain ⟨p148, hk148, hg148⟩ := RZ.seg f0_0 (((nth l115 k140 Tip.zero).state).toNat) (by omega)
   replace hk148 : RS _ 8 encArc (.slice p148.1 (nth x0 (((nth l115 k140 Tip.zero).state).toNat) ([] : List Arc)).length p148.2) (nth x0 (((nth l115 k140 Tip.zero).state).toNat) ([] : List Arc)) := hk148
   have hk148b := hk148.rv.big
   refine TL.w z (OpVal.of (loadSeg0 z ag23 z hg148 z) (v' := .slice p148.1 ((nth x0 (((nth l115 k140 Tip.zero).state).toNat) ([] : List Arc)).length) p148.2) z) (TL.w z (lenC z underlying23 z) (TL.i z z (TL.en (TC.block (TC.loopG (α := ((FM Tip Unit) × (List Tip) × Nat) × ((Option Addr) × Nat)) (rgs [(6, 2), (11, 1), (15, 4), (40, 48)]) (fun g => [(11, .slice g.2.1 g.1.2.1.length g.2.2), (40, .int .i64 ((g.1.2.2 : Nat) : Int))]) (fun g => [Res.mapB (fun x => Value.agg (encTip x).toArray) unitV (some b121) g.1.1, Res.rowS 43 2 encTip (.slice g.2.1 g.1.2.1.length g.2.2) g.1.2.1, Res.cells b146 #[.int .i64 ((nth l115 k140 Tip.zero).state), .string (bs ((nth l115 k140 Tip.zero).out))] 43, Res.rowS 43 2 encTip (.slice a116 l115.length c117) l115]) (fun g => σ) (fun g => iter (fun q : (FM Tip Unit) × (List Tip) × Nat => comp_ways_b3 x0 l115 k140 x2 k118 q.1 q.2.1 q.2.2) g.1 = some z2) (fun g => rounds (fun q : (FM Tip Unit) × (List Tip) × Nat => comp_ways_b3 x0 l115 k140 x2 k118 q.1 q.2.1 q.2.2) g.1) ((m135, l137, 0), (a138, c139)) (Sub.f [3, 1, 3, 3] 4) z (by repeat (first | exact trivial | refine ⟨z, ?_⟩)) hh (fun g3 j3 hg3 => ?_))))))
   obtain ⟨⟨m159, l160, k163⟩, ⟨a161, c162⟩⟩ := g3
   have hh := hg3; clear hg3
   try dsimp only
   obtain ⟨z3, hh, hR3⟩ := iter_e hh
   dsimp only [comp_ways_b3] at hh
   refine TC.isSl (i := 1) z (fun _ hb164 _ => ?_)
   refine TC.isSl (i := 3) z (fun _ hb165 _ => ?_)
   refine TC.a (TL.w z (OpVal.lss z z z) (TL.en (TC.seq (TC.cD z hh (fun h166 hh => ?_) (fun h166 hh => ?_)))))
   ·refine TC.skip (S.n (TC.cutG (α := ((FM Tip Unit) × (List Tip)) × ((Option Addr) × Nat)) (rgs [(6, 2), (11, 1), (15, 4), (42, 45)]) (fun g => [(11, .slice g.2.1 g.1.2.length g.2.2)]) (fun g => [Res.mapB (fun x => Value.agg (encTip x).toArray) unitV (some b121) g.1.1, Res.rowS 43 2 encTip (.slice g.2.1 g.1.2.length g.2.2) g.1.2, Res.cells b146 #[.int .i64 ((nth l115 k140 Tip.zero).state), .string (bs ((nth l115 k140 Tip.zero).out))] 43, Res.rowS 43 2 encTip (.slice a116 l115.length c117) l115]) (fun g => σ) (fun g => comp_ways_j1 k163 g.1.1 g.1.2 = some z3) ?_ (fun g j hg => ?_)))
    ·skip
     refine TC.block (TC.a (TL.w z (indexN z underlying23 sz66 z z hk148.rv.sl (by omega)) (TL.w z (loadSA Arc.zero z ag66 sz66 z hk148 (by omega) (by omega)) (TL.op z (OpOk.alloc z ze66 z z (fun b171 => ?_))))))
     refine TL.op z (storeAll z sz66 z z z z z z ?_)
     refine TL.en (TC.seq (TC.seq (TC.draw [] (by kernel_rfl) (TA.a 0 z (fieldLoc z fo66_2 z) z (TA.b 1 z (loadLocA z ag55 sz55 z (i := 0) z z z) z (TA.a 2 z (moveStr (.inl z) z) z (TA.a 3 z (moveI (.inl z) z) z (TA.a 4 z (indexBs z underlying9 z z (by omega)) z (TA.ac 5 z (callP (has_con _ ((nth (nth x0 (((nth l115 k140 Tip.zero).state).toNat) ([] : List Arc)) k163 Arc.zero).set) (nth x2 k118 (0 : UInt8)).toNat (BSet.isOk _) (UInt8.toNat_lt _)) z z pf62 z z z (k0 ?_)))))))))))
     refine TA.a 6 z (OpVal.not z z) z (TA.dn (S.n (TC.cB z hh (fun h173 hh => ?_) (fun h173 hh => ?_))))
     ·exact TC.exit (S.x (TC.exitHere (S.n (cf ((m159, l160), (a161, c162)) hh (Sub.f [4, 4, 4, 4] 4)))))
     ·refine TC.skip (S.n (TC.a (TL.w z (fieldLoc z fo66_1 z) (TL.w z (loadLoc z ag3 z (i := 0) z z) (TL.w z (fieldLoc z fo43_1 z) (TL.w z (loadLoc z ag9 z (i := 3) z z) (TL.w z (fieldLoc z fo66_3 z) (TL.w z (loadLoc z ag9 z (i := 0) z z) ?_))))))))
      have u49 := grd_c hh
      replace hh := grd_t hh
      refine TL.w z (catBs z z z u49) (TL.w z (buildL z pl43 ze43 z) (TL.op z (OpOk.alloc z ze43 z z (fun b174 => ?_))))
      refine TL.op z (storeAll z sz43 z z z z z z ?_)
      refine TL.en (TC.cutG (α := (Tip) × (Unit)) (rgs [(59, 11)]) (fun g => []) (fun g => [Res.mapB (fun x => Value.agg (encTip x).toArray) unitV (some b121) m159, Res.rowS 43 2 encTip (.slice a161 l160.length c162) l160, Res.cells b146 #[.int .i64 ((nth l115 k140 Tip.zero).state), .string (bs ((nth l115 k140 Tip.zero).out))] 43, Res.cells b174 #[.int .i64 g.1.state, .string (bs g.1.out)] 43, Res.rowS 43 2 encTip (.slice a116 l115.length c117) l115]) (fun g => σ) (fun g => comp_ways_j2 m159 k163 l160 g.1 = some z3) ?_ (fun g j hg => ?_))
      ·skip
       refine TC.a (TL.w z (fieldLoc z fo66_4 z) (TL.w z (loadLoc z ag4 z (i := 1) z z) (TL.en (TC.cB z hh (fun h177 hh => ?_) (fun h177 hh => ?_)))))
       ·have u61 := grd_c hh
        replace hh := grd_t hh
        have u62 := grd_c hh
        replace hh := grd_t hh
        refine TC.draw [9] (by kernel_rfl) (TA.a 0 z (fieldLoc z fo43_1 z) z (TA.b 1 z (loadLoc z ag9 z (i := 0) z z) z (TA.a 2 z (moveStr (.inl z) z) z (TA.a 3 z (moveI (.inl z) z) z (TA.a 4 z (moveI (.inl z) z) z (TA.a 5 z (OpVal.succ z z z (by omega)) z (TA.b 6 z (sliceBs (l := x2) (i := k118) (j := (k118 + 1)) z underlying9 z z z (by omega) (by omega)) z (TA.a 7 z (catBs z z z u62) z (TA.a 8 z (fieldLoc z fo43_1 z) z (TA.last 9 (by kernel_rfl) z z z (storeStr z sz9 z z z z z ?_)))))))))))
        exact TZ.done (by kernel_rfl) (S.n (cf ((⟨(nth (nth x0 (((nth l115 k140 Tip.zero).state).toNat) ([] : List Arc)) k163 Arc.zero).to, (((nth l115 k140 Tip.zero).out ++ (nth (nth x0 (((nth l115 k140 Tip.zero).state).toNat) ([] : List Arc)) k163 Arc.zero).out) ++ ((x2.take (k118 + 1)).drop k118))⟩ : Tip), ()) hh (Sub.f [5, 1, 5, 5, 5] 5)))
       ·exact TC.skip (S.n (cf ((⟨(nth (nth x0 (((nth l115 k140 Tip.zero).state).toNat) ([] : List Arc)) k163 Arc.zero).to, ((nth l115 k140 Tip.zero).out ++ (nth (nth x0 (((nth l115 k140 Tip.zero).state).toNat) ([] : List Arc)) k163 Arc.zero).out)⟩ : Tip), ()) hh (Sub.f [5, 1, 5, 5, 5] 5)))
      ·skip
       obtain ⟨x176, _⟩ := g
       have hh := hg; clear hg
       try dsimp only
       dsimp only [comp_ways_j2] at hh
       refine TC.isSl (i := 1) z (fun _ hb178 _ => ?_)
       refine TC.isSl (i := 4) z (fun _ hb179 _ => ?_)
       refine TC.seq (TC.a (TL.w z (moveMap (.inl z) z) (TL.w z (loadAll z ag43 sz43 z (i := 3) z z) (TL.w z (OpVal.of (lookB () (q := x176) z underlying72 ze82 z (i := 0) z z kl43) (v' := .tuple #[.agg #[], .bool (m159.has x176)]) z) (TL.w z (moveT (.inl z) z) (TL.w z (OpVal.extract z z z) (TL.w z (OpVal.extract z z z) (TL.op z (OpOk.alloc z ze82 z z (fun b180 => ?_))))))))))
       refine TL.op z (storeAll z sz82 z z z z z z ?_)
       refine TL.j z z (TL.en (TC.a (TL.j z z (TL.en (TC.cB z hh (fun h182 hh => ?_) (fun h182 hh => ?_))))))
       ·exact TC.exit (S.x (TC.exitHere (S.n (cf ((m159, l160), (a161, c162)) hh (Sub.f [5, 4, 4, 4] 4)))))
       ·refine TC.skip (S.n (TC.seq (TC.a (TL.s z z (TL.w z (lenC z underlying22 z) (TL.w z (OpVal.geq z z z) (TL.en (TC.cD z hh (fun h183 hh => ?_) (fun h183 hh => ?_)))))))))
        ·refine TC.a (TL.s z z (TL.j z z (TL.en (TC.nilS 43 2 encTip (TC.rt 1 (S.r (B.r (S.r (S.r ?_)))))))))
         replace hh := fin_x hR3 hh
         refine B.r (B.r (S.r (S.r ?_)))
         replace hh := fin_x hR2 hh
         refine B.r (S.r (B.r (S.r (S.r ?_))))
         replace hh := fin_x hR1 hh
         refine B.r (S.r ?_)
         obtain rfl := so hh
         exact ro [Res.rowS 43 2 encTip (.slice none ([] : List Tip).length 0) ([] : List Tip)] z (RVs.tmp z (RVs.tmp z RVs.nil)) ⟨none, 0, z, z, z⟩
        ·refine TC.skip (S.n (TC.a (TL.w z (moveMap (.inl z) z) (TL.w z (loadAll z ag43 sz43 z (i := 4) z z) (TL.w z (buildL z pl82 ze82 z) (TL.front 1 z z (TL.op z (updB x176 () z underlying72 z z z z kl43 ?_))))))))
         refine TL.en (TC.region (TL.s z z (TL.w z (loadAll z ag43 sz43 z (i := 4) z z) (TL.op z (OpOk.lit (enc := encTip) [x176] z underlying22 sz43 ze43 z z z encTip_len (by decide) (by decide) Tip.zero z (by decide) z (by decide) encTip_one (fun a185 c186 => ?_))))))
         refine TL.front 3 z z ?_
         have u87 := grd_c hh
         replace hh := grd_t hh
         refine TL.op z (appendS z z underlying22 sz43 by43 ze43 z z (by decide) z z z (.inr ⟨_, 0, z⟩) (by simpa using u87) (by decide) (fun a188 c189 => ?_))
         exact TL.s z z (TL.nil (B.n (S.n (cf (((m159.put x176 ()), (l160 ++ [x176])), (a188, c189)) hh (Sub.f [6, 5, 2, 4] 4)))))
    ·skip
     obtain ⟨⟨m167, l168⟩, ⟨a169, c170⟩⟩ := g
     have hh := hg; clear hg
     try dsimp only
     dsimp only [comp_ways_j1] at hh
     refine TC.isSl (i := 1) z (fun _ hb190 _ => ?_)
     refine TC.isSl (i := 3) z (fun _ hb191 _ => ?_)
     refine TC.region (TL.w z (OpVal.succ z z z (by omega)) (TL.i z z (TL.en ?_)))
     obtain ⟨hh, hlt192⟩ := nxt_x hR3 hh
     exact lf ((m167, l168, (k163 + 1)), (a169, c170)) hlt192 hh (Sub.f [3, 3, 3, 3] 4)
   ·refine TC.exit (S.x (S.x ?_))
    replace hh := fin_x hR3 hh
    refine TC.exitHere (B.n (S.n (TC.region (TL.w z (OpVal.succ z z z (by omega)) (TL.i z z (TL.en ?_))))))
    obtain ⟨hh, hlt193⟩ := nxt_x hR2 hh
    exact lf ((m159, l160, (k140 + 1)), (a161, c162)) hlt193 hh (Sub.f [3, 2, 2] 3)
  ·refine TC.exit (S.x (S.x ?_))
   replace hh := fin_x hR2 hh
   refine TC.exitHere (S.n (TC.region (TL.s z z (TL.s z z (TL.nil (B.n (S.n (TC.region (TL.w z (OpVal.succ z z z (by omega)) (TL.i z z (TL.en ?_)))))))))))
   obtain ⟨hh, hlt194⟩ := nxt_x hR1 hh
   exact lf ((l137, (k118 + 1)), (a138, c139)) hlt194 hh (Sub.f [1] 1)
 ·refine TC.exit (S.x (S.x ?_))
  replace hh := fin_x hR1 hh
  refine TC.exitHere (S.n (TC.a (TL.s z z ?_)))
  have hn195 : (sortL cmpTip l115).length = l115.length := List.length_mergeSort _
  refine TL.op z (OpOk.call (Hk_ (l := l115)) z z pf68 z z z z ?_)
  rintro _ _ _ _ ⟨rfl, rfl, rfl⟩
  refine TL.en (TC.a (TL.s z z (TL.s z z (TL.j z z (TL.en ?_)))))
  rw [← hn195]
  refine TC.ret ?_
  obtain rfl := so hh
  exact ro [Res.rowS 43 2 encTip (.slice a116 (sortL cmpTip l115).length c117) (sortL cmpTip l115)] z (RVs.tmp z (RVs.tmp z RVs.nil)) ⟨a116, c117, z, z, z⟩
noncomputable def comp_Ways (x0 : Fst) (x1 : Int) (x2 : List UInt8) : Option ((List Tip) × Int) :=
 grd (x2.length ≤ 281474976710656) (bnd (Bc_ x0) (fun v5 => iteO (decide (v5 ≠ 0)) (some (([] : List Tip), 1)) (iteO (decide (x1 < 0)) (some (([] : List Tip), 1)) (iteO (decide (x0.states ≤ x1)) (some (([] : List Tip), 1)) (iteO (decide (1024 < ((x2.length : Nat) : Int))) (some (([] : List Tip), 1)) (bnd (comp_leaving x0) (fun v25 => bnd (comp_ways v25 x1 x2) (fun v28 => iteO (!v28.2) (some (([] : List Tip), 2)) (some (v28.1, 0))))))))))
def comp_Ways_P (σ : Store) (r : (List Tip) × Int) : Value → Store → List Res → Prop := fun v σ' H' =>
 ∃ (a1 : Option Addr), ∃ (c1 : Nat),  v = .tuple #[.slice a1 r.1.length c1, .int .i64 r.2] ∧ RS σ' 2 encTip (.slice a1 r.1.length c1) r.1 ∧ H' = []
theorem comp_Ways_con {σ : Store} {x0 : Fst} {a0_0 : Option Addr} {c0_0 : Nat} {a0_1 : Option Addr} {c0_1 : Nat} {a0_2 : Option Addr} {c0_2 : Nat} {x1 : Int} {x2 : List UInt8} (f0_0 : RS σ 2 encTip (.slice a0_0 x0.starts.length c0_0) x0.starts) (f0_1 : RS σ 2 encTip (.slice a0_1 x0.ends.length c0_1) x0.ends) (f0_2 : RS σ 8 encArc (.slice a0_2 x0.arcs.length c0_2) x0.arcs) {r : (List Tip) × Int} (hh : comp_Ways x0 x1 x2 = some r) :
  Con Tryz.prog 14 #[.agg #[.int .i64 x0.states, .slice a0_0 x0.starts.length c0_0, .slice a0_1 x0.ends.length c0_1, .slice a0_2 x0.arcs.length c0_2], .int .i64 x1, .string (bs x2)] σ [] (comp_Ways_P σ r) := by
 dsimp only [comp_Ways] at hh
 have f0_0b := f0_0.rv.big
 have f0_1b := f0_1.rv.big
 have f0_2b := f0_2.rv.big
 refine Con.mk (n := 39) Tryz.func14 z z z (fun w0 => ?_)
 have x2b := grd_c hh
 replace hh := grd_t hh
 refine TC.a (TL.op z (boxA z z z z (fun b101 => ?_)))
 refine TL.s z z (TL.i z z (TL.en (TC.seq (TC.a (TL.w z (loadAll z ag25 sz25 z (i := 0) z z) ?_)))))
 obtain ⟨v5, u5, hh⟩ := bnd_e hh
 refine TL.op z (callP (Ca_ (x0 := x0) f0_0 f0_1 f0_2 u5) z z pf21 z z z ?_)
 refine TL.w z (OpVal.neq z z z) (TL.j z z (TL.split 13 z (fun h103 => ?_) (fun h103 => ?_)))
 ·replace hh := iteO_t h103 hh
  replace h103 := of_decide_eq_true h103
  refine TL.f z (TL.f z (TL.w z (pickTB z z z) (TL.j z z (TL.f z (TL.f z (TL.f z (TL.f z (TL.w z (pickTB z z z) (TL.j z z (TL.f z (TL.f z (TL.f z (TL.w z (pickTB z z z) (TL.en (TC.t z (TC.a (TL.s z z (TL.i z z (TL.en (TC.rt 0 (S.r ?_)))))))))))))))))))))
  obtain rfl := so hh
  exact rq [6, 7] ⟨none, 0, z, (RS.nilF _ encTip encTip_len), z⟩
 ·replace hh := iteO_f h103 hh
  replace h103 := of_decide_eq_false h103
  refine TL.g z (moveI (.inl z) z) (TL.g z (OpVal.lss z z z) (TL.w z (pickFB z z z) (TL.j z z (TL.split 17 z (fun h104 => ?_) (fun h104 => ?_)))))
  ·replace hh := iteO_t h104 hh
   replace h104 := of_decide_eq_true h104
   refine TL.f z (TL.f z (TL.f z (TL.f z (TL.w z (pickTB z z z) (TL.j z z (TL.f z (TL.f z (TL.f z (TL.w z (pickTB z z z) (TL.en (TC.t z (TC.a (TL.s z z (TL.i z z (TL.en (TC.rt 0 (S.r ?_)))))))))))))))))
   obtain rfl := so hh
   exact rq [6, 7] ⟨none, 0, z, (RS.nilF _ encTip encTip_len), z⟩
  ·replace hh := iteO_f h104 hh
   replace h104 := of_decide_eq_false h104
   refine TL.g z (moveI (.inl z) z) (TL.g z (fieldLoc z fo25_0 z) (TL.g z (loadLoc z ag3 z (i := 0) z z) (TL.g z (OpVal.geq z z z) (TL.w z (pickFB z z z) (TL.j z z (TL.split 23 z (fun h105 => ?_) (fun h105 => ?_)))))))
   ·replace hh := iteO_t h105 hh
    replace h105 := of_decide_eq_true h105
    refine TL.f z (TL.f z (TL.f z (TL.w z (pickTB z z z) (TL.en (TC.t z (TC.a (TL.s z z (TL.i z z (TL.en (TC.rt 0 (S.r ?_)))))))))))
    obtain rfl := so hh
    exact rq [6, 7] ⟨none, 0, z, (RS.nilF _ encTip encTip_len), z⟩
   ·replace hh := iteO_f h105 hh
    replace h105 := of_decide_eq_false h105
    refine TL.g z (moveStr (.inl z) z) (TL.g z (lenBs z underlying9 z) (TL.g z (OpVal.gtr z z z) (TL.w z (pickFB z z z) (TL.en (TC.cD z hh (fun h106 hh => ?_) (fun h106 hh => ?_))))))
    ·refine TC.a (TL.s z z (TL.i z z (TL.en (TC.rt 0 (S.r ?_)))))
     obtain rfl := so hh
     exact rq [6, 7] ⟨none, 0, z, (RS.nilF _ encTip encTip_len), z⟩
    ·refine TC.skip (S.n (TC.a (TL.w z (loadAll z ag25 sz25 z (i := 0) z z) ?_)))
     obtain ⟨v25, u25, hh⟩ := bnd_e hh
     refine TL.op z (OpOk.call (comp_leaving_con (x0 := x0) f0_0 f0_1 f0_2 u25) z z pf22 z z z z ?_)
     rintro _ τ107 _ hle107 ⟨a107_1, c107_1, rfl, hr107_0, rfl⟩
     have hr107_0b := hr107_0.big
     refine TL.i z z (TL.w z (moveStr (.inl z) z) ?_)
     obtain ⟨v28, u28, hh⟩ := bnd_e hh
     refine TL.op z (OpOk.call (comp_ways_con hr107_0 u28) z z pf34 z z z z ?_)
     rintro _ _ _ hle108 ⟨a108_1, c108_1, rfl, rfl, rfl⟩
     refine TL.w z (moveT (.inl z) z) (TL.w z (OpVal.extract z z z) (TL.w z (OpVal.extract z z z) (TL.s z z (TL.j z z (TL.en (TC.seq (TC.a (TL.j z z (TL.w z (OpVal.not z z) (TL.en (TC.cB z hh (fun h110 hh => ?_) (fun h110 hh => ?_))))))))))))
     ·refine TC.a (TL.s z z (TL.i z z (TL.en (TC.rt 0 (S.r ?_)))))
      obtain rfl := so hh
      exact rq [6, 7] ⟨none, 0, z, (RS.nilF _ encTip encTip_len), z⟩
     ·refine TC.skip (S.n (TC.a (TL.s z z (TL.s z z (TL.i z z (TL.en (TC.sealS encTip_len (fun τ113 hle112 hr111 => ?_))))))))
      have hr111b := hr111.rv.big
      refine TC.rt 0 ?_
      obtain rfl := so hh
      exact rq [6, 7] ⟨a108_1, c108_1, z, hr111, z⟩
end Go.Proofs.YtamgjehhjkgelaaGreatDoor
end

section
namespace Go.E
open Go
structure TwoM where
  s : FM Tip Unit
  e : FM Tip Unit
def TwoM.zero : TwoM := ⟨FM.emp, FM.emp⟩
structure Chain where
  a : Fst
  b : Fst
  arcs : List (List Arc)
  ends : List (List Tip)
  seen : FM Arc Unit
  tips : TwoM
  whole : Fst
  over : Bool
def Chain.zero : Chain := ⟨Fst.zero, Fst.zero, [], [], FM.emp, TwoM.zero, Fst.zero, false⟩
end Go.E
end

section
namespace Go.E
open Go
def UN (X : Ctx) (Q : QP) (c : Code) : Nat → Env → Store → List Res → Prop
  | 0 => fun _ _ _ => False
  | n + 1 => fun e σ H => TC X (seqQ (UN X Q c n) Q) c e σ H
theorem UN.step {X : Ctx} {Q : QP} {c : Code} {n : Nat} {e : Env} {σ : Store} {H : List Res} (h : TC X (seqQ (UN X Q c n) Q) c e σ H) : UN X Q c (n + 1) e σ H := h
theorem TC.unrolls {X : Ctx} {Q : QP} {c : Code} {e : Env} {σ : Store} {H : List Res} (n : Nat) (h : UN X Q c n e σ H) : TC X Q (.loop c) e σ H := by
  refine TC.loop (fun k e σ H => UN X Q c k e σ H) n h fun k e' σ' H' hk => ?_
  cases k with
  | zero => exact hk.elim
  | succ k =>
    refine TC.weak hk fun ex e'' σ'' H'' hq => ?_
    cases ex <;> first | exact hq | exact ⟨k, Nat.lt_succ_self k, hq⟩
def FnV : Type := { v : Value // v.oneCell' = true }
def FnV.nil : FnV := ⟨.nilFunc, rfl⟩
def encFn (x : FnV) : List Value := [x.1]
theorem encFn_len (x : FnV) : (encFn x).length = 1 := rfl
theorem encFn_one : ∀ x, ∀ u ∈ encFn x, u.oneCell' = true := fun x u hu => by
  obtain rfl := List.mem_singleton.1 hu
  exact x.2
end Go.E
end
