/- Parts of a proof, one behind the other: what a machine reaches, functions decompiled, plain lemmas. Conditions stand with each lemma. -/
import Derived.Test.YtcfjjckencjjeaaDoorBfc9ff1095d
import Derived.Test.YtcfjjckencjjeaaDoorB4205827d52
import Derived.Test.YtcfjjckencjjeaaDoorB248780e197
import Derived.KernelRfl

/- RatP -/
section
/- Automatons as transducers: the program. Plain lemmas, no condition. -/
set_option linter.unusedVariables false
set_option linter.unusedSimpArgs false
namespace Go.Proofs.YtcfjjckencjjeaaDoor
open Go Go.E
set_option maxRecDepth 100000

/-! ### What is put together -/
def growSt (g : Grow) (x : Tip) : Grow := if g.over = true ∨ 1024 ≤ g.f.starts.length ∨ 1024 < x.out.length then ⟨g.f, true⟩ else ⟨⟨g.f.states, g.f.starts ++ [x], g.f.ends, g.f.arcs⟩, false⟩
def growEn (g : Grow) (x : Tip) : Grow := if g.over = true ∨ 1024 ≤ g.f.ends.length ∨ 1024 < x.out.length then ⟨g.f, true⟩ else ⟨⟨g.f.states, g.f.starts, g.f.ends ++ [x], g.f.arcs⟩, false⟩
def growAr (g : Grow) (x : Arc) : Grow := if g.over = true ∨ 16384 ≤ g.f.arcs.length ∨ 1024 < x.out.length then ⟨g.f, true⟩ else ⟨⟨g.f.states, g.f.starts, g.f.ends, g.f.arcs ++ [x]⟩, false⟩
def lookG (g : Grow) : Fst × Int := if g.over = true ∨ 1024 < g.f.states then (⟨0, [], [], []⟩, 2) else (g.f, 0)
theorem start_eq (g : Grow) (x : Tip) : rat_grow_start g x = some (growSt g x) := by
  unfold rat_grow_start growSt
  obtain ⟨⟨n, S, E, A⟩, o⟩ := g
  cases o with
  | true => rw [if_pos (.inl rfl)]; rfl
  | false =>
    dsimp only
    rw [iteO_false]
    by_cases h1 : 1024 ≤ S.length
    · rw [iteO_dt (by omega), if_pos (.inr (.inl h1))]
    · rw [iteO_df (by omega)]
      by_cases h2 : 1024 < x.out.length
      · rw [iteO_dt (by omega), if_pos (.inr (.inr h2))]
      · rw [iteO_df (by omega), grd_mk (by simp only [List.length_singleton]; omega), if_neg (by simp; omega)]
theorem end_eq (g : Grow) (x : Tip) : rat_grow_end g x = some (growEn g x) := by
  unfold rat_grow_end growEn
  obtain ⟨⟨n, S, E, A⟩, o⟩ := g
  cases o with
  | true => rw [if_pos (.inl rfl)]; rfl
  | false =>
    dsimp only
    rw [iteO_false]
    by_cases h1 : 1024 ≤ E.length
    · rw [iteO_dt (by omega), if_pos (.inr (.inl h1))]
    · rw [iteO_df (by omega)]
      by_cases h2 : 1024 < x.out.length
      · rw [iteO_dt (by omega), if_pos (.inr (.inr h2))]
      · rw [iteO_df (by omega), grd_mk (by simp only [List.length_singleton]; omega), if_neg (by simp; omega)]
theorem arc_eq (g : Grow) (x : Arc) : rat_grow_arc g x = some (growAr g x) := by
  unfold rat_grow_arc growAr
  obtain ⟨⟨n, S, E, A⟩, o⟩ := g
  cases o with
  | true => rw [if_pos (.inl rfl)]; rfl
  | false =>
    dsimp only
    rw [iteO_false]
    by_cases h1 : 16384 ≤ A.length
    · rw [iteO_dt (by omega), if_pos (.inr (.inl h1))]
    · rw [iteO_df (by omega)]
      by_cases h2 : 1024 < x.out.length
      · rw [iteO_dt (by omega), if_pos (.inr (.inr h2))]
      · rw [iteO_df (by omega), grd_mk (by simp only [List.length_singleton]; omega), if_neg (by simp; omega)]
theorem look_eq (g : Grow) : rat_grow_look g = some (lookG g) := by
  unfold rat_grow_look lookG
  obtain ⟨⟨n, S, E, A⟩, o⟩ := g
  cases o with
  | true => rw [if_pos (.inl rfl)]; rfl
  | false =>
    dsimp only
    rw [iteO_false]
    by_cases h : 1024 < n
    · rw [iteO_dt h, if_pos (.inr h)]
    · rw [iteO_df h, if_neg (by simp; omega)]

/-! ### The way back -/
theorem cls_run {S : Type} {B : S → Int × BSet → Option (Nat × S)} {x1 : List BSet} (I : Nat → S → Prop) (hB : ∀ k l, k < x1.length → I k l → ∃ l', B l (((k : Nat) : Int), nth x1 k BSet.zero) = some (0, l') ∧ I (k + 1) l') {l0 : S} (h0 : I 0 l0) :
    ∃ l, dfa_classes_1 (stepY B) (0, l0) x1 = some (0, l) ∧ I x1.length l := by
  unfold dfa_classes_1
  obtain ⟨r, h1, l, h2, h3⟩ := iter_up (step := fun q : Nat × (Nat × S) => dfa_classes_1_b1 x1 (stepY B) q.1 q.2) (fun (s : S) k => (k, (0, s))) x1.length I (fun r => ∃ l, r = (0, l) ∧ I x1.length l)
    (fun k l hk hI => by
      obtain ⟨l', h1, h2⟩ := hB k l hk hI
      refine .inl ⟨l', ?_, h2⟩
      show dfa_classes_1_b1 x1 (stepY B) k (0, l) = _
      unfold dfa_classes_1_b1
      rw [iteO_dt (by omega)]
      have hs : stepY B (0, l) (((k : Nat) : Int), nth x1 k BSet.zero) = some ((0, l'), true) := by
        unfold stepY
        rw [if_pos rfl, h1]; rfl
      rw [bnd_some hs]; rfl)
    (fun l hI => ⟨(0, l), by
      show dfa_classes_1_b1 x1 (stepY B) x1.length (0, l) = _
      unfold dfa_classes_1_b1
      rw [iteO_df (by omega)]; rfl, l, rfl, hI⟩) h0
  exact ⟨l, by rw [h1, h2], h3⟩
/-- What is known of a right automaton's row at a byte. -/
structure RowOk (d : Dfa) (m s b : Nat) : Prop where
  cl : b < d.cls.length
  c0 : 0 ≤ nth d.cls b (0 : Int)
  c1 : nth d.cls b (0 : Int) < ((m : Nat) : Int)
  n0 : 0 ≤ nth (nth d.next s ([] : List Int)) (nth d.cls b (0 : Int)).toNat (0 : Int)
  n1 : nth (nth d.next s ([] : List Int)) (nth d.cls b (0 : Int)).toNat (0 : Int) < ((d.next.length : Nat) : Int)
theorem right_parts {d : Dfa} (h : rightD d = true) : ∃ m, cntF d.cls = some m ∧ d.cls.length = 256 ∧ 1 ≤ d.next.length ∧ d.next.length ≤ 1024 ∧ d.fin.length = d.next.length ∧ (∀ s, s < d.next.length → (nth d.next s ([] : List Int)).length = m ∧ ∀ c, c < m → 0 ≤ nth (nth d.next s ([] : List Int)) c (0 : Int) ∧ nth (nth d.next s ([] : List Int)) c (0 : Int) < ((d.next.length : Nat) : Int)) := by
  simp only [rightD, Bool.and_eq_true, decide_eq_true_eq] at h
  obtain ⟨⟨⟨h1, h2⟩, h3⟩, h4⟩ := h
  cases hm : cntF d.cls with
  | none => rw [hm] at h2; cases h2
  | some m =>
    rw [hm] at h2
    refine ⟨m, rfl, h1, h3.1, h3.2, h4, fun s hs => ?_⟩
    have hrow := List.all_eq_true.1 h2 _ (nth_memD (l := d.next) (i := s) hs [])
    simp only [goodR, Bool.and_eq_true, decide_eq_true_eq] at hrow
    refine ⟨hrow.1, fun c hc => ?_⟩
    have hx := List.all_eq_true.1 hrow.2 _ (nth_memD (l := nth d.next s []) (i := c) (by omega) 0)
    simp only [goodS, Bool.and_eq_true, decide_eq_true_eq] at hx
    exact hx
theorem row_ok {d : Dfa} {m : Nat} (h : rightD d = true) (hm : cntF d.cls = some m) {s b : Nat} (hs : s < d.next.length) (hb : b < 256) : RowOk d m s b := by
  obtain ⟨m', h1, h2, h3, h4, h5, h6⟩ := right_parts h
  rw [hm] at h1; cases h1
  have hcl : b < d.cls.length := by omega
  have hc := (cnt_mem d.cls 0 m hm).2 _ (nth_memD hcl 0)
  obtain ⟨-, h7⟩ := h6 s hs
  have h8 := h7 (nth d.cls b (0 : Int)).toNat (by omega)
  exact ⟨hcl, hc.1, hc.2, h8.1, h8.2⟩
theorem toS_far {d : Dfa} (h : rightD d = true) {s z : Nat} (hs : s < d.next.length) (hz : d.next.length ≤ z) : toS d s z = BSet.zero := by
  obtain ⟨m, hm, -⟩ := right_parts h
  unfold toS
  rw [← BSet.make_zero]
  refine BSet.make_congr fun b hb => decide_eq_false ?_
  have := (row_ok h hm hs hb).n1
  omega
theorem backR_snoc (d : Dfa) (s m : Nat) : backR d s (m + 1) = backR d s m ++ (if toS d s m = BSet.zero then [] else [⟨((s : Nat) : Int), ((m : Nat) : Int), toS d s m⟩]) := by
  unfold backR
  rw [List.range_succ, List.flatMap_append]; simp
theorem backR_far {d : Dfa} (h : rightD d = true) {s : Nat} (hs : s < d.next.length) : ∀ j, backR d s (d.next.length + j) = backR d s d.next.length
  | 0 => rfl
  | j + 1 => by rw [← Nat.add_assoc, backR_snoc, toS_far h hs (by omega), if_pos rfl, List.append_nil, backR_far h hs j]
theorem backE_snoc (d : Dfa) (m : Nat) : backE d (m + 1) = backE d m ++ backR d m d.next.length := by
  unfold backE
  rw [List.range_succ, List.flatMap_append]; simp
theorem endsN_snoc (d : Dfa) (m : Nat) : endsN d (m + 1) = endsN d m ++ (if nth d.fin m false = true then [((m : Nat) : Int)] else []) := by
  unfold endsN
  rw [List.range_succ, List.flatMap_append]; simp
/-- The sets by which a state goes on, of the classes so far. -/
structure ByI (d : Dfa) (s k : Nat) (l : List BSet) : Prop where
  len : l.length = 1024
  at_ : ∀ z, z < 1024 → nth l z BSet.zero = BSet.make fun b => decide (nth d.cls b (0 : Int) < ((k : Nat) : Int)) && decide (nth (nth d.next s ([] : List Int)) (nth d.cls b (0 : Int)).toNat (0 : Int) = ((z : Nat) : Int))
theorem by_step {d : Dfa} {m s k : Nat} {l : List BSet} (h : rightD d = true) (hm : cntF d.cls = some m) (hs : s < d.next.length) (hk : k < m) (hI : ByI d s k l) :
    ∃ l', dfa_Back_r64 d s l ((k : Nat) : Int) (clsS d.cls k) = some (0, l') ∧ ByI d s (k + 1) l' := by
  obtain ⟨m', h1, h2, h3, h4, h5, h6⟩ := right_parts h
  rw [hm] at h1; cases h1
  obtain ⟨h7, h8⟩ := h6 s hs
  have h9 := h8 k hk
  have hz : (nth (nth d.next s ([] : List Int)) k (0 : Int)).toNat < l.length := by rw [hI.len]; omega
  refine ⟨l.set (nth (nth d.next s ([] : List Int)) k (0 : Int)).toNat (BSet.make fun b => (nth l (nth (nth d.next s ([] : List Int)) k (0 : Int)).toNat BSet.zero).has b || (clsS d.cls k).has b), ?_, ⟨by rw [List.length_set]; exact hI.len, fun z hz2 => ?_⟩⟩
  · unfold dfa_Back_r64
    rw [show ((k : Nat) : Int).toNat = k from Int.toNat_natCast k]
    have q1 : 0 ≤ ((k : Nat) : Int) ∧ ((k : Nat) : Int) < (((nth d.next s ([] : List Int)).length : Nat) : Int) := ⟨by omega, by omega⟩
    have q2 : 0 ≤ nth (nth d.next s ([] : List Int)) k (0 : Int) ∧ nth (nth d.next s ([] : List Int)) k (0 : Int) < 1024 := ⟨h9.1, by omega⟩
    first | rw [grd_mk hs, grd_mk q1, grd_mk hs, grd_mk q1, grd_mk q2, bnd_some (any_eq _ _), grd_mk q2] | rw [grd_mk q1, grd_mk q1, grd_mk q2, bnd_some (any_eq _ _), grd_mk q2]
  · rw [nth_set' _ _ _ _ _ hz]
    split
    · rename_i e
      subst e
      rw [hI.at_ _ hz2]
      refine BSet.make_congr fun b hb => ?_
      have hr := row_ok h hm hs hb
      rw [BSet.make_has _ hb]
      unfold clsS
      rw [BSet.make_has _ hb]
      by_cases e1 : nth d.cls b (0 : Int) = ((k : Nat) : Int)
      · rw [e1, Int.toNat_natCast]
        simp; omega
      · rw [decide_eq_false e1, Bool.or_false]
        congr 1
        rw [decide_eq_decide]; omega
    · rename_i e
      rw [hI.at_ _ hz2]
      refine BSet.make_congr fun b hb => ?_
      have hr := row_ok h hm hs hb
      by_cases e1 : nth d.cls b (0 : Int) = ((k : Nat) : Int)
      · rw [e1, Int.toNat_natCast, decide_eq_false (show ¬ nth (nth d.next s ([] : List Int)) k (0 : Int) = ((z : Nat) : Int) by omega)]; simp
      · congr 1
        rw [decide_eq_decide]; omega
theorem by_all {d : Dfa} {m s : Nat} {l : List BSet} (h : rightD d = true) (hm : cntF d.cls = some m) (hs : s < d.next.length) (hI : ByI d s m l) : l.length = 1024 ∧ ∀ z, z < 1024 → nth l z BSet.zero = toS d s z :=
  ⟨hI.len, fun z hz => by
    rw [hI.at_ z hz]
    unfold toS
    refine BSet.make_congr fun b hb => ?_
    rw [decide_eq_true (row_ok h hm hs hb).c1, Bool.true_and]⟩
theorem nth_rep {α : Type} (n i : Nat) (x : α) : nth (List.replicate n x) i x = x := by
  unfold nth
  rw [List.getD_eq_getElem?_getD, List.getElem?_replicate]
  split <;> rfl
theorem by_run {d : Dfa} {v6 : List BSet × Int} {s : Nat} (h : rightD d = true) (hm : cntF d.cls = some v6.1.length) (hsets : ∀ c, c < v6.1.length → nth v6.1 c BSet.zero = clsS d.cls c) (hs : s < d.next.length) :
    ∃ l, dfa_classes_1 (stepY (fun (q : (List BSet)) (x : Int × BSet) => dfa_Back_r64 d s q x.1 x.2)) (0, (List.replicate 1024 BSet.zero)) v6.1 = some (0, l) ∧ l.length = 1024 ∧ ∀ z, z < 1024 → nth l z BSet.zero = toS d s z := by
  obtain ⟨l, h1, h2⟩ := cls_run (B := fun (q : (List BSet)) (x : Int × BSet) => dfa_Back_r64 d s q x.1 x.2) (x1 := v6.1) (ByI d s) (fun k l hk hI => by
    dsimp only
    rw [hsets k hk]; exact by_step h hm hs hk hI) (l0 := List.replicate 1024 BSet.zero) ⟨List.length_replicate, fun z _ => by
      rw [nth_rep, ← BSet.make_zero]
      refine BSet.make_congr fun b hb => ?_
      have := (row_ok h hm hs hb).c0
      rw [decide_eq_false (by omega), Bool.false_and]⟩
  exact ⟨l, h1, by_all h hm hs h2⟩
theorem back_in {d : Dfa} {s : Nat} {l : List BSet} {E : List Int} {A0 : List Arrow} (h : rightD d = true) (hs : s < d.next.length) (hl : ∀ z, z < 1024 → nth l z BSet.zero = toS d s z) (hA : A0.length ≤ 20000) (hn : d.next.length ≤ 100) :
    iter (fun q : (List Arrow) × Nat => dfa_Back_b2 l s E q.1 q.2) (A0, 0) = some (.inl (E, A0 ++ backR d s d.next.length, s + 1)) := by
  obtain ⟨r, h1, rfl⟩ := iter_up (step := fun q : (List Arrow) × Nat => dfa_Back_b2 l s E q.1 q.2) (fun (A : List Arrow) k => (A, k)) 1024 (fun k A => A = A0 ++ backR d s k) (fun r => r = .inl (E, A0 ++ backR d s d.next.length, s + 1))
    (fun k A hk hI => by
      subst hI
      have hlen := backR_len d s k
      refine .inl ⟨A0 ++ backR d s (k + 1), ?_, rfl⟩
      show dfa_Back_b2 l s E _ k = _
      unfold dfa_Back_b2 dfa_Back_j2
      rw [iteO_dt (by omega), hl k hk]
      by_cases hz : toS d s k = BSet.zero
      · rw [iteO_df (by simpa using hz), backR_snoc, if_pos hz, List.append_nil]; rfl
      · rw [iteO_dt hz, grd_mk (by simp only [List.length_append, List.length_singleton]; omega), backR_snoc, if_neg hz, List.append_assoc]; rfl)
    (fun A hI => by
      subst hI
      have hlen := backR_len d s d.next.length
      have e := backR_far h hs (1024 - d.next.length)
      rw [show d.next.length + (1024 - d.next.length) = 1024 by omega] at e
      refine ⟨_, ?_, rfl⟩
      show dfa_Back_b2 l s E _ 1024 = _
      unfold dfa_Back_b2
      rw [iteO_df (by omega), e, iteO_df (by simp only [List.length_append]; omega)]; rfl) (s0 := A0) (by simp [backR])
  exact h1
theorem dback_eq {d : Dfa} (hn : d.next.length ≤ 100) : dfa_Back d = some (if rightD d = true then (backN d, 0) else (⟨0, [], [], []⟩, 1)) := by
  unfold dfa_Back
  obtain ⟨v6, hv, hp⟩ := partSets_full d.cls
  rw [bnd_some hv]
  by_cases h : rightD d = true
  · rw [if_pos h]
    obtain ⟨m, hm, h2, h3, h4, h5, h6⟩ := right_parts h
    rcases hp with ⟨hp, -⟩ | ⟨-, hc, h0, hsets, -⟩
    · rcases hp with hp | hp
      · exact absurd h2 hp
      · rw [hm] at hp; cases hp
    rw [iteO_df (by omega), dcheck_eq, bnd_mk, if_pos h, iteO_df (by simp)]
    have hm2 : m = v6.1.length := by rw [hm] at hc; exact Option.some.inj hc
    subst hm2
    obtain ⟨r, h7, rfl⟩ := iter_up (step := fun q : (List Int) × (List Arrow) × Nat => dfa_Back_b1 d v6 q.1 q.2.1 q.2.2) (fun (s : List Int × List Arrow) k => (s.1, s.2, k)) d.next.length (fun k s => s = (endsN d k, backE d k)) (fun r => r = (backN d, 0))
      (fun k s hk hI => by
        subst hI
        have e1 := endsN_len d k
        have e2 := backE_len d k
        have e3 := Nat.mul_le_mul (show k ≤ 100 by omega) hn
        obtain ⟨l, q1, q2, q3⟩ := by_run h hm hsets hk
        refine .inl ⟨(endsN d (k + 1), backE d (k + 1)), ?_, rfl⟩
        show dfa_Back_b1 d v6 _ _ k = _
        have hj : ∀ E : List Int, dfa_Back_j1 v6 d k (backE d k) E = some (.inl (E, backE d (k + 1), k + 1)) := fun E => by
          unfold dfa_Back_j1 dfa_classes
          rw [bnd_mk, bnd_some q1]
          show dfa_Back_k64 k E (backE d k) 0 l = _
          unfold dfa_Back_k64
          show iter _ _ = _
          rw [back_in h hk q3 (by omega) hn, backE_snoc]
        unfold dfa_Back_b1
        rw [iteO_dt (by omega), grd_mk (by omega), endsN_snoc]
        by_cases hf : nth d.fin k false = true
        · rw [hf, iteO_true, if_pos rfl, grd_mk (by simp only [List.length_singleton]; omega), hj]
        · simp only [Bool.not_eq_true] at hf
          rw [hf, iteO_false, if_neg (by simp), List.append_nil, hj])
      (fun s hI => by
        subst hI
        refine ⟨_, ?_, rfl⟩
        show dfa_Back_b1 d v6 _ _ d.next.length = _
        unfold dfa_Back_b1
        rw [iteO_df (by omega)]; rfl) (s0 := ([], [])) (by simp [endsN, backE])
    exact h7
  · rw [if_neg h, dcheck_eq]
    by_cases hv2 : v6.2 = 0
    · rw [iteO_df (by omega), bnd_mk, if_neg h, iteO_dt (by simp)]
    · rw [iteO_dt hv2]

/-! ### The transducer -/
theorem gstarts_run {v5 : Nfa × Int} {x1 : List UInt8} {x2 : Bool} {n : Int} {R : Fst × Int} (hs : v5.1.starts = [0])
    (hnext : iter (fun q : Int × (List Tip) × (List Tip) × (List Arc) × Bool × Nat => rat_back_b2 v5 x1 x2 q.1 q.2.1 q.2.2.1 q.2.2.2.1 q.2.2.2.2.1 q.2.2.2.2.2) (n, [⟨0, []⟩], [], [], false, 0) = some R) :
    iter (fun q : Int × (List Tip) × (List Tip) × (List Arc) × Bool × Nat => rat_back_b1 v5 x1 x2 q.1 q.2.1 q.2.2.1 q.2.2.2.1 q.2.2.2.2.1 q.2.2.2.2.2) (n, [], [], [], false, 0) = some R := by
  have h1 : rat_back_b1 v5 x1 x2 n [] [] [] false 0 = some (.inl (n, [⟨0, []⟩], [], [], false, 1)) := by
    unfold rat_back_b1
    rw [hs, iteO_dt (by simp), start_eq, bnd_mk]; rfl
  refine iter_next (s' := (n, [⟨0, []⟩], [], [], false, 1)) h1 (iter_done ?_)
  show rat_back_b1 v5 x1 x2 n [⟨0, []⟩] [] [] false 1 = _
  unfold rat_back_b1
  rw [hs, iteO_df (by simp)]
  show fin _ = _
  rw [hnext]; rfl
theorem ratBack_eq {d : Dfa} (hn : d.next.length ≤ 100) (out : List UInt8) (c : Bool) (ho : out.length ≤ 1024) : rat_back d out c = some (if rightD d = true then (mkF d out c, 0) else (⟨0, [], [], []⟩, 1)) := by
  unfold rat_back
  rw [grd_mk (by omega), dback_eq hn, bnd_mk]
  by_cases h : rightD d = true
  · rw [if_pos h, if_pos h]
    dsimp only
    rw [iteO_df (by simp)]
    have e1 := endsN_len d d.next.length
    have e2 := backE_len d d.next.length
    have e3 := Nat.mul_le_mul hn hn
    refine gstarts_run (v5 := (backN d, 0)) rfl ?_
    obtain ⟨r, h1, rfl⟩ := iter_up (step := fun q : Int × (List Tip) × (List Tip) × (List Arc) × Bool × Nat => rat_back_b2 (backN d, 0) out c q.1 q.2.1 q.2.2.1 q.2.2.2.1 q.2.2.2.2.1 q.2.2.2.2.2) (fun (E : List Tip) k => (((d.next.length : Nat) : Int), [⟨0, []⟩], E, [], false, k)) (endsN d d.next.length).length
      (fun k E => E = ((endsN d d.next.length).take k).map fun s => ⟨s, out⟩) (fun r => r = (mkF d out c, 0))
      (fun k E hk hI => by
        subst hI
        refine .inl ⟨_, ?_, rfl⟩
        show rat_back_b2 (backN d, 0) out c _ _ _ _ _ k = _
        unfold rat_back_b2
        show iteO (decide (((k : Nat) : Int) < (((endsN d d.next.length).length : Nat) : Int))) _ _ = _
        rw [iteO_dt (by omega), end_eq, bnd_mk]
        unfold growEn
        rw [if_neg (by simp only [Bool.false_eq_true, false_or, List.length_map, List.length_take]; omega)]
        rw [List.take_add_one, getD_some _ hk 0, Option.toList_some, List.map_append]; rfl)
      (fun E hI => by
        subst hI
        rw [List.take_length]
        refine ⟨_, ?_, rfl⟩
        show rat_back_b2 (backN d, 0) out c _ _ _ _ _ (endsN d d.next.length).length = _
        unfold rat_back_b2
        show iteO (decide ((((endsN d d.next.length).length : Nat) : Int) < (((endsN d d.next.length).length : Nat) : Int))) _ _ = _
        rw [iteO_df (by omega)]
        obtain ⟨r, h1, rfl⟩ := iter_up (step := fun q : Int × (List Tip) × (List Tip) × (List Arc) × Bool × Nat => rat_back_b3 (backN d, 0) c q.1 q.2.1 q.2.2.1 q.2.2.2.1 q.2.2.2.2.1 q.2.2.2.2.2) (fun (A : List Arc) k => (((d.next.length : Nat) : Int), [⟨0, []⟩], (endsN d d.next.length).map (fun s => (⟨s, out⟩ : Tip)), A, false, k)) (backE d d.next.length).length
          (fun k A => A = ((backE d d.next.length).take k).map fun x => ⟨x.frm, x.to, x.set, [], c⟩) (fun r => r = (mkF d out c, 0))
          (fun k A hk hI => by
            subst hI
            refine .inl ⟨_, ?_, rfl⟩
            show rat_back_b3 (backN d, 0) c _ _ _ _ _ k = _
            unfold rat_back_b3
            show iteO (decide (((k : Nat) : Int) < (((backE d d.next.length).length : Nat) : Int))) _ _ = _
            rw [iteO_dt (by omega), arc_eq, bnd_mk]
            unfold growAr
            rw [if_neg (by simp only [Bool.false_eq_true, false_or, List.length_map, List.length_take, List.length_nil]; omega)]
            rw [List.take_add_one, getD_some _ hk Arrow.zero, Option.toList_some, List.map_append]; rfl)
          (fun A hI => by
            subst hI
            rw [List.take_length]
            refine ⟨_, ?_, rfl⟩
            show rat_back_b3 (backN d, 0) c _ _ _ _ _ (backE d d.next.length).length = _
            unfold rat_back_b3
            show iteO (decide ((((backE d d.next.length).length : Nat) : Int) < (((backE d d.next.length).length : Nat) : Int))) _ _ = _
            rw [iteO_df (by omega), look_eq, bnd_mk]
            unfold lookG
            rw [if_neg (by simp only [Bool.false_eq_true, false_or]; omega)]; rfl) (s0 := []) (by simp)
        show fin (iter _ _) = _
        rw [h1]; rfl) (s0 := []) (by simp)
    exact h1
  · rw [if_neg h, if_neg h]; rfl
theorem same16_eq {d : Dfa} (hn : d.next.length ≤ 100) : rat_Same d = some (if rightD d = true then (mkF d [] true, 0) else (⟨0, [], [], []⟩, 1)) := by
  unfold rat_Same
  rw [dcheck_eq, bnd_mk]
  by_cases h : rightD d = true
  · rw [if_pos h, if_pos h, iteO_df (by simp), ratBack_eq hn [] true (by simp), bnd_mk, if_pos h]
  · rw [if_neg h, if_neg h, iteO_dt (by simp)]
theorem cross_eq {d : Dfa} (hn : d.next.length ≤ 100) (out : List UInt8) (ho : out.length ≤ 281474976710656) : rat_Cross d out = some (if rightD d = true then (if 1024 < out.length then (⟨0, [], [], []⟩, 2) else (mkF d out false, 0)) else (⟨0, [], [], []⟩, 1)) := by
  unfold rat_Cross
  rw [grd_mk ho, dcheck_eq, bnd_mk]
  by_cases h : rightD d = true
  · rw [if_pos h, if_pos h, iteO_df (by simp)]
    by_cases h2 : 1024 < out.length
    · rw [iteO_dt (by omega), if_pos h2]
    · rw [iteO_df (by omega), if_neg h2, ratBack_eq hn out false (by omega), bnd_mk, if_pos h]
  · rw [if_neg h, if_neg h, iteO_dt (by simp)]
end Go.Proofs.YtcfjjckencjjeaaDoor
end

/- Chk -/
section
/- What makes an automaton right. Plain lemmas, no condition. -/
set_option linter.unusedVariables false
set_option linter.unusedSimpArgs false
namespace Go.Proofs.YtcfjjckencjjeaaDoor
open Go Go.E
set_option maxRecDepth 100000

end Go.Proofs.YtcfjjckencjjeaaDoor
end

/- FstR -/
section
/- In, and Sort, of a transducer; what the laws look at. Plain lemmas, no condition. -/
set_option linter.unusedVariables false
set_option linter.unusedSimpArgs false
namespace Go.Proofs.YtcfjjckencjjeaaDoor
open Go Go.E
set_option maxRecDepth 100000

/-! ### In order -/
/-- The same things, be it in another order and more often. -/
structure Alike (s t : Fst) : Prop where
  states : s.states = t.states
  starts : ∀ x, x ∈ s.starts ↔ x ∈ t.starts
  ends : ∀ x, x ∈ s.ends ↔ x ∈ t.ends
  arcs : ∀ x, x ∈ s.arcs ↔ x ∈ t.arcs
/-- More arcs and tips. -/
structure Within (s t : Fst) : Prop where
  starts : ∀ x ∈ s.starts, x ∈ t.starts
  ends : ∀ x ∈ s.ends, x ∈ t.ends
  arcs : ∀ x ∈ s.arcs, x ∈ t.arcs
theorem mem_endT {t : Fst} {S : List FPair} {o : List UInt8} : o ∈ endT t S ↔ ∃ p ∈ S, ∃ e ∈ t.ends, e.state = p.state ∧ o = p.out ++ e.out := by
  simp only [endT, List.mem_flatMap, List.mem_map, List.mem_filter, decide_eq_true_eq]
  constructor
  · rintro ⟨p, hp, _, ⟨e, ⟨he, h1⟩, rfl⟩, h2⟩; exact ⟨p, hp, e, he, h1, h2.symm⟩
  · rintro ⟨p, hp, e, he, h1, h2⟩; exact ⟨p, hp, _, ⟨e, ⟨he, h1⟩, rfl⟩, h2.symm⟩
theorem mem_outsL {t : Fst} {w o : List UInt8} : o ∈ outsL t w ↔ ∃ p ∈ pairsL t w, ∃ e ∈ t.ends, e.state = p.state ∧ o = p.out ++ e.out := by rw [outsL, mem_onceL, mem_endT]
theorem outsL_rise (t : Fst) (w : List UInt8) : (outsL t w).Pairwise fun x y => Lib.compareBytes x y < 0 := sorted_onceL cmpB_good _
/-! ### What the laws look at -/
theorem same_run {α R : Type} {step : Nat → Option (Nat ⊕ R)} {y : R} (n : Nat) (hs : ∀ k, k < n → step k = some (.inl (k + 1))) (hd : step n = some (.inr y)) : iter step 0 = some y := iter_seq0 (fun k => k) n hs hd
theorem texts_refl (l : List (List UInt8)) : whittleref03_Texts l l = some true := by
  unfold whittleref03_Texts
  rw [decide_eq_false (by simp), iteO_false]
  refine same_run (α := Unit) l.length (fun k hk => ?_) ?_
  · simp only [whittleref03_Texts_b1, lt_dec hk, iteO_true, grd_mk hk, ne_eq, not_true_eq_false, decide_false, iteO_false]; rfl
  · simp only [whittleref03_Texts_b1, Int.lt_irrefl, decide_false, iteO_false]; rfl
end Go.Proofs.YtcfjjckencjjeaaDoor
end

/- S1b -/
section
/- Decompiled: an automaton that goes one way, from one that may go many. -/
set_option linter.unusedVariables false
set_option linter.unusedSimpArgs false
namespace Go.Proofs.YtcfjjckencjjeaaDoor
open Go Go.E Go.E.OpVal Go.E.OpOk Go.Proofs.Tryd
set_option maxRecDepth 100000
private theorem ag113 : Go.E.aggOf Tryd.prog 113 = some false := by kernel_rfl
private theorem ag114 : Go.E.aggOf Tryd.prog 114 = some false := by kernel_rfl
private theorem ag23 : Go.E.aggOf Tryd.prog 23 = some false := by kernel_rfl
private theorem ag24 : Go.E.aggOf Tryd.prog 24 = some false := by kernel_rfl
private theorem ag26 : Go.E.aggOf Tryd.prog 26 = some true := by kernel_rfl
private theorem ag32 : Go.E.aggOf Tryd.prog 32 = some false := by kernel_rfl
private theorem ag4 : Go.E.aggOf Tryd.prog 4 = some false := by kernel_rfl
private theorem by22 : Go.E.byOf Tryd.prog 22 = some 24 := by kernel_rfl
private theorem by4 : Go.E.byOf Tryd.prog 4 = some 1 := by kernel_rfl
private theorem by72 : Go.E.byOf Tryd.prog 72 = some 24 := by kernel_rfl
private theorem fo26_1 : Go.E.foOf Tryd.prog 26 1 = some 1 := by kernel_rfl
private theorem fo26_2 : Go.E.foOf Tryd.prog 26 2 = some 2 := by kernel_rfl
private theorem pf45 : Go.E.plainF Tryd.prog 45 = true := by kernel_rfl
private theorem pf46 : Go.E.plainF Tryd.prog 46 = true := by kernel_rfl
private theorem pf47 : Go.E.plainF Tryd.prog 47 = true := by kernel_rfl
private theorem pf48 : Go.E.plainF Tryd.prog 48 = true := by kernel_rfl
private theorem pf49 : Go.E.plainF Tryd.prog 49 = true := by kernel_rfl
private theorem pf50 : Go.E.plainF Tryd.prog 50 = true := by kernel_rfl
private theorem pf51 : Go.E.plainF Tryd.prog 51 = true := by kernel_rfl
private theorem pf52 : Go.E.plainF Tryd.prog 52 = true := by kernel_rfl
private theorem pf53 : Go.E.plainF Tryd.prog 53 = true := by kernel_rfl
private theorem pf54 : Go.E.plainF Tryd.prog 54 = true := by kernel_rfl
private theorem pf59 : Go.E.plainF Tryd.prog 59 = true := by kernel_rfl
private theorem pl26 : Go.E.plOf Tryd.prog 26 = some #[(0, 1), (1, 1), (2, 1)] := by kernel_rfl
private theorem sz113 : Go.E.szOf Tryd.prog 113 = some 1 := by kernel_rfl
private theorem sz114 : Go.E.szOf Tryd.prog 114 = some 1 := by kernel_rfl
private theorem sz22 : Go.E.szOf Tryd.prog 22 = some 1 := by kernel_rfl
private theorem sz23 : Go.E.szOf Tryd.prog 23 = some 1 := by kernel_rfl
private theorem sz24 : Go.E.szOf Tryd.prog 24 = some 1 := by kernel_rfl
private theorem sz26 : Go.E.szOf Tryd.prog 26 = some 3 := by kernel_rfl
private theorem sz32 : Go.E.szOf Tryd.prog 32 = some 1 := by kernel_rfl
private theorem sz4 : Go.E.szOf Tryd.prog 4 = some 1 := by kernel_rfl
private theorem ze113 : Go.E.zeroOf Tryd.prog 113 = some (.slice none 0 0) := by kernel_rfl
private theorem ze114 : Go.E.zeroOf Tryd.prog 114 = some (.pointer none) := by kernel_rfl
private theorem ze22 : Go.E.zeroOf Tryd.prog 22 = some (.slice none 0 0) := by kernel_rfl
private theorem ze26 : Go.E.zeroOf Tryd.prog 26 = some (.agg #[.slice none 0 0, .slice none 0 0, .slice none 0 0]) := by kernel_rfl
private theorem ze32 : Go.E.zeroOf Tryd.prog 32 = some (.int .i64 0) := by kernel_rfl
private theorem ze4 : Go.E.zeroOf Tryd.prog 4 = some (.bool false) := by kernel_rfl
private theorem ze72 : Go.E.zeroOf Tryd.prog 72 = some (.slice none 0 0) := by kernel_rfl

noncomputable def dfa_Of_j1 (l130 : List (List Arrow)) (x0 : Nfa) (k134 : Nat) : Option (((List (List Arrow)) × Nat) ⊕ (Dfa × Int)) :=
 nxt ((l130.set (((nth x0.edges k134 Arrow.zero).frm).toNat) ((nth l130 (((nth x0.edges k134 Arrow.zero).frm).toNat) ([] : List Arrow)) ++ [(nth x0.edges k134 Arrow.zero)])), (k134 + 1))
noncomputable def dfa_Of_j2 (k323 : Nat) (t335 : Bool) : Option ((Bool × Nat) ⊕ ((Int × (List (List Int)) × (FM (List UInt8) Int) × (List (List Int)) × (List Bool) × Nat) ⊕ (Dfa × Int))) :=
 nxt (t335, (k323 + 1))
noncomputable def dfa_Of_r256 (l130 : List (List Arrow)) (v116 : (List Int) × Int) (i388 : Int) (l391 : List (List Int)) (m397 : FM (List UInt8) Int) (l401 : List Int) (y256_0 : Int) (y256_1 : BSet) : Option (Nat × (Int × (List (List Int)) × (FM (List UInt8) Int) × (List Int))) :=
 bnd (dfa_behind l130 v116.1 y256_1) (fun v161 => bnd (putKeep (⟨(⟨l391, m397⟩ : IStore)⟩ : ITable) v161) (fun v162 => iteO (decide (v162.2.2.1 ≠ 0)) (some (1, (v162.2.2.1, v162.2.2.2.of.rows, v162.2.2.2.of.places, l401))) (iteO (decide (1024 ≤ v162.1)) (some (1, (2, v162.2.2.2.of.rows, v162.2.2.2.of.places, l401))) (grd (0 ≤ y256_0 ∧ y256_0 < (l401.length : Int)) (some (0, (i388, v162.2.2.2.of.rows, v162.2.2.2.of.places, (l401.set y256_0.toNat v162.1))))))))
noncomputable def dfa_Of_k256 (l277 : List (List Int)) (l283 : List Bool) (t322 : Bool) (k286 : Nat) (jz : Nat) (i388 : Int) (l391 : List (List Int)) (m397 : FM (List UInt8) Int) (l401 : List Int) : Option ((Int × (List (List Int)) × (FM (List UInt8) Int) × (List (List Int)) × (List Bool) × Nat) ⊕ (Dfa × Int)) :=
 jsel jz (grd ((l277.length + [l401].length) * 24 ≤ 140737488355328) (grd ((l283.length + [t322].length) * 1 ≤ 140737488355328) (grd (k286 + 1 ≤ 9223372036854775807) (nxt (i388, l391, m397, (l277 ++ [l401]), (l283 ++ [t322]), (k286 + 1)))))) (fun j_ => jsel j_ (fin (some ((⟨([] : List Int), ([] : List (List Int)), ([] : List Bool)⟩ : Dfa), i388))) (fun _ => none))
noncomputable def dfa_Of_b4 (v116 : (List Int) × Int) (l193 : List Bool) (v13 : (List BSet) × Int) (l130 : List (List Arrow)) (i264 : Int) (l268 : List (List Int)) (m274 : FM (List UInt8) Int) (l277 : List (List Int)) (l283 : List Bool) (k286 : Nat) (t322 : Bool) (k323 : Nat) : Option ((Bool × Nat) ⊕ ((Int × (List (List Int)) × (FM (List UInt8) Int) × (List (List Int)) × (List Bool) × Nat) ⊕ (Dfa × Int))) :=
 iteO (decide (((k323 : Nat) : Int) < ((v116.1.length : Nat) : Int))) (iteO t322 (dfa_Of_j2 k323 true) (grd (0 ≤ (nth v116.1 k323 (0 : Int)) ∧ (nth v116.1 k323 (0 : Int)) < (l193.length : Int)) (dfa_Of_j2 k323 (nth l193 ((nth v116.1 k323 (0 : Int)).toNat) false)))) (fin (grd (8 * v13.1.length ≤ 281474976710656) (bnd (dfa_classes v13.1) (fun v153 => bnd (dfa_classes_1 (stepY (fun (q : Int × (List (List Int)) × (FM (List UInt8) Int) × (List Int)) (x : Int × BSet) => dfa_Of_r256 l130 v116 q.1 q.2.1 q.2.2.1 q.2.2.2 x.1 x.2)) (0, (i264, l268, m274, (List.replicate v13.1.length (0 : Int)))) v153) (fun zr256 => dfa_Of_k256 l277 l283 t322 k286 zr256.1 zr256.2.1 zr256.2.2.1 zr256.2.2.2.1 zr256.2.2.2.2)))))
noncomputable def dfa_Of_b3 (l193 : List Bool) (v13 : (List BSet) × Int) (l130 : List (List Arrow)) (v26 : (List Int) × Int) (i264 : Int) (l268 : List (List Int)) (m274 : FM (List UInt8) Int) (l277 : List (List Int)) (l283 : List Bool) (k286 : Nat) : Option ((Int × (List (List Int)) × (FM (List UInt8) Int) × (List (List Int)) × (List Bool) × Nat) ⊕ (Dfa × Int)) :=
 bnd (intern_Table_Size (⟨(⟨l268, m274⟩ : IStore)⟩ : ITable)) (fun v112 => iteO (decide (((k286 : Nat) : Int) < v112)) (bnd (intern_Table_Row (⟨(⟨l268, m274⟩ : IStore)⟩ : ITable) ((k286 : Nat) : Int)) (fun v116 => iteO (decide (v116.2 ≠ 0)) (fin (some ((⟨([] : List Int), ([] : List (List Int)), ([] : List Bool)⟩ : Dfa), v116.2))) (iter (fun q : Bool × Nat => dfa_Of_b4 v116 l193 v13 l130 i264 l268 m274 l277 l283 k286 q.1 q.2) (false, 0)))) (fin (some ((⟨v26.1, l277, l283⟩ : Dfa), 0))))
noncomputable def dfa_Of_b2 (x0 : Nfa) (v13 : (List BSet) × Int) (l130 : List (List Arrow)) (v26 : (List Int) × Int) (l193 : List Bool) (k195 : Nat) : Option (((List Bool) × Nat) ⊕ (Dfa × Int)) :=
 iteO (decide (((k195 : Nat) : Int) < ((x0.ends.length : Nat) : Int))) (grd (0 ≤ (nth x0.ends k195 (0 : Int)) ∧ (nth x0.ends k195 (0 : Int)) < (l193.length : Int)) (nxt ((l193.set ((nth x0.ends k195 (0 : Int)).toNat) true), (k195 + 1)))) (fin (bnd (intern_New) (fun v85 => bnd (intern_Table_Put (⟨(⟨v85.of.rows, v85.of.places⟩ : IStore)⟩ : ITable) x0.starts) (fun v91 => iteO (decide (v91.2.2.1 ≠ 0)) (some ((⟨([] : List Int), ([] : List (List Int)), ([] : List Bool)⟩ : Dfa), v91.2.2.1)) (iter (fun q : Int × (List (List Int)) × (FM (List UInt8) Int) × (List (List Int)) × (List Bool) × Nat => dfa_Of_b3 l193 v13 l130 v26 q.1 q.2.1 q.2.2.1 q.2.2.2.1 q.2.2.2.2.1 q.2.2.2.2.2) (0, v91.2.2.2.of.rows, v91.2.2.2.of.places, ([] : List (List Int)), ([] : List Bool), 0))))))
noncomputable def dfa_Of_b1 (x0 : Nfa) (v13 : (List BSet) × Int) (v26 : (List Int) × Int) (l130 : List (List Arrow)) (k134 : Nat) : Option (((List (List Arrow)) × Nat) ⊕ (Dfa × Int)) :=
 iteO (decide (((k134 : Nat) : Int) < ((x0.edges.length : Nat) : Int))) (grd (0 ≤ ((nth x0.edges k134 Arrow.zero).frm) ∧ ((nth x0.edges k134 Arrow.zero).frm) < (l130.length : Int)) (grd (((nth l130 (((nth x0.edges k134 Arrow.zero).frm).toNat) ([] : List Arrow)).length + [(nth x0.edges k134 Arrow.zero)].length) * 48 ≤ 140737488355328) (grd (0 ≤ ((nth x0.edges k134 Arrow.zero).frm) ∧ ((nth x0.edges k134 Arrow.zero).frm) < (l130.length : Int)) (dfa_Of_j1 l130 x0 k134)))) (fin (grd (0 ≤ x0.states ∧ 1 * x0.states.toNat ≤ 281474976710656) (iter (fun q : (List Bool) × Nat => dfa_Of_b2 x0 v13 l130 v26 q.1 q.2) ((List.replicate x0.states.toNat false), 0))))
noncomputable def dfa_Of (x0 : Nfa) : Option (Dfa × Int) :=
 iteO (decide ((errB (checkB x0)) ≠ 0)) (some ((⟨([] : List Int), ([] : List (List Int)), ([] : List Bool)⟩ : Dfa), 1)) (bnd (dfa_unlike x0.edges) (fun v12 => bnd (part_Parts v12) (fun v13 => iteO (decide (v13.2 ≠ 0)) (some ((⟨([] : List Int), ([] : List (List Int)), ([] : List Bool)⟩ : Dfa), v13.2)) (bnd (part_Class v13.1) (fun v26 => iteO (decide (v26.2 ≠ 0)) (some ((⟨([] : List Int), ([] : List (List Int)), ([] : List Bool)⟩ : Dfa), v26.2)) (grd (0 ≤ x0.states ∧ 24 * x0.states.toNat ≤ 281474976710656) (iter (fun q : (List (List Arrow)) × Nat => dfa_Of_b1 x0 v13 v26 q.1 q.2) ((List.replicate x0.states.toNat ([] : List Arrow)), 0))))))))
def dfa_Of_P (σ : Store) (r : Dfa × Int) : Value → Store → List Res → Prop := fun v σ' H' =>
 ∃ (a1 : Option Addr), ∃ (c1 : Nat), ∃ (a2 : Option Addr), ∃ (c2 : Nat), ∃ (a3 : Option Addr), ∃ (c3 : Nat),  v = .tuple #[.agg #[.slice a1 r.1.cls.length c1, .slice a2 r.1.next.length c2, .slice a3 r.1.fin.length c3], .int .i64 r.2] ∧ RS σ' 1 Go.E.encI (.slice a1 r.1.cls.length c1) r.1.cls ∧ RZ σ' (pkSl 1 Go.E.encI Go.E.encI_len) (.slice a2 r.1.next.length c2) r.1.next ∧ RS σ' 1 encB (.slice a3 r.1.fin.length c3) r.1.fin ∧ H' = []
set_option maxHeartbeats 8000000 in
theorem dfa_Of_con {σ : Store} {x0 : Nfa} {a0_0 : Option Addr} {c0_0 : Nat} {a0_1 : Option Addr} {c0_1 : Nat} {a0_2 : Option Addr} {c0_2 : Nat} (hgl : GT σ 1 encU8 deB) (f0_0 : RS σ 1 Go.E.encI (.slice a0_0 x0.starts.length c0_0) x0.starts) (f0_1 : RS σ 1 Go.E.encI (.slice a0_1 x0.ends.length c0_1) x0.ends) (f0_2 : RS σ 6 encE (.slice a0_2 x0.edges.length c0_2) x0.edges) {r : Dfa × Int} (hh : dfa_Of x0 = some r) :
  Con Tryd.prog 27 #[.agg #[.int .i64 x0.states, .slice a0_0 x0.starts.length c0_0, .slice a0_1 x0.ends.length c0_1, .slice a0_2 x0.edges.length c0_2]] σ [] (dfa_Of_P σ r) := by
 dsimp only [dfa_Of] at hh
 have f0_0b := f0_0.rv.big
 have f0_1b := f0_1.rv.big
 have f0_2b := f0_2.rv.big
 refine Con.mk (n := 177) Tryd.func27 z z z (fun w0 => ?_)
 refine TC.a (TL.op z (boxA z z z z (fun b101 => ?_)))
 refine TL.op z (OpOk.alloc z ze26 z z (fun b103 => ?_))
 refine TL.op z (OpOk.alloc z ze32 z z (fun b105 => ?_))
 refine TL.en (TC.seq (TC.a (TL.w z (loadAll z ag74 sz74 z (i := 2) z z) (TL.op z (callP (check_con _ x0 ⟨a0_0, c0_0, a0_1, c0_1, a0_2, c0_2⟩ ⟨f0_0, f0_1, f0_2, fun x _ => x.set.isOk⟩) z z pf46 z z z ?_)))))
 refine TL.w z (OpVal.neq z z z) (TL.en (TC.cD z hh (fun h107 hh => ?_) (fun h107 hh => ?_)))
 ·refine TC.a (TL.w z (buildL z pl26 ze26 z) (TL.front 1 z z (TL.op z (storeAll z sz26 z z z z z z ?_))))
  refine TL.front 1 z z (TL.op z (storeI z sz32 z z z z z ?_))
  refine TL.en (TC.ofSub (Sub.f [1] 2) (TC.ret (S.r ?_)))
  obtain rfl := so hh
  exact ro [] z (RVs.agg ag26 sz26 z (i := 0) z z (RVs.one ag32 z (i := 1) z z RVs.nil)) ⟨none, 0, none, 0, none, 0, z, (RS.nilF _ Go.E.encI Go.E.encI_len), (RZ.nilF _ (pkSl 1 Go.E.encI Go.E.encI_len)), (RS.nilF _ encB encB_len), z⟩
 ·refine TC.skip (S.n (TC.a (TL.w z (fieldLoc z fo74_3 z) (TL.w z (loadLoc z ag72 z (i := 2) z z) ?_))))
  obtain ⟨v12, u12, hh⟩ := bnd_e hh
  refine TL.op z (OpOk.call (dfa_unlike_con f0_2 u12) z z pf48 z z z z ?_)
  rintro _ τ108 _ hle108 ⟨a108_1, c108_1, rfl, hr108_0, rfl⟩
  replace f0_0 := f0_0.mono hle108
  replace f0_1 := f0_1.mono hle108
  replace f0_2 := f0_2.mono hle108
  replace hgl := hgl.mono hle108
  have hr108_0b := hr108_0.rv.big
  obtain ⟨v13, u13, hh⟩ := bnd_e hh
  refine TL.op z (OpOk.call (part_Parts_con hr108_0 u13) z z pf47 z z z z ?_)
  rintro _ τ109 _ hle109 ⟨a109_1, c109_1, rfl, hr109_0, rfl⟩
  replace f0_0 := f0_0.mono hle109
  replace f0_1 := f0_1.mono hle109
  replace f0_2 := f0_2.mono hle109
  replace hgl := hgl.mono hle109
  have hr109_0b := hr109_0.rv.big
  refine TL.w z (moveT (.inl z) z) (TL.w z (OpVal.extract z z z) (TL.w z (OpVal.extract z z z) (TL.s z z (TL.i z z (TL.en (TC.seq (TC.a (TL.i z z (TL.w z (OpVal.neq z z z) (TL.en (TC.cD z hh (fun h110 hh => ?_) (fun h110 hh => ?_))))))))))))
  ·refine TC.a (TL.w z (buildL z pl26 ze26 z) (TL.i z z (TL.front 1 z z (TL.op z (storeAll z sz26 z z z z z z ?_)))))
   refine TL.front 1 z z (TL.op z (storeI z sz32 z z z z z ?_))
   refine TL.en (TC.ofSub (Sub.f [1] 2) (TC.ret (S.r ?_)))
   obtain rfl := so hh
   exact ro [] z (RVs.agg ag26 sz26 z (i := 0) z z (RVs.one ag32 z (i := 1) z z RVs.nil)) ⟨none, 0, none, 0, none, 0, z, (RS.nilF _ Go.E.encI Go.E.encI_len), (RZ.nilF _ (pkSl 1 Go.E.encI Go.E.encI_len)), (RS.nilF _ encB encB_len), z⟩
  ·refine TC.skip (S.n (TC.a (TL.s z z ?_)))
   obtain ⟨v26, u26, hh⟩ := bnd_e hh
   refine TL.op z (OpOk.call (part_Class_con hgl hr109_0 u26) z z pf49 z z z z ?_)
   rintro _ τ111 _ hle111 ⟨a111_1, c111_1, rfl, hr111_0, rfl⟩
   replace f0_0 := f0_0.mono hle111
   replace f0_1 := f0_1.mono hle111
   replace f0_2 := f0_2.mono hle111
   replace hgl := hgl.mono hle111
   replace hr109_0 := hr109_0.mono hle111
   have hr111_0b := hr111_0.rv.big
   refine TL.w z (moveT (.inl z) z) (TL.w z (OpVal.extract z z z) (TL.w z (OpVal.extract z z z) (TL.s z z (TL.i z z (TL.en (TC.seq (TC.a (TL.i z z (TL.w z (OpVal.neq z z z) (TL.en (TC.cD z hh (fun h112 hh => ?_) (fun h112 hh => ?_))))))))))))
   ·refine TC.a (TL.w z (buildL z pl26 ze26 z) (TL.i z z (TL.front 1 z z (TL.op z (storeAll z sz26 z z z z z z ?_)))))
    refine TL.front 1 z z (TL.op z (storeI z sz32 z z z z z ?_))
    refine TL.en (TC.ofSub (Sub.f [1] 2) (TC.ret (S.r ?_)))
    obtain rfl := so hh
    exact ro [] z (RVs.agg ag26 sz26 z (i := 0) z z (RVs.one ag32 z (i := 1) z z RVs.nil)) ⟨none, 0, none, 0, none, 0, z, (RS.nilF _ Go.E.encI Go.E.encI_len), (RZ.nilF _ (pkSl 1 Go.E.encI Go.E.encI_len)), (RS.nilF _ encB encB_len), z⟩
   ·refine TC.skip (S.n (TC.a (TL.w z (fieldLoc z fo74_0 z) (TL.w z (loadLoc z ag3 z (i := 2) z z) ?_))))
    have u40 := grd_c hh
    replace hh := grd_t hh
    refine TL.op rfl (makeN (q := x0.states.toNat) (E := 85) (size := 6) (enc := encE) rfl underlying113 sz72 by72 ze72 rfl rfl (by show Value.int _ _ = _; rw [Int.toNat_of_nonneg u40.1]) (by show Value.int _ _ = _; rw [Int.toNat_of_nonneg u40.1]) (by omega) (by decide) rfl (fun a113 c114 zf115 => ?_))
    refine TL.op z (OpOk.alloc z ze113 z z (fun b117 => ?_))
    refine TL.op z (storeSl z sz113 z z z z z ?_)
    refine TL.en (TC.seq (TC.a (TL.w z (fieldLoc z fo74_3 z) (TL.w z (loadLoc z ag72 z (i := 4) z z) (TL.w z (lenC z underlying72 z) (TL.i z z (TL.en (TC.block (TC.loopG (α := ((List (List Arrow)) × Nat) × ((List (NP Arrow)))) (rgs [(9, 1), (60, 17)]) (fun g => [(60, .int .i64 ((g.1.2 : Nat) : Int))]) (fun g => [Res.cells b101 #[.int .i64 x0.states, .slice a0_0 x0.starts.length c0_0, .slice a0_1 x0.ends.length c0_1, .slice a0_2 x0.edges.length c0_2] 74, Res.cells b103 #[.slice none 0 0, .slice none 0 0, .slice none 0 0] 26, Res.cells b105 #[.int .i64 0] 32, Res.cells b117 #[.slice a113 ((List.replicate x0.states.toNat ([] : List Arrow)).length) c114] 113, Res.nest 72 85 6 encE (.slice a113 (List.replicate x0.states.toNat ([] : List Arrow)).length c114) g.2]) (fun g => τ111) (fun g => iter (fun q : (List (List Arrow)) × Nat => dfa_Of_b1 x0 v13 v26 q.1 q.2) g.1 = some r ∧ g.1.1.length = (List.replicate x0.states.toNat ([] : List Arrow)).length ∧ Zn g.2 g.1.1) (fun g => rounds (fun q : (List (List Arrow)) × Nat => dfa_Of_b1 x0 v13 v26 q.1 q.2) g.1) (((List.replicate x0.states.toNat ([] : List Arrow)), 0), (List.replicate x0.states.toNat (nilN : NP Arrow))) (Sub.f [1, 1, 2, 3, 4] 5) z (by repeat (first | exact trivial | refine ⟨z, ?_⟩)) ⟨hh, z, zf115⟩ (fun g1 j1 hg1 => ?_))))))))))
    obtain ⟨⟨l130, k134⟩, z132⟩ := g1
    obtain ⟨hh, hn131, zf133⟩ := hg1
    try dsimp only at hn131 zf133 ⊢
    obtain ⟨z1, hh, hR1⟩ := iter_e hh
    dsimp only [dfa_Of_b1] at hh
    have hn131b := hn131
    have zf133b := zf133.len
    refine TC.know (isSl_nest (q := 4) z zf133) (fun ⟨_, hb135⟩ => ?_)
    refine TC.a (TL.w z (OpVal.lss z z z) (TL.en (TC.seq (TC.cD z hh (fun h136 hh => ?_) (fun h136 hh => ?_)))))
    ·refine TC.skip (S.n (TC.cutG (α := (Unit) × ((List (NP Arrow)))) (rgs [(9, 1), (62, 14)]) (fun g => []) (fun g => [Res.cells b101 #[.int .i64 x0.states, .slice a0_0 x0.starts.length c0_0, .slice a0_1 x0.ends.length c0_1, .slice a0_2 x0.edges.length c0_2] 74, Res.cells b103 #[.slice none 0 0, .slice none 0 0, .slice none 0 0] 26, Res.cells b105 #[.int .i64 0] 32, Res.cells b117 #[.slice a113 ((List.replicate x0.states.toNat ([] : List Arrow)).length) c114] 113, Res.nest 72 85 6 encE (.slice a113 (List.replicate x0.states.toNat ([] : List Arrow)).length c114) g.2]) (fun g => τ111) (fun g => dfa_Of_j1 l130 x0 k134 = some z1 ∧ (l130.set (((nth x0.edges k134 Arrow.zero).frm).toNat) ((nth l130 (((nth x0.edges k134 Arrow.zero).frm).toNat) ([] : List Arrow)) ++ [(nth x0.edges k134 Arrow.zero)])).length = (List.replicate x0.states.toNat ([] : List Arrow)).length ∧ Zn g.2 (l130.set (((nth x0.edges k134 Arrow.zero).frm).toNat) ((nth l130 (((nth x0.edges k134 Arrow.zero).frm).toNat) ([] : List Arrow)) ++ [(nth x0.edges k134 Arrow.zero)]))) ?_ (fun g j hg => ?_)))
     ·skip
      refine TC.block (TC.a (TL.w z (indexN z underlying72 sz85 z z f0_2.rv.sl (by omega)) (TL.w z (loadSA Arrow.zero z ag85 sz85 z f0_2 (by omega) (by omega)) (TL.op z (OpOk.alloc z ze85 z z (fun b140 => ?_))))))
      refine TL.op z (storeAll z sz85 z z z z z z ?_)
      refine TL.en ?_
      have u58 := grd_c hh
      replace hh := grd_t hh
      have u62 := grd_c hh
      replace hh := grd_t hh
      have u63 := grd_c hh
      replace hh := grd_t hh
      refine TC.drawR (Hr := [Res.cells b140 #[.int .i64 ((nth x0.edges k134 Arrow.zero).frm), .int .i64 ((nth x0.edges k134 Arrow.zero).to), .int .u64 ((((nth x0.edges k134 Arrow.zero).set).a : Nat) : Int), .int .u64 ((((nth x0.edges k134 Arrow.zero).set).b : Nat) : Int), .int .u64 ((((nth x0.edges k134 Arrow.zero).set).c : Nat) : Int), .int .u64 ((((nth x0.edges k134 Arrow.zero).set).d : Nat) : Int)] 85, Res.cells b101 #[.int .i64 x0.states, .slice a0_0 x0.starts.length c0_0, .slice a0_1 x0.ends.length c0_1, .slice a0_2 x0.edges.length c0_2] 74, Res.cells b103 #[.slice none 0 0, .slice none 0 0, .slice none 0 0] 26, Res.cells b105 #[.int .i64 0] 32, Res.cells b117 #[.slice a113 ((List.replicate x0.states.toNat ([] : List Arrow)).length) c114] 113]) (fun r hr => mem_pick [0, 1, 2, 3, 4] z hr) [] (by kernel_rfl) (TA.b 0 z (loadLoc z ag113 z (i := 4) z z) z (TA.a 1 z (fieldLoc z fo85_0 z) z (TA.b 2 z (loadLoc z ag3 z (i := 0) z z) z (TA.b 3 z (loadLoc z ag113 z (i := 4) z z) z (TA.a 4 z (fieldLoc z fo85_0 z) z (TA.b 5 z (loadLoc z ag3 z (i := 0) z z) z (TA.know (isSl_nest (q := 5) z zf133) (fun ⟨hs153, hs153b⟩ => ?_))))))))
      refine TA.b 6 z (OpVal.index z underlying113 sz72 z z hs153 u58.1 u58.2) z (TA.b 8 z (loadAll z ag85 sz85 z (i := 0) z z) z ?_)
      obtain ⟨p154, hz154, hm154⟩ := Zn.at zf133 (i := ((nth x0.edges k134 Arrow.zero).frm).toNat) (by omega)
      refine TA.actN [7, 9] (by kernel_rfl) (an z z (OpVal.ok (loadN z ag72 z (q := 5) z hz154 hm154) z z ⟨(fun w h => sees_of (Store.le.refl _) (fun r hr => mem_pick [0, 1, 2, 3, 4] z hr) w h), ?_⟩) (an z z (OpOk.lit (enc := encE) [(nth x0.edges k134 Arrow.zero)] z underlying72 sz85 ze85 z z z encE_len (by decide) (by decide) Arrow.zero z (by decide) z (by decide) encE_one (fun a155 c156 => ⟨(fun w h => sees_of (Store.le.refl _) (fun r hr => mem_pick [1, 2, 3, 4, 5] z hr) w h), ?_⟩)) (True.intro)))
      ·skip
       refine TA.ac 9 z (OpOk.lit (enc := encE) [(nth x0.edges k134 Arrow.zero)] z underlying72 sz85 ze85 z z z encE_len (by decide) (by decide) Arrow.zero z (by decide) z (by decide) encE_one (fun a158 c159 => ⟨(fun w h => sees_of (Store.le.refl _) (fun r hr => mem_pick [1, 2, 3, 4, 5] z hr) w h), ?_⟩))
       refine TA.front 6 z z (TA.by (fun w h => Reach.takeN hz154 hm154 h) (TA.ac 10 z (appendS z z underlying72 sz85 by85 ze85 z z (by decide) z z z (.inr ⟨_, 1, z⟩) (by simpa using u62) (by decide) (fun a162 c163 => (k3 ?_)))))
       refine TA.know (isSl_nestX (q := 1) z zf133) (fun ⟨hs164, hs164b⟩ => ?_)
       refine TA.b 11 z (OpVal.index z underlying113 sz72 z z hs164 u63.1 u63.2) z (TA.front 1 z z (TA.front 1 z z ?_))
       have hn166 : (l130.set (((nth x0.edges k134 Arrow.zero).frm).toNat) ((nth l130 (((nth x0.edges k134 Arrow.zero).frm).toNat) ([] : List Arrow)) ++ [(nth x0.edges k134 Arrow.zero)])).length = (List.replicate x0.states.toNat ([] : List Arrow)).length := (List.length_set ..).trans hn131
       refine TA.ac 12 rfl (storeX (l' := ((nth l130 (((nth x0.edges k134 Arrow.zero).frm).toNat) ([] : List Arrow)) ++ [(nth x0.edges k134 Arrow.zero)])) rfl sz72 rfl rfl rfl rfl rfl (by rw [zf133.len]; omega) zf133 (fun zf165 => (k2 ?_)))
       exact TA.dn (B.n (S.n (cf ((), (z132.set (((nth x0.edges k134 Arrow.zero).frm).toNat) (((nth l130 (((nth x0.edges k134 Arrow.zero).frm).toNat) ([] : List Arrow)) ++ [(nth x0.edges k134 Arrow.zero)]), (a162, c163)))) ⟨hh, hn166, zf165⟩ (Sub.f [6, 6, 6, 6] 5))))
      ·skip
       obtain ⟨p167, hz167, hm167⟩ := Zn.at zf133 (i := ((nth x0.edges k134 Arrow.zero).frm).toNat) (by omega)
       refine TA.ac 7 z (OpVal.ok (loadN z ag72 z (q := 6) z hz167 hm167) z z ⟨(fun w h => sees_of (Store.le.refl _) (fun r hr => mem_pick [1, 2, 3, 4, 5] z hr) w h), ?_⟩)
       refine TA.front 6 z z (TA.by (fun w h => Reach.takeN hz167 hm167 h) (TA.ac 10 z (appendS z z underlying72 sz85 by85 ze85 z z (by decide) z z z (.inr ⟨_, 1, z⟩) (by simpa using u62) (by decide) (fun a169 c170 => (k3 ?_)))))
       refine TA.know (isSl_nestX (q := 1) z zf133) (fun ⟨hs171, hs171b⟩ => ?_)
       refine TA.b 11 z (OpVal.index z underlying113 sz72 z z hs171 u63.1 u63.2) z (TA.front 1 z z (TA.front 1 z z ?_))
       have hn173 : (l130.set (((nth x0.edges k134 Arrow.zero).frm).toNat) ((nth l130 (((nth x0.edges k134 Arrow.zero).frm).toNat) ([] : List Arrow)) ++ [(nth x0.edges k134 Arrow.zero)])).length = (List.replicate x0.states.toNat ([] : List Arrow)).length := (List.length_set ..).trans hn131
       refine TA.ac 12 rfl (storeX (l' := ((nth l130 (((nth x0.edges k134 Arrow.zero).frm).toNat) ([] : List Arrow)) ++ [(nth x0.edges k134 Arrow.zero)])) rfl sz72 rfl rfl rfl rfl rfl (by rw [zf133.len]; omega) zf133 (fun zf172 => (k2 ?_)))
       exact TA.dn (B.n (S.n (cf ((), (z132.set (((nth x0.edges k134 Arrow.zero).frm).toNat) (((nth l130 (((nth x0.edges k134 Arrow.zero).frm).toNat) ([] : List Arrow)) ++ [(nth x0.edges k134 Arrow.zero)]), (a169, c170)))) ⟨hh, hn173, zf172⟩ (Sub.f [6, 6, 6, 6] 5))))
     ·skip
      obtain ⟨_, z138⟩ := g
      obtain ⟨hh, hn137, zf139⟩ := hg
      try dsimp only at hn137 zf139 ⊢
      dsimp only [dfa_Of_j1] at hh
      have hn137b := hn137
      have zf139b := zf139.len
      refine TC.know (isSl_nest (q := 4) z zf139) (fun ⟨_, hb174⟩ => ?_)
      refine TC.region (TL.w z (OpVal.succ z z z (by omega)) (TL.i z z (TL.en ?_)))
      obtain ⟨hh, hlt175⟩ := nxt_x hR1 hh
      exact lf (((l130.set (((nth x0.edges k134 Arrow.zero).frm).toNat) ((nth l130 (((nth x0.edges k134 Arrow.zero).frm).toNat) ([] : List Arrow)) ++ [(nth x0.edges k134 Arrow.zero)])), (k134 + 1)), z138) hlt175 ⟨hh, hn137, zf139⟩ (Sub.f [4, 4, 4, 4, 4] 5)
    ·refine TC.exit (S.x (S.x ?_))
     replace hh := fin_x hR1 hh
     refine TC.exitHere (S.n (TC.a (TL.w z (fieldLoc z fo74_0 z) (TL.w z (loadLoc z ag3 z (i := 0) z z) ?_))))
     have u69 := grd_c hh
     replace hh := grd_t hh
     refine TL.op rfl (makeS2 (m := x0.states.toNat) (enc := encB) false rfl underlying24 sz4 by4 ze4 rfl rfl (by show Value.int _ _ = _; rw [Int.toNat_of_nonneg u69.1]) (by show Value.int _ _ = _; rw [Int.toNat_of_nonneg u69.1]) (by omega) (by decide) encB_len (by decide) rfl encB_one (fun a176 c177 => ?_))
     refine TL.s z z (TL.en (TC.seq (TC.a (TL.w z (fieldLoc z fo74_2 z) (TL.w z (loadLoc z ag22 z (i := 1) z z) (TL.w z (lenC z underlying22 z) (TL.i z z (TL.en (TC.block (TC.loopG (α := ((List Bool) × Nat) × (Unit)) (rgs [(12, 1), (83, 8)]) (fun g => [(83, .int .i64 ((g.1.2 : Nat) : Int))]) (fun g => [Res.cells b101 #[.int .i64 x0.states, .slice a0_0 x0.starts.length c0_0, .slice a0_1 x0.ends.length c0_1, .slice a0_2 x0.edges.length c0_2] 74, Res.cells b103 #[.slice none 0 0, .slice none 0 0, .slice none 0 0] 26, Res.cells b105 #[.int .i64 0] 32, Res.cells b117 #[.slice a113 ((List.replicate x0.states.toNat ([] : List Arrow)).length) c114] 113, Res.nest 72 85 6 encE (.slice a113 (List.replicate x0.states.toNat ([] : List Arrow)).length c114) z132, Res.rowS 4 1 encB (.slice a176 (List.replicate x0.states.toNat false).length c177) g.1.1]) (fun g => τ111) (fun g => iter (fun q : (List Bool) × Nat => dfa_Of_b2 x0 v13 l130 v26 q.1 q.2) g.1 = some r ∧ l130.length = (List.replicate x0.states.toNat ([] : List Arrow)).length ∧ Zn z132 l130 ∧ g.1.1.length = (List.replicate x0.states.toNat false).length) (fun g => rounds (fun q : (List Bool) × Nat => dfa_Of_b2 x0 v13 l130 v26 q.1 q.2) g.1) (((List.replicate x0.states.toNat false), 0), ()) (Sub.f [5, 5, 5, 5, 5] 6) z (by repeat (first | exact trivial | refine ⟨z, ?_⟩)) ⟨hh, hn131, zf133, z⟩ (fun g2 j2 hg2 => ?_)))))))))))
     obtain ⟨⟨l193, k195⟩, _⟩ := g2
     obtain ⟨hh, hn191, zf192, hn194⟩ := hg2
     try dsimp only at hn191 zf192 hn194 ⊢
     obtain ⟨z1, hh, hR1⟩ := iter_e hh
     dsimp only [dfa_Of_b2] at hh
     have hn191b := hn191
     have zf192b := zf192.len
     have hn194b := hn194
     refine TC.know (isSl_nest (q := 4) z zf192) (fun ⟨_, hb196⟩ => ?_)
     refine TC.isSl (i := 5) z (fun _ hb197 _ => ?_)
     refine TC.a (TL.w z (OpVal.lss z z z) (TL.en (TC.seq (TC.cD z hh (fun h198 hh => ?_) (fun h198 hh => ?_)))))
     ·refine TC.skip (S.n (TC.seq (TC.block (TC.a (TL.w z (indexN z underlying22 sz3 z z f0_1.rv.sl (by omega)) (TL.w z (loadS1 (0 : Int) z ag3 z f0_1 (by omega) z) (TL.i z z (TL.en (TC.region (TL.s z z (TL.i z z ?_)))))))))))
      have u81 := grd_c hh
      replace hh := grd_t hh
      refine TL.isSl (i := 5) z (fun hs199 _ _ => ?_)
      refine TL.w z (OpVal.index z underlying24 sz4 z z hs199 u81.1 u81.2) (TL.front 5 z z ?_)
      have hn200 : (l193.set ((nth x0.ends k195 (0 : Int)).toNat) true).length = (List.replicate x0.states.toNat false).length := by rw [List.length_set]; exact hn194
      refine TL.op z (storeS true z sz4 z z z z encB_len encB_one (by omega) (by omega) ?_)
      refine TL.nil (B.n (S.n (TC.region (TL.w z (OpVal.succ z z z (by omega)) (TL.i z z (TL.en ?_))))))
      obtain ⟨hh, hlt201⟩ := nxt_x hR1 hh
      exact lf (((l193.set ((nth x0.ends k195 (0 : Int)).toNat) true), (k195 + 1)), ()) hlt201 ⟨hh, hn191, zf192, hn200⟩ (Sub.f [5, 5, 5, 5, 5] 6)
     ·refine TC.exit (S.x (S.x ?_))
      replace hh := fin_x hR1 hh
      refine TC.exitHere (S.n (TC.a ?_))
      obtain ⟨v85, u85, hh⟩ := bnd_e hh
      refine TL.op z (OpOk.call (intern_New_con u85) z z pf50 z z z z ?_)
      rintro _ τ202 _ hle202 ⟨b202_1, a202_2, c202_3, z202_4, b202_6, rfl, zf202_5, rfl⟩
      replace f0_0 := f0_0.mono hle202
      replace hgl := hgl.mono hle202
      replace hr109_0 := hr109_0.mono hle202
      replace hr111_0 := hr111_0.mono hle202
      have zf202_5b := zf202_5.length
      refine TL.op z (OpOk.alloc z ze114 z z (fun b206 => ?_))
      refine TL.op z (storeLoc z sz114 z z z z z ?_)
      refine TL.en (TC.seq (TC.a (TL.w z (loadLoc z ag114 z (i := 0) z z) (TL.w z (fieldLoc z fo74_1 z) (TL.w z (loadLoc z ag22 z (i := 4) z z) (TL.front 3 z z (TL.front 3 z z (TL.front 3 z z ?_))))))))
      obtain ⟨v91, u91, hh⟩ := bnd_e hh
      refine TL.op z (OpOk.call (intern_Table_Put_con zf202_5 f0_0 u91) z z pf51 z z z z ?_)
      rintro _ τ208 _ hle208 ⟨a208_1, c208_2, z208_3, b208_5, rfl, zf208_4, rfl⟩
      replace hgl := hgl.mono hle208
      replace hr109_0 := hr109_0.mono hle208
      replace hr111_0 := hr111_0.mono hle208
      have zf208_4b := zf208_4.length
      refine TL.w z (moveT (.inl z) z) (TL.w z (OpVal.extract z z z) (TL.w z (OpVal.extract z z z) (TL.w z (OpVal.extract z z z) (TL.i z z (TL.j z z (TL.i z z (TL.en (TC.a (TL.i z z (TL.w z (OpVal.neq z z z) (TL.en (TC.cD z hh (fun h211 hh => ?_) (fun h211 hh => ?_)))))))))))))
      ·refine TC.a (TL.w z (buildL z pl26 ze26 z) (TL.i z z (TL.front 5 z z (TL.op z (storeAll z sz26 z z z z z z ?_)))))
       refine TL.front 6 z z (TL.op z (storeI z sz32 z z z z z ?_))
       refine TL.en (TC.ofSub (Sub.f [1] 2) (TC.ret (S.r ?_)))
       obtain rfl := so hh
       exact ro [] z (RVs.agg ag26 sz26 z (i := 0) z z (RVs.one ag32 z (i := 1) z z RVs.nil)) ⟨none, 0, none, 0, none, 0, z, (RS.nilF _ Go.E.encI Go.E.encI_len), (RZ.nilF _ (pkSl 1 Go.E.encI Go.E.encI_len)), (RS.nilF _ encB encB_len), z⟩
      ·refine TC.skip (S.n (TC.a (TL.s z z (TL.w z (buildL z pl26 ze26 z) (TL.op z (OpOk.alloc z ze26 z z (fun b212 => ?_)))))))
       refine TL.op z (storeAll z sz26 z z z z z z ?_)
       refine TL.en (TC.seq (TC.a (TL.i z z (TL.en (TC.block ?_)))))
       rw [← hn191]
       refine TC.front 9 z z (TC.seals (fun w h => Reach.sealNest encE_len zf192 h) (fun τ289 hle288 hr287 => ?_))
       replace hgl := hgl.mono hle288
       replace hr109_0 := hr109_0.mono hle288
       replace hr111_0 := hr111_0.mono hle288
       replace zf208_4 := zf208_4.mono hle288
       have hr287b := hr287.big
       refine TC.nilS 22 1 (pkSl 1 Go.E.encI Go.E.encI_len).en ?_
       have zf290 := ZOk.nil τ289 (pkSl 1 Go.E.encI Go.E.encI_len)
       refine TC.nilS 4 1 encB (TC.loopG (α := (Int × (List (List Int)) × (FM (List UInt8) Int) × (List (List Int)) × (List Bool) × Nat) × ((Option Addr) × Nat × (List (List Int × (pkSl 1 Go.E.encI Go.E.encI_len).P)) × Nat × (Option Addr) × Nat × (List (List Int × (pkSl 1 Go.E.encI Go.E.encI_len).P)) × (Option Addr) × Nat × Store)) (rgs [(18, 4), (23, 2), (106, 35), (164, 12)]) (fun g => [(18, .int .i64 ((g.1.2.2.2.2.2 : Nat) : Int))]) (fun g => [Res.cells b103 #[.slice none 0 0, .slice none 0 0, .slice none 0 0] 26, Res.cells b105 #[.int .i64 g.1.1] 32, Res.cells b117 #[.slice a113 l130.length c114] 113, Res.rowS 4 1 encB (.slice a176 (List.replicate x0.states.toNat false).length c177) l193, Res.cells b206 #[loc b202_1 0] 114, Res.cells b202_1 #[.slice g.2.1 g.1.2.1.length g.2.2.1, .map (some g.2.2.2.2.1)] 139, Res.rowS 22 1 (pkSl 1 Go.E.encI Go.E.encI_len).en (.slice g.2.1 g.1.2.1.length g.2.2.1) g.2.2.2.1, Res.mapB keyS keyI (some g.2.2.2.2.1) g.1.2.2.1, Res.cells b212 #[.slice a111_1 v26.1.length c111_1, .slice g.2.2.2.2.2.1 g.1.2.2.2.1.length g.2.2.2.2.2.2.1, .slice g.2.2.2.2.2.2.2.2.1 g.1.2.2.2.2.1.length g.2.2.2.2.2.2.2.2.2.1] 26, Res.rowS 22 1 (pkSl 1 Go.E.encI Go.E.encI_len).en (.slice g.2.2.2.2.2.1 g.1.2.2.2.1.length g.2.2.2.2.2.2.1) g.2.2.2.2.2.2.2.1, Res.rowS 4 1 encB (.slice g.2.2.2.2.2.2.2.2.1 g.1.2.2.2.2.1.length g.2.2.2.2.2.2.2.2.2.1) g.1.2.2.2.2.1]) (fun g => g.2.2.2.2.2.2.2.2.2.2) (fun g => iter (fun q : Int × (List (List Int)) × (FM (List UInt8) Int) × (List (List Int)) × (List Bool) × Nat => dfa_Of_b3 l193 v13 l130 v26 q.1 q.2.1 q.2.2.1 q.2.2.2.1 q.2.2.2.2.1 q.2.2.2.2.2) g.1 = some r ∧ RZ g.2.2.2.2.2.2.2.2.2.2 (pkSl 6 encE encE_len) (.slice a113 l130.length c114) l130 ∧ l193.length = (List.replicate x0.states.toNat false).length ∧ ZOk g.2.2.2.2.2.2.2.2.2.2 (pkSl 1 Go.E.encI Go.E.encI_len) g.2.2.2.1 g.1.2.1 ∧ ZOk g.2.2.2.2.2.2.2.2.2.2 (pkSl 1 Go.E.encI Go.E.encI_len) g.2.2.2.2.2.2.2.1 g.1.2.2.2.1 ∧ Store.le τ289 g.2.2.2.2.2.2.2.2.2.2) (fun g => rounds (fun q : Int × (List (List Int)) × (FM (List UInt8) Int) × (List (List Int)) × (List Bool) × Nat => dfa_Of_b3 l193 v13 l130 v26 q.1 q.2.1 q.2.2.1 q.2.2.2.1 q.2.2.2.2.1 q.2.2.2.2.2) g.1) ((0, v91.2.2.2.of.rows, v91.2.2.2.of.places, ([] : List (List Int)), ([] : List Bool), 0), (a208_1, c208_2, z208_3, b208_5, none, 0, [], none, 0, τ289)) (Sub.f [1, 2, 5, 5, 5, 6, 11, 11, 11, 11] 11) z (by repeat (first | exact trivial | refine ⟨z, ?_⟩)) ⟨hh, hr287, hn194, zf208_4, zf290, (Store.le.refl _)⟩ (fun g3 j3 hg3 => ?_))
       obtain ⟨⟨i264, l268, m274, l277, l283, k286⟩, ⟨a269, c270, z271, b275, a278, c279, z280, a284, c285, τ293⟩⟩ := g3
       obtain ⟨hh, hr265, hn266, zf272, zf281, hle294⟩ := hg3
       try dsimp only at hr265
       try dsimp only at hn266
       try dsimp only at zf272
       try dsimp only at zf281
       dsimp only at hle294
       replace hgl := hgl.mono hle294
       replace hr109_0 := hr109_0.mono hle294
       replace hr111_0 := hr111_0.mono hle294
       try dsimp only
       obtain ⟨z1, hh, hR1⟩ := iter_e hh
       dsimp only [dfa_Of_b3] at hh
       have hr265b := hr265.big
       have hn266b := hn266
       have zf272b := zf272.length
       have zf281b := zf281.length
       refine TC.isSl (i := 3) z (fun _ hb295 _ => ?_)
       refine TC.isSl (i := 6) z (fun _ hb296 _ => ?_)
       refine TC.isSl (i := 9) z (fun _ hb297 _ => ?_)
       refine TC.isSl (i := 10) z (fun _ hb298 _ => ?_)
       refine TC.seq (TC.a (TL.i z z (TL.w z (loadLoc z ag114 z (i := 4) z z) (TL.front 7 z z (TL.front 7 z z (TL.front 7 z z ?_))))))
       obtain ⟨v112, u112, hh⟩ := bnd_e hh
       refine TL.op z (OpOk.call (intern_Table_Size_con zf272 u112) z z pf52 z z z z ?_)
       rintro _ _ _ hle299 ⟨rfl, rfl, rfl⟩
       refine TL.w z (OpVal.lss z z z) (TL.en (TC.cD z hh (fun h300 hh => ?_) (fun h300 hh => ?_)))
       ·refine TC.skip (S.n (TC.seq (TC.block (TC.a (TL.w z (loadLoc z ag114 z (i := 7) z z) (TL.i z z (TL.front 2 z z (TL.front 2 z z (TL.front 2 z z ?_)))))))))
        obtain ⟨v116, u116, hh⟩ := bnd_e hh
        refine TL.op z (OpOk.call (intern_Table_Row_con zf272 u116) z z pf53 z z z z ?_)
        rintro _ _ _ hle301 ⟨a301_1, c301_2, rfl, rfl, rfl⟩
        refine TL.w z (moveT (.inl z) z) (TL.w z (OpVal.extract z z z) (TL.w z (OpVal.extract z z z) (TL.op z (OpOk.alloc z ze22 z z (fun b303 => ?_)))))
        refine TL.op z (storeSl z sz22 z z z z z ?_)
        refine TL.i z z (TL.en (TC.seq (TC.a (TL.i z z (TL.w z (OpVal.neq z z z) (TL.en (TC.cD z hh (fun h305 hh => ?_) (fun h305 hh => ?_))))))))
        ·refine TC.a (TL.w z (buildL z pl26 ze26 z) (TL.i z z (TL.front 5 z z (TL.op z (storeAll z sz26 z z z z z z ?_)))))
         refine TL.front 6 z z (TL.op z (storeI z sz32 z z z z z ?_))
         refine TL.en (TC.ofSub (Sub.f [1] 2) (TC.ret (S.r (B.r (S.r (S.r ?_))))))
         replace hh := fin_x hR1 hh
         refine B.r (S.r ?_)
         obtain rfl := so hh
         exact ro [] z (RVs.agg ag26 sz26 z (i := 0) z z (RVs.one ag32 z (i := 1) z z RVs.nil)) ⟨none, 0, none, 0, none, 0, z, (RS.nilF _ Go.E.encI Go.E.encI_len), (RZ.nilF _ (pkSl 1 Go.E.encI Go.E.encI_len)), (RS.nilF _ encB encB_len), z⟩
        ·refine TC.skip (S.n (TC.a (TL.j z z (TL.en (TC.seq (TC.a (TL.w z (loadLoc z ag22 z (i := 0) z z) (TL.w z (lenC z underlying22 z) (TL.i z z (TL.en (TC.block (TC.loopG (α := (Bool × Nat) × (Store)) (rgs [(21, 1), (23, 1), (124, 12)]) (fun g => [(21, .bool g.1.1), (124, .int .i64 ((g.1.2 : Nat) : Int))]) (fun g => [Res.cells b103 #[.slice none 0 0, .slice none 0 0, .slice none 0 0] 26, Res.cells b105 #[.int .i64 i264] 32, Res.cells b117 #[.slice a113 l130.length c114] 113, Res.rowS 4 1 encB (.slice a176 (List.replicate x0.states.toNat false).length c177) l193, Res.cells b206 #[loc b202_1 0] 114, Res.cells b202_1 #[.slice a269 l268.length c270, .map (some b275)] 139, Res.rowS 22 1 (pkSl 1 Go.E.encI Go.E.encI_len).en (.slice a269 l268.length c270) z271, Res.mapB keyS keyI (some b275) m274, Res.cells b212 #[.slice a111_1 v26.1.length c111_1, .slice a278 l277.length c279, .slice a284 l283.length c285] 26, Res.rowS 22 1 (pkSl 1 Go.E.encI Go.E.encI_len).en (.slice a278 l277.length c279) z280, Res.rowS 4 1 encB (.slice a284 l283.length c285) l283, Res.cells b303 #[.slice a301_1 v116.1.length c301_2] 22, Res.rowS 3 1 Go.E.encI (.slice a301_1 v116.1.length c301_2) v116.1]) (fun g => g.2) (fun g => iter (fun q : Bool × Nat => dfa_Of_b4 v116 l193 v13 l130 i264 l268 m274 l277 l283 k286 q.1 q.2) g.1 = some z1 ∧ l193.length = (List.replicate x0.states.toNat false).length ∧ ZOk g.2 (pkSl 1 Go.E.encI Go.E.encI_len) z271 l268 ∧ ZOk g.2 (pkSl 1 Go.E.encI Go.E.encI_len) z280 l277 ∧ Store.le τ293 g.2) (fun g => rounds (fun q : Bool × Nat => dfa_Of_b4 v116 l193 v13 l130 i264 l268 m274 l277 l283 k286 q.1 q.2) g.1) ((false, 0), τ293) (Sub.f [1, 1, 12, 12, 12, 7, 7, 7, 12, 12, 12, 12, 12] 13) z (by repeat (first | exact trivial | refine ⟨z, ?_⟩)) ⟨hh, hn266, zf272, zf281, (Store.le.refl _)⟩ (fun g4 j4 hg4 => ?_)))))))))))))
         obtain ⟨⟨t322, k323⟩, τ324⟩ := g4
         obtain ⟨hh, hn319, zf320, zf321, hle325⟩ := hg4
         try dsimp only at hn319
         try dsimp only at zf320
         try dsimp only at zf321
         dsimp only at hle325
         replace hgl := hgl.mono hle325
         replace hr109_0 := hr109_0.mono hle325
         replace hr111_0 := hr111_0.mono hle325
         replace hr265 := hr265.mono hle325
         replace zf281 := zf281.mono hle325
         try dsimp only
         obtain ⟨z2, hh, hR2⟩ := iter_e hh
         dsimp only [dfa_Of_b4] at hh
         have hn319b := hn319
         have zf320b := zf320.length
         have zf321b := zf321.length
         refine TC.isSl (i := 3) z (fun _ hb326 _ => ?_)
         refine TC.isSl (i := 6) z (fun _ hb327 _ => ?_)
         refine TC.isSl (i := 9) z (fun _ hb328 _ => ?_)
         refine TC.isSl (i := 10) z (fun _ hb329 _ => ?_)
         refine TC.isSl (i := 12) z (fun _ hb330 _ => ?_)
         refine TC.a (TL.w z (OpVal.lss z z z) (TL.en (TC.seq (TC.cD z hh (fun h331 hh => ?_) (fun h331 hh => ?_)))))
         ·refine TC.skip (S.n (TC.cutG (α := (Bool) × (Store)) (rgs [(21, 1), (23, 1), (126, 9)]) (fun g => [(21, .bool g.1)]) (fun g => [Res.cells b103 #[.slice none 0 0, .slice none 0 0, .slice none 0 0] 26, Res.cells b105 #[.int .i64 i264] 32, Res.cells b117 #[.slice a113 l130.length c114] 113, Res.rowS 4 1 encB (.slice a176 (List.replicate x0.states.toNat false).length c177) l193, Res.cells b206 #[loc b202_1 0] 114, Res.cells b202_1 #[.slice a269 l268.length c270, .map (some b275)] 139, Res.rowS 22 1 (pkSl 1 Go.E.encI Go.E.encI_len).en (.slice a269 l268.length c270) z271, Res.mapB keyS keyI (some b275) m274, Res.cells b212 #[.slice a111_1 v26.1.length c111_1, .slice a278 l277.length c279, .slice a284 l283.length c285] 26, Res.rowS 22 1 (pkSl 1 Go.E.encI Go.E.encI_len).en (.slice a278 l277.length c279) z280, Res.rowS 4 1 encB (.slice a284 l283.length c285) l283, Res.cells b303 #[.slice a301_1 v116.1.length c301_2] 22, Res.rowS 3 1 Go.E.encI (.slice a301_1 v116.1.length c301_2) v116.1]) (fun g => g.2) (fun g => dfa_Of_j2 k323 g.1 = some z2 ∧ l193.length = (List.replicate x0.states.toNat false).length ∧ ZOk g.2 (pkSl 1 Go.E.encI Go.E.encI_len) z271 l268 ∧ ZOk g.2 (pkSl 1 Go.E.encI Go.E.encI_len) z280 l277 ∧ Store.le τ324 g.2) ?_ (fun g j hg => ?_)))
          ·skip
           refine TC.block (TC.a (TL.isSl (i := 12) z (fun hs336 _ _ => ?_)))
           refine TL.w z (indexN z underlying22 sz3 z z hs336 (by omega)) (TL.w z (loadO1 (0 : Int) z ag3 z (q := 12) z Go.E.encI_len (by omega) z) (TL.i z z (TL.en (TC.region (TL.j z z (TL.j z z (TL.split 129 z (fun h337 => ?_) (fun h337 => ?_))))))))
           ·replace hh := iteO_t h337 hh
            exact TL.f z (TL.f z (TL.f z (TL.f z (TL.w z (pickTB z z z) (TL.j z z (TL.nil (B.n (S.n (cf (true, τ324) ⟨hh, hn319, zf320, zf321, (Store.le.refl _)⟩ (Sub.f [12, 12, 12, 12, 12, 12, 12, 12, 12, 12, 12, 12, 12] 13))))))))))
           ·replace hh := iteO_f h337 hh
            refine TL.g z (moveSl (.inl z) z) (TL.g z (moveI (.inl z) z) ?_)
            have u141 := grd_c hh
            replace hh := grd_t hh
            refine TL.isSl (i := 3) z (fun hs338 _ _ => ?_)
            exact TL.g z (OpVal.index z underlying24 sz4 z z hs338 u141.1 u141.2) (TL.g z (loadO1 false z ag4 z (q := 3) z encB_len (by omega) z) (TL.w z (pickFB z z z) (TL.j z z (TL.nil (B.n (S.n (cf ((nth l193 ((nth v116.1 k323 (0 : Int)).toNat) false), τ324) ⟨hh, hn319, zf320, zf321, (Store.le.refl _)⟩ (Sub.f [12, 12, 12, 12, 12, 12, 12, 12, 12, 12, 12, 12, 12] 13))))))))
          ·skip
           obtain ⟨t335, τ339⟩ := g
           obtain ⟨hh, hn332, zf333, zf334, hle340⟩ := hg
           try dsimp only at hn332
           try dsimp only at zf333
           try dsimp only at zf334
           dsimp only at hle340
           replace hgl := hgl.mono hle340
           replace hr109_0 := hr109_0.mono hle340
           replace hr111_0 := hr111_0.mono hle340
           replace hr265 := hr265.mono hle340
           replace zf281 := zf281.mono hle340
           replace zf320 := zf320.mono hle340
           replace zf321 := zf321.mono hle340
           try dsimp only
           dsimp only [dfa_Of_j2] at hh
           have hn332b := hn332
           have zf333b := zf333.length
           have zf334b := zf334.length
           refine TC.isSl (i := 3) z (fun _ hb341 _ => ?_)
           refine TC.isSl (i := 6) z (fun _ hb342 _ => ?_)
           refine TC.isSl (i := 9) z (fun _ hb343 _ => ?_)
           refine TC.isSl (i := 10) z (fun _ hb344 _ => ?_)
           refine TC.isSl (i := 12) z (fun _ hb345 _ => ?_)
           refine TC.region (TL.w z (OpVal.succ z z z (by omega)) (TL.i z z (TL.en ?_)))
           obtain ⟨hh, hlt346⟩ := nxt_x hR2 hh
           exact lf ((t335, (k323 + 1)), τ339) hlt346 ⟨hh, hn332, zf333, zf334, (hle325.trans hle340)⟩ (Sub.f [12, 12, 12, 12, 12, 12, 12, 12, 12, 12, 12, 12, 12] 13)
         ·refine TC.exit (S.x (S.x ?_))
          replace hh := fin_x hR2 hh
          refine TC.exitHere (S.n (TC.a (TL.s z z (TL.w z (lenC z underlying51 z) ?_))))
          have u149 := grd_c hh
          replace hh := grd_t hh
          refine TL.op z (makeS2 (enc := Go.E.encI) (0 : Int) z underlying22 sz3 by3 ze3 z z z z (by omega) (by decide) Go.E.encI_len (by decide) z Go.E.encI_one (fun a347 c348 => ?_))
          refine TL.op z (OpOk.alloc z ze22 z z (fun b350 => ?_))
          refine TL.op z (storeSl z sz22 z z z z z ?_)
          refine TL.en (TC.seq (TC.a (TL.s z z ?_)))
          obtain ⟨v153, u153, hh⟩ := bnd_e hh
          refine TL.op z (OpOk.call (dfa_classes_con hr109_0 u153) z z pf45 z z z z ?_)
          rintro _ τ352 _ hle352 ⟨b352_4, a352_1, c352_2, rfl, f352_3, rfl⟩
          replace hgl := hgl.mono hle352
          replace hr111_0 := hr111_0.mono hle352
          replace hr265 := hr265.mono hle352
          replace zf281 := zf281.mono hle352
          replace zf320 := zf320.mono hle352
          replace zf321 := zf321.mono hle352
          have f352_3b := f352_3.rv.big
          refine TL.en (TC.block (TC.front 15 z z (TC.sealS Go.E.encI_len (fun τ405 hle404 hr403 => ?_))))
          replace hgl := hgl.mono hle404
          replace hr111_0 := hr111_0.mono hle404
          replace hr265 := hr265.mono hle404
          replace zf281 := zf281.mono hle404
          replace zf320 := zf320.mono hle404
          replace zf321 := zf321.mono hle404
          replace f352_3 := f352_3.mono hle404
          have hr403b := hr403.rv.big
          refine TC.ofSub (Sub.f [2, 2, 14, 14, 14, 14, 14, 14, 14, 14, 14, 14, 14, 14] 15) ?_
          obtain ⟨zr256, hz256, hh⟩ := bnd_e hh
          obtain ⟨jz256, ⟨i388, l391, m397, l401⟩⟩ := zr256
          dsimp only at hh
          refine TC.rangeG (A := (fun (x : Int × BSet) _ vs => vs = [.int .i64 x.1, setV x.2])) [.ret] (fun (q : Int × (List (List Int)) × (FM (List UInt8) Int) × (List Int)) (x : Int × BSet) => dfa_Of_r256 l130 v116 q.1 q.2.1 q.2.2.1 q.2.2.2 x.1 x.2) (fun (q : Int × (List (List Int)) × (FM (List UInt8) Int) × (List Int)) (τ406 : Store) Hs => ∃ (a392 : Option Addr), ∃ (c393 : Nat), ∃ (z394 : List (List Int × (pkSl 1 Go.E.encI Go.E.encI_len).P)), ∃ (b398 : Nat), Hs = [Res.cells b103 #[.slice none 0 0, .slice none 0 0, .slice none 0 0] 26, Res.cells b105 #[.int .i64 q.1] 32, Res.cells b117 #[.slice a113 l130.length c114] 113, Res.rowS 4 1 encB (.slice a176 (List.replicate x0.states.toNat false).length c177) l193, Res.cells b206 #[loc b202_1 0] 114, Res.cells b202_1 #[.slice a392 q.2.1.length c393, .map (some b398)] 139, Res.rowS 22 1 (pkSl 1 Go.E.encI Go.E.encI_len).en (.slice a392 q.2.1.length c393) z394, Res.mapB keyS keyI (some b398) q.2.2.1, Res.cells b212 #[.slice a111_1 v26.1.length c111_1, .slice a278 l277.length c279, .slice a284 l283.length c285] 26, Res.rowS 22 1 (pkSl 1 Go.E.encI Go.E.encI_len).en (.slice a278 l277.length c279) z280, Res.rowS 4 1 encB (.slice a284 l283.length c285) l283, Res.cells b303 #[.slice a301_1 v116.1.length c301_2] 22, Res.cells b350 #[.slice a347 ((List.replicate v13.1.length (0 : Int)).length) c348] 22, Res.rowS 3 1 Go.E.encI (.slice a347 (List.replicate v13.1.length (0 : Int)).length c348) q.2.2.2] ∧ l193.length = (List.replicate x0.states.toNat false).length ∧ ZOk τ406 (pkSl 1 Go.E.encI Go.E.encI_len) z394 q.2.1 ∧ ZOk τ406 (pkSl 1 Go.E.encI Go.E.encI_len) z280 l277 ∧ RS τ406 1 Go.E.encI (.slice a301_1 v116.1.length c301_2) v116.1 ∧ q.2.2.2.length = (List.replicate v13.1.length (0 : Int)).length) (s := (i264, l268, m274, (List.replicate v13.1.length (0 : Int)))) rfl pf59 rfl rfl (by rintro _ _ _ _ ⟨a392, c393, z394, b398, rfl, hn389, zf395, zf399, hr400, hn402⟩ hle_; exact ⟨a392, c393, z394, b398, rfl, hn389, zf395.mono hle_, zf399.mono hle_, hr400.mono hle_, hn402⟩) ⟨a269, c270, z271, b275, rfl, hn319, zf320, zf321, hr403, rfl⟩ (fun _ _ _ h_ => by subst h_; rfl) (dfa_classes_1_con f352_3 hz256) ?_ ?_
          ·clear hh hz256
           rintro l_ _ _ _ τ406 ⟨i388, l391, m397, l401⟩ ⟨y256_0, y256_1⟩ z256 _ _ hh hle407 rfl ⟨a392, c393, z394, b398, rfl, hn389, zf395, zf399, hr400, hn402⟩
           dsimp only [dfa_Of_r256] at hh
           replace hgl := hgl.mono hle407
           replace hr111_0 := hr111_0.mono hle407
           replace hr265 := hr265.mono hle407
           replace zf281 := zf281.mono hle407
           have hn389b := hn389
           have zf395b := zf395.length
           have zf399b := zf399.length
           have hr400b := hr400.rv.big
           have hn402b := hn402
           show TC _ _ _ (upds _ [(142, setV y256_1), (141, .int .i64 y256_0)]) τ406 [Res.cells b103 #[.slice none 0 0, .slice none 0 0, .slice none 0 0] 26, Res.cells b105 #[.int .i64 i388] 32, Res.cells b117 #[.slice a113 l130.length c114] 113, Res.rowS 4 1 encB (.slice a176 (List.replicate x0.states.toNat false).length c177) l193, Res.cells b206 #[loc b202_1 0] 114, Res.cells b202_1 #[.slice a392 l391.length c393, .map (some b398)] 139, Res.rowS 22 1 (pkSl 1 Go.E.encI Go.E.encI_len).en (.slice a392 l391.length c393) z394, Res.mapB keyS keyI (some b398) m397, Res.cells b212 #[.slice a111_1 v26.1.length c111_1, .slice a278 l277.length c279, .slice a284 l283.length c285] 26, Res.rowS 22 1 (pkSl 1 Go.E.encI Go.E.encI_len).en (.slice a278 l277.length c279) z280, Res.rowS 4 1 encB (.slice a284 l283.length c285) l283, Res.cells b303 #[.slice a301_1 v116.1.length c301_2] 22, Res.cells b350 #[.slice a347 ((List.replicate v13.1.length (0 : Int)).length) c348] 22, Res.rowS 3 1 Go.E.encI (.slice a347 (List.replicate v13.1.length (0 : Int)).length c348) l401]
           refine TC.isSl (i := 3) z (fun _ hb408 _ => ?_)
           refine TC.isSl (i := 6) z (fun _ hb409 _ => ?_)
           refine TC.isSl (i := 9) z (fun _ hb410 _ => ?_)
           refine TC.isSl (i := 10) z (fun _ hb411 _ => ?_)
           refine TC.isSl (i := 13) z (fun _ hb412 _ => ?_)
           refine TC.a (TL.i z z (TL.en (TC.region (TL.op z (OpOk.alloc z ze58 z z (fun b413 => ?_))))))
           refine TL.op z (storeAll z sz58 z z z z z z ?_)
           refine TL.nil (asg_n (fun _ _ _ => ?_))
           refine TC.block (TC.seq ?_)
           obtain ⟨v161, u161, hh⟩ := bnd_e hh
           obtain ⟨v162, u162, hh⟩ := bnd_e hh
           refine TC.drawR (Hr := [Res.cells b413 (setA y256_1) 58, Res.cells b103 #[.slice none 0 0, .slice none 0 0, .slice none 0 0] 26, Res.cells b105 #[.int .i64 i388] 32, Res.cells b117 #[.slice a113 l130.length c114] 113, Res.rowS 4 1 encB (.slice a176 (List.replicate x0.states.toNat false).length c177) l193, Res.cells b206 #[loc b202_1 0] 114, Res.cells b212 #[.slice a111_1 v26.1.length c111_1, .slice a278 l277.length c279, .slice a284 l283.length c285] 26, Res.rowS 22 1 (pkSl 1 Go.E.encI Go.E.encI_len).en (.slice a278 l277.length c279) z280, Res.rowS 4 1 encB (.slice a284 l283.length c285) l283, Res.cells b303 #[.slice a301_1 v116.1.length c301_2] 22, Res.cells b350 #[.slice a347 ((List.replicate v13.1.length (0 : Int)).length) c348] 22, Res.rowS 3 1 Go.E.encI (.slice a347 (List.replicate v13.1.length (0 : Int)).length c348) l401]) (fun r hr => mem_pick [0, 1, 2, 3, 4, 5, 9, 10, 11, 12, 13, 14] z hr) [] (by kernel_rfl) (TA.b 0 z (loadLoc z ag114 z (i := 5) z z) z (TA.b 1 z (loadLoc z ag113 z (i := 3) z z) z (TA.b 2 z (loadLoc z ag22 z (i := 9) z z) z (TA.b 3 z (loadAll z ag58 sz58 z (i := 0) z z) z (TA.ac 4 z (OpOk.call (dfa_behind_con hgl hr265 hr400 u161) z z pf54 z z z z ?_))))))
           rintro _ _ _ hle420 ⟨a420_1, c420_1, rfl, rfl, rfl⟩
           refine ⟨(fun w h => sees_of (Store.le.refl _) (fun r hr => mem_pick [1, 2, 3, 4, 5, 6, 10, 11, 12, 13, 14, 15] z hr) w h), ?_⟩
           refine TA.front 9 z z (TA.front 9 z z (TA.front 9 z z (TA.ac 5 z (OpOk.call (putKeep_con zf395 u162) z z pf51 z z z z ?_))))
           rintro _ τ422 _ hle422 ⟨a422_1, c422_2, z422_3, b422_5, rfl, zf422_4, rfl⟩
           replace hr111_0 := hr111_0.mono hle422
           replace hr265 := hr265.mono hle422
           replace zf281 := zf281.mono hle422
           replace zf395 := zf395.mono hle422
           replace zf399 := zf399.mono hle422
           replace hr400 := hr400.mono hle422
           have zf422_4b := zf422_4.length
           refine kl 4 hle422 (TA.a 6 z (moveT (.inl z) z) z (TA.a 7 z (OpVal.extract z z z) z (TA.a 8 z (OpVal.extract z z z) z (TA.a 9 z (OpVal.extract z z z) z (TA.a 10 z (moveI (.inr z) z) z (TA.a 11 z (moveB (.inr z) z) z (TA.a 12 z (moveI (.inr z) z) z (TA.dn (S.n (TC.seq (TC.a (TL.i z z (TL.w z (OpVal.neq z z z) (TL.en (TC.cD z hh (fun h425 hh => ?_) (fun h425 hh => ?_))))))))))))))))
           ·refine TC.a (TL.w z (buildL z pl26 ze26 z) (TL.i z z (TL.front 5 z z (TL.op z (storeAll z sz26 z z z z z z ?_)))))
            refine TL.front 6 z z (TL.op z (storeI z sz32 z z z z z ?_))
            refine TL.en (TC.ret (S.r (B.r ?_)))
            obtain rfl := so hh
            exact rnd_r 0 z ⟨z, _, Sub.f [15, 15, 15, 15, 15, 15, 10, 10, 10, 15, 15, 15, 12, 13] 14, ⟨a422_1, c422_2, z422_3, b422_5, z, hn389, zf422_4, zf399, hr400, hn402⟩⟩
           ·refine TC.skip (S.n (TC.seq (TC.a (TL.i z z (TL.w z (OpVal.geq z z z) (TL.en (TC.cD z hh (fun h426 hh => ?_) (fun h426 hh => ?_))))))))
            ·refine TC.a (TL.w z (buildL z pl26 ze26 z) (TL.front 5 z z (TL.op z (storeAll z sz26 z z z z z z ?_))))
             refine TL.front 6 z z (TL.op z (storeI z sz32 z z z z z ?_))
             refine TL.en (TC.ret (S.r (B.r ?_)))
             obtain rfl := so hh
             exact rnd_r 0 z ⟨z, _, Sub.f [15, 15, 15, 15, 15, 15, 10, 10, 10, 15, 15, 15, 12, 13] 14, ⟨a422_1, c422_2, z422_3, b422_5, z, hn389, zf422_4, zf399, hr400, hn402⟩⟩
            ·refine TC.skip (S.n (TC.region (TL.w z (loadLoc z ag22 z (i := 14) z z) (TL.i z z (TL.i z z ?_)))))
             have u184 := grd_c hh
             replace hh := grd_t hh
             refine TL.isSl (i := 15) z (fun hs427 _ _ => ?_)
             refine TL.w z (OpVal.index z underlying22 sz3 z z hs427 u184.1 u184.2) (TL.front 15 z z ?_)
             have hn428 : (l401.set y256_0.toNat v162.1).length = (List.replicate v13.1.length (0 : Int)).length := by rw [List.length_set]; exact hn402
             refine TL.op z (storeS v162.1 z sz3 z z z z Go.E.encI_len Go.E.encI_one (by omega) (by omega) ?_)
             refine TL.nil (B.n ?_)
             obtain rfl := so hh
             exact rnd_n ⟨z, _, Sub.f [15, 15, 15, 15, 15, 8, 8, 8, 15, 15, 15, 15, 15] 14, ⟨a422_1, c422_2, z422_3, b422_5, z, hn389, zf422_4, zf399, hr400, hn428⟩⟩
          ·rintro τ406 _ _ hle407 ⟨a392, c393, z394, b398, rfl, hn389, zf395, zf399, hr400, hn402⟩ ⟨rfl⟩
           replace hr111_0 := hr111_0.mono hle407
           replace hr265 := hr265.mono hle407
           replace zf281 := zf281.mono hle407
           have hn389b := hn389
           have zf395b := zf395.length
           have zf399b := zf399.length
           have hr400b := hr400.rv.big
           have hn402b := hn402
           dsimp only [dfa_Of_k256] at hh
           show jmpQ _ _ _ _ _ τ406 [Res.cells b103 #[.slice none 0 0, .slice none 0 0, .slice none 0 0] 26, Res.cells b105 #[.int .i64 i388] 32, Res.cells b117 #[.slice a113 l130.length c114] 113, Res.rowS 4 1 encB (.slice a176 (List.replicate x0.states.toNat false).length c177) l193, Res.cells b206 #[loc b202_1 0] 114, Res.cells b202_1 #[.slice a392 l391.length c393, .map (some b398)] 139, Res.rowS 22 1 (pkSl 1 Go.E.encI Go.E.encI_len).en (.slice a392 l391.length c393) z394, Res.mapB keyS keyI (some b398) m397, Res.cells b212 #[.slice a111_1 v26.1.length c111_1, .slice a278 l277.length c279, .slice a284 l283.length c285] 26, Res.rowS 22 1 (pkSl 1 Go.E.encI Go.E.encI_len).en (.slice a278 l277.length c279) z280, Res.rowS 4 1 encB (.slice a284 l283.length c285) l283, Res.cells b303 #[.slice a301_1 v116.1.length c301_2] 22, Res.cells b350 #[.slice a347 ((List.replicate v13.1.length (0 : Int)).length) c348] 22, Res.rowS 3 1 Go.E.encI (.slice a347 (List.replicate v13.1.length (0 : Int)).length c348) l401, Res.cells b352_4 #[.slice a352_1 v153.length c352_2] 51]
           refine jmp_split hh ?_ ?_ <;> clear hh
           ·intro hh
            refine B.n (S.n (TC.a (TL.w z (fieldLoc z fo26_1 z) (TL.w z (loadLoc z ag23 z (i := 8) z z) (TL.w z (loadLoc z ag22 z (i := 12) z z) ?_)))))
            rw [← hn402]
            refine TL.front 13 z z (TL.sealS Go.E.encI_len (fun τ433 hle432 hr431 => ?_))
            replace hr111_0 := hr111_0.mono hle432
            replace hr265 := hr265.mono hle432
            replace zf281 := zf281.mono hle432
            replace zf395 := zf395.mono hle432
            replace zf399 := zf399.mono hle432
            have hr431b := hr431.rv.big
            have zf434 : ZOk _ (pkSl 1 Go.E.encI Go.E.encI_len) ([(l401, (a347, c348))] : List (List Int × (pkSl 1 Go.E.encI Go.E.encI_len).P)) [l401] := ZOk.cons (hr431) (ZOk.nil _ _)
            refine TL.op z (litZ zf434 z underlying23 sz22 z ze22 z z z (by decide) (by decide) z (by decide) z (by decide) (fun a429 c430 => ?_))
            refine TL.front 10 z z ?_
            have u190 := grd_c hh
            replace hh := grd_t hh
            refine TL.op z (appendZ (k := (pkSl 1 Go.E.encI Go.E.encI_len)) zf399 zf434 z z underlying23 sz22 by22 ze22 z z (by decide) z z z (.inr ⟨_, 0, z⟩) (by simpa using u190) (by decide) (fun a436 c437 zf438 => ?_))
            refine TL.w z (fieldLoc z fo26_1 z) (TL.front 10 z z (TL.op z (storeSl z sz23 z z z z z ?_)))
            refine TL.en (TC.region (TL.w z (fieldLoc z fo26_2 z) (TL.w z (loadLoc z ag24 z (i := 0) z z) (TL.j z z (TL.op z (OpOk.lit (enc := encB) [t322] z underlying24 sz4 ze4 z z z encB_len (by decide) (by decide) false z (by decide) z (by decide) encB_one (fun a439 c440 => ?_)))))))
            refine TL.front 12 z z ?_
            have u197 := grd_c hh
            replace hh := grd_t hh
            refine TL.op z (appendS z z underlying24 sz4 by4 ze4 z z (by decide) z z z (.inr ⟨_, 0, z⟩) (by simpa using u197) (by decide) (fun a442 c443 => ?_))
            refine TL.w z (fieldLoc z fo26_2 z) (TL.front 2 z z (TL.op z (storeSl z sz24 z z z z z ?_)))
            refine TL.nil (B.n (S.n (TC.region (TL.i z z ?_))))
            have u201 := grd_c hh
            replace hh := grd_t hh
            refine TL.w z (OpVal.succ z z z (by omega)) (TL.i z z (TL.en ?_))
            obtain ⟨hh, hlt444⟩ := nxt_x hR1 hh
            exact lf ((i388, l391, m397, (l277 ++ [l401]), (l283 ++ [t322]), (k286 + 1)), (a392, c393, z394, b398, a436, c437, (z280 ++ ([(l401, (a347, c348))] : List (List Int × (pkSl 1 Go.E.encI Go.E.encI_len).P))), a442, c443, τ433)) hlt444 ⟨hh, hr265, hn389, zf395, zf438, (((((hle294.trans hle325).trans hle352).trans hle404).trans hle407).trans hle432)⟩ (Sub.f [1, 3, 2, 12, 12, 12, 12, 12, 12, 12, 12] 11)
           ·intro m_ c_ hh hc_
            refine jl_split hh hc_ ?_ ?_ <;> clear hh hc_
            ·intro hh
             refine TC.ofSub (Sub.f [1, 1] 2) (TC.ret (B.r (S.r (B.r (S.r (S.r ?_))))))
             replace hh := fin_x hR1 hh
             refine B.r (S.r ?_)
             obtain rfl := so hh
             exact ro [] z (RVs.agg ag26 sz26 z (i := 0) z z (RVs.one ag32 z (i := 1) z z RVs.nil)) ⟨none, 0, none, 0, none, 0, z, (RS.nilF _ Go.E.encI Go.E.encI_len), (RZ.nilF _ (pkSl 1 Go.E.encI Go.E.encI_len)), (RS.nilF _ encB encB_len), z⟩
            ·intro m_ hh hc_
             exact jl_nil hc_
       ·refine TC.exit (S.x (S.x ?_))
        replace hh := fin_x hR1 hh
        refine TC.exitHere (S.n (TC.a (TL.w z (loadAll z ag26 sz26 z (i := 8) z z) (TL.front 3 z z (TL.op z (storeAll z sz26 z z z z z z ?_))))))
        refine TL.front 4 z z (TL.op z (storeI z sz32 z z z z z ?_))
        refine TL.en (TC.front 9 z z (TC.sealZ zf281 (fun τ447 hle446 hr445 => ?_)))
        replace hr111_0 := hr111_0.mono hle446
        have hr445b := hr445.big
        refine TC.front 9 z z (TC.sealS encB_len (fun τ450 hle449 hr448 => ?_))
        replace hr111_0 := hr111_0.mono hle449
        replace hr445 := hr445.mono hle449
        have hr448b := hr448.rv.big
        refine TC.ofSub (Sub.f [1] 2) (TC.ret ?_)
        obtain rfl := so hh
        exact ro [] z (RVs.agg ag26 sz26 z (i := 0) z z (RVs.one ag32 z (i := 1) z z RVs.nil)) ⟨a111_1, c111_1, a278, c279, a284, c285, z, hr111_0, hr445, hr448, z⟩

end Go.Proofs.YtcfjjckencjjeaaDoor
end

/- M3 -/
section
/- Decompiled: transducers put together. -/
set_option linter.unusedVariables false
set_option linter.unusedSimpArgs false
namespace Go.Proofs.YtcfjjckencjjeaaDoor
open Go Go.E Go.E.OpVal Go.E.OpOk Go.Proofs.Tryd
set_option maxRecDepth 100000
private theorem ag28 : Go.E.aggOf Tryd.prog 28 = some false := by kernel_rfl
private theorem ag29 : Go.E.aggOf Tryd.prog 29 = some false := by kernel_rfl
private theorem ag31 : Go.E.aggOf Tryd.prog 31 = some true := by kernel_rfl
private theorem ag60 : Go.E.aggOf Tryd.prog 60 = some true := by kernel_rfl
private theorem ag63 : Go.E.aggOf Tryd.prog 63 = some true := by kernel_rfl
private theorem ag9 : Go.E.aggOf Tryd.prog 9 = some false := by kernel_rfl
private theorem by29 : Go.E.byOf Tryd.prog 29 = some 24 := by kernel_rfl
private theorem by60 : Go.E.byOf Tryd.prog 60 = some 72 := by kernel_rfl
private theorem fo31_0 : Go.E.foOf Tryd.prog 31 0 = some 0 := by kernel_rfl
private theorem fo31_1 : Go.E.foOf Tryd.prog 31 1 = some 1 := by kernel_rfl
private theorem fo31_2 : Go.E.foOf Tryd.prog 31 2 = some 2 := by kernel_rfl
private theorem fo31_3 : Go.E.foOf Tryd.prog 31 3 = some 3 := by kernel_rfl
private theorem fo60_0 : Go.E.foOf Tryd.prog 60 0 = some 0 := by kernel_rfl
private theorem fo60_1 : Go.E.foOf Tryd.prog 60 1 = some 1 := by kernel_rfl
private theorem fo60_2 : Go.E.foOf Tryd.prog 60 2 = some 2 := by kernel_rfl
private theorem fo60_3 : Go.E.foOf Tryd.prog 60 3 = some 6 := by kernel_rfl
private theorem fo60_4 : Go.E.foOf Tryd.prog 60 4 = some 7 := by kernel_rfl
private theorem fo63_0 : Go.E.foOf Tryd.prog 63 0 = some 0 := by kernel_rfl
private theorem fo63_1 : Go.E.foOf Tryd.prog 63 1 = some 1 := by kernel_rfl
private theorem fo79_0 : Go.E.foOf Tryd.prog 79 0 = some 0 := by kernel_rfl
private theorem fo79_1 : Go.E.foOf Tryd.prog 79 1 = some 4 := by kernel_rfl
private theorem pf18 : Go.E.plainF Tryd.prog 18 = true := by kernel_rfl
private theorem pf23 : Go.E.plainF Tryd.prog 23 = true := by kernel_rfl
private theorem pf24 : Go.E.plainF Tryd.prog 24 = true := by kernel_rfl
private theorem pf25 : Go.E.plainF Tryd.prog 25 = true := by kernel_rfl
private theorem pf26 : Go.E.plainF Tryd.prog 26 = true := by kernel_rfl
private theorem pf30 : Go.E.plainF Tryd.prog 30 = true := by kernel_rfl
private theorem pf31 : Go.E.plainF Tryd.prog 31 = true := by kernel_rfl
private theorem pf32 : Go.E.plainF Tryd.prog 32 = true := by kernel_rfl
private theorem pf33 : Go.E.plainF Tryd.prog 33 = true := by kernel_rfl
private theorem pf34 : Go.E.plainF Tryd.prog 34 = true := by kernel_rfl
private theorem pf35 : Go.E.plainF Tryd.prog 35 = true := by kernel_rfl
private theorem pf36 : Go.E.plainF Tryd.prog 36 = true := by kernel_rfl
private theorem pl31 : Go.E.plOf Tryd.prog 31 = some #[(0, 1), (1, 1), (2, 1), (3, 1)] := by kernel_rfl
private theorem pl60 : Go.E.plOf Tryd.prog 60 = some #[(0, 1), (1, 1), (2, 4), (6, 1), (7, 1)] := by kernel_rfl
private theorem pl63 : Go.E.plOf Tryd.prog 63 = some #[(0, 1), (1, 1)] := by kernel_rfl
private theorem pl79 : Go.E.plOf Tryd.prog 79 = some #[(0, 4), (4, 1)] := by kernel_rfl
private theorem sz29 : Go.E.szOf Tryd.prog 29 = some 1 := by kernel_rfl
private theorem sz31 : Go.E.szOf Tryd.prog 31 = some 4 := by kernel_rfl
private theorem sz60 : Go.E.szOf Tryd.prog 60 = some 8 := by kernel_rfl
private theorem sz63 : Go.E.szOf Tryd.prog 63 = some 2 := by kernel_rfl
private theorem ze29 : Go.E.zeroOf Tryd.prog 29 = some (.slice none 0 0) := by kernel_rfl
private theorem ze31 : Go.E.zeroOf Tryd.prog 31 = some (.agg #[.int .i64 0, .slice none 0 0, .slice none 0 0, .slice none 0 0]) := by kernel_rfl
private theorem ze60 : Go.E.zeroOf Tryd.prog 60 = some (.agg #[.int .i64 0, .int .i64 0, .int .u64 0, .int .u64 0, .int .u64 0, .int .u64 0, .string ByteArray.empty, .bool false]) := by kernel_rfl
private theorem ze63 : Go.E.zeroOf Tryd.prog 63 = some (.agg #[.int .i64 0, .string ByteArray.empty]) := by kernel_rfl
private theorem ze79 : Go.E.zeroOf Tryd.prog 79 = some (.agg #[.int .i64 0, .slice none 0 0, .slice none 0 0, .slice none 0 0, .bool false]) := by kernel_rfl

noncomputable def rat_grow_starts_b1 (x1 : List Tip) (x2 : Int) (i138 : Int) (l140 : List Tip) (l144 : List Tip) (l148 : List Arc) (t151 : Bool) (k152 : Nat) : Option ((Int × (List Tip) × (List Tip) × (List Arc) × Bool × Nat) ⊕ (Grow)) :=
 iteO (decide (((k152 : Nat) : Int) < ((x1.length : Nat) : Int))) (bnd (rat_grow_start (⟨(⟨i138, l140, l144, l148⟩ : Fst), t151⟩ : Grow) (⟨IntKind.i64.wrap (((nth x1 k152 Tip.zero).state) + x2), (nth x1 k152 Tip.zero).out⟩ : Tip)) (fun v17 => nxt (v17.f.states, v17.f.starts, v17.f.ends, v17.f.arcs, v17.over, (k152 + 1)))) (fin (some (⟨(⟨i138, l140, l144, l148⟩ : Fst), t151⟩ : Grow)))
noncomputable def rat_grow_starts (x0 : Grow) (x1 : List Tip) (x2 : Int) : Option (Grow) :=
 iter (fun q : Int × (List Tip) × (List Tip) × (List Arc) × Bool × Nat => rat_grow_starts_b1 x1 x2 q.1 q.2.1 q.2.2.1 q.2.2.2.1 q.2.2.2.2.1 q.2.2.2.2.2) (x0.f.states, x0.f.starts, x0.f.ends, x0.f.arcs, x0.over, 0)
theorem rat_grow_starts_con {σ : Store} {x0 : Grow} {b0_0 : Nat} {Eb0 : Nat} {a0_1 : Option Addr} {c0_2 : Nat} {a0_3 : Option Addr} {c0_4 : Nat} {a0_5 : Option Addr} {c0_6 : Nat} {x1 : List Tip} {a1_0 : Option Addr} {c1_0 : Nat} {x2 : Int} (f1_0 : RS σ 2 encTip (.slice a1_0 x1.length c1_0) x1) {r : Grow} (hh : rat_grow_starts x0 x1 x2 = some r) :
  Con Tryd.prog 31 #[loc b0_0 0, .slice a1_0 x1.length c1_0, .int .i64 x2] σ [Res.cells b0_0 #[.int .i64 x0.f.states, .slice a0_1 x0.f.starts.length c0_2, .slice a0_3 x0.f.ends.length c0_4, .slice a0_5 x0.f.arcs.length c0_6, .bool x0.over] Eb0, Res.rowS 63 2 encTip (.slice a0_1 x0.f.starts.length c0_2) x0.f.starts, Res.rowS 63 2 encTip (.slice a0_3 x0.f.ends.length c0_4) x0.f.ends, Res.rowS 60 8 encArc (.slice a0_5 x0.f.arcs.length c0_6) x0.f.arcs] (fun v σ' H' => ∃ (ao1 : Option Addr), ∃ (co2 : Nat), ∃ (ao3 : Option Addr), ∃ (co4 : Nat), ∃ (ao5 : Option Addr), ∃ (co6 : Nat), v = .tuple #[] ∧ σ = σ' ∧ H' = [Res.cells b0_0 #[.int .i64 r.f.states, .slice ao1 r.f.starts.length co2, .slice ao3 r.f.ends.length co4, .slice ao5 r.f.arcs.length co6, .bool r.over] Eb0, Res.rowS 63 2 encTip (.slice ao1 r.f.starts.length co2) r.f.starts, Res.rowS 63 2 encTip (.slice ao3 r.f.ends.length co4) r.f.ends, Res.rowS 60 8 encArc (.slice ao5 r.f.arcs.length co6) r.f.arcs]) := by
 dsimp only [rat_grow_starts] at hh
 have f1_0b := f1_0.rv.big
 refine Con.mk (n := 24) Tryd.func31 z z z (fun w0 => ?_)
 refine TC.a (TL.s z z (TL.w z (lenC z underlying28 z) (TL.i z z (TL.en (TC.block (TC.loopG (α := (Int × (List Tip) × (List Tip) × (List Arc) × Bool × Nat) × ((Option Addr) × Nat × (Option Addr) × Nat × (Option Addr) × Nat)) (rgs [(7, 1), (10, 14)]) (fun g => [(10, .int .i64 ((g.1.2.2.2.2.2 : Nat) : Int))]) (fun g => [Res.cells b0_0 #[.int .i64 g.1.1, .slice g.2.1 g.1.2.1.length g.2.2.1, .slice g.2.2.2.1 g.1.2.2.1.length g.2.2.2.2.1, .slice g.2.2.2.2.2.1 g.1.2.2.2.1.length g.2.2.2.2.2.2, .bool g.1.2.2.2.2.1] Eb0, Res.rowS 63 2 encTip (.slice g.2.1 g.1.2.1.length g.2.2.1) g.1.2.1, Res.rowS 63 2 encTip (.slice g.2.2.2.1 g.1.2.2.1.length g.2.2.2.2.1) g.1.2.2.1, Res.rowS 60 8 encArc (.slice g.2.2.2.2.2.1 g.1.2.2.2.1.length g.2.2.2.2.2.2) g.1.2.2.2.1]) (fun g => σ) (fun g => iter (fun q : Int × (List Tip) × (List Tip) × (List Arc) × Bool × Nat => rat_grow_starts_b1 x1 x2 q.1 q.2.1 q.2.2.1 q.2.2.2.1 q.2.2.2.2.1 q.2.2.2.2.2) g.1 = some r) (fun g => rounds (fun q : Int × (List Tip) × (List Tip) × (List Arc) × Bool × Nat => rat_grow_starts_b1 x1 x2 q.1 q.2.1 q.2.2.1 q.2.2.2.1 q.2.2.2.2.1 q.2.2.2.2.2) g.1) ((x0.f.states, x0.f.starts, x0.f.ends, x0.f.arcs, x0.over, 0), (a0_1, c0_2, a0_3, c0_4, a0_5, c0_6)) (Sub.f [3, 3, 3, 3] 4) z (by repeat (first | exact trivial | refine ⟨z, ?_⟩)) hh (fun g1 j1 hg1 => ?_)))))))
 obtain ⟨⟨i138, l140, l144, l148, t151, k152⟩, ⟨a141, c142, a145, c146, a149, c150⟩⟩ := g1
 have hh := hg1; clear hg1
 try dsimp only
 obtain ⟨z1, hh, hR1⟩ := iter_e hh
 dsimp only [rat_grow_starts_b1] at hh
 refine TC.isSl (i := 1) z (fun _ hb153 _ => ?_)
 refine TC.isSl (i := 2) z (fun _ hb154 _ => ?_)
 refine TC.isSl (i := 3) z (fun _ hb155 _ => ?_)
 refine TC.a (TL.w z (OpVal.lss z z z) (TL.en (TC.seq (TC.cD z hh (fun h156 hh => ?_) (fun h156 hh => ?_)))))
 ·refine TC.skip (S.n (TC.seq (TC.block (TC.a (TL.w z (indexN z underlying28 sz63 z z f1_0.rv.sl (by omega)) (TL.w z (loadSA Tip.zero z ag63 sz63 z f1_0 (by omega) (by omega)) (TL.op z (OpOk.alloc z ze63 z z (fun b157 => ?_)))))))))
  refine TL.op z (storeAll z sz63 z z z z z z ?_)
  refine TL.en (TC.region (TL.l z z (TL.w z (fieldLoc z fo63_0 z) (TL.w z (loadLoc z ag3 z (i := 0) z z) (TL.i z z (TL.w z (addW z z z) (TL.w z (fieldLoc z fo63_1 z) (TL.w z (loadLoc z ag9 z (i := 0) z z) (TL.w z (buildL z pl63 ze63 z) (TL.front 4 z z (TL.front 4 z z (TL.front 4 z z (TL.front 4 z z ?_)))))))))))))
  obtain ⟨v17, u17, hh⟩ := bnd_e hh
  refine TL.op z (OpOk.call (rat_grow_start_con u17) z z pf24 z z z z ?_)
  rintro _ _ _ hle159 ⟨a159_1, c159_2, a159_3, c159_4, a159_5, c159_6, rfl, rfl, rfl⟩
  refine TL.nil (B.n (S.n (TC.region (TL.w z (OpVal.succ z z z (by omega)) (TL.i z z (TL.en ?_))))))
  obtain ⟨hh, hlt163⟩ := nxt_x hR1 hh
  exact lf ((v17.f.states, v17.f.starts, v17.f.ends, v17.f.arcs, v17.over, (k152 + 1)), (a159_1, c159_2, a159_3, c159_4, a159_5, c159_6)) hlt163 hh (Sub.f [3, 3, 3, 3] 4)
 ·refine TC.exit (S.x (S.x ?_))
  replace hh := fin_x hR1 hh
  refine TC.exitHere ?_
  obtain rfl := so hh
  exact RetOk.mk' (rs := []) [Res.cells b0_0 #[.int .i64 i138, .slice a141 l140.length c142, .slice a145 l144.length c146, .slice a149 l148.length c150, .bool t151] Eb0, Res.rowS 63 2 encTip (.slice a141 l140.length c142) l140, Res.rowS 63 2 encTip (.slice a145 l144.length c146) l144, Res.rowS 60 8 encArc (.slice a149 l148.length c150) l148] z (.inr z) RVs.nil (List.sublist_append_left _ _) ⟨a141, c142, a145, c146, a149, c150, z, z, z⟩

noncomputable def rat_grow_ends_b1 (x1 : List Tip) (x2 : Int) (i138 : Int) (l140 : List Tip) (l144 : List Tip) (l148 : List Arc) (t151 : Bool) (k152 : Nat) : Option ((Int × (List Tip) × (List Tip) × (List Arc) × Bool × Nat) ⊕ (Grow)) :=
 iteO (decide (((k152 : Nat) : Int) < ((x1.length : Nat) : Int))) (bnd (rat_grow_end (⟨(⟨i138, l140, l144, l148⟩ : Fst), t151⟩ : Grow) (⟨IntKind.i64.wrap (((nth x1 k152 Tip.zero).state) + x2), (nth x1 k152 Tip.zero).out⟩ : Tip)) (fun v17 => nxt (v17.f.states, v17.f.starts, v17.f.ends, v17.f.arcs, v17.over, (k152 + 1)))) (fin (some (⟨(⟨i138, l140, l144, l148⟩ : Fst), t151⟩ : Grow)))
noncomputable def rat_grow_ends (x0 : Grow) (x1 : List Tip) (x2 : Int) : Option (Grow) :=
 iter (fun q : Int × (List Tip) × (List Tip) × (List Arc) × Bool × Nat => rat_grow_ends_b1 x1 x2 q.1 q.2.1 q.2.2.1 q.2.2.2.1 q.2.2.2.2.1 q.2.2.2.2.2) (x0.f.states, x0.f.starts, x0.f.ends, x0.f.arcs, x0.over, 0)
theorem rat_grow_ends_con {σ : Store} {x0 : Grow} {b0_0 : Nat} {Eb0 : Nat} {a0_1 : Option Addr} {c0_2 : Nat} {a0_3 : Option Addr} {c0_4 : Nat} {a0_5 : Option Addr} {c0_6 : Nat} {x1 : List Tip} {a1_0 : Option Addr} {c1_0 : Nat} {x2 : Int} (f1_0 : RS σ 2 encTip (.slice a1_0 x1.length c1_0) x1) {r : Grow} (hh : rat_grow_ends x0 x1 x2 = some r) :
  Con Tryd.prog 32 #[loc b0_0 0, .slice a1_0 x1.length c1_0, .int .i64 x2] σ [Res.cells b0_0 #[.int .i64 x0.f.states, .slice a0_1 x0.f.starts.length c0_2, .slice a0_3 x0.f.ends.length c0_4, .slice a0_5 x0.f.arcs.length c0_6, .bool x0.over] Eb0, Res.rowS 63 2 encTip (.slice a0_1 x0.f.starts.length c0_2) x0.f.starts, Res.rowS 63 2 encTip (.slice a0_3 x0.f.ends.length c0_4) x0.f.ends, Res.rowS 60 8 encArc (.slice a0_5 x0.f.arcs.length c0_6) x0.f.arcs] (fun v σ' H' => ∃ (ao1 : Option Addr), ∃ (co2 : Nat), ∃ (ao3 : Option Addr), ∃ (co4 : Nat), ∃ (ao5 : Option Addr), ∃ (co6 : Nat), v = .tuple #[] ∧ σ = σ' ∧ H' = [Res.cells b0_0 #[.int .i64 r.f.states, .slice ao1 r.f.starts.length co2, .slice ao3 r.f.ends.length co4, .slice ao5 r.f.arcs.length co6, .bool r.over] Eb0, Res.rowS 63 2 encTip (.slice ao1 r.f.starts.length co2) r.f.starts, Res.rowS 63 2 encTip (.slice ao3 r.f.ends.length co4) r.f.ends, Res.rowS 60 8 encArc (.slice ao5 r.f.arcs.length co6) r.f.arcs]) := by
 dsimp only [rat_grow_ends] at hh
 have f1_0b := f1_0.rv.big
 refine Con.mk (n := 24) Tryd.func32 z z z (fun w0 => ?_)
 refine TC.a (TL.s z z (TL.w z (lenC z underlying28 z) (TL.i z z (TL.en (TC.block (TC.loopG (α := (Int × (List Tip) × (List Tip) × (List Arc) × Bool × Nat) × ((Option Addr) × Nat × (Option Addr) × Nat × (Option Addr) × Nat)) (rgs [(7, 1), (10, 14)]) (fun g => [(10, .int .i64 ((g.1.2.2.2.2.2 : Nat) : Int))]) (fun g => [Res.cells b0_0 #[.int .i64 g.1.1, .slice g.2.1 g.1.2.1.length g.2.2.1, .slice g.2.2.2.1 g.1.2.2.1.length g.2.2.2.2.1, .slice g.2.2.2.2.2.1 g.1.2.2.2.1.length g.2.2.2.2.2.2, .bool g.1.2.2.2.2.1] Eb0, Res.rowS 63 2 encTip (.slice g.2.1 g.1.2.1.length g.2.2.1) g.1.2.1, Res.rowS 63 2 encTip (.slice g.2.2.2.1 g.1.2.2.1.length g.2.2.2.2.1) g.1.2.2.1, Res.rowS 60 8 encArc (.slice g.2.2.2.2.2.1 g.1.2.2.2.1.length g.2.2.2.2.2.2) g.1.2.2.2.1]) (fun g => σ) (fun g => iter (fun q : Int × (List Tip) × (List Tip) × (List Arc) × Bool × Nat => rat_grow_ends_b1 x1 x2 q.1 q.2.1 q.2.2.1 q.2.2.2.1 q.2.2.2.2.1 q.2.2.2.2.2) g.1 = some r) (fun g => rounds (fun q : Int × (List Tip) × (List Tip) × (List Arc) × Bool × Nat => rat_grow_ends_b1 x1 x2 q.1 q.2.1 q.2.2.1 q.2.2.2.1 q.2.2.2.2.1 q.2.2.2.2.2) g.1) ((x0.f.states, x0.f.starts, x0.f.ends, x0.f.arcs, x0.over, 0), (a0_1, c0_2, a0_3, c0_4, a0_5, c0_6)) (Sub.f [3, 3, 3, 3] 4) z (by repeat (first | exact trivial | refine ⟨z, ?_⟩)) hh (fun g1 j1 hg1 => ?_)))))))
 obtain ⟨⟨i138, l140, l144, l148, t151, k152⟩, ⟨a141, c142, a145, c146, a149, c150⟩⟩ := g1
 have hh := hg1; clear hg1
 try dsimp only
 obtain ⟨z1, hh, hR1⟩ := iter_e hh
 dsimp only [rat_grow_ends_b1] at hh
 refine TC.isSl (i := 1) z (fun _ hb153 _ => ?_)
 refine TC.isSl (i := 2) z (fun _ hb154 _ => ?_)
 refine TC.isSl (i := 3) z (fun _ hb155 _ => ?_)
 refine TC.a (TL.w z (OpVal.lss z z z) (TL.en (TC.seq (TC.cD z hh (fun h156 hh => ?_) (fun h156 hh => ?_)))))
 ·refine TC.skip (S.n (TC.seq (TC.block (TC.a (TL.w z (indexN z underlying28 sz63 z z f1_0.rv.sl (by omega)) (TL.w z (loadSA Tip.zero z ag63 sz63 z f1_0 (by omega) (by omega)) (TL.op z (OpOk.alloc z ze63 z z (fun b157 => ?_)))))))))
  refine TL.op z (storeAll z sz63 z z z z z z ?_)
  refine TL.en (TC.region (TL.l z z (TL.w z (fieldLoc z fo63_0 z) (TL.w z (loadLoc z ag3 z (i := 0) z z) (TL.i z z (TL.w z (addW z z z) (TL.w z (fieldLoc z fo63_1 z) (TL.w z (loadLoc z ag9 z (i := 0) z z) (TL.w z (buildL z pl63 ze63 z) (TL.front 4 z z (TL.front 4 z z (TL.front 4 z z (TL.front 4 z z ?_)))))))))))))
  obtain ⟨v17, u17, hh⟩ := bnd_e hh
  refine TL.op z (OpOk.call (rat_grow_end_con u17) z z pf25 z z z z ?_)
  rintro _ _ _ hle159 ⟨a159_1, c159_2, a159_3, c159_4, a159_5, c159_6, rfl, rfl, rfl⟩
  refine TL.nil (B.n (S.n (TC.region (TL.w z (OpVal.succ z z z (by omega)) (TL.i z z (TL.en ?_))))))
  obtain ⟨hh, hlt163⟩ := nxt_x hR1 hh
  exact lf ((v17.f.states, v17.f.starts, v17.f.ends, v17.f.arcs, v17.over, (k152 + 1)), (a159_1, c159_2, a159_3, c159_4, a159_5, c159_6)) hlt163 hh (Sub.f [3, 3, 3, 3] 4)
 ·refine TC.exit (S.x (S.x ?_))
  replace hh := fin_x hR1 hh
  refine TC.exitHere ?_
  obtain rfl := so hh
  exact RetOk.mk' (rs := []) [Res.cells b0_0 #[.int .i64 i138, .slice a141 l140.length c142, .slice a145 l144.length c146, .slice a149 l148.length c150, .bool t151] Eb0, Res.rowS 63 2 encTip (.slice a141 l140.length c142) l140, Res.rowS 63 2 encTip (.slice a145 l144.length c146) l144, Res.rowS 60 8 encArc (.slice a149 l148.length c150) l148] z (.inr z) RVs.nil (List.sublist_append_left _ _) ⟨a141, c142, a145, c146, a149, c150, z, z, z⟩

noncomputable def rat_grow_arcs_b1 (x1 : List Arc) (x2 : Int) (i138 : Int) (l140 : List Tip) (l144 : List Tip) (l148 : List Arc) (t151 : Bool) (k152 : Nat) : Option ((Int × (List Tip) × (List Tip) × (List Arc) × Bool × Nat) ⊕ (Grow)) :=
 iteO (decide (((k152 : Nat) : Int) < ((x1.length : Nat) : Int))) (bnd (rat_grow_arc (⟨(⟨i138, l140, l144, l148⟩ : Fst), t151⟩ : Grow) (⟨IntKind.i64.wrap (((nth x1 k152 Arc.zero).frm) + x2), IntKind.i64.wrap (((nth x1 k152 Arc.zero).to) + x2), (nth x1 k152 Arc.zero).set, (nth x1 k152 Arc.zero).out, (nth x1 k152 Arc.zero).copy⟩ : Arc)) (fun v25 => nxt (v25.f.states, v25.f.starts, v25.f.ends, v25.f.arcs, v25.over, (k152 + 1)))) (fin (some (⟨(⟨i138, l140, l144, l148⟩ : Fst), t151⟩ : Grow)))
noncomputable def rat_grow_arcs (x0 : Grow) (x1 : List Arc) (x2 : Int) : Option (Grow) :=
 iter (fun q : Int × (List Tip) × (List Tip) × (List Arc) × Bool × Nat => rat_grow_arcs_b1 x1 x2 q.1 q.2.1 q.2.2.1 q.2.2.2.1 q.2.2.2.2.1 q.2.2.2.2.2) (x0.f.states, x0.f.starts, x0.f.ends, x0.f.arcs, x0.over, 0)
theorem rat_grow_arcs_con {σ : Store} {x0 : Grow} {b0_0 : Nat} {Eb0 : Nat} {a0_1 : Option Addr} {c0_2 : Nat} {a0_3 : Option Addr} {c0_4 : Nat} {a0_5 : Option Addr} {c0_6 : Nat} {x1 : List Arc} {a1_0 : Option Addr} {c1_0 : Nat} {x2 : Int} (f1_0 : RS σ 8 encArc (.slice a1_0 x1.length c1_0) x1) {r : Grow} (hh : rat_grow_arcs x0 x1 x2 = some r) :
  Con Tryd.prog 33 #[loc b0_0 0, .slice a1_0 x1.length c1_0, .int .i64 x2] σ [Res.cells b0_0 #[.int .i64 x0.f.states, .slice a0_1 x0.f.starts.length c0_2, .slice a0_3 x0.f.ends.length c0_4, .slice a0_5 x0.f.arcs.length c0_6, .bool x0.over] Eb0, Res.rowS 63 2 encTip (.slice a0_1 x0.f.starts.length c0_2) x0.f.starts, Res.rowS 63 2 encTip (.slice a0_3 x0.f.ends.length c0_4) x0.f.ends, Res.rowS 60 8 encArc (.slice a0_5 x0.f.arcs.length c0_6) x0.f.arcs] (fun v σ' H' => ∃ (ao1 : Option Addr), ∃ (co2 : Nat), ∃ (ao3 : Option Addr), ∃ (co4 : Nat), ∃ (ao5 : Option Addr), ∃ (co6 : Nat), v = .tuple #[] ∧ σ = σ' ∧ H' = [Res.cells b0_0 #[.int .i64 r.f.states, .slice ao1 r.f.starts.length co2, .slice ao3 r.f.ends.length co4, .slice ao5 r.f.arcs.length co6, .bool r.over] Eb0, Res.rowS 63 2 encTip (.slice ao1 r.f.starts.length co2) r.f.starts, Res.rowS 63 2 encTip (.slice ao3 r.f.ends.length co4) r.f.ends, Res.rowS 60 8 encArc (.slice ao5 r.f.arcs.length co6) r.f.arcs]) := by
 dsimp only [rat_grow_arcs] at hh
 have f1_0b := f1_0.rv.big
 refine Con.mk (n := 32) Tryd.func33 z z z (fun w0 => ?_)
 refine TC.a (TL.s z z (TL.w z (lenC z underlying29 z) (TL.i z z (TL.en (TC.block (TC.loopG (α := (Int × (List Tip) × (List Tip) × (List Arc) × Bool × Nat) × ((Option Addr) × Nat × (Option Addr) × Nat × (Option Addr) × Nat)) (rgs [(7, 1), (10, 22)]) (fun g => [(10, .int .i64 ((g.1.2.2.2.2.2 : Nat) : Int))]) (fun g => [Res.cells b0_0 #[.int .i64 g.1.1, .slice g.2.1 g.1.2.1.length g.2.2.1, .slice g.2.2.2.1 g.1.2.2.1.length g.2.2.2.2.1, .slice g.2.2.2.2.2.1 g.1.2.2.2.1.length g.2.2.2.2.2.2, .bool g.1.2.2.2.2.1] Eb0, Res.rowS 63 2 encTip (.slice g.2.1 g.1.2.1.length g.2.2.1) g.1.2.1, Res.rowS 63 2 encTip (.slice g.2.2.2.1 g.1.2.2.1.length g.2.2.2.2.1) g.1.2.2.1, Res.rowS 60 8 encArc (.slice g.2.2.2.2.2.1 g.1.2.2.2.1.length g.2.2.2.2.2.2) g.1.2.2.2.1]) (fun g => σ) (fun g => iter (fun q : Int × (List Tip) × (List Tip) × (List Arc) × Bool × Nat => rat_grow_arcs_b1 x1 x2 q.1 q.2.1 q.2.2.1 q.2.2.2.1 q.2.2.2.2.1 q.2.2.2.2.2) g.1 = some r) (fun g => rounds (fun q : Int × (List Tip) × (List Tip) × (List Arc) × Bool × Nat => rat_grow_arcs_b1 x1 x2 q.1 q.2.1 q.2.2.1 q.2.2.2.1 q.2.2.2.2.1 q.2.2.2.2.2) g.1) ((x0.f.states, x0.f.starts, x0.f.ends, x0.f.arcs, x0.over, 0), (a0_1, c0_2, a0_3, c0_4, a0_5, c0_6)) (Sub.f [3, 3, 3, 3] 4) z (by repeat (first | exact trivial | refine ⟨z, ?_⟩)) hh (fun g1 j1 hg1 => ?_)))))))
 obtain ⟨⟨i138, l140, l144, l148, t151, k152⟩, ⟨a141, c142, a145, c146, a149, c150⟩⟩ := g1
 have hh := hg1; clear hg1
 try dsimp only
 obtain ⟨z1, hh, hR1⟩ := iter_e hh
 dsimp only [rat_grow_arcs_b1] at hh
 refine TC.isSl (i := 1) z (fun _ hb153 _ => ?_)
 refine TC.isSl (i := 2) z (fun _ hb154 _ => ?_)
 refine TC.isSl (i := 3) z (fun _ hb155 _ => ?_)
 refine TC.a (TL.w z (OpVal.lss z z z) (TL.en (TC.seq (TC.cD z hh (fun h156 hh => ?_) (fun h156 hh => ?_)))))
 ·refine TC.skip (S.n (TC.seq (TC.block (TC.a (TL.w z (indexN z underlying29 sz60 z z f1_0.rv.sl (by omega)) (TL.w z (loadSA Arc.zero z ag60 sz60 z f1_0 (by omega) (by omega)) (TL.op z (OpOk.alloc z ze60 z z (fun b157 => ?_)))))))))
  refine TL.op z (storeAll z sz60 z z z z z z ?_)
  refine TL.en (TC.region (TL.l z z (TL.w z (fieldLoc z fo60_0 z) (TL.w z (loadLoc z ag3 z (i := 0) z z) (TL.i z z (TL.w z (addW z z z) (TL.w z (fieldLoc z fo60_1 z) (TL.w z (loadLoc z ag3 z (i := 0) z z) (TL.i z z (TL.w z (addW z z z) (TL.w z (fieldLoc z fo60_2 z) (TL.w z (loadLocA z ag58 sz58 z (i := 0) z z z) (TL.w z (fieldLoc z fo60_3 z) (TL.w z (loadLoc z ag9 z (i := 0) z z) (TL.w z (fieldLoc z fo60_4 z) ?_)))))))))))))))
  refine TL.w z (loadLoc z ag4 z (i := 0) z z) (TL.w z (buildL z pl60 ze60 z) (TL.front 4 z z (TL.front 4 z z (TL.front 4 z z (TL.front 4 z z ?_)))))
  obtain ⟨v25, u25, hh⟩ := bnd_e hh
  refine TL.op z (OpOk.call (rat_grow_arc_con u25) z z pf26 z z z z ?_)
  rintro _ _ _ hle159 ⟨a159_1, c159_2, a159_3, c159_4, a159_5, c159_6, rfl, rfl, rfl⟩
  refine TL.nil (B.n (S.n (TC.region (TL.w z (OpVal.succ z z z (by omega)) (TL.i z z (TL.en ?_))))))
  obtain ⟨hh, hlt163⟩ := nxt_x hR1 hh
  exact lf ((v25.f.states, v25.f.starts, v25.f.ends, v25.f.arcs, v25.over, (k152 + 1)), (a159_1, c159_2, a159_3, c159_4, a159_5, c159_6)) hlt163 hh (Sub.f [3, 3, 3, 3] 4)
 ·refine TC.exit (S.x (S.x ?_))
  replace hh := fin_x hR1 hh
  refine TC.exitHere ?_
  obtain rfl := so hh
  exact RetOk.mk' (rs := []) [Res.cells b0_0 #[.int .i64 i138, .slice a141 l140.length c142, .slice a145 l144.length c146, .slice a149 l148.length c150, .bool t151] Eb0, Res.rowS 63 2 encTip (.slice a141 l140.length c142) l140, Res.rowS 63 2 encTip (.slice a145 l144.length c146) l144, Res.rowS 60 8 encArc (.slice a149 l148.length c150) l148] z (.inr z) RVs.nil (List.sublist_append_left _ _) ⟨a141, c142, a145, c146, a149, c150, z, z, z⟩

noncomputable def rat_grow_bridge_b1 (x4 : List Arc) (x2 : List UInt8) (x3 : List UInt8) (x1 : Int) (x5 : Int) (i138 : Int) (l140 : List Tip) (l144 : List Tip) (l148 : List Arc) (t151 : Bool) (k152 : Nat) : Option ((Int × (List Tip) × (List Tip) × (List Arc) × Bool × Nat) ⊕ (Grow)) :=
 iteO (decide (((k152 : Nat) : Int) < ((x4.length : Nat) : Int))) (grd (x2.length + x3.length ≤ 9223372036854775807) (grd ((x2 ++ x3).length + ((nth x4 k152 Arc.zero).out).length ≤ 9223372036854775807) (bnd (rat_grow_arc (⟨(⟨i138, l140, l144, l148⟩ : Fst), t151⟩ : Grow) (⟨x1, IntKind.i64.wrap (((nth x4 k152 Arc.zero).to) + x5), (nth x4 k152 Arc.zero).set, ((x2 ++ x3) ++ (nth x4 k152 Arc.zero).out), (nth x4 k152 Arc.zero).copy⟩ : Arc)) (fun v26 => iteO v26.over (fin (some (⟨(⟨v26.f.states, v26.f.starts, v26.f.ends, v26.f.arcs⟩ : Fst), v26.over⟩ : Grow))) (nxt (v26.f.states, v26.f.starts, v26.f.ends, v26.f.arcs, v26.over, (k152 + 1))))))) (fin (some (⟨(⟨i138, l140, l144, l148⟩ : Fst), t151⟩ : Grow)))
noncomputable def rat_grow_bridge (x0 : Grow) (x1 : Int) (x2 : List UInt8) (x3 : List UInt8) (x4 : List Arc) (x5 : Int) : Option (Grow) :=
 grd (x2.length ≤ 281474976710656) (grd (x3.length ≤ 281474976710656) (iter (fun q : Int × (List Tip) × (List Tip) × (List Arc) × Bool × Nat => rat_grow_bridge_b1 x4 x2 x3 x1 x5 q.1 q.2.1 q.2.2.1 q.2.2.2.1 q.2.2.2.2.1 q.2.2.2.2.2) (x0.f.states, x0.f.starts, x0.f.ends, x0.f.arcs, x0.over, 0)))
theorem rat_grow_bridge_con {σ : Store} {x0 : Grow} {b0_0 : Nat} {Eb0 : Nat} {a0_1 : Option Addr} {c0_2 : Nat} {a0_3 : Option Addr} {c0_4 : Nat} {a0_5 : Option Addr} {c0_6 : Nat} {x1 : Int} {x2 : List UInt8} {x3 : List UInt8} {x4 : List Arc} {a4_0 : Option Addr} {c4_0 : Nat} {x5 : Int} (f4_0 : RS σ 8 encArc (.slice a4_0 x4.length c4_0) x4) {r : Grow} (hh : rat_grow_bridge x0 x1 x2 x3 x4 x5 = some r) :
  Con Tryd.prog 36 #[loc b0_0 0, .int .i64 x1, .string (bs x2), .string (bs x3), .slice a4_0 x4.length c4_0, .int .i64 x5] σ [Res.cells b0_0 #[.int .i64 x0.f.states, .slice a0_1 x0.f.starts.length c0_2, .slice a0_3 x0.f.ends.length c0_4, .slice a0_5 x0.f.arcs.length c0_6, .bool x0.over] Eb0, Res.rowS 63 2 encTip (.slice a0_1 x0.f.starts.length c0_2) x0.f.starts, Res.rowS 63 2 encTip (.slice a0_3 x0.f.ends.length c0_4) x0.f.ends, Res.rowS 60 8 encArc (.slice a0_5 x0.f.arcs.length c0_6) x0.f.arcs] (fun v σ' H' => ∃ (ao1 : Option Addr), ∃ (co2 : Nat), ∃ (ao3 : Option Addr), ∃ (co4 : Nat), ∃ (ao5 : Option Addr), ∃ (co6 : Nat), v = .tuple #[] ∧ σ = σ' ∧ H' = [Res.cells b0_0 #[.int .i64 r.f.states, .slice ao1 r.f.starts.length co2, .slice ao3 r.f.ends.length co4, .slice ao5 r.f.arcs.length co6, .bool r.over] Eb0, Res.rowS 63 2 encTip (.slice ao1 r.f.starts.length co2) r.f.starts, Res.rowS 63 2 encTip (.slice ao3 r.f.ends.length co4) r.f.ends, Res.rowS 60 8 encArc (.slice ao5 r.f.arcs.length co6) r.f.arcs]) := by
 dsimp only [rat_grow_bridge] at hh
 have f4_0b := f4_0.rv.big
 refine Con.mk (n := 43) Tryd.func36 z z z (fun w0 => ?_)
 have x2b := grd_c hh
 replace hh := grd_t hh
 have x3b := grd_c hh
 replace hh := grd_t hh
 refine TC.a (TL.s z z (TL.w z (lenC z underlying29 z) (TL.i z z (TL.en (TC.block (TC.loopG (α := (Int × (List Tip) × (List Tip) × (List Arc) × Bool × Nat) × ((Option Addr) × Nat × (Option Addr) × Nat × (Option Addr) × Nat)) (rgs [(13, 1), (16, 27)]) (fun g => [(16, .int .i64 ((g.1.2.2.2.2.2 : Nat) : Int))]) (fun g => [Res.cells b0_0 #[.int .i64 g.1.1, .slice g.2.1 g.1.2.1.length g.2.2.1, .slice g.2.2.2.1 g.1.2.2.1.length g.2.2.2.2.1, .slice g.2.2.2.2.2.1 g.1.2.2.2.1.length g.2.2.2.2.2.2, .bool g.1.2.2.2.2.1] Eb0, Res.rowS 63 2 encTip (.slice g.2.1 g.1.2.1.length g.2.2.1) g.1.2.1, Res.rowS 63 2 encTip (.slice g.2.2.2.1 g.1.2.2.1.length g.2.2.2.2.1) g.1.2.2.1, Res.rowS 60 8 encArc (.slice g.2.2.2.2.2.1 g.1.2.2.2.1.length g.2.2.2.2.2.2) g.1.2.2.2.1]) (fun g => σ) (fun g => iter (fun q : Int × (List Tip) × (List Tip) × (List Arc) × Bool × Nat => rat_grow_bridge_b1 x4 x2 x3 x1 x5 q.1 q.2.1 q.2.2.1 q.2.2.2.1 q.2.2.2.2.1 q.2.2.2.2.2) g.1 = some r) (fun g => rounds (fun q : Int × (List Tip) × (List Tip) × (List Arc) × Bool × Nat => rat_grow_bridge_b1 x4 x2 x3 x1 x5 q.1 q.2.1 q.2.2.1 q.2.2.2.1 q.2.2.2.2.1 q.2.2.2.2.2) g.1) ((x0.f.states, x0.f.starts, x0.f.ends, x0.f.arcs, x0.over, 0), (a0_1, c0_2, a0_3, c0_4, a0_5, c0_6)) (Sub.f [3, 3, 3, 3] 4) z (by repeat (first | exact trivial | refine ⟨z, ?_⟩)) hh (fun g1 j1 hg1 => ?_)))))))
 obtain ⟨⟨i138, l140, l144, l148, t151, k152⟩, ⟨a141, c142, a145, c146, a149, c150⟩⟩ := g1
 have hh := hg1; clear hg1
 try dsimp only
 obtain ⟨z1, hh, hR1⟩ := iter_e hh
 dsimp only [rat_grow_bridge_b1] at hh
 refine TC.isSl (i := 1) z (fun _ hb153 _ => ?_)
 refine TC.isSl (i := 2) z (fun _ hb154 _ => ?_)
 refine TC.isSl (i := 3) z (fun _ hb155 _ => ?_)
 refine TC.a (TL.w z (OpVal.lss z z z) (TL.en (TC.seq (TC.cD z hh (fun h156 hh => ?_) (fun h156 hh => ?_)))))
 ·refine TC.skip (S.n (TC.seq (TC.block (TC.a (TL.w z (indexN z underlying29 sz60 z z f4_0.rv.sl (by omega)) (TL.w z (loadSA Arc.zero z ag60 sz60 z f4_0 (by omega) (by omega)) (TL.op z (OpOk.alloc z ze60 z z (fun b157 => ?_)))))))))
  refine TL.op z (storeAll z sz60 z z z z z z ?_)
  refine TL.en (TC.a (TL.l z z (TL.i z z (TL.w z (fieldLoc z fo60_1 z) (TL.w z (loadLoc z ag3 z (i := 0) z z) (TL.i z z (TL.w z (addW z z z) (TL.w z (fieldLoc z fo60_2 z) (TL.w z (loadLocA z ag58 sz58 z (i := 0) z z z) (TL.w z (moveStr (.inl z) z) (TL.w z (moveStr (.inl z) z) ?_)))))))))))
  have u19 := grd_c hh
  replace hh := grd_t hh
  refine TL.w z (catBs z z z u19) (TL.w z (fieldLoc z fo60_3 z) (TL.w z (loadLoc z ag9 z (i := 0) z z) ?_))
  have u22 := grd_c hh
  replace hh := grd_t hh
  refine TL.w z (catBs z z z u22) (TL.w z (fieldLoc z fo60_4 z) (TL.w z (loadLoc z ag4 z (i := 0) z z) (TL.w z (buildL z pl60 ze60 z) (TL.front 4 z z (TL.front 4 z z (TL.front 4 z z (TL.front 4 z z ?_)))))))
  obtain ⟨v26, u26, hh⟩ := bnd_e hh
  refine TL.op z (OpOk.call (rat_grow_arc_con u26) z z pf26 z z z z ?_)
  rintro _ _ _ hle159 ⟨a159_1, c159_2, a159_3, c159_4, a159_5, c159_6, rfl, rfl, rfl⟩
  refine TL.en (TC.a (TL.l z z (TL.w z (nilCheckLoc z z) (TL.w z (fieldLoc z fo79_1 z) (TL.w z (loadLoc z ag4 z (i := 0) z z) (TL.en (TC.cB z hh (fun h163 hh => ?_) (fun h163 hh => ?_))))))))
  ·refine TC.ofSub (Sub.f [3, 3, 3, 3] 4) (TC.ret (B.r (S.r (S.r ?_))))
   replace hh := fin_x hR1 hh
   refine B.r ?_
   obtain rfl := so hh
   exact ro [Res.cells b0_0 #[.int .i64 v26.f.states, .slice a159_1 v26.f.starts.length c159_2, .slice a159_3 v26.f.ends.length c159_4, .slice a159_5 v26.f.arcs.length c159_6, .bool v26.over] Eb0, Res.rowS 63 2 encTip (.slice a159_1 v26.f.starts.length c159_2) v26.f.starts, Res.rowS 63 2 encTip (.slice a159_3 v26.f.ends.length c159_4) v26.f.ends, Res.rowS 60 8 encArc (.slice a159_5 v26.f.arcs.length c159_6) v26.f.arcs] z RVs.nil ⟨a159_1, c159_2, a159_3, c159_4, a159_5, c159_6, z, z, z⟩
  ·refine TC.skip (B.n (S.n (TC.region (TL.w z (OpVal.succ z z z (by omega)) (TL.i z z (TL.en ?_))))))
   obtain ⟨hh, hlt164⟩ := nxt_x hR1 hh
   exact lf ((v26.f.states, v26.f.starts, v26.f.ends, v26.f.arcs, v26.over, (k152 + 1)), (a159_1, c159_2, a159_3, c159_4, a159_5, c159_6)) hlt164 hh (Sub.f [3, 3, 3, 3] 4)
 ·refine TC.exit (S.x (S.x ?_))
  replace hh := fin_x hR1 hh
  refine TC.exitHere ?_
  obtain rfl := so hh
  exact RetOk.mk' (rs := []) [Res.cells b0_0 #[.int .i64 i138, .slice a141 l140.length c142, .slice a145 l144.length c146, .slice a149 l148.length c150, .bool t151] Eb0, Res.rowS 63 2 encTip (.slice a141 l140.length c142) l140, Res.rowS 63 2 encTip (.slice a145 l144.length c146) l144, Res.rowS 60 8 encArc (.slice a149 l148.length c150) l148] z (.inr z) RVs.nil (List.sublist_append_left _ _) ⟨a141, c142, a145, c146, a149, c150, z, z, z⟩

noncomputable def rat_both (x0 : Fst) (x1 : Fst) : Option (Bool) :=
 bnd (fst_Check x0) (fun v5 => iteO (decide (v5 = 0)) (bnd (fst_Check x1) (fun v9 => some (decide (v9 = 0)))) (some false))
theorem rat_both_con {σ : Store} {x0 : Fst} {a0_0 : Option Addr} {c0_0 : Nat} {a0_1 : Option Addr} {c0_1 : Nat} {a0_2 : Option Addr} {c0_2 : Nat} {x1 : Fst} {a1_0 : Option Addr} {c1_0 : Nat} {a1_1 : Option Addr} {c1_1 : Nat} {a1_2 : Option Addr} {c1_2 : Nat} (f0_0 : RS σ 2 encTip (.slice a0_0 x0.starts.length c0_0) x0.starts) (f0_1 : RS σ 2 encTip (.slice a0_1 x0.ends.length c0_1) x0.ends) (f0_2 : RS σ 8 encArc (.slice a0_2 x0.arcs.length c0_2) x0.arcs) (f1_0 : RS σ 2 encTip (.slice a1_0 x1.starts.length c1_0) x1.starts) (f1_1 : RS σ 2 encTip (.slice a1_1 x1.ends.length c1_1) x1.ends) (f1_2 : RS σ 8 encArc (.slice a1_2 x1.arcs.length c1_2) x1.arcs) {r : Bool} (hh : rat_both x0 x1 = some r) :
  Con Tryd.prog 30 #[.agg #[.int .i64 x0.states, .slice a0_0 x0.starts.length c0_0, .slice a0_1 x0.ends.length c0_1, .slice a0_2 x0.arcs.length c0_2], .agg #[.int .i64 x1.states, .slice a1_0 x1.starts.length c1_0, .slice a1_1 x1.ends.length c1_1, .slice a1_2 x1.arcs.length c1_2]] σ [] (PureP (.bool r) σ) := by
 dsimp only [rat_both] at hh
 have f0_0b := f0_0.rv.big
 have f0_1b := f0_1.rv.big
 have f0_2b := f0_2.rv.big
 have f1_0b := f1_0.rv.big
 have f1_1b := f1_1.rv.big
 have f1_2b := f1_2.rv.big
 refine Con.mk (n := 13) Tryd.func30 z z z (fun w0 => ?_)
 refine TC.a (TL.op z (boxA z z z z (fun b101 => ?_)))
 refine TL.op z (boxA z z z z (fun b103 => ?_))
 refine TL.j z z (TL.en (TC.a (TL.w z (loadAll z ag31 sz31 z (i := 1) z z) ?_)))
 obtain ⟨v5, u5, hh⟩ := bnd_e hh
 refine TL.op z (callP (fst_Check_con (x0 := x0) f0_0 f0_1 f0_2 u5) z z pf18 z z z ?_)
 refine TL.w z (OpVal.eql z z z) (TL.j z z (TL.split 8 z (fun h105 => ?_) (fun h105 => ?_)))
 ·replace hh := iteO_t h105 hh
  replace h105 := of_decide_eq_true h105
  refine TL.g z (loadAll z ag31 sz31 z (i := 0) z z) ?_
  obtain ⟨v9, u9, hh⟩ := bnd_e hh
  refine TL.gon z z z z z (callP (fst_Check_con (x0 := x1) f1_0 f1_1 f1_2 u9) z z pf18 z z z ?_)
  refine TL.g z (OpVal.eql z z z) (TL.w z (pickTB z z z) (TL.j z z (TL.en (TC.rt 0 ?_))))
  obtain rfl := so hh
  exact rq [4] ⟨z, z, z⟩
 ·replace hh := iteO_f h105 hh
  replace h105 := of_decide_eq_false h105
  refine TL.f z (TL.f z (TL.f z (TL.w z (pickFB z z z) (TL.j z z (TL.en (TC.rt 0 ?_))))))
  obtain rfl := so hh
  exact rq [4] ⟨z, z, z⟩

noncomputable def rat_leaving_j1 (l118 : List (List Arc)) (x0 : Fst) (k122 : Nat) : Option (((List (List Arc)) × Nat) ⊕ ((List (List Arc)))) :=
 nxt ((l118.set (((nth x0.arcs k122 Arc.zero).frm).toNat) ((nth l118 (((nth x0.arcs k122 Arc.zero).frm).toNat) ([] : List Arc)) ++ [(nth x0.arcs k122 Arc.zero)])), (k122 + 1))
noncomputable def rat_leaving_b1 (x0 : Fst) (l118 : List (List Arc)) (k122 : Nat) : Option (((List (List Arc)) × Nat) ⊕ ((List (List Arc)))) :=
 iteO (decide (((k122 : Nat) : Int) < ((x0.arcs.length : Nat) : Int))) (grd (0 ≤ ((nth x0.arcs k122 Arc.zero).frm) ∧ ((nth x0.arcs k122 Arc.zero).frm) < (l118.length : Int)) (grd (((nth l118 (((nth x0.arcs k122 Arc.zero).frm).toNat) ([] : List Arc)).length + [(nth x0.arcs k122 Arc.zero)].length) * 72 ≤ 140737488355328) (grd (0 ≤ ((nth x0.arcs k122 Arc.zero).frm) ∧ ((nth x0.arcs k122 Arc.zero).frm) < (l118.length : Int)) (rat_leaving_j1 l118 x0 k122)))) (fin (some l118))
noncomputable def rat_leaving (x0 : Fst) : Option ((List (List Arc))) :=
 grd (0 ≤ x0.states ∧ 24 * x0.states.toNat ≤ 281474976710656) (iter (fun q : (List (List Arc)) × Nat => rat_leaving_b1 x0 q.1 q.2) ((List.replicate x0.states.toNat ([] : List Arc)), 0))
def rat_leaving_P (σ : Store) (r : (List (List Arc))) : Value → Store → List Res → Prop := fun v σ' H' =>
 ∃ (a1 : Option Addr), ∃ (c1 : Nat),  v = .slice a1 r.length c1 ∧ RZ σ' (pkSl 8 encArc encArc_len) (.slice a1 r.length c1) r ∧ H' = []
theorem rat_leaving_con {σ : Store} {x0 : Fst} {a0_0 : Option Addr} {c0_0 : Nat} {a0_1 : Option Addr} {c0_1 : Nat} {a0_2 : Option Addr} {c0_2 : Nat} (f0_0 : RS σ 2 encTip (.slice a0_0 x0.starts.length c0_0) x0.starts) (f0_1 : RS σ 2 encTip (.slice a0_1 x0.ends.length c0_1) x0.ends) (f0_2 : RS σ 8 encArc (.slice a0_2 x0.arcs.length c0_2) x0.arcs) {r : (List (List Arc))} (hh : rat_leaving x0 = some r) :
  Con Tryd.prog 35 #[.agg #[.int .i64 x0.states, .slice a0_0 x0.starts.length c0_0, .slice a0_1 x0.ends.length c0_1, .slice a0_2 x0.arcs.length c0_2]] σ [] (rat_leaving_P σ r) := by
 dsimp only [rat_leaving] at hh
 have f0_0b := f0_0.rv.big
 have f0_1b := f0_1.rv.big
 have f0_2b := f0_2.rv.big
 refine Con.mk (n := 30) Tryd.func35 z z z (fun w0 => ?_)
 refine TC.a (TL.op z (boxA z z z z (fun b101 => ?_)))
 refine TL.s z z (TL.en (TC.a (TL.w z (fieldLoc z fo31_0 z) (TL.w z (loadLoc z ag3 z (i := 0) z z) ?_))))
 have u5 := grd_c hh
 replace hh := grd_t hh
 refine TL.op rfl (makeN (q := x0.states.toNat) (E := 60) (size := 8) (enc := encArc) rfl underlying55 sz29 by29 ze29 rfl rfl (by show Value.int _ _ = _; rw [Int.toNat_of_nonneg u5.1]) (by show Value.int _ _ = _; rw [Int.toNat_of_nonneg u5.1]) (by omega) (by decide) rfl (fun a103 c104 zf105 => ?_))
 refine TL.s z z (TL.en (TC.seq (TC.a (TL.w z (fieldLoc z fo31_3 z) (TL.w z (loadLoc z ag29 z (i := 1) z z) (TL.w z (lenC z underlying29 z) (TL.i z z (TL.en (TC.block (TC.loopG (α := ((List (List Arc)) × Nat) × ((List (NP Arc)))) (rgs [(5, 1), (12, 17)]) (fun g => [(12, .int .i64 ((g.1.2 : Nat) : Int))]) (fun g => [Res.nest 29 60 8 encArc (.slice a103 (List.replicate x0.states.toNat ([] : List Arc)).length c104) g.2]) (fun g => σ) (fun g => iter (fun q : (List (List Arc)) × Nat => rat_leaving_b1 x0 q.1 q.2) g.1 = some r ∧ g.1.1.length = (List.replicate x0.states.toNat ([] : List Arc)).length ∧ Zn g.2 g.1.1) (fun g => rounds (fun q : (List (List Arc)) × Nat => rat_leaving_b1 x0 q.1 q.2) g.1) (((List.replicate x0.states.toNat ([] : List Arc)), 0), (List.replicate x0.states.toNat (nilN : NP Arc))) (Sub.pre 1 z) z (by repeat (first | exact trivial | refine ⟨z, ?_⟩)) ⟨hh, z, zf105⟩ (fun g1 j1 hg1 => ?_)))))))))))
 obtain ⟨⟨l118, k122⟩, z120⟩ := g1
 obtain ⟨hh, hn119, zf121⟩ := hg1
 try dsimp only at hn119 zf121 ⊢
 obtain ⟨z1, hh, hR1⟩ := iter_e hh
 dsimp only [rat_leaving_b1] at hh
 have hn119b := hn119
 have zf121b := zf121.len
 refine TC.know (isSl_nest (q := 0) z zf121) (fun ⟨_, hb123⟩ => ?_)
 refine TC.a (TL.w z (OpVal.lss z z z) (TL.en (TC.seq (TC.cD z hh (fun h124 hh => ?_) (fun h124 hh => ?_)))))
 ·refine TC.skip (S.n (TC.cutG (α := (Unit) × ((List (NP Arc)))) (rgs [(5, 1), (14, 14)]) (fun g => []) (fun g => [Res.nest 29 60 8 encArc (.slice a103 (List.replicate x0.states.toNat ([] : List Arc)).length c104) g.2]) (fun g => σ) (fun g => rat_leaving_j1 l118 x0 k122 = some z1 ∧ (l118.set (((nth x0.arcs k122 Arc.zero).frm).toNat) ((nth l118 (((nth x0.arcs k122 Arc.zero).frm).toNat) ([] : List Arc)) ++ [(nth x0.arcs k122 Arc.zero)])).length = (List.replicate x0.states.toNat ([] : List Arc)).length ∧ Zn g.2 (l118.set (((nth x0.arcs k122 Arc.zero).frm).toNat) ((nth l118 (((nth x0.arcs k122 Arc.zero).frm).toNat) ([] : List Arc)) ++ [(nth x0.arcs k122 Arc.zero)]))) ?_ (fun g j hg => ?_)))
  ·skip
   refine TC.block (TC.a (TL.w z (indexN z underlying29 sz60 z z f0_2.rv.sl (by omega)) (TL.w z (loadSA Arc.zero z ag60 sz60 z f0_2 (by omega) (by omega)) (TL.op z (OpOk.alloc z ze60 z z (fun b128 => ?_))))))
   refine TL.op z (storeAll z sz60 z z z z z z ?_)
   refine TL.en ?_
   have u22 := grd_c hh
   replace hh := grd_t hh
   have u26 := grd_c hh
   replace hh := grd_t hh
   have u27 := grd_c hh
   replace hh := grd_t hh
   refine TC.drawR (Hr := [Res.cells b128 #[.int .i64 ((nth x0.arcs k122 Arc.zero).frm), .int .i64 ((nth x0.arcs k122 Arc.zero).to), .int .u64 ((((nth x0.arcs k122 Arc.zero).set).a : Nat) : Int), .int .u64 ((((nth x0.arcs k122 Arc.zero).set).b : Nat) : Int), .int .u64 ((((nth x0.arcs k122 Arc.zero).set).c : Nat) : Int), .int .u64 ((((nth x0.arcs k122 Arc.zero).set).d : Nat) : Int), .string (bs ((nth x0.arcs k122 Arc.zero).out)), .bool ((nth x0.arcs k122 Arc.zero).copy)] 60]) (fun r hr => mem_pick [0] z hr) [] (by kernel_rfl) (TA.a 0 z (moveSl (.inl z) z) z (TA.a 1 z (fieldLoc z fo60_0 z) z (TA.b 2 z (loadLoc z ag3 z (i := 0) z z) z (TA.a 3 z (moveSl (.inl z) z) z (TA.a 4 z (fieldLoc z fo60_0 z) z (TA.b 5 z (loadLoc z ag3 z (i := 0) z z) z (TA.know (isSl_nest (q := 1) z zf121) (fun ⟨hs141, hs141b⟩ => ?_))))))))
   refine TA.b 6 z (OpVal.index z underlying55 sz29 z z hs141 u22.1 u22.2) z (TA.b 8 z (loadAll z ag60 sz60 z (i := 0) z z) z ?_)
   obtain ⟨p142, hz142, hm142⟩ := Zn.at zf121 (i := ((nth x0.arcs k122 Arc.zero).frm).toNat) (by omega)
   refine TA.actN [7, 9] (by kernel_rfl) (an z z (OpVal.ok (loadN z ag29 z (q := 1) z hz142 hm142) z z ⟨(fun w h => sees_of (Store.le.refl _) (fun r hr => mem_pick [0] z hr) w h), ?_⟩) (an z z (OpOk.lit (enc := encArc) [(nth x0.arcs k122 Arc.zero)] z underlying29 sz60 ze60 z z z encArc_len (by decide) (by decide) Arc.zero z (by decide) z (by decide) encArc_one (fun a143 c144 => ⟨(fun w h => sees_of (Store.le.refl _) (fun r hr => mem_pick [1] z hr) w h), ?_⟩)) (True.intro)))
   ·skip
    refine TA.ac 9 z (OpOk.lit (enc := encArc) [(nth x0.arcs k122 Arc.zero)] z underlying29 sz60 ze60 z z z encArc_len (by decide) (by decide) Arc.zero z (by decide) z (by decide) encArc_one (fun a146 c147 => ⟨(fun w h => sees_of (Store.le.refl _) (fun r hr => mem_pick [1] z hr) w h), ?_⟩))
    refine TA.front 2 z z (TA.by (fun w h => Reach.takeN hz142 hm142 h) (TA.ac 10 z (appendS z z underlying29 sz60 by60 ze60 z z (by decide) z z z (.inr ⟨_, 1, z⟩) (by simpa using u26) (by decide) (fun a150 c151 => (k3 ?_)))))
    refine TA.know (isSl_nestX (q := 1) z zf121) (fun ⟨hs152, hs152b⟩ => ?_)
    refine TA.b 11 z (OpVal.index z underlying55 sz29 z z hs152 u27.1 u27.2) z (TA.front 1 z z (TA.front 1 z z ?_))
    have hn154 : (l118.set (((nth x0.arcs k122 Arc.zero).frm).toNat) ((nth l118 (((nth x0.arcs k122 Arc.zero).frm).toNat) ([] : List Arc)) ++ [(nth x0.arcs k122 Arc.zero)])).length = (List.replicate x0.states.toNat ([] : List Arc)).length := (List.length_set ..).trans hn119
    refine TA.ac 12 rfl (storeX (l' := ((nth l118 (((nth x0.arcs k122 Arc.zero).frm).toNat) ([] : List Arc)) ++ [(nth x0.arcs k122 Arc.zero)])) rfl sz29 rfl rfl rfl rfl rfl (by rw [zf121.len]; omega) zf121 (fun zf153 => (k2 ?_)))
    exact TA.dn (B.n (S.n (cf ((), (z120.set (((nth x0.arcs k122 Arc.zero).frm).toNat) (((nth l118 (((nth x0.arcs k122 Arc.zero).frm).toNat) ([] : List Arc)) ++ [(nth x0.arcs k122 Arc.zero)]), (a150, c151)))) ⟨hh, hn154, zf153⟩ (Sub.pre 1 z))))
   ·skip
    obtain ⟨p155, hz155, hm155⟩ := Zn.at zf121 (i := ((nth x0.arcs k122 Arc.zero).frm).toNat) (by omega)
    refine TA.ac 7 z (OpVal.ok (loadN z ag29 z (q := 2) z hz155 hm155) z z ⟨(fun w h => sees_of (Store.le.refl _) (fun r hr => mem_pick [1] z hr) w h), ?_⟩)
    refine TA.front 2 z z (TA.by (fun w h => Reach.takeN hz155 hm155 h) (TA.ac 10 z (appendS z z underlying29 sz60 by60 ze60 z z (by decide) z z z (.inr ⟨_, 1, z⟩) (by simpa using u26) (by decide) (fun a157 c158 => (k3 ?_)))))
    refine TA.know (isSl_nestX (q := 1) z zf121) (fun ⟨hs159, hs159b⟩ => ?_)
    refine TA.b 11 z (OpVal.index z underlying55 sz29 z z hs159 u27.1 u27.2) z (TA.front 1 z z (TA.front 1 z z ?_))
    have hn161 : (l118.set (((nth x0.arcs k122 Arc.zero).frm).toNat) ((nth l118 (((nth x0.arcs k122 Arc.zero).frm).toNat) ([] : List Arc)) ++ [(nth x0.arcs k122 Arc.zero)])).length = (List.replicate x0.states.toNat ([] : List Arc)).length := (List.length_set ..).trans hn119
    refine TA.ac 12 rfl (storeX (l' := ((nth l118 (((nth x0.arcs k122 Arc.zero).frm).toNat) ([] : List Arc)) ++ [(nth x0.arcs k122 Arc.zero)])) rfl sz29 rfl rfl rfl rfl rfl (by rw [zf121.len]; omega) zf121 (fun zf160 => (k2 ?_)))
    exact TA.dn (B.n (S.n (cf ((), (z120.set (((nth x0.arcs k122 Arc.zero).frm).toNat) (((nth l118 (((nth x0.arcs k122 Arc.zero).frm).toNat) ([] : List Arc)) ++ [(nth x0.arcs k122 Arc.zero)]), (a157, c158)))) ⟨hh, hn161, zf160⟩ (Sub.pre 1 z))))
  ·skip
   obtain ⟨_, z126⟩ := g
   obtain ⟨hh, hn125, zf127⟩ := hg
   try dsimp only at hn125 zf127 ⊢
   dsimp only [rat_leaving_j1] at hh
   have hn125b := hn125
   have zf127b := zf127.len
   refine TC.know (isSl_nest (q := 0) z zf127) (fun ⟨_, hb162⟩ => ?_)
   refine TC.region (TL.w z (OpVal.succ z z z (by omega)) (TL.i z z (TL.en ?_)))
   obtain ⟨hh, hlt163⟩ := nxt_x hR1 hh
   exact lf (((l118.set (((nth x0.arcs k122 Arc.zero).frm).toNat) ((nth l118 (((nth x0.arcs k122 Arc.zero).frm).toNat) ([] : List Arc)) ++ [(nth x0.arcs k122 Arc.zero)])), (k122 + 1)), z126) hlt163 ⟨hh, hn125, zf127⟩ (Sub.pre 1 z)
 ·refine TC.exit (S.x (S.x ?_))
  replace hh := fin_x hR1 hh
  refine TC.exitHere (S.n (TC.a (TL.s z z (TL.s z z (TL.en ?_)))))
  rw [← hn119]
  refine TC.seals (fun w h => Reach.sealNest encArc_len zf121 h) (fun τ166 hle165 hr164 => ?_)
  have hr164b := hr164.big
  refine TC.ret ?_
  obtain rfl := so hh
  exact rq [2] ⟨a103, c104, z, hr164, z⟩

noncomputable def rat_Alt (x0 : Fst) (x1 : Fst) : Option (Fst × Int) :=
 bnd (rat_both x0 x1) (fun v7 => iteO (!v7) (some ((⟨0, ([] : List Tip), ([] : List Tip), ([] : List Arc)⟩ : Fst), 1)) (bnd (rat_grow_starts (⟨(⟨IntKind.i64.wrap (x0.states + x1.states), ([] : List Tip), ([] : List Tip), ([] : List Arc)⟩ : Fst), false⟩ : Grow) x0.starts 0) (fun v30 => bnd (rat_grow_starts (⟨(⟨v30.f.states, v30.f.starts, v30.f.ends, v30.f.arcs⟩ : Fst), v30.over⟩ : Grow) x1.starts x0.states) (fun v36 => bnd (rat_grow_ends (⟨(⟨v36.f.states, v36.f.starts, v36.f.ends, v36.f.arcs⟩ : Fst), v36.over⟩ : Grow) x0.ends 0) (fun v40 => bnd (rat_grow_ends (⟨(⟨v40.f.states, v40.f.starts, v40.f.ends, v40.f.arcs⟩ : Fst), v40.over⟩ : Grow) x1.ends x0.states) (fun v46 => bnd (rat_grow_arcs (⟨(⟨v46.f.states, v46.f.starts, v46.f.ends, v46.f.arcs⟩ : Fst), v46.over⟩ : Grow) x0.arcs 0) (fun v50 => bnd (rat_grow_arcs (⟨(⟨v50.f.states, v50.f.starts, v50.f.ends, v50.f.arcs⟩ : Fst), v50.over⟩ : Grow) x1.arcs x0.states) (fun v56 => bnd (rat_grow_look (⟨(⟨v56.f.states, v56.f.starts, v56.f.ends, v56.f.arcs⟩ : Fst), v56.over⟩ : Grow)) (fun v57 => some ((⟨v57.1.states, v57.1.starts, v57.1.ends, v57.1.arcs⟩ : Fst), v57.2))))))))))
def rat_Alt_P (σ : Store) (r : Fst × Int) : Value → Store → List Res → Prop := fun v σ' H' =>
 ∃ (a1 : Option Addr), ∃ (c1 : Nat), ∃ (a2 : Option Addr), ∃ (c2 : Nat), ∃ (a3 : Option Addr), ∃ (c3 : Nat),  v = .tuple #[.agg #[.int .i64 r.1.states, .slice a1 r.1.starts.length c1, .slice a2 r.1.ends.length c2, .slice a3 r.1.arcs.length c3], .int .i64 r.2] ∧ RS σ' 2 encTip (.slice a1 r.1.starts.length c1) r.1.starts ∧ RS σ' 2 encTip (.slice a2 r.1.ends.length c2) r.1.ends ∧ RS σ' 8 encArc (.slice a3 r.1.arcs.length c3) r.1.arcs ∧ H' = []
theorem rat_Alt_con {σ : Store} {x0 : Fst} {a0_0 : Option Addr} {c0_0 : Nat} {a0_1 : Option Addr} {c0_1 : Nat} {a0_2 : Option Addr} {c0_2 : Nat} {x1 : Fst} {a1_0 : Option Addr} {c1_0 : Nat} {a1_1 : Option Addr} {c1_1 : Nat} {a1_2 : Option Addr} {c1_2 : Nat} (f0_0 : RS σ 2 encTip (.slice a0_0 x0.starts.length c0_0) x0.starts) (f0_1 : RS σ 2 encTip (.slice a0_1 x0.ends.length c0_1) x0.ends) (f0_2 : RS σ 8 encArc (.slice a0_2 x0.arcs.length c0_2) x0.arcs) (f1_0 : RS σ 2 encTip (.slice a1_0 x1.starts.length c1_0) x1.starts) (f1_1 : RS σ 2 encTip (.slice a1_1 x1.ends.length c1_1) x1.ends) (f1_2 : RS σ 8 encArc (.slice a1_2 x1.arcs.length c1_2) x1.arcs) {r : Fst × Int} (hh : rat_Alt x0 x1 = some r) :
  Con Tryd.prog 15 #[.agg #[.int .i64 x0.states, .slice a0_0 x0.starts.length c0_0, .slice a0_1 x0.ends.length c0_1, .slice a0_2 x0.arcs.length c0_2], .agg #[.int .i64 x1.states, .slice a1_0 x1.starts.length c1_0, .slice a1_1 x1.ends.length c1_1, .slice a1_2 x1.arcs.length c1_2]] σ [] (rat_Alt_P σ r) := by
 dsimp only [rat_Alt] at hh
 have f0_0b := f0_0.rv.big
 have f0_1b := f0_1.rv.big
 have f0_2b := f0_2.rv.big
 have f1_0b := f1_0.rv.big
 have f1_1b := f1_1.rv.big
 have f1_2b := f1_2.rv.big
 refine Con.mkD (n := 54) Tryd.func15 z z z (fun w0 => ?_)
 refine TB.seq endR_ret (TC.region (TL.op z (boxA z z z z (fun b101 => ?_))))
 refine TL.op z (boxA z z z z (fun b103 => ?_))
 refine TL.op z (OpOk.alloc z ze31 z z (fun b105 => ?_))
 refine TL.op z (OpOk.alloc z ze32 z z (fun b107 => ?_))
 refine TL.en (TB.seq endR_ret (TC.a (TL.w z (loadAll z ag31 sz31 z (i := 3) z z) (TL.w z (loadAll z ag31 sz31 z (i := 2) z z) ?_))))
 obtain ⟨v7, u7, hh⟩ := bnd_e hh
 refine TL.op z (callP (rat_both_con (x0 := x0) (x1 := x1) f0_0 f0_1 f0_2 f1_0 f1_1 f1_2 u7) z z pf30 z z z ?_)
 refine TL.w z (OpVal.not z z) (TL.en (TC.cB z hh (fun h109 hh => ?_) (fun h109 hh => ?_)))
 ·refine TC.a (TL.w z (buildL z pl31 ze31 z) (TL.front 1 z z (TL.op z (storeAll z sz31 z z z z z z ?_))))
  refine TL.front 1 z z (TL.op z (storeI z sz32 z z z z z ?_))
  refine TL.en (TC.ofSub (Sub.f [1] 2) (TC.ret (S.r ?_)))
  obtain rfl := so hh
  exact ro [] z (RVs.agg ag31 sz31 z (i := 0) z z (RVs.one ag32 z (i := 1) z z RVs.nil)) ⟨none, 0, none, 0, none, 0, z, (RS.nilF _ encTip encTip_len), (RS.nilF _ encTip encTip_len), (RS.nilF _ encArc encArc_len), z⟩
 ·refine TC.skip (S.n (TB.seq endR_ret (TC.region (TL.w z (buildL z pl79 ze79 z) (TL.op z (boxA z z z z (fun b110 => ?_)))))))
  refine TL.l z z (TL.en (TB.seqD (TLB.v z (moveLoc (.inl z) z) z z (TLB.dfr (dargs := [loc b110 0, loc b105 0, loc b107 0]) z z z z z (fun a_ w_ hw_ ha_ => ?_)))))
  refine TB.fin (Q := dfrQ _ _ _ _ 23 [loc b110 0, loc b105 0, loc b107 0]) (endR_dfr (cap := []) (dargs := [loc b110 0, loc b105 0, loc b107 0]) pf23) ?_ w_ a_ hw_ ha_
  clear hw_ ha_ a_ w_
  refine TC.a (TL.l z z (TL.w z (fieldLoc z fo31_0 z) (TL.w z (loadLoc z ag3 z (i := 4) z z) (TL.w z (fieldLoc z fo31_0 z) (TL.w z (loadLoc z ag3 z (i := 3) z z) (TL.w z (addW z z z) (TL.w z (nilCheckLoc z z) (TL.w z (fieldLoc z fo79_0 z) (TL.w z (fieldLoc z fo31_0 z) (TL.op z (storeI z sz3 z z z z z ?_)))))))))))
  refine TL.en (TC.a (TL.l z z (TL.w z (fieldLoc z fo31_1 z) (TL.w z (loadLoc z ag28 z (i := 4) z z) (TL.nilS 63 2 encTip (TL.nilS 63 2 encTip (TL.nilS 60 8 encArc (TL.front 1 z z (TL.front 2 z z (TL.front 3 z z ?_))))))))))
  obtain ⟨v30, u30, hh⟩ := bnd_e hh
  refine TL.op z (OpOk.call (rat_grow_starts_con f0_0 u30) z z pf31 z z z z ?_)
  rintro _ _ _ hle115 ⟨a115_1, c115_2, a115_3, c115_4, a115_5, c115_6, rfl, rfl, rfl⟩
  refine TL.en (TC.a (TL.l z z (TL.w z (fieldLoc z fo31_1 z) (TL.w z (loadLoc z ag28 z (i := 6) z z) (TL.w z (fieldLoc z fo31_0 z) (TL.w z (loadLoc z ag3 z (i := 7) z z) (TL.front 3 z z (TL.front 3 z z (TL.front 3 z z (TL.front 3 z z ?_))))))))))
  obtain ⟨v36, u36, hh⟩ := bnd_e hh
  refine TL.op z (OpOk.call (rat_grow_starts_con f1_0 u36) z z pf31 z z z z ?_)
  rintro _ _ _ hle119 ⟨a119_1, c119_2, a119_3, c119_4, a119_5, c119_6, rfl, rfl, rfl⟩
  refine TL.en (TC.a (TL.l z z (TL.w z (fieldLoc z fo31_2 z) (TL.w z (loadLoc z ag28 z (i := 7) z z) (TL.front 3 z z (TL.front 3 z z (TL.front 3 z z (TL.front 3 z z ?_))))))))
  obtain ⟨v40, u40, hh⟩ := bnd_e hh
  refine TL.op z (OpOk.call (rat_grow_ends_con f0_1 u40) z z pf32 z z z z ?_)
  rintro _ _ _ hle123 ⟨a123_1, c123_2, a123_3, c123_4, a123_5, c123_6, rfl, rfl, rfl⟩
  refine TL.en (TC.a (TL.l z z (TL.w z (fieldLoc z fo31_2 z) (TL.w z (loadLoc z ag28 z (i := 6) z z) (TL.w z (fieldLoc z fo31_0 z) (TL.w z (loadLoc z ag3 z (i := 7) z z) (TL.front 3 z z (TL.front 3 z z (TL.front 3 z z (TL.front 3 z z ?_))))))))))
  obtain ⟨v46, u46, hh⟩ := bnd_e hh
  refine TL.op z (OpOk.call (rat_grow_ends_con f1_1 u46) z z pf32 z z z z ?_)
  rintro _ _ _ hle127 ⟨a127_1, c127_2, a127_3, c127_4, a127_5, c127_6, rfl, rfl, rfl⟩
  refine TL.en (TC.a (TL.l z z (TL.w z (fieldLoc z fo31_3 z) (TL.w z (loadLoc z ag29 z (i := 7) z z) (TL.front 3 z z (TL.front 3 z z (TL.front 3 z z (TL.front 3 z z ?_))))))))
  obtain ⟨v50, u50, hh⟩ := bnd_e hh
  refine TL.op z (OpOk.call (rat_grow_arcs_con f0_2 u50) z z pf33 z z z z ?_)
  rintro _ _ _ hle131 ⟨a131_1, c131_2, a131_3, c131_4, a131_5, c131_6, rfl, rfl, rfl⟩
  refine TL.en (TC.a (TL.l z z (TL.w z (fieldLoc z fo31_3 z) (TL.w z (loadLoc z ag29 z (i := 6) z z) (TL.w z (fieldLoc z fo31_0 z) (TL.w z (loadLoc z ag3 z (i := 7) z z) (TL.front 3 z z (TL.front 3 z z (TL.front 3 z z (TL.front 3 z z ?_))))))))))
  obtain ⟨v56, u56, hh⟩ := bnd_e hh
  refine TL.op z (OpOk.call (rat_grow_arcs_con f1_2 u56) z z pf33 z z z z ?_)
  rintro _ _ _ hle135 ⟨a135_1, c135_2, a135_3, c135_4, a135_5, c135_6, rfl, rfl, rfl⟩
  refine TL.en (TC.front 4 z z (TC.front 5 z z (TC.front 5 z z (TC.front 5 z z (TC.front 5 z z (TC.front 5 z z ?_))))))
  obtain ⟨v57, u57, hh⟩ := bnd_e hh
  refine TC.ret (⟨.inl z, _, Sub.pre 6 z, (rat_grow_look_con u57).mono ?_⟩)
  rintro _ τ139 _ hle139 ⟨a139_1, c139_2, a139_4, c139_5, a139_7, c139_8, rfl, f139_3, f139_6, f139_9, rfl⟩
  have f139_3b := f139_3.rv.big
  have f139_6b := f139_6.rv.big
  have f139_9b := f139_9.rv.big
  obtain rfl := so hh
  exact RetOk.mk' (rs := [.cell 4 31, .cell 5 32]) [] z (.inl z) (RVs.agg ag31 sz31 z (i := 0) z z (RVs.one ag32 z (i := 1) z z RVs.nil)) (List.nil_sublist _) ⟨a139_1, c139_2, a139_4, c139_5, a139_7, c139_8, z, f139_3, f139_6, f139_9, z⟩

noncomputable def rat_free_j1 (k111 : Nat) : Option ((Nat) ⊕ ((Nat) ⊕ (Bool))) :=
 nxt (k111 + 1)
noncomputable def rat_free_b2 (x0 : Fst) (k105 : Nat) (k111 : Nat) : Option ((Nat) ⊕ ((Nat) ⊕ (Bool))) :=
 iteO (decide (((k111 : Nat) : Int) < ((x0.ends.length : Nat) : Int))) (iteO (decide (((nth x0.starts k105 Tip.zero).state) = ((nth x0.ends k111 Tip.zero).state))) (iteO (decide ((nth x0.starts k105 Tip.zero).out ≠ ([] : List UInt8))) (fin (fin (some true))) (iteO (decide ((nth x0.ends k111 Tip.zero).out ≠ ([] : List UInt8))) (fin (fin (some true))) (rat_free_j1 k111))) (rat_free_j1 k111)) (fin (nxt (k105 + 1)))
noncomputable def rat_free_b1 (x0 : Fst) (k105 : Nat) : Option ((Nat) ⊕ (Bool)) :=
 iteO (decide (((k105 : Nat) : Int) < ((x0.starts.length : Nat) : Int))) (iter (fun q : Nat => rat_free_b2 x0 k105 q) 0) (fin (some false))
noncomputable def rat_free (x0 : Fst) : Option (Bool) :=
 iter (fun q : Nat => rat_free_b1 x0 q) 0
theorem rat_free_con {σ : Store} {x0 : Fst} {a0_0 : Option Addr} {c0_0 : Nat} {a0_1 : Option Addr} {c0_1 : Nat} {a0_2 : Option Addr} {c0_2 : Nat} (f0_0 : RS σ 2 encTip (.slice a0_0 x0.starts.length c0_0) x0.starts) (f0_1 : RS σ 2 encTip (.slice a0_1 x0.ends.length c0_1) x0.ends) (f0_2 : RS σ 8 encArc (.slice a0_2 x0.arcs.length c0_2) x0.arcs) {r : Bool} (hh : rat_free x0 = some r) :
  Con Tryd.prog 34 #[.agg #[.int .i64 x0.states, .slice a0_0 x0.starts.length c0_0, .slice a0_1 x0.ends.length c0_1, .slice a0_2 x0.arcs.length c0_2]] σ [] (PureP (.bool r) σ) := by
 dsimp only [rat_free] at hh
 have f0_0b := f0_0.rv.big
 have f0_1b := f0_1.rv.big
 have f0_2b := f0_2.rv.big
 refine Con.mk (n := 38) Tryd.func34 z z z (fun w0 => ?_)
 refine TC.a (TL.op z (boxA z z z z (fun b101 => ?_)))
 refine TL.j z z (TL.en (TC.seq (TC.a (TL.w z (fieldLoc z fo31_1 z) (TL.w z (loadLoc z ag28 z (i := 0) z z) (TL.w z (lenC z underlying28 z) (TL.i z z (TL.en (TC.block (TC.loopG (α := (Nat) × (Unit)) (rgs [(2, 1), (4, 1), (6, 1), (10, 28)]) (fun g => [(10, .int .i64 ((g.1 : Nat) : Int))]) (fun g => [Res.cells b101 #[.int .i64 x0.states, .slice a0_0 x0.starts.length c0_0, .slice a0_1 x0.ends.length c0_1, .slice a0_2 x0.arcs.length c0_2] 31]) (fun g => σ) (fun g => iter (fun q : Nat => rat_free_b1 x0 q) g.1 = some r) (fun g => rounds (fun q : Nat => rat_free_b1 x0 q) g.1) (0, ()) (Sub.pre 1 z) z (by repeat (first | exact trivial | refine ⟨z, ?_⟩)) hh (fun g1 j1 hg1 => ?_)))))))))))
 obtain ⟨k105, _⟩ := g1
 have hh := hg1; clear hg1
 try dsimp only
 obtain ⟨z1, hh, hR1⟩ := iter_e hh
 dsimp only [rat_free_b1] at hh
 refine TC.a (TL.w z (OpVal.lss z z z) (TL.en (TC.seq (TC.cD z hh (fun h106 hh => ?_) (fun h106 hh => ?_)))))
 ·refine TC.skip (S.n (TC.seq (TC.block (TC.a (TL.w z (indexN z underlying28 sz63 z z f0_0.rv.sl (by omega)) (TL.w z (loadSA Tip.zero z ag63 sz63 z f0_0 (by omega) (by omega)) (TL.op z (OpOk.alloc z ze63 z z (fun b107 => ?_)))))))))
  refine TL.op z (storeAll z sz63 z z z z z z ?_)
  refine TL.en (TC.a (TL.w z (fieldLoc z fo31_2 z) (TL.w z (loadLoc z ag28 z (i := 1) z z) (TL.w z (lenC z underlying28 z) (TL.i z z (TL.en (TC.block (TC.loopG (α := (Nat) × (Unit)) (rgs [(2, 1), (6, 1), (17, 20)]) (fun g => [(17, .int .i64 ((g.1 : Nat) : Int))]) (fun g => [Res.cells b101 #[.int .i64 x0.states, .slice a0_0 x0.starts.length c0_0, .slice a0_1 x0.ends.length c0_1, .slice a0_2 x0.arcs.length c0_2] 31, Res.cells b107 #[.int .i64 ((nth x0.starts k105 Tip.zero).state), .string (bs ((nth x0.starts k105 Tip.zero).out))] 63]) (fun g => σ) (fun g => iter (fun q : Nat => rat_free_b2 x0 k105 q) g.1 = some z1) (fun g => rounds (fun q : Nat => rat_free_b2 x0 k105 q) g.1) (0, ()) (Sub.f [1] 2) z (by repeat (first | exact trivial | refine ⟨z, ?_⟩)) hh (fun g2 j2 hg2 => ?_)))))))))
  obtain ⟨k111, _⟩ := g2
  have hh := hg2; clear hg2
  try dsimp only
  obtain ⟨z2, hh, hR2⟩ := iter_e hh
  dsimp only [rat_free_b2] at hh
  refine TC.a (TL.w z (OpVal.lss z z z) (TL.en (TC.seq (TC.cD z hh (fun h112 hh => ?_) (fun h112 hh => ?_)))))
  ·refine TC.skip (S.n (TC.cutG (α := (Unit) × (Unit)) (rgs [(2, 1), (6, 1), (19, 17)]) (fun g => []) (fun g => [Res.cells b101 #[.int .i64 x0.states, .slice a0_0 x0.starts.length c0_0, .slice a0_1 x0.ends.length c0_1, .slice a0_2 x0.arcs.length c0_2] 31, Res.cells b107 #[.int .i64 ((nth x0.starts k105 Tip.zero).state), .string (bs ((nth x0.starts k105 Tip.zero).out))] 63]) (fun g => σ) (fun g => rat_free_j1 k111 = some z2) ?_ (fun g j hg => ?_)))
   ·skip
    refine TC.block (TC.a (TL.w z (indexN z underlying28 sz63 z z f0_1.rv.sl (by omega)) (TL.w z (loadSA Tip.zero z ag63 sz63 z f0_1 (by omega) (by omega)) (TL.op z (OpOk.alloc z ze63 z z (fun b113 => ?_))))))
    refine TL.op z (storeAll z sz63 z z z z z z ?_)
    refine TL.en (TC.a (TL.w z (fieldLoc z fo63_0 z) (TL.w z (loadLoc z ag3 z (i := 2) z z) (TL.w z (fieldLoc z fo63_0 z) (TL.w z (loadLoc z ag3 z (i := 0) z z) (TL.w z (OpVal.eql z z z) (TL.j z z (TL.split 26 z (fun h115 => ?_) (fun h115 => ?_)))))))))
    ·replace hh := iteO_t h115 hh
     replace h115 := of_decide_eq_true h115
     refine TL.g z (fieldLoc z fo63_1 z) (TL.g z (loadLoc z ag9 z (i := 2) z z) (TL.g z (neqBs z z z) (TL.g z (moveB (.inl z) z) (TL.split 30 z (fun h116 => ?_) (fun h116 => ?_)))))
     ·replace hh := iteO_t h116 hh
      replace h116 := of_decide_eq_true h116
      refine TL.f z (TL.f z (TL.f z (TL.g z (pickTB z z z) (TL.w z (pickTB z z z) (TL.en (TC.t z (TC.a (TL.j z z (TL.en (TC.rt 0 (B.r (S.r (S.r ?_)))))))))))))
      replace hh := fin_x hR2 hh
      refine B.r (B.r (S.r (S.r ?_)))
      replace hh := fin_x hR1 hh
      refine B.r (S.r ?_)
      obtain rfl := so hh
      exact rq [2] ⟨z, z, z⟩
     ·replace hh := iteO_f h116 hh
      replace h116 := of_decide_eq_false h116
      refine TL.g z (fieldLoc z fo63_1 z) (TL.g z (loadLoc z ag9 z (i := 0) z z) (TL.g z (neqBs z z z) (TL.g z (pickFB z z z) (TL.w z (pickTB z z z) (TL.en (TC.cD z hh (fun h117 hh => ?_) (fun h117 hh => ?_)))))))
      ·refine TC.a (TL.j z z (TL.en (TC.rt 0 (B.r (S.r (S.r ?_))))))
       replace hh := fin_x hR2 hh
       refine B.r (B.r (S.r (S.r ?_)))
       replace hh := fin_x hR1 hh
       refine B.r (S.r ?_)
       obtain rfl := so hh
       exact rq [2] ⟨z, z, z⟩
      ·exact TC.skip (B.n (S.n (cf ((), ()) hh (Sub.f [2, 2] 2))))
    ·replace hh := iteO_f h115 hh
     replace h115 := of_decide_eq_false h115
     exact TL.f z (TL.f z (TL.f z (TL.f z (TL.f z (TL.f z (TL.f z (TL.f z (TL.w z (pickFB z z z) (TL.en (TC.f z (TC.skip (B.n (S.n (cf ((), ()) hh (Sub.f [2, 2] 2)))))))))))))))
   ·skip
    obtain ⟨_, _⟩ := g
    have hh := hg; clear hg
    try dsimp only
    dsimp only [rat_free_j1] at hh
    refine TC.region (TL.w z (OpVal.succ z z z (by omega)) (TL.i z z (TL.en ?_)))
    obtain ⟨hh, hlt118⟩ := nxt_x hR2 hh
    exact lf ((k111 + 1), ()) hlt118 hh (Sub.f [1, 1] 2)
  ·refine TC.exit (S.x (S.x ?_))
   replace hh := fin_x hR2 hh
   refine TC.exitHere (B.n (S.n (TC.region (TL.w z (OpVal.succ z z z (by omega)) (TL.i z z (TL.en ?_))))))
   obtain ⟨hh, hlt119⟩ := nxt_x hR1 hh
   exact lf ((k105 + 1), ()) hlt119 hh (Sub.pre 1 z)
 ·refine TC.exit (S.x (S.x ?_))
  replace hh := fin_x hR1 hh
  refine TC.exitHere (S.n (TC.a (TL.j z z (TL.en (TC.rt 0 ?_)))))
  obtain rfl := so hh
  exact rq [2] ⟨z, z, z⟩

noncomputable def rat_Star_b3 (x0 : Fst) (v47 : (List (List Arc))) (k237 : Nat) (i274 : Int) (l276 : List Tip) (l280 : List Tip) (l284 : List Arc) (t287 : Bool) (k288 : Nat) : Option ((Int × (List Tip) × (List Tip) × (List Arc) × Bool × Nat) ⊕ ((Int × (List Tip) × (List Tip) × (List Arc) × Bool × Nat) ⊕ (Fst × Int))) :=
 iteO (decide (((k288 : Nat) : Int) < ((x0.starts.length : Nat) : Int))) (grd (0 ≤ ((nth x0.starts k288 Tip.zero).state) ∧ ((nth x0.starts k288 Tip.zero).state) < (v47.length : Int)) (bnd (rat_grow_bridge (⟨(⟨i274, l276, l280, l284⟩ : Fst), t287⟩ : Grow) ((nth x0.ends k237 Tip.zero).state) ((nth x0.ends k237 Tip.zero).out) ((nth x0.starts k288 Tip.zero).out) (nth v47 (((nth x0.starts k288 Tip.zero).state).toNat) ([] : List Arc)) 0) (fun v101 => iteO v101.over (bnd (rat_grow_look (⟨(⟨v101.f.states, v101.f.starts, v101.f.ends, v101.f.arcs⟩ : Fst), v101.over⟩ : Grow)) (fun v120 => fin (fin (some ((⟨v120.1.states, v120.1.starts, v120.1.ends, v120.1.arcs⟩ : Fst), v120.2))))) (nxt (v101.f.states, v101.f.starts, v101.f.ends, v101.f.arcs, v101.over, (k288 + 1)))))) (fin (nxt (i274, l276, l280, l284, t287, (k237 + 1))))
noncomputable def rat_Star_b2 (x0 : Fst) (v47 : (List (List Arc))) (i223 : Int) (l225 : List Tip) (l229 : List Tip) (l233 : List Arc) (t236 : Bool) (k237 : Nat) : Option ((Int × (List Tip) × (List Tip) × (List Arc) × Bool × Nat) ⊕ (Fst × Int)) :=
 iteO (decide (((k237 : Nat) : Int) < ((x0.ends.length : Nat) : Int))) (iter (fun q : Int × (List Tip) × (List Tip) × (List Arc) × Bool × Nat => rat_Star_b3 x0 v47 k237 q.1 q.2.1 q.2.2.1 q.2.2.2.1 q.2.2.2.2.1 q.2.2.2.2.2) (i223, l225, l229, l233, t236, 0)) (fin (bnd (rat_grow_look (⟨(⟨i223, l225, l229, l233⟩ : Fst), t236⟩ : Grow)) (fun v121 => some ((⟨v121.1.states, v121.1.starts, v121.1.ends, v121.1.arcs⟩ : Fst), v121.2))))
noncomputable def rat_Star_b1 (x0 : Fst) (v47 : (List (List Arc))) (i161 : Int) (l163 : List Tip) (l167 : List Tip) (l171 : List Arc) (t174 : Bool) (k175 : Nat) : Option ((Int × (List Tip) × (List Tip) × (List Arc) × Bool × Nat) ⊕ (Fst × Int)) :=
 iteO (decide (((k175 : Nat) : Int) < ((x0.starts.length : Nat) : Int))) (grd (0 ≤ ((nth x0.starts k175 Tip.zero).state) ∧ ((nth x0.starts k175 Tip.zero).state) < (v47.length : Int)) (bnd (rat_grow_bridge (⟨(⟨i161, l163, l167, l171⟩ : Fst), t174⟩ : Grow) x0.states ([] : List UInt8) ((nth x0.starts k175 Tip.zero).out) (nth v47 (((nth x0.starts k175 Tip.zero).state).toNat) ([] : List Arc)) 0) (fun v68 => nxt (v68.f.states, v68.f.starts, v68.f.ends, v68.f.arcs, v68.over, (k175 + 1))))) (fin (iter (fun q : Int × (List Tip) × (List Tip) × (List Arc) × Bool × Nat => rat_Star_b2 x0 v47 q.1 q.2.1 q.2.2.1 q.2.2.2.1 q.2.2.2.2.1 q.2.2.2.2.2) (i161, l163, l167, l171, t174, 0)))
noncomputable def rat_Star (x0 : Fst) : Option (Fst × Int) :=
 bnd (fst_Check x0) (fun v5 => iteO (decide (v5 ≠ 0)) (some ((⟨0, ([] : List Tip), ([] : List Tip), ([] : List Arc)⟩ : Fst), 1)) (bnd (rat_free x0) (fun v11 => iteO v11 (some ((⟨0, ([] : List Tip), ([] : List Tip), ([] : List Arc)⟩ : Fst), 11)) (bnd (rat_grow_start (⟨(⟨IntKind.i64.wrap (x0.states + 1), ([] : List Tip), ([] : List Tip), ([] : List Arc)⟩ : Fst), false⟩ : Grow) (⟨x0.states, ([] : List UInt8)⟩ : Tip)) (fun v32 => bnd (rat_grow_end (⟨(⟨v32.f.states, v32.f.starts, v32.f.ends, v32.f.arcs⟩ : Fst), v32.over⟩ : Grow) (⟨x0.states, ([] : List UInt8)⟩ : Tip)) (fun v37 => bnd (rat_grow_ends (⟨(⟨v37.f.states, v37.f.starts, v37.f.ends, v37.f.arcs⟩ : Fst), v37.over⟩ : Grow) x0.ends 0) (fun v41 => bnd (rat_grow_arcs (⟨(⟨v41.f.states, v41.f.starts, v41.f.ends, v41.f.arcs⟩ : Fst), v41.over⟩ : Grow) x0.arcs 0) (fun v45 => bnd (rat_leaving x0) (fun v47 => iter (fun q : Int × (List Tip) × (List Tip) × (List Arc) × Bool × Nat => rat_Star_b1 x0 v47 q.1 q.2.1 q.2.2.1 q.2.2.2.1 q.2.2.2.2.1 q.2.2.2.2.2) (v45.f.states, v45.f.starts, v45.f.ends, v45.f.arcs, v45.over, 0))))))))))
def rat_Star_P (σ : Store) (r : Fst × Int) : Value → Store → List Res → Prop := fun v σ' H' =>
 ∃ (a1 : Option Addr), ∃ (c1 : Nat), ∃ (a2 : Option Addr), ∃ (c2 : Nat), ∃ (a3 : Option Addr), ∃ (c3 : Nat),  v = .tuple #[.agg #[.int .i64 r.1.states, .slice a1 r.1.starts.length c1, .slice a2 r.1.ends.length c2, .slice a3 r.1.arcs.length c3], .int .i64 r.2] ∧ RS σ' 2 encTip (.slice a1 r.1.starts.length c1) r.1.starts ∧ RS σ' 2 encTip (.slice a2 r.1.ends.length c2) r.1.ends ∧ RS σ' 8 encArc (.slice a3 r.1.arcs.length c3) r.1.arcs ∧ H' = []
theorem rat_Star_con {σ : Store} {x0 : Fst} {a0_0 : Option Addr} {c0_0 : Nat} {a0_1 : Option Addr} {c0_1 : Nat} {a0_2 : Option Addr} {c0_2 : Nat} (f0_0 : RS σ 2 encTip (.slice a0_0 x0.starts.length c0_0) x0.starts) (f0_1 : RS σ 2 encTip (.slice a0_1 x0.ends.length c0_1) x0.ends) (f0_2 : RS σ 8 encArc (.slice a0_2 x0.arcs.length c0_2) x0.arcs) {r : Fst × Int} (hh : rat_Star x0 = some r) :
  Con Tryd.prog 16 #[.agg #[.int .i64 x0.states, .slice a0_0 x0.starts.length c0_0, .slice a0_1 x0.ends.length c0_1, .slice a0_2 x0.arcs.length c0_2]] σ [] (rat_Star_P σ r) := by
 dsimp only [rat_Star] at hh
 have f0_0b := f0_0.rv.big
 have f0_1b := f0_1.rv.big
 have f0_2b := f0_2.rv.big
 refine Con.mkD (n := 101) Tryd.func16 z z z (fun w0 => ?_)
 refine TB.seq endR_ret (TC.region (TL.op z (boxA z z z z (fun b101 => ?_))))
 refine TL.op z (OpOk.alloc z ze31 z z (fun b103 => ?_))
 refine TL.op z (OpOk.alloc z ze32 z z (fun b105 => ?_))
 refine TL.en (TB.seq endR_ret (TC.a (TL.w z (loadAll z ag31 sz31 z (i := 2) z z) ?_)))
 obtain ⟨v5, u5, hh⟩ := bnd_e hh
 refine TL.op z (callP (fst_Check_con (x0 := x0) f0_0 f0_1 f0_2 u5) z z pf18 z z z ?_)
 refine TL.w z (OpVal.neq z z z) (TL.en (TC.cD z hh (fun h107 hh => ?_) (fun h107 hh => ?_)))
 ·refine TC.a (TL.w z (buildL z pl31 ze31 z) (TL.front 1 z z (TL.op z (storeAll z sz31 z z z z z z ?_))))
  refine TL.front 1 z z (TL.op z (storeI z sz32 z z z z z ?_))
  refine TL.en (TC.ofSub (Sub.f [1] 2) (TC.ret (S.r ?_)))
  obtain rfl := so hh
  exact ro [] z (RVs.agg ag31 sz31 z (i := 0) z z (RVs.one ag32 z (i := 1) z z RVs.nil)) ⟨none, 0, none, 0, none, 0, z, (RS.nilF _ encTip encTip_len), (RS.nilF _ encTip encTip_len), (RS.nilF _ encArc encArc_len), z⟩
 ·refine TC.skip (S.n (TB.seq endR_ret (TC.a (TL.w z (loadAll z ag31 sz31 z (i := 2) z z) ?_))))
  obtain ⟨v11, u11, hh⟩ := bnd_e hh
  refine TL.op z (callP (rat_free_con (x0 := x0) f0_0 f0_1 f0_2 u11) z z pf34 z z z ?_)
  refine TL.en (TC.cB z hh (fun h108 hh => ?_) (fun h108 hh => ?_))
  ·refine TC.a (TL.w z (buildL z pl31 ze31 z) (TL.front 1 z z (TL.op z (storeAll z sz31 z z z z z z ?_))))
   refine TL.front 1 z z (TL.op z (storeI z sz32 z z z z z ?_))
   refine TL.en (TC.ofSub (Sub.f [1] 2) (TC.ret (S.r ?_)))
   obtain rfl := so hh
   exact ro [] z (RVs.agg ag31 sz31 z (i := 0) z z (RVs.one ag32 z (i := 1) z z RVs.nil)) ⟨none, 0, none, 0, none, 0, z, (RS.nilF _ encTip encTip_len), (RS.nilF _ encTip encTip_len), (RS.nilF _ encArc encArc_len), z⟩
  ·refine TC.skip (S.n (TB.seq endR_ret (TC.region (TL.w z (buildL z pl79 ze79 z) (TL.op z (boxA z z z z (fun b109 => ?_)))))))
   refine TL.l z z (TL.en (TB.seqD (TLB.v z (moveLoc (.inl z) z) z z (TLB.dfr (dargs := [loc b109 0, loc b103 0, loc b105 0]) z z z z z (fun a_ w_ hw_ ha_ => ?_)))))
   refine TB.fin (Q := dfrQ _ _ _ _ 23 [loc b109 0, loc b103 0, loc b105 0]) (endR_dfr (cap := []) (dargs := [loc b109 0, loc b103 0, loc b105 0]) pf23) ?_ w_ a_ hw_ ha_
   clear hw_ ha_ a_ w_
   refine TC.a (TL.l z z (TL.w z (fieldLoc z fo31_0 z) (TL.w z (loadLoc z ag3 z (i := 3) z z) (TL.w z (addW z z z) (TL.w z (nilCheckLoc z z) (TL.w z (fieldLoc z fo79_0 z) (TL.w z (fieldLoc z fo31_0 z) (TL.op z (storeI z sz3 z z z z z ?_)))))))))
   refine TL.en (TC.a (TL.l z z (TL.w z (fieldLoc z fo31_0 z) (TL.w z (loadLoc z ag3 z (i := 3) z z) (TL.w z (buildL z pl63 ze63 z) (TL.nilS 63 2 encTip (TL.nilS 63 2 encTip (TL.nilS 60 8 encArc (TL.front 1 z z (TL.front 2 z z (TL.front 3 z z ?_)))))))))))
   obtain ⟨v32, u32, hh⟩ := bnd_e hh
   refine TL.op z (OpOk.call (rat_grow_start_con u32) z z pf24 z z z z ?_)
   rintro _ _ _ hle114 ⟨a114_1, c114_2, a114_3, c114_4, a114_5, c114_6, rfl, rfl, rfl⟩
   refine TL.en (TC.a (TL.l z z (TL.w z (fieldLoc z fo31_0 z) (TL.w z (loadLoc z ag3 z (i := 6) z z) (TL.w z (buildL z pl63 ze63 z) (TL.front 3 z z (TL.front 3 z z (TL.front 3 z z (TL.front 3 z z ?_)))))))))
   obtain ⟨v37, u37, hh⟩ := bnd_e hh
   refine TL.op z (OpOk.call (rat_grow_end_con u37) z z pf25 z z z z ?_)
   rintro _ _ _ hle118 ⟨a118_1, c118_2, a118_3, c118_4, a118_5, c118_6, rfl, rfl, rfl⟩
   refine TL.en (TC.a (TL.l z z (TL.w z (fieldLoc z fo31_2 z) (TL.w z (loadLoc z ag28 z (i := 6) z z) (TL.front 3 z z (TL.front 3 z z (TL.front 3 z z (TL.front 3 z z ?_))))))))
   obtain ⟨v41, u41, hh⟩ := bnd_e hh
   refine TL.op z (OpOk.call (rat_grow_ends_con f0_1 u41) z z pf32 z z z z ?_)
   rintro _ _ _ hle122 ⟨a122_1, c122_2, a122_3, c122_4, a122_5, c122_6, rfl, rfl, rfl⟩
   refine TL.en (TC.a (TL.l z z (TL.w z (fieldLoc z fo31_3 z) (TL.w z (loadLoc z ag29 z (i := 6) z z) (TL.front 3 z z (TL.front 3 z z (TL.front 3 z z (TL.front 3 z z ?_))))))))
   obtain ⟨v45, u45, hh⟩ := bnd_e hh
   refine TL.op z (OpOk.call (rat_grow_arcs_con f0_2 u45) z z pf33 z z z z ?_)
   rintro _ _ _ hle126 ⟨a126_1, c126_2, a126_3, c126_4, a126_5, c126_6, rfl, rfl, rfl⟩
   refine TL.en (TC.a (TL.w z (loadAll z ag31 sz31 z (i := 6) z z) ?_))
   obtain ⟨v47, u47, hh⟩ := bnd_e hh
   refine TL.op z (OpOk.call (rat_leaving_con (x0 := x0) f0_0 f0_1 f0_2 u47) z z pf35 z z z z ?_)
   rintro _ τ130 _ hle130 ⟨a130_1, c130_1, rfl, hr130_0, rfl⟩
   replace f0_0 := f0_0.mono hle130
   replace f0_1 := f0_1.mono hle130
   have hr130_0b := hr130_0.big
   refine TL.s z z (TL.en (TC.seq (TC.a (TL.w z (fieldLoc z fo31_1 z) (TL.w z (loadLoc z ag28 z (i := 6) z z) (TL.w z (lenC z underlying28 z) (TL.i z z (TL.en (TC.block (TC.loopG (α := (Int × (List Tip) × (List Tip) × (List Arc) × Bool × Nat) × ((Option Addr) × Nat × (Option Addr) × Nat × (Option Addr) × Nat)) (rgs [(7, 1), (52, 16)]) (fun g => [(52, .int .i64 ((g.1.2.2.2.2.2 : Nat) : Int))]) (fun g => [Res.cells b101 #[.int .i64 x0.states, .slice a0_0 x0.starts.length c0_0, .slice a0_1 x0.ends.length c0_1, .slice a0_2 x0.arcs.length c0_2] 31, Res.cells b103 #[.int .i64 0, .slice none 0 0, .slice none 0 0, .slice none 0 0] 31, Res.cells b105 #[.int .i64 0] 32, Res.cells b109 #[.int .i64 g.1.1, .slice g.2.1 g.1.2.1.length g.2.2.1, .slice g.2.2.2.1 g.1.2.2.1.length g.2.2.2.2.1, .slice g.2.2.2.2.2.1 g.1.2.2.2.1.length g.2.2.2.2.2.2, .bool g.1.2.2.2.2.1] 79, Res.rowS 63 2 encTip (.slice g.2.1 g.1.2.1.length g.2.2.1) g.1.2.1, Res.rowS 63 2 encTip (.slice g.2.2.2.1 g.1.2.2.1.length g.2.2.2.2.1) g.1.2.2.1, Res.rowS 60 8 encArc (.slice g.2.2.2.2.2.1 g.1.2.2.2.1.length g.2.2.2.2.2.2) g.1.2.2.2.1]) (fun g => τ130) (fun g => iter (fun q : Int × (List Tip) × (List Tip) × (List Arc) × Bool × Nat => rat_Star_b1 x0 v47 q.1 q.2.1 q.2.2.1 q.2.2.2.1 q.2.2.2.2.1 q.2.2.2.2.2) g.1 = some r) (fun g => rounds (fun q : Int × (List Tip) × (List Tip) × (List Arc) × Bool × Nat => rat_Star_b1 x0 v47 q.1 q.2.1 q.2.2.1 q.2.2.2.1 q.2.2.2.2.1 q.2.2.2.2.2) g.1) ((v45.f.states, v45.f.starts, v45.f.ends, v45.f.arcs, v45.over, 0), (a126_1, c126_2, a126_3, c126_4, a126_5, c126_6)) (Sub.f [3, 3, 3, 3, 4, 5, 6] 7) z (by repeat (first | exact trivial | refine ⟨z, ?_⟩)) hh (fun g1 j1 hg1 => ?_)))))))))))
   obtain ⟨⟨i161, l163, l167, l171, t174, k175⟩, ⟨a164, c165, a168, c169, a172, c173⟩⟩ := g1
   have hh := hg1; clear hg1
   try dsimp only
   obtain ⟨z1, hh, hR1⟩ := iter_e hh
   dsimp only [rat_Star_b1] at hh
   refine TC.isSl (i := 4) z (fun _ hb176 _ => ?_)
   refine TC.isSl (i := 5) z (fun _ hb177 _ => ?_)
   refine TC.isSl (i := 6) z (fun _ hb178 _ => ?_)
   refine TC.a (TL.w z (OpVal.lss z z z) (TL.en (TC.seq (TC.cD z hh (fun h179 hh => ?_) (fun h179 hh => ?_)))))
   ·refine TC.skip (S.n (TC.seq (TC.block (TC.a (TL.w z (indexN z underlying28 sz63 z z f0_0.rv.sl (by omega)) (TL.w z (loadSA Tip.zero z ag63 sz63 z f0_0 (by omega) (by omega)) (TL.op z (OpOk.alloc z ze63 z z (fun b180 => ?_)))))))))
    refine TL.op z (storeAll z sz63 z z z z z z ?_)
    refine TL.en ?_
    have u66 := grd_c hh
    replace hh := grd_t hh
    obtain ⟨v68, u68, hh⟩ := bnd_e hh
    refine TC.drawR (Hr := [Res.cells b180 #[.int .i64 ((nth x0.starts k175 Tip.zero).state), .string (bs ((nth x0.starts k175 Tip.zero).out))] 63, Res.cells b101 #[.int .i64 x0.states, .slice a0_0 x0.starts.length c0_0, .slice a0_1 x0.ends.length c0_1, .slice a0_2 x0.arcs.length c0_2] 31, Res.cells b103 #[.int .i64 0, .slice none 0 0, .slice none 0 0, .slice none 0 0] 31, Res.cells b105 #[.int .i64 0] 32]) (fun r hr => mem_pick [0, 1, 2, 3] z hr) [] (by kernel_rfl) (TA.a 0 z (moveLoc (.inl z) z) z (TA.a 1 z (fieldLoc z fo31_0 z) z (TA.b 2 z (loadLoc z ag3 z (i := 1) z z) z (TA.a 3 z (fieldLoc z fo63_1 z) z (TA.b 4 z (loadLoc z ag9 z (i := 0) z z) z (TA.a 5 z (moveSl (.inl z) z) z (TA.a 6 z (fieldLoc z fo63_0 z) z (TA.b 7 z (loadLoc z ag3 z (i := 0) z z) z (TA.b 8 z (OpVal.index z underlying55 sz29 z z hr130_0.isSl u66.1 u66.2) z ?_)))))))))
    obtain ⟨p187, hk187, hg187⟩ := RZ.seg hr130_0 (((nth x0.starts k175 Tip.zero).state).toNat) (by omega)
    replace hk187 : RS _ 8 encArc (.slice p187.1 (nth v47 (((nth x0.starts k175 Tip.zero).state).toNat) ([] : List Arc)).length p187.2) (nth v47 (((nth x0.starts k175 Tip.zero).state).toNat) ([] : List Arc)) := hk187
    have hk187b := hk187.rv.big
    refine TA.b 9 z (OpVal.of (loadSeg0 z ag29 z hg187 z) (v' := .slice p187.1 ((nth v47 (((nth x0.starts k175 Tip.zero).state).toNat) ([] : List Arc)).length) p187.2) z) z (TA.front 7 z z (TA.front 7 z z (TA.front 7 z z (TA.front 7 z z (TA.ac 10 z (OpOk.call (rat_grow_bridge_con hk187 u68) z z pf36 z z z z ?_))))))
    rintro _ _ _ hle188 ⟨a188_1, c188_2, a188_3, c188_4, a188_5, c188_6, rfl, rfl, rfl⟩
    refine kc 4 (TA.dn (B.n (S.n (TC.region (TL.w z (OpVal.succ z z z (by omega)) (TL.i z z (TL.en ?_)))))))
    obtain ⟨hh, hlt192⟩ := nxt_x hR1 hh
    exact lf ((v68.f.states, v68.f.starts, v68.f.ends, v68.f.arcs, v68.over, (k175 + 1)), (a188_1, c188_2, a188_3, c188_4, a188_5, c188_6)) hlt192 hh (Sub.f [3, 3, 3, 3, 7, 7, 7] 7)
   ·refine TC.exit (S.x (S.x ?_))
    replace hh := fin_x hR1 hh
    refine TC.exitHere (S.n (TC.seq (TC.a (TL.w z (fieldLoc z fo31_2 z) (TL.w z (loadLoc z ag28 z (i := 0) z z) (TL.w z (lenC z underlying28 z) (TL.i z z (TL.en (TC.block (TC.loopG (α := (Int × (List Tip) × (List Tip) × (List Arc) × Bool × Nat) × ((Option Addr) × Nat × (Option Addr) × Nat × (Option Addr) × Nat)) (rgs [(9, 1), (11, 1), (71, 30)]) (fun g => [(71, .int .i64 ((g.1.2.2.2.2.2 : Nat) : Int))]) (fun g => [Res.cells b101 #[.int .i64 x0.states, .slice a0_0 x0.starts.length c0_0, .slice a0_1 x0.ends.length c0_1, .slice a0_2 x0.arcs.length c0_2] 31, Res.cells b103 #[.int .i64 0, .slice none 0 0, .slice none 0 0, .slice none 0 0] 31, Res.cells b105 #[.int .i64 0] 32, Res.cells b109 #[.int .i64 g.1.1, .slice g.2.1 g.1.2.1.length g.2.2.1, .slice g.2.2.2.1 g.1.2.2.1.length g.2.2.2.2.1, .slice g.2.2.2.2.2.1 g.1.2.2.2.1.length g.2.2.2.2.2.2, .bool g.1.2.2.2.2.1] 79, Res.rowS 63 2 encTip (.slice g.2.1 g.1.2.1.length g.2.2.1) g.1.2.1, Res.rowS 63 2 encTip (.slice g.2.2.2.1 g.1.2.2.1.length g.2.2.2.2.1) g.1.2.2.1, Res.rowS 60 8 encArc (.slice g.2.2.2.2.2.1 g.1.2.2.2.1.length g.2.2.2.2.2.2) g.1.2.2.2.1]) (fun g => τ130) (fun g => iter (fun q : Int × (List Tip) × (List Tip) × (List Arc) × Bool × Nat => rat_Star_b2 x0 v47 q.1 q.2.1 q.2.2.1 q.2.2.2.1 q.2.2.2.2.1 q.2.2.2.2.2) g.1 = some r) (fun g => rounds (fun q : Int × (List Tip) × (List Tip) × (List Arc) × Bool × Nat => rat_Star_b2 x0 v47 q.1 q.2.1 q.2.2.1 q.2.2.2.1 q.2.2.2.2.1 q.2.2.2.2.2) g.1) ((i161, l163, l167, l171, t174, 0), (a164, c165, a168, c169, a172, c173)) (Sub.f [6, 6, 6, 6, 6, 6, 6] 7) z (by repeat (first | exact trivial | refine ⟨z, ?_⟩)) hh (fun g2 j2 hg2 => ?_)))))))))))
    obtain ⟨⟨i223, l225, l229, l233, t236, k237⟩, ⟨a226, c227, a230, c231, a234, c235⟩⟩ := g2
    have hh := hg2; clear hg2
    try dsimp only
    obtain ⟨z1, hh, hR1⟩ := iter_e hh
    dsimp only [rat_Star_b2] at hh
    refine TC.isSl (i := 4) z (fun _ hb238 _ => ?_)
    refine TC.isSl (i := 5) z (fun _ hb239 _ => ?_)
    refine TC.isSl (i := 6) z (fun _ hb240 _ => ?_)
    refine TC.a (TL.w z (OpVal.lss z z z) (TL.en (TC.seq (TC.cD z hh (fun h241 hh => ?_) (fun h241 hh => ?_)))))
    ·refine TC.skip (S.n (TC.seq (TC.block (TC.a (TL.w z (indexN z underlying28 sz63 z z f0_1.rv.sl (by omega)) (TL.w z (loadSA Tip.zero z ag63 sz63 z f0_1 (by omega) (by omega)) (TL.op z (OpOk.alloc z ze63 z z (fun b242 => ?_)))))))))
     refine TL.op z (storeAll z sz63 z z z z z z ?_)
     refine TL.en (TC.a (TL.w z (fieldLoc z fo31_1 z) (TL.w z (loadLoc z ag28 z (i := 1) z z) (TL.w z (lenC z underlying28 z) (TL.i z z (TL.en (TC.block (TC.loopG (α := (Int × (List Tip) × (List Tip) × (List Arc) × Bool × Nat) × ((Option Addr) × Nat × (Option Addr) × Nat × (Option Addr) × Nat)) (rgs [(11, 1), (78, 22)]) (fun g => [(78, .int .i64 ((g.1.2.2.2.2.2 : Nat) : Int))]) (fun g => [Res.cells b101 #[.int .i64 x0.states, .slice a0_0 x0.starts.length c0_0, .slice a0_1 x0.ends.length c0_1, .slice a0_2 x0.arcs.length c0_2] 31, Res.cells b103 #[.int .i64 0, .slice none 0 0, .slice none 0 0, .slice none 0 0] 31, Res.cells b105 #[.int .i64 0] 32, Res.cells b109 #[.int .i64 g.1.1, .slice g.2.1 g.1.2.1.length g.2.2.1, .slice g.2.2.2.1 g.1.2.2.1.length g.2.2.2.2.1, .slice g.2.2.2.2.2.1 g.1.2.2.2.1.length g.2.2.2.2.2.2, .bool g.1.2.2.2.2.1] 79, Res.rowS 63 2 encTip (.slice g.2.1 g.1.2.1.length g.2.2.1) g.1.2.1, Res.rowS 63 2 encTip (.slice g.2.2.2.1 g.1.2.2.1.length g.2.2.2.2.1) g.1.2.2.1, Res.rowS 60 8 encArc (.slice g.2.2.2.2.2.1 g.1.2.2.2.1.length g.2.2.2.2.2.2) g.1.2.2.2.1, Res.cells b242 #[.int .i64 ((nth x0.ends k237 Tip.zero).state), .string (bs ((nth x0.ends k237 Tip.zero).out))] 63]) (fun g => τ130) (fun g => iter (fun q : Int × (List Tip) × (List Tip) × (List Arc) × Bool × Nat => rat_Star_b3 x0 v47 k237 q.1 q.2.1 q.2.2.1 q.2.2.2.1 q.2.2.2.2.1 q.2.2.2.2.2) g.1 = some z1) (fun g => rounds (fun q : Int × (List Tip) × (List Tip) × (List Arc) × Bool × Nat => rat_Star_b3 x0 v47 k237 q.1 q.2.1 q.2.2.1 q.2.2.2.1 q.2.2.2.2.1 q.2.2.2.2.2) g.1) ((i223, l225, l229, l233, t236, 0), (a226, c227, a230, c231, a234, c235)) (Sub.f [7, 7, 7, 7, 7, 7, 7] 8) z (by repeat (first | exact trivial | refine ⟨z, ?_⟩)) hh (fun g3 j3 hg3 => ?_)))))))))
     obtain ⟨⟨i274, l276, l280, l284, t287, k288⟩, ⟨a277, c278, a281, c282, a285, c286⟩⟩ := g3
     have hh := hg3; clear hg3
     try dsimp only
     obtain ⟨z2, hh, hR2⟩ := iter_e hh
     dsimp only [rat_Star_b3] at hh
     refine TC.isSl (i := 4) z (fun _ hb289 _ => ?_)
     refine TC.isSl (i := 5) z (fun _ hb290 _ => ?_)
     refine TC.isSl (i := 6) z (fun _ hb291 _ => ?_)
     refine TC.a (TL.w z (OpVal.lss z z z) (TL.en (TC.seq (TC.cD z hh (fun h292 hh => ?_) (fun h292 hh => ?_)))))
     ·refine TC.skip (S.n (TC.seq (TC.block (TC.a (TL.w z (indexN z underlying28 sz63 z z f0_0.rv.sl (by omega)) (TL.w z (loadSA Tip.zero z ag63 sz63 z f0_0 (by omega) (by omega)) (TL.op z (OpOk.alloc z ze63 z z (fun b293 => ?_)))))))))
      refine TL.op z (storeAll z sz63 z z z z z z ?_)
      refine TL.en (TC.seq ?_)
      have u99 := grd_c hh
      replace hh := grd_t hh
      obtain ⟨v101, u101, hh⟩ := bnd_e hh
      refine TC.drawR (Hr := [Res.cells b293 #[.int .i64 ((nth x0.starts k288 Tip.zero).state), .string (bs ((nth x0.starts k288 Tip.zero).out))] 63, Res.cells b101 #[.int .i64 x0.states, .slice a0_0 x0.starts.length c0_0, .slice a0_1 x0.ends.length c0_1, .slice a0_2 x0.arcs.length c0_2] 31, Res.cells b103 #[.int .i64 0, .slice none 0 0, .slice none 0 0, .slice none 0 0] 31, Res.cells b105 #[.int .i64 0] 32, Res.cells b242 #[.int .i64 ((nth x0.ends k237 Tip.zero).state), .string (bs ((nth x0.ends k237 Tip.zero).out))] 63]) (fun r hr => mem_pick [0, 1, 2, 3, 8] z hr) [] (by kernel_rfl) (TA.a 0 z (moveLoc (.inl z) z) z (TA.a 1 z (fieldLoc z fo63_0 z) z (TA.b 2 z (loadLoc z ag3 z (i := 4) z z) z (TA.a 3 z (fieldLoc z fo63_1 z) z (TA.b 4 z (loadLoc z ag9 z (i := 4) z z) z (TA.a 5 z (fieldLoc z fo63_1 z) z (TA.b 6 z (loadLoc z ag9 z (i := 0) z z) z (TA.a 7 z (moveSl (.inl z) z) z (TA.a 8 z (fieldLoc z fo63_0 z) z (TA.b 9 z (loadLoc z ag3 z (i := 0) z z) z (TA.b 10 z (OpVal.index z underlying55 sz29 z z hr130_0.isSl u99.1 u99.2) z ?_)))))))))))
      obtain ⟨p300, hk300, hg300⟩ := RZ.seg hr130_0 (((nth x0.starts k288 Tip.zero).state).toNat) (by omega)
      replace hk300 : RS _ 8 encArc (.slice p300.1 (nth v47 (((nth x0.starts k288 Tip.zero).state).toNat) ([] : List Arc)).length p300.2) (nth v47 (((nth x0.starts k288 Tip.zero).state).toNat) ([] : List Arc)) := hk300
      have hk300b := hk300.rv.big
      refine TA.b 11 z (OpVal.of (loadSeg0 z ag29 z hg300 z) (v' := .slice p300.1 ((nth v47 (((nth x0.starts k288 Tip.zero).state).toNat) ([] : List Arc)).length) p300.2) z) z (TA.front 7 z z (TA.front 7 z z (TA.front 7 z z (TA.front 7 z z (TA.ac 12 z (OpOk.call (rat_grow_bridge_con hk300 u101) z z pf36 z z z z ?_))))))
      rintro _ _ _ hle301 ⟨a301_1, c301_2, a301_3, c301_4, a301_5, c301_6, rfl, rfl, rfl⟩
      refine kc 4 (TA.dn (S.n (TC.a (TL.l z z (TL.w z (nilCheckLoc z z) (TL.w z (fieldLoc z fo79_1 z) (TL.w z (loadLoc z ag4 z (i := 0) z z) (TL.en (TC.cB z hh (fun h305 hh => ?_) (fun h305 hh => ?_))))))))))
      ·refine TC.front 7 z z (TC.front 7 z z (TC.front 5 z z (TC.front 5 z z (TC.front 5 z z (TC.front 5 z z ?_)))))
       obtain ⟨v120, u120, hh⟩ := bnd_e hh
       refine TC.ret (B.r (S.r (S.r ?_)))
       replace hh := fin_x hR2 hh
       refine B.r (B.r (S.r (S.r ?_)))
       replace hh := fin_x hR1 hh
       refine B.r (S.r (⟨.inl z, _, Sub.pre 6 z, (rat_grow_look_con u120).mono ?_⟩))
       rintro _ τ306 _ hle306 ⟨a306_1, c306_2, a306_4, c306_5, a306_7, c306_8, rfl, f306_3, f306_6, f306_9, rfl⟩
       have f306_3b := f306_3.rv.big
       have f306_6b := f306_6.rv.big
       have f306_9b := f306_9.rv.big
       obtain rfl := so hh
       exact RetOk.mk' (rs := [.cell 2 31, .cell 3 32]) [] z (.inl z) (RVs.agg ag31 sz31 z (i := 0) z z (RVs.one ag32 z (i := 1) z z RVs.nil)) (List.nil_sublist _) ⟨a306_1, c306_2, a306_4, c306_5, a306_7, c306_8, z, f306_3, f306_6, f306_9, z⟩
      ·refine TC.skip (B.n (S.n (TC.region (TL.w z (OpVal.succ z z z (by omega)) (TL.i z z (TL.en ?_))))))
       obtain ⟨hh, hlt310⟩ := nxt_x hR2 hh
       exact lf ((v101.f.states, v101.f.starts, v101.f.ends, v101.f.arcs, v101.over, (k288 + 1)), (a301_1, c301_2, a301_3, c301_4, a301_5, c301_6)) hlt310 hh (Sub.f [8, 4, 4, 4, 4, 8, 8, 8] 8)
     ·refine TC.exit (S.x (S.x ?_))
      replace hh := fin_x hR2 hh
      refine TC.exitHere (B.n (S.n (TC.region (TL.w z (OpVal.succ z z z (by omega)) (TL.i z z (TL.en ?_))))))
      obtain ⟨hh, hlt311⟩ := nxt_x hR1 hh
      exact lf ((i274, l276, l280, l284, t287, (k237 + 1)), (a277, c278, a281, c282, a285, c286)) hlt311 hh (Sub.f [6, 6, 6, 6, 6, 6, 6] 7)
    ·refine TC.exit (S.x (S.x ?_))
     replace hh := fin_x hR1 hh
     refine TC.exitHere (S.n (TC.front 2 z z (TC.front 2 z z (TC.front 6 z z (TC.front 6 z z (TC.front 6 z z (TC.front 6 z z ?_)))))))
     obtain ⟨v121, u121, hh⟩ := bnd_e hh
     refine TC.ret (⟨.inl z, _, Sub.pre 6 z, (rat_grow_look_con u121).mono ?_⟩)
     rintro _ τ312 _ hle312 ⟨a312_1, c312_2, a312_4, c312_5, a312_7, c312_8, rfl, f312_3, f312_6, f312_9, rfl⟩
     have f312_3b := f312_3.rv.big
     have f312_6b := f312_6.rv.big
     have f312_9b := f312_9.rv.big
     obtain rfl := so hh
     exact RetOk.mk' (rs := [.cell 2 31, .cell 3 32]) [] z (.inl z) (RVs.agg ag31 sz31 z (i := 0) z z (RVs.one ag32 z (i := 1) z z RVs.nil)) (List.nil_sublist _) ⟨a312_1, c312_2, a312_4, c312_5, a312_7, c312_8, z, f312_3, f312_6, f312_9, z⟩

end Go.Proofs.YtcfjjckencjjeaaDoor
end

/- M4 -/
section
/- Decompiled: what the laws on automatons as transducers ask first. -/
set_option linter.unusedVariables false
set_option linter.unusedSimpArgs false
namespace Go.Proofs.YtcfjjckencjjeaaDoor
open Go Go.E Go.E.OpVal Go.E.OpOk Go.Proofs.Tryd
set_option maxRecDepth 100000
private theorem pf10 : Go.E.plainF Tryd.prog 10 = true := by kernel_rfl
private theorem pf11 : Go.E.plainF Tryd.prog 11 = true := by kernel_rfl
private theorem pf14 : Go.E.plainF Tryd.prog 14 = true := by kernel_rfl
private theorem pf15 : Go.E.plainF Tryd.prog 15 = true := by kernel_rfl
private theorem pf16 : Go.E.plainF Tryd.prog 16 = true := by kernel_rfl
private theorem pf27 : Go.E.plainF Tryd.prog 27 = true := by kernel_rfl
private theorem pf28 : Go.E.plainF Tryd.prog 28 = true := by kernel_rfl
private theorem pf29 : Go.E.plainF Tryd.prog 29 = true := by kernel_rfl
private theorem pf5 : Go.E.plainF Tryd.prog 5 = true := by kernel_rfl
private theorem pf6 : Go.E.plainF Tryd.prog 6 = true := by kernel_rfl
private theorem sz9 : Go.E.szOf Tryd.prog 9 = some 1 := by kernel_rfl
private theorem ze5 : Go.E.zeroOf Tryd.prog 5 = some (.int .u8 0) := by kernel_rfl
private theorem ze9 : Go.E.zeroOf Tryd.prog 9 = some (.string ByteArray.empty) := by kernel_rfl

noncomputable def whittlelaw16_one (x0 : UInt8) : Option (Dfa) :=
 grd ([x0].length ≤ 1000000000000) (bnd (dfa_Of (setN (BSet.ofL [x0]))) (fun v6 => some v6.1))
def whittlelaw16_one_P (σ : Store) (r : Dfa) : Value → Store → List Res → Prop := fun v σ' H' =>
 ∃ (a1 : Option Addr), ∃ (c1 : Nat), ∃ (a2 : Option Addr), ∃ (c2 : Nat), ∃ (a3 : Option Addr), ∃ (c3 : Nat),  v = .agg #[.slice a1 r.cls.length c1, .slice a2 r.next.length c2, .slice a3 r.fin.length c3] ∧ RS σ' 1 Go.E.encI (.slice a1 r.cls.length c1) r.cls ∧ RZ σ' (pkSl 1 Go.E.encI Go.E.encI_len) (.slice a2 r.next.length c2) r.next ∧ RS σ' 1 encB (.slice a3 r.fin.length c3) r.fin ∧ H' = []
theorem whittlelaw16_one_con {σ : Store} {x0 : UInt8} (hgl : GT σ 1 encU8 deB) {r : Dfa} (hh : whittlelaw16_one x0 = some r) :
  Con Tryd.prog 14 #[.int .u8 ((x0.toNat : Nat) : Int)] σ [] (whittlelaw16_one_P σ r) := by
 dsimp only [whittlelaw16_one] at hh
 refine Con.mk (n := 14) Tryd.func14 z z z (fun w0 => ?_)
 refine TC.a (TL.op z (OpOk.alloc z ze26 z z (fun b101 => ?_)))
 refine TL.en (TC.a (TL.i z z (TL.op z (OpOk.lit (enc := encU8) [x0] z underlying101 sz5 ze5 z z z encU8_len (by decide) (by decide) (0 : UInt8) z (by decide) z (by decide) encU8_one (fun a103 c104 => ?_)))))
 have u4 := grd_c hh
 replace hh := grd_t hh
 refine TL.op z (callT (of_con _ _ _ [x0] u4) z z pf29 z z z z ?_)
 refine TL.op z (OpOk.call (set_con _ (BSet.ofL [x0]) (BSet.isOk _)) z z pf28 z z z z ?_)
 rintro _ τ106 _ hle106 ⟨p106, rfl, hn106, rfl⟩
 replace hgl := hgl.mono hle106
 have hn106sb := hn106.s.rv.big
 have hn106eb := hn106.e.rv.big
 have hn106db := hn106.d.rv.big
 obtain ⟨v6, u6, hh⟩ := bnd_e hh
 refine TL.op z (OpOk.call (dfa_Of_con (x0 := (setN (BSet.ofL [x0]))) hgl hn106.s hn106.e hn106.d u6) z z pf27 z z z z ?_)
 rintro _ τ107 _ hle107 ⟨a107_1, c107_1, a107_2, c107_2, a107_3, c107_3, rfl, hr107_0, hr107_1, hr107_2, rfl⟩
 have hr107_0b := hr107_0.rv.big
 have hr107_1b := hr107_1.big
 have hr107_2b := hr107_2.rv.big
 refine TL.w z (moveT (.inl z) z) (TL.w z (OpVal.extract z z z) (TL.w z (OpVal.extract z z z) (TL.op z (OpOk.alloc z ze26 z z (fun b108 => ?_)))))
 refine TL.op z (storeAll z sz26 z z z z z z ?_)
 refine TL.i z z (TL.en (TC.a (TL.w z (loadAll z ag26 sz26 z (i := 0) z z) (TL.front 1 z z (TL.op z (storeAll z sz26 z z z z z z ?_))))))
 refine TL.en (TC.rt 1 ?_)
 obtain rfl := so hh
 exact ro [] z (RVs.agg ag26 sz26 z (i := 0) z z RVs.nil) ⟨a107_1, c107_1, a107_2, c107_2, a107_3, c107_3, z, hr107_0, hr107_1, hr107_2, z⟩

noncomputable def whittlelaw16_awake : Option (Bool) :=
 bnd (whittlelaw16_one (97 : UInt8)) (fun v2 => bnd (rat_Cross v2 ([120] : List UInt8)) (fun v3 => bnd (whittlelaw16_one (98 : UInt8)) (fun v10 => bnd (rat_Same v10) (fun v11 => bnd (rat_Alt v3.1 v11.1) (fun v20 => bnd (rat_Star v20.1) (fun v28 => bnd (fst_Outs v28.1 ([97, 98, 97] : List UInt8)) (fun v36 => iteO (decide (v3.2 = 0)) (iteO (decide (v11.2 = v3.2)) (iteO (decide (v20.2 = v3.2)) (iteO (decide (v28.2 = v3.2)) (iteO (decide (v36.2 = v3.2)) (bnd (whittleref03_Texts v36.1 [([120, 98, 120] : List UInt8)]) (fun v67 => some v67)) (some false)) (some false)) (some false)) (some false)) (some false))))))))
theorem whittlelaw16_awake_con {σ : Store}  (hgl : GT σ 1 encU8 deB) {r : Bool} (hh : whittlelaw16_awake = some r) :
  Con Tryd.prog 8 #[] σ [] (PureP (.bool r) σ) := by
 dsimp only [whittlelaw16_awake] at hh
 refine Con.mk (n := 64) Tryd.func8 z z z (fun w0 => ?_)
 refine TC.a (TL.j z z (TL.en (TC.a ?_)))
 obtain ⟨v2, u2, hh⟩ := bnd_e hh
 refine TL.op z (OpOk.call (whittlelaw16_one_con hgl u2) z z pf14 z z z z ?_)
 rintro _ τ101 _ hle101 ⟨a101_1, c101_1, a101_2, c101_2, a101_3, c101_3, rfl, hr101_0, hr101_1, hr101_2, rfl⟩
 replace hgl := hgl.mono hle101
 have hr101_0b := hr101_0.rv.big
 have hr101_1b := hr101_1.big
 have hr101_2b := hr101_2.rv.big
 obtain ⟨v3, u3, hh⟩ := bnd_e hh
 refine TL.op z (OpOk.call (rat_Cross_con (x0 := v2) hr101_0 hr101_1 hr101_2 u3) z z pf6 z z z z ?_)
 rintro _ τ102 _ hle102 ⟨a102_1, c102_1, a102_2, c102_2, a102_3, c102_3, rfl, hr102_0, hr102_1, hr102_2, rfl⟩
 replace hgl := hgl.mono hle102
 have hr102_0b := hr102_0.rv.big
 have hr102_1b := hr102_1.rv.big
 have hr102_2b := hr102_2.rv.big
 refine TL.w z (moveT (.inl z) z) (TL.w z (OpVal.extract z z z) (TL.w z (OpVal.extract z z z) (TL.op z (OpOk.alloc z ze31 z z (fun b103 => ?_)))))
 refine TL.op z (storeAll z sz31 z z z z z z ?_)
 refine TL.i z z (TL.en (TC.a ?_))
 obtain ⟨v10, u10, hh⟩ := bnd_e hh
 refine TL.op z (OpOk.call (whittlelaw16_one_con hgl u10) z z pf14 z z z z ?_)
 rintro _ τ105 _ hle105 ⟨a105_1, c105_1, a105_2, c105_2, a105_3, c105_3, rfl, hr105_0, hr105_1, hr105_2, rfl⟩
 replace hr102_0 := hr102_0.mono hle105
 replace hr102_1 := hr102_1.mono hle105
 replace hr102_2 := hr102_2.mono hle105
 have hr105_0b := hr105_0.rv.big
 have hr105_1b := hr105_1.big
 have hr105_2b := hr105_2.rv.big
 obtain ⟨v11, u11, hh⟩ := bnd_e hh
 refine TL.op z (OpOk.call (rat_Same_con (x0 := v10) hr105_0 hr105_1 hr105_2 u11) z z pf5 z z z z ?_)
 rintro _ τ106 _ hle106 ⟨a106_1, c106_1, a106_2, c106_2, a106_3, c106_3, rfl, hr106_0, hr106_1, hr106_2, rfl⟩
 replace hr102_0 := hr102_0.mono hle106
 replace hr102_1 := hr102_1.mono hle106
 replace hr102_2 := hr102_2.mono hle106
 have hr106_0b := hr106_0.rv.big
 have hr106_1b := hr106_1.rv.big
 have hr106_2b := hr106_2.rv.big
 refine TL.w z (moveT (.inl z) z) (TL.w z (OpVal.extract z z z) (TL.w z (OpVal.extract z z z) (TL.op z (OpOk.alloc z ze31 z z (fun b107 => ?_)))))
 refine TL.op z (storeAll z sz31 z z z z z z ?_)
 refine TL.i z z (TL.en (TC.a (TL.w z (loadAll z ag31 sz31 z (i := 1) z z) (TL.w z (loadAll z ag31 sz31 z (i := 0) z z) ?_))))
 obtain ⟨v20, u20, hh⟩ := bnd_e hh
 refine TL.op z (OpOk.call (rat_Alt_con (x0 := v3.1) (x1 := v11.1) hr102_0 hr102_1 hr102_2 hr106_0 hr106_1 hr106_2 u20) z z pf15 z z z z ?_)
 rintro _ τ109 _ hle109 ⟨a109_1, c109_1, a109_2, c109_2, a109_3, c109_3, rfl, hr109_0, hr109_1, hr109_2, rfl⟩
 have hr109_0b := hr109_0.rv.big
 have hr109_1b := hr109_1.rv.big
 have hr109_2b := hr109_2.rv.big
 refine TL.w z (moveT (.inl z) z) (TL.w z (OpVal.extract z z z) (TL.w z (OpVal.extract z z z) (TL.op z (OpOk.alloc z ze31 z z (fun b110 => ?_)))))
 refine TL.op z (storeAll z sz31 z z z z z z ?_)
 refine TL.i z z (TL.en (TC.a (TL.w z (loadAll z ag31 sz31 z (i := 0) z z) ?_)))
 obtain ⟨v28, u28, hh⟩ := bnd_e hh
 refine TL.op z (OpOk.call (rat_Star_con (x0 := v20.1) hr109_0 hr109_1 hr109_2 u28) z z pf16 z z z z ?_)
 rintro _ τ112 _ hle112 ⟨a112_1, c112_1, a112_2, c112_2, a112_3, c112_3, rfl, hr112_0, hr112_1, hr112_2, rfl⟩
 have hr112_0b := hr112_0.rv.big
 have hr112_1b := hr112_1.rv.big
 have hr112_2b := hr112_2.rv.big
 refine TL.w z (moveT (.inl z) z) (TL.w z (OpVal.extract z z z) (TL.w z (OpVal.extract z z z) (TL.op z (OpOk.alloc z ze31 z z (fun b113 => ?_)))))
 refine TL.op z (storeAll z sz31 z z z z z z ?_)
 refine TL.i z z (TL.en (TC.a (TL.w z (loadAll z ag31 sz31 z (i := 0) z z) ?_)))
 obtain ⟨v36, u36, hh⟩ := bnd_e hh
 refine TL.op z (OpOk.call (fst_Outs_con (x0 := v28.1) hr112_0 hr112_1 hr112_2 u36) z z pf10 z z z z ?_)
 rintro _ τ115 _ hle115 ⟨a115_1, c115_1, rfl, hr115_0, rfl⟩
 have hr115_0b := hr115_0.rv.big
 refine TL.w z (moveT (.inl z) z) (TL.w z (OpVal.extract z z z) (TL.w z (OpVal.extract z z z) (TL.s z z (TL.i z z (TL.en (TC.a (TL.i z z (TL.w z (OpVal.eql z z z) (TL.j z z (TL.split 39 z (fun h116 => ?_) (fun h116 => ?_)))))))))))
 ·replace hh := iteO_t h116 hh
  replace h116 := of_decide_eq_true h116
  refine TL.g z (moveI (.inl z) z) (TL.g z (moveI (.inl z) z) (TL.g z (OpVal.eql z z z) (TL.w z (pickTB z z z) (TL.j z z (TL.split 44 z (fun h117 => ?_) (fun h117 => ?_))))))
  ·replace hh := iteO_t h117 hh
   replace h117 := of_decide_eq_true h117
   refine TL.g z (moveI (.inl z) z) (TL.g z (moveI (.inl z) z) (TL.g z (OpVal.eql z z z) (TL.w z (pickTB z z z) (TL.j z z (TL.split 49 z (fun h118 => ?_) (fun h118 => ?_))))))
   ·replace hh := iteO_t h118 hh
    replace h118 := of_decide_eq_true h118
    refine TL.g z (moveI (.inl z) z) (TL.g z (moveI (.inl z) z) (TL.g z (OpVal.eql z z z) (TL.w z (pickTB z z z) (TL.j z z (TL.split 54 z (fun h119 => ?_) (fun h119 => ?_))))))
    ·replace hh := iteO_t h119 hh
     replace h119 := of_decide_eq_true h119
     refine TL.g z (moveI (.inl z) z) (TL.g z (moveI (.inl z) z) (TL.g z (OpVal.eql z z z) (TL.w z (pickTB z z z) (TL.j z z (TL.split 59 z (fun h120 => ?_) (fun h120 => ?_))))))
     ·replace hh := iteO_t h120 hh
      replace h120 := of_decide_eq_true h120
      refine TL.g z (moveSl (.inl z) z) (TL.gon z z z z z (OpOk.lit (enc := Go.E.encS) [([120, 98, 120] : List UInt8)] z underlying40 sz9 ze9 z z z Go.E.encS_len (by decide) (by decide) ([] : List UInt8) z (by decide) z (by decide) Go.E.encS_one (fun a121 c122 => ?_)))
      obtain ⟨v67, u67, hh⟩ := bnd_e hh
      refine TL.gon z z z z z (callK (Con.lend Go.E.encS_len (fun _ hle125 hr124 => whittleref03_Texts_con (hr115_0.mono hle125) hr124 u67)) z z pf11 z z z z ?_)
      refine TL.w z (pickTB z z z) (TL.j z z (TL.en (TC.ofSub (Sub.pre 0 z) (TC.back (TC.ret ?_)))))
      obtain rfl := so hh
      exact rq [0] ⟨z, z, z⟩
     ·replace hh := iteO_f h120 hh
      replace h120 := of_decide_eq_false h120
      refine TL.f z (TL.f z (TL.f z (TL.w z (pickFB z z z) (TL.j z z (TL.en (TC.ofSub (Sub.pre 0 z) (TC.back (TC.ret ?_))))))))
      obtain rfl := so hh
      exact rq [0] ⟨z, z, z⟩
    ·replace hh := iteO_f h119 hh
     replace h119 := of_decide_eq_false h119
     refine TL.f z (TL.f z (TL.f z (TL.w z (pickFB z z z) (TL.j z z (TL.f z (TL.f z (TL.f z (TL.w z (pickFB z z z) (TL.j z z (TL.en (TC.ofSub (Sub.pre 0 z) (TC.back (TC.ret ?_)))))))))))))
     obtain rfl := so hh
     exact rq [0] ⟨z, z, z⟩
   ·replace hh := iteO_f h118 hh
    replace h118 := of_decide_eq_false h118
    refine TL.f z (TL.f z (TL.f z (TL.w z (pickFB z z z) (TL.j z z (TL.f z (TL.f z (TL.f z (TL.w z (pickFB z z z) (TL.j z z (TL.f z (TL.f z (TL.f z (TL.w z (pickFB z z z) (TL.j z z (TL.en ?_)))))))))))))))
    refine TC.ofSub (Sub.pre 0 z) (TC.back (TC.ret ?_))
    obtain rfl := so hh
    exact rq [0] ⟨z, z, z⟩
  ·replace hh := iteO_f h117 hh
   replace h117 := of_decide_eq_false h117
   refine TL.f z (TL.f z (TL.f z (TL.w z (pickFB z z z) (TL.j z z (TL.f z (TL.f z (TL.f z (TL.w z (pickFB z z z) (TL.j z z (TL.f z (TL.f z (TL.f z (TL.w z (pickFB z z z) (TL.j z z (TL.f z ?_)))))))))))))))
   refine TL.f z (TL.f z (TL.w z (pickFB z z z) (TL.j z z (TL.en (TC.ofSub (Sub.pre 0 z) (TC.back (TC.ret ?_)))))))
   obtain rfl := so hh
   exact rq [0] ⟨z, z, z⟩
 ·replace hh := iteO_f h116 hh
  replace h116 := of_decide_eq_false h116
  refine TL.f z (TL.f z (TL.f z (TL.w z (pickFB z z z) (TL.j z z (TL.f z (TL.f z (TL.f z (TL.w z (pickFB z z z) (TL.j z z (TL.f z (TL.f z (TL.f z (TL.w z (pickFB z z z) (TL.j z z (TL.f z ?_)))))))))))))))
  refine TL.f z (TL.f z (TL.w z (pickFB z z z) (TL.j z z (TL.f z (TL.f z (TL.f z (TL.w z (pickFB z z z) (TL.j z z (TL.en (TC.ofSub (Sub.pre 0 z) (TC.back (TC.ret ?_))))))))))))
  obtain rfl := so hh
  exact rq [0] ⟨z, z, z⟩

end Go.Proofs.YtcfjjckencjjeaaDoor
end

/- Cmp -/
section
/- Partial functions compared: what the one answers, the other answers. Plain lemmas; no program, no condition. -/
set_option linter.unusedVariables false
set_option linter.unusedSimpArgs false
namespace Go.E
open Go

/-- Where a answers, b answers the same. -/
class LeC {α : Type} (a b : Option α) : Prop where
  le : ∀ r, a = some r → b = some r
instance LeC.bnd {α β : Type} {a b : Option α} {f g : α → Option β} [h : LeC a b] [k : ∀ x, LeC (f x) (g x)] : LeC (Go.E.bnd a f) (Go.E.bnd b g) := ⟨fun r hr => by
  obtain ⟨x, h1, h2⟩ := bnd_e hr
  rw [bnd_some (h.le _ h1)]; exact (k x).le _ h2⟩
instance LeC.grd {α : Type} {p : Prop} [Decidable p] {a b : Option α} [h : LeC a b] : LeC (Go.E.grd p a) (Go.E.grd p b) := ⟨fun r hr => by
  rw [grd_mk (grd_c hr)]; exact h.le _ (grd_t hr)⟩
instance LeC.iteO {α : Type} {c : Bool} {a b a' b' : Option α} [h : LeC a b] [k : LeC a' b'] : LeC (Go.E.iteO c a a') (Go.E.iteO c b b') := ⟨fun r hr => by
  cases c
  · exact k.le _ hr
  · exact h.le _ hr⟩
instance LeC.fin {S α : Type} {a b : Option α} [h : LeC a b] : LeC (Go.E.fin (S := S) a) (Go.E.fin b) := ⟨fun r hr => by
  cases a with
  | none => cases hr
  | some x => rw [h.le x rfl]; exact hr⟩
instance LeC.nxt {S R : Type} {s : S} : LeC (Go.E.nxt (R := R) s) (Go.E.nxt s) := ⟨fun _ h => h⟩
instance LeC.some {α : Type} {x : α} : LeC (Option.some x) (Option.some x) := ⟨fun _ h => h⟩
instance LeC.none {α : Type} {b : Option α} : LeC Option.none b := ⟨fun _ h => by cases h⟩
/-- A loop, its rounds counted. -/
def iterX {S R : Type} (n : Nat) (f : S → Option (S ⊕ R)) (s : S) : Option R := iterN f n s
theorem iterN_LeC {S R : Type} {f g : S → Option (S ⊕ R)} (h : ∀ s, LeC (f s) (g s)) : ∀ (n : Nat) (s : S) (r : R), iterN f n s = Option.some r → iterN g n s = Option.some r
  | 0, _, _, hr => by cases hr
  | n + 1, s, r, hr => by
    rw [iterN] at hr ⊢
    cases hs : f s with
    | none => rw [hs] at hr; cases hr
    | some z =>
      rw [hs] at hr
      rw [(h s).le z hs]
      cases z with
      | inl s' => exact iterN_LeC h n s' r hr
      | inr r' => exact hr
instance LeC.iter {S R : Type} {n : Nat} {f g : S → Option (S ⊕ R)} {s : S} [h : ∀ s, LeC (f s) (g s)] : LeC (iterX n f s) (Go.E.iter g s) := ⟨fun r hr => iter_iff.2 ⟨n, iterN_LeC h n s r hr⟩⟩
instance LeC.stepY {S α : Type} {B B' : S → α → Option (Nat × S)} {p : Nat × S} {x : α} [h : ∀ s x, LeC (B s x) (B' s x)] : LeC (Go.E.stepY B p x) (Go.E.stepY B' p x) := ⟨fun r hr => by
  unfold Go.E.stepY at hr ⊢
  split at hr
  · rename_i h0
    rw [if_pos h0]
    cases hb : B p.2 x with
    | none => rw [hb] at hr; cases hr
    | some q => rw [hb] at hr; rw [(h p.2 x).le q hb]; exact hr
  · cases hr⟩
instance LeC.jsel {α : Type} {j : Nat} {a a' : Option α} {b b' : Nat → Option α} [h : LeC a a'] [k : ∀ j, LeC (b j) (b' j)] : LeC (Go.E.jsel j a b) (Go.E.jsel j a' b') := ⟨fun r hr => by
  cases j with
  | zero => exact h.le _ hr
  | succ j => exact (k j).le _ hr⟩
end Go.E
end

/- Isr -/
section
/- Sorting by putting in, for the kernel to run. Plain lemmas; no program, no condition. -/
set_option linter.unusedVariables false
set_option linter.unusedSimpArgs false
namespace Go.E
open Go

def insI (a : Int) : List Int → List Int
  | [] => [a]
  | b :: l => if a ≤ b then a :: b :: l else b :: insI a l
def isortI : List Int → List Int
  | [] => []
  | a :: l => insI a (isortI l)
theorem insI_app {a : Int} {l2 : List Int} (h2 : ∀ b ∈ l2, a ≤ b) : ∀ (l1 : List Int), (∀ b ∈ l1, ¬ a ≤ b) → insI a (l1 ++ l2) = l1 ++ a :: l2
  | [], _ => by
    cases l2 with
    | nil => rfl
    | cons b l => simp [insI, h2 b (List.mem_cons_self ..)]
  | b :: l1, h => by
    have h1 := h b (List.mem_cons_self ..)
    simp only [List.cons_append, insI, if_neg h1, insI_app h2 l1 (fun c hc => h c (List.mem_cons_of_mem _ hc))]
theorem isortI_eq : ∀ (l : List Int), isortI l = l.mergeSort fun x y => decide (x ≤ y)
  | [] => by simp [isortI]
  | a :: l => by
    have ht : ∀ a b c : Int, decide (a ≤ b) = true → decide (b ≤ c) = true → decide (a ≤ c) = true := fun a b c h k => by simp at *; omega
    have hT : ∀ a b : Int, (decide (a ≤ b) || decide (b ≤ a)) = true := fun a b => by simp; omega
    obtain ⟨l1, l2, h1, h2, h3⟩ := List.mergeSort_cons (le := fun x y => decide (x ≤ y)) ht hT a l
    have hs := List.pairwise_mergeSort (le := fun x y => decide (x ≤ y)) ht hT (a :: l)
    rw [h1] at hs ⊢
    rw [isortI, isortI_eq l, h2]
    refine insI_app (fun b hb => ?_) l1 (fun b hb => ?_)
    · have := (List.pairwise_append.1 hs).2.1
      simpa using (List.pairwise_cons.1 this).1 b hb
    · simpa using h3 b hb
end Go.E
end

/- X16 -/
section
/- The decompiled functions that rat_Alt,rat_Star,dfa_Of reaches, with rounds that are counted: for the kernel to run. No condition. -/
set_option linter.unusedVariables false
set_option linter.unusedSimpArgs false
namespace Go.Proofs.YtcfjjckencjjeaaDoor
open Go Go.E
set_option maxRecDepth 100000
set_option synthInstance.maxHeartbeats 2000000
set_option synthInstance.maxSize 100000
set_option maxHeartbeats 4000000
def compactI_j1_x (n : Nat) (k125 : Nat) (l128 : List Int) (k130 : Nat) : Option (((List Int) × Nat × Nat) ⊕ ((Nat) ⊕ ((List Int)))) :=
  nxt (l128, k130, (k125 + 1))
instance compactI_j1_le {n : Nat} {k125 : Nat} {l128 : List Int} {k130 : Nat} : LeC (compactI_j1_x n k125 l128 k130) (compactI_j1 k125 l128 k130) := by
  unfold compactI_j1_x compactI_j1; infer_instance
def compactI_b2_x (n : Nat) (x0 : List Int) (k105 : Nat) (l122 : List Int) (k124 : Nat) (k125 : Nat) : Option (((List Int) × Nat × Nat) ⊕ ((Nat) ⊕ ((List Int)))) :=
  iteO (decide (((k125 : Nat) : Int) < (((x0.length - k105) : Nat) : Int))) (grd (k125 < (x0.length - k105)) (grd (0 ≤ (IntKind.i64.wrap (((k125 : Nat) : Int) - 1)) ∧ (IntKind.i64.wrap (((k125 : Nat) : Int) - 1)) < ((x0.length - k105) : Nat)) (iteO (decide ((nth l122 (k105 + k125) (0 : Int)) ≠ (nth l122 (k105 + (IntKind.i64.wrap (((k125 : Nat) : Int) - 1)).toNat) (0 : Int)))) (grd (k125 < (x0.length - k105)) (grd (k124 < l122.length) (compactI_j1_x n k125 (l122.set k124 (nth l122 (k105 + k125) (0 : Int))) (k124 + 1)))) (compactI_j1_x n k125 l122 k124)))) (fin (grd (k124 ≤ x0.length) (grd (k124 ≤ (l122.take k124 ++ List.replicate (l122.length - k124) (0 : Int)).length) (fin (some ((l122.take k124 ++ List.replicate (l122.length - k124) (0 : Int)).take k124))))))
instance compactI_b2_le {n : Nat} {x0 : List Int} {k105 : Nat} {l122 : List Int} {k124 : Nat} {k125 : Nat} : LeC (compactI_b2_x n x0 k105 l122 k124 k125) (compactI_b2 x0 k105 l122 k124 k125) := by
  unfold compactI_b2_x compactI_b2; infer_instance
def compactI_b1_x (n : Nat) (x0 : List Int) (k105 : Nat) : Option ((Nat) ⊕ ((List Int))) :=
  iteO (decide (((k105 : Nat) : Int) < ((x0.length : Nat) : Int))) (grd (0 ≤ (IntKind.i64.wrap (((k105 : Nat) : Int) - 1)) ∧ (IntKind.i64.wrap (((k105 : Nat) : Int) - 1)) < (x0.length : Int)) (iteO (decide ((nth x0 k105 (0 : Int)) = (nth x0 ((IntKind.i64.wrap (((k105 : Nat) : Int) - 1)).toNat) (0 : Int)))) (grd (k105 ≤ x0.length) (iterX n (fun q : (List Int) × Nat × Nat => compactI_b2_x n x0 k105 q.1 q.2.1 q.2.2) (x0, k105, 1))) (nxt (k105 + 1)))) (fin (some x0))
instance compactI_b1_le {n : Nat} {x0 : List Int} {k105 : Nat} : LeC (compactI_b1_x n x0 k105) (compactI_b1 x0 k105) := by
  unfold compactI_b1_x compactI_b1; infer_instance
def compactI_x (n : Nat) (x0 : List Int) : Option ((List Int)) :=
  iteO (decide (((x0.length : Nat) : Int) < 2)) (some x0) (iterX n (fun q : Nat => compactI_b1_x n x0 q) 1)
instance compactI_le {n : Nat} {x0 : List Int} : LeC (compactI_x n x0) (compactI x0) := by
  unfold compactI_x compactI; infer_instance
def intern_Sort_x (n : Nat) (x0 : List Int) : Option ((List Int)) :=
  grd (x0.length * 8 ≤ 140737488355328) (bnd (compactI_x n (isortI x0)) (fun v8 => some v8))
instance intern_Sort_le {n : Nat} {x0 : List Int} : LeC (intern_Sort_x n x0) (intern_Sort x0) := by
  unfold intern_Sort_x intern_Sort; simp only [isortI_eq]; infer_instance
def intern_key_b2_x (n : Nat) (x0 : List Int) (k115 : Nat) (l126 : List UInt8) (k129 : Nat) : Option (((List UInt8) × Nat) ⊕ (((List UInt8) × Nat) ⊕ ((List UInt8)))) :=
  iteO (decide (((k129 : Nat) : Int) < 8)) (grd (0 ≤ IntKind.i64.wrap (8 * ((k129 : Nat) : Int))) (grd ((l126.length + [(toU8 (((u64shr (u64of (nth x0 k115 (0 : Int))) ((IntKind.i64.wrap (8 * ((k129 : Nat) : Int))).toNat)) : Nat) : Int))].length) * 1 ≤ 140737488355328) (nxt ((l126 ++ [(toU8 (((u64shr (u64of (nth x0 k115 (0 : Int))) ((IntKind.i64.wrap (8 * ((k129 : Nat) : Int))).toNat)) : Nat) : Int))]), (k129 + 1))))) (fin (nxt (l126, (k115 + 1))))
instance intern_key_b2_le {n : Nat} {x0 : List Int} {k115 : Nat} {l126 : List UInt8} {k129 : Nat} : LeC (intern_key_b2_x n x0 k115 l126 k129) (intern_key_b2 x0 k115 l126 k129) := by
  unfold intern_key_b2_x intern_key_b2; infer_instance
def intern_key_b1_x (n : Nat) (x0 : List Int) (l112 : List UInt8) (k115 : Nat) : Option (((List UInt8) × Nat) ⊕ ((List UInt8))) :=
  iteO (decide (((k115 : Nat) : Int) < ((x0.length : Nat) : Int))) (iterX n (fun q : (List UInt8) × Nat => intern_key_b2_x n x0 k115 q.1 q.2) (l112, 0)) (fin (some l112))
instance intern_key_b1_le {n : Nat} {x0 : List Int} {l112 : List UInt8} {k115 : Nat} : LeC (intern_key_b1_x n x0 l112 k115) (intern_key_b1 x0 l112 k115) := by
  unfold intern_key_b1_x intern_key_b1; infer_instance
def intern_key_x (n : Nat) (x0 : List Int) : Option ((List UInt8)) :=
  grd (0 ≤ IntKind.i64.wrap (8 * ((x0.length : Nat) : Int)) ∧ 1 * (IntKind.i64.wrap (8 * ((x0.length : Nat) : Int))).toNat ≤ 281474976710656) (iterX n (fun q : (List UInt8) × Nat => intern_key_b1_x n x0 q.1 q.2) (([] : List UInt8), 0))
instance intern_key_le {n : Nat} {x0 : List Int} : LeC (intern_key_x n x0) (intern_key x0) := by
  unfold intern_key_x intern_key; infer_instance
def intern_store_string_find_x (n : Nat) (x0 : IStore) (x1 : List UInt8) : Option (Int × Bool) :=
  grd (x1.length ≤ 281474976710656) (some ((x0.places.get x1 0), (x0.places.has x1)))
instance intern_store_string_find_le {n : Nat} {x0 : IStore} {x1 : List UInt8} : LeC (intern_store_string_find_x n x0 x1) (intern_store_string_find x0 x1) := by
  unfold intern_store_string_find_x intern_store_string_find; infer_instance
def intern_store_string_add_x (n : Nat) (x0 : IStore) (x1 : List UInt8) (x2 : List Int) : Option (Int × IStore) :=
  grd (x1.length ≤ 281474976710656) (grd ((x0.rows.length + [x2].length) * 24 ≤ 140737488355328) (some (((x0.rows.length : Nat) : Int), (⟨(x0.rows ++ [x2]), (x0.places.put x1 ((x0.rows.length : Nat) : Int))⟩ : IStore))))
instance intern_store_string_add_le {n : Nat} {x0 : IStore} {x1 : List UInt8} {x2 : List Int} : LeC (intern_store_string_add_x n x0 x1 x2) (intern_store_string_add x0 x1 x2) := by
  unfold intern_store_string_add_x intern_store_string_add; infer_instance
def intern_New_x (n : Nat) : Option (ITable) :=
  some (⟨(⟨([] : List (List Int)), (FM.emp : FM (List UInt8) Int)⟩ : IStore)⟩ : ITable)
instance intern_New_le {n : Nat}  : LeC (intern_New_x n) (intern_New) := by
  unfold intern_New_x intern_New; infer_instance
def intern_Table_Put_x (n : Nat) (x0 : ITable) (x1 : List Int) : Option (Int × Bool × Int × ITable) :=
  bnd (intern_Sort_x n x1) (fun v10 => bnd (intern_key_x n v10) (fun v13 => bnd (intern_store_string_find_x n (⟨x0.of.rows, x0.of.places⟩ : IStore) v13) (fun v19 => iteO v19.2 (some (v19.1, false, 0, (⟨(⟨x0.of.rows, x0.of.places⟩ : IStore)⟩ : ITable))) (iteO (decide (4096 ≤ ((x0.of.rows.length : Nat) : Int))) (some (0, false, 2, (⟨(⟨x0.of.rows, x0.of.places⟩ : IStore)⟩ : ITable))) (bnd (intern_store_string_add_x n (⟨x0.of.rows, x0.of.places⟩ : IStore) v13 v10) (fun v45 => some (v45.1, true, 0, (⟨(⟨v45.2.rows, v45.2.places⟩ : IStore)⟩ : ITable))))))))
instance intern_Table_Put_le {n : Nat} {x0 : ITable} {x1 : List Int} : LeC (intern_Table_Put_x n x0 x1) (intern_Table_Put x0 x1) := by
  unfold intern_Table_Put_x intern_Table_Put; infer_instance
def intern_Table_Row_x (n : Nat) (x0 : ITable) (x1 : Int) : Option ((List Int) × Int) :=
  iteO (decide (x1 < 0)) (some (([] : List Int), 1)) (iteO (decide (((x0.of.rows.length : Nat) : Int) ≤ x1)) (some (([] : List Int), 1)) (grd (0 ≤ x1 ∧ x1 < (x0.of.rows.length : Int)) (grd ((nth x0.of.rows x1.toNat ([] : List Int)).length * 8 ≤ 140737488355328) (some ((nth x0.of.rows x1.toNat ([] : List Int)), 0)))))
instance intern_Table_Row_le {n : Nat} {x0 : ITable} {x1 : Int} : LeC (intern_Table_Row_x n x0 x1) (intern_Table_Row x0 x1) := by
  unfold intern_Table_Row_x intern_Table_Row; infer_instance
def putKeep_x (n : Nat) (x0 : ITable) (x1 : List Int) : Option (Int × Bool × Int × ITable) :=
  bnd (intern_Sort_x n x1) (fun v10 => bnd (intern_key_x n v10) (fun v13 => bnd (intern_store_string_find_x n (⟨x0.of.rows, x0.of.places⟩ : IStore) v13) (fun v19 => iteO v19.2 (some (v19.1, false, 0, (⟨(⟨x0.of.rows, x0.of.places⟩ : IStore)⟩ : ITable))) (iteO (decide (4096 ≤ ((x0.of.rows.length : Nat) : Int))) (some (0, false, 2, (⟨(⟨x0.of.rows, x0.of.places⟩ : IStore)⟩ : ITable))) (bnd (intern_store_string_add_x n (⟨x0.of.rows, x0.of.places⟩ : IStore) v13 v10) (fun v45 => some (v45.1, true, 0, (⟨(⟨v45.2.rows, v45.2.places⟩ : IStore)⟩ : ITable))))))))
instance putKeep_le {n : Nat} {x0 : ITable} {x1 : List Int} : LeC (putKeep_x n x0 x1) (putKeep x0 x1) := by
  unfold putKeep_x putKeep; infer_instance
def intern_Table_Size_x (n : Nat) (x0 : ITable) : Option (Int) :=
  some ((x0.of.rows.length : Nat) : Int)
instance intern_Table_Size_le {n : Nat} {x0 : ITable} : LeC (intern_Table_Size_x n x0) (intern_Table_Size x0) := by
  unfold intern_Table_Size_x intern_Table_Size; infer_instance
def math_bits_TrailingZeros64_x (n : Nat) (x0 : Nat) : Option (Int) :=
  iteO (decide (x0 = 0)) (some 64) (grd ((u64shr (u64mul (u64and x0 (u64of (-((x0 : Nat) : Int)))) 285870213051353865) 58) < 64) (some (((nth deB (u64shr (u64mul (u64and x0 (u64of (-((x0 : Nat) : Int)))) 285870213051353865) 58) (0 : UInt8)).toNat : Nat) : Int)))
instance math_bits_TrailingZeros64_le {n : Nat} {x0 : Nat} : LeC (math_bits_TrailingZeros64_x n x0) (math_bits_TrailingZeros64 x0) := by
  unfold math_bits_TrailingZeros64_x math_bits_TrailingZeros64; infer_instance
def set_First_b1_x (n : Nat) (x0 : BSet) (k105 : Nat) : Option ((Nat) ⊕ (UInt8 × Bool)) :=
  iteO (decide (((k105 : Nat) : Int) < 4)) (grd (k105 < 4) (iteO (decide ((BSet.word x0 k105) ≠ 0)) (bnd (math_bits_TrailingZeros64_x n (BSet.word x0 k105)) (fun v16 => fin (some ((toU8 (IntKind.i64.wrap ((IntKind.i64.wrap (64 * ((k105 : Nat) : Int))) + v16))), true)))) (nxt (k105 + 1)))) (fin (some ((0 : UInt8), false)))
instance set_First_b1_le {n : Nat} {x0 : BSet} {k105 : Nat} : LeC (set_First_b1_x n x0 k105) (set_First_b1 x0 k105) := by
  unfold set_First_b1_x set_First_b1; infer_instance
def set_First_x (n : Nat) (x0 : BSet) : Option (UInt8 × Bool) :=
  iterX n (fun q : Nat => set_First_b1_x n x0 q) 0
instance set_First_le {n : Nat} {x0 : BSet} : LeC (set_First_x n x0) (set_First x0) := by
  unfold set_First_x set_First; infer_instance
def set_Any_b1_x (n : Nat) (x1 : BSet) (z111 : BSet) (k112 : Nat) : Option ((BSet × Nat) ⊕ (BSet)) :=
  iteO (decide (((k112 : Nat) : Int) < 4)) (grd (k112 < 4) (grd (k112 < 4) (grd (k112 < 4) (grd ((u64or (BSet.word z111 k112) (BSet.word x1 k112)) < 18446744073709551616) (nxt ((BSet.setWord z111 k112 (u64or (BSet.word z111 k112) (BSet.word x1 k112))), (k112 + 1))))))) (fin (some z111))
instance set_Any_b1_le {n : Nat} {x1 : BSet} {z111 : BSet} {k112 : Nat} : LeC (set_Any_b1_x n x1 z111 k112) (set_Any_b1 x1 z111 k112) := by
  unfold set_Any_b1_x set_Any_b1; infer_instance
def set_Any_x (n : Nat) (x0 : BSet) (x1 : BSet) : Option (BSet) :=
  iterX n (fun q : BSet × Nat => set_Any_b1_x n x1 q.1 q.2) (x0, 0)
instance set_Any_le {n : Nat} {x0 : BSet} {x1 : BSet} : LeC (set_Any_x n x0 x1) (set_Any x0 x1) := by
  unfold set_Any_x set_Any; infer_instance
def part_key_j1_x (n : Nat) (k112 : Nat) (l115 : List UInt8) : Option (((List UInt8) × Nat) ⊕ ((List UInt8))) :=
  nxt (l115, (k112 + 1))
instance part_key_j1_le {n : Nat} {k112 : Nat} {l115 : List UInt8} : LeC (part_key_j1_x n k112 l115) (part_key_j1 k112 l115) := by
  unfold part_key_j1_x part_key_j1; infer_instance
def part_key_b1_x (n : Nat) (x0 : List BSet) (x1 : UInt8) (l110 : List UInt8) (k112 : Nat) : Option (((List UInt8) × Nat) ⊕ ((List UInt8))) :=
  iteO (decide (((k112 : Nat) : Int) < ((x0.length : Nat) : Int))) (iteO ((nth x0 k112 BSet.zero).has x1.toNat) (grd (k112 < l110.length) (part_key_j1_x n k112 (l110.set k112 (1 : UInt8)))) (part_key_j1_x n k112 l110)) (fin (some l110))
instance part_key_b1_le {n : Nat} {x0 : List BSet} {x1 : UInt8} {l110 : List UInt8} {k112 : Nat} : LeC (part_key_b1_x n x0 x1 l110 k112) (part_key_b1 x0 x1 l110 k112) := by
  unfold part_key_b1_x part_key_b1; infer_instance
def part_key_x (n : Nat) (x0 : List BSet) (x1 : UInt8) : Option ((List UInt8)) :=
  grd (1 * x0.length ≤ 281474976710656) (iterX n (fun q : (List UInt8) × Nat => part_key_b1_x n x0 x1 q.1 q.2) ((List.replicate x0.length (0 : UInt8)), 0))
instance part_key_le {n : Nat} {x0 : List BSet} {x1 : UInt8} : LeC (part_key_x n x0 x1) (part_key x0 x1) := by
  unfold part_key_x part_key; infer_instance
def part_Parts_j1_x (n : Nat) (k121 : Nat) (m125 : FM (List UInt8) Int) (l126 : List BSet) (i129 : Int) : Option (((FM (List UInt8) Int) × (List BSet) × Nat) ⊕ ((List BSet) × Int)) :=
  grd (0 ≤ i129 ∧ i129 < (l126.length : Int)) (grd ([(toU8 ((k121 : Nat) : Int))].length ≤ 1000000000000) (bnd (set_Any_x n (nth l126 i129.toNat BSet.zero) (BSet.ofL [(toU8 ((k121 : Nat) : Int))])) (fun v52 => grd (0 ≤ i129 ∧ i129 < (l126.length : Int)) (nxt (m125, (l126.set i129.toNat v52), (k121 + 1))))))
instance part_Parts_j1_le {n : Nat} {k121 : Nat} {m125 : FM (List UInt8) Int} {l126 : List BSet} {i129 : Int} : LeC (part_Parts_j1_x n k121 m125 l126 i129) (part_Parts_j1 k121 m125 l126 i129) := by
  unfold part_Parts_j1_x part_Parts_j1; infer_instance
def part_Parts_b1_x (n : Nat) (x0 : List BSet) (m116 : FM (List UInt8) Int) (l118 : List BSet) (k121 : Nat) : Option (((FM (List UInt8) Int) × (List BSet) × Nat) ⊕ ((List BSet) × Int)) :=
  iteO (decide (((k121 : Nat) : Int) < 256)) (bnd (part_key_x n x0 (toU8 ((k121 : Nat) : Int))) (fun v18 => iteO (!(m116.has v18)) (grd ((l118.length + [BSet.zero].length) * 32 ≤ 140737488355328) (part_Parts_j1_x n k121 (m116.put v18 ((l118.length : Nat) : Int)) (l118 ++ [BSet.zero]) ((l118.length : Nat) : Int))) (part_Parts_j1_x n k121 m116 l118 (m116.get v18 0)))) (fin (some (l118, 0)))
instance part_Parts_b1_le {n : Nat} {x0 : List BSet} {m116 : FM (List UInt8) Int} {l118 : List BSet} {k121 : Nat} : LeC (part_Parts_b1_x n x0 m116 l118 k121) (part_Parts_b1 x0 m116 l118 k121) := by
  unfold part_Parts_b1_x part_Parts_b1; infer_instance
def part_Parts_x (n : Nat) (x0 : List BSet) : Option ((List BSet) × Int) :=
  iteO (decide (1024 < ((x0.length : Nat) : Int))) (some (([] : List BSet), 2)) (iterX n (fun q : (FM (List UInt8) Int) × (List BSet) × Nat => part_Parts_b1_x n x0 q.1 q.2.1 q.2.2) ((FM.emp : FM (List UInt8) Int), ([] : List BSet), 0))
instance part_Parts_le {n : Nat} {x0 : List BSet} : LeC (part_Parts_x n x0) (part_Parts x0) := by
  unfold part_Parts_x part_Parts; infer_instance
def part_Class_j1_x (n : Nat) (k146 : Nat) (l149 : List Int) : Option (((List Int) × Nat) ⊕ (((List Int) × Int × Nat) ⊕ ((List Int) × Int))) :=
  nxt (l149, (k146 + 1))
instance part_Class_j1_le {n : Nat} {k146 : Nat} {l149 : List Int} : LeC (part_Class_j1_x n k146 l149) (part_Class_j1 k146 l149) := by
  unfold part_Class_j1_x part_Class_j1; infer_instance
def part_Class_b3_x (n : Nat) (x0 : List BSet) (k130 : Nat) (v29 : UInt8 × Bool) (l144 : List Int) (k146 : Nat) : Option (((List Int) × Nat) ⊕ (((List Int) × Int × Nat) ⊕ ((List Int) × Int))) :=
  iteO (decide (((k146 : Nat) : Int) < 256)) (iteO (!((nth x0 k130 BSet.zero).has (toU8 ((k146 : Nat) : Int)).toNat)) (part_Class_j1_x n k146 l144) (grd (k146 < l144.length) (iteO (decide (0 ≤ (nth l144 k146 (0 : Int)))) (fin (fin (some (([] : List Int), 1)))) (grd (k146 < l144.length) (part_Class_j1_x n k146 (l144.set k146 ((k130 : Nat) : Int))))))) (fin (nxt (l144, ((v29.1.toNat : Nat) : Int), (k130 + 1))))
instance part_Class_b3_le {n : Nat} {x0 : List BSet} {k130 : Nat} {v29 : UInt8 × Bool} {l144 : List Int} {k146 : Nat} : LeC (part_Class_b3_x n x0 k130 v29 l144 k146) (part_Class_b3 x0 k130 v29 l144 k146) := by
  unfold part_Class_b3_x part_Class_b3; infer_instance
def part_Class_b4_x (n : Nat) (l127 : List Int) (k165 : Nat) : Option ((Nat) ⊕ ((List Int) × Int)) :=
  iteO (decide (((k165 : Nat) : Int) < (((List.replicate 256 (0 : Int)).length : Nat) : Int))) (grd (k165 < l127.length) (iteO (decide ((nth l127 k165 (0 : Int)) < 0)) (fin (some (([] : List Int), 1))) (nxt (k165 + 1)))) (fin (some (l127, 0)))
instance part_Class_b4_le {n : Nat} {l127 : List Int} {k165 : Nat} : LeC (part_Class_b4_x n l127 k165) (part_Class_b4 l127 k165) := by
  unfold part_Class_b4_x part_Class_b4; infer_instance
def part_Class_b2_x (n : Nat) (x0 : List BSet) (l127 : List Int) (i129 : Int) (k130 : Nat) : Option (((List Int) × Int × Nat) ⊕ ((List Int) × Int)) :=
  iteO (decide (((k130 : Nat) : Int) < ((x0.length : Nat) : Int))) (bnd (set_First_x n (nth x0 k130 BSet.zero)) (fun v29 => iteO (!v29.2) (fin (some (([] : List Int), 1))) (iteO (decide (((v29.1.toNat : Nat) : Int) ≤ i129)) (fin (some (([] : List Int), 1))) (iterX n (fun q : (List Int) × Nat => part_Class_b3_x n x0 k130 v29 q.1 q.2) (l127, 0))))) (fin (iterX n (fun q : Nat => part_Class_b4_x n l127 q) 0))
instance part_Class_b2_le {n : Nat} {x0 : List BSet} {l127 : List Int} {i129 : Int} {k130 : Nat} : LeC (part_Class_b2_x n x0 l127 i129 k130) (part_Class_b2 x0 l127 i129 k130) := by
  unfold part_Class_b2_x part_Class_b2; infer_instance
def part_Class_b1_x (n : Nat) (x0 : List BSet) (l110 : List Int) (k112 : Nat) : Option (((List Int) × Nat) ⊕ ((List Int) × Int)) :=
  iteO (decide (((k112 : Nat) : Int) < (((List.replicate 256 (0 : Int)).length : Nat) : Int))) (grd (k112 < l110.length) (nxt ((l110.set k112 (-1)), (k112 + 1)))) (fin (iterX n (fun q : (List Int) × Int × Nat => part_Class_b2_x n x0 q.1 q.2.1 q.2.2) (l110, (-1), 0)))
instance part_Class_b1_le {n : Nat} {x0 : List BSet} {l110 : List Int} {k112 : Nat} : LeC (part_Class_b1_x n x0 l110 k112) (part_Class_b1 x0 l110 k112) := by
  unfold part_Class_b1_x part_Class_b1; infer_instance
def part_Class_x (n : Nat) (x0 : List BSet) : Option ((List Int) × Int) :=
  iterX n (fun q : (List Int) × Nat => part_Class_b1_x n x0 q.1 q.2) ((List.replicate 256 (0 : Int)), 0)
instance part_Class_le {n : Nat} {x0 : List BSet} : LeC (part_Class_x n x0) (part_Class x0) := by
  unfold part_Class_x part_Class; infer_instance
def dfa_unlike_j1_x (n : Nat) (k120 : Nat) (m124 : FM BSet Int) (l125 : List BSet) : Option (((FM BSet Int) × (List BSet) × Nat) ⊕ ((List BSet))) :=
  nxt (m124, l125, (k120 + 1))
instance dfa_unlike_j1_le {n : Nat} {k120 : Nat} {m124 : FM BSet Int} {l125 : List BSet} : LeC (dfa_unlike_j1_x n k120 m124 l125) (dfa_unlike_j1 k120 m124 l125) := by
  unfold dfa_unlike_j1_x dfa_unlike_j1; infer_instance
def dfa_unlike_b1_x (n : Nat) (x0 : List Arrow) (m115 : FM BSet Int) (l117 : List BSet) (k120 : Nat) : Option (((FM BSet Int) × (List BSet) × Nat) ⊕ ((List BSet))) :=
  iteO (decide (((k120 : Nat) : Int) < ((x0.length : Nat) : Int))) (iteO (!(m115.has ((nth x0 k120 Arrow.zero).set))) (grd ((l117.length + [(nth x0 k120 Arrow.zero).set].length) * 32 ≤ 140737488355328) (dfa_unlike_j1_x n k120 (m115.put ((nth x0 k120 Arrow.zero).set) ((l117.length : Nat) : Int)) (l117 ++ [(nth x0 k120 Arrow.zero).set]))) (dfa_unlike_j1_x n k120 m115 l117)) (fin (some l117))
instance dfa_unlike_b1_le {n : Nat} {x0 : List Arrow} {m115 : FM BSet Int} {l117 : List BSet} {k120 : Nat} : LeC (dfa_unlike_b1_x n x0 m115 l117 k120) (dfa_unlike_b1 x0 m115 l117 k120) := by
  unfold dfa_unlike_b1_x dfa_unlike_b1; infer_instance
def dfa_unlike_x (n : Nat) (x0 : List Arrow) : Option ((List BSet)) :=
  iterX n (fun q : (FM BSet Int) × (List BSet) × Nat => dfa_unlike_b1_x n x0 q.1 q.2.1 q.2.2) ((FM.emp : FM BSet Int), ([] : List BSet), 0)
instance dfa_unlike_le {n : Nat} {x0 : List Arrow} : LeC (dfa_unlike_x n x0) (dfa_unlike x0) := by
  unfold dfa_unlike_x dfa_unlike; infer_instance
def dfa_behind_j1_x (n : Nat) (k133 : Nat) (l136 : List Int) : Option (((List Int) × Nat) ⊕ (((List Int) × Nat) ⊕ ((List Int)))) :=
  nxt (l136, (k133 + 1))
instance dfa_behind_j1_le {n : Nat} {k133 : Nat} {l136 : List Int} : LeC (dfa_behind_j1_x n k133 l136) (dfa_behind_j1 k133 l136) := by
  unfold dfa_behind_j1_x dfa_behind_j1; infer_instance
def dfa_behind_b2_x (n : Nat) (x0 : List (List Arrow)) (x1 : List Int) (k117 : Nat) (v4 : UInt8 × Bool) (l130 : List Int) (k133 : Nat) : Option (((List Int) × Nat) ⊕ (((List Int) × Nat) ⊕ ((List Int)))) :=
  iteO (decide (((k133 : Nat) : Int) < (((nth x0 ((nth x1 k117 (0 : Int)).toNat) ([] : List Arrow)).length : Nat) : Int))) (iteO (((nth (nth x0 ((nth x1 k117 (0 : Int)).toNat) ([] : List Arrow)) k133 Arrow.zero).set).has v4.1.toNat) (grd ((l130.length + [(nth (nth x0 ((nth x1 k117 (0 : Int)).toNat) ([] : List Arrow)) k133 Arrow.zero).to].length) * 8 ≤ 140737488355328) (dfa_behind_j1_x n k133 (l130 ++ [(nth (nth x0 ((nth x1 k117 (0 : Int)).toNat) ([] : List Arrow)) k133 Arrow.zero).to]))) (dfa_behind_j1_x n k133 l130)) (fin (nxt (l130, (k117 + 1))))
instance dfa_behind_b2_le {n : Nat} {x0 : List (List Arrow)} {x1 : List Int} {k117 : Nat} {v4 : UInt8 × Bool} {l130 : List Int} {k133 : Nat} : LeC (dfa_behind_b2_x n x0 x1 k117 v4 l130 k133) (dfa_behind_b2 x0 x1 k117 v4 l130 k133) := by
  unfold dfa_behind_b2_x dfa_behind_b2; infer_instance
def dfa_behind_b1_x (n : Nat) (x1 : List Int) (x0 : List (List Arrow)) (v4 : UInt8 × Bool) (l114 : List Int) (k117 : Nat) : Option (((List Int) × Nat) ⊕ ((List Int))) :=
  iteO (decide (((k117 : Nat) : Int) < ((x1.length : Nat) : Int))) (grd (0 ≤ (nth x1 k117 (0 : Int)) ∧ (nth x1 k117 (0 : Int)) < (x0.length : Int)) (iterX n (fun q : (List Int) × Nat => dfa_behind_b2_x n x0 x1 k117 v4 q.1 q.2) (l114, 0))) (fin (some l114))
instance dfa_behind_b1_le {n : Nat} {x1 : List Int} {x0 : List (List Arrow)} {v4 : UInt8 × Bool} {l114 : List Int} {k117 : Nat} : LeC (dfa_behind_b1_x n x1 x0 v4 l114 k117) (dfa_behind_b1 x1 x0 v4 l114 k117) := by
  unfold dfa_behind_b1_x dfa_behind_b1; infer_instance
def dfa_behind_x (n : Nat) (x0 : List (List Arrow)) (x1 : List Int) (x2 : BSet) : Option ((List Int)) :=
  bnd (set_First_x n x2) (fun v4 => iterX n (fun q : (List Int) × Nat => dfa_behind_b1_x n x1 x0 v4 q.1 q.2) (([] : List Int), 0))
instance dfa_behind_le {n : Nat} {x0 : List (List Arrow)} {x1 : List Int} {x2 : BSet} : LeC (dfa_behind_x n x0 x1 x2) (dfa_behind x0 x1 x2) := by
  unfold dfa_behind_x dfa_behind; infer_instance
def dfa_classes_1_b1_x (n : Nat) {Sy : Type} (x1 : List BSet) (Y : Sy → Int × BSet → Option (Sy × Bool)) (k111 : Nat) (s112 : Sy) : Option ((Nat × Sy) ⊕ (Sy)) :=
  iteO (decide (((k111 : Nat) : Int) < ((x1.length : Nat) : Int))) (bnd (Y s112 (((k111 : Nat) : Int), (nth x1 k111 BSet.zero))) (fun v14 => iteO (!v14.2) (fin (some v14.1)) (nxt ((k111 + 1), v14.1)))) (fin (some s112))
instance dfa_classes_1_b1_le {n : Nat} {Sy : Type} {x1 : List BSet} {Y : Sy → Int × BSet → Option (Sy × Bool)} {k111 : Nat} {s112 : Sy} {Y' : Sy → Int × BSet → Option (Sy × Bool)} [hY : ∀ s x, LeC (Y s x) (Y' s x)] : LeC (dfa_classes_1_b1_x n x1 Y k111 s112) (dfa_classes_1_b1 x1 Y' k111 s112) := by
  unfold dfa_classes_1_b1_x dfa_classes_1_b1; infer_instance
def dfa_classes_1_x (n : Nat) {Sy : Type} (Y : Sy → Int × BSet → Option (Sy × Bool)) (s0 : Sy) (x1 : List BSet) : Option (Sy) :=
  iterX n (fun q : Nat × Sy => dfa_classes_1_b1_x n x1 Y q.1 q.2) (0, s0)
instance dfa_classes_1_le {n : Nat} {Sy : Type} {Y : Sy → Int × BSet → Option (Sy × Bool)} {s0 : Sy} {x1 : List BSet} {Y' : Sy → Int × BSet → Option (Sy × Bool)} [hY : ∀ s x, LeC (Y s x) (Y' s x)] : LeC (dfa_classes_1_x n Y s0 x1) (dfa_classes_1 Y' s0 x1) := by
  unfold dfa_classes_1_x dfa_classes_1; infer_instance
def dfa_classes_x (n : Nat) (x0 : List BSet) : Option ((List BSet)) :=
  some x0
instance dfa_classes_le {n : Nat} {x0 : List BSet} : LeC (dfa_classes_x n x0) (dfa_classes x0) := by
  unfold dfa_classes_x dfa_classes; infer_instance
def dfa_Of_j1_x (n : Nat) (l130 : List (List Arrow)) (x0 : Nfa) (k134 : Nat) : Option (((List (List Arrow)) × Nat) ⊕ (Dfa × Int)) :=
  nxt ((l130.set (((nth x0.edges k134 Arrow.zero).frm).toNat) ((nth l130 (((nth x0.edges k134 Arrow.zero).frm).toNat) ([] : List Arrow)) ++ [(nth x0.edges k134 Arrow.zero)])), (k134 + 1))
instance dfa_Of_j1_le {n : Nat} {l130 : List (List Arrow)} {x0 : Nfa} {k134 : Nat} : LeC (dfa_Of_j1_x n l130 x0 k134) (dfa_Of_j1 l130 x0 k134) := by
  unfold dfa_Of_j1_x dfa_Of_j1; infer_instance
def dfa_Of_j2_x (n : Nat) (k323 : Nat) (t335 : Bool) : Option ((Bool × Nat) ⊕ ((Int × (List (List Int)) × (FM (List UInt8) Int) × (List (List Int)) × (List Bool) × Nat) ⊕ (Dfa × Int))) :=
  nxt (t335, (k323 + 1))
instance dfa_Of_j2_le {n : Nat} {k323 : Nat} {t335 : Bool} : LeC (dfa_Of_j2_x n k323 t335) (dfa_Of_j2 k323 t335) := by
  unfold dfa_Of_j2_x dfa_Of_j2; infer_instance
def dfa_Of_r256_x (n : Nat) (l130 : List (List Arrow)) (v116 : (List Int) × Int) (i388 : Int) (l391 : List (List Int)) (m397 : FM (List UInt8) Int) (l401 : List Int) (y256_0 : Int) (y256_1 : BSet) : Option (Nat × (Int × (List (List Int)) × (FM (List UInt8) Int) × (List Int))) :=
  bnd (dfa_behind_x n l130 v116.1 y256_1) (fun v161 => bnd (putKeep_x n (⟨(⟨l391, m397⟩ : IStore)⟩ : ITable) v161) (fun v162 => iteO (decide (v162.2.2.1 ≠ 0)) (some (1, (v162.2.2.1, v162.2.2.2.of.rows, v162.2.2.2.of.places, l401))) (iteO (decide (1024 ≤ v162.1)) (some (1, (2, v162.2.2.2.of.rows, v162.2.2.2.of.places, l401))) (grd (0 ≤ y256_0 ∧ y256_0 < (l401.length : Int)) (some (0, (i388, v162.2.2.2.of.rows, v162.2.2.2.of.places, (l401.set y256_0.toNat v162.1))))))))
instance dfa_Of_r256_le {n : Nat} {l130 : List (List Arrow)} {v116 : (List Int) × Int} {i388 : Int} {l391 : List (List Int)} {m397 : FM (List UInt8) Int} {l401 : List Int} {y256_0 : Int} {y256_1 : BSet} : LeC (dfa_Of_r256_x n l130 v116 i388 l391 m397 l401 y256_0 y256_1) (dfa_Of_r256 l130 v116 i388 l391 m397 l401 y256_0 y256_1) := by
  unfold dfa_Of_r256_x dfa_Of_r256; infer_instance
def dfa_Of_k256_x (n : Nat) (l277 : List (List Int)) (l283 : List Bool) (t322 : Bool) (k286 : Nat) (jz : Nat) (i388 : Int) (l391 : List (List Int)) (m397 : FM (List UInt8) Int) (l401 : List Int) : Option ((Int × (List (List Int)) × (FM (List UInt8) Int) × (List (List Int)) × (List Bool) × Nat) ⊕ (Dfa × Int)) :=
  jsel jz (grd ((l277.length + [l401].length) * 24 ≤ 140737488355328) (grd ((l283.length + [t322].length) * 1 ≤ 140737488355328) (grd (k286 + 1 ≤ 9223372036854775807) (nxt (i388, l391, m397, (l277 ++ [l401]), (l283 ++ [t322]), (k286 + 1)))))) (fun j_ => jsel j_ (fin (some ((⟨([] : List Int), ([] : List (List Int)), ([] : List Bool)⟩ : Dfa), i388))) (fun _ => none))
instance dfa_Of_k256_le {n : Nat} {l277 : List (List Int)} {l283 : List Bool} {t322 : Bool} {k286 : Nat} {jz : Nat} {i388 : Int} {l391 : List (List Int)} {m397 : FM (List UInt8) Int} {l401 : List Int} : LeC (dfa_Of_k256_x n l277 l283 t322 k286 jz i388 l391 m397 l401) (dfa_Of_k256 l277 l283 t322 k286 jz i388 l391 m397 l401) := by
  unfold dfa_Of_k256_x dfa_Of_k256; infer_instance
def dfa_Of_b4_x (n : Nat) (v116 : (List Int) × Int) (l193 : List Bool) (v13 : (List BSet) × Int) (l130 : List (List Arrow)) (i264 : Int) (l268 : List (List Int)) (m274 : FM (List UInt8) Int) (l277 : List (List Int)) (l283 : List Bool) (k286 : Nat) (t322 : Bool) (k323 : Nat) : Option ((Bool × Nat) ⊕ ((Int × (List (List Int)) × (FM (List UInt8) Int) × (List (List Int)) × (List Bool) × Nat) ⊕ (Dfa × Int))) :=
  iteO (decide (((k323 : Nat) : Int) < ((v116.1.length : Nat) : Int))) (iteO t322 (dfa_Of_j2_x n k323 true) (grd (0 ≤ (nth v116.1 k323 (0 : Int)) ∧ (nth v116.1 k323 (0 : Int)) < (l193.length : Int)) (dfa_Of_j2_x n k323 (nth l193 ((nth v116.1 k323 (0 : Int)).toNat) false)))) (fin (grd (8 * v13.1.length ≤ 281474976710656) (bnd (dfa_classes_x n v13.1) (fun v153 => bnd (dfa_classes_1_x n (stepY (fun (q : Int × (List (List Int)) × (FM (List UInt8) Int) × (List Int)) (x : Int × BSet) => dfa_Of_r256_x n l130 v116 q.1 q.2.1 q.2.2.1 q.2.2.2 x.1 x.2)) (0, (i264, l268, m274, (List.replicate v13.1.length (0 : Int)))) v153) (fun zr256 => dfa_Of_k256_x n l277 l283 t322 k286 zr256.1 zr256.2.1 zr256.2.2.1 zr256.2.2.2.1 zr256.2.2.2.2)))))
instance dfa_Of_b4_le {n : Nat} {v116 : (List Int) × Int} {l193 : List Bool} {v13 : (List BSet) × Int} {l130 : List (List Arrow)} {i264 : Int} {l268 : List (List Int)} {m274 : FM (List UInt8) Int} {l277 : List (List Int)} {l283 : List Bool} {k286 : Nat} {t322 : Bool} {k323 : Nat} : LeC (dfa_Of_b4_x n v116 l193 v13 l130 i264 l268 m274 l277 l283 k286 t322 k323) (dfa_Of_b4 v116 l193 v13 l130 i264 l268 m274 l277 l283 k286 t322 k323) := by
  unfold dfa_Of_b4_x dfa_Of_b4; infer_instance
def dfa_Of_b3_x (n : Nat) (l193 : List Bool) (v13 : (List BSet) × Int) (l130 : List (List Arrow)) (v26 : (List Int) × Int) (i264 : Int) (l268 : List (List Int)) (m274 : FM (List UInt8) Int) (l277 : List (List Int)) (l283 : List Bool) (k286 : Nat) : Option ((Int × (List (List Int)) × (FM (List UInt8) Int) × (List (List Int)) × (List Bool) × Nat) ⊕ (Dfa × Int)) :=
  bnd (intern_Table_Size_x n (⟨(⟨l268, m274⟩ : IStore)⟩ : ITable)) (fun v112 => iteO (decide (((k286 : Nat) : Int) < v112)) (bnd (intern_Table_Row_x n (⟨(⟨l268, m274⟩ : IStore)⟩ : ITable) ((k286 : Nat) : Int)) (fun v116 => iteO (decide (v116.2 ≠ 0)) (fin (some ((⟨([] : List Int), ([] : List (List Int)), ([] : List Bool)⟩ : Dfa), v116.2))) (iterX n (fun q : Bool × Nat => dfa_Of_b4_x n v116 l193 v13 l130 i264 l268 m274 l277 l283 k286 q.1 q.2) (false, 0)))) (fin (some ((⟨v26.1, l277, l283⟩ : Dfa), 0))))
instance dfa_Of_b3_le {n : Nat} {l193 : List Bool} {v13 : (List BSet) × Int} {l130 : List (List Arrow)} {v26 : (List Int) × Int} {i264 : Int} {l268 : List (List Int)} {m274 : FM (List UInt8) Int} {l277 : List (List Int)} {l283 : List Bool} {k286 : Nat} : LeC (dfa_Of_b3_x n l193 v13 l130 v26 i264 l268 m274 l277 l283 k286) (dfa_Of_b3 l193 v13 l130 v26 i264 l268 m274 l277 l283 k286) := by
  unfold dfa_Of_b3_x dfa_Of_b3; infer_instance
def dfa_Of_b2_x (n : Nat) (x0 : Nfa) (v13 : (List BSet) × Int) (l130 : List (List Arrow)) (v26 : (List Int) × Int) (l193 : List Bool) (k195 : Nat) : Option (((List Bool) × Nat) ⊕ (Dfa × Int)) :=
  iteO (decide (((k195 : Nat) : Int) < ((x0.ends.length : Nat) : Int))) (grd (0 ≤ (nth x0.ends k195 (0 : Int)) ∧ (nth x0.ends k195 (0 : Int)) < (l193.length : Int)) (nxt ((l193.set ((nth x0.ends k195 (0 : Int)).toNat) true), (k195 + 1)))) (fin (bnd (intern_New_x n) (fun v85 => bnd (intern_Table_Put_x n (⟨(⟨v85.of.rows, v85.of.places⟩ : IStore)⟩ : ITable) x0.starts) (fun v91 => iteO (decide (v91.2.2.1 ≠ 0)) (some ((⟨([] : List Int), ([] : List (List Int)), ([] : List Bool)⟩ : Dfa), v91.2.2.1)) (iterX n (fun q : Int × (List (List Int)) × (FM (List UInt8) Int) × (List (List Int)) × (List Bool) × Nat => dfa_Of_b3_x n l193 v13 l130 v26 q.1 q.2.1 q.2.2.1 q.2.2.2.1 q.2.2.2.2.1 q.2.2.2.2.2) (0, v91.2.2.2.of.rows, v91.2.2.2.of.places, ([] : List (List Int)), ([] : List Bool), 0))))))
instance dfa_Of_b2_le {n : Nat} {x0 : Nfa} {v13 : (List BSet) × Int} {l130 : List (List Arrow)} {v26 : (List Int) × Int} {l193 : List Bool} {k195 : Nat} : LeC (dfa_Of_b2_x n x0 v13 l130 v26 l193 k195) (dfa_Of_b2 x0 v13 l130 v26 l193 k195) := by
  unfold dfa_Of_b2_x dfa_Of_b2; infer_instance
def dfa_Of_b1_x (n : Nat) (x0 : Nfa) (v13 : (List BSet) × Int) (v26 : (List Int) × Int) (l130 : List (List Arrow)) (k134 : Nat) : Option (((List (List Arrow)) × Nat) ⊕ (Dfa × Int)) :=
  iteO (decide (((k134 : Nat) : Int) < ((x0.edges.length : Nat) : Int))) (grd (0 ≤ ((nth x0.edges k134 Arrow.zero).frm) ∧ ((nth x0.edges k134 Arrow.zero).frm) < (l130.length : Int)) (grd (((nth l130 (((nth x0.edges k134 Arrow.zero).frm).toNat) ([] : List Arrow)).length + [(nth x0.edges k134 Arrow.zero)].length) * 48 ≤ 140737488355328) (grd (0 ≤ ((nth x0.edges k134 Arrow.zero).frm) ∧ ((nth x0.edges k134 Arrow.zero).frm) < (l130.length : Int)) (dfa_Of_j1_x n l130 x0 k134)))) (fin (grd (0 ≤ x0.states ∧ 1 * x0.states.toNat ≤ 281474976710656) (iterX n (fun q : (List Bool) × Nat => dfa_Of_b2_x n x0 v13 l130 v26 q.1 q.2) ((List.replicate x0.states.toNat false), 0))))
instance dfa_Of_b1_le {n : Nat} {x0 : Nfa} {v13 : (List BSet) × Int} {v26 : (List Int) × Int} {l130 : List (List Arrow)} {k134 : Nat} : LeC (dfa_Of_b1_x n x0 v13 v26 l130 k134) (dfa_Of_b1 x0 v13 v26 l130 k134) := by
  unfold dfa_Of_b1_x dfa_Of_b1; infer_instance
def dfa_Of_x (n : Nat) (x0 : Nfa) : Option (Dfa × Int) :=
  iteO (decide ((errB (checkB x0)) ≠ 0)) (some ((⟨([] : List Int), ([] : List (List Int)), ([] : List Bool)⟩ : Dfa), 1)) (bnd (dfa_unlike_x n x0.edges) (fun v12 => bnd (part_Parts_x n v12) (fun v13 => iteO (decide (v13.2 ≠ 0)) (some ((⟨([] : List Int), ([] : List (List Int)), ([] : List Bool)⟩ : Dfa), v13.2)) (bnd (part_Class_x n v13.1) (fun v26 => iteO (decide (v26.2 ≠ 0)) (some ((⟨([] : List Int), ([] : List (List Int)), ([] : List Bool)⟩ : Dfa), v26.2)) (grd (0 ≤ x0.states ∧ 24 * x0.states.toNat ≤ 281474976710656) (iterX n (fun q : (List (List Arrow)) × Nat => dfa_Of_b1_x n x0 v13 v26 q.1 q.2) ((List.replicate x0.states.toNat ([] : List Arrow)), 0))))))))
instance dfa_Of_le {n : Nat} {x0 : Nfa} : LeC (dfa_Of_x n x0) (dfa_Of x0) := by
  unfold dfa_Of_x dfa_Of; infer_instance
def fst_state_x (n : Nat) (x0 : Int) (x1 : Int) : Option (Bool) :=
  iteO (decide (0 ≤ x0)) (some (decide (x0 < x1))) (some false)
instance fst_state_le {n : Nat} {x0 : Int} {x1 : Int} : LeC (fst_state_x n x0 x1) (fst_state x0 x1) := by
  unfold fst_state_x fst_state; infer_instance
def fst_rightTips_b1_x (n : Nat) (x0 : List Tip) (x1 : Int) (k104 : Nat) : Option ((Nat) ⊕ (Bool)) :=
  iteO (decide (((k104 : Nat) : Int) < ((x0.length : Nat) : Int))) (bnd (fst_state_x n ((nth x0 k104 Tip.zero).state) x1) (fun v17 => iteO (!v17) (fin (some false)) (iteO (decide (1024 < ((((nth x0 k104 Tip.zero).out).length : Nat) : Int))) (fin (some false)) (nxt (k104 + 1))))) (fin (some true))
instance fst_rightTips_b1_le {n : Nat} {x0 : List Tip} {x1 : Int} {k104 : Nat} : LeC (fst_rightTips_b1_x n x0 x1 k104) (fst_rightTips_b1 x0 x1 k104) := by
  unfold fst_rightTips_b1_x fst_rightTips_b1; infer_instance
def fst_rightTips_x (n : Nat) (x0 : List Tip) (x1 : Int) : Option (Bool) :=
  iteO (decide (1024 < ((x0.length : Nat) : Int))) (some false) (iterX n (fun q : Nat => fst_rightTips_b1_x n x0 x1 q) 0)
instance fst_rightTips_le {n : Nat} {x0 : List Tip} {x1 : Int} : LeC (fst_rightTips_x n x0 x1) (fst_rightTips x0 x1) := by
  unfold fst_rightTips_x fst_rightTips; infer_instance
def fst_Check_b1_x (n : Nat) (x0 : Fst) (k110 : Nat) : Option ((Nat) ⊕ (Int)) :=
  iteO (decide (((k110 : Nat) : Int) < ((x0.arcs.length : Nat) : Int))) (bnd (fst_state_x n ((nth x0.arcs k110 Arc.zero).frm) x0.states) (fun v46 => iteO (!v46) (fin (some 1)) (bnd (fst_state_x n ((nth x0.arcs k110 Arc.zero).to) x0.states) (fun v53 => iteO (!v53) (fin (some 1)) (iteO (decide ((nth x0.arcs k110 Arc.zero).set = BSet.zero)) (fin (some 1)) (iteO (decide (1024 < ((((nth x0.arcs k110 Arc.zero).out).length : Nat) : Int))) (fin (some 1)) (nxt (k110 + 1)))))))) (fin (some 0))
instance fst_Check_b1_le {n : Nat} {x0 : Fst} {k110 : Nat} : LeC (fst_Check_b1_x n x0 k110) (fst_Check_b1 x0 k110) := by
  unfold fst_Check_b1_x fst_Check_b1; infer_instance
def fst_Check_x (n : Nat) (x0 : Fst) : Option (Int) :=
  iteO (decide (x0.states < 0)) (some 1) (iteO (decide (1024 < x0.states)) (some 1) (iteO (decide (16384 < ((x0.arcs.length : Nat) : Int))) (some 1) (bnd (fst_rightTips_x n x0.starts x0.states) (fun v22 => iteO (!v22) (some 1) (bnd (fst_rightTips_x n x0.ends x0.states) (fun v29 => iteO (!v29) (some 1) (iterX n (fun q : Nat => fst_Check_b1_x n x0 q) 0)))))))
instance fst_Check_le {n : Nat} {x0 : Fst} : LeC (fst_Check_x n x0) (fst_Check x0) := by
  unfold fst_Check_x fst_Check; infer_instance
def rat_grow_start_x (n : Nat) (x0 : Grow) (x1 : Tip) : Option (Grow) :=
  iteO x0.over (some (⟨(⟨x0.f.states, x0.f.starts, x0.f.ends, x0.f.arcs⟩ : Fst), true⟩ : Grow)) (iteO (decide (1024 ≤ ((x0.f.starts.length : Nat) : Int))) (some (⟨(⟨x0.f.states, x0.f.starts, x0.f.ends, x0.f.arcs⟩ : Fst), true⟩ : Grow)) (iteO (decide (1024 < ((x1.out.length : Nat) : Int))) (some (⟨(⟨x0.f.states, x0.f.starts, x0.f.ends, x0.f.arcs⟩ : Fst), true⟩ : Grow)) (grd ((x0.f.starts.length + [x1].length) * 24 ≤ 140737488355328) (some (⟨(⟨x0.f.states, (x0.f.starts ++ [x1]), x0.f.ends, x0.f.arcs⟩ : Fst), x0.over⟩ : Grow)))))
instance rat_grow_start_le {n : Nat} {x0 : Grow} {x1 : Tip} : LeC (rat_grow_start_x n x0 x1) (rat_grow_start x0 x1) := by
  unfold rat_grow_start_x rat_grow_start; infer_instance
def rat_grow_end_x (n : Nat) (x0 : Grow) (x1 : Tip) : Option (Grow) :=
  iteO x0.over (some (⟨(⟨x0.f.states, x0.f.starts, x0.f.ends, x0.f.arcs⟩ : Fst), true⟩ : Grow)) (iteO (decide (1024 ≤ ((x0.f.ends.length : Nat) : Int))) (some (⟨(⟨x0.f.states, x0.f.starts, x0.f.ends, x0.f.arcs⟩ : Fst), true⟩ : Grow)) (iteO (decide (1024 < ((x1.out.length : Nat) : Int))) (some (⟨(⟨x0.f.states, x0.f.starts, x0.f.ends, x0.f.arcs⟩ : Fst), true⟩ : Grow)) (grd ((x0.f.ends.length + [x1].length) * 24 ≤ 140737488355328) (some (⟨(⟨x0.f.states, x0.f.starts, (x0.f.ends ++ [x1]), x0.f.arcs⟩ : Fst), x0.over⟩ : Grow)))))
instance rat_grow_end_le {n : Nat} {x0 : Grow} {x1 : Tip} : LeC (rat_grow_end_x n x0 x1) (rat_grow_end x0 x1) := by
  unfold rat_grow_end_x rat_grow_end; infer_instance
def rat_grow_arc_x (n : Nat) (x0 : Grow) (x1 : Arc) : Option (Grow) :=
  iteO x0.over (some (⟨(⟨x0.f.states, x0.f.starts, x0.f.ends, x0.f.arcs⟩ : Fst), true⟩ : Grow)) (iteO (decide (16384 ≤ ((x0.f.arcs.length : Nat) : Int))) (some (⟨(⟨x0.f.states, x0.f.starts, x0.f.ends, x0.f.arcs⟩ : Fst), true⟩ : Grow)) (iteO (decide (1024 < ((x1.out.length : Nat) : Int))) (some (⟨(⟨x0.f.states, x0.f.starts, x0.f.ends, x0.f.arcs⟩ : Fst), true⟩ : Grow)) (grd ((x0.f.arcs.length + [x1].length) * 72 ≤ 140737488355328) (some (⟨(⟨x0.f.states, x0.f.starts, x0.f.ends, (x0.f.arcs ++ [x1])⟩ : Fst), x0.over⟩ : Grow)))))
instance rat_grow_arc_le {n : Nat} {x0 : Grow} {x1 : Arc} : LeC (rat_grow_arc_x n x0 x1) (rat_grow_arc x0 x1) := by
  unfold rat_grow_arc_x rat_grow_arc; infer_instance
def rat_grow_look_x (n : Nat) (x0 : Grow) : Option (Fst × Int) :=
  iteO x0.over (some ((⟨0, ([] : List Tip), ([] : List Tip), ([] : List Arc)⟩ : Fst), 2)) (iteO (decide (1024 < x0.f.states)) (some ((⟨0, ([] : List Tip), ([] : List Tip), ([] : List Arc)⟩ : Fst), 2)) (some ((⟨x0.f.states, x0.f.starts, x0.f.ends, x0.f.arcs⟩ : Fst), 0)))
instance rat_grow_look_le {n : Nat} {x0 : Grow} : LeC (rat_grow_look_x n x0) (rat_grow_look x0) := by
  unfold rat_grow_look_x rat_grow_look; infer_instance
def rat_grow_starts_b1_x (n : Nat) (x1 : List Tip) (x2 : Int) (i138 : Int) (l140 : List Tip) (l144 : List Tip) (l148 : List Arc) (t151 : Bool) (k152 : Nat) : Option ((Int × (List Tip) × (List Tip) × (List Arc) × Bool × Nat) ⊕ (Grow)) :=
  iteO (decide (((k152 : Nat) : Int) < ((x1.length : Nat) : Int))) (bnd (rat_grow_start_x n (⟨(⟨i138, l140, l144, l148⟩ : Fst), t151⟩ : Grow) (⟨IntKind.i64.wrap (((nth x1 k152 Tip.zero).state) + x2), (nth x1 k152 Tip.zero).out⟩ : Tip)) (fun v17 => nxt (v17.f.states, v17.f.starts, v17.f.ends, v17.f.arcs, v17.over, (k152 + 1)))) (fin (some (⟨(⟨i138, l140, l144, l148⟩ : Fst), t151⟩ : Grow)))
instance rat_grow_starts_b1_le {n : Nat} {x1 : List Tip} {x2 : Int} {i138 : Int} {l140 : List Tip} {l144 : List Tip} {l148 : List Arc} {t151 : Bool} {k152 : Nat} : LeC (rat_grow_starts_b1_x n x1 x2 i138 l140 l144 l148 t151 k152) (rat_grow_starts_b1 x1 x2 i138 l140 l144 l148 t151 k152) := by
  unfold rat_grow_starts_b1_x rat_grow_starts_b1; infer_instance
def rat_grow_starts_x (n : Nat) (x0 : Grow) (x1 : List Tip) (x2 : Int) : Option (Grow) :=
  iterX n (fun q : Int × (List Tip) × (List Tip) × (List Arc) × Bool × Nat => rat_grow_starts_b1_x n x1 x2 q.1 q.2.1 q.2.2.1 q.2.2.2.1 q.2.2.2.2.1 q.2.2.2.2.2) (x0.f.states, x0.f.starts, x0.f.ends, x0.f.arcs, x0.over, 0)
instance rat_grow_starts_le {n : Nat} {x0 : Grow} {x1 : List Tip} {x2 : Int} : LeC (rat_grow_starts_x n x0 x1 x2) (rat_grow_starts x0 x1 x2) := by
  unfold rat_grow_starts_x rat_grow_starts; infer_instance
def rat_grow_ends_b1_x (n : Nat) (x1 : List Tip) (x2 : Int) (i138 : Int) (l140 : List Tip) (l144 : List Tip) (l148 : List Arc) (t151 : Bool) (k152 : Nat) : Option ((Int × (List Tip) × (List Tip) × (List Arc) × Bool × Nat) ⊕ (Grow)) :=
  iteO (decide (((k152 : Nat) : Int) < ((x1.length : Nat) : Int))) (bnd (rat_grow_end_x n (⟨(⟨i138, l140, l144, l148⟩ : Fst), t151⟩ : Grow) (⟨IntKind.i64.wrap (((nth x1 k152 Tip.zero).state) + x2), (nth x1 k152 Tip.zero).out⟩ : Tip)) (fun v17 => nxt (v17.f.states, v17.f.starts, v17.f.ends, v17.f.arcs, v17.over, (k152 + 1)))) (fin (some (⟨(⟨i138, l140, l144, l148⟩ : Fst), t151⟩ : Grow)))
instance rat_grow_ends_b1_le {n : Nat} {x1 : List Tip} {x2 : Int} {i138 : Int} {l140 : List Tip} {l144 : List Tip} {l148 : List Arc} {t151 : Bool} {k152 : Nat} : LeC (rat_grow_ends_b1_x n x1 x2 i138 l140 l144 l148 t151 k152) (rat_grow_ends_b1 x1 x2 i138 l140 l144 l148 t151 k152) := by
  unfold rat_grow_ends_b1_x rat_grow_ends_b1; infer_instance
def rat_grow_ends_x (n : Nat) (x0 : Grow) (x1 : List Tip) (x2 : Int) : Option (Grow) :=
  iterX n (fun q : Int × (List Tip) × (List Tip) × (List Arc) × Bool × Nat => rat_grow_ends_b1_x n x1 x2 q.1 q.2.1 q.2.2.1 q.2.2.2.1 q.2.2.2.2.1 q.2.2.2.2.2) (x0.f.states, x0.f.starts, x0.f.ends, x0.f.arcs, x0.over, 0)
instance rat_grow_ends_le {n : Nat} {x0 : Grow} {x1 : List Tip} {x2 : Int} : LeC (rat_grow_ends_x n x0 x1 x2) (rat_grow_ends x0 x1 x2) := by
  unfold rat_grow_ends_x rat_grow_ends; infer_instance
def rat_grow_arcs_b1_x (n : Nat) (x1 : List Arc) (x2 : Int) (i138 : Int) (l140 : List Tip) (l144 : List Tip) (l148 : List Arc) (t151 : Bool) (k152 : Nat) : Option ((Int × (List Tip) × (List Tip) × (List Arc) × Bool × Nat) ⊕ (Grow)) :=
  iteO (decide (((k152 : Nat) : Int) < ((x1.length : Nat) : Int))) (bnd (rat_grow_arc_x n (⟨(⟨i138, l140, l144, l148⟩ : Fst), t151⟩ : Grow) (⟨IntKind.i64.wrap (((nth x1 k152 Arc.zero).frm) + x2), IntKind.i64.wrap (((nth x1 k152 Arc.zero).to) + x2), (nth x1 k152 Arc.zero).set, (nth x1 k152 Arc.zero).out, (nth x1 k152 Arc.zero).copy⟩ : Arc)) (fun v25 => nxt (v25.f.states, v25.f.starts, v25.f.ends, v25.f.arcs, v25.over, (k152 + 1)))) (fin (some (⟨(⟨i138, l140, l144, l148⟩ : Fst), t151⟩ : Grow)))
instance rat_grow_arcs_b1_le {n : Nat} {x1 : List Arc} {x2 : Int} {i138 : Int} {l140 : List Tip} {l144 : List Tip} {l148 : List Arc} {t151 : Bool} {k152 : Nat} : LeC (rat_grow_arcs_b1_x n x1 x2 i138 l140 l144 l148 t151 k152) (rat_grow_arcs_b1 x1 x2 i138 l140 l144 l148 t151 k152) := by
  unfold rat_grow_arcs_b1_x rat_grow_arcs_b1; infer_instance
def rat_grow_arcs_x (n : Nat) (x0 : Grow) (x1 : List Arc) (x2 : Int) : Option (Grow) :=
  iterX n (fun q : Int × (List Tip) × (List Tip) × (List Arc) × Bool × Nat => rat_grow_arcs_b1_x n x1 x2 q.1 q.2.1 q.2.2.1 q.2.2.2.1 q.2.2.2.2.1 q.2.2.2.2.2) (x0.f.states, x0.f.starts, x0.f.ends, x0.f.arcs, x0.over, 0)
instance rat_grow_arcs_le {n : Nat} {x0 : Grow} {x1 : List Arc} {x2 : Int} : LeC (rat_grow_arcs_x n x0 x1 x2) (rat_grow_arcs x0 x1 x2) := by
  unfold rat_grow_arcs_x rat_grow_arcs; infer_instance
def rat_grow_bridge_b1_x (n : Nat) (x4 : List Arc) (x2 : List UInt8) (x3 : List UInt8) (x1 : Int) (x5 : Int) (i138 : Int) (l140 : List Tip) (l144 : List Tip) (l148 : List Arc) (t151 : Bool) (k152 : Nat) : Option ((Int × (List Tip) × (List Tip) × (List Arc) × Bool × Nat) ⊕ (Grow)) :=
  iteO (decide (((k152 : Nat) : Int) < ((x4.length : Nat) : Int))) (grd (x2.length + x3.length ≤ 9223372036854775807) (grd ((x2 ++ x3).length + ((nth x4 k152 Arc.zero).out).length ≤ 9223372036854775807) (bnd (rat_grow_arc_x n (⟨(⟨i138, l140, l144, l148⟩ : Fst), t151⟩ : Grow) (⟨x1, IntKind.i64.wrap (((nth x4 k152 Arc.zero).to) + x5), (nth x4 k152 Arc.zero).set, ((x2 ++ x3) ++ (nth x4 k152 Arc.zero).out), (nth x4 k152 Arc.zero).copy⟩ : Arc)) (fun v26 => iteO v26.over (fin (some (⟨(⟨v26.f.states, v26.f.starts, v26.f.ends, v26.f.arcs⟩ : Fst), v26.over⟩ : Grow))) (nxt (v26.f.states, v26.f.starts, v26.f.ends, v26.f.arcs, v26.over, (k152 + 1))))))) (fin (some (⟨(⟨i138, l140, l144, l148⟩ : Fst), t151⟩ : Grow)))
instance rat_grow_bridge_b1_le {n : Nat} {x4 : List Arc} {x2 : List UInt8} {x3 : List UInt8} {x1 : Int} {x5 : Int} {i138 : Int} {l140 : List Tip} {l144 : List Tip} {l148 : List Arc} {t151 : Bool} {k152 : Nat} : LeC (rat_grow_bridge_b1_x n x4 x2 x3 x1 x5 i138 l140 l144 l148 t151 k152) (rat_grow_bridge_b1 x4 x2 x3 x1 x5 i138 l140 l144 l148 t151 k152) := by
  unfold rat_grow_bridge_b1_x rat_grow_bridge_b1; infer_instance
def rat_grow_bridge_x (n : Nat) (x0 : Grow) (x1 : Int) (x2 : List UInt8) (x3 : List UInt8) (x4 : List Arc) (x5 : Int) : Option (Grow) :=
  grd (x2.length ≤ 281474976710656) (grd (x3.length ≤ 281474976710656) (iterX n (fun q : Int × (List Tip) × (List Tip) × (List Arc) × Bool × Nat => rat_grow_bridge_b1_x n x4 x2 x3 x1 x5 q.1 q.2.1 q.2.2.1 q.2.2.2.1 q.2.2.2.2.1 q.2.2.2.2.2) (x0.f.states, x0.f.starts, x0.f.ends, x0.f.arcs, x0.over, 0)))
instance rat_grow_bridge_le {n : Nat} {x0 : Grow} {x1 : Int} {x2 : List UInt8} {x3 : List UInt8} {x4 : List Arc} {x5 : Int} : LeC (rat_grow_bridge_x n x0 x1 x2 x3 x4 x5) (rat_grow_bridge x0 x1 x2 x3 x4 x5) := by
  unfold rat_grow_bridge_x rat_grow_bridge; infer_instance
def rat_both_x (n : Nat) (x0 : Fst) (x1 : Fst) : Option (Bool) :=
  bnd (fst_Check_x n x0) (fun v5 => iteO (decide (v5 = 0)) (bnd (fst_Check_x n x1) (fun v9 => some (decide (v9 = 0)))) (some false))
instance rat_both_le {n : Nat} {x0 : Fst} {x1 : Fst} : LeC (rat_both_x n x0 x1) (rat_both x0 x1) := by
  unfold rat_both_x rat_both; infer_instance
def rat_leaving_j1_x (n : Nat) (l118 : List (List Arc)) (x0 : Fst) (k122 : Nat) : Option (((List (List Arc)) × Nat) ⊕ ((List (List Arc)))) :=
  nxt ((l118.set (((nth x0.arcs k122 Arc.zero).frm).toNat) ((nth l118 (((nth x0.arcs k122 Arc.zero).frm).toNat) ([] : List Arc)) ++ [(nth x0.arcs k122 Arc.zero)])), (k122 + 1))
instance rat_leaving_j1_le {n : Nat} {l118 : List (List Arc)} {x0 : Fst} {k122 : Nat} : LeC (rat_leaving_j1_x n l118 x0 k122) (rat_leaving_j1 l118 x0 k122) := by
  unfold rat_leaving_j1_x rat_leaving_j1; infer_instance
def rat_leaving_b1_x (n : Nat) (x0 : Fst) (l118 : List (List Arc)) (k122 : Nat) : Option (((List (List Arc)) × Nat) ⊕ ((List (List Arc)))) :=
  iteO (decide (((k122 : Nat) : Int) < ((x0.arcs.length : Nat) : Int))) (grd (0 ≤ ((nth x0.arcs k122 Arc.zero).frm) ∧ ((nth x0.arcs k122 Arc.zero).frm) < (l118.length : Int)) (grd (((nth l118 (((nth x0.arcs k122 Arc.zero).frm).toNat) ([] : List Arc)).length + [(nth x0.arcs k122 Arc.zero)].length) * 72 ≤ 140737488355328) (grd (0 ≤ ((nth x0.arcs k122 Arc.zero).frm) ∧ ((nth x0.arcs k122 Arc.zero).frm) < (l118.length : Int)) (rat_leaving_j1_x n l118 x0 k122)))) (fin (some l118))
instance rat_leaving_b1_le {n : Nat} {x0 : Fst} {l118 : List (List Arc)} {k122 : Nat} : LeC (rat_leaving_b1_x n x0 l118 k122) (rat_leaving_b1 x0 l118 k122) := by
  unfold rat_leaving_b1_x rat_leaving_b1; infer_instance
def rat_leaving_x (n : Nat) (x0 : Fst) : Option ((List (List Arc))) :=
  grd (0 ≤ x0.states ∧ 24 * x0.states.toNat ≤ 281474976710656) (iterX n (fun q : (List (List Arc)) × Nat => rat_leaving_b1_x n x0 q.1 q.2) ((List.replicate x0.states.toNat ([] : List Arc)), 0))
instance rat_leaving_le {n : Nat} {x0 : Fst} : LeC (rat_leaving_x n x0) (rat_leaving x0) := by
  unfold rat_leaving_x rat_leaving; infer_instance
def rat_Alt_x (n : Nat) (x0 : Fst) (x1 : Fst) : Option (Fst × Int) :=
  bnd (rat_both_x n x0 x1) (fun v7 => iteO (!v7) (some ((⟨0, ([] : List Tip), ([] : List Tip), ([] : List Arc)⟩ : Fst), 1)) (bnd (rat_grow_starts_x n (⟨(⟨IntKind.i64.wrap (x0.states + x1.states), ([] : List Tip), ([] : List Tip), ([] : List Arc)⟩ : Fst), false⟩ : Grow) x0.starts 0) (fun v30 => bnd (rat_grow_starts_x n (⟨(⟨v30.f.states, v30.f.starts, v30.f.ends, v30.f.arcs⟩ : Fst), v30.over⟩ : Grow) x1.starts x0.states) (fun v36 => bnd (rat_grow_ends_x n (⟨(⟨v36.f.states, v36.f.starts, v36.f.ends, v36.f.arcs⟩ : Fst), v36.over⟩ : Grow) x0.ends 0) (fun v40 => bnd (rat_grow_ends_x n (⟨(⟨v40.f.states, v40.f.starts, v40.f.ends, v40.f.arcs⟩ : Fst), v40.over⟩ : Grow) x1.ends x0.states) (fun v46 => bnd (rat_grow_arcs_x n (⟨(⟨v46.f.states, v46.f.starts, v46.f.ends, v46.f.arcs⟩ : Fst), v46.over⟩ : Grow) x0.arcs 0) (fun v50 => bnd (rat_grow_arcs_x n (⟨(⟨v50.f.states, v50.f.starts, v50.f.ends, v50.f.arcs⟩ : Fst), v50.over⟩ : Grow) x1.arcs x0.states) (fun v56 => bnd (rat_grow_look_x n (⟨(⟨v56.f.states, v56.f.starts, v56.f.ends, v56.f.arcs⟩ : Fst), v56.over⟩ : Grow)) (fun v57 => some ((⟨v57.1.states, v57.1.starts, v57.1.ends, v57.1.arcs⟩ : Fst), v57.2))))))))))
instance rat_Alt_le {n : Nat} {x0 : Fst} {x1 : Fst} : LeC (rat_Alt_x n x0 x1) (rat_Alt x0 x1) := by
  unfold rat_Alt_x rat_Alt; infer_instance
def rat_free_j1_x (n : Nat) (k111 : Nat) : Option ((Nat) ⊕ ((Nat) ⊕ (Bool))) :=
  nxt (k111 + 1)
instance rat_free_j1_le {n : Nat} {k111 : Nat} : LeC (rat_free_j1_x n k111) (rat_free_j1 k111) := by
  unfold rat_free_j1_x rat_free_j1; infer_instance
def rat_free_b2_x (n : Nat) (x0 : Fst) (k105 : Nat) (k111 : Nat) : Option ((Nat) ⊕ ((Nat) ⊕ (Bool))) :=
  iteO (decide (((k111 : Nat) : Int) < ((x0.ends.length : Nat) : Int))) (iteO (decide (((nth x0.starts k105 Tip.zero).state) = ((nth x0.ends k111 Tip.zero).state))) (iteO (decide ((nth x0.starts k105 Tip.zero).out ≠ ([] : List UInt8))) (fin (fin (some true))) (iteO (decide ((nth x0.ends k111 Tip.zero).out ≠ ([] : List UInt8))) (fin (fin (some true))) (rat_free_j1_x n k111))) (rat_free_j1_x n k111)) (fin (nxt (k105 + 1)))
instance rat_free_b2_le {n : Nat} {x0 : Fst} {k105 : Nat} {k111 : Nat} : LeC (rat_free_b2_x n x0 k105 k111) (rat_free_b2 x0 k105 k111) := by
  unfold rat_free_b2_x rat_free_b2; infer_instance
def rat_free_b1_x (n : Nat) (x0 : Fst) (k105 : Nat) : Option ((Nat) ⊕ (Bool)) :=
  iteO (decide (((k105 : Nat) : Int) < ((x0.starts.length : Nat) : Int))) (iterX n (fun q : Nat => rat_free_b2_x n x0 k105 q) 0) (fin (some false))
instance rat_free_b1_le {n : Nat} {x0 : Fst} {k105 : Nat} : LeC (rat_free_b1_x n x0 k105) (rat_free_b1 x0 k105) := by
  unfold rat_free_b1_x rat_free_b1; infer_instance
def rat_free_x (n : Nat) (x0 : Fst) : Option (Bool) :=
  iterX n (fun q : Nat => rat_free_b1_x n x0 q) 0
instance rat_free_le {n : Nat} {x0 : Fst} : LeC (rat_free_x n x0) (rat_free x0) := by
  unfold rat_free_x rat_free; infer_instance
def rat_Star_b3_x (n : Nat) (x0 : Fst) (v47 : (List (List Arc))) (k237 : Nat) (i274 : Int) (l276 : List Tip) (l280 : List Tip) (l284 : List Arc) (t287 : Bool) (k288 : Nat) : Option ((Int × (List Tip) × (List Tip) × (List Arc) × Bool × Nat) ⊕ ((Int × (List Tip) × (List Tip) × (List Arc) × Bool × Nat) ⊕ (Fst × Int))) :=
  iteO (decide (((k288 : Nat) : Int) < ((x0.starts.length : Nat) : Int))) (grd (0 ≤ ((nth x0.starts k288 Tip.zero).state) ∧ ((nth x0.starts k288 Tip.zero).state) < (v47.length : Int)) (bnd (rat_grow_bridge_x n (⟨(⟨i274, l276, l280, l284⟩ : Fst), t287⟩ : Grow) ((nth x0.ends k237 Tip.zero).state) ((nth x0.ends k237 Tip.zero).out) ((nth x0.starts k288 Tip.zero).out) (nth v47 (((nth x0.starts k288 Tip.zero).state).toNat) ([] : List Arc)) 0) (fun v101 => iteO v101.over (bnd (rat_grow_look_x n (⟨(⟨v101.f.states, v101.f.starts, v101.f.ends, v101.f.arcs⟩ : Fst), v101.over⟩ : Grow)) (fun v120 => fin (fin (some ((⟨v120.1.states, v120.1.starts, v120.1.ends, v120.1.arcs⟩ : Fst), v120.2))))) (nxt (v101.f.states, v101.f.starts, v101.f.ends, v101.f.arcs, v101.over, (k288 + 1)))))) (fin (nxt (i274, l276, l280, l284, t287, (k237 + 1))))
instance rat_Star_b3_le {n : Nat} {x0 : Fst} {v47 : (List (List Arc))} {k237 : Nat} {i274 : Int} {l276 : List Tip} {l280 : List Tip} {l284 : List Arc} {t287 : Bool} {k288 : Nat} : LeC (rat_Star_b3_x n x0 v47 k237 i274 l276 l280 l284 t287 k288) (rat_Star_b3 x0 v47 k237 i274 l276 l280 l284 t287 k288) := by
  unfold rat_Star_b3_x rat_Star_b3; infer_instance
def rat_Star_b2_x (n : Nat) (x0 : Fst) (v47 : (List (List Arc))) (i223 : Int) (l225 : List Tip) (l229 : List Tip) (l233 : List Arc) (t236 : Bool) (k237 : Nat) : Option ((Int × (List Tip) × (List Tip) × (List Arc) × Bool × Nat) ⊕ (Fst × Int)) :=
  iteO (decide (((k237 : Nat) : Int) < ((x0.ends.length : Nat) : Int))) (iterX n (fun q : Int × (List Tip) × (List Tip) × (List Arc) × Bool × Nat => rat_Star_b3_x n x0 v47 k237 q.1 q.2.1 q.2.2.1 q.2.2.2.1 q.2.2.2.2.1 q.2.2.2.2.2) (i223, l225, l229, l233, t236, 0)) (fin (bnd (rat_grow_look_x n (⟨(⟨i223, l225, l229, l233⟩ : Fst), t236⟩ : Grow)) (fun v121 => some ((⟨v121.1.states, v121.1.starts, v121.1.ends, v121.1.arcs⟩ : Fst), v121.2))))
instance rat_Star_b2_le {n : Nat} {x0 : Fst} {v47 : (List (List Arc))} {i223 : Int} {l225 : List Tip} {l229 : List Tip} {l233 : List Arc} {t236 : Bool} {k237 : Nat} : LeC (rat_Star_b2_x n x0 v47 i223 l225 l229 l233 t236 k237) (rat_Star_b2 x0 v47 i223 l225 l229 l233 t236 k237) := by
  unfold rat_Star_b2_x rat_Star_b2; infer_instance
def rat_Star_b1_x (n : Nat) (x0 : Fst) (v47 : (List (List Arc))) (i161 : Int) (l163 : List Tip) (l167 : List Tip) (l171 : List Arc) (t174 : Bool) (k175 : Nat) : Option ((Int × (List Tip) × (List Tip) × (List Arc) × Bool × Nat) ⊕ (Fst × Int)) :=
  iteO (decide (((k175 : Nat) : Int) < ((x0.starts.length : Nat) : Int))) (grd (0 ≤ ((nth x0.starts k175 Tip.zero).state) ∧ ((nth x0.starts k175 Tip.zero).state) < (v47.length : Int)) (bnd (rat_grow_bridge_x n (⟨(⟨i161, l163, l167, l171⟩ : Fst), t174⟩ : Grow) x0.states ([] : List UInt8) ((nth x0.starts k175 Tip.zero).out) (nth v47 (((nth x0.starts k175 Tip.zero).state).toNat) ([] : List Arc)) 0) (fun v68 => nxt (v68.f.states, v68.f.starts, v68.f.ends, v68.f.arcs, v68.over, (k175 + 1))))) (fin (iterX n (fun q : Int × (List Tip) × (List Tip) × (List Arc) × Bool × Nat => rat_Star_b2_x n x0 v47 q.1 q.2.1 q.2.2.1 q.2.2.2.1 q.2.2.2.2.1 q.2.2.2.2.2) (i161, l163, l167, l171, t174, 0)))
instance rat_Star_b1_le {n : Nat} {x0 : Fst} {v47 : (List (List Arc))} {i161 : Int} {l163 : List Tip} {l167 : List Tip} {l171 : List Arc} {t174 : Bool} {k175 : Nat} : LeC (rat_Star_b1_x n x0 v47 i161 l163 l167 l171 t174 k175) (rat_Star_b1 x0 v47 i161 l163 l167 l171 t174 k175) := by
  unfold rat_Star_b1_x rat_Star_b1; infer_instance
def rat_Star_x (n : Nat) (x0 : Fst) : Option (Fst × Int) :=
  bnd (fst_Check_x n x0) (fun v5 => iteO (decide (v5 ≠ 0)) (some ((⟨0, ([] : List Tip), ([] : List Tip), ([] : List Arc)⟩ : Fst), 1)) (bnd (rat_free_x n x0) (fun v11 => iteO v11 (some ((⟨0, ([] : List Tip), ([] : List Tip), ([] : List Arc)⟩ : Fst), 11)) (bnd (rat_grow_start_x n (⟨(⟨IntKind.i64.wrap (x0.states + 1), ([] : List Tip), ([] : List Tip), ([] : List Arc)⟩ : Fst), false⟩ : Grow) (⟨x0.states, ([] : List UInt8)⟩ : Tip)) (fun v32 => bnd (rat_grow_end_x n (⟨(⟨v32.f.states, v32.f.starts, v32.f.ends, v32.f.arcs⟩ : Fst), v32.over⟩ : Grow) (⟨x0.states, ([] : List UInt8)⟩ : Tip)) (fun v37 => bnd (rat_grow_ends_x n (⟨(⟨v37.f.states, v37.f.starts, v37.f.ends, v37.f.arcs⟩ : Fst), v37.over⟩ : Grow) x0.ends 0) (fun v41 => bnd (rat_grow_arcs_x n (⟨(⟨v41.f.states, v41.f.starts, v41.f.ends, v41.f.arcs⟩ : Fst), v41.over⟩ : Grow) x0.arcs 0) (fun v45 => bnd (rat_leaving_x n x0) (fun v47 => iterX n (fun q : Int × (List Tip) × (List Tip) × (List Arc) × Bool × Nat => rat_Star_b1_x n x0 v47 q.1 q.2.1 q.2.2.1 q.2.2.2.1 q.2.2.2.2.1 q.2.2.2.2.2) (v45.f.states, v45.f.starts, v45.f.ends, v45.f.arcs, v45.over, 0))))))))))
instance rat_Star_le {n : Nat} {x0 : Fst} : LeC (rat_Star_x n x0) (rat_Star x0) := by
  unfold rat_Star_x rat_Star; infer_instance
end Go.Proofs.YtcfjjckencjjeaaDoor
end

/- RatA -/
section
/- What the laws on automatons as transducers ask first. Plain lemmas, no condition. -/
set_option linter.unusedVariables false
set_option linter.unusedSimpArgs false
namespace Go.Proofs.YtcfjjckencjjeaaDoor
open Go Go.E
set_option maxRecDepth 100000

def cls1 (n : Nat) : List Int := List.replicate n 0 ++ 1 :: List.replicate (255 - n) 0
def dOne (n : Nat) : Dfa := ⟨cls1 n, [[1, 2], [1, 1], [1, 1]], [false, false, true]⟩
theorem one_a : dfa_Of_x 300 (setN (BSet.ofL [97])) = some (dOne 97, 0) := by kernel_rfl
theorem one_b : dfa_Of_x 300 (setN (BSet.ofL [98])) = some (dOne 98, 0) := by kernel_rfl
theorem one16_a : whittlelaw16_one 97 = some (dOne 97) := by
  unfold whittlelaw16_one
  rw [grd_mk (by decide), show dfa_Of (setN (BSet.ofL [97])) = some (dOne 97, 0) from LeC.le _ one_a, bnd_mk]
theorem one16_b : whittlelaw16_one 98 = some (dOne 98) := by
  unfold whittlelaw16_one
  rw [grd_mk (by decide), show dfa_Of (setN (BSet.ofL [98])) = some (dOne 98, 0) from LeC.le _ one_b, bnd_mk]
theorem right_a : rightD (dOne 97) = true := by kernel_rfl
theorem right_b : rightD (dOne 98) = true := by kernel_rfl
def altF : Fst × Int := (rat_Alt_x 300 (mkF (dOne 97) [120] false) (mkF (dOne 98) [] true)).getD (⟨0, [], [], []⟩, 9)
theorem altE : rat_Alt_x 300 (mkF (dOne 97) [120] false) (mkF (dOne 98) [] true) = some altF := by kernel_rfl
theorem alt2 : altF.2 = 0 := by kernel_rfl
def astF : Fst × Int := (rat_Star_x 300 altF.1).getD (⟨0, [], [], []⟩, 9)
theorem astE : rat_Star_x 300 altF.1 = some astF := by kernel_rfl
theorem star2 : astF.2 = 0 := by kernel_rfl
theorem star_b : fstB astF.1 = true := by kernel_rfl
theorem star_f : fitsB astF.1 [97, 98, 97] = true := by kernel_rfl
theorem star_end : endT astF.1 (pairsL astF.1 [97, 98, 97]) = [[120, 98, 120]] := by kernel_rfl
theorem star_outs : outsL astF.1 [97, 98, 97] = [[120, 98, 120]] := by
  rw [outsL, star_end]
  exact onceL_of cmpB_good (List.pairwise_singleton ..)
theorem awake16 : whittlelaw16_awake = some true := by
  unfold whittlelaw16_awake
  rw [one16_a, bnd_mk, cross_eq (by decide) _ (by decide), if_pos right_a, if_neg (by decide), bnd_mk, one16_b, bnd_mk, same16_eq (by decide), if_pos right_b, bnd_mk]
  simp only []
  rw [show rat_Alt (mkF (dOne 97) [120] false) (mkF (dOne 98) [] true) = some altF from LeC.le _ altE, bnd_mk, show rat_Star altF.1 = some astF from LeC.le _ astE, bnd_mk, outs_eq _ _ (by decide), if_pos star_b, if_pos (by decide), if_pos star_f, star_outs, bnd_mk, alt2, star2]
  simp only []
  rw [iteO_dt trivial, iteO_dt trivial, iteO_dt trivial, iteO_dt trivial, iteO_dt trivial, texts_refl, bnd_mk]
end Go.Proofs.YtcfjjckencjjeaaDoor
end

/- MkT -/
section
/- What an automaton as a transducer relates. Plain lemmas, no condition. -/
set_option linter.unusedVariables false
set_option linter.unusedSimpArgs false
namespace Go.Proofs.YtcfjjckencjjeaaDoor
open Go Go.E
set_option maxRecDepth 100000

theorem zero_has (n : Nat) (hn : n < 256) : BSet.zero.has n = false := by rw [← BSet.make_zero, BSet.make_has _ hn]
theorem toS_has (d : Dfa) (s z : Nat) (b : UInt8) : (toS d s z).has b.toNat = decide (dlt d ((s : Nat) : Int) b = ((z : Nat) : Int)) := by
  unfold toS dlt
  rw [BSet.make_has _ (UInt8.toNat_lt b), Int.toNat_natCast]
theorem mk_step {d : Dfa} (h : rightD d = true) {out : List UInt8} {c : Bool} {S : List FPair} {q : Int} {u : List UInt8} (hq : okS d q) (hS : ∀ p, p ∈ S ↔ p = ⟨q, u⟩) (b : UInt8) :
    ∀ p, p ∈ aftP (mkF d out c) S b ↔ p = ⟨dlt d q b, if c = true then u ++ [b] else u⟩ := fun p => by
  have hd := dlt_ok h hq b
  rw [mem_aftP]
  constructor
  · rintro ⟨p', hp', a, ha, h1, h2, rfl⟩
    obtain rfl := (hS p').1 hp'
    obtain ⟨x, hx, rfl⟩ := List.mem_map.1 (show a ∈ (backE d d.next.length).map (fun x => (⟨x.frm, x.to, x.set, [], c⟩ : Arc)) from ha)
    obtain ⟨s, z, hs, hz, h0, rfl⟩ := mem_backE.1 hx
    dsimp only at h1 h2 ⊢
    rw [toS_has, decide_eq_true_eq, h1] at h2
    rw [h2]
    unfold outOf
    dsimp only
    cases c <;> simp
  · rintro rfl
    obtain ⟨q0, q1⟩ := hq
    obtain ⟨z0, z1⟩ := hd.nx
    refine ⟨⟨q, u⟩, (hS _).2 rfl, ⟨((q.toNat : Nat) : Int), (((dlt d q b).toNat : Nat) : Int), toS d q.toNat (dlt d q b).toNat, [], c⟩, ?_, ?_, ?_, ?_⟩
    · refine List.mem_map.2 ⟨⟨((q.toNat : Nat) : Int), (((dlt d q b).toNat : Nat) : Int), toS d q.toNat (dlt d q b).toNat⟩, mem_backE.2 ⟨q.toNat, (dlt d q b).toNat, by omega, by omega, fun hz => ?_, rfl⟩, rfl⟩
      have h3 := toS_has d q.toNat (dlt d q b).toNat b
      rw [hz, zero_has _ (UInt8.toNat_lt b), show ((q.toNat : Nat) : Int) = q by omega] at h3
      rw [decide_eq_true (by omega)] at h3
      cases h3
    · show ((q.toNat : Nat) : Int) = q; omega
    · dsimp only
      rw [toS_has, show ((q.toNat : Nat) : Int) = q by omega]
      exact decide_eq_true (by omega)
    · unfold outOf
      dsimp only
      rw [show (((dlt d q b).toNat : Nat) : Int) = dlt d q b by omega]
      cases c <;> simp
theorem mk_fold {d : Dfa} (h : rightD d = true) {out : List UInt8} {c : Bool} : ∀ (w : List UInt8) (S : List FPair) (q : Int) (u : List UInt8), okS d q → (∀ p, p ∈ S ↔ p = ⟨q, u⟩) →
    ∀ p, p ∈ w.foldl (aftP (mkF d out c)) S ↔ p = ⟨runD d q w, if c = true then u ++ w else u⟩
  | [], S, q, u, _, hS => fun p => by rw [List.foldl_nil, hS]; cases c <;> simp [runD]
  | b :: w, S, q, u, hq, hS => fun p => by
    rw [List.foldl_cons, mk_fold h w _ _ _ (dlt_ok h hq b).nx (mk_step h hq hS b)]
    cases c <;> simp [runD]
theorem mk_pairs {d : Dfa} (h : rightD d = true) {out : List UInt8} {c : Bool} (w : List UInt8) : ∀ p, p ∈ pairsL (mkF d out c) w ↔ p = ⟨runD d 0 w, if c = true then w else []⟩ := fun p => by
  have := mk_fold (out := out) (c := c) h w ((mkF d out c).starts.map tp) 0 [] (ok0 h) (fun p => by simp [mkF, tp]) p
  rw [pairsL, this]
  cases c <;> simp
theorem mk_fits {d : Dfa} (h : rightD d = true) {out : List UInt8} {c : Bool} (w : List UInt8) : fitsB (mkF d out c) w = true := by
  unfold fitsB
  rw [List.all_eq_true]
  intro k _
  have h1 : card (pairsL (mkF d out c) (w.take (k + 1))) ≤ card [(⟨runD d 0 (w.take (k + 1)), if c = true then w.take (k + 1) else []⟩ : FPair)] := card_mono fun x hx => by
    rw [(mk_pairs h _ x).1 hx]; exact List.mem_singleton.2 rfl
  have h2 := card_le [(⟨runD d 0 (w.take (k + 1)), if c = true then w.take (k + 1) else []⟩ : FPair)]
  simp only [List.length_singleton] at h2
  exact decide_eq_true (by omega)
theorem mk_outs {d : Dfa} (h : rightD d = true) {out : List UInt8} {c : Bool} (w : List UInt8) :
    outsL (mkF d out c) w = if nth d.fin (runD d 0 w).toNat false = true then [(if c = true then w else []) ++ out] else [] := by
  have hr := runD_ok h w (ok0 h)
  refine rising_eq cmpB_good (outsL_rise _ _) ?_ fun x => ?_
  · split
    · exact List.pairwise_singleton ..
    · exact List.Pairwise.nil
  · rw [mem_outsL]
    constructor
    · rintro ⟨p, hp, e, he, h1, rfl⟩
      obtain rfl := (mk_pairs h w p).1 hp
      obtain ⟨s, hs, rfl⟩ := List.mem_map.1 (show e ∈ (endsN d d.next.length).map (fun s => (⟨s, out⟩ : Tip)) from he)
      obtain ⟨n, hn, h2, rfl⟩ := mem_endsN.1 hs
      dsimp only at h1 ⊢
      rw [← h1, Int.toNat_natCast, if_pos h2]
      exact List.mem_singleton.2 rfl
    · intro hx
      split at hx
      · rename_i h2
        obtain rfl := List.mem_singleton.1 hx
        refine ⟨_, (mk_pairs h w _).2 rfl, ⟨(((runD d 0 w).toNat : Nat) : Int), out⟩, ?_, ?_, rfl⟩
        · exact List.mem_map.2 ⟨_, mem_endsN.2 ⟨(runD d 0 w).toNat, by have := hr.1; have := hr.2; omega, h2, rfl⟩, rfl⟩
        · show (((runD d 0 w).toNat : Nat) : Int) = runD d 0 w; have := hr.1; omega
      · cases hx
theorem mk_Outs {d : Dfa} (h : rightD d = true) {out : List UInt8} {c : Bool} (hn : d.next.length ≤ 100) (ho : out.length ≤ 1024) (w : List UInt8) (hw : w.length ≤ 256) :
    fst_Outs (mkF d out c) w = some (if nth d.fin (runD d 0 w).toNat false = true then [(if c = true then w else []) ++ out] else [], 0) := by
  have h1 : 1 ≤ d.next.length := by
    have := (ok0 h).2; omega
  rw [outs_eq _ _ (by omega), if_pos ((fstB_iff _).2 (mkF_ok hn h1 ho)), if_pos hw, if_pos (mk_fits h w), mk_outs h]
end Go.Proofs.YtcfjjckencjjeaaDoor
end

/- M2 -/
section
/- Decompiled: few states. -/
set_option linter.unusedVariables false
set_option linter.unusedSimpArgs false
namespace Go.Proofs.YtcfjjckencjjeaaDoor
open Go Go.E Go.E.OpVal Go.E.OpOk Go.Proofs.Tryd
set_option maxRecDepth 100000
private theorem fo26_0 : Go.E.foOf Tryd.prog 26 0 = some 0 := by kernel_rfl

noncomputable def whittleref11_Few_j1 (x0 : Dfa) : Option (Bool) :=
 iteO (decide (((x0.next.length : Nat) : Int) ≤ 40)) (some (decide (((x0.cls.length : Nat) : Int) ≤ 300))) (some false)
noncomputable def whittleref11_Few_b1 (x0 : Dfa) (k105 : Nat) : Option ((Nat) ⊕ (Bool)) :=
 iteO (decide (((k105 : Nat) : Int) < ((x0.next.length : Nat) : Int))) (iteO (decide (((x0.next.length : Nat) : Int) ≤ 40)) (iteO (decide (20 < (((nth x0.next k105 ([] : List Int)).length : Nat) : Int))) (fin (some false)) (nxt (k105 + 1))) (fin (whittleref11_Few_j1 x0))) (fin (whittleref11_Few_j1 x0))
noncomputable def whittleref11_Few (x0 : Dfa) : Option (Bool) :=
 iter (fun q : Nat => whittleref11_Few_b1 x0 q) 0
theorem whittleref11_Few_con {σ : Store} {x0 : Dfa} {a0_0 : Option Addr} {c0_0 : Nat} {a0_1 : Option Addr} {c0_1 : Nat} {a0_2 : Option Addr} {c0_2 : Nat} (f0_0 : RS σ 1 Go.E.encI (.slice a0_0 x0.cls.length c0_0) x0.cls) (f0_1 : RZ σ (pkSl 1 Go.E.encI Go.E.encI_len) (.slice a0_1 x0.next.length c0_1) x0.next) (f0_2 : RS σ 1 encB (.slice a0_2 x0.fin.length c0_2) x0.fin) {r : Bool} (hh : whittleref11_Few x0 = some r) :
  Con Tryd.prog 4 #[.agg #[.slice a0_0 x0.cls.length c0_0, .slice a0_1 x0.next.length c0_1, .slice a0_2 x0.fin.length c0_2]] σ [] (PureP (.bool r) σ) := by
 dsimp only [whittleref11_Few] at hh
 have f0_0b := f0_0.rv.big
 have f0_1b := f0_1.big
 have f0_2b := f0_2.rv.big
 refine Con.mk (n := 34) Tryd.func4 z z z (fun w0 => ?_)
 refine TC.a (TL.op z (boxA z z z z (fun b101 => ?_)))
 refine TL.j z z (TL.en (TC.cutG (α := (Unit) × (Unit)) (rgs [(2, 22)]) (fun g => []) (fun g => [Res.cells b101 #[.slice a0_0 x0.cls.length c0_0, .slice a0_1 x0.next.length c0_1, .slice a0_2 x0.fin.length c0_2] 26]) (fun g => σ) (fun g => whittleref11_Few_j1 x0 = some r) ?_ (fun g j hg => ?_)))
 ·skip
  refine TC.a (TL.i z z (TL.en (TC.block (TC.loopG (α := (Nat) × (Unit)) (rgs [(2, 22)]) (fun g => [(3, .int .i64 ((g.1 : Nat) : Int))]) (fun g => [Res.cells b101 #[.slice a0_0 x0.cls.length c0_0, .slice a0_1 x0.next.length c0_1, .slice a0_2 x0.fin.length c0_2] 26]) (fun g => σ) (fun g => iter (fun q : Nat => whittleref11_Few_b1 x0 q) g.1 = some r) (fun g => rounds (fun q : Nat => whittleref11_Few_b1 x0 q) g.1) (0, ()) (Sub.pre 1 z) z (by repeat (first | exact trivial | refine ⟨z, ?_⟩)) hh (fun g1 j1 hg1 => ?_)))))
  obtain ⟨k105, _⟩ := g1
  have hh := hg1; clear hg1
  try dsimp only
  obtain ⟨z1, hh, hR1⟩ := iter_e hh
  dsimp only [whittleref11_Few_b1] at hh
  refine TC.seq (TC.a (TL.i z z (TL.w z (fieldLoc z fo26_1 z) (TL.w z (loadLoc z ag23 z (i := 0) z z) (TL.w z (lenC z underlying23 z) (TL.w z (OpVal.lss z z z) (TL.j z z (TL.split 9 z (fun h106 => ?_) (fun h106 => ?_)))))))))
  ·replace hh := iteO_t h106 hh
   replace h106 := of_decide_eq_true h106
   refine TL.g z (fieldLoc z fo26_1 z) (TL.g z (loadLoc z ag23 z (i := 0) z z) (TL.g z (lenC z underlying23 z) (TL.g z (OpVal.leq z z z) (TL.w z (pickTB z z z) (TL.en (TC.cD z hh (fun h107 hh => ?_) (fun h107 hh => ?_)))))))
   ·refine TC.skip (S.n (TC.seq (TC.block (TC.a (TL.w z (fieldLoc z fo26_1 z) (TL.w z (loadLoc z ag23 z (i := 0) z z) (TL.i z z (TL.w z (indexN z underlying23 sz22 z z f0_1.isSl (by omega)) ?_))))))))
    obtain ⟨p108, hk108, hg108⟩ := RZ.seg f0_1 k105 (by omega)
    replace hk108 : RS _ 1 Go.E.encI (.slice p108.1 (nth x0.next k105 ([] : List Int)).length p108.2) (nth x0.next k105 ([] : List Int)) := hk108
    have hk108b := hk108.rv.big
    refine TL.w z (OpVal.of (loadSeg0 z ag22 z hg108 z) (v' := .slice p108.1 ((nth x0.next k105 ([] : List Int)).length) p108.2) z) (TL.w z (lenC z underlying22 z) (TL.w z (OpVal.gtr z z z) (TL.en (TC.cD z hh (fun h109 hh => ?_) (fun h109 hh => ?_)))))
    ·refine TC.a (TL.j z z (TL.en (TC.rt 0 (B.r (S.r (S.r ?_))))))
     replace hh := fin_x hR1 hh
     refine B.r (S.r ?_)
     obtain rfl := so hh
     exact rq [2] ⟨z, z, z⟩
    ·refine TC.skip (B.n (S.n (TC.region (TL.i z z (TL.w z (OpVal.succ z z z (by omega)) (TL.i z z (TL.en ?_)))))))
     obtain ⟨hh, hlt110⟩ := nxt_x hR1 hh
     exact lf ((k105 + 1), ()) hlt110 hh (Sub.pre 1 z)
   ·refine TC.exit (S.x (S.x ?_))
    replace hh := fin_x hR1 hh
    exact TC.exitHere (S.n (cf ((), ()) hh (Sub.pre 1 z)))
  ·replace hh := iteO_f h106 hh
   replace h106 := of_decide_eq_false h106
   refine TL.f z (TL.f z (TL.f z (TL.f z (TL.w z (pickFB z z z) (TL.en (TC.f z (TC.exit (S.x (S.x ?_)))))))))
   replace hh := fin_x hR1 hh
   exact TC.exitHere (S.n (cf ((), ()) hh (Sub.pre 1 z)))
 ·skip
  obtain ⟨_, _⟩ := g
  have hh := hg; clear hg
  try dsimp only
  dsimp only [whittleref11_Few_j1] at hh
  refine TC.a (TL.w z (fieldLoc z fo26_1 z) (TL.w z (loadLoc z ag23 z (i := 0) z z) (TL.w z (lenC z underlying23 z) (TL.w z (OpVal.leq z z z) (TL.j z z (TL.split 28 z (fun h111 => ?_) (fun h111 => ?_)))))))
  ·replace hh := iteO_t h111 hh
   replace h111 := of_decide_eq_true h111
   refine TL.g z (fieldLoc z fo26_0 z) (TL.g z (loadLoc z ag22 z (i := 0) z z) (TL.g z (lenC z underlying22 z) (TL.g z (OpVal.leq z z z) (TL.w z (pickTB z z z) (TL.j z z (TL.en (TC.rt 0 ?_)))))))
   obtain rfl := so hh
   exact rq [2] ⟨z, z, z⟩
  ·replace hh := iteO_f h111 hh
   replace h111 := of_decide_eq_false h111
   refine TL.f z (TL.f z (TL.f z (TL.f z (TL.w z (pickFB z z z) (TL.j z z (TL.en (TC.rt 0 ?_)))))))
   obtain rfl := so hh
   exact rq [2] ⟨z, z, z⟩

end Go.Proofs.YtcfjjckencjjeaaDoor
end

/- Few11 -/
section
/- Automatons of few states. Plain lemmas, no condition. -/
set_option linter.unusedVariables false
set_option linter.unusedSimpArgs false
namespace Go.Proofs.YtcfjjckencjjeaaDoor
open Go Go.E
set_option maxRecDepth 100000
theorem few11_ok (d : Dfa) : ∃ b, whittleref11_Few d = some b ∧ (b = true → d.next.length ≤ 40) := by
  unfold whittleref11_Few
  obtain ⟨r, h1, h2⟩ := iter_up (step := fun q : Nat => whittleref11_Few_b1 d q) (fun (_ : Unit) k => k) d.next.length (fun _ _ => True) (fun r => r = true → d.next.length ≤ 40)
    (fun k s hk _ => by
      simp only [whittleref11_Few_b1, whittleref11_Few_j1]
      rw [iteO_dt (by omega)]
      by_cases c : d.next.length ≤ 40
      · rw [iteO_dt (by omega)]
        by_cases c2 : 20 < (nth d.next k ([] : List Int)).length
        · rw [iteO_dt (by omega)]; right; exact ⟨_, rfl, fun _ => c⟩
        · rw [iteO_df (by omega)]; left; exact ⟨(), rfl, trivial⟩
      · rw [iteO_df (by omega), iteO_df (by omega)]; right; exact ⟨_, rfl, fun h => by cases h⟩)
    (fun s _ => by
      simp only [whittleref11_Few_b1, whittleref11_Few_j1]
      rw [iteO_df (by omega)]
      by_cases c : d.next.length ≤ 40
      · rw [iteO_dt (by omega)]; exact ⟨_, rfl, fun _ => c⟩
      · rw [iteO_df (by omega)]; exact ⟨_, rfl, fun h => by cases h⟩) (s0 := ()) trivial
  exact ⟨r, h1, h2⟩
end Go.Proofs.YtcfjjckencjjeaaDoor
end

/- TkJ -/
section
/- Decompiled: does an automaton take a text? -/
set_option linter.unusedVariables false
set_option linter.unusedSimpArgs false
namespace Go.Proofs.YtcfjjckencjjeaaDoor
open Go Go.E Go.E.OpVal Go.E.OpOk Go.Proofs.Tryd
set_option maxRecDepth 100000
private theorem pf13 : Go.E.plainF Tryd.prog 13 = true := by kernel_rfl
private theorem pf9 : Go.E.plainF Tryd.prog 9 = true := by kernel_rfl

noncomputable def dfa_Run_b1 (x2 : List UInt8) (x0 : Dfa) (i110 : Int) (k111 : Nat) : Option ((Int × Nat) ⊕ (Int × Int)) :=
 iteO (decide (((k111 : Nat) : Int) < ((x2.length : Nat) : Int))) (grd (0 ≤ i110 ∧ i110 < (x0.next.length : Int)) (grd ((nth x2 k111 (0 : UInt8)).toNat < x0.cls.length) (grd (0 ≤ (nth x0.cls ((nth x2 k111 (0 : UInt8)).toNat) (0 : Int)) ∧ (nth x0.cls ((nth x2 k111 (0 : UInt8)).toNat) (0 : Int)) < ((nth x0.next i110.toNat ([] : List Int)).length : Int)) (nxt ((nth (nth x0.next i110.toNat ([] : List Int)) ((nth x0.cls ((nth x2 k111 (0 : UInt8)).toNat) (0 : Int)).toNat) (0 : Int)), (k111 + 1)))))) (fin (some (i110, 0)))
noncomputable def dfa_Run (x0 : Dfa) (x1 : Int) (x2 : List UInt8) : Option (Int × Int) :=
 grd (x2.length ≤ 281474976710656) (bnd (dfa_Check x0) (fun v5 => iteO (decide (v5 ≠ 0)) (some (0, 1)) (iteO (decide (x1 < 0)) (some (0, 1)) (iteO (decide (((x0.next.length : Nat) : Int) ≤ x1)) (some (0, 1)) (iter (fun q : Int × Nat => dfa_Run_b1 x2 x0 q.1 q.2) (x1, 0))))))
theorem dfa_Run_con {σ : Store} {x0 : Dfa} {a0_0 : Option Addr} {c0_0 : Nat} {a0_1 : Option Addr} {c0_1 : Nat} {a0_2 : Option Addr} {c0_2 : Nat} {x1 : Int} {x2 : List UInt8} (f0_0 : RS σ 1 Go.E.encI (.slice a0_0 x0.cls.length c0_0) x0.cls) (f0_1 : RZ σ (pkSl 1 Go.E.encI Go.E.encI_len) (.slice a0_1 x0.next.length c0_1) x0.next) (f0_2 : RS σ 1 encB (.slice a0_2 x0.fin.length c0_2) x0.fin) {r : Int × Int} (hh : dfa_Run x0 x1 x2 = some r) :
  Con Tryd.prog 13 #[.agg #[.slice a0_0 x0.cls.length c0_0, .slice a0_1 x0.next.length c0_1, .slice a0_2 x0.fin.length c0_2], .int .i64 x1, .string (bs x2)] σ [] (PureP (.tuple #[.int .i64 r.1, .int .i64 r.2]) σ) := by
 dsimp only [dfa_Run] at hh
 have f0_0b := f0_0.rv.big
 have f0_1b := f0_1.big
 have f0_2b := f0_2.rv.big
 refine Con.mk (n := 44) Tryd.func13 z z z (fun w0 => ?_)
 have x2b := grd_c hh
 replace hh := grd_t hh
 refine TC.a (TL.op z (boxA z z z z (fun b101 => ?_)))
 refine TL.i z z (TL.i z z (TL.en (TC.seq (TC.a (TL.w z (loadAll z ag26 sz26 z (i := 0) z z) ?_)))))
 obtain ⟨v5, u5, hh⟩ := bnd_e hh
 refine TL.op z (callP (dfa_Check_con (x0 := x0) f0_0 f0_1 f0_2 u5) z z pf9 z z z ?_)
 refine TL.w z (OpVal.neq z z z) (TL.j z z (TL.split 12 z (fun h103 => ?_) (fun h103 => ?_)))
 ·replace hh := iteO_t h103 hh
  replace h103 := of_decide_eq_true h103
  refine TL.f z (TL.f z (TL.w z (pickTB z z z) (TL.j z z (TL.f z (TL.f z (TL.f z (TL.f z (TL.f z (TL.w z (pickTB z z z) (TL.en (TC.t z (TC.a (TL.i z z (TL.i z z (TL.en ?_)))))))))))))))
  refine TC.rt 0 (S.r ?_)
  obtain rfl := so hh
  exact rq [6, 7] ⟨z, z, z⟩
 ·replace hh := iteO_f h103 hh
  replace h103 := of_decide_eq_false h103
  refine TL.g z (moveI (.inl z) z) (TL.g z (OpVal.lss z z z) (TL.w z (pickFB z z z) (TL.j z z (TL.split 16 z (fun h104 => ?_) (fun h104 => ?_)))))
  ·replace hh := iteO_t h104 hh
   replace h104 := of_decide_eq_true h104
   refine TL.f z (TL.f z (TL.f z (TL.f z (TL.f z (TL.w z (pickTB z z z) (TL.en (TC.t z (TC.a (TL.i z z (TL.i z z (TL.en (TC.rt 0 (S.r ?_)))))))))))))
   obtain rfl := so hh
   exact rq [6, 7] ⟨z, z, z⟩
  ·replace hh := iteO_f h104 hh
   replace h104 := of_decide_eq_false h104
   refine TL.g z (moveI (.inl z) z) (TL.g z (fieldLoc z fo26_1 z) (TL.g z (loadLoc z ag23 z (i := 0) z z) (TL.g z (lenC z underlying23 z) (TL.g z (OpVal.geq z z z) (TL.w z (pickFB z z z) (TL.en (TC.cD z hh (fun h105 hh => ?_) (fun h105 hh => ?_))))))))
   ·refine TC.a (TL.i z z (TL.i z z (TL.en (TC.rt 0 (S.r ?_)))))
    obtain rfl := so hh
    exact rq [6, 7] ⟨z, z, z⟩
   ·refine TC.skip (S.n (TC.seq (TC.a (TL.w z (moveStr (.inl z) z) (TL.w z (lenBs z underlying9 z) (TL.i z z (TL.en (TC.block (TC.loopG (α := (Int × Nat) × (Unit)) (rgs [(1, 1), (8, 1), (25, 18)]) (fun g => [(1, .int .i64 g.1.1), (25, .int .i64 ((g.1.2 : Nat) : Int))]) (fun g => [Res.cells b101 #[.slice a0_0 x0.cls.length c0_0, .slice a0_1 x0.next.length c0_1, .slice a0_2 x0.fin.length c0_2] 26]) (fun g => σ) (fun g => iter (fun q : Int × Nat => dfa_Run_b1 x2 x0 q.1 q.2) g.1 = some r) (fun g => rounds (fun q : Int × Nat => dfa_Run_b1 x2 x0 q.1 q.2) g.1) ((x1, 0), ()) (Sub.pre 1 z) z (by repeat (first | exact trivial | refine ⟨z, ?_⟩)) hh (fun g1 j1 hg1 => ?_))))))))))
    obtain ⟨⟨i110, k111⟩, _⟩ := g1
    have hh := hg1; clear hg1
    try dsimp only
    obtain ⟨z1, hh, hR1⟩ := iter_e hh
    dsimp only [dfa_Run_b1] at hh
    refine TC.a (TL.w z (OpVal.lss z z z) (TL.en (TC.seq (TC.cD z hh (fun h112 hh => ?_) (fun h112 hh => ?_)))))
    ·refine TC.skip (S.n (TC.seq (TC.block (TC.a (TL.i z z (TL.i z z (TL.en ?_)))))))
     have u29 := grd_c hh
     replace hh := grd_t hh
     have u36 := grd_c hh
     replace hh := grd_t hh
     have u38 := grd_c hh
     replace hh := grd_t hh
     refine TC.draw [] (by kernel_rfl) (TA.a 0 z (fieldLoc z fo26_1 z) z (TA.b 1 z (loadLoc z ag23 z (i := 0) z z) z (TA.a 2 z (moveI (.inl z) z) z (TA.b 3 z (OpVal.index z underlying23 sz22 z z f0_1.isSl u29.1 u29.2) z ?_))))
     obtain ⟨p114, hk114, hg114⟩ := RZ.seg f0_1 i110.toNat (by omega)
     replace hk114 : RS _ 1 Go.E.encI (.slice p114.1 (nth x0.next i110.toNat ([] : List Int)).length p114.2) (nth x0.next i110.toNat ([] : List Int)) := hk114
     have hk114b := hk114.rv.big
     refine TA.b 4 z (OpVal.of (loadSeg0 z ag22 z hg114 z) (v' := .slice p114.1 ((nth x0.next i110.toNat ([] : List Int)).length) p114.2) z) z (TA.a 5 z (fieldLoc z fo26_0 z) z (TA.b 6 z (loadLoc z ag22 z (i := 0) z z) z (TA.a 7 z (moveStr (.inl z) z) z (TA.a 8 z (moveI (.inl z) z) z (TA.a 9 z (indexBs z underlying9 z z (by omega)) z (TA.b 10 z (indexN z underlying22 sz3 z z f0_0.rv.sl (by omega)) z (TA.b 11 z (loadS1 (0 : Int) z ag3 z f0_0 (by omega) z) z (TA.b 12 z (OpVal.index z underlying22 sz3 z z hk114.rv.sl u38.1 u38.2) z (TA.b 13 z (loadS1 (0 : Int) z ag3 z hk114 (by omega) z) z (TA.a 14 z (moveI (.inr z) z) z (TA.dn (B.n (S.n (TC.region (TL.w z (OpVal.succ z z z (by omega)) ?_)))))))))))))))
     refine TL.i z z (TL.en ?_)
     obtain ⟨hh, hlt115⟩ := nxt_x hR1 hh
     exact lf (((nth (nth x0.next i110.toNat ([] : List Int)) ((nth x0.cls ((nth x2 k111 (0 : UInt8)).toNat) (0 : Int)).toNat) (0 : Int)), (k111 + 1)), ()) hlt115 hh (Sub.pre 1 z)
    ·refine TC.exit (S.x (S.x ?_))
     replace hh := fin_x hR1 hh
     refine TC.exitHere (S.n (TC.a (TL.i z z (TL.i z z (TL.i z z (TL.en (TC.rt 0 ?_)))))))
     obtain rfl := so hh
     exact rq [6, 7] ⟨z, z, z⟩

noncomputable def dfa_Takes (x0 : Dfa) (x1 : List UInt8) : Option (Bool × Int) :=
 grd (x1.length ≤ 281474976710656) (bnd (dfa_Run x0 0 x1) (fun v6 => iteO (decide (v6.2 ≠ 0)) (some (false, v6.2)) (grd (0 ≤ v6.1 ∧ v6.1 < (x0.fin.length : Int)) (some ((nth x0.fin v6.1.toNat false), 0)))))
theorem dfa_Takes_con {σ : Store} {x0 : Dfa} {a0_0 : Option Addr} {c0_0 : Nat} {a0_1 : Option Addr} {c0_1 : Nat} {a0_2 : Option Addr} {c0_2 : Nat} {x1 : List UInt8} (f0_0 : RS σ 1 Go.E.encI (.slice a0_0 x0.cls.length c0_0) x0.cls) (f0_1 : RZ σ (pkSl 1 Go.E.encI Go.E.encI_len) (.slice a0_1 x0.next.length c0_1) x0.next) (f0_2 : RS σ 1 encB (.slice a0_2 x0.fin.length c0_2) x0.fin) {r : Bool × Int} (hh : dfa_Takes x0 x1 = some r) :
  Con Tryd.prog 7 #[.agg #[.slice a0_0 x0.cls.length c0_0, .slice a0_1 x0.next.length c0_1, .slice a0_2 x0.fin.length c0_2], .string (bs x1)] σ [] (PureP (.tuple #[.bool r.1, .int .i64 r.2]) σ) := by
 dsimp only [dfa_Takes] at hh
 have f0_0b := f0_0.rv.big
 have f0_1b := f0_1.big
 have f0_2b := f0_2.rv.big
 refine Con.mk (n := 22) Tryd.func7 z z z (fun w0 => ?_)
 have x1b := grd_c hh
 replace hh := grd_t hh
 refine TC.a (TL.op z (boxA z z z z (fun b101 => ?_)))
 refine TL.j z z (TL.i z z (TL.en (TC.a (TL.w z (loadAll z ag26 sz26 z (i := 0) z z) (TL.w z (moveStr (.inl z) z) ?_)))))
 obtain ⟨v6, u6, hh⟩ := bnd_e hh
 refine TL.op z (callP (dfa_Run_con (x0 := x0) f0_0 f0_1 f0_2 u6) z z pf13 z z z ?_)
 refine TL.w z (moveT (.inl z) z) (TL.w z (OpVal.extract z z z) (TL.w z (OpVal.extract z z z) (TL.i z z (TL.i z z (TL.en (TC.seq (TC.a (TL.i z z (TL.w z (OpVal.neq z z z) (TL.en (TC.cD z hh (fun h103 hh => ?_) (fun h103 hh => ?_))))))))))))
 ·refine TC.a (TL.i z z (TL.j z z (TL.i z z (TL.en (TC.rt 0 (S.r ?_))))))
  obtain rfl := so hh
  exact rq [4, 5] ⟨z, z, z⟩
 ·refine TC.skip (S.n (TC.a (TL.w z (fieldLoc z fo26_2 z) (TL.w z (loadLoc z ag24 z (i := 0) z z) (TL.i z z ?_)))))
  have u20 := grd_c hh
  replace hh := grd_t hh
  refine TL.w z (OpVal.index z underlying24 sz4 z z f0_2.rv.sl u20.1 u20.2) (TL.w z (loadS1 false z ag4 z f0_2 (by omega) z) (TL.j z z (TL.i z z (TL.en (TC.rt 0 ?_)))))
  obtain rfl := so hh
  exact rq [4, 5] ⟨z, z, z⟩

end Go.Proofs.YtcfjjckencjjeaaDoor
end

/- TkP -/
section
/- Does an automaton take a text? Plain lemmas, no condition. -/
set_option linter.unusedVariables false
set_option linter.unusedSimpArgs false
namespace Go.Proofs.YtcfjjckencjjeaaDoor
open Go Go.E
set_option maxRecDepth 100000

theorem drop_nthT (l : List UInt8) {i : Nat} (hi : i < l.length) : l.drop i = nth l i 0 :: l.drop (i + 1) := by
  rw [List.drop_eq_getElem_cons hi]
  have := getD_some l hi (0 : UInt8)
  rw [List.getElem?_eq_getElem hi] at this
  rw [Option.some.inj this]
theorem tk_loop {d : Dfa} (h : rightD d = true) (l : List UInt8) : ∀ (m k : Nat) (q : Int), l.length - k = m → k ≤ l.length → okS d q → iter (fun q : Int × Nat => dfa_Run_b1 l d q.1 q.2) (q, k) = some (runD d q (l.drop k), 0)
  | 0, k, q, hm, hk, hq => by
    have e : k = l.length := by omega
    subst e
    refine iter_done ?_
    simp only [dfa_Run_b1]
    rw [iteO_df (by omega), List.drop_length]; rfl
  | m + 1, k, q, hm, hk, hq => by
    have hs := dlt_ok h hq (nth l k (0 : UInt8))
    rw [drop_nthT l (by omega), runD, List.foldl_cons]
    refine iter_next ?_ (tk_loop h l m (k + 1) (dlt d q (nth l k 0)) (by omega) (by omega) hs.nx)
    simp only [dfa_Run_b1]
    rw [iteO_dt (by omega), grd_mk (show 0 ≤ q ∧ q < (d.next.length : Int) from hq), grd_mk hs.cl, grd_mk hs.c]
    rfl
theorem tk_eq (d : Dfa) (l : List UInt8) (hl : l.length ≤ 281474976710656) : dfa_Takes d l = some (if rightD d = true then (nth d.fin (runD d 0 l).toNat false, 0) else (false, 1)) := by
  unfold dfa_Takes dfa_Run
  rw [grd_mk hl, grd_mk hl, dcheck_eq, bnd_mk]
  by_cases h : rightD d = true
  · obtain ⟨m, hm1, hm2, hn1, hn2, hfl, _⟩ := right_parts h
    rw [if_pos h, if_pos h, iteO_df (by omega), iteO_df (by omega), iteO_df (by omega), tk_loop h l _ 0 0 rfl (Nat.zero_le _) (ok0 h), bnd_mk]
    have hq := runD_ok h l (ok0 h)
    rw [List.drop_zero]
    simp only []
    rw [iteO_df (by omega), grd_mk (by rw [hfl]; exact hq)]
  · rw [if_neg h, if_neg h]
    rfl
end Go.Proofs.YtcfjjckencjjeaaDoor
end

/- M6 -/
section
/- Decompiled: the law RatTexts. -/
set_option linter.unusedVariables false
set_option linter.unusedSimpArgs false
namespace Go.Proofs.YtcfjjckencjjeaaDoor
open Go Go.E Go.E.OpVal Go.E.OpOk Go.Proofs.Tryd
set_option maxRecDepth 100000
private theorem pf4 : Go.E.plainF Tryd.prog 4 = true := by kernel_rfl
private theorem pf7 : Go.E.plainF Tryd.prog 7 = true := by kernel_rfl
private theorem pf8 : Go.E.plainF Tryd.prog 8 = true := by kernel_rfl

noncomputable def whittlelaw16_RatTexts (x0 : Dfa) (x1 : List UInt8) (x2 : List UInt8) : Option (Bool) :=
 grd (x1.length ≤ 281474976710656) (grd (x2.length ≤ 281474976710656) (bnd (whittleref11_Few x0) (fun v4 => iteO (!v4) (some true) (iteO (decide (300 < ((x1.length : Nat) : Int))) (some true) (iteO (decide (100 < ((x2.length : Nat) : Int))) (some true) (bnd (rat_Same x0) (fun v18 => bnd (rat_Cross x0 x1) (fun v27 => bnd (dfa_Takes x0 x2) (fun v36 => iteO (decide (v18.2 ≠ 0)) (bnd (whittlelaw16_awake) (fun v52 => iteO v52 (iteO (!v36.1) (bnd (dfa_Check x0) (fun v59 => some (decide (v59 ≠ 0)))) (some false)) (some false))) (iteO (decide (v27.2 ≠ 0)) (bnd (whittlelaw16_awake) (fun v52 => iteO v52 (iteO (!v36.1) (bnd (dfa_Check x0) (fun v59 => some (decide (v59 ≠ 0)))) (some false)) (some false))) (iteO (decide (v36.2 ≠ 0)) (bnd (whittlelaw16_awake) (fun v52 => iteO v52 (iteO (!v36.1) (bnd (dfa_Check x0) (fun v59 => some (decide (v59 ≠ 0)))) (some false)) (some false))) (bnd (fst_Outs v18.1 x2) (fun v65 => bnd (fst_Outs v27.1 x2) (fun v73 => iteO (!v36.1) (bnd (whittlelaw16_awake) (fun v81 => iteO v81 (iteO (decide ((IntKind.i64.wrap (((v65.1.length : Nat) : Int) + ((v73.1.length : Nat) : Int))) = 0)) (iteO (decide (v65.2 = 0)) (some (decide (v73.2 = v65.2))) (some false)) (some false)) (some false))) (bnd (whittlelaw16_awake) (fun v100 => iteO v100 (bnd (whittleref03_Texts v65.1 [x2]) (fun v105 => iteO v105 (bnd (whittleref03_Texts v73.1 [x1]) (fun v111 => iteO v111 (iteO (decide (v65.2 = 0)) (some (decide (v73.2 = v65.2))) (some false)) (some false))) (some false))) (some false)))))))))))))))))
theorem whittlelaw16_RatTexts_con {σ : Store} {x0 : Dfa} {a0_0 : Option Addr} {c0_0 : Nat} {a0_1 : Option Addr} {c0_1 : Nat} {a0_2 : Option Addr} {c0_2 : Nat} {x1 : List UInt8} {x2 : List UInt8} (hgl : GT σ 1 encU8 deB) (f0_0 : RS σ 1 Go.E.encI (.slice a0_0 x0.cls.length c0_0) x0.cls) (f0_1 : RZ σ (pkSl 1 Go.E.encI Go.E.encI_len) (.slice a0_1 x0.next.length c0_1) x0.next) (f0_2 : RS σ 1 encB (.slice a0_2 x0.fin.length c0_2) x0.fin) {r : Bool} (hh : whittlelaw16_RatTexts x0 x1 x2 = some r) :
  Con Tryd.prog 3 #[.agg #[.slice a0_0 x0.cls.length c0_0, .slice a0_1 x0.next.length c0_1, .slice a0_2 x0.fin.length c0_2], .string (bs x1), .string (bs x2)] σ [] (PureP (.bool r) σ) := by
 dsimp only [whittlelaw16_RatTexts] at hh
 have f0_0b := f0_0.rv.big
 have f0_1b := f0_1.big
 have f0_2b := f0_2.rv.big
 refine Con.mk (n := 121) Tryd.func3 z z z (fun w0 => ?_)
 have x1b := grd_c hh
 replace hh := grd_t hh
 have x2b := grd_c hh
 replace hh := grd_t hh
 refine TC.a (TL.op z (boxA z z z z (fun b101 => ?_)))
 refine TL.j z z (TL.en (TC.seq (TC.a (TL.w z (loadAll z ag26 sz26 z (i := 0) z z) ?_))))
 obtain ⟨v4, u4, hh⟩ := bnd_e hh
 refine TL.op z (callP (whittleref11_Few_con (x0 := x0) f0_0 f0_1 f0_2 u4) z z pf4 z z z ?_)
 refine TL.w z (OpVal.not z z) (TL.j z z (TL.split 20 z (fun h103 => ?_) (fun h103 => ?_)))
 ·replace hh := iteO_t h103 hh
  refine TL.f z (TL.f z (TL.f z (TL.w z (pickTB z z z) (TL.j z z (TL.f z (TL.f z (TL.f z (TL.w z (pickTB z z z) (TL.en (TC.t z (TC.a (TL.j z z (TL.en (TC.rt 0 (S.r ?_)))))))))))))))
  obtain rfl := so hh
  exact rq [6] ⟨z, z, z⟩
 ·replace hh := iteO_f h103 hh
  refine TL.g z (moveStr (.inl z) z) (TL.g z (lenBs z underlying9 z) (TL.g z (OpVal.gtr z z z) (TL.w z (pickFB z z z) (TL.j z z (TL.split 25 z (fun h104 => ?_) (fun h104 => ?_))))))
  ·replace hh := iteO_t h104 hh
   replace h104 := of_decide_eq_true h104
   refine TL.f z (TL.f z (TL.f z (TL.w z (pickTB z z z) (TL.en (TC.t z (TC.a (TL.j z z (TL.en (TC.rt 0 (S.r ?_))))))))))
   obtain rfl := so hh
   exact rq [6] ⟨z, z, z⟩
  ·replace hh := iteO_f h104 hh
   replace h104 := of_decide_eq_false h104
   refine TL.g z (moveStr (.inl z) z) (TL.g z (lenBs z underlying9 z) (TL.g z (OpVal.gtr z z z) (TL.w z (pickFB z z z) (TL.en (TC.cD z hh (fun h105 hh => ?_) (fun h105 hh => ?_))))))
   ·refine TC.a (TL.j z z (TL.en (TC.rt 0 (S.r ?_))))
    obtain rfl := so hh
    exact rq [6] ⟨z, z, z⟩
   ·refine TC.skip (S.n (TC.a (TL.w z (loadAll z ag26 sz26 z (i := 0) z z) ?_)))
    obtain ⟨v18, u18, hh⟩ := bnd_e hh
    refine TL.op z (OpOk.call (rat_Same_con (x0 := x0) f0_0 f0_1 f0_2 u18) z z pf5 z z z z ?_)
    rintro _ τ106 _ hle106 ⟨a106_1, c106_1, a106_2, c106_2, a106_3, c106_3, rfl, hr106_0, hr106_1, hr106_2, rfl⟩
    replace f0_0 := f0_0.mono hle106
    replace f0_1 := f0_1.mono hle106
    replace f0_2 := f0_2.mono hle106
    replace hgl := hgl.mono hle106
    have hr106_0b := hr106_0.rv.big
    have hr106_1b := hr106_1.rv.big
    have hr106_2b := hr106_2.rv.big
    refine TL.w z (moveT (.inl z) z) (TL.w z (OpVal.extract z z z) (TL.w z (OpVal.extract z z z) (TL.op z (OpOk.alloc z ze31 z z (fun b107 => ?_)))))
    refine TL.op z (storeAll z sz31 z z z z z z ?_)
    refine TL.i z z (TL.en (TC.a (TL.w z (loadAll z ag26 sz26 z (i := 1) z z) (TL.w z (moveStr (.inl z) z) ?_))))
    obtain ⟨v27, u27, hh⟩ := bnd_e hh
    refine TL.op z (OpOk.call (rat_Cross_con (x0 := x0) f0_0 f0_1 f0_2 u27) z z pf6 z z z z ?_)
    rintro _ τ109 _ hle109 ⟨a109_1, c109_1, a109_2, c109_2, a109_3, c109_3, rfl, hr109_0, hr109_1, hr109_2, rfl⟩
    replace f0_0 := f0_0.mono hle109
    replace f0_1 := f0_1.mono hle109
    replace f0_2 := f0_2.mono hle109
    replace hgl := hgl.mono hle109
    replace hr106_0 := hr106_0.mono hle109
    replace hr106_1 := hr106_1.mono hle109
    replace hr106_2 := hr106_2.mono hle109
    have hr109_0b := hr109_0.rv.big
    have hr109_1b := hr109_1.rv.big
    have hr109_2b := hr109_2.rv.big
    refine TL.w z (moveT (.inl z) z) (TL.w z (OpVal.extract z z z) (TL.w z (OpVal.extract z z z) (TL.op z (OpOk.alloc z ze31 z z (fun b110 => ?_)))))
    refine TL.op z (storeAll z sz31 z z z z z z ?_)
    refine TL.i z z (TL.en (TC.a (TL.w z (loadAll z ag26 sz26 z (i := 2) z z) (TL.w z (moveStr (.inl z) z) ?_))))
    obtain ⟨v36, u36, hh⟩ := bnd_e hh
    refine TL.op z (callP (dfa_Takes_con (x0 := x0) f0_0 f0_1 f0_2 u36) z z pf7 z z z ?_)
    refine TL.w z (moveT (.inl z) z) (TL.w z (OpVal.extract z z z) (TL.w z (OpVal.extract z z z) (TL.j z z (TL.i z z (TL.en (TC.seq (TC.a (TL.i z z (TL.w z (OpVal.neq z z z) (TL.j z z (TL.split 49 z (fun h112 => ?_) (fun h112 => ?_))))))))))))
    ·replace hh := iteO_t h112 hh
     replace h112 := of_decide_eq_true h112
     refine TL.f z (TL.f z (TL.w z (pickTB z z z) (TL.j z z (TL.f z (TL.f z (TL.w z (pickTB z z z) (TL.en (TC.t z (TC.a ?_)))))))))
     obtain ⟨v52, u52, hh⟩ := bnd_e hh
     refine TL.op z (callP (whittlelaw16_awake_con hgl u52) z z pf8 z z z ?_)
     refine TL.j z z (TL.split 58 z (fun h113 => ?_) (fun h113 => ?_))
     ·replace hh := iteO_t h113 hh
      refine TL.g z (moveB (.inl z) z) (TL.g z (OpVal.not z z) (TL.w z (pickTB z z z) (TL.j z z (TL.split 62 z (fun h114 => ?_) (fun h114 => ?_)))))
      ·replace hh := iteO_t h114 hh
       refine TL.g z (loadAll z ag26 sz26 z (i := 2) z z) ?_
       obtain ⟨v59, u59, hh⟩ := bnd_e hh
       refine TL.gon z z z z z (callP (dfa_Check_con (x0 := x0) f0_0 f0_1 f0_2 u59) z z pf9 z z z ?_)
       refine TL.g z (OpVal.neq z z z) (TL.w z (pickTB z z z) (TL.j z z (TL.en (TC.ofSub (Sub.pre 0 z) (TC.back (TC.ret (S.r ?_)))))))
       obtain rfl := so hh
       exact rq [6] ⟨z, z, z⟩
      ·replace hh := iteO_f h114 hh
       refine TL.f z (TL.f z (TL.f z (TL.w z (pickFB z z z) (TL.j z z (TL.en (TC.ofSub (Sub.pre 0 z) (TC.back (TC.ret (S.r ?_)))))))))
       obtain rfl := so hh
       exact rq [6] ⟨z, z, z⟩
     ·replace hh := iteO_f h113 hh
      refine TL.f z (TL.f z (TL.w z (pickFB z z z) (TL.j z z (TL.f z (TL.f z (TL.f z (TL.w z (pickFB z z z) (TL.j z z (TL.en (TC.ofSub (Sub.pre 0 z) (TC.back (TC.ret (S.r ?_)))))))))))))
      obtain rfl := so hh
      exact rq [6] ⟨z, z, z⟩
    ·replace hh := iteO_f h112 hh
     replace h112 := of_decide_eq_false h112
     refine TL.g z (moveI (.inl z) z) (TL.g z (OpVal.neq z z z) (TL.w z (pickFB z z z) (TL.j z z (TL.split 53 z (fun h115 => ?_) (fun h115 => ?_)))))
     ·replace hh := iteO_t h115 hh
      replace h115 := of_decide_eq_true h115
      refine TL.f z (TL.f z (TL.w z (pickTB z z z) (TL.en (TC.t z (TC.a ?_)))))
      obtain ⟨v52, u52, hh⟩ := bnd_e hh
      refine TL.op z (callP (whittlelaw16_awake_con hgl u52) z z pf8 z z z ?_)
      refine TL.j z z (TL.split 58 z (fun h116 => ?_) (fun h116 => ?_))
      ·replace hh := iteO_t h116 hh
       refine TL.g z (moveB (.inl z) z) (TL.g z (OpVal.not z z) (TL.w z (pickTB z z z) (TL.j z z (TL.split 62 z (fun h117 => ?_) (fun h117 => ?_)))))
       ·replace hh := iteO_t h117 hh
        refine TL.g z (loadAll z ag26 sz26 z (i := 2) z z) ?_
        obtain ⟨v59, u59, hh⟩ := bnd_e hh
        refine TL.gon z z z z z (callP (dfa_Check_con (x0 := x0) f0_0 f0_1 f0_2 u59) z z pf9 z z z ?_)
        refine TL.g z (OpVal.neq z z z) (TL.w z (pickTB z z z) (TL.j z z (TL.en (TC.ofSub (Sub.pre 0 z) (TC.back (TC.ret (S.r ?_)))))))
        obtain rfl := so hh
        exact rq [6] ⟨z, z, z⟩
       ·replace hh := iteO_f h117 hh
        refine TL.f z (TL.f z (TL.f z (TL.w z (pickFB z z z) (TL.j z z (TL.en (TC.ofSub (Sub.pre 0 z) (TC.back (TC.ret (S.r ?_)))))))))
        obtain rfl := so hh
        exact rq [6] ⟨z, z, z⟩
      ·replace hh := iteO_f h116 hh
       refine TL.f z (TL.f z (TL.w z (pickFB z z z) (TL.j z z (TL.f z (TL.f z (TL.f z (TL.w z (pickFB z z z) (TL.j z z (TL.en (TC.ofSub (Sub.pre 0 z) (TC.back (TC.ret (S.r ?_)))))))))))))
       obtain rfl := so hh
       exact rq [6] ⟨z, z, z⟩
     ·replace hh := iteO_f h115 hh
      replace h115 := of_decide_eq_false h115
      refine TL.g z (moveI (.inl z) z) (TL.g z (OpVal.neq z z z) (TL.w z (pickFB z z z) (TL.en (TC.cD z hh (fun h118 hh => ?_) (fun h118 hh => ?_)))))
      ·refine TC.a ?_
       obtain ⟨v52, u52, hh⟩ := bnd_e hh
       refine TL.op z (callP (whittlelaw16_awake_con hgl u52) z z pf8 z z z ?_)
       refine TL.j z z (TL.split 58 z (fun h119 => ?_) (fun h119 => ?_))
       ·replace hh := iteO_t h119 hh
        refine TL.g z (moveB (.inl z) z) (TL.g z (OpVal.not z z) (TL.w z (pickTB z z z) (TL.j z z (TL.split 62 z (fun h120 => ?_) (fun h120 => ?_)))))
        ·replace hh := iteO_t h120 hh
         refine TL.g z (loadAll z ag26 sz26 z (i := 2) z z) ?_
         obtain ⟨v59, u59, hh⟩ := bnd_e hh
         refine TL.gon z z z z z (callP (dfa_Check_con (x0 := x0) f0_0 f0_1 f0_2 u59) z z pf9 z z z ?_)
         refine TL.g z (OpVal.neq z z z) (TL.w z (pickTB z z z) (TL.j z z (TL.en (TC.ofSub (Sub.pre 0 z) (TC.back (TC.ret (S.r ?_)))))))
         obtain rfl := so hh
         exact rq [6] ⟨z, z, z⟩
        ·replace hh := iteO_f h120 hh
         refine TL.f z (TL.f z (TL.f z (TL.w z (pickFB z z z) (TL.j z z (TL.en (TC.ofSub (Sub.pre 0 z) (TC.back (TC.ret (S.r ?_)))))))))
         obtain rfl := so hh
         exact rq [6] ⟨z, z, z⟩
       ·replace hh := iteO_f h119 hh
        refine TL.f z (TL.f z (TL.w z (pickFB z z z) (TL.j z z (TL.f z (TL.f z (TL.f z (TL.w z (pickFB z z z) (TL.j z z (TL.en (TC.ofSub (Sub.pre 0 z) (TC.back (TC.ret (S.r ?_)))))))))))))
        obtain rfl := so hh
        exact rq [6] ⟨z, z, z⟩
      ·refine TC.skip (S.n (TC.a (TL.w z (loadAll z ag31 sz31 z (i := 1) z z) (TL.w z (moveStr (.inl z) z) ?_))))
       obtain ⟨v65, u65, hh⟩ := bnd_e hh
       refine TL.op z (OpOk.call (fst_Outs_con (x0 := v18.1) hr106_0 hr106_1 hr106_2 u65) z z pf10 z z z z ?_)
       rintro _ τ121 _ hle121 ⟨a121_1, c121_1, rfl, hr121_0, rfl⟩
       replace hgl := hgl.mono hle121
       replace hr109_0 := hr109_0.mono hle121
       replace hr109_1 := hr109_1.mono hle121
       replace hr109_2 := hr109_2.mono hle121
       have hr121_0b := hr121_0.rv.big
       refine TL.w z (moveT (.inl z) z) (TL.w z (OpVal.extract z z z) (TL.w z (OpVal.extract z z z) (TL.s z z (TL.i z z (TL.en (TC.a (TL.w z (loadAll z ag31 sz31 z (i := 0) z z) (TL.w z (moveStr (.inl z) z) ?_))))))))
       obtain ⟨v73, u73, hh⟩ := bnd_e hh
       refine TL.op z (OpOk.call (fst_Outs_con (x0 := v27.1) hr109_0 hr109_1 hr109_2 u73) z z pf10 z z z z ?_)
       rintro _ τ122 _ hle122 ⟨a122_1, c122_1, rfl, hr122_0, rfl⟩
       replace hgl := hgl.mono hle122
       replace hr121_0 := hr121_0.mono hle122
       have hr122_0b := hr122_0.rv.big
       refine TL.w z (moveT (.inl z) z) (TL.w z (OpVal.extract z z z) (TL.w z (OpVal.extract z z z) (TL.s z z (TL.i z z (TL.en (TC.seq (TC.a (TL.j z z (TL.w z (OpVal.not z z) (TL.en (TC.cB z hh (fun h123 hh => ?_) (fun h123 hh => ?_))))))))))))
       ·refine TC.a ?_
        obtain ⟨v81, u81, hh⟩ := bnd_e hh
        refine TL.op z (callP (whittlelaw16_awake_con hgl u81) z z pf8 z z z ?_)
        refine TL.j z z (TL.split 82 z (fun h124 => ?_) (fun h124 => ?_))
        ·replace hh := iteO_t h124 hh
         refine TL.g z (moveSl (.inl z) z) (TL.g z (lenC z underlying40 z) (TL.g z (moveSl (.inl z) z) (TL.g z (lenC z underlying40 z) (TL.g z (addW z z z) (TL.g z (OpVal.eql z z z) (TL.w z (pickTB z z z) (TL.j z z (TL.split 90 z (fun h125 => ?_) (fun h125 => ?_)))))))))
         ·replace hh := iteO_t h125 hh
          replace h125 := of_decide_eq_true h125
          refine TL.g z (moveI (.inl z) z) (TL.g z (OpVal.eql z z z) (TL.w z (pickTB z z z) (TL.j z z (TL.split 94 z (fun h126 => ?_) (fun h126 => ?_)))))
          ·replace hh := iteO_t h126 hh
           replace h126 := of_decide_eq_true h126
           refine TL.g z (moveI (.inl z) z) (TL.g z (moveI (.inl z) z) (TL.g z (OpVal.eql z z z) (TL.w z (pickTB z z z) (TL.j z z (TL.en (TC.ofSub (Sub.pre 0 z) (TC.back (TC.ret (S.r ?_)))))))))
           obtain rfl := so hh
           exact rq [6] ⟨z, z, z⟩
          ·replace hh := iteO_f h126 hh
           replace h126 := of_decide_eq_false h126
           refine TL.f z (TL.f z (TL.f z (TL.w z (pickFB z z z) (TL.j z z (TL.en (TC.ofSub (Sub.pre 0 z) (TC.back (TC.ret (S.r ?_)))))))))
           obtain rfl := so hh
           exact rq [6] ⟨z, z, z⟩
         ·replace hh := iteO_f h125 hh
          replace h125 := of_decide_eq_false h125
          refine TL.f z (TL.f z (TL.w z (pickFB z z z) (TL.j z z (TL.f z (TL.f z (TL.f z (TL.w z (pickFB z z z) (TL.j z z (TL.en (TC.ofSub (Sub.pre 0 z) (TC.back (TC.ret (S.r ?_)))))))))))))
          obtain rfl := so hh
          exact rq [6] ⟨z, z, z⟩
        ·replace hh := iteO_f h124 hh
         refine TL.f z (TL.f z (TL.f z (TL.f z (TL.f z (TL.f z (TL.w z (pickFB z z z) (TL.j z z (TL.f z (TL.f z (TL.w z (pickFB z z z) (TL.j z z (TL.f z (TL.f z (TL.f z (TL.w z (pickFB z z z) ?_)))))))))))))))
         refine TL.j z z (TL.en (TC.ofSub (Sub.pre 0 z) (TC.back (TC.ret (S.r ?_)))))
         obtain rfl := so hh
         exact rq [6] ⟨z, z, z⟩
       ·refine TC.skip (S.n (TC.a ?_))
        obtain ⟨v100, u100, hh⟩ := bnd_e hh
        refine TL.op z (callP (whittlelaw16_awake_con hgl u100) z z pf8 z z z ?_)
        refine TL.j z z (TL.split 100 z (fun h127 => ?_) (fun h127 => ?_))
        ·replace hh := iteO_t h127 hh
         refine TL.g z (moveSl (.inl z) z) (TL.g z (moveStr (.inl z) z) (TL.gon z z z z z (OpOk.lit (enc := Go.E.encS) [x2] z underlying40 sz9 ze9 z z z Go.E.encS_len (by decide) (by decide) ([] : List UInt8) z (by decide) z (by decide) Go.E.encS_one (fun a128 c129 => ?_))))
         obtain ⟨v105, u105, hh⟩ := bnd_e hh
         refine TL.gon z z z z z (callK (Con.lend Go.E.encS_len (fun _ hle132 hr131 => whittleref03_Texts_con (hr121_0.mono hle132) hr131 u105)) z z pf11 z z z z ?_)
         refine TL.w z (pickTB z z z) (TL.j z z (TL.split 106 z (fun h133 => ?_) (fun h133 => ?_)))
         ·replace hh := iteO_t h133 hh
          refine TL.g z (moveSl (.inl z) z) (TL.g z (moveStr (.inl z) z) (TL.gon z z z z z (OpOk.lit (enc := Go.E.encS) [x1] z underlying40 sz9 ze9 z z z Go.E.encS_len (by decide) (by decide) ([] : List UInt8) z (by decide) z (by decide) Go.E.encS_one (fun a134 c135 => ?_))))
          obtain ⟨v111, u111, hh⟩ := bnd_e hh
          refine TL.gon z z z z z (callK (Con.lend Go.E.encS_len (fun _ hle138 hr137 => whittleref03_Texts_con (hr122_0.mono hle138) hr137 u111)) z z pf11 z z z z ?_)
          refine TL.w z (pickTB z z z) (TL.j z z (TL.split 112 z (fun h139 => ?_) (fun h139 => ?_)))
          ·replace hh := iteO_t h139 hh
           refine TL.g z (moveI (.inl z) z) (TL.g z (OpVal.eql z z z) (TL.w z (pickTB z z z) (TL.j z z (TL.split 116 z (fun h140 => ?_) (fun h140 => ?_)))))
           ·replace hh := iteO_t h140 hh
            replace h140 := of_decide_eq_true h140
            refine TL.g z (moveI (.inl z) z) (TL.g z (moveI (.inl z) z) (TL.g z (OpVal.eql z z z) (TL.w z (pickTB z z z) (TL.j z z (TL.en (TC.ofSub (Sub.pre 0 z) (TC.back (TC.ret ?_))))))))
            obtain rfl := so hh
            exact rq [6] ⟨z, z, z⟩
           ·replace hh := iteO_f h140 hh
            replace h140 := of_decide_eq_false h140
            refine TL.f z (TL.f z (TL.f z (TL.w z (pickFB z z z) (TL.j z z (TL.en (TC.ofSub (Sub.pre 0 z) (TC.back (TC.ret ?_))))))))
            obtain rfl := so hh
            exact rq [6] ⟨z, z, z⟩
          ·replace hh := iteO_f h139 hh
           refine TL.f z (TL.f z (TL.w z (pickFB z z z) (TL.j z z (TL.f z (TL.f z (TL.f z (TL.w z (pickFB z z z) (TL.j z z (TL.en (TC.ofSub (Sub.pre 0 z) (TC.back (TC.ret ?_))))))))))))
           obtain rfl := so hh
           exact rq [6] ⟨z, z, z⟩
         ·replace hh := iteO_f h133 hh
          refine TL.f z (TL.f z (TL.f z (TL.f z (TL.w z (pickFB z z z) (TL.j z z (TL.f z (TL.f z (TL.w z (pickFB z z z) (TL.j z z (TL.f z (TL.f z (TL.f z (TL.w z (pickFB z z z) (TL.j z z (TL.en ?_)))))))))))))))
          refine TC.ofSub (Sub.pre 0 z) (TC.back (TC.ret ?_))
          obtain rfl := so hh
          exact rq [6] ⟨z, z, z⟩
        ·replace hh := iteO_f h127 hh
         refine TL.f z (TL.f z (TL.f z (TL.f z (TL.w z (pickFB z z z) (TL.j z z (TL.f z (TL.f z (TL.f z (TL.f z (TL.w z (pickFB z z z) (TL.j z z (TL.f z (TL.f z (TL.w z (pickFB z z z) (TL.j z z ?_)))))))))))))))
         refine TL.f z (TL.f z (TL.f z (TL.w z (pickFB z z z) (TL.j z z (TL.en (TC.ofSub (Sub.pre 0 z) (TC.back (TC.ret ?_))))))))
         obtain rfl := so hh
         exact rq [6] ⟨z, z, z⟩

end Go.Proofs.YtcfjjckencjjeaaDoor
end
