/- Parts of a proof, one behind the other: what a machine reaches, functions decompiled, plain lemmas. Conditions stand with each lemma. -/
import Derived.Test.YtcfjjckencjjeaaGreatBfe2174d4b5
import Derived.Test.YtcfjjckencjjeaaGreatBb8b5bcad2e
import Derived.Test.YtcfjjckencjjeaaGreatB85b8c4d583
import Derived.Test.YtcfjjckencjjeaaGreatBe55b80e5a0

/- TrT -/
section
/- The reference's trimmed transducer is the program's. Plain lemmas, no condition. -/
set_option linter.unusedVariables false
set_option linter.unusedSimpArgs false
namespace Go.Proofs.YtcfjjckencjjeaaGreat
open Go Go.E
set_option maxRecDepth 100000

/-! ### What grows -/
def aFrm (back : Bool) (x : Arc) : Int := if back = true then x.to else x.frm
def aTo (back : Bool) (x : Arc) : Int := if back = true then x.frm else x.to
def aE (t : Fst) (back : Bool) (a b : Int) : Prop := ∃ x ∈ t.arcs, aFrm back x = a ∧ aTo back x = b
structure GI (t : Fst) (tips : List Tip) (back : Bool) (l : List Bool) : Prop where
  len : l.length = t.states.toNat
  sound : ∀ v : Nat, nth l v false = true → Rch (fun c => ∃ x ∈ tips, x.state = c) (aE t back) v
  tip : ∀ x ∈ tips, nth l x.state.toNat false = true
def cntF (l : List Bool) : Nat := l.count false
theorem cntF_set {l : List Bool} {i : Nat} (hi : i < l.length) (h : nth l i false = false) : cntF (l.set i true) < cntF l := by
  have h2 : l[i] = false := by have := getD_some l hi false; rw [List.getElem?_eq_getElem hi, h] at this; exact Option.some.inj this
  have h3 : 0 < l.count false := List.count_pos_iff.2 (h2 ▸ List.getElem_mem hi)
  unfold cntF
  rw [List.count_set hi, h2]
  simp only [beq_self_eq_true, if_true, show (true == false) = false from rfl, Bool.false_eq_true, if_false, Nat.add_zero]
  omega
theorem grown_pass {t : Fst} (ht : FstOk t) {tips : List Tip} {back : Bool} {l0 : List Bool} (h0 : GI t tips back l0) :
    ∃ r, iter (fun q : (List Bool) × Bool × Nat => whittleref18_grown_b3 t back q.1 q.2.1 q.2.2) (l0, false, 0) = some r ∧ ∃ l b, r = .inl (l, b) ∧ GI t tips back l ∧ (b = true → cntF l < cntF l0) ∧ (b = false → l = l0 ∧ ∀ x ∈ t.arcs, nth l (aFrm back x).toNat false = true → nth l (aTo back x).toNat false = true) := by
  refine iter_for (step := fun q : (List Bool) × Bool × Nat => whittleref18_grown_b3 t back q.1 q.2.1 q.2.2) (fun (s : List Bool × Bool) k => (s.1, s.2, k)) t.arcs Arc.zero
    (fun pre s => GI t tips back s.1 ∧ (s.2 = true → cntF s.1 < cntF l0) ∧ (s.2 = false → s.1 = l0 ∧ ∀ x ∈ pre, nth s.1 (aFrm back x).toNat false = true → nth s.1 (aTo back x).toNat false = true)) _
    (fun k s hk hI => ?_) (fun s hI => ?_) (s0 := (l0, false)) ⟨h0, fun h => (by cases h), fun _ => ⟨rfl, fun x hx => (by cases hx)⟩⟩
  · obtain ⟨l, b⟩ := s
    obtain ⟨g, hb, hc⟩ := hI
    dsimp only at g hb hc
    obtain ⟨b1, b2, b3⟩ := ht.arcs _ (mem_at Arc.zero hk)
    have hlen := g.len
    generalize hx : nth t.arcs k Arc.zero = x at b1 b2 b3
    have hxm : x ∈ t.arcs := hx ▸ mem_at Arc.zero hk
    have rf : 0 ≤ aFrm back x ∧ aFrm back x < t.states := by unfold aFrm; split <;> assumption
    have rt : 0 ≤ aTo back x ∧ aTo back x < t.states := by unfold aTo; split <;> assumption
    left
    have e : whittleref18_grown_b3 t back l b k = whittleref18_grown_j2 l k b (aFrm back x) (aTo back x) := by
      unfold whittleref18_grown_b3
      rw [iteO_dt (by omega), hx]
      cases back <;> rfl
    show ∃ s', whittleref18_grown_b3 t back l b k = _ ∧ _
    rw [e]
    unfold whittleref18_grown_j2 whittleref18_grown_j1
    rw [grd_mk ⟨rf.1, by omega⟩]
    cases h1 : nth l (aFrm back x).toNat false with
    | false =>
      refine ⟨(l, b), rfl, g, hb, fun hbf => ⟨(hc hbf).1, fun y hy hy1 => ?_⟩⟩
      rcases List.mem_append.1 hy with hy | hy
      · exact (hc hbf).2 y hy hy1
      · obtain rfl := List.mem_singleton.1 hy
        dsimp only at hy1; rw [h1] at hy1; cases hy1
    | true =>
      rw [iteO_true, grd_mk ⟨rt.1, by omega⟩]
      cases h2 : nth l (aTo back x).toNat false with
      | true =>
        refine ⟨(l, b), rfl, g, hb, fun hbf => ⟨(hc hbf).1, fun y hy hy1 => ?_⟩⟩
        rcases List.mem_append.1 hy with hy | hy
        · exact (hc hbf).2 y hy hy1
        · obtain rfl := List.mem_singleton.1 hy; exact h2
      | false =>
        rw [Bool.not_false, iteO_true, grd_mk ⟨rt.1, by omega⟩]
        have hlt : cntF (l.set (aTo back x).toNat true) < cntF l := cntF_set (by omega) h2
        have hle : cntF l ≤ cntF l0 := by
          cases b with
          | true => exact Nat.le_of_lt (hb rfl)
          | false => rw [(hc rfl).1]; exact Nat.le_refl _
        refine ⟨(l.set (aTo back x).toNat true, true), rfl, ⟨by rw [List.length_set]; exact hlen, fun v hv => ?_, fun y hy => ?_⟩, fun _ => (by dsimp only; omega), fun h => (by cases h)⟩
        · rw [nth_set] at hv
          by_cases c : (aTo back x).toNat = v
          · have hr := g.sound _ h1
            have : ((v : Nat) : Int) = aTo back x := by omega
            rw [this]
            refine Rch.step hr ⟨x, hxm, by omega, rfl⟩
          · rw [if_neg (fun h => c h.1)] at hv; exact g.sound v hv
        · rw [nth_set]
          split
          · rfl
          · exact g.tip y hy
  · obtain ⟨l, b⟩ := s
    obtain ⟨g, hb, hc⟩ := hI
    refine ⟨_, ?_, l, b, rfl, g, hb, hc⟩
    show whittleref18_grown_b3 t back l b t.arcs.length = _
    unfold whittleref18_grown_b3
    rw [iteO_df (by omega)]; rfl
theorem rgrown_ok {t : Fst} (ht : FstOk t) (tips : List Tip) (back : Bool) (htip : ∀ x ∈ tips, 0 ≤ x.state ∧ x.state < t.states) :
    ∃ r, whittleref18_grown t tips back = some r ∧ r.length = t.states.toNat ∧ ∀ v : Nat, nth r v false = true ↔ Rch (fun c => ∃ x ∈ tips, x.state = c) (aE t back) v := by
  have h0 := ht.st0
  have h1 := ht.st1
  unfold whittleref18_grown
  rw [grd_mk ⟨h0, by omega⟩]
  refine iter_for (step := fun q : (List Bool) × Nat => whittleref18_grown_b1 tips t back q.1 q.2) (fun (s : List Bool) k => (s, k)) tips Tip.zero
    (fun pre l => l.length = t.states.toNat ∧ (∀ v : Nat, nth l v false = true → ∃ x ∈ tips, x.state = (v : Int)) ∧ ∀ x ∈ pre, nth l x.state.toNat false = true) _
    (fun k l hk hI => ?_) (fun l hI => ?_) (s0 := List.replicate t.states.toNat false) ⟨List.length_replicate .., fun v hv => ?_, fun x hx => by cases hx⟩
  · obtain ⟨a1, a2, a3⟩ := hI
    have hm := mem_at Tip.zero hk
    have hr := htip _ hm
    refine .inl ⟨l.set (nth tips k Tip.zero).state.toNat true, ?_, by rw [List.length_set]; exact a1, fun v hv => ?_, fun x hx => ?_⟩
    · show whittleref18_grown_b1 tips t back l k = _
      unfold whittleref18_grown_b1
      rw [iteO_dt (by omega), grd_mk ⟨hr.1, by omega⟩]; rfl
    · rw [nth_set] at hv
      by_cases c : (nth tips k Tip.zero).state.toNat = v
      · exact ⟨_, hm, by omega⟩
      · rw [if_neg (fun h => c h.1)] at hv; exact a2 v hv
    · rw [nth_set]
      split
      · rfl
      · rename_i hn
        rcases List.mem_append.1 hx with hx | hx
        · exact a3 x hx
        · rw [List.mem_singleton.1 hx] at hn; exact absurd ⟨rfl, by omega⟩ hn
  · obtain ⟨a1, a2, a3⟩ := hI
    have key := iter_run (step := fun q : (List Bool) × Bool => whittleref18_grown_b2 t back q.1 q.2)
      (fun q => GI t tips back q.1 ∧ (q.2 = false → ∀ x ∈ t.arcs, nth q.1 (aFrm back x).toNat false = true → nth q.1 (aTo back x).toNat false = true))
      (fun r => r.length = t.states.toNat ∧ ∀ v : Nat, nth r v false = true ↔ Rch (fun c => ∃ x ∈ tips, x.state = c) (aE t back) v)
      (fun q => 2 * cntF q.1 + if q.2 = true then 1 else 0) (fun q hq => ?_) (l, true) ⟨⟨a1, fun v hv => Rch.base (a2 v hv), a3⟩, fun h => by cases h⟩
    · obtain ⟨r, hr, hp⟩ := key
      refine ⟨r, ?_, hp⟩
      show whittleref18_grown_b1 tips t back l tips.length = _
      unfold whittleref18_grown_b1
      rw [iteO_df (by omega), hr]; rfl
    · obtain ⟨l, b⟩ := q
      obtain ⟨g, hc⟩ := hq
      dsimp only at g hc ⊢
      cases b with
      | true =>
        obtain ⟨r, hr, l', b', rfl, g', hb', hc'⟩ := grown_pass ht g
        left
        refine ⟨(l', b'), ?_, ⟨g', fun h => (hc' h).2⟩, ?_⟩
        · show whittleref18_grown_b2 t back l true = _
          unfold whittleref18_grown_b2
          rw [iteO_true]; exact hr
        · dsimp only
          cases b' with
          | true => have := hb' rfl; simp only [if_true]; omega
          | false => rw [(hc' rfl).1]; simp only [if_true, Bool.false_eq_true, if_false]; omega
      | false =>
        right
        refine ⟨l, ?_, g.len, fun v => ⟨g.sound v, fun hv => ?_⟩⟩
        · show whittleref18_grown_b2 t back l false = _
          unfold whittleref18_grown_b2; rfl
        · have key : ∀ c : Int, Rch (fun c => ∃ x ∈ tips, x.state = c) (aE t back) c → nth l c.toNat false = true := fun c h => by
            induction h with
            | base h => obtain ⟨x, hx, rfl⟩ := h; exact g.tip x hx
            | step h he ih => obtain ⟨x, hx, rfl, rfl⟩ := he; exact hc rfl x hx ih
          have := key _ hv
          rwa [Int.toNat_natCast] at this
  · unfold nth at hv
    rw [List.getD_eq_getElem?_getD, List.getElem?_replicate] at hv
    split at hv <;> cases hv
theorem rtrim_arcs {t : Fst} (ht : FstOk t) {p : Nat → Bool} {num : List Int} (hn : NumOk p t.states.toNat num) (c : Nat) (S E : List Tip) :
    iter (fun q : List Arc × Nat => whittleref18_Trim_b4 t num c S E q.1 q.2) (([] : List Arc), 0) = bnd (whittleref15_Sort ⟨(c : Int), S, E, keepA p t.arcs⟩) (fun v => some (v.1, v.2)) := by
  have hN := ht.arcsN
  obtain ⟨r, hr⟩ : ∃ r, bnd (whittleref15_Sort ⟨(c : Int), S, E, keepA p t.arcs⟩) (fun v => some (v.1, v.2)) = some r := by rw [rsort_eq]; exact ⟨_, rfl⟩
  rw [hr]
  refine iter_fold t.arcs Arc.zero (fun k => keepA p (t.arcs.take k)) (fun k hk => ?_) ?_
  · obtain ⟨b1, b2, b3, b4⟩ := ht.arcs _ (mem_at Arc.zero hk)
    have hl := keepA_len p (t.arcs.take k)
    have r3 := take_len_le t.arcs k
    have e1 := hn.2 _ b1.1 (by omega)
    have e2 := hn.2 _ b2.1 (by omega)
    have l1 := hn.1
    show whittleref18_Trim_b4 t num c S E _ k = _
    unfold whittleref18_Trim_b4 whittleref18_Trim_j4
    rw [iteO_dt (by omega), grd_mk ⟨b1.1, by omega⟩, e1, e2, keepA_snoc p _ k hk]
    by_cases c1 : 0 ≤ numB p (nth t.arcs k Arc.zero).frm
    · rw [iteO_dt c1, grd_mk ⟨b2.1, by omega⟩]
      by_cases c2 : 0 ≤ numB p (nth t.arcs k Arc.zero).to
      · rw [iteO_dt c2, if_pos ⟨c1, c2⟩, grd_mk ⟨b1.1, by omega⟩, grd_mk ⟨b2.1, by omega⟩, grd_mk (by simp only [List.length_singleton]; omega)]; rfl
      · rw [iteO_df c2, if_neg (fun h => c2 h.2), List.append_nil]; rfl
    · rw [iteO_df c1, if_neg (fun h => c1 h.1), List.append_nil]; rfl
  · show whittleref18_Trim_b4 t num c S E _ _ = _
    unfold whittleref18_Trim_b4
    rw [iteO_df (by omega), List.take_length, hr]; rfl
theorem rtrim_ends {t : Fst} (ht : FstOk t) {p : Nat → Bool} {num : List Int} (hn : NumOk p t.states.toNat num) (c : Nat) (S : List Tip) :
    iter (fun q : List Tip × Nat => whittleref18_Trim_b3 t num c S q.1 q.2) (([] : List Tip), 0) = bnd (whittleref15_Sort ⟨(c : Int), S, keepT p t.ends, keepA p t.arcs⟩) (fun v => some (v.1, v.2)) := by
  have hN := ht.endsN
  obtain ⟨r, hr⟩ : ∃ r, bnd (whittleref15_Sort ⟨(c : Int), S, keepT p t.ends, keepA p t.arcs⟩) (fun v => some (v.1, v.2)) = some r := by rw [rsort_eq]; exact ⟨_, rfl⟩
  rw [hr]
  refine iter_fold t.ends Tip.zero (fun k => keepT p (t.ends.take k)) (fun k hk => ?_) ?_
  · obtain ⟨b1, b2⟩ := ht.ends _ (mem_at Tip.zero hk)
    have hl := keepT_len p (t.ends.take k)
    have r3 := take_len_le t.ends k
    have e1 := hn.2 _ b1.1 (by omega)
    have l1 := hn.1
    show whittleref18_Trim_b3 t num c S _ k = _
    unfold whittleref18_Trim_b3 whittleref18_Trim_j3
    rw [iteO_dt (by omega), grd_mk ⟨b1.1, by omega⟩, e1, keepT_snoc p _ k hk]
    by_cases c1 : 0 ≤ numB p (nth t.ends k Tip.zero).state
    · rw [iteO_dt c1, if_pos c1, grd_mk ⟨b1.1, by omega⟩, grd_mk (by simp only [List.length_singleton]; omega)]; rfl
    · rw [iteO_df c1, if_neg c1, List.append_nil]; rfl
  · show whittleref18_Trim_b3 t num c S _ _ = _
    unfold whittleref18_Trim_b3
    rw [iteO_df (by omega), List.take_length, rtrim_arcs ht hn, hr]; rfl
theorem rtrim_starts {t : Fst} (ht : FstOk t) {p : Nat → Bool} {num : List Int} (hn : NumOk p t.states.toNat num) (c : Nat) :
    iter (fun q : List Tip × Nat => whittleref18_Trim_b2 t num c q.1 q.2) (([] : List Tip), 0) = bnd (whittleref15_Sort ⟨(c : Int), keepT p t.starts, keepT p t.ends, keepA p t.arcs⟩) (fun v => some (v.1, v.2)) := by
  have hN := ht.startsN
  obtain ⟨r, hr⟩ : ∃ r, bnd (whittleref15_Sort ⟨(c : Int), keepT p t.starts, keepT p t.ends, keepA p t.arcs⟩) (fun v => some (v.1, v.2)) = some r := by rw [rsort_eq]; exact ⟨_, rfl⟩
  rw [hr]
  refine iter_fold t.starts Tip.zero (fun k => keepT p (t.starts.take k)) (fun k hk => ?_) ?_
  · obtain ⟨b1, b2⟩ := ht.starts _ (mem_at Tip.zero hk)
    have hl := keepT_len p (t.starts.take k)
    have r3 := take_len_le t.starts k
    have e1 := hn.2 _ b1.1 (by omega)
    have l1 := hn.1
    show whittleref18_Trim_b2 t num c _ k = _
    unfold whittleref18_Trim_b2 whittleref18_Trim_j2
    rw [iteO_dt (by omega), grd_mk ⟨b1.1, by omega⟩, e1, keepT_snoc p _ k hk]
    by_cases c1 : 0 ≤ numB p (nth t.starts k Tip.zero).state
    · rw [iteO_dt c1, if_pos c1, grd_mk ⟨b1.1, by omega⟩, grd_mk (by simp only [List.length_singleton]; omega)]; rfl
    · rw [iteO_df c1, if_neg c1, List.append_nil]; rfl
  · show whittleref18_Trim_b2 t num c _ _ = _
    unfold whittleref18_Trim_b2
    rw [iteO_df (by omega), List.take_length, rtrim_ends ht hn, hr]; rfl
theorem rnumber_eq {t : Fst} (ht : FstOk t) {u v : List Bool} (hu : u.length = t.states.toNat) (hv : v.length = t.states.toNat) (h1 : ∀ s : Nat, nth u s false = true ↔ Rch (onS t) (arE t) s) (h2 : ∀ s : Nat, nth v s false = true ↔ Rch (enS t) (arB t) s) {R : Fst × Int}
    (hR : ∀ num, NumOk (useB t) t.states.toNat num → iter (fun q : (List Tip) × Nat => whittleref18_Trim_b2 t num (cntB (useB t) t.states.toNat) q.1 q.2) (([] : List Tip), 0) = some R) :
    iter (fun q : (List Int) × Nat × Nat => whittleref18_Trim_b1 t u v q.1 q.2.1 q.2.2) ((List.replicate t.states.toNat (0 : Int)), 0, 0) = some R := by
  have h0 := ht.st0
  have hs := ht.st1
  obtain ⟨r, e, rfl⟩ := iter_up (step := fun q : (List Int) × Nat × Nat => whittleref18_Trim_b1 t u v q.1 q.2.1 q.2.2) (fun (l : List Int) k => (l, cntB (useB t) k, k)) t.states.toNat
    (fun k l => l.length = t.states.toNat ∧ ∀ s, s < k → nth l s 0 = numB (useB t) s) (fun r => r = R)
    (fun k l hk ⟨c1, c2⟩ => .inl (by
      have hc := cntB_self (useB t) k
      have hother : ∀ (x : Int) s, s < k → nth (l.set k x) s 0 = numB (useB t) s := fun x s hsk => by
        rw [nth_set, if_neg (fun h => by omega)]; exact c2 s hsk
      by_cases hb : useB t k = true
      · have hUse : Use t k := by simpa [useB] using hb
        refine ⟨(l.set k (-1)).set k ((cntB (useB t) k : Nat) : Int), ?_, by rw [List.length_set, List.length_set]; exact c1, fun s hsk => ?_⟩
        · show whittleref18_Trim_b1 t u v l _ k = _
          unfold whittleref18_Trim_b1 whittleref18_Trim_j1
          rw [iteO_dt (by omega), grd_mk (by omega), grd_mk (by omega), (h1 k).2 hUse.1, iteO_true, grd_mk (by omega), (h2 k).2 hUse.2, iteO_true, grd_mk (by rw [List.length_set]; omega), grd_mk (show cntB (useB t) k + 1 ≤ 9223372036854775807 by omega)]
          rw [cntB, if_pos hb]; rfl
        · rw [nth_set]
          by_cases c : k = s
          · subst c; rw [if_pos ⟨rfl, by rw [List.length_set]; omega⟩]; exact (numB_pos (s := ((k : Nat) : Int)) hb).symm
          · rw [if_neg (fun h => c h.1)]; exact hother _ s (by omega)
      · have hno : ¬ Use t k := fun h => hb (by simpa [useB] using h)
        refine ⟨l.set k (-1), ?_, by rw [List.length_set]; exact c1, fun s hsk => ?_⟩
        · show whittleref18_Trim_b1 t u v l _ k = _
          unfold whittleref18_Trim_b1 whittleref18_Trim_j1
          rw [iteO_dt (by omega), grd_mk (by omega), grd_mk (by omega), cntB, if_neg hb]
          cases e1 : nth u k false with
          | false => rfl
          | true =>
            rw [iteO_true, grd_mk (by omega)]
            cases e2 : nth v k false with
            | false => rfl
            | true => exact absurd ⟨(h1 k).1 e1, (h2 k).1 e2⟩ hno
        · by_cases c : k = s
          · subst c
            rw [nth_set, if_pos ⟨rfl, by omega⟩]
            unfold numB; rw [if_neg (by simpa using hb)]
          · exact hother _ s (by omega)))
    (fun l ⟨c1, c2⟩ => ⟨R, by
      show whittleref18_Trim_b1 t u v l _ t.states.toNat = _
      unfold whittleref18_Trim_b1
      rw [iteO_df (by omega), hR l ⟨c1, fun s s0 s1 => by
        have := c2 s.toNat (by omega)
        rw [this]; congr 1; omega⟩]; rfl, rfl⟩)
    (s0 := List.replicate t.states.toNat 0) ⟨List.length_replicate .., fun s hs => by omega⟩
  exact e
/-- The reference's Trim is the program's. -/
theorem rtrim_eq (t : Fst) : whittleref18_Trim t = some (if fstB t = true then (trimD t, 0) else (⟨0, [], [], []⟩, 1)) := by
  unfold whittleref18_Trim
  rw [right_eq, bnd_mk]
  by_cases h : fstB t = true
  · have ht := (fstB_iff t).1 h
    have h0 := ht.st0
    have h1 := ht.st1
    obtain ⟨u, a1, a2, a3⟩ := rgrown_ok ht t.starts false fun x hx => (ht.starts x hx).1
    obtain ⟨v, b1, b2, b3⟩ := rgrown_ok ht t.ends true fun x hx => (ht.ends x hx).1
    rw [h, Bool.not_true, iteO_false, a1, bnd_mk, b1, bnd_mk, grd_mk ⟨h0, by omega⟩, if_pos rfl]
    refine rnumber_eq ht a2 b2 a3 b3 fun num hn => ?_
    rw [rtrim_starts ht hn, rsort_eq]
    show bnd (some (if fstB (keepF (useB t) t) = true then (srt (keepF (useB t) t), 0) else _)) _ = _
    rw [if_pos ((fstB_iff _).2 (keep_ok ht))]; rfl
  · simp only [Bool.not_eq_true] at h
    rw [h]; rfl
end Go.Proofs.YtcfjjckencjjeaaGreat
end

/- TwF -/
section
/- Lags of two ways: what the program's iterators tell, as lists. Plain lemmas, no condition. -/
set_option linter.unusedVariables false
set_option linter.unusedSimpArgs false
namespace Go.Proofs.YtcfjjckencjjeaaGreat
open Go Go.E
set_option maxRecDepth 100000

theorem drop_nth {α : Type} (l : List α) {k : Nat} (h : k < l.length) (d : α) : l.drop k = nth l k d :: l.drop (k + 1) := by
  rw [List.drop_eq_getElem_cons h]
  have := getD_some l h d
  rw [List.getElem?_eq_getElem h, Option.some.injEq] at this
  rw [this]

/-! ### How two texts begin -/
def lcpN : List UInt8 → List UInt8 → Nat
  | a :: l, b :: m => if a = b then lcpN l m + 1 else 0
  | _, _ => 0
theorem lcpN_l : ∀ l m : List UInt8, lcpN l m ≤ l.length
  | [], _ => Nat.zero_le _
  | _ :: _, [] => Nat.zero_le _
  | a :: l, b :: m => by have := lcpN_l l m; simp only [lcpN, List.length_cons]; split <;> omega
theorem lcpN_r : ∀ l m : List UInt8, lcpN l m ≤ m.length
  | [], _ => Nat.zero_le _
  | _ :: _, [] => Nat.zero_le _
  | a :: l, b :: m => by have := lcpN_r l m; simp only [lcpN, List.length_cons]; split <;> omega
theorem lcpN_eq : ∀ (l m : List UInt8) (k : Nat), k ≤ l.length → k ≤ m.length → (∀ i, i < k → nth l i 0 = nth m i 0) → (k < l.length → k < m.length → nth l k 0 ≠ nth m k 0) → lcpN l m = k
  | [], _, k, h, _, _, _ => by simp at h; simp [lcpN, h]
  | _ :: _, [], k, _, h, _, _ => by simp at h; simp [lcpN, h]
  | a :: l, b :: m, 0, _, _, _, h => by
    have : a ≠ b := h (by simp) (by simp)
    simp [lcpN, this]
  | a :: l, b :: m, k + 1, h1, h2, h3, h4 => by
    have e : a = b := h3 0 (by omega)
    have := lcpN_eq l m k (by simpa using h1) (by simpa using h2) (fun i hi => h3 (i + 1) (by omega)) (fun i j => h4 (by simpa using i) (by simpa using j))
    simp [lcpN, e, this]
theorem front_eq (x y : List UInt8) (hx : x.length ≤ 281474976710656) (hy : y.length ≤ 281474976710656) : text_front x y = some ((lcpN x y : Nat) : Int) := by
  unfold text_front
  rw [grd_mk hx, grd_mk hy]
  have hm : min ((x.length : Nat) : Int) ((y.length : Nat) : Int) = ((min x.length y.length : Nat) : Int) := by omega
  obtain ⟨r, h, rfl⟩ := iter_up (step := fun q : Nat => text_front_b1 x y q) (fun (_ : Unit) k => k) (min x.length y.length) (fun k _ => ∀ i, i < k → nth x i 0 = nth y i 0) (fun r => r = ((lcpN x y : Nat) : Int))
    (fun k _ hk hI => by
      unfold text_front_b1
      rw [hm, iteO_dt (by omega), grd_mk (by omega), grd_mk (by omega)]
      by_cases e : nth x k 0 = nth y k 0
      · rw [iteO_df (by rw [e]; simp)]
        exact .inl ⟨(), rfl, fun i hi => by
          by_cases hik : i = k
          · subst hik; exact e
          · exact hI i (by omega)⟩
      · have hne : (((nth x k (0 : UInt8)).toNat : Nat) : Int) ≠ (((nth y k (0 : UInt8)).toNat : Nat) : Int) := fun h => e (UInt8.toNat_inj.1 (by omega))
        rw [iteO_dt hne]
        refine .inr ⟨_, rfl, ?_⟩
        rw [lcpN_eq x y k (by omega) (by omega) hI (fun _ _ => e)])
    (fun _ hI => ⟨_, by
      unfold text_front_b1
      rw [hm, iteO_df (by omega)]; rfl, by
      rw [lcpN_eq x y (min x.length y.length) (by omega) (by omega) hI (fun h1 h2 => by omega)]⟩)
    (s0 := ()) (fun i hi => by omega)
  exact h
/-- What is left of two texts without how both begin. -/
def lagS (a b : List UInt8) : List UInt8 × List UInt8 := (a.drop (lcpN a b), b.drop (lcpN a b))
theorem lag_eq (x y : List UInt8) (hx : x.length ≤ 281474976710656) (hy : y.length ≤ 281474976710656) : text_Lag x y = some (lagS x y) := by
  have h1 := lcpN_l x y
  have h2 := lcpN_r x y
  unfold text_Lag
  rw [grd_mk hx, grd_mk hy, bnd_some (front_eq x y hx hy), grd_mk ⟨by omega, by omega, by omega⟩, grd_mk ⟨by omega, by omega, by omega⟩]
  rfl
def cm (x : Arc) (b : UInt8) : List UInt8 := if x.copy then x.out ++ [b] else x.out
theorem comes_eq (x : Arc) (b : UInt8) (h : x.out.length ≤ 1000000) : twin_comes x b = some (cm x b) := by
  unfold twin_comes cm
  cases x.copy with
  | true => rw [iteO_true, grd_mk (by simp only [List.length_singleton]; omega), if_pos rfl]
  | false => rfl
theorem cm_len (x : Arc) (b : UInt8) : (cm x b).length ≤ x.out.length + 1 := by unfold cm; split <;> simp
noncomputable def bothS (a b : BSet) : BSet := (set_Both a b).getD BSet.zero
theorem both_eq (a b : BSet) : set_Both a b = some (bothS a b) := by
  have h : ∃ r, set_Both a b = some r := by
    unfold set_Both
    obtain ⟨r, h, _⟩ := iter_up (step := fun q : BSet × Nat => set_Both_b1 b q.1 q.2) (fun (s : BSet) k => (s, k)) 4 (fun _ _ => True) (fun _ => True)
      (fun k s hk _ => .inl ⟨BSet.setWord s k (u64and (BSet.word s k) (BSet.word b k)), by
        show set_Both_b1 b s k = _
        unfold set_Both_b1
        rw [iteO_dt (by omega), grd_mk hk, grd_mk hk, grd_mk hk, grd_mk (by unfold u64and; exact BitVec.isLt _)]; rfl, trivial⟩)
      (fun s _ => ⟨s, by
        show set_Both_b1 b s 4 = _
        unfold set_Both_b1
        rw [iteO_df (by omega)]; rfl, trivial⟩) (s0 := a) trivial
    exact ⟨r, h⟩
  obtain ⟨r, h⟩ := h
  unfold bothS; rw [h]; rfl

/-! ### An iterator's list -/
section
variable {S α : Type}
/-- Calls of yield, one after the other, till one says no. -/
def foldY (Y : S → α → Option (S × Bool)) : List α → S → Option (S × Bool)
  | [], s => some (s, true)
  | x :: l, s => (Y s x).bind fun q => if q.2 then foldY Y l q.1 else some (q.1, false)
theorem foldY_app {Y : S → α → Option (S × Bool)} : ∀ {l m : List α} {s : S}, foldY Y (l ++ m) s = (foldY Y l s).bind fun q => if q.2 then foldY Y m q.1 else some (q.1, false)
  | [], m, s => rfl
  | x :: l, m, s => by
    simp only [List.cons_append, foldY]
    cases Y s x with
    | none => rfl
    | some q =>
      simp only [Option.bind_some]
      cases q.2 with
      | true => exact foldY_app
      | false => rfl
theorem foldY_step {Y : S → α → Option (S × Bool)} {x : α} {l : List α} {s : S} {r : S × Bool} (h : foldY Y (x :: l) s = some r) : ∃ q, Y s x = some q ∧ (if q.2 then foldY Y l q.1 else some (q.1, false)) = some r := by
  simp only [foldY] at h
  cases hy : Y s x with
  | none => rw [hy] at h; cases h
  | some q => rw [hy] at h; exact ⟨q, rfl, h⟩
theorem foldY_split {Y : S → α → Option (S × Bool)} {l m : List α} {s : S} {r : S × Bool} (h : foldY Y (l ++ m) s = some r) : ∃ q, foldY Y l s = some q ∧ (if q.2 then foldY Y m q.1 else some (q.1, false)) = some r := by
  rw [foldY_app] at h
  cases hy : foldY Y l s with
  | none => rw [hy] at h; cases h
  | some q => rw [hy] at h; exact ⟨q, rfl, h⟩
end

/-! ### The lags behind one, by two arcs -/
noncomputable def lagOf (l : TLag) (x y : Arc) (n : Nat) : TLag := ⟨x.to, y.to, (lagS (l.a ++ cm x (toU8 ((n : Nat) : Int))) (l.b ++ cm y (toU8 ((n : Nat) : Int)))).1, (lagS (l.a ++ cm x (toU8 ((n : Nat) : Int))) (l.b ++ cm y (toU8 ((n : Nat) : Int)))).2⟩
noncomputable def byFrom (l : TLag) (x y : Arc) (k m : Nat) : List TLag :=
  let L := ((List.range' k m).filter fun n => (bothS x.set y.set).has (toU8 ((n : Nat) : Int)).toNat).map (lagOf l x y)
  if x.copy || y.copy then L else L.take 1
noncomputable def byL (l : TLag) (x y : Arc) : List TLag := byFrom l x y 0 256
theorem byFrom_skip {l : TLag} {x y : Arc} {k m : Nat} (h : (bothS x.set y.set).has (toU8 ((k : Nat) : Int)).toNat = false) : byFrom l x y k (m + 1) = byFrom l x y (k + 1) m := by
  unfold byFrom
  rw [List.range'_succ, List.filter_cons, h]; rfl
theorem byFrom_take {l : TLag} {x y : Arc} {k m : Nat} (h : (bothS x.set y.set).has (toU8 ((k : Nat) : Int)).toNat = true) : byFrom l x y k (m + 1) = lagOf l x y k :: (if x.copy || y.copy then byFrom l x y (k + 1) m else []) := by
  unfold byFrom
  rw [List.range'_succ, List.filter_cons, h, if_pos rfl]
  dsimp only
  cases hc : (x.copy || y.copy) with
  | true => simp
  | false => simp
theorem by_run {Sy : Type} {Y : Sy → TLag → Option (Sy × Bool)} (l : TLag) (x y : Arc) (h1 : l.a.length ≤ 100000000) (h2 : l.b.length ≤ 100000000) (h3 : x.out.length ≤ 1000000) (h4 : y.out.length ≤ 1000000) :
    ∀ (m k : Nat) (s : Sy) (r : Sy × Bool), k + m = 256 → foldY Y (byFrom l x y k m) s = some r → iter (fun q : Nat × Sy => twin_by_1_b1 (bothS x.set y.set) x l y Y q.1 q.2) (k, s) = some r.1 := by
  intro m
  induction m with
  | zero =>
    intro k s r hk hf
    have : r = (s, true) := by
      unfold byFrom at hf
      simp [foldY] at hf
      exact hf.symm
    subst this
    refine iter_done ?_
    show twin_by_1_b1 _ _ _ _ _ k s = _
    unfold twin_by_1_b1
    rw [iteO_df (by omega)]; rfl
  | succ m ih =>
    intro k s r hk hf
    cases hh : (bothS x.set y.set).has (toU8 ((k : Nat) : Int)).toNat with
    | false =>
      rw [byFrom_skip hh] at hf
      refine iter_next (s' := (k + 1, s)) ?_ (ih (k + 1) s r (by omega) hf)
      show twin_by_1_b1 _ _ _ _ _ k s = _
      unfold twin_by_1_b1 twin_by_1_j1
      rw [iteO_dt (by omega), hh, iteO_nf]; rfl
    | true =>
      rw [byFrom_take hh] at hf
      obtain ⟨q, hy, hq⟩ := foldY_step hf
      have c1 := cm_len x (toU8 ((k : Nat) : Int))
      have c2 := cm_len y (toU8 ((k : Nat) : Int))
      have hs : twin_by_1_b1 (bothS x.set y.set) x l y Y k s = iteO (!q.2) (fin (some q.1)) (iteO (!x.copy) (iteO (!y.copy) (fin (some q.1)) (twin_by_1_j1 k q.1)) (twin_by_1_j1 k q.1)) := by
        unfold twin_by_1_b1
        rw [iteO_dt (by omega), hh, iteO_nt, bnd_some (comes_eq x _ h3), grd_mk (by omega), bnd_some (comes_eq y _ h4), grd_mk (by omega), bnd_some (lag_eq _ _ (by rw [List.length_append]; omega) (by rw [List.length_append]; omega))]
        exact bnd_some hy
      cases hb : q.2 with
      | false =>
        rw [hb] at hq hs
        have : r = (q.1, false) := by simpa using hq.symm
        subst this
        exact iter_done hs
      | true =>
        rw [hb] at hq hs
        rw [if_pos rfl] at hq
        cases hc : (x.copy || y.copy) with
        | true =>
          rw [hc, if_pos rfl] at hq
          refine iter_next (s' := (k + 1, q.1)) ?_ (ih (k + 1) q.1 r (by omega) hq)
          show twin_by_1_b1 _ _ _ _ _ k s = _
          rw [hs]
          unfold twin_by_1_j1
          cases hx : x.copy with
          | true => rfl
          | false =>
            rw [hx, Bool.false_or] at hc
            rw [hc]; rfl
        | false =>
          rw [hc] at hq
          have : r = (q.1, true) := by simpa [foldY] using hq.symm
          subst this
          refine iter_done ?_
          show twin_by_1_b1 _ _ _ _ _ k s = _
          rw [hs]
          have : x.copy = false ∧ y.copy = false := by simpa using hc
          rw [this.1, this.2]; rfl
theorem by_eq {Sy : Type} {Y : Sy → TLag → Option (Sy × Bool)} (l : TLag) (x y : Arc) (h1 : l.a.length ≤ 100000000) (h2 : l.b.length ≤ 100000000) (h3 : x.out.length ≤ 1000000) (h4 : y.out.length ≤ 1000000) {s : Sy} {r : Sy × Bool} (h : foldY Y (byL l x y) s = some r) :
    twin_by_1 Y s x y l = some r.1 := by
  unfold twin_by_1
  rw [bnd_some (both_eq _ _)]
  exact by_run l x y h1 h2 h3 h4 256 0 s r rfl h

/-! ### The first lags -/
def pairLag (x y : Tip) : TLag := ⟨x.state, y.state, (lagS x.out y.out).1, (lagS x.out y.out).2⟩
def firstL (t : Fst) : List TLag := t.starts.flatMap fun x => t.starts.map (pairLag x)
theorem first_in {Sy : Type} {Y : Sy → TLag → Option (Sy × Bool)} (w : Walk) (hl : ∀ x ∈ w.t.starts, x.out.length ≤ 1000000) (i : Nat) (hi : i < w.t.starts.length) :
    ∀ (m k : Nat) (s : Sy) (r : Sy × Bool), k + m = w.t.starts.length → foldY Y ((w.t.starts.drop k).map (pairLag (nth w.t.starts i Tip.zero))) s = some r →
      iter (fun q : Nat × Sy => twin_walk_first_1_b2 w i Y q.1 q.2) (k, s) = some (if r.2 then .inl (i + 1, r.1) else .inr r.1) := by
  intro m
  induction m with
  | zero =>
    intro k s r hk hf
    rw [List.drop_of_length_le (by omega)] at hf
    have : r = (s, true) := by simpa [foldY] using hf.symm
    subst this
    refine iter_done ?_
    show twin_walk_first_1_b2 w i Y k s = _
    unfold twin_walk_first_1_b2
    rw [iteO_df (by omega)]; rfl
  | succ m ih =>
    intro k s r hk hf
    have hkl : k < w.t.starts.length := by omega
    rw [drop_nth _ hkl Tip.zero, List.map_cons] at hf
    obtain ⟨q, hy, hq⟩ := foldY_step hf
    have b1 := hl _ (mem_at Tip.zero hi)
    have b2 := hl _ (mem_at Tip.zero hkl)
    have hs : twin_walk_first_1_b2 w i Y k s = iteO (!q.2) (fin (fin (some q.1))) (nxt ((k + 1), q.1)) := by
      unfold twin_walk_first_1_b2
      rw [iteO_dt (by omega), bnd_some (lag_eq _ _ (by omega) (by omega))]
      exact bnd_some hy
    cases hb : q.2 with
    | false =>
      rw [hb] at hq hs
      have : r = (q.1, false) := by simpa using hq.symm
      subst this
      exact iter_done hs
    | true =>
      rw [hb] at hq hs
      rw [if_pos rfl] at hq
      exact iter_next (s' := (k + 1, q.1)) hs (ih (k + 1) q.1 r (by omega) hq)
theorem first_run {Sy : Type} {Y : Sy → TLag → Option (Sy × Bool)} (w : Walk) (hl : ∀ x ∈ w.t.starts, x.out.length ≤ 1000000) :
    ∀ (m k : Nat) (s : Sy) (r : Sy × Bool), k + m = w.t.starts.length → foldY Y ((w.t.starts.drop k).flatMap fun x => w.t.starts.map (pairLag x)) s = some r →
      iter (fun q : Nat × Sy => twin_walk_first_1_b1 w Y q.1 q.2) (k, s) = some r.1 := by
  intro m
  induction m with
  | zero =>
    intro k s r hk hf
    rw [List.drop_of_length_le (by omega)] at hf
    have : r = (s, true) := by simpa [foldY] using hf.symm
    subst this
    refine iter_done ?_
    show twin_walk_first_1_b1 w Y k s = _
    unfold twin_walk_first_1_b1
    rw [iteO_df (by omega)]; rfl
  | succ m ih =>
    intro k s r hk hf
    have hkl : k < w.t.starts.length := by omega
    rw [drop_nth _ hkl Tip.zero, List.flatMap_cons] at hf
    obtain ⟨q, hy, hq⟩ := foldY_split hf
    have hin := first_in w hl k hkl w.t.starts.length 0 s q (by omega) (by rw [List.drop_zero]; exact hy)
    have hs : twin_walk_first_1_b1 w Y k s = some (if q.2 then .inl (k + 1, q.1) else .inr q.1) := by
      unfold twin_walk_first_1_b1
      rw [iteO_dt (by omega)]; exact hin
    cases hb : q.2 with
    | false =>
      rw [hb] at hq hs
      have : r = (q.1, false) := by simpa using hq.symm
      subst this
      exact iter_done hs
    | true =>
      rw [hb] at hq hs
      rw [if_pos rfl] at hq
      exact iter_next (s' := (k + 1, q.1)) hs (ih (k + 1) q.1 r (by omega) hq)
theorem first_eq {Sy : Type} {Y : Sy → TLag → Option (Sy × Bool)} (w : Walk) (hl : ∀ x ∈ w.t.starts, x.out.length ≤ 1000000) {s : Sy} {r : Sy × Bool} (h : foldY Y (firstL w.t) s = some r) : twin_walk_first_1 Y s w = some r.1 := by
  unfold twin_walk_first_1
  exact first_run w hl w.t.starts.length 0 s r (by omega) (by rw [List.drop_zero]; exact h)

/-! ### The lags behind those of a row -/
noncomputable def nextOf (arcs : List (List Arc)) (l : TLag) : List TLag := (nth arcs l.p.toNat []).flatMap fun x => (nth arcs l.q.toNat []).flatMap fun y => byL l x y
noncomputable def nextL (arcs : List (List Arc)) (row : List TLag) : List TLag := row.flatMap (nextOf arcs)
theorem fold_round {Sy : Type} {Y : Sy → TLag → Option (Sy × Bool)} : ∀ {L : List TLag} {s : Sy} {r : Sy × Bool}, foldY Y L s = some r →
    foldY (stepY (fun (q : Sy) (x : TLag) => twin_walk_next_1_r512 Y q x)) L (0, s) = some ((if r.2 then 0 else 1, r.1), r.2)
  | [], s, r, h => by
    have : r = (s, true) := by simpa [foldY] using h.symm
    subst this; rfl
  | x :: L, s, r, h => by
    obtain ⟨q, hy, hq⟩ := foldY_step h
    have hs : stepY (fun (q : Sy) (x : TLag) => twin_walk_next_1_r512 Y q x) (0, s) x = some ((if q.2 then 0 else 1, q.1), q.2) := by
      unfold stepY
      rw [if_pos rfl]
      show (twin_walk_next_1_r512 Y s x).bind _ = _
      unfold twin_walk_next_1_r512
      rw [bnd_some hy]
      cases q.2 <;> rfl
    simp only [foldY]
    rw [hs, Option.bind_some]
    cases hb : q.2 with
    | false =>
      rw [hb] at hq
      have : r = (q.1, false) := by simpa using hq.symm
      subst this; rfl
    | true =>
      rw [hb, if_pos rfl] at hq
      exact fold_round hq
/-- A walk whose arcs are in range. -/
structure ArcsOk (arcs : List (List Arc)) : Prop where
  out : ∀ i, ∀ x ∈ nth arcs i [], x.out.length ≤ 1000000
structure LagOk (n : Nat) (l : TLag) : Prop where
  p : 0 ≤ l.p ∧ l.p < n
  q : 0 ≤ l.q ∧ l.q < n
  a : l.a.length ≤ 100000000
  b : l.b.length ≤ 100000000
section
variable {Sy : Type} {Y : Sy → TLag → Option (Sy × Bool)} (w : Walk) (hw : ArcsOk w.arcs) (row : List TLag) (hr : ∀ l ∈ row, LagOk w.arcs.length l) (i : Nat) (hi : i < row.length)
include hw hr hi
theorem next_in (j : Nat) (hj : j < (nth w.arcs (nth row i TLag.zero).p.toNat []).length) :
    ∀ (m k : Nat) (s : Sy) (r : Sy × Bool), k + m = (nth w.arcs (nth row i TLag.zero).q.toNat []).length →
      foldY Y (((nth w.arcs (nth row i TLag.zero).q.toNat []).drop k).flatMap fun y => byL (nth row i TLag.zero) (nth (nth w.arcs (nth row i TLag.zero).p.toNat []) j Arc.zero) y) s = some r →
      iter (fun q : Nat × Sy => twin_walk_next_1_b3 w row i j Y q.1 q.2) (k, s) = some (if r.2 then .inl (j + 1, r.1) else .inr (.inr r.1)) := by
  intro m
  induction m with
  | zero =>
    intro k s r hk hf
    rw [List.drop_of_length_le (by omega)] at hf
    have : r = (s, true) := by simpa [foldY] using hf.symm
    subst this
    refine iter_done ?_
    show twin_walk_next_1_b3 w row i j Y k s = _
    unfold twin_walk_next_1_b3
    rw [iteO_df (by omega)]; rfl
  | succ m ih =>
    intro k s r hk hf
    have hkl : k < (nth w.arcs (nth row i TLag.zero).q.toNat []).length := by omega
    rw [drop_nth _ hkl Arc.zero, List.flatMap_cons] at hf
    obtain ⟨q, hy, hq⟩ := foldY_split hf
    have hl := hr _ (mem_at TLag.zero hi)
    have b1 := hw.out _ _ (mem_at Arc.zero hj)
    have b2 := hw.out _ _ (mem_at Arc.zero hkl)
    have hs : twin_walk_next_1_b3 w row i j Y k s = twin_walk_next_1_k512 k (if q.2 then 0 else 1) q.1 := by
      unfold twin_walk_next_1_b3
      rw [iteO_dt (by omega)]
      unfold twin_by
      rw [bnd_mk]
      dsimp only
      rw [bnd_some (by_eq _ _ _ hl.a hl.b b1 b2 (fold_round hy))]
    cases hb : q.2 with
    | false =>
      rw [hb] at hq hs
      have : r = (q.1, false) := by simpa using hq.symm
      subst this
      exact iter_done hs
    | true =>
      rw [hb] at hq hs
      rw [if_pos rfl] at hq
      exact iter_next (s' := (k + 1, q.1)) hs (ih (k + 1) q.1 r (by omega) hq)
theorem next_mid :
    ∀ (m k : Nat) (s : Sy) (r : Sy × Bool), k + m = (nth w.arcs (nth row i TLag.zero).p.toNat []).length →
      foldY Y (((nth w.arcs (nth row i TLag.zero).p.toNat []).drop k).flatMap fun x => (nth w.arcs (nth row i TLag.zero).q.toNat []).flatMap fun y => byL (nth row i TLag.zero) x y) s = some r →
      iter (fun q : Nat × Sy => twin_walk_next_1_b2 w row i Y q.1 q.2) (k, s) = some (if r.2 then .inl (i + 1, r.1) else .inr r.1) := by
  intro m
  induction m with
  | zero =>
    intro k s r hk hf
    rw [List.drop_of_length_le (by omega)] at hf
    have : r = (s, true) := by simpa [foldY] using hf.symm
    subst this
    refine iter_done ?_
    show twin_walk_next_1_b2 w row i Y k s = _
    unfold twin_walk_next_1_b2
    rw [iteO_df (by omega)]; rfl
  | succ m ih =>
    intro k s r hk hf
    have hkl : k < (nth w.arcs (nth row i TLag.zero).p.toNat []).length := by omega
    rw [drop_nth _ hkl Arc.zero, List.flatMap_cons] at hf
    obtain ⟨q, hy, hq⟩ := foldY_split hf
    have hl := hr _ (mem_at TLag.zero hi)
    have hin := next_in w hw row hr i hi k hkl (nth w.arcs (nth row i TLag.zero).q.toNat []).length 0 s q (by omega) (by rw [List.drop_zero]; exact hy)
    have hs : twin_walk_next_1_b2 w row i Y k s = some (if q.2 then .inl (k + 1, q.1) else .inr (.inr q.1)) := by
      unfold twin_walk_next_1_b2
      rw [iteO_dt (by omega), grd_mk hl.q]; exact hin
    cases hb : q.2 with
    | false =>
      rw [hb] at hq hs
      have : r = (q.1, false) := by simpa using hq.symm
      subst this
      exact iter_done hs
    | true =>
      rw [hb] at hq hs
      rw [if_pos rfl] at hq
      exact iter_next (s' := (k + 1, q.1)) hs (ih (k + 1) q.1 r (by omega) hq)
end
theorem next_run {Sy : Type} {Y : Sy → TLag → Option (Sy × Bool)} (w : Walk) (hw : ArcsOk w.arcs) (row : List TLag) (hr : ∀ l ∈ row, LagOk w.arcs.length l) :
    ∀ (m k : Nat) (s : Sy) (r : Sy × Bool), k + m = row.length → foldY Y (nextL w.arcs (row.drop k)) s = some r →
      iter (fun q : Nat × Sy => twin_walk_next_1_b1 row w Y q.1 q.2) (k, s) = some r.1 := by
  intro m
  induction m with
  | zero =>
    intro k s r hk hf
    rw [List.drop_of_length_le (by omega)] at hf
    have : r = (s, true) := by simpa [foldY, nextL] using hf.symm
    subst this
    refine iter_done ?_
    show twin_walk_next_1_b1 row w Y k s = _
    unfold twin_walk_next_1_b1
    rw [iteO_df (by omega)]; rfl
  | succ m ih =>
    intro k s r hk hf
    have hkl : k < row.length := by omega
    rw [drop_nth _ hkl TLag.zero, nextL, List.flatMap_cons] at hf
    obtain ⟨q, hy, hq⟩ := foldY_split hf
    have hl := hr _ (mem_at TLag.zero hkl)
    have hin := next_mid w hw row hr k hkl (nth w.arcs (nth row k TLag.zero).p.toNat []).length 0 s q (by omega) (by rw [List.drop_zero]; exact hy)
    have hs : twin_walk_next_1_b1 row w Y k s = some (if q.2 then .inl (k + 1, q.1) else .inr q.1) := by
      unfold twin_walk_next_1_b1
      rw [iteO_dt (by omega), grd_mk hl.p]; exact hin
    cases hb : q.2 with
    | false =>
      rw [hb] at hq hs
      have : r = (q.1, false) := by simpa using hq.symm
      subst this
      exact iter_done hs
    | true =>
      rw [hb] at hq hs
      rw [if_pos rfl] at hq
      exact iter_next (s' := (k + 1, q.1)) hs (ih (k + 1) q.1 r (by omega) hq)
theorem next_eq {Sy : Type} {Y : Sy → TLag → Option (Sy × Bool)} (w : Walk) (hw : ArcsOk w.arcs) (row : List TLag) (hr : ∀ l ∈ row, LagOk w.arcs.length l) {s : Sy} {r : Sy × Bool} (h : foldY Y (nextL w.arcs row) s = some r) : twin_walk_next_1 Y s row w = some r.1 := by
  unfold twin_walk_next_1
  exact next_run w hw row hr row.length 0 s r (by omega) (by rw [List.drop_zero]; exact h)
end Go.Proofs.YtcfjjckencjjeaaGreat
end

/- TwP -/
section
/- Whether two ways stay near one another: the program, in plain words. Plain lemmas, no condition. -/
set_option linter.unusedVariables false
set_option linter.unusedSimpArgs false
namespace Go.Proofs.YtcfjjckencjjeaaGreat
open Go Go.E
set_option maxRecDepth 100000

/-! ### The bound -/
def arcW (x : Arc) : Int := if x.copy then ((x.out.length + 1 : Nat) : Int) else ((x.out.length : Nat) : Int)
def arcM (l : List Arc) : Int := l.foldl (fun i x => max i (arcW x)) 0
def tipM (l : List Tip) : Int := l.foldl (fun i x => max i ((x.out.length : Nat) : Int)) 0
def boundD (t : Fst) : Int := t.states * t.states * arcM t.arcs + tipM t.starts
theorem arcM_snoc (l : List Arc) (x : Arc) : arcM (l ++ [x]) = max (arcM l) (arcW x) := by simp [arcM]
theorem tipM_snoc (l : List Tip) (x : Tip) : tipM (l ++ [x]) = max (tipM l) ((x.out.length : Nat) : Int) := by simp [tipM]
theorem arcM_rng {l : List Arc} (h : ∀ x ∈ l, x.out.length ≤ 1024) : 0 ≤ arcM l ∧ arcM l ≤ 1025 := by
  revert h
  induction l using rev_ind with
  | h0 => intro _; exact ⟨Int.le_refl _, by decide⟩
  | h1 l x ih =>
    intro h
    have := ih fun y hy => h y (List.mem_append_left _ hy)
    have hx := h x (List.mem_append_right _ (List.mem_singleton.2 rfl))
    rw [arcM_snoc]
    have : arcW x ≤ 1025 := by unfold arcW; split <;> omega
    omega
theorem tipM_rng {l : List Tip} (h : ∀ x ∈ l, x.out.length ≤ 1024) : 0 ≤ tipM l ∧ tipM l ≤ 1024 := by
  revert h
  induction l using rev_ind with
  | h0 => intro _; exact ⟨Int.le_refl _, by decide⟩
  | h1 l x ih =>
    intro h
    have := ih fun y hy => h y (List.mem_append_left _ hy)
    have hx := h x (List.mem_append_right _ (List.mem_singleton.2 rfl))
    rw [tipM_snoc]
    omega
theorem boundD_rng {t : Fst} (ht : FstOk t) (hs : t.states ≤ 32) : 0 ≤ boundD t ∧ boundD t ≤ 2000000 ∧ 0 ≤ t.states * t.states ∧ t.states * t.states ≤ 1024 ∧ 0 ≤ t.states * t.states * arcM t.arcs ∧ t.states * t.states * arcM t.arcs ≤ 1049600 := by
  have h0 := ht.st0
  have h1 := arcM_rng fun x hx => (ht.arcs x hx).2.2.2
  have h2 := tipM_rng fun x hx => (ht.starts x hx).2
  have h3 : 0 ≤ t.states * t.states := Int.mul_nonneg h0 h0
  have h4 : t.states * t.states ≤ 32 * 32 := Int.mul_le_mul hs hs h0 (by decide)
  have h5 : 0 ≤ t.states * t.states * arcM t.arcs := Int.mul_nonneg h3 h1.1
  have h6 : t.states * t.states * arcM t.arcs ≤ 32 * 32 * 1025 := Int.mul_le_mul h4 h1.2 h1.1 (by decide)
  unfold boundD
  omega
theorem bound_eq {t : Fst} (ht : FstOk t) (hs : t.states ≤ 32) : twin_bound t = some (boundD t) := by
  have hr := boundD_rng ht hs
  have h2 := tipM_rng fun x hx => (ht.starts x hx).2
  have hin : iter (fun q : Int × Nat => twin_bound_b2 t (arcM t.arcs) q.1 q.2) (0, 0) = some (boundD t) := by
    refine iter_fold t.starts Tip.zero (fun k => tipM (t.starts.take k)) (fun k hk => ?_) ?_
    · show twin_bound_b2 t _ _ k = _
      unfold twin_bound_b2
      rw [iteO_dt (by omega), take_snoc _ hk Tip.zero, tipM_snoc]; rfl
    · show twin_bound_b2 t _ _ t.starts.length = _
      unfold twin_bound_b2
      rw [iteO_df (by omega), List.take_length, wrap64_of (a := t.states * t.states) (by omega) (by omega), wrap64_of (a := t.states * t.states * arcM t.arcs) (by omega) (by omega), wrap64_of (by unfold boundD at hr; omega) (by unfold boundD at hr; omega)]
      rfl
  unfold twin_bound
  refine iter_fold t.arcs Arc.zero (fun k => arcM (t.arcs.take k)) (fun k hk => ?_) ?_
  · show twin_bound_b1 t _ k = _
    unfold twin_bound_b1 twin_bound_j1
    rw [iteO_dt (by omega), take_snoc _ hk Arc.zero, arcM_snoc]
    have hb := (ht.arcs _ (mem_at Arc.zero hk)).2.2.2
    unfold arcW
    cases (nth t.arcs k Arc.zero).copy with
    | true => rw [iteO_true, grd_mk (by omega)]; rfl
    | false => rfl
  · show twin_bound_b1 t _ t.arcs.length = _
    unfold twin_bound_b1
    rw [iteO_df (by omega), List.take_length, hin]; rfl
/-- Trim, if it is small enough. -/
noncomputable def ttrimD (t : Fst) : Fst × Int := if fstB t = true then (if (trimD t).states ≤ 32 then (trimD t, 0) else (⟨0, [], [], []⟩, 2)) else (⟨0, [], [], []⟩, 1)
theorem ttrim_eq (t : Fst) : twin_trim t = some (ttrimD t) := by
  unfold twin_trim ttrimD
  rw [bnd_some (trim_eq t)]
  by_cases h : fstB t = true
  · rw [if_pos h, if_pos h]
    show iteO (decide ((0 : Int) ≠ 0)) _ (iteO (decide (32 < (trimD t).states)) _ _) = _
    rw [iteO_df (by simp)]
    by_cases h2 : (trimD t).states ≤ 32
    · rw [iteO_df (by omega), if_pos h2]
    · rw [iteO_dt (by omega), if_neg h2]
  · rw [if_neg h, if_neg h]; rfl
theorem ttrim_ok {t : Fst} (h : (ttrimD t).2 = 0) : FstOk (ttrimD t).1 ∧ (ttrimD t).1.states ≤ 32 ∧ ttrimD t = (trimD t, 0) ∧ fstB t = true := by
  unfold ttrimD at *
  by_cases h1 : fstB t = true
  · rw [if_pos h1] at *
    by_cases h2 : (trimD t).states ≤ 32
    · rw [if_pos h2] at *; exact ⟨trimD_ok ((fstB_iff t).1 h1), h2, rfl, h1⟩
    · rw [if_neg h2] at h; cases h
  · rw [if_neg h1] at h; cases h
theorem Bound_eq (t : Fst) : twin_Bound t = some (if (ttrimD t).2 = 0 then (boundD (ttrimD t).1, 0) else (0, (ttrimD t).2)) := by
  unfold twin_Bound
  rw [bnd_some (ttrim_eq t)]
  by_cases h : (ttrimD t).2 = 0
  · obtain ⟨h1, h2, -⟩ := ttrim_ok h
    rw [if_pos h, iteO_df (by simpa using h), bnd_some (bound_eq h1 h2)]
  · rw [if_neg h, iteO_dt h]

/-! ### Lags taken in -/
abbrev TwS : Type := FM TLag Unit × List TLag × Bool × Bool
def takR (most : Int) (s : TwS) (x : TLag) : Nat × TwS :=
  if most < ((x.a.length : Nat) : Int) then (1, (s.1, [], true, false)) else if most < ((x.b.length : Nat) : Int) then (1, (s.1, [], true, false))
  else if s.1.has x = true then (0, s) else if 2048 ≤ ((s.1.n : Nat) : Int) then (0, (s.1, s.2.1, s.2.2.1, true)) else (0, (s.1.put x (), s.2.1 ++ [x], s.2.2.1, s.2.2.2))
/-- All of a list, till one is too far: what is then, and whether none was. -/
def takL (most : Int) : List TLag → TwS → TwS × Bool
  | [], s => (s, true)
  | x :: L, s => if (takR most s x).1 = 0 then takL most L (takR most s x).2 else ((takR most s x).2, false)
structure TwInv (s : TwS) : Prop where
  row : s.2.1.length ≤ s.1.n
  n : s.1.n ≤ 2048
theorem put_n {m : FM TLag Unit} {x : TLag} (h : m.has x = false) : (m.put x ()).n = m.n + 1 := by
  unfold FM.has at h; unfold FM.put; simp [h]
theorem takR_inv {most : Int} {s : TwS} {x : TLag} (h : TwInv s) : TwInv (takR most s x).2 := by
  have h1 := h.row
  have h2 := h.n
  unfold takR
  split
  · exact ⟨Nat.zero_le _, h2⟩
  · split
    · exact ⟨Nat.zero_le _, h2⟩
    · split
      · exact h
      · rename_i hh
        simp only [Bool.not_eq_true] at hh
        split
        · exact ⟨h1, h2⟩
        · have := put_n hh
          exact ⟨by simp only [List.length_append, List.length_singleton]; omega, by show (s.1.put x ()).n ≤ 2048; omega⟩
theorem takL_inv {most : Int} : ∀ {L : List TLag} {s : TwS}, TwInv s → TwInv (takL most L s).1
  | [], s, h => h
  | x :: L, s, h => by
    simp only [takL]
    split
    · exact takL_inv (takR_inv h)
    · exact takR_inv h
theorem r2_eq {w : Walk} {s : TwS} {x : TLag} (h : s.2.1.length ≤ 2048) : takeFirst_r2 w s.1 s.2.1 s.2.2.1 s.2.2.2 x = some (takR w.most s x) := by
  unfold takeFirst_r2 takR
  by_cases h1 : w.most < ((x.a.length : Nat) : Int)
  · rw [iteO_dt h1, if_pos h1]
  rw [iteO_df h1, if_neg h1]
  by_cases h2 : w.most < ((x.b.length : Nat) : Int)
  · rw [iteO_dt h2, if_pos h2]
  rw [iteO_df h2, if_neg h2]
  cases h3 : s.1.has x with
  | true => rfl
  | false =>
    rw [iteO_false, if_neg (by simp)]
    by_cases h4 : 2048 ≤ ((s.1.n : Nat) : Int)
    · rw [iteO_dt h4, if_pos h4]
    · rw [iteO_df h4, if_neg h4, grd_mk (by simp only [List.length_singleton]; omega)]
theorem takR_cases {most : Int} {s : TwS} {x : TLag} : (takR most s x).1 = 0 ∨ (takR most s x).1 = 1 := by
  unfold takR
  split
  · exact .inr rfl
  · split
    · exact .inr rfl
    · split
      · exact .inl rfl
      · split <;> exact .inl rfl
theorem fold_tak (w : Walk) (B : TwS → TLag → Option (Nat × TwS)) (hB : ∀ s x, s.2.1.length ≤ 2048 → B s x = some (takR w.most s x)) : ∀ {L : List TLag} {s : TwS}, TwInv s →
    foldY (stepY B) L (0, s) = some ((if (takL w.most L s).2 then 0 else 1, (takL w.most L s).1), (takL w.most L s).2)
  | [], s, _ => rfl
  | x :: L, s, h => by
    have h1 := h.row
    have h2 := h.n
    have hs : stepY B (0, s) x = some (takR w.most s x, (takR w.most s x).1 == 0) := by
      unfold stepY
      rw [if_pos rfl, hB s x (by omega)]; rfl
    simp only [foldY]
    rw [hs, Option.bind_some]
    rcases takR_cases (most := w.most) (s := s) (x := x) with hc | hc
    · have e : takR w.most s x = (0, (takR w.most s x).2) := by rw [← hc]
      simp only [takL, hc, beq_self_eq_true, if_true]
      rw [e]
      exact fold_tak w B hB (takR_inv h)
    · have e : takR w.most s x = (1, (takR w.most s x).2) := by rw [← hc]
      simp only [takL, hc, show ((1 : Nat) == 0) = false from rfl, Nat.one_ne_zero, if_false, Bool.false_eq_true]
      rw [e]
/-- What take answers. -/
def takeD (most : Int) (L : List TLag) (m : FM TLag Unit) : List TLag × Bool × Bool × FM TLag Unit :=
  let q := takL most L (m, [], false, false)
  (q.1.2.1, (if q.2 then false else q.1.2.2.1), q.1.2.2.2, q.1.1)
theorem inv0 {m : FM TLag Unit} (h : m.n ≤ 2048) : TwInv (m, [], false, false) := ⟨Nat.zero_le _, h⟩
theorem takeFirst_eq (w : Walk) (m : FM TLag Unit) (hl : ∀ x ∈ w.t.starts, x.out.length ≤ 1000000) (hm : m.n ≤ 2048) : takeFirst w m w = some (takeD w.most (firstL w.t) m) := by
  unfold takeFirst
  rw [bnd_some (first_eq w hl (fold_tak w _ (fun s x h => r2_eq h) (inv0 hm)))]
  unfold takeFirst_k2 takeD
  dsimp only
  cases (takL w.most (firstL w.t) (m, [], false, false)).2 <;> rfl
theorem takeNext_eq (w : Walk) (m : FM TLag Unit) (row : List TLag) (hw : ArcsOk w.arcs) (hr : ∀ l ∈ row, LagOk w.arcs.length l) (hm : m.n ≤ 2048) : takeNext w m row w = some (takeD w.most (nextL w.arcs row) m) := by
  unfold takeNext
  rw [bnd_some (next_eq w hw row hr (fold_tak w (fun s x => takeNext_r2 w s.1 s.2.1 s.2.2.1 s.2.2.2 x) (fun s x h => r2_eq h) (inv0 hm)))]
  unfold takeNext_k2 takeD
  dsimp only
  cases (takL w.most (nextL w.arcs row) (m, [], false, false)).2 <;> rfl
theorem takL_row {most : Int} : ∀ {L : List TLag} {s : TwS}, ∀ x ∈ (takL most L s).1.2.1, x ∈ s.2.1 ∨ (x ∈ L ∧ ((x.a.length : Nat) : Int) ≤ most ∧ ((x.b.length : Nat) : Int) ≤ most)
  | [], s => fun x hx => .inl hx
  | y :: L, s => fun x hx => by
    have hr : ∀ x ∈ (takR most s y).2.2.1, x ∈ s.2.1 ∨ (x = y ∧ ((y.a.length : Nat) : Int) ≤ most ∧ ((y.b.length : Nat) : Int) ≤ most) := by
      intro x hx
      unfold takR at hx
      split at hx
      · cases hx
      · split at hx
        · cases hx
        · split at hx
          · exact .inl hx
          · split at hx
            · exact .inl hx
            · rcases List.mem_append.1 hx with h | h
              · exact .inl h
              · exact .inr ⟨List.mem_singleton.1 h, by omega, by omega⟩
    simp only [takL] at hx
    have fin : x ∈ (takR most s y).2.2.1 → x ∈ s.2.1 ∨ (x ∈ y :: L ∧ ((x.a.length : Nat) : Int) ≤ most ∧ ((x.b.length : Nat) : Int) ≤ most) := fun h => by
      rcases hr x h with h | ⟨rfl, h⟩
      · exact .inl h
      · exact .inr ⟨List.mem_cons_self .., h⟩
    split at hx
    · rcases takL_row x hx with h | ⟨h1, h2⟩
      · exact fin h
      · exact .inr ⟨List.mem_cons_of_mem _ h1, h2⟩
    · exact fin hx
theorem takL_n {most : Int} : ∀ {L : List TLag} {s : TwS}, (takL most L s).1.2.1.length + s.1.n ≤ (takL most L s).1.1.n + s.2.1.length
  | [], s => by simp only [takL]; omega
  | y :: L, s => by
    have hr : (takR most s y).2.2.1.length + s.1.n ≤ (takR most s y).2.1.n + s.2.1.length := by
      unfold takR
      split
      · show 0 + s.1.n ≤ s.1.n + _; omega
      · split
        · show 0 + s.1.n ≤ s.1.n + _; omega
        · split
          · show s.2.1.length + s.1.n ≤ s.1.n + s.2.1.length; omega
          · rename_i hh
            simp only [Bool.not_eq_true] at hh
            split
            · show s.2.1.length + s.1.n ≤ s.1.n + s.2.1.length; omega
            · have := put_n hh
              show (s.2.1 ++ [y]).length + s.1.n ≤ (s.1.put y ()).n + s.2.1.length
              rw [List.length_append, List.length_singleton]; omega
    simp only [takL]
    split
    · have := takL_n (most := most) (L := L) (s := (takR most s y).2); omega
    · exact hr

/-! ### All rounds -/
structure Laid (w : Walk) : Prop where
  arcs : ArcsOk w.arcs
  to : ∀ i, ∀ x ∈ nth w.arcs i [], 0 ≤ x.to ∧ x.to < w.arcs.length
  starts : ∀ x ∈ w.t.starts, (0 ≤ x.state ∧ x.state < w.arcs.length) ∧ x.out.length ≤ 1000000
  most : w.most ≤ 2000000
theorem first_ok {w : Walk} (hw : Laid w) : ∀ l ∈ (takeD w.most (firstL w.t) FM.emp).1, LagOk w.arcs.length l := fun l hl => by
  rcases takL_row l hl with h | ⟨h, h1, h2⟩
  · cases h
  · have hm := hw.most
    simp only [firstL, List.mem_flatMap, List.mem_map] at h
    obtain ⟨x, hx, y, hy, rfl⟩ := h
    exact ⟨(hw.starts x hx).1, (hw.starts y hy).1, by omega, by omega⟩
theorem mem_byL {l z : TLag} {x y : Arc} (h : z ∈ byL l x y) : z.p = x.to ∧ z.q = y.to := by
  unfold byL byFrom at h
  dsimp only at h
  have : z ∈ ((List.range' 0 256).filter fun n => (bothS x.set y.set).has (toU8 ((n : Nat) : Int)).toNat).map (lagOf l x y) := by
    split at h
    · exact h
    · exact List.mem_of_mem_take h
  obtain ⟨n, _, rfl⟩ := List.mem_map.1 this
  exact ⟨rfl, rfl⟩
theorem next_ok {w : Walk} (hw : Laid w) (row : List TLag) (m : FM TLag Unit) : ∀ l ∈ (takeD w.most (nextL w.arcs row) m).1, LagOk w.arcs.length l := fun l hl => by
  rcases takL_row l hl with h | ⟨h, h1, h2⟩
  · cases h
  · have hm := hw.most
    simp only [nextL, nextOf, List.mem_flatMap] at h
    obtain ⟨r, hr, x, hx, y, hy, hz⟩ := h
    obtain ⟨e1, e2⟩ := mem_byL hz
    exact ⟨by rw [e1]; exact hw.to _ x hx, by rw [e2]; exact hw.to _ y hy, by omega, by omega⟩
theorem arcs_laid {t : Fst} (ht : FstOk t) {l : List (List Arc)} (h : Grp Arc.frm id t.states.toNat l t.arcs) (hs : t.states ≤ 32) : Laid ⟨t, l, boundD t⟩ := by
  have hr := boundD_rng ht hs
  have hl := h.len
  have h0 := ht.st0
  have hm : ∀ i, ∀ x ∈ nth l i [], x ∈ t.arcs := fun i x hx => by
    by_cases hi : i < t.states.toNat
    · rw [h.row _ hi, List.map_id] at hx; exact (List.mem_filter.1 hx).1
    · unfold nth at hx
      rw [List.getD_eq_getElem?_getD, List.getElem?_eq_none (by omega)] at hx
      simp at hx
  refine ⟨⟨fun i x hx => ?_⟩, fun i x hx => ?_, fun x hx => ?_, hr.2.1⟩
  · have := (ht.arcs x (hm i x hx)).2.2.2; omega
  · have := (ht.arcs x (hm i x hx)).2.1; dsimp only; omega
  · have := ht.starts x hx; dsimp only; omega
end Go.Proofs.YtcfjjckencjjeaaGreat
end

/- TwO -/
section
/- How the rounds of Twin end: what stands then. Plain lemmas, no condition. -/
set_option linter.unusedVariables false
set_option linter.unusedSimpArgs false
namespace Go.Proofs.YtcfjjckencjjeaaGreat
open Go Go.E
set_option maxRecDepth 100000

def short (most : Int) (z : TLag) : Prop := ((z.a.length : Nat) : Int) ≤ most ∧ ((z.b.length : Nat) : Int) ≤ most
theorem ofL_has {S : List TLag} {x : TLag} : (FM.ofL S).has x = true ↔ x ∈ S := by
  unfold FM.has
  rw [FM.ofL_f]
  by_cases h : x ∈ S <;> simp [h]
/-- What taking lags in leaves. -/
structure TakOk (most : Int) (L S : List TLag) (s : TwS) (q : TwS × Bool) : Prop where
  far : q.2 = false → q.1.2.2.1 = true ∧ ∃ z ∈ L, ¬ short most z
  row : q.2 = true → ∃ row2, q.1.2.1 = s.2.1 ++ row2 ∧ q.1.1 = FM.ofL (S ++ q.1.2.1) ∧ (∀ z ∈ row2, z ∈ L ∧ short most z)
  all : q.2 = true → q.1.2.2.2 = false → s.2.2.2 = false ∧ ∀ z ∈ L, z ∈ S ++ q.1.2.1 ∧ short most z
  many : q.2 = true → q.1.2.2.2 = true → s.2.2.2 = true ∨ 2048 ≤ q.1.1.n
theorem put_mono {m : FM TLag Unit} {x : TLag} : m.n ≤ (m.put x ()).n := by
  unfold FM.put; dsimp only; split <;> omega
theorem takL_mono {most : Int} : ∀ {L : List TLag} {s : TwS}, s.1.n ≤ (takL most L s).1.1.n
  | [], s => Nat.le_refl _
  | y :: L, s => by
    have hr : s.1.n ≤ (takR most s y).2.1.n := by
      unfold takR
      split
      · exact Nat.le_refl _
      · split
        · exact Nat.le_refl _
        · split
          · exact Nat.le_refl _
          · split
            · exact Nat.le_refl _
            · exact put_mono
    simp only [takL]
    split
    · exact Nat.le_trans hr takL_mono
    · exact hr
theorem takL_ok {most : Int} {S : List TLag} : ∀ {L : List TLag} {s : TwS}, s.1 = FM.ofL (S ++ s.2.1) → TakOk most L S s (takL most L s)
  | [], s, h => ⟨fun h => by simp [takL] at h, fun _ => ⟨[], (List.append_nil _).symm, h, fun z hz => by cases hz⟩, fun _ h => ⟨h, fun z hz => by cases hz⟩, fun _ h => .inl h⟩
  | y :: L, s, h => by
    by_cases h1 : most < ((y.a.length : Nat) : Int)
    · have e : takR most s y = (1, (s.1, [], true, false)) := by unfold takR; rw [if_pos h1]
      have e2 : takL most (y :: L) s = ((s.1, [], true, false), false) := by simp only [takL, e]; rfl
      rw [e2]
      exact ⟨fun _ => ⟨rfl, y, List.mem_cons_self .., fun hs => by unfold short at hs; omega⟩, fun h => by simp at h, fun h => by simp at h, fun h => by simp at h⟩
    by_cases h2 : most < ((y.b.length : Nat) : Int)
    · have e : takR most s y = (1, (s.1, [], true, false)) := by unfold takR; rw [if_neg h1, if_pos h2]
      have e2 : takL most (y :: L) s = ((s.1, [], true, false), false) := by simp only [takL, e]; rfl
      rw [e2]
      exact ⟨fun _ => ⟨rfl, y, List.mem_cons_self .., fun hs => by unfold short at hs; omega⟩, fun h => by simp at h, fun h => by simp at h, fun h => by simp at h⟩
    have hsh : short most y := ⟨by omega, by omega⟩
    by_cases h3 : s.1.has y = true
    · have e : takR most s y = (0, s) := by unfold takR; rw [if_neg h1, if_neg h2, if_pos h3]
      have e2 : takL most (y :: L) s = takL most L s := by simp only [takL, e]; rfl
      rw [e2]
      have ih := takL_ok (most := most) (S := S) (L := L) h
      have hy : y ∈ S ++ s.2.1 := by rw [h] at h3; exact ofL_has.1 h3
      refine ⟨fun hq => ?_, fun hq => ?_, fun hq hm => ?_, ih.many⟩
      · obtain ⟨a, z, b, c⟩ := ih.far hq; exact ⟨a, z, List.mem_cons_of_mem _ b, c⟩
      · obtain ⟨r, a, b, c⟩ := ih.row hq; exact ⟨r, a, b, fun z hz => ⟨List.mem_cons_of_mem _ (c z hz).1, (c z hz).2⟩⟩
      · obtain ⟨r, a, b, c⟩ := ih.row hq
        obtain ⟨d, f⟩ := ih.all hq hm
        refine ⟨d, fun z hz => ?_⟩
        rcases List.mem_cons.1 hz with rfl | hz
        · refine ⟨?_, hsh⟩
          rw [a, ← List.append_assoc]; exact List.mem_append_left _ hy
        · exact f z hz
    · by_cases h4 : 2048 ≤ ((s.1.n : Nat) : Int)
      · have e : takR most s y = (0, (s.1, s.2.1, s.2.2.1, true)) := by unfold takR; rw [if_neg h1, if_neg h2, if_neg h3, if_pos h4]
        have e2 : takL most (y :: L) s = takL most L (s.1, s.2.1, s.2.2.1, true) := by simp only [takL, e]; rfl
        rw [e2]
        have ih := takL_ok (most := most) (S := S) (L := L) (s := (s.1, s.2.1, s.2.2.1, true)) h
        refine ⟨fun hq => ?_, fun hq => ?_, fun hq hm => ?_, fun hq hm => .inr ?_⟩
        · obtain ⟨a, z, b, c⟩ := ih.far hq; exact ⟨a, z, List.mem_cons_of_mem _ b, c⟩
        · obtain ⟨r, a, b, c⟩ := ih.row hq; exact ⟨r, a, b, fun z hz => ⟨List.mem_cons_of_mem _ (c z hz).1, (c z hz).2⟩⟩
        · have := (ih.all hq hm).1; simp at this
        · have := takL_mono (most := most) (L := L) (s := (s.1, s.2.1, s.2.2.1, true))
          dsimp only at this; omega
      · have e : takR most s y = (0, (s.1.put y (), s.2.1 ++ [y], s.2.2.1, s.2.2.2)) := by unfold takR; rw [if_neg h1, if_neg h2, if_neg h3, if_neg h4]
        have e2 : takL most (y :: L) s = takL most L (s.1.put y (), s.2.1 ++ [y], s.2.2.1, s.2.2.2) := by simp only [takL, e]; rfl
        rw [e2]
        have ih := takL_ok (most := most) (S := S) (L := L) (s := (s.1.put y (), s.2.1 ++ [y], s.2.2.1, s.2.2.2)) (by
          show s.1.put y () = FM.ofL (S ++ (s.2.1 ++ [y]))
          rw [← List.append_assoc, FM.ofL_snoc, ← h])
        refine ⟨fun hq => ?_, fun hq => ?_, fun hq hm => ?_, fun hq hm => ih.many hq hm⟩
        · obtain ⟨a, z, b, c⟩ := ih.far hq; exact ⟨a, z, List.mem_cons_of_mem _ b, c⟩
        · obtain ⟨r, a, b, c⟩ := ih.row hq
          refine ⟨y :: r, by rw [a]; simp, b, fun z hz => ?_⟩
          rcases List.mem_cons.1 hz with rfl | hz
          · exact ⟨List.mem_cons_self .., hsh⟩
          · exact ⟨List.mem_cons_of_mem _ (c z hz).1, (c z hz).2⟩
        · obtain ⟨r, a, b, c⟩ := ih.row hq
          obtain ⟨d, f⟩ := ih.all hq hm
          refine ⟨d, fun z hz => ?_⟩
          rcases List.mem_cons.1 hz with rfl | hz
          · refine ⟨?_, hsh⟩
            rw [a]; simp
          · exact f z hz
/-- Lags that some text leads to. -/
inductive RchL (w : Walk) : TLag → Prop
  | base {z : TLag} : z ∈ firstL w.t → RchL w z
  | step {z z' : TLag} : RchL w z → z' ∈ nextOf w.arcs z → RchL w z'
/-- How Twin may end. -/
def Out (w : Walk) (r : Bool × Int) : Prop :=
  (r = (true, 0) ∧ ∃ S : List TLag, (∀ z ∈ firstL w.t, z ∈ S) ∧ (∀ z ∈ S, ∀ z' ∈ nextOf w.arcs z, z' ∈ S) ∧ ∀ z ∈ S, RchL w z ∧ short w.most z) ∨
  (r = (false, 0) ∧ ∃ z, RchL w z ∧ ¬ short w.most z) ∨
  (r = (false, 2) ∧ ∃ S : List TLag, 2048 ≤ card S ∧ ∀ z ∈ S, RchL w z ∧ short w.most z)
/-- What stands ahead of a round. -/
structure RdOk (w : Walk) (S : List TLag) (m : FM TLag Unit) (row : List TLag) (far many : Bool) : Prop where
  hfar : far = true → ∃ z, RchL w z ∧ ¬ short w.most z
  hm : far = false → m = FM.ofL (S ++ row)
  hrch : far = false → ∀ z ∈ S ++ row, RchL w z ∧ short w.most z
  hmany : far = false → many = true → 2048 ≤ m.n
  hfirst : far = false → many = false → ∀ z ∈ firstL w.t, z ∈ S ++ row
  hnext : far = false → many = false → ∀ z ∈ S, ∀ z' ∈ nextOf w.arcs z, z' ∈ S ++ row
theorem rd_first (w : Walk) : RdOk w [] (takeD w.most (firstL w.t) FM.emp).2.2.2 (takeD w.most (firstL w.t) FM.emp).1 (takeD w.most (firstL w.t) FM.emp).2.1 (takeD w.most (firstL w.t) FM.emp).2.2.1 := by
  have h := takL_ok (most := w.most) (S := []) (L := firstL w.t) (s := (FM.emp, [], false, false)) rfl
  unfold takeD
  dsimp only
  cases hq : (takL w.most (firstL w.t) (FM.emp, [], false, false)).2 with
  | false =>
    obtain ⟨a, z, b, c⟩ := h.far hq
    rw [if_neg (by simp), a]
    exact ⟨fun _ => ⟨z, .base b, c⟩, fun h => by simp at h, fun h => by simp at h, fun h => by simp at h, fun h => by simp at h, fun h => by simp at h⟩
  | true =>
    obtain ⟨r, a, b, c⟩ := h.row hq
    rw [if_pos rfl]
    refine ⟨fun h => by simp at h, fun _ => b, fun _ z hz => ?_, fun _ hm => ?_, fun _ hm z hz => ?_, fun _ _ z hz => by cases hz⟩
    · rw [List.nil_append, a] at hz
      have := c z hz
      exact ⟨.base this.1, this.2⟩
    · rcases h.many hq hm with h | h
      · simp at h
      · exact h
    · exact ((h.all hq hm).2 z hz).1
theorem rd_next {w : Walk} {S : List TLag} {m : FM TLag Unit} {row : List TLag} (h : RdOk w S m row false false) : RdOk w (S ++ row) (takeD w.most (nextL w.arcs row) m).2.2.2 (takeD w.most (nextL w.arcs row) m).1 (takeD w.most (nextL w.arcs row) m).2.1 (takeD w.most (nextL w.arcs row) m).2.2.1 := by
  have hm0 := h.hm rfl
  have hk := takL_ok (most := w.most) (S := S ++ row) (L := nextL w.arcs row) (s := (m, [], false, false)) (by show m = _; rw [List.append_nil]; exact hm0)
  have hL : ∀ z ∈ nextL w.arcs row, RchL w z := fun z hz => by
    obtain ⟨l, hl, hz⟩ := List.mem_flatMap.1 hz
    exact .step (h.hrch rfl l (List.mem_append_right _ hl)).1 hz
  unfold takeD
  dsimp only
  cases hq : (takL w.most (nextL w.arcs row) (m, [], false, false)).2 with
  | false =>
    obtain ⟨a, z, b, c⟩ := hk.far hq
    rw [if_neg (by simp), a]
    exact ⟨fun _ => ⟨z, hL z b, c⟩, fun h => by simp at h, fun h => by simp at h, fun h => by simp at h, fun h => by simp at h, fun h => by simp at h⟩
  | true =>
    obtain ⟨r, a, b, c⟩ := hk.row hq
    rw [if_pos rfl]
    refine ⟨fun h => by simp at h, fun _ => b, fun _ z hz => ?_, fun _ hm => ?_, fun _ hm z hz => ?_, fun _ hm z hz z' hz' => ?_⟩
    · rcases List.mem_append.1 hz with hz | hz
      · exact h.hrch rfl z hz
      · rw [a] at hz
        have := c z hz
        exact ⟨hL z this.1, this.2⟩
    · rcases hk.many hq hm with h | h
      · simp at h
      · exact h
    · exact List.mem_append_left _ (h.hfirst rfl rfl z hz)
    · rcases List.mem_append.1 hz with hz | hz
      · exact List.mem_append_left _ (h.hnext rfl rfl z hz z' hz')
      · exact ((hk.all hq hm).2 z' (List.mem_flatMap.2 ⟨z, hz, hz'⟩)).1
theorem rounds_out (v5 : Fst × Int) (w : Walk) (hw : Laid w) (hv : w.t = v5.1) : ∀ (d : Nat) (S : List TLag) (m : FM TLag Unit) (row : List TLag) (far many : Bool), 2048 - m.n ≤ d → m.n ≤ 2048 → (∀ l ∈ row, LagOk w.arcs.length l) → RdOk w S m row far many →
    ∃ r, iter (fun q : TwS => twin_Twin_b2 v5 w.arcs w.most q.1 q.2.1 q.2.2.1 q.2.2.2) (m, row, far, many) = some r ∧ Out w r := by
  have hstep : ∀ (m : FM TLag Unit) (row : List TLag), m.n ≤ 2048 → (∀ l ∈ row, LagOk w.arcs.length l) → row ≠ [] → twin_Twin_b2 v5 w.arcs w.most m row false false = nxt ((takeD w.most (nextL w.arcs row) m).2.2.2, (takeD w.most (nextL w.arcs row) m).1, (takeD w.most (nextL w.arcs row) m).2.1, (takeD w.most (nextL w.arcs row) m).2.2.1) := by
    intro m row hm hr hne
    unfold twin_Twin_b2
    rw [iteO_false, iteO_false, iteO_df (by
      cases row with
      | nil => exact absurd rfl hne
      | cons a l => simp only [List.length_cons]; omega)]
    unfold twin_walk_next
    rw [bnd_mk]
    have e : (⟨v5.1, w.arcs, w.most⟩ : Walk) = w := by rw [← hv]
    dsimp only
    show bnd (takeNext (⟨v5.1, w.arcs, w.most⟩ : Walk) m row (⟨v5.1, w.arcs, w.most⟩ : Walk)) _ = _
    rw [e, bnd_some (takeNext_eq w m row hw.arcs hr hm)]
  have hend : ∀ (S : List TLag) (m : FM TLag Unit) (row : List TLag) (far many : Bool), RdOk w S m row far many → (far = true ∨ many = true ∨ row = []) → ∃ r, iter (fun q : TwS => twin_Twin_b2 v5 w.arcs w.most q.1 q.2.1 q.2.2.1 q.2.2.2) (m, row, far, many) = some r ∧ Out w r := by
    intro S m row far many hI h
    cases far with
    | true => exact ⟨_, iter_done rfl, .inr (.inl ⟨rfl, hI.hfar rfl⟩)⟩
    | false =>
      cases many with
      | true =>
        have e := hI.hm rfl
        have := hI.hmany rfl rfl
        exact ⟨_, iter_done rfl, .inr (.inr ⟨rfl, S ++ row, by unfold card; rw [← e]; exact this, hI.hrch rfl⟩)⟩
      | false =>
        rcases h with h | h | h
        · cases h
        · cases h
        · subst h
          have e := List.append_nil S
          exact ⟨_, iter_done rfl, .inl ⟨rfl, S, fun z hz => e ▸ hI.hfirst rfl rfl z hz, fun z hz z' hz' => e ▸ hI.hnext rfl rfl z hz z' hz', fun z hz => hI.hrch rfl z (List.mem_append_left _ hz)⟩⟩
  intro d
  induction d with
  | zero =>
    intro S m row far many hd hm hr hI
    by_cases he : far = true ∨ many = true ∨ row = []
    · exact hend S m row far many hI he
    · have h1 : far = false := by cases far <;> simp_all
      have h2 : many = false := by cases many <;> simp_all
      subst h1 h2
      have h3 := takL_n (most := w.most) (L := nextL w.arcs row) (s := (m, [], false, false))
      have h4 := takL_inv (most := w.most) (L := nextL w.arcs row) (inv0 hm)
      have h5 := h4.n
      have hnil : (takeD w.most (nextL w.arcs row) m).1 = [] := by
        have : (takL w.most (nextL w.arcs row) (m, [], false, false)).1.2.1.length = 0 := by simp only [List.length_nil] at h3; omega
        exact List.length_eq_zero_iff.1 this
      obtain ⟨r, hr', ho⟩ := hend _ _ _ _ _ (rd_next hI) (.inr (.inr hnil))
      exact ⟨r, iter_next (hstep m row hm hr (by simp_all)) hr', ho⟩
  | succ d ih =>
    intro S m row far many hd hm hr hI
    by_cases he : far = true ∨ many = true ∨ row = []
    · exact hend S m row far many hI he
    · have h1 : far = false := by cases far <;> simp_all
      have h2 : many = false := by cases many <;> simp_all
      subst h1 h2
      have h3 := takL_n (most := w.most) (L := nextL w.arcs row) (s := (m, [], false, false))
      have h4 := takL_inv (most := w.most) (L := nextL w.arcs row) (inv0 hm)
      have h5 := h4.n
      by_cases hnil : (takeD w.most (nextL w.arcs row) m).1 = []
      · obtain ⟨r, hr', ho⟩ := hend _ _ _ _ _ (rd_next hI) (.inr (.inr hnil))
        exact ⟨r, iter_next (hstep m row hm hr (by simp_all)) hr', ho⟩
      · have h6 : 0 < (takL w.most (nextL w.arcs row) (m, [], false, false)).1.2.1.length := List.length_pos_iff.2 hnil
        simp only [List.length_nil] at h3
        obtain ⟨r, hr', ho⟩ := ih (S ++ row) (takeD w.most (nextL w.arcs row) m).2.2.2 (takeD w.most (nextL w.arcs row) m).1 (takeD w.most (nextL w.arcs row) m).2.1 (takeD w.most (nextL w.arcs row) m).2.2.1 (by
          show 2048 - (takL w.most (nextL w.arcs row) (m, [], false, false)).1.1.n ≤ d; omega) h5 (next_ok hw row m) (rd_next hI)
        exact ⟨r, iter_next (hstep m row hm hr (by simp_all)) hr', ho⟩
/-- Twin, of what is trimmed and small. -/
theorem twin_out {t : Fst} (h : (ttrimD t).2 = 0) : ∃ r, twin_Twin t = some r ∧ ∃ l, Grp Arc.frm id (trimD t).states.toNat l (trimD t).arcs ∧ Out ⟨trimD t, l, boundD (trimD t)⟩ r := by
  obtain ⟨ht, hs, he, -⟩ := ttrim_ok h
  unfold twin_Twin
  rw [bnd_some (ttrim_eq t), he]
  rw [he] at ht hs
  dsimp only at ht hs
  have h0 := ht.st0
  have hN := ht.arcsN
  dsimp only
  rw [iteO_df (by simp), grd_mk ⟨h0, by omega⟩, bnd_some (bound_eq ht hs)]
  unfold twin_Twin_j1
  exact iter_for (step := fun q : List (List Arc) × Nat => twin_Twin_b1 (trimD t, 0) (boundD (trimD t)) q.1 q.2) (fun (s : List (List Arc)) k => (s, k)) (trimD t).arcs Arc.zero
    (fun pre s => Grp Arc.frm id (trimD t).states.toNat s pre) (fun r => ∃ l, Grp Arc.frm id (trimD t).states.toNat l (trimD t).arcs ∧ Out ⟨trimD t, l, boundD (trimD t)⟩ r)
    (fun k s hk a1 => by
      obtain ⟨b1, -⟩ := ht.arcs _ (mem_at Arc.zero hk)
      have l1 := a1.len
      have r1 := grp_len a1 (i := (nth (trimD t).arcs k Arc.zero).frm.toNat) (by omega)
      have r3 := take_len_le (trimD t).arcs k
      refine .inl ⟨s.set (nth (trimD t).arcs k Arc.zero).frm.toNat (nth s (nth (trimD t).arcs k Arc.zero).frm.toNat [] ++ [nth (trimD t).arcs k Arc.zero]), ?_, a1.snoc b1.1 (by omega)⟩
      show twin_Twin_b1 (trimD t, 0) _ s k = _
      unfold twin_Twin_b1 twin_Twin_j2
      dsimp only
      rw [iteO_dt (by omega), grd_mk ⟨b1.1, by omega⟩, grd_mk (by simp only [List.length_singleton]; omega), grd_mk ⟨b1.1, by omega⟩]
      rfl)
    (fun s hI => by
      have hw := arcs_laid ht hI hs
      obtain ⟨r, hr, ho⟩ := rounds_out (trimD t, 0) ⟨trimD t, s, boundD (trimD t)⟩ hw rfl 2048 [] (takeD (boundD (trimD t)) (firstL (trimD t)) FM.emp).2.2.2 (takeD (boundD (trimD t)) (firstL (trimD t)) FM.emp).1 (takeD (boundD (trimD t)) (firstL (trimD t)) FM.emp).2.1 (takeD (boundD (trimD t)) (firstL (trimD t)) FM.emp).2.2.1 (by omega) (takL_inv (inv0 (Nat.zero_le _))).n (first_ok hw) (rd_first ⟨trimD t, s, boundD (trimD t)⟩)
      refine ⟨r, ?_, s, hI, ho⟩
      show twin_Twin_b1 (trimD t, 0) _ s (trimD t).arcs.length = _
      unfold twin_Twin_b1
      dsimp only
      rw [iteO_df (by omega)]
      unfold twin_walk_first
      rw [bnd_mk]
      dsimp only
      have := takeFirst_eq ⟨trimD t, s, boundD (trimD t)⟩ FM.emp (fun x hx => (hw.starts x hx).2) (Nat.zero_le _)
      rw [bnd_some this]
      dsimp only
      rw [hr]; rfl)
    (s0 := List.replicate (trimD t).states.toNat []) (Grp.nil ..)
theorem twin_refused {t : Fst} (h : (ttrimD t).2 ≠ 0) : twin_Twin t = some (false, (ttrimD t).2) := by
  unfold twin_Twin
  rw [bnd_some (ttrim_eq t), iteO_dt h]
end Go.Proofs.YtcfjjckencjjeaaGreat
end

/- TwR -/
section
/- Rounds of lags: how they end hangs on sets alone. Plain lemmas, no condition. -/
set_option linter.unusedVariables false
set_option linter.unusedSimpArgs false
namespace Go.Proofs.YtcfjjckencjjeaaGreat
open Go Go.E
set_option maxRecDepth 100000

/-- How the rounds end: seen so far S, to be looked at N. -/
inductive Rd (w : Walk) : List TLag → List TLag → Bool × Int → Prop
  | far {S N : List TLag} {z : TLag} : z ∈ N → ¬ short w.most z → Rd w S N (false, 0)
  | many {S N : List TLag} : (∀ z ∈ N, short w.most z) → 2048 < card (S ++ N) → Rd w S N (false, 2)
  | done {S N : List TLag} : (∀ z ∈ N, short w.most z) → card (S ++ N) ≤ 2048 → (∀ z ∈ N, z ∈ S) → Rd w S N (true, 0)
  | next {S N S' N' : List TLag} {r : Bool × Int} {z0 : TLag} : (∀ z ∈ N, short w.most z) → card (S ++ N) ≤ 2048 → z0 ∈ N → z0 ∉ S → (∀ z, z ∈ S' ↔ z ∈ S ∨ z ∈ N) → (∀ z, z ∈ N' ↔ ∃ x, x ∈ N ∧ x ∉ S ∧ z ∈ nextOf w.arcs x) → Rd w S' N' r → Rd w S N r
theorem Rd.same {w w2 : Walk} (hm : w.most = w2.most) (hn : ∀ x z, z ∈ nextOf w.arcs x ↔ z ∈ nextOf w2.arcs x) {S N : List TLag} {r : Bool × Int} (h : Rd w S N r) : ∀ {S2 N2 : List TLag} {r2 : Bool × Int}, (∀ z, z ∈ S ↔ z ∈ S2) → (∀ z, z ∈ N ↔ z ∈ N2) → Rd w2 S2 N2 r2 → r = r2 := by
  have hc : ∀ {S N S2 N2 : List TLag}, (∀ z, z ∈ S ↔ z ∈ S2) → (∀ z, z ∈ N ↔ z ∈ N2) → card (S ++ N) = card (S2 ++ N2) := fun h1 h2 => card_congr fun z => by rw [List.mem_append, List.mem_append, h1, h2]
  induction h with
  | @far S N z hz hs =>
    intro S2 N2 r2 e1 e2 h2
    cases h2 with
    | far => rfl
    | many g1 => exact absurd (hm ▸ g1 z ((e2 z).1 hz)) hs
    | done g1 => exact absurd (hm ▸ g1 z ((e2 z).1 hz)) hs
    | next g1 => exact absurd (hm ▸ g1 z ((e2 z).1 hz)) hs
  | @many S N hs hb =>
    intro S2 N2 r2 e1 e2 h2
    have := hc e1 e2
    cases h2 with
    | far g1 g2 => exact absurd (hm ▸ hs _ ((e2 _).2 g1)) g2
    | many => rfl
    | done g1 g2 => omega
    | next g1 g2 => omega
  | @done S N hs hb hi =>
    intro S2 N2 r2 e1 e2 h2
    have := hc e1 e2
    cases h2 with
    | far g1 g2 => exact absurd (hm ▸ hs _ ((e2 _).2 g1)) g2
    | many g1 g2 => omega
    | done => rfl
    | next g1 g2 g3 g4 => exact absurd ((e1 _).1 (hi _ ((e2 _).2 g3))) g4
  | @next S N S' N' r z0 hs hb h0 h1 hS hN hr ih =>
    intro S2 N2 r2 e1 e2 h2
    have := hc e1 e2
    cases h2 with
    | far g1 g2 => exact absurd (hm ▸ hs _ ((e2 _).2 g1)) g2
    | many g1 g2 => omega
    | done g1 g2 g3 => exact absurd ((e1 _).2 (g3 _ ((e2 _).1 h0))) h1
    | next g1 g2 g3 g4 g5 g6 g7 =>
      refine ih (fun z => ?_) (fun z => ?_) g7
      · rw [hS, g5, e1, e2]
      · rw [hN, g6]
        constructor
        · rintro ⟨x, a, b, c⟩; exact ⟨x, (e2 x).1 a, fun h => b ((e1 x).2 h), (hn x z).1 c⟩
        · rintro ⟨x, a, b, c⟩; exact ⟨x, (e2 x).2 a, fun h => b ((e1 x).1 h), (hn x z).2 c⟩

theorem ofL_snoc' (S : List TLag) (x : TLag) : (FM.ofL S).put x () = FM.ofL (S ++ [x]) := (FM.ofL_snoc S x).symm
structure TakAll (most : Int) (L S : List TLag) (s : TwS) (q : TwS × Bool) : Prop where
  far : q.2 = false → q.1.2.2.1 = true ∧ ∃ z ∈ L, ¬ short most z
  sh : q.2 = true → ∀ z ∈ L, short most z
  m : q.2 = true → q.1.1 = FM.ofL (S ++ q.1.2.1)
  fr : q.2 = true → q.1.2.2.1 = s.2.2.1
  row : q.2 = true → ∀ z ∈ q.1.2.1, z ∉ S ∧ (z ∈ s.2.1 ∨ z ∈ L)
  keep : q.2 = true → ∀ z ∈ s.2.1, z ∈ q.1.2.1
  all : q.2 = true → q.1.2.2.2 = false → s.2.2.2 = false ∧ ∀ z ∈ L, z ∈ S ++ q.1.2.1
  many : q.2 = true → q.1.2.2.2 = true → s.2.2.2 = true ∨ 2048 < card (S ++ s.2.1 ++ L)
theorem takL_all {most : Int} {S : List TLag} : ∀ {L : List TLag} {s : TwS}, s.1 = FM.ofL (S ++ s.2.1) → (∀ z ∈ s.2.1, z ∉ S) → TakAll most L S s (takL most L s)
  | [], s, h, hd => ⟨fun h => by simp [takL] at h, fun _ z hz => (by cases hz), fun _ => h, fun _ => rfl, fun _ z hz => ⟨hd z hz, .inl hz⟩, fun _ z hz => hz, fun _ h => ⟨h, fun z hz => (by cases hz)⟩, fun _ h => .inl h⟩
  | y :: L, s, h, hd => by
    by_cases h1 : most < ((y.a.length : Nat) : Int)
    · have e : takR most s y = (1, (s.1, [], true, false)) := by unfold takR; rw [if_pos h1]
      have e2 : takL most (y :: L) s = ((s.1, [], true, false), false) := by simp only [takL, e]; rfl
      rw [e2]
      exact ⟨fun _ => ⟨rfl, y, List.mem_cons_self .., fun hs => by unfold short at hs; omega⟩, fun h => by simp at h, fun h => by simp at h, fun h => by simp at h, fun h => by simp at h, fun h => by simp at h, fun h => by simp at h, fun h => by simp at h⟩
    by_cases h2 : most < ((y.b.length : Nat) : Int)
    · have e : takR most s y = (1, (s.1, [], true, false)) := by unfold takR; rw [if_neg h1, if_pos h2]
      have e2 : takL most (y :: L) s = ((s.1, [], true, false), false) := by simp only [takL, e]; rfl
      rw [e2]
      exact ⟨fun _ => ⟨rfl, y, List.mem_cons_self .., fun hs => by unfold short at hs; omega⟩, fun h => by simp at h, fun h => by simp at h, fun h => by simp at h, fun h => by simp at h, fun h => by simp at h, fun h => by simp at h, fun h => by simp at h⟩
    have hsh : short most y := ⟨by omega, by omega⟩
    have hfar : ∀ {q : TwS × Bool}, (q.2 = false → q.1.2.2.1 = true ∧ ∃ z ∈ L, ¬ short most z) → q.2 = false → q.1.2.2.1 = true ∧ ∃ z ∈ y :: L, ¬ short most z := fun h hq => by
      obtain ⟨a, z, b, c⟩ := h hq; exact ⟨a, z, List.mem_cons_of_mem _ b, c⟩
    by_cases h3 : s.1.has y = true
    · have e : takR most s y = (0, s) := by unfold takR; rw [if_neg h1, if_neg h2, if_pos h3]
      have e2 : takL most (y :: L) s = takL most L s := by simp only [takL, e]; rfl
      rw [e2]
      have ih := takL_all (most := most) (S := S) (L := L) h hd
      have hy : y ∈ S ++ s.2.1 := by rw [h] at h3; exact ofL_has.1 h3
      refine ⟨hfar ih.far, fun hq z hz => ?_, ih.m, ih.fr, fun hq z hz => ?_, ih.keep, fun hq hm => ?_, fun hq hm => ?_⟩
      · rcases List.mem_cons.1 hz with rfl | hz
        · exact hsh
        · exact ih.sh hq z hz
      · obtain ⟨a, b⟩ := ih.row hq z hz; exact ⟨a, b.imp id (List.mem_cons_of_mem _)⟩
      · obtain ⟨a, b⟩ := ih.all hq hm
        refine ⟨a, fun z hz => ?_⟩
        rcases List.mem_cons.1 hz with rfl | hz
        · rcases List.mem_append.1 hy with hy | hy
          · exact List.mem_append_left _ hy
          · exact List.mem_append_right _ (ih.keep hq _ hy)
        · exact b z hz
      · refine (ih.many hq hm).imp id fun h => Nat.lt_of_lt_of_le h (card_mono fun z hz => ?_)
        rcases List.mem_append.1 hz with hz | hz
        · exact List.mem_append_left _ hz
        · exact List.mem_append_right _ (List.mem_cons_of_mem _ hz)
    · by_cases h4 : 2048 ≤ ((s.1.n : Nat) : Int)
      · have e : takR most s y = (0, (s.1, s.2.1, s.2.2.1, true)) := by unfold takR; rw [if_neg h1, if_neg h2, if_neg h3, if_pos h4]
        have e2 : takL most (y :: L) s = takL most L (s.1, s.2.1, s.2.2.1, true) := by simp only [takL, e]; rfl
        rw [e2]
        have ih := takL_all (most := most) (S := S) (L := L) (s := (s.1, s.2.1, s.2.2.1, true)) h hd
        refine ⟨hfar ih.far, fun hq z hz => ?_, ih.m, ih.fr, fun hq z hz => ?_, ih.keep, fun hq hm => ?_, fun hq hm => .inr ?_⟩
        · rcases List.mem_cons.1 hz with rfl | hz
          · exact hsh
          · exact ih.sh hq z hz
        · obtain ⟨a, b⟩ := ih.row hq z hz; exact ⟨a, b.imp id (List.mem_cons_of_mem _)⟩
        · have := (ih.all hq hm).1; cases this
        · have h5 : ((FM.ofL (S ++ s.2.1)).put y ()).n = (FM.ofL (S ++ s.2.1)).n + 1 := put_n (by rw [← h]; simpa using h3)
          have h6 : card (S ++ s.2.1 ++ [y]) ≤ card (S ++ s.2.1 ++ y :: L) := card_mono fun z hz => by
            rcases List.mem_append.1 hz with hz | hz
            · exact List.mem_append_left _ hz
            · exact List.mem_append_right _ (by rw [List.mem_singleton.1 hz]; exact List.mem_cons_self ..)
          rw [ofL_snoc'] at h5
          have h7 : card (S ++ s.2.1 ++ [y]) = s.1.n + 1 := by rw [h]; exact h5
          omega
      · have e : takR most s y = (0, (s.1.put y (), s.2.1 ++ [y], s.2.2.1, s.2.2.2)) := by unfold takR; rw [if_neg h1, if_neg h2, if_neg h3, if_neg h4]
        have e2 : takL most (y :: L) s = takL most L (s.1.put y (), s.2.1 ++ [y], s.2.2.1, s.2.2.2) := by simp only [takL, e]; rfl
        rw [e2]
        have hy : y ∉ S := fun hy => h3 (by rw [h]; exact ofL_has.2 (List.mem_append_left _ hy))
        have ih := takL_all (most := most) (S := S) (L := L) (s := (s.1.put y (), s.2.1 ++ [y], s.2.2.1, s.2.2.2)) (by
          show s.1.put y () = FM.ofL (S ++ (s.2.1 ++ [y]))
          rw [h, ofL_snoc', List.append_assoc]) (fun z hz => by
          rcases List.mem_append.1 hz with hz | hz
          · exact hd z hz
          · rw [List.mem_singleton.1 hz]; exact hy)
        refine ⟨hfar ih.far, fun hq z hz => ?_, ih.m, ih.fr, fun hq z hz => ?_, fun hq z hz => ih.keep hq z (List.mem_append_left _ hz), fun hq hm => ?_, fun hq hm => ?_⟩
        · rcases List.mem_cons.1 hz with rfl | hz
          · exact hsh
          · exact ih.sh hq z hz
        · obtain ⟨a, b⟩ := ih.row hq z hz
          refine ⟨a, ?_⟩
          rcases b with b | b
          · rcases List.mem_append.1 b with b | b
            · exact .inl b
            · rw [List.mem_singleton.1 b]; exact .inr (List.mem_cons_self ..)
          · exact .inr (List.mem_cons_of_mem _ b)
        · obtain ⟨a, b⟩ := ih.all hq hm
          refine ⟨a, fun z hz => ?_⟩
          rcases List.mem_cons.1 hz with rfl | hz
          · exact List.mem_append_right _ (ih.keep hq _ (List.mem_append_right _ (List.mem_singleton.2 rfl)))
          · exact b z hz
        · refine (ih.many hq hm).imp id fun h => ?_
          have : (S ++ (s.2.1 ++ [y])) ++ L = S ++ s.2.1 ++ y :: L := by simp
          rw [← this]; exact h
/-- The program's rounds. -/
theorem rounds_rd (v5 : Fst × Int) (w : Walk) (hw : Laid w) (hv : w.t = v5.1) : ∀ (d : Nat) (S N : List TLag), 2048 - card S ≤ d → card S ≤ 2048 → (∀ m, m = FM.ofL S → ∀ l ∈ (takeD w.most N m).1, LagOk w.arcs.length l) →
    ∃ r, iter (fun q : TwS => twin_Twin_b2 v5 w.arcs w.most q.1 q.2.1 q.2.2.1 q.2.2.2) ((takeD w.most N (FM.ofL S)).2.2.2, (takeD w.most N (FM.ofL S)).1, (takeD w.most N (FM.ofL S)).2.1, (takeD w.most N (FM.ofL S)).2.2.1) = some r ∧ Rd w S N r := by
  have hstep : ∀ (m : FM TLag Unit) (row : List TLag), m.n ≤ 2048 → (∀ l ∈ row, LagOk w.arcs.length l) → row ≠ [] → twin_Twin_b2 v5 w.arcs w.most m row false false = nxt ((takeD w.most (nextL w.arcs row) m).2.2.2, (takeD w.most (nextL w.arcs row) m).1, (takeD w.most (nextL w.arcs row) m).2.1, (takeD w.most (nextL w.arcs row) m).2.2.1) := by
    intro m row hm hr hne
    unfold twin_Twin_b2
    rw [iteO_false, iteO_false, iteO_df (by
      cases row with
      | nil => exact absurd rfl hne
      | cons a l => simp only [List.length_cons]; omega)]
    unfold twin_walk_next
    rw [bnd_mk]
    have e : (⟨v5.1, w.arcs, w.most⟩ : Walk) = w := by rw [← hv]
    dsimp only
    show bnd (takeNext (⟨v5.1, w.arcs, w.most⟩ : Walk) m row (⟨v5.1, w.arcs, w.most⟩ : Walk)) _ = _
    rw [e, bnd_some (takeNext_eq w m row hw.arcs hr hm)]
  intro d
  induction d with
  | zero =>
    intro S N hd hc hl
    have hk := takL_all (most := w.most) (S := S) (L := N) (s := (FM.ofL S, [], false, false)) (by rw [List.append_nil]) (fun z hz => by cases hz)
    have hv2 := takL_inv (most := w.most) (L := N) (inv0 (m := FM.ofL S) hc)
    unfold takeD
    dsimp only
    cases hq : (takL w.most N (FM.ofL S, [], false, false)).2 with
    | false =>
      obtain ⟨a, z, b, c⟩ := hk.far hq
      rw [if_neg (by simp), a]
      exact ⟨_, iter_done rfl, .far b c⟩
    | true =>
      rw [if_pos rfl]
      have hsh := hk.sh hq
      cases hm : (takL w.most N (FM.ofL S, [], false, false)).1.2.2.2 with
      | true =>
        refine ⟨_, iter_done rfl, .many hsh ?_⟩
        rcases hk.many hq hm with h | h
        · simp at h
        · simpa using h
      | false =>
        have hall := (hk.all hq hm).2
        have hrow : (takL w.most N (FM.ofL S, [], false, false)).1.2.1 = [] := by
          have h1 := hk.m hq
          have h2 := hv2.n
          rw [h1] at h2
          refine Decidable.byContradiction fun hne => ?_
          obtain ⟨x, hx⟩ := List.exists_mem_of_ne_nil _ hne
          have hxS := (hk.row hq x hx).1
          have h3 : ((FM.ofL S).put x ()).n = (FM.ofL S).n + 1 := put_n (by
            cases hh : (FM.ofL S).has x with
            | true => exact absurd (ofL_has.1 hh) hxS
            | false => rfl)
          rw [ofL_snoc'] at h3
          have h4 : card (S ++ [x]) ≤ card (S ++ (takL w.most N (FM.ofL S, [], false, false)).1.2.1) := card_mono fun z hz => by
            rcases List.mem_append.1 hz with hz | hz
            · exact List.mem_append_left _ hz
            · rw [List.mem_singleton.1 hz]; exact List.mem_append_right _ hx
          have h5 : card (S ++ [x]) = card S + 1 := h3
          have h6 : card (S ++ (takL w.most N (FM.ofL S, [], false, false)).1.2.1) ≤ 2048 := h2
          omega
        rw [hrow]
        rw [hrow, List.append_nil] at hall
        refine ⟨_, iter_done rfl, .done hsh ?_ hall⟩
        rw [card_congr (T := S) (fun z => by rw [List.mem_append]; exact ⟨fun h => h.elim id (hall z), .inl⟩)]; exact hc
  | succ d ih =>
    intro S N hd hc hl
    have hk := takL_all (most := w.most) (S := S) (L := N) (s := (FM.ofL S, [], false, false)) (by rw [List.append_nil]) (fun z hz => by cases hz)
    have hv2 := takL_inv (most := w.most) (L := N) (inv0 (m := FM.ofL S) hc)
    have hl := hl _ rfl
    unfold takeD at hl ⊢
    dsimp only at hl ⊢
    cases hq : (takL w.most N (FM.ofL S, [], false, false)).2 with
    | false =>
      obtain ⟨a, z, b, c⟩ := hk.far hq
      rw [if_neg (by simp), a]
      exact ⟨_, iter_done rfl, .far b c⟩
    | true =>
      rw [if_pos rfl]
      have hsh := hk.sh hq
      cases hm : (takL w.most N (FM.ofL S, [], false, false)).1.2.2.2 with
      | true =>
        refine ⟨_, iter_done rfl, .many hsh ?_⟩
        rcases hk.many hq hm with h | h
        · simp at h
        · simpa using h
      | false =>
        have hall := (hk.all hq hm).2
        have h1 := hk.m hq
        have h2 := hv2.n
        have hrow := hk.row hq
        generalize (takL w.most N (FM.ofL S, [], false, false)).1.2.1 = row at hall h1 hl hrow ⊢
        rw [h1] at h2 ⊢
        have hc2 : card (S ++ row) ≤ 2048 := h2
        have hsame : ∀ z, z ∈ S ++ row ↔ z ∈ S ∨ z ∈ N := fun z => by
          constructor
          · intro h
            rcases List.mem_append.1 h with h | h
            · exact .inl h
            · rcases (hrow z h).2 with h | h
              · cases h
              · exact .inr h
          · rintro (h | h)
            · exact List.mem_append_left _ h
            · exact hall z h
        have hcN : card (S ++ N) ≤ 2048 := by rw [card_congr (T := S ++ row) (fun z => by rw [hsame, List.mem_append])]; exact hc2
        by_cases hnil : row = []
        · subst hnil
          rw [List.append_nil] at hall
          exact ⟨_, iter_done rfl, .done hsh hcN hall⟩
        · obtain ⟨x, hx⟩ := List.exists_mem_of_ne_nil _ hnil
          have hxS := (hrow x hx).1
          have h3 : ((FM.ofL S).put x ()).n = (FM.ofL S).n + 1 := put_n (by
            cases hh : (FM.ofL S).has x with
            | true => exact absurd (ofL_has.1 hh) hxS
            | false => rfl)
          rw [ofL_snoc'] at h3
          have h4 : card (S ++ [x]) ≤ card (S ++ row) := card_mono fun z hz => by
            rcases List.mem_append.1 hz with hz | hz
            · exact List.mem_append_left _ hz
            · rw [List.mem_singleton.1 hz]; exact List.mem_append_right _ hx
          have h5 : card (S ++ [x]) = card S + 1 := h3
          obtain ⟨r, hr, ho⟩ := ih (S ++ row) (nextL w.arcs row) (by omega) hc2 (fun m _ => next_ok hw row m)
          refine ⟨r, iter_next (hstep (FM.ofL (S ++ row)) row hc2 hl hnil) hr, ?_⟩
          have hxN : x ∈ N := by
            rcases (hrow x hx).2 with h | h
            · cases h
            · exact h
          refine .next hsh hcN hxN hxS hsame (fun z => ?_) ho
          rw [nextL, List.mem_flatMap]
          constructor
          · rintro ⟨y, hy, hz⟩
            refine ⟨y, ?_, (hrow y hy).1, hz⟩
            rcases (hrow y hy).2 with h | h
            · cases h
            · exact h
          · rintro ⟨y, hy, hyS, hz⟩
            refine ⟨y, ?_, hz⟩
            rcases List.mem_append.1 (hall y hy) with h | h
            · exact absurd h hyS
            · exact h
/-- Twin, of what is trimmed and small. -/
theorem twin_rd {t : Fst} (h : (ttrimD t).2 = 0) : ∃ r, twin_Twin t = some r ∧ ∃ l, Grp Arc.frm id (trimD t).states.toNat l (trimD t).arcs ∧ Rd ⟨trimD t, l, boundD (trimD t)⟩ [] (firstL (trimD t)) r := by
  obtain ⟨ht, hs, he, -⟩ := ttrim_ok h
  unfold twin_Twin
  rw [bnd_some (ttrim_eq t), he]
  rw [he] at ht hs
  dsimp only at ht hs
  have h0 := ht.st0
  have hN := ht.arcsN
  dsimp only
  rw [iteO_df (by simp), grd_mk ⟨h0, by omega⟩, bnd_some (bound_eq ht hs)]
  unfold twin_Twin_j1
  exact iter_for (step := fun q : List (List Arc) × Nat => twin_Twin_b1 (trimD t, 0) (boundD (trimD t)) q.1 q.2) (fun (s : List (List Arc)) k => (s, k)) (trimD t).arcs Arc.zero
    (fun pre s => Grp Arc.frm id (trimD t).states.toNat s pre) (fun r => ∃ l, Grp Arc.frm id (trimD t).states.toNat l (trimD t).arcs ∧ Rd ⟨trimD t, l, boundD (trimD t)⟩ [] (firstL (trimD t)) r)
    (fun k s hk a1 => by
      obtain ⟨b1, -⟩ := ht.arcs _ (mem_at Arc.zero hk)
      have l1 := a1.len
      have r1 := grp_len a1 (i := (nth (trimD t).arcs k Arc.zero).frm.toNat) (by omega)
      have r3 := take_len_le (trimD t).arcs k
      refine .inl ⟨s.set (nth (trimD t).arcs k Arc.zero).frm.toNat (nth s (nth (trimD t).arcs k Arc.zero).frm.toNat [] ++ [nth (trimD t).arcs k Arc.zero]), ?_, a1.snoc b1.1 (by omega)⟩
      show twin_Twin_b1 (trimD t, 0) _ s k = _
      unfold twin_Twin_b1 twin_Twin_j2
      dsimp only
      rw [iteO_dt (by omega), grd_mk ⟨b1.1, by omega⟩, grd_mk (by simp only [List.length_singleton]; omega), grd_mk ⟨b1.1, by omega⟩]
      rfl)
    (fun s hI => by
      have hw := arcs_laid ht hI hs
      obtain ⟨r, hr, ho⟩ := rounds_rd (trimD t, 0) ⟨trimD t, s, boundD (trimD t)⟩ hw rfl 2048 [] (firstL (trimD t)) (by omega) (by decide) (fun m hm l hl => by
        have : m = FM.emp := hm
        subst this; exact first_ok hw l hl)
      refine ⟨r, ?_, s, hI, ho⟩
      show twin_Twin_b1 (trimD t, 0) _ s (trimD t).arcs.length = _
      unfold twin_Twin_b1
      dsimp only
      rw [iteO_df (by omega)]
      unfold twin_walk_first
      rw [bnd_mk]
      dsimp only
      have := takeFirst_eq ⟨trimD t, s, boundD (trimD t)⟩ FM.emp (fun x hx => (hw.starts x hx).2) (Nat.zero_le _)
      rw [bnd_some this]
      dsimp only
      rw [show (FM.emp : FM TLag Unit) = FM.ofL [] from rfl, hr]; rfl)
    (s0 := List.replicate (trimD t).states.toNat []) (Grp.nil ..)
end Go.Proofs.YtcfjjckencjjeaaGreat
end

/- SetM -/
section
/- A set made of marks: the contract of the reference's Make. -/
set_option linter.unusedVariables false
set_option linter.unusedSimpArgs false
namespace Go.Proofs.YtcfjjckencjjeaaGreat
open Go Go.E
set_option maxRecDepth 100000

/-- The sums so far: all bytes below b. -/
def setTo (f : Nat → Bool) (b : Nat) : BSet := BSet.make fun i => f i && decide (i < b)
theorem setTo_zero (f : Nat → Bool) : setTo f 0 = BSet.zero := by
  rw [show setTo f 0 = BSet.make (fun _ => false) from by unfold setTo; congr 1; funext i; simp]; exact BSet.make_zero
theorem setTo_all (f : Nat → Bool) : setTo f 256 = BSet.make f := BSet.make_congr fun i hi => by simp [hi]
theorem setTo_no {f : Nat → Bool} {b : Nat} (h : f b = false) : setTo f (b + 1) = setTo f b := by
  unfold setTo; congr 1; funext i
  by_cases hi : i = b
  · subst hi; simp [h]
  · have : decide (i < b + 1) = decide (i < b) := by rw [decide_eq_decide]; omega
    rw [this]
theorem setTo_bit (f : Nat → Bool) {b i j : Nat} (hi : i < 4) : ((setTo f b).word i).testBit j = (decide (j < 64) && (f (64 * i + j) && decide (64 * i + j < b))) := by
  unfold setTo; rw [BSet.make_word _ hi, sumTo_bit]
/-- What was there is less than the byte's bit. -/
theorem setTo_lt (f : Nat → Bool) {b : Nat} (hb : b < 256) : (setTo f b).word (b / 64) < 2 ^ (b % 64) := by
  apply Nat.lt_pow_two_of_testBit
  intro j hj
  rw [setTo_bit f (by omega)]
  have : ¬ 64 * (b / 64) + j < b := by omega
  simp [this]
theorem setTo_yes {f : Nat → Bool} {b : Nat} (hb : b < 256) (h : f b = true) : (setTo f b).setWord (b / 64) ((setTo f b).word (b / 64) + 2 ^ (b % 64)) = setTo f (b + 1) := by
  refine BSet.ext_word fun i hi => ?_
  have hlt := setTo_lt f hb
  have hw : (setTo f b).word (b / 64) + 2 ^ (b % 64) < 18446744073709551616 := by
    have h2 : 2 ^ (b % 64) ≤ 2 ^ 63 := Nat.pow_le_pow_right (by omega) (by omega)
    have h3 : (2 : Nat) ^ 63 = 9223372036854775808 := by decide
    omega
  rw [BSet.word_set _ (by omega) _ _ hw hi]
  split
  · subst_vars
    refine Nat.eq_of_testBit_eq fun j => ?_
    rw [setTo_bit f (by omega), Nat.add_comm]
    rcases Nat.lt_trichotomy j (b % 64) with hj | hj | hj
    · rw [Nat.testBit_two_pow_add_gt hj, setTo_bit f (by omega)]
      have h1 : 64 * (b / 64) + j < b := by omega
      have h2 : 64 * (b / 64) + j < b + 1 := by omega
      simp [h1, h2]
    · subst hj
      rw [Nat.testBit_two_pow_add_eq, setTo_bit f (by omega)]
      have h1 : 64 * (b / 64) + b % 64 = b := by omega
      have h2 : b % 64 < 64 := by omega
      rw [h1]; simp [h, h2]
    · rw [Nat.testBit_lt_two_pow (Nat.lt_of_lt_of_le (show 2 ^ (b % 64) + (setTo f b).word (b / 64) < 2 ^ (b % 64 + 1) from by rw [Nat.pow_succ]; omega) (Nat.pow_le_pow_right (by omega) hj))]
      by_cases hj2 : j < 64
      · have : ¬ 64 * (b / 64) + j < b + 1 := by omega
        simp [this]
      · simp [hj2]
  · refine Nat.eq_of_testBit_eq fun j => ?_
    rw [setTo_bit f hi, setTo_bit f hi]
    by_cases hj : j < 64
    · have : decide (64 * i + j < b) = decide (64 * i + j < b + 1) := by rw [decide_eq_decide]; omega
      rw [this]
    · simp [hj]

theorem make_con (σ : Store) (a : Option Addr) (c : Nat) (l : List Bool) (h256 : l.length = 256) :
    Con Tryz.prog 49 #[.slice a 256 c] σ [Res.rowS 4 1 encB (.slice a 256 c) l] (PureP (setV (BSet.make fun i => nth l i false)) σ) := by
  refine Con.mk (n := 25) Tryz.func49 rfl rfl rfl (fun w0 => ?_)
  refine TC.seq ?_
  refine TC.region ?_
  refine TL.op rfl (OpOk.alloc rfl ze36 rfl rfl (fun b1 => ?_))
  refine TL.nil ?_
  refine S.n ?_
  refine TC.seq ?_
  refine TC.region ?_
  refine TL.op rfl (OpOk.alloc rfl ze36 rfl rfl (fun b3 => ?_))
  refine TL.nil ?_
  refine S.n ?_
  refine TC.seq ?_
  refine TC.seq ?_
  refine TC.region ?_
  refine TL.v rfl (OpVal.moveI (.inr rfl) rfl) rfl rfl ?_
  refine TL.nil ?_
  refine S.n ?_
  refine TC.block ?_
  refine TC.loopF (α := Nat) [4, 5, 6, 7, 8, 9, 10, 11, 12, 13, 14, 15, 16, 17, 18, 19, 20, 21, 22, 23] (fun k => [(4, .int .i64 (k : Nat))]) (fun k => [Res.cells b3 (setA (setTo (fun i => nth l i false) k)) 36, Res.cells b1 (setA BSet.zero) 36, Res.rowS 4 1 encB (.slice a 256 c) l]) (fun _ => _) (fun k => k ≤ 256) (fun k => 256 - k) (0) (by first | exact True.intro | omega | (dsimp only; omega) | (simp; done) | (simp; omega)) (by repeat (first | exact trivial | refine ⟨rfl, ?_⟩)) (by rw [setTo_zero]; rfl) (by rfl) (fun g1 j1 hg1 => ?_)
  have hp := two_pow_lt (Nat.mod_lt g1 (show 0 < 64 by omega))
  have hw : g1 < 256 → (setTo (fun i => nth l i false) g1).word (g1 / 64) + 2 ^ (g1 % 64) < 18446744073709551616 := fun h => by
    have h1 := setTo_lt (fun i => nth l i false) h
    have h2 : 2 ^ (g1 % 64) ≤ 2 ^ 63 := Nat.pow_le_pow_right (by omega) (by omega)
    have h3 : (2 : Nat) ^ 63 = 9223372036854775808 := by decide
    omega
  refine TC.seq ?_
  refine TC.seq ?_
  refine TC.region ?_
  refine TL.v rfl (OpVal.moveI (.inl rfl) rfl) rfl rfl ?_
  refine TL.v rfl (OpVal.lss rfl rfl rfl) rfl rfl ?_
  refine TL.nil ?_
  refine S.n ?_
  refine TC.condD rfl (fun h5 => ?_) (fun h5 => ?_)
  · try simp only [decide_eq_true_eq, decide_eq_false_iff_not, Bool.not_eq_true', Bool.not_eq_false', Bool.not_eq_eq_eq_not, Bool.not_true, Bool.not_false, Int.not_lt, Int.not_le, Decidable.not_not] at h5
    refine TC.skip ?_
    refine S.n ?_
    refine TC.seq ?_
    refine TC.block ?_
    refine TC.seq ?_
    refine TC.region ?_
    refine TL.v rfl (OpVal.moveSl (.inl rfl) rfl) rfl rfl ?_
    refine TL.v rfl (OpVal.moveI (.inl rfl) rfl) rfl rfl ?_
    refine TL.isSl (i := 2) rfl (fun hs6 _ _ => ?_)
    refine TL.v rfl (OpVal.indexN rfl Tryz.underlying66 sz4 rfl rfl (by first | assumption | exact (RS.rv (by assumption)).sl) (by omega)) rfl rfl ?_
    refine TL.v rfl (OpVal.loadO1 false rfl ag4 rfl (q := 2) rfl encB_len (by omega) rfl) rfl rfl ?_
    refine TL.nil ?_
    refine S.n ?_
    refine TC.cond rfl (fun h7 => ?_) (fun h7 => ?_)
    · try simp only [decide_eq_true_eq, decide_eq_false_iff_not, Bool.not_eq_true', Bool.not_eq_false', Bool.not_eq_eq_eq_not, Bool.not_true, Bool.not_false, Int.not_lt, Int.not_le, Decidable.not_not] at h7
      refine TC.draw [11] (by kernel_rfl) ?_
      refine TA.takeP 0 rfl (by kernel_rfl) (by kernel_rfl) (by kernel_rfl) rfl (OpVal.moveI (.inl rfl) rfl) rfl rfl ?_
      refine TA.takeP 1 rfl (by kernel_rfl) (by kernel_rfl) (by kernel_rfl) rfl (OpVal.quoN (b := 64) rfl rfl rfl (by omega) (by simp only [kmax]; omega)) rfl rfl ?_
      refine TA.takeP 2 rfl (by kernel_rfl) (by kernel_rfl) (by kernel_rfl) rfl (OpVal.moveI (.inl rfl) rfl) rfl rfl ?_
      refine TA.takeP 3 rfl (by kernel_rfl) (by kernel_rfl) (by kernel_rfl) rfl (OpVal.quoN (b := 64) rfl rfl rfl (by omega) (by simp only [kmax]; omega)) rfl rfl ?_
      refine TA.takeP 4 rfl (by kernel_rfl) (by kernel_rfl) (by kernel_rfl) rfl (OpVal.indexArrN rfl Tryz.underlying36 sz34 rfl rfl (by omega)) rfl rfl ?_
      refine TA.take 5 rfl (by kernel_rfl) (by kernel_rfl) (by kernel_rfl) (by kernel_rfl) rfl (OpVal.loadWord rfl ag34 rfl (j := 0) rfl (by omega)) rfl rfl ?_
      refine TA.takeP 6 rfl (by kernel_rfl) (by kernel_rfl) (by kernel_rfl) rfl (OpVal.moveI (.inl rfl) rfl) rfl rfl ?_
      refine TA.takeP 7 rfl (by kernel_rfl) (by kernel_rfl) (by kernel_rfl) rfl (OpVal.remN (b := 64) rfl rfl rfl (by omega)) rfl rfl ?_
      refine TA.act 8 (by kernel_rfl) rfl rfl (OpOk.callP (power_con _ (g1 % 64) (by omega)) rfl rfl pf50 rfl rfl rfl ⟨(fun w h => sees_of (by first | exact Store.le.refl _ | assumption) (fun r hr => hr) w h), ?_⟩)
      refine TA.takeP 9 rfl (by kernel_rfl) (by kernel_rfl) (by kernel_rfl) rfl (OpVal.addN rfl rfl rfl (by simp only [kmax]; omega)) rfl rfl ?_
      refine TA.takeP 10 rfl (by kernel_rfl) (by kernel_rfl) (by kernel_rfl) rfl (OpVal.indexArrN rfl Tryz.underlying36 sz34 rfl rfl (by omega)) rfl rfl ?_
      refine TA.last 11 (by kernel_rfl) rfl rfl rfl (OpOk.storeWord rfl sz34 rfl rfl rfl (by omega) (hw (by omega)) ?_)
      refine TZ.done (by kernel_rfl) ?_
      refine B.n ?_
      refine S.n ?_
      refine TC.region ?_
      refine TL.v rfl (OpVal.moveI (.inl rfl) rfl) rfl rfl ?_
      refine TL.v rfl (OpVal.succ rfl rfl rfl (by omega)) rfl rfl ?_
      refine TL.v rfl (OpVal.moveI (.inr rfl) rfl) rfl rfl ?_
      refine TL.nil ?_
      refine S.n ?_
      -- leaf 1 next [h5: True; h7: True] H=['q4', 'q2', 'r0']
      refine ⟨by repeat (first | exact Agr.mask | refine Agr.upd rfl ?_ | refine Agr.maskIn rfl ?_), g1 + 1, ?_, ?_, ?_, ?_, ?_⟩
      · omega
      · first | exact True.intro | omega | (dsimp only; omega) | (simp; done) | (simp; omega)
      · repeat (first | exact trivial | refine ⟨rfl, ?_⟩)
      · rw [setTo_yes (by omega) h7]
      · rfl
    · try simp only [decide_eq_true_eq, decide_eq_false_iff_not, Bool.not_eq_true', Bool.not_eq_false', Bool.not_eq_eq_eq_not, Bool.not_true, Bool.not_false, Int.not_lt, Int.not_le, Decidable.not_not] at h7
      refine TC.skip ?_
      refine B.n ?_
      refine S.n ?_
      refine TC.region ?_
      refine TL.v rfl (OpVal.moveI (.inl rfl) rfl) rfl rfl ?_
      refine TL.v rfl (OpVal.succ rfl rfl rfl (by omega)) rfl rfl ?_
      refine TL.v rfl (OpVal.moveI (.inr rfl) rfl) rfl rfl ?_
      refine TL.nil ?_
      refine S.n ?_
      -- leaf 2 next [h5: True; h7: False] H=['q4', 'q2', 'r0']
      refine ⟨by repeat (first | exact Agr.mask | refine Agr.upd rfl ?_ | refine Agr.maskIn rfl ?_), g1 + 1, ?_, ?_, ?_, ?_, ?_⟩
      · omega
      · first | exact True.intro | omega | (dsimp only; omega) | (simp; done) | (simp; omega)
      · repeat (first | exact trivial | refine ⟨rfl, ?_⟩)
      · rw [setTo_no h7]
      · rfl
  · try simp only [decide_eq_true_eq, decide_eq_false_iff_not, Bool.not_eq_true', Bool.not_eq_false', Bool.not_eq_eq_eq_not, Bool.not_true, Bool.not_false, Int.not_lt, Int.not_le, Decidable.not_not] at h5
    refine TC.exit ?_
    refine S.x ?_
    refine S.x ?_
    refine TC.exitHere ?_
    refine S.n ?_
    refine TC.seq ?_
    refine TC.region ?_
    refine TL.v rfl (OpVal.loadAll rfl ag36 sz36 rfl (i := 0) rfl rfl) rfl rfl ?_
    refine TL.front 1 rfl rfl ?_
    refine TL.op rfl (OpOk.storeAll rfl sz36 rfl rfl rfl rfl rfl rfl ?_)
    refine TL.nil ?_
    refine S.n ?_
    refine TC.ret ?_
    -- leaf 3 ret [h5: False] H=['q2', 'q4', 'r0']
    obtain rfl : g1 = 256 := by omega
    rw [setTo_all]
    exact retCellP 0 rfl ag36 sz36 rfl rfl rfl rfl

end Go.Proofs.YtcfjjckencjjeaaGreat
end

/- T2 -/
section
/- Decompiled: the reference's lags. -/
set_option linter.unusedVariables false
set_option linter.unusedSimpArgs false
namespace Go.Proofs.YtcfjjckencjjeaaGreat
open Go Go.E Go.E.OpVal Go.E.OpOk Go.Proofs.Tryz
set_option maxRecDepth 100000
private theorem ag22 : Go.E.aggOf Tryz.prog 22 = some false := by kernel_rfl
private theorem ag23 : Go.E.aggOf Tryz.prog 23 = some false := by kernel_rfl
private theorem ag3 : Go.E.aggOf Tryz.prog 3 = some false := by kernel_rfl
private theorem ag38 : Go.E.aggOf Tryz.prog 38 = some true := by kernel_rfl
private theorem ag60 : Go.E.aggOf Tryz.prog 60 = some true := by kernel_rfl
private theorem ag9 : Go.E.aggOf Tryz.prog 9 = some false := by kernel_rfl
private theorem by4 : Go.E.byOf Tryz.prog 4 = some 1 := by kernel_rfl
private theorem by60 : Go.E.byOf Tryz.prog 60 = some 48 := by kernel_rfl
private theorem fo25_1 : Go.E.foOf Tryz.prog 25 1 = some 1 := by kernel_rfl
private theorem fo25_3 : Go.E.foOf Tryz.prog 25 3 = some 3 := by kernel_rfl
private theorem fo38_0 : Go.E.foOf Tryz.prog 38 0 = some 0 := by kernel_rfl
private theorem fo38_1 : Go.E.foOf Tryz.prog 38 1 = some 1 := by kernel_rfl
private theorem fo38_2 : Go.E.foOf Tryz.prog 38 2 = some 2 := by kernel_rfl
private theorem fo38_3 : Go.E.foOf Tryz.prog 38 3 = some 6 := by kernel_rfl
private theorem fo38_4 : Go.E.foOf Tryz.prog 38 4 = some 7 := by kernel_rfl
private theorem fo43_0 : Go.E.foOf Tryz.prog 43 0 = some 0 := by kernel_rfl
private theorem fo43_1 : Go.E.foOf Tryz.prog 43 1 = some 1 := by kernel_rfl
private theorem fo60_0 : Go.E.foOf Tryz.prog 60 0 = some 0 := by kernel_rfl
private theorem fo60_1 : Go.E.foOf Tryz.prog 60 1 = some 1 := by kernel_rfl
private theorem fo60_2 : Go.E.foOf Tryz.prog 60 2 = some 2 := by kernel_rfl
private theorem fo60_3 : Go.E.foOf Tryz.prog 60 3 = some 3 := by kernel_rfl
private theorem pf22 : Go.E.plainF Tryz.prog 22 = true := by kernel_rfl
private theorem pf34 : Go.E.plainF Tryz.prog 34 = true := by kernel_rfl
private theorem pf35 : Go.E.plainF Tryz.prog 35 = true := by kernel_rfl
private theorem pf36 : Go.E.plainF Tryz.prog 36 = true := by kernel_rfl
private theorem pf48 : Go.E.plainF Tryz.prog 48 = true := by kernel_rfl
private theorem pf49 : Go.E.plainF Tryz.prog 49 = true := by kernel_rfl
private theorem pf61 : Go.E.plainF Tryz.prog 61 = true := by kernel_rfl
private theorem pf74 : Go.E.plainF Tryz.prog 74 = true := by kernel_rfl
private theorem pl60 : Go.E.plOf Tryz.prog 60 = some #[(0, 1), (1, 1), (2, 1), (3, 1)] := by kernel_rfl
private theorem sz38 : Go.E.szOf Tryz.prog 38 = some 8 := by kernel_rfl
private theorem sz43 : Go.E.szOf Tryz.prog 43 = some 2 := by kernel_rfl
private theorem sz60 : Go.E.szOf Tryz.prog 60 = some 4 := by kernel_rfl
private theorem sz9 : Go.E.szOf Tryz.prog 9 = some 1 := by kernel_rfl
private theorem ze38 : Go.E.zeroOf Tryz.prog 38 = some (.agg #[.int .i64 0, .int .i64 0, .int .u64 0, .int .u64 0, .int .u64 0, .int .u64 0, .string ByteArray.empty, .bool false]) := by kernel_rfl
private theorem ze4 : Go.E.zeroOf Tryz.prog 4 = some (.bool false) := by kernel_rfl
private theorem ze60 : Go.E.zeroOf Tryz.prog 60 = some (.agg #[.int .i64 0, .int .i64 0, .string ByteArray.empty, .string ByteArray.empty]) := by kernel_rfl
private theorem ze9 : Go.E.zeroOf Tryz.prog 9 = some (.string ByteArray.empty) := by kernel_rfl
theorem make_conL (σ : Store) (a : Option Addr) (c : Nat) (l : List Bool) (h256 : l.length = 256) :
  Con Tryz.prog 49 #[.slice a l.length c] σ [Res.rowS 4 1 encB (.slice a l.length c) l] (PureP (setV (BSet.make fun i => nth l i false)) σ) := by
 rw [h256]; exact make_con σ a c l h256
theorem make_conN {σ : Store} {a : Option Addr} {c N : Nat} {l : List Bool} (hn : l.length = N) (h256 : N = 256) :
  Con Tryz.prog 49 #[.slice a N c] σ [Res.rowS 4 1 encB (.slice a N c) l] (PureP (setV (BSet.make fun i => nth l i false)) σ) := by
 subst hn; exact make_conL σ a c l h256

noncomputable def whittleref01_By_j1 (k118 : Nat) (l121 : List Bool) : Option (((List Bool) × Nat) ⊕ (BSet)) :=
 nxt (l121, (k118 + 1))
noncomputable def whittleref01_By_b1 (x2 : Int) (x0 : BSet) (x1 : BSet) (l116 : List Bool) (k118 : Nat) : Option (((List Bool) × Nat) ⊕ (BSet)) :=
 iteO (decide (((k118 : Nat) : Int) < 256)) (grd (k118 < 256) (grd (k118 < 256) (iteO (decide (x2 = 0)) (iteO (x0.has k118) (iteO (x1.has k118) (grd (k118 < l116.length) (whittleref01_By_j1 k118 (l116.set k118 true))) (iteO (decide (x2 = 1)) (iteO (x0.has k118) (grd (k118 < l116.length) (whittleref01_By_j1 k118 (l116.set k118 true))) (iteO (x1.has k118) (grd (k118 < l116.length) (whittleref01_By_j1 k118 (l116.set k118 true))) (iteO (decide (x2 = 2)) (iteO (x0.has k118) (iteO (!(x1.has k118)) (grd (k118 < l116.length) (whittleref01_By_j1 k118 (l116.set k118 true))) (iteO (decide (x2 = 3)) (grd (k118 < l116.length) (whittleref01_By_j1 k118 (l116.set k118 (!(x0.has k118))))) (grd (k118 < l116.length) (whittleref01_By_j1 k118 (l116.set k118 false))))) (iteO (decide (x2 = 3)) (grd (k118 < l116.length) (whittleref01_By_j1 k118 (l116.set k118 (!(x0.has k118))))) (grd (k118 < l116.length) (whittleref01_By_j1 k118 (l116.set k118 false))))) (iteO (decide (x2 = 3)) (grd (k118 < l116.length) (whittleref01_By_j1 k118 (l116.set k118 (!(x0.has k118))))) (grd (k118 < l116.length) (whittleref01_By_j1 k118 (l116.set k118 false))))))) (iteO (decide (x2 = 2)) (iteO (x0.has k118) (iteO (!(x1.has k118)) (grd (k118 < l116.length) (whittleref01_By_j1 k118 (l116.set k118 true))) (iteO (decide (x2 = 3)) (grd (k118 < l116.length) (whittleref01_By_j1 k118 (l116.set k118 (!(x0.has k118))))) (grd (k118 < l116.length) (whittleref01_By_j1 k118 (l116.set k118 false))))) (iteO (decide (x2 = 3)) (grd (k118 < l116.length) (whittleref01_By_j1 k118 (l116.set k118 (!(x0.has k118))))) (grd (k118 < l116.length) (whittleref01_By_j1 k118 (l116.set k118 false))))) (iteO (decide (x2 = 3)) (grd (k118 < l116.length) (whittleref01_By_j1 k118 (l116.set k118 (!(x0.has k118))))) (grd (k118 < l116.length) (whittleref01_By_j1 k118 (l116.set k118 false))))))) (iteO (decide (x2 = 1)) (iteO (x0.has k118) (grd (k118 < l116.length) (whittleref01_By_j1 k118 (l116.set k118 true))) (iteO (x1.has k118) (grd (k118 < l116.length) (whittleref01_By_j1 k118 (l116.set k118 true))) (iteO (decide (x2 = 2)) (iteO (x0.has k118) (iteO (!(x1.has k118)) (grd (k118 < l116.length) (whittleref01_By_j1 k118 (l116.set k118 true))) (iteO (decide (x2 = 3)) (grd (k118 < l116.length) (whittleref01_By_j1 k118 (l116.set k118 (!(x0.has k118))))) (grd (k118 < l116.length) (whittleref01_By_j1 k118 (l116.set k118 false))))) (iteO (decide (x2 = 3)) (grd (k118 < l116.length) (whittleref01_By_j1 k118 (l116.set k118 (!(x0.has k118))))) (grd (k118 < l116.length) (whittleref01_By_j1 k118 (l116.set k118 false))))) (iteO (decide (x2 = 3)) (grd (k118 < l116.length) (whittleref01_By_j1 k118 (l116.set k118 (!(x0.has k118))))) (grd (k118 < l116.length) (whittleref01_By_j1 k118 (l116.set k118 false))))))) (iteO (decide (x2 = 2)) (iteO (x0.has k118) (iteO (!(x1.has k118)) (grd (k118 < l116.length) (whittleref01_By_j1 k118 (l116.set k118 true))) (iteO (decide (x2 = 3)) (grd (k118 < l116.length) (whittleref01_By_j1 k118 (l116.set k118 (!(x0.has k118))))) (grd (k118 < l116.length) (whittleref01_By_j1 k118 (l116.set k118 false))))) (iteO (decide (x2 = 3)) (grd (k118 < l116.length) (whittleref01_By_j1 k118 (l116.set k118 (!(x0.has k118))))) (grd (k118 < l116.length) (whittleref01_By_j1 k118 (l116.set k118 false))))) (iteO (decide (x2 = 3)) (grd (k118 < l116.length) (whittleref01_By_j1 k118 (l116.set k118 (!(x0.has k118))))) (grd (k118 < l116.length) (whittleref01_By_j1 k118 (l116.set k118 false))))))) (iteO (decide (x2 = 1)) (iteO (x0.has k118) (grd (k118 < l116.length) (whittleref01_By_j1 k118 (l116.set k118 true))) (iteO (x1.has k118) (grd (k118 < l116.length) (whittleref01_By_j1 k118 (l116.set k118 true))) (iteO (decide (x2 = 2)) (iteO (x0.has k118) (iteO (!(x1.has k118)) (grd (k118 < l116.length) (whittleref01_By_j1 k118 (l116.set k118 true))) (iteO (decide (x2 = 3)) (grd (k118 < l116.length) (whittleref01_By_j1 k118 (l116.set k118 (!(x0.has k118))))) (grd (k118 < l116.length) (whittleref01_By_j1 k118 (l116.set k118 false))))) (iteO (decide (x2 = 3)) (grd (k118 < l116.length) (whittleref01_By_j1 k118 (l116.set k118 (!(x0.has k118))))) (grd (k118 < l116.length) (whittleref01_By_j1 k118 (l116.set k118 false))))) (iteO (decide (x2 = 3)) (grd (k118 < l116.length) (whittleref01_By_j1 k118 (l116.set k118 (!(x0.has k118))))) (grd (k118 < l116.length) (whittleref01_By_j1 k118 (l116.set k118 false))))))) (iteO (decide (x2 = 2)) (iteO (x0.has k118) (iteO (!(x1.has k118)) (grd (k118 < l116.length) (whittleref01_By_j1 k118 (l116.set k118 true))) (iteO (decide (x2 = 3)) (grd (k118 < l116.length) (whittleref01_By_j1 k118 (l116.set k118 (!(x0.has k118))))) (grd (k118 < l116.length) (whittleref01_By_j1 k118 (l116.set k118 false))))) (iteO (decide (x2 = 3)) (grd (k118 < l116.length) (whittleref01_By_j1 k118 (l116.set k118 (!(x0.has k118))))) (grd (k118 < l116.length) (whittleref01_By_j1 k118 (l116.set k118 false))))) (iteO (decide (x2 = 3)) (grd (k118 < l116.length) (whittleref01_By_j1 k118 (l116.set k118 (!(x0.has k118))))) (grd (k118 < l116.length) (whittleref01_By_j1 k118 (l116.set k118 false))))))))) (fin (grd ((List.replicate 256 false).length = 256) (some (BSet.make fun i => nth l116 i false))))
noncomputable def whittleref01_By (x0 : BSet) (x1 : BSet) (x2 : Int) : Option (BSet) :=
 iter (fun q : (List Bool) × Nat => whittleref01_By_b1 x2 x0 x1 q.1 q.2) ((List.replicate 256 false), 0)
set_option maxHeartbeats 8000000 in
theorem whittleref01_By_con {σ : Store} {x0 : BSet} {x1 : BSet} {x2 : Int}  {r : BSet} (hh : whittleref01_By x0 x1 x2 = some r) :
  Con Tryz.prog 35 #[setV x0, setV x1, .int .i64 x2] σ [] (PureP (setV r) σ) := by
 dsimp only [whittleref01_By] at hh
 refine Con.mk (n := 64) Tryz.func35 z z z (fun w0 => ?_)
 refine TC.a (TL.op z (boxA z z z z (fun b101 => ?_)))
 refine TL.op z (boxA z z z z (fun b103 => ?_))
 refine TL.op z (OpOk.alloc z ze36 z z (fun b105 => ?_))
 refine TL.en (TC.a (TL.op z (makeS2 (m := 256) (enc := encB) false z underlying66 sz4 by4 ze4 z z z z (by omega) (by decide) encB_len (by decide) z encB_one (fun a107 c108 => ?_))))
 refine TL.s z z (TL.en (TC.seq (TC.a (TL.i z z (TL.en (TC.block (TC.loopG (α := ((List Bool) × Nat) × (Unit)) (rgs [(8, 3), (12, 50)]) (fun g => [(8, .int .i64 ((g.1.2 : Nat) : Int))]) (fun g => [Res.cells b101 (setA x0) 36, Res.cells b103 (setA x1) 36, Res.cells b105 (setA BSet.zero) 36, Res.rowS 4 1 encB (.slice a107 (List.replicate 256 false).length c108) g.1.1]) (fun g => σ) (fun g => iter (fun q : (List Bool) × Nat => whittleref01_By_b1 x2 x0 x1 q.1 q.2) g.1 = some r ∧ g.1.1.length = (List.replicate 256 false).length) (fun g => rounds (fun q : (List Bool) × Nat => whittleref01_By_b1 x2 x0 x1 q.1 q.2) g.1) (((List.replicate 256 false), 0), ()) (Sub.f [1, 2, 3] 4) z (by repeat (first | exact trivial | refine ⟨z, ?_⟩)) ⟨hh, z⟩ (fun g1 j1 hg1 => ?_))))))))
 obtain ⟨⟨l116, k118⟩, _⟩ := g1
 obtain ⟨hh, hn117⟩ := hg1
 try dsimp only at hn117 ⊢
 obtain ⟨z1, hh, hR1⟩ := iter_e hh
 dsimp only [whittleref01_By_b1] at hh
 have hn117b := hn117
 refine TC.isSl (i := 3) z (fun _ hb119 _ => ?_)
 refine TC.seq (TC.a (TL.i z z (TL.w z (OpVal.lss z z z) (TL.en (TC.cD z hh (fun h120 hh => ?_) (fun h120 hh => ?_))))))
 ·refine TC.skip (S.n (TC.cutG (α := ((List Bool)) × (Unit)) (rgs [(9, 2), (16, 46)]) (fun g => []) (fun g => [Res.cells b101 (setA x0) 36, Res.cells b103 (setA x1) 36, Res.cells b105 (setA BSet.zero) 36, Res.rowS 4 1 encB (.slice a107 (List.replicate 256 false).length c108) g.1]) (fun g => σ) (fun g => whittleref01_By_j1 k118 g.1 = some z1 ∧ g.1.length = (List.replicate 256 false).length) ?_ (fun g j hg => ?_)))
  ·skip
   refine TC.block (TC.a (TL.w z (loadAll z ag36 sz36 z (i := 0) z z) (TL.i z z ?_)))
   have u11 := grd_c hh
   replace hh := grd_t hh
   refine TL.op z (callP (rhas_con _ x0 k118 (BSet.isOk _) u11) z z pf36 z z z ?_)
   refine TL.j z z (TL.en (TC.a (TL.w z (loadAll z ag36 sz36 z (i := 1) z z) (TL.i z z ?_))))
   have u15 := grd_c hh
   replace hh := grd_t hh
   refine TL.op z (callP (rhas_con _ x1 k118 (BSet.isOk _) u15) z z pf36 z z z ?_)
   refine TL.j z z (TL.en (TC.region (TL.s z z (TL.i z z (TL.i z z (TL.w z (OpVal.eql z z z) (TL.j z z (TL.split 26 z (fun h123 => ?_) (fun h123 => ?_)))))))))
   ·replace hh := iteO_t h123 hh
    replace h123 := of_decide_eq_true h123
    refine TL.g z (moveB (.inl z) z) (TL.w z (pickTB z z z) (TL.j z z (TL.split 29 z (fun h124 => ?_) (fun h124 => ?_))))
    ·replace hh := iteO_t h124 hh
     refine TL.g z (moveB (.inl z) z) (TL.w z (pickTB z z z) (TL.j z z (TL.split 32 z (fun h125 => ?_) (fun h125 => ?_))))
     ·replace hh := iteO_t h125 hh
      refine TL.f z (TL.f z (TL.f z (TL.f z (TL.f z (TL.f z (TL.f z (TL.f z (TL.w z (pickTB z z z) (TL.j z z (TL.f z (TL.f z (TL.f z (TL.f z (TL.f z (TL.f z ?_)))))))))))))))
      refine TL.f z (TL.f z (TL.f z (TL.w z (pickTB z z z) (TL.j z z (TL.f z (TL.f z (TL.f z (TL.f z (TL.f z (TL.f z (TL.w z (pickTB z z z) ?_)))))))))))
      have u56 := grd_c hh
      replace hh := grd_t hh
      refine TL.isSl (i := 3) z (fun hs126 _ _ => ?_)
      refine TL.w z (indexN z underlying66 sz4 z z hs126 (by omega)) (TL.front 3 z z ?_)
      have hn127 : (l116.set k118 true).length = (List.replicate 256 false).length := by rw [List.length_set]; exact hn117
      refine TL.op z (storeS true z sz4 z z z z encB_len encB_one (by omega) (by omega) ?_)
      exact TL.nil (B.n (S.n (cf ((l116.set k118 true), ()) ⟨hh, hn127⟩ (Sub.f [3, 3, 3] 4))))
     ·replace hh := iteO_f h125 hh
      refine TL.g z (moveI (.inl z) z) (TL.g z (OpVal.eql z z z) (TL.g z (moveB (.inl z) z) (TL.split 35 z (fun h128 => ?_) (fun h128 => ?_))))
      ·replace hh := iteO_t h128 hh
       replace h128 := of_decide_eq_true h128
       refine TL.g z (moveB (.inl z) z) (TL.g z (moveB (.inl z) z) (TL.split 37 z (fun h129 => ?_) (fun h129 => ?_)))
       ·replace hh := iteO_t h129 hh
        refine TL.f z (TL.g z (pickTB z z z) (TL.g z (pickTB z z z) (TL.w z (pickFB z z z) (TL.j z z (TL.f z (TL.f z (TL.f z (TL.f z (TL.f z (TL.f z (TL.f z (TL.f z (TL.f z (TL.w z (pickTB z z z) (TL.j z z ?_)))))))))))))))
        refine TL.f z (TL.f z (TL.f z (TL.f z (TL.f z (TL.f z (TL.w z (pickTB z z z) ?_))))))
        have u56 := grd_c hh
        replace hh := grd_t hh
        refine TL.isSl (i := 3) z (fun hs130 _ _ => ?_)
        refine TL.w z (indexN z underlying66 sz4 z z hs130 (by omega)) (TL.front 3 z z ?_)
        have hn131 : (l116.set k118 true).length = (List.replicate 256 false).length := by rw [List.length_set]; exact hn117
        refine TL.op z (storeS true z sz4 z z z z encB_len encB_one (by omega) (by omega) ?_)
        exact TL.nil (B.n (S.n (cf ((l116.set k118 true), ()) ⟨hh, hn131⟩ (Sub.f [3, 3, 3] 4))))
       ·replace hh := iteO_f h129 hh
        refine TL.g z (moveB (.inl z) z) (TL.g z (pickFB z z z) (TL.g z (pickTB z z z) (TL.w z (pickFB z z z) (TL.j z z (TL.split 42 z (fun h132 => ?_) (fun h132 => ?_))))))
        ·replace hh := iteO_t h132 hh
         refine TL.f z (TL.f z (TL.f z (TL.f z (TL.f z (TL.f z (TL.f z (TL.f z (TL.f z (TL.w z (pickTB z z z) (TL.j z z (TL.f z (TL.f z (TL.f z (TL.f z (TL.f z ?_)))))))))))))))
         refine TL.f z (TL.w z (pickTB z z z) ?_)
         have u56 := grd_c hh
         replace hh := grd_t hh
         refine TL.isSl (i := 3) z (fun hs133 _ _ => ?_)
         refine TL.w z (indexN z underlying66 sz4 z z hs133 (by omega)) (TL.front 3 z z ?_)
         have hn134 : (l116.set k118 true).length = (List.replicate 256 false).length := by rw [List.length_set]; exact hn117
         refine TL.op z (storeS true z sz4 z z z z encB_len encB_one (by omega) (by omega) ?_)
         exact TL.nil (B.n (S.n (cf ((l116.set k118 true), ()) ⟨hh, hn134⟩ (Sub.f [3, 3, 3] 4))))
        ·replace hh := iteO_f h132 hh
         refine TL.g z (moveI (.inl z) z) (TL.g z (OpVal.eql z z z) (TL.g z (moveB (.inl z) z) (TL.split 45 z (fun h135 => ?_) (fun h135 => ?_))))
         ·replace hh := iteO_t h135 hh
          replace h135 := of_decide_eq_true h135
          refine TL.g z (moveB (.inl z) z) (TL.g z (pickTB z z z) (TL.g z (moveB (.inl z) z) (TL.split 48 z (fun h136 => ?_) (fun h136 => ?_))))
          ·replace hh := iteO_t h136 hh
           refine TL.g z (moveB (.inl z) z) (TL.g z (OpVal.not z z) (TL.g z (pickTB z z z) (TL.w z (pickFB z z z) (TL.j z z (TL.split 53 z (fun h137 => ?_) (fun h137 => ?_))))))
           ·replace hh := iteO_t h137 hh
            refine TL.f z (TL.f z (TL.f z (TL.f z (TL.f z (TL.f z (TL.w z (pickTB z z z) ?_))))))
            have u56 := grd_c hh
            replace hh := grd_t hh
            refine TL.isSl (i := 3) z (fun hs138 _ _ => ?_)
            refine TL.w z (indexN z underlying66 sz4 z z hs138 (by omega)) (TL.front 3 z z ?_)
            have hn139 : (l116.set k118 true).length = (List.replicate 256 false).length := by rw [List.length_set]; exact hn117
            refine TL.op z (storeS true z sz4 z z z z encB_len encB_one (by omega) (by omega) ?_)
            exact TL.nil (B.n (S.n (cf ((l116.set k118 true), ()) ⟨hh, hn139⟩ (Sub.f [3, 3, 3] 4))))
           ·replace hh := iteO_f h137 hh
            refine TL.g z (moveI (.inl z) z) (TL.g z (OpVal.eql z z z) (TL.g z (moveB (.inl z) z) (TL.split 56 z (fun h140 => ?_) (fun h140 => ?_))))
            ·replace hh := iteO_t h140 hh
             replace h140 := of_decide_eq_true h140
             refine TL.g z (moveB (.inl z) z) (TL.g z (OpVal.not z z) (TL.g z (pickTB z z z) (TL.w z (pickFB z z z) ?_)))
             have u56 := grd_c hh
             replace hh := grd_t hh
             refine TL.isSl (i := 3) z (fun hs141 _ _ => ?_)
             refine TL.w z (indexN z underlying66 sz4 z z hs141 (by omega)) (TL.front 3 z z ?_)
             have hn142 : (l116.set k118 (!(x0.has k118))).length = (List.replicate 256 false).length := by rw [List.length_set]; exact hn117
             refine TL.op z (storeS (!(x0.has k118)) z sz4 z z z z encB_len encB_one (by omega) (by omega) ?_)
             exact TL.nil (B.n (S.n (cf ((l116.set k118 (!(x0.has k118))), ()) ⟨hh, hn142⟩ (Sub.f [3, 3, 3] 4))))
            ·replace hh := iteO_f h140 hh
             replace h140 := of_decide_eq_false h140
             refine TL.f z (TL.f z (TL.g z (pickFB z z z) (TL.w z (pickFB z z z) ?_)))
             have u56 := grd_c hh
             replace hh := grd_t hh
             refine TL.isSl (i := 3) z (fun hs143 _ _ => ?_)
             refine TL.w z (indexN z underlying66 sz4 z z hs143 (by omega)) (TL.front 3 z z ?_)
             have hn144 : (l116.set k118 false).length = (List.replicate 256 false).length := by rw [List.length_set]; exact hn117
             refine TL.op z (storeS false z sz4 z z z z encB_len encB_one (by omega) (by omega) ?_)
             exact TL.nil (B.n (S.n (cf ((l116.set k118 false), ()) ⟨hh, hn144⟩ (Sub.f [3, 3, 3] 4))))
          ·replace hh := iteO_f h136 hh
           refine TL.f z (TL.f z (TL.g z (pickFB z z z) (TL.w z (pickFB z z z) (TL.j z z (TL.g z (moveI (.inl z) z) (TL.g z (OpVal.eql z z z) (TL.g z (moveB (.inl z) z) (TL.split 56 z (fun h145 => ?_) (fun h145 => ?_)))))))))
           ·replace hh := iteO_t h145 hh
            replace h145 := of_decide_eq_true h145
            refine TL.g z (moveB (.inl z) z) (TL.g z (OpVal.not z z) (TL.g z (pickTB z z z) (TL.w z (pickFB z z z) ?_)))
            have u56 := grd_c hh
            replace hh := grd_t hh
            refine TL.isSl (i := 3) z (fun hs146 _ _ => ?_)
            refine TL.w z (indexN z underlying66 sz4 z z hs146 (by omega)) (TL.front 3 z z ?_)
            have hn147 : (l116.set k118 (!(x0.has k118))).length = (List.replicate 256 false).length := by rw [List.length_set]; exact hn117
            refine TL.op z (storeS (!(x0.has k118)) z sz4 z z z z encB_len encB_one (by omega) (by omega) ?_)
            exact TL.nil (B.n (S.n (cf ((l116.set k118 (!(x0.has k118))), ()) ⟨hh, hn147⟩ (Sub.f [3, 3, 3] 4))))
           ·replace hh := iteO_f h145 hh
            replace h145 := of_decide_eq_false h145
            refine TL.f z (TL.f z (TL.g z (pickFB z z z) (TL.w z (pickFB z z z) ?_)))
            have u56 := grd_c hh
            replace hh := grd_t hh
            refine TL.isSl (i := 3) z (fun hs148 _ _ => ?_)
            refine TL.w z (indexN z underlying66 sz4 z z hs148 (by omega)) (TL.front 3 z z ?_)
            have hn149 : (l116.set k118 false).length = (List.replicate 256 false).length := by rw [List.length_set]; exact hn117
            refine TL.op z (storeS false z sz4 z z z z encB_len encB_one (by omega) (by omega) ?_)
            exact TL.nil (B.n (S.n (cf ((l116.set k118 false), ()) ⟨hh, hn149⟩ (Sub.f [3, 3, 3] 4))))
         ·replace hh := iteO_f h135 hh
          replace h135 := of_decide_eq_false h135
          refine TL.f z (TL.g z (pickFB z z z) (TL.g z (moveB (.inl z) z) (TL.f z (TL.f z (TL.g z (pickFB z z z) (TL.w z (pickFB z z z) (TL.j z z (TL.g z (moveI (.inl z) z) (TL.g z (OpVal.eql z z z) (TL.g z (moveB (.inl z) z) (TL.split 56 z (fun h150 => ?_) (fun h150 => ?_))))))))))))
          ·replace hh := iteO_t h150 hh
           replace h150 := of_decide_eq_true h150
           refine TL.g z (moveB (.inl z) z) (TL.g z (OpVal.not z z) (TL.g z (pickTB z z z) (TL.w z (pickFB z z z) ?_)))
           have u56 := grd_c hh
           replace hh := grd_t hh
           refine TL.isSl (i := 3) z (fun hs151 _ _ => ?_)
           refine TL.w z (indexN z underlying66 sz4 z z hs151 (by omega)) (TL.front 3 z z ?_)
           have hn152 : (l116.set k118 (!(x0.has k118))).length = (List.replicate 256 false).length := by rw [List.length_set]; exact hn117
           refine TL.op z (storeS (!(x0.has k118)) z sz4 z z z z encB_len encB_one (by omega) (by omega) ?_)
           exact TL.nil (B.n (S.n (cf ((l116.set k118 (!(x0.has k118))), ()) ⟨hh, hn152⟩ (Sub.f [3, 3, 3] 4))))
          ·replace hh := iteO_f h150 hh
           replace h150 := of_decide_eq_false h150
           refine TL.f z (TL.f z (TL.g z (pickFB z z z) (TL.w z (pickFB z z z) ?_)))
           have u56 := grd_c hh
           replace hh := grd_t hh
           refine TL.isSl (i := 3) z (fun hs153 _ _ => ?_)
           refine TL.w z (indexN z underlying66 sz4 z z hs153 (by omega)) (TL.front 3 z z ?_)
           have hn154 : (l116.set k118 false).length = (List.replicate 256 false).length := by rw [List.length_set]; exact hn117
           refine TL.op z (storeS false z sz4 z z z z encB_len encB_one (by omega) (by omega) ?_)
           exact TL.nil (B.n (S.n (cf ((l116.set k118 false), ()) ⟨hh, hn154⟩ (Sub.f [3, 3, 3] 4))))
      ·replace hh := iteO_f h128 hh
       replace h128 := of_decide_eq_false h128
       refine TL.f z (TL.f z (TL.f z (TL.f z (TL.g z (pickFB z z z) (TL.w z (pickFB z z z) (TL.j z z (TL.g z (moveI (.inl z) z) (TL.g z (OpVal.eql z z z) (TL.g z (moveB (.inl z) z) (TL.split 45 z (fun h155 => ?_) (fun h155 => ?_)))))))))))
       ·replace hh := iteO_t h155 hh
        replace h155 := of_decide_eq_true h155
        refine TL.g z (moveB (.inl z) z) (TL.g z (pickTB z z z) (TL.g z (moveB (.inl z) z) (TL.split 48 z (fun h156 => ?_) (fun h156 => ?_))))
        ·replace hh := iteO_t h156 hh
         refine TL.g z (moveB (.inl z) z) (TL.g z (OpVal.not z z) (TL.g z (pickTB z z z) (TL.w z (pickFB z z z) (TL.j z z (TL.split 53 z (fun h157 => ?_) (fun h157 => ?_))))))
         ·replace hh := iteO_t h157 hh
          refine TL.f z (TL.f z (TL.f z (TL.f z (TL.f z (TL.f z (TL.w z (pickTB z z z) ?_))))))
          have u56 := grd_c hh
          replace hh := grd_t hh
          refine TL.isSl (i := 3) z (fun hs158 _ _ => ?_)
          refine TL.w z (indexN z underlying66 sz4 z z hs158 (by omega)) (TL.front 3 z z ?_)
          have hn159 : (l116.set k118 true).length = (List.replicate 256 false).length := by rw [List.length_set]; exact hn117
          refine TL.op z (storeS true z sz4 z z z z encB_len encB_one (by omega) (by omega) ?_)
          exact TL.nil (B.n (S.n (cf ((l116.set k118 true), ()) ⟨hh, hn159⟩ (Sub.f [3, 3, 3] 4))))
         ·replace hh := iteO_f h157 hh
          refine TL.g z (moveI (.inl z) z) (TL.g z (OpVal.eql z z z) (TL.g z (moveB (.inl z) z) (TL.split 56 z (fun h160 => ?_) (fun h160 => ?_))))
          ·replace hh := iteO_t h160 hh
           replace h160 := of_decide_eq_true h160
           refine TL.g z (moveB (.inl z) z) (TL.g z (OpVal.not z z) (TL.g z (pickTB z z z) (TL.w z (pickFB z z z) ?_)))
           have u56 := grd_c hh
           replace hh := grd_t hh
           refine TL.isSl (i := 3) z (fun hs161 _ _ => ?_)
           refine TL.w z (indexN z underlying66 sz4 z z hs161 (by omega)) (TL.front 3 z z ?_)
           have hn162 : (l116.set k118 (!(x0.has k118))).length = (List.replicate 256 false).length := by rw [List.length_set]; exact hn117
           refine TL.op z (storeS (!(x0.has k118)) z sz4 z z z z encB_len encB_one (by omega) (by omega) ?_)
           exact TL.nil (B.n (S.n (cf ((l116.set k118 (!(x0.has k118))), ()) ⟨hh, hn162⟩ (Sub.f [3, 3, 3] 4))))
          ·replace hh := iteO_f h160 hh
           replace h160 := of_decide_eq_false h160
           refine TL.f z (TL.f z (TL.g z (pickFB z z z) (TL.w z (pickFB z z z) ?_)))
           have u56 := grd_c hh
           replace hh := grd_t hh
           refine TL.isSl (i := 3) z (fun hs163 _ _ => ?_)
           refine TL.w z (indexN z underlying66 sz4 z z hs163 (by omega)) (TL.front 3 z z ?_)
           have hn164 : (l116.set k118 false).length = (List.replicate 256 false).length := by rw [List.length_set]; exact hn117
           refine TL.op z (storeS false z sz4 z z z z encB_len encB_one (by omega) (by omega) ?_)
           exact TL.nil (B.n (S.n (cf ((l116.set k118 false), ()) ⟨hh, hn164⟩ (Sub.f [3, 3, 3] 4))))
        ·replace hh := iteO_f h156 hh
         refine TL.f z (TL.f z (TL.g z (pickFB z z z) (TL.w z (pickFB z z z) (TL.j z z (TL.g z (moveI (.inl z) z) (TL.g z (OpVal.eql z z z) (TL.g z (moveB (.inl z) z) (TL.split 56 z (fun h165 => ?_) (fun h165 => ?_)))))))))
         ·replace hh := iteO_t h165 hh
          replace h165 := of_decide_eq_true h165
          refine TL.g z (moveB (.inl z) z) (TL.g z (OpVal.not z z) (TL.g z (pickTB z z z) (TL.w z (pickFB z z z) ?_)))
          have u56 := grd_c hh
          replace hh := grd_t hh
          refine TL.isSl (i := 3) z (fun hs166 _ _ => ?_)
          refine TL.w z (indexN z underlying66 sz4 z z hs166 (by omega)) (TL.front 3 z z ?_)
          have hn167 : (l116.set k118 (!(x0.has k118))).length = (List.replicate 256 false).length := by rw [List.length_set]; exact hn117
          refine TL.op z (storeS (!(x0.has k118)) z sz4 z z z z encB_len encB_one (by omega) (by omega) ?_)
          exact TL.nil (B.n (S.n (cf ((l116.set k118 (!(x0.has k118))), ()) ⟨hh, hn167⟩ (Sub.f [3, 3, 3] 4))))
         ·replace hh := iteO_f h165 hh
          replace h165 := of_decide_eq_false h165
          refine TL.f z (TL.f z (TL.g z (pickFB z z z) (TL.w z (pickFB z z z) ?_)))
          have u56 := grd_c hh
          replace hh := grd_t hh
          refine TL.isSl (i := 3) z (fun hs168 _ _ => ?_)
          refine TL.w z (indexN z underlying66 sz4 z z hs168 (by omega)) (TL.front 3 z z ?_)
          have hn169 : (l116.set k118 false).length = (List.replicate 256 false).length := by rw [List.length_set]; exact hn117
          refine TL.op z (storeS false z sz4 z z z z encB_len encB_one (by omega) (by omega) ?_)
          exact TL.nil (B.n (S.n (cf ((l116.set k118 false), ()) ⟨hh, hn169⟩ (Sub.f [3, 3, 3] 4))))
       ·replace hh := iteO_f h155 hh
        replace h155 := of_decide_eq_false h155
        refine TL.f z (TL.g z (pickFB z z z) (TL.g z (moveB (.inl z) z) (TL.f z (TL.f z (TL.g z (pickFB z z z) (TL.w z (pickFB z z z) (TL.j z z (TL.g z (moveI (.inl z) z) (TL.g z (OpVal.eql z z z) (TL.g z (moveB (.inl z) z) (TL.split 56 z (fun h170 => ?_) (fun h170 => ?_))))))))))))
        ·replace hh := iteO_t h170 hh
         replace h170 := of_decide_eq_true h170
         refine TL.g z (moveB (.inl z) z) (TL.g z (OpVal.not z z) (TL.g z (pickTB z z z) (TL.w z (pickFB z z z) ?_)))
         have u56 := grd_c hh
         replace hh := grd_t hh
         refine TL.isSl (i := 3) z (fun hs171 _ _ => ?_)
         refine TL.w z (indexN z underlying66 sz4 z z hs171 (by omega)) (TL.front 3 z z ?_)
         have hn172 : (l116.set k118 (!(x0.has k118))).length = (List.replicate 256 false).length := by rw [List.length_set]; exact hn117
         refine TL.op z (storeS (!(x0.has k118)) z sz4 z z z z encB_len encB_one (by omega) (by omega) ?_)
         exact TL.nil (B.n (S.n (cf ((l116.set k118 (!(x0.has k118))), ()) ⟨hh, hn172⟩ (Sub.f [3, 3, 3] 4))))
        ·replace hh := iteO_f h170 hh
         replace h170 := of_decide_eq_false h170
         refine TL.f z (TL.f z (TL.g z (pickFB z z z) (TL.w z (pickFB z z z) ?_)))
         have u56 := grd_c hh
         replace hh := grd_t hh
         refine TL.isSl (i := 3) z (fun hs173 _ _ => ?_)
         refine TL.w z (indexN z underlying66 sz4 z z hs173 (by omega)) (TL.front 3 z z ?_)
         have hn174 : (l116.set k118 false).length = (List.replicate 256 false).length := by rw [List.length_set]; exact hn117
         refine TL.op z (storeS false z sz4 z z z z encB_len encB_one (by omega) (by omega) ?_)
         exact TL.nil (B.n (S.n (cf ((l116.set k118 false), ()) ⟨hh, hn174⟩ (Sub.f [3, 3, 3] 4))))
    ·replace hh := iteO_f h124 hh
     refine TL.f z (TL.w z (pickFB z z z) (TL.j z z (TL.g z (moveI (.inl z) z) (TL.g z (OpVal.eql z z z) (TL.g z (moveB (.inl z) z) (TL.split 35 z (fun h175 => ?_) (fun h175 => ?_)))))))
     ·replace hh := iteO_t h175 hh
      replace h175 := of_decide_eq_true h175
      refine TL.g z (moveB (.inl z) z) (TL.g z (moveB (.inl z) z) (TL.split 37 z (fun h176 => ?_) (fun h176 => ?_)))
      ·replace hh := iteO_t h176 hh
       refine TL.f z (TL.g z (pickTB z z z) (TL.g z (pickTB z z z) (TL.w z (pickFB z z z) (TL.j z z (TL.f z (TL.f z (TL.f z (TL.f z (TL.f z (TL.f z (TL.f z (TL.f z (TL.f z (TL.w z (pickTB z z z) (TL.j z z ?_)))))))))))))))
       refine TL.f z (TL.f z (TL.f z (TL.f z (TL.f z (TL.f z (TL.w z (pickTB z z z) ?_))))))
       have u56 := grd_c hh
       replace hh := grd_t hh
       refine TL.isSl (i := 3) z (fun hs177 _ _ => ?_)
       refine TL.w z (indexN z underlying66 sz4 z z hs177 (by omega)) (TL.front 3 z z ?_)
       have hn178 : (l116.set k118 true).length = (List.replicate 256 false).length := by rw [List.length_set]; exact hn117
       refine TL.op z (storeS true z sz4 z z z z encB_len encB_one (by omega) (by omega) ?_)
       exact TL.nil (B.n (S.n (cf ((l116.set k118 true), ()) ⟨hh, hn178⟩ (Sub.f [3, 3, 3] 4))))
      ·replace hh := iteO_f h176 hh
       refine TL.g z (moveB (.inl z) z) (TL.g z (pickFB z z z) (TL.g z (pickTB z z z) (TL.w z (pickFB z z z) (TL.j z z (TL.split 42 z (fun h179 => ?_) (fun h179 => ?_))))))
       ·replace hh := iteO_t h179 hh
        refine TL.f z (TL.f z (TL.f z (TL.f z (TL.f z (TL.f z (TL.f z (TL.f z (TL.f z (TL.w z (pickTB z z z) (TL.j z z (TL.f z (TL.f z (TL.f z (TL.f z (TL.f z ?_)))))))))))))))
        refine TL.f z (TL.w z (pickTB z z z) ?_)
        have u56 := grd_c hh
        replace hh := grd_t hh
        refine TL.isSl (i := 3) z (fun hs180 _ _ => ?_)
        refine TL.w z (indexN z underlying66 sz4 z z hs180 (by omega)) (TL.front 3 z z ?_)
        have hn181 : (l116.set k118 true).length = (List.replicate 256 false).length := by rw [List.length_set]; exact hn117
        refine TL.op z (storeS true z sz4 z z z z encB_len encB_one (by omega) (by omega) ?_)
        exact TL.nil (B.n (S.n (cf ((l116.set k118 true), ()) ⟨hh, hn181⟩ (Sub.f [3, 3, 3] 4))))
       ·replace hh := iteO_f h179 hh
        refine TL.g z (moveI (.inl z) z) (TL.g z (OpVal.eql z z z) (TL.g z (moveB (.inl z) z) (TL.split 45 z (fun h182 => ?_) (fun h182 => ?_))))
        ·replace hh := iteO_t h182 hh
         replace h182 := of_decide_eq_true h182
         refine TL.g z (moveB (.inl z) z) (TL.g z (pickTB z z z) (TL.g z (moveB (.inl z) z) (TL.split 48 z (fun h183 => ?_) (fun h183 => ?_))))
         ·replace hh := iteO_t h183 hh
          refine TL.g z (moveB (.inl z) z) (TL.g z (OpVal.not z z) (TL.g z (pickTB z z z) (TL.w z (pickFB z z z) (TL.j z z (TL.split 53 z (fun h184 => ?_) (fun h184 => ?_))))))
          ·replace hh := iteO_t h184 hh
           refine TL.f z (TL.f z (TL.f z (TL.f z (TL.f z (TL.f z (TL.w z (pickTB z z z) ?_))))))
           have u56 := grd_c hh
           replace hh := grd_t hh
           refine TL.isSl (i := 3) z (fun hs185 _ _ => ?_)
           refine TL.w z (indexN z underlying66 sz4 z z hs185 (by omega)) (TL.front 3 z z ?_)
           have hn186 : (l116.set k118 true).length = (List.replicate 256 false).length := by rw [List.length_set]; exact hn117
           refine TL.op z (storeS true z sz4 z z z z encB_len encB_one (by omega) (by omega) ?_)
           exact TL.nil (B.n (S.n (cf ((l116.set k118 true), ()) ⟨hh, hn186⟩ (Sub.f [3, 3, 3] 4))))
          ·replace hh := iteO_f h184 hh
           refine TL.g z (moveI (.inl z) z) (TL.g z (OpVal.eql z z z) (TL.g z (moveB (.inl z) z) (TL.split 56 z (fun h187 => ?_) (fun h187 => ?_))))
           ·replace hh := iteO_t h187 hh
            replace h187 := of_decide_eq_true h187
            refine TL.g z (moveB (.inl z) z) (TL.g z (OpVal.not z z) (TL.g z (pickTB z z z) (TL.w z (pickFB z z z) ?_)))
            have u56 := grd_c hh
            replace hh := grd_t hh
            refine TL.isSl (i := 3) z (fun hs188 _ _ => ?_)
            refine TL.w z (indexN z underlying66 sz4 z z hs188 (by omega)) (TL.front 3 z z ?_)
            have hn189 : (l116.set k118 (!(x0.has k118))).length = (List.replicate 256 false).length := by rw [List.length_set]; exact hn117
            refine TL.op z (storeS (!(x0.has k118)) z sz4 z z z z encB_len encB_one (by omega) (by omega) ?_)
            exact TL.nil (B.n (S.n (cf ((l116.set k118 (!(x0.has k118))), ()) ⟨hh, hn189⟩ (Sub.f [3, 3, 3] 4))))
           ·replace hh := iteO_f h187 hh
            replace h187 := of_decide_eq_false h187
            refine TL.f z (TL.f z (TL.g z (pickFB z z z) (TL.w z (pickFB z z z) ?_)))
            have u56 := grd_c hh
            replace hh := grd_t hh
            refine TL.isSl (i := 3) z (fun hs190 _ _ => ?_)
            refine TL.w z (indexN z underlying66 sz4 z z hs190 (by omega)) (TL.front 3 z z ?_)
            have hn191 : (l116.set k118 false).length = (List.replicate 256 false).length := by rw [List.length_set]; exact hn117
            refine TL.op z (storeS false z sz4 z z z z encB_len encB_one (by omega) (by omega) ?_)
            exact TL.nil (B.n (S.n (cf ((l116.set k118 false), ()) ⟨hh, hn191⟩ (Sub.f [3, 3, 3] 4))))
         ·replace hh := iteO_f h183 hh
          refine TL.f z (TL.f z (TL.g z (pickFB z z z) (TL.w z (pickFB z z z) (TL.j z z (TL.g z (moveI (.inl z) z) (TL.g z (OpVal.eql z z z) (TL.g z (moveB (.inl z) z) (TL.split 56 z (fun h192 => ?_) (fun h192 => ?_)))))))))
          ·replace hh := iteO_t h192 hh
           replace h192 := of_decide_eq_true h192
           refine TL.g z (moveB (.inl z) z) (TL.g z (OpVal.not z z) (TL.g z (pickTB z z z) (TL.w z (pickFB z z z) ?_)))
           have u56 := grd_c hh
           replace hh := grd_t hh
           refine TL.isSl (i := 3) z (fun hs193 _ _ => ?_)
           refine TL.w z (indexN z underlying66 sz4 z z hs193 (by omega)) (TL.front 3 z z ?_)
           have hn194 : (l116.set k118 (!(x0.has k118))).length = (List.replicate 256 false).length := by rw [List.length_set]; exact hn117
           refine TL.op z (storeS (!(x0.has k118)) z sz4 z z z z encB_len encB_one (by omega) (by omega) ?_)
           exact TL.nil (B.n (S.n (cf ((l116.set k118 (!(x0.has k118))), ()) ⟨hh, hn194⟩ (Sub.f [3, 3, 3] 4))))
          ·replace hh := iteO_f h192 hh
           replace h192 := of_decide_eq_false h192
           refine TL.f z (TL.f z (TL.g z (pickFB z z z) (TL.w z (pickFB z z z) ?_)))
           have u56 := grd_c hh
           replace hh := grd_t hh
           refine TL.isSl (i := 3) z (fun hs195 _ _ => ?_)
           refine TL.w z (indexN z underlying66 sz4 z z hs195 (by omega)) (TL.front 3 z z ?_)
           have hn196 : (l116.set k118 false).length = (List.replicate 256 false).length := by rw [List.length_set]; exact hn117
           refine TL.op z (storeS false z sz4 z z z z encB_len encB_one (by omega) (by omega) ?_)
           exact TL.nil (B.n (S.n (cf ((l116.set k118 false), ()) ⟨hh, hn196⟩ (Sub.f [3, 3, 3] 4))))
        ·replace hh := iteO_f h182 hh
         replace h182 := of_decide_eq_false h182
         refine TL.f z (TL.g z (pickFB z z z) (TL.g z (moveB (.inl z) z) (TL.f z (TL.f z (TL.g z (pickFB z z z) (TL.w z (pickFB z z z) (TL.j z z (TL.g z (moveI (.inl z) z) (TL.g z (OpVal.eql z z z) (TL.g z (moveB (.inl z) z) (TL.split 56 z (fun h197 => ?_) (fun h197 => ?_))))))))))))
         ·replace hh := iteO_t h197 hh
          replace h197 := of_decide_eq_true h197
          refine TL.g z (moveB (.inl z) z) (TL.g z (OpVal.not z z) (TL.g z (pickTB z z z) (TL.w z (pickFB z z z) ?_)))
          have u56 := grd_c hh
          replace hh := grd_t hh
          refine TL.isSl (i := 3) z (fun hs198 _ _ => ?_)
          refine TL.w z (indexN z underlying66 sz4 z z hs198 (by omega)) (TL.front 3 z z ?_)
          have hn199 : (l116.set k118 (!(x0.has k118))).length = (List.replicate 256 false).length := by rw [List.length_set]; exact hn117
          refine TL.op z (storeS (!(x0.has k118)) z sz4 z z z z encB_len encB_one (by omega) (by omega) ?_)
          exact TL.nil (B.n (S.n (cf ((l116.set k118 (!(x0.has k118))), ()) ⟨hh, hn199⟩ (Sub.f [3, 3, 3] 4))))
         ·replace hh := iteO_f h197 hh
          replace h197 := of_decide_eq_false h197
          refine TL.f z (TL.f z (TL.g z (pickFB z z z) (TL.w z (pickFB z z z) ?_)))
          have u56 := grd_c hh
          replace hh := grd_t hh
          refine TL.isSl (i := 3) z (fun hs200 _ _ => ?_)
          refine TL.w z (indexN z underlying66 sz4 z z hs200 (by omega)) (TL.front 3 z z ?_)
          have hn201 : (l116.set k118 false).length = (List.replicate 256 false).length := by rw [List.length_set]; exact hn117
          refine TL.op z (storeS false z sz4 z z z z encB_len encB_one (by omega) (by omega) ?_)
          exact TL.nil (B.n (S.n (cf ((l116.set k118 false), ()) ⟨hh, hn201⟩ (Sub.f [3, 3, 3] 4))))
     ·replace hh := iteO_f h175 hh
      replace h175 := of_decide_eq_false h175
      refine TL.f z (TL.f z (TL.f z (TL.f z (TL.g z (pickFB z z z) (TL.w z (pickFB z z z) (TL.j z z (TL.g z (moveI (.inl z) z) (TL.g z (OpVal.eql z z z) (TL.g z (moveB (.inl z) z) (TL.split 45 z (fun h202 => ?_) (fun h202 => ?_)))))))))))
      ·replace hh := iteO_t h202 hh
       replace h202 := of_decide_eq_true h202
       refine TL.g z (moveB (.inl z) z) (TL.g z (pickTB z z z) (TL.g z (moveB (.inl z) z) (TL.split 48 z (fun h203 => ?_) (fun h203 => ?_))))
       ·replace hh := iteO_t h203 hh
        refine TL.g z (moveB (.inl z) z) (TL.g z (OpVal.not z z) (TL.g z (pickTB z z z) (TL.w z (pickFB z z z) (TL.j z z (TL.split 53 z (fun h204 => ?_) (fun h204 => ?_))))))
        ·replace hh := iteO_t h204 hh
         refine TL.f z (TL.f z (TL.f z (TL.f z (TL.f z (TL.f z (TL.w z (pickTB z z z) ?_))))))
         have u56 := grd_c hh
         replace hh := grd_t hh
         refine TL.isSl (i := 3) z (fun hs205 _ _ => ?_)
         refine TL.w z (indexN z underlying66 sz4 z z hs205 (by omega)) (TL.front 3 z z ?_)
         have hn206 : (l116.set k118 true).length = (List.replicate 256 false).length := by rw [List.length_set]; exact hn117
         refine TL.op z (storeS true z sz4 z z z z encB_len encB_one (by omega) (by omega) ?_)
         exact TL.nil (B.n (S.n (cf ((l116.set k118 true), ()) ⟨hh, hn206⟩ (Sub.f [3, 3, 3] 4))))
        ·replace hh := iteO_f h204 hh
         refine TL.g z (moveI (.inl z) z) (TL.g z (OpVal.eql z z z) (TL.g z (moveB (.inl z) z) (TL.split 56 z (fun h207 => ?_) (fun h207 => ?_))))
         ·replace hh := iteO_t h207 hh
          replace h207 := of_decide_eq_true h207
          refine TL.g z (moveB (.inl z) z) (TL.g z (OpVal.not z z) (TL.g z (pickTB z z z) (TL.w z (pickFB z z z) ?_)))
          have u56 := grd_c hh
          replace hh := grd_t hh
          refine TL.isSl (i := 3) z (fun hs208 _ _ => ?_)
          refine TL.w z (indexN z underlying66 sz4 z z hs208 (by omega)) (TL.front 3 z z ?_)
          have hn209 : (l116.set k118 (!(x0.has k118))).length = (List.replicate 256 false).length := by rw [List.length_set]; exact hn117
          refine TL.op z (storeS (!(x0.has k118)) z sz4 z z z z encB_len encB_one (by omega) (by omega) ?_)
          exact TL.nil (B.n (S.n (cf ((l116.set k118 (!(x0.has k118))), ()) ⟨hh, hn209⟩ (Sub.f [3, 3, 3] 4))))
         ·replace hh := iteO_f h207 hh
          replace h207 := of_decide_eq_false h207
          refine TL.f z (TL.f z (TL.g z (pickFB z z z) (TL.w z (pickFB z z z) ?_)))
          have u56 := grd_c hh
          replace hh := grd_t hh
          refine TL.isSl (i := 3) z (fun hs210 _ _ => ?_)
          refine TL.w z (indexN z underlying66 sz4 z z hs210 (by omega)) (TL.front 3 z z ?_)
          have hn211 : (l116.set k118 false).length = (List.replicate 256 false).length := by rw [List.length_set]; exact hn117
          refine TL.op z (storeS false z sz4 z z z z encB_len encB_one (by omega) (by omega) ?_)
          exact TL.nil (B.n (S.n (cf ((l116.set k118 false), ()) ⟨hh, hn211⟩ (Sub.f [3, 3, 3] 4))))
       ·replace hh := iteO_f h203 hh
        refine TL.f z (TL.f z (TL.g z (pickFB z z z) (TL.w z (pickFB z z z) (TL.j z z (TL.g z (moveI (.inl z) z) (TL.g z (OpVal.eql z z z) (TL.g z (moveB (.inl z) z) (TL.split 56 z (fun h212 => ?_) (fun h212 => ?_)))))))))
        ·replace hh := iteO_t h212 hh
         replace h212 := of_decide_eq_true h212
         refine TL.g z (moveB (.inl z) z) (TL.g z (OpVal.not z z) (TL.g z (pickTB z z z) (TL.w z (pickFB z z z) ?_)))
         have u56 := grd_c hh
         replace hh := grd_t hh
         refine TL.isSl (i := 3) z (fun hs213 _ _ => ?_)
         refine TL.w z (indexN z underlying66 sz4 z z hs213 (by omega)) (TL.front 3 z z ?_)
         have hn214 : (l116.set k118 (!(x0.has k118))).length = (List.replicate 256 false).length := by rw [List.length_set]; exact hn117
         refine TL.op z (storeS (!(x0.has k118)) z sz4 z z z z encB_len encB_one (by omega) (by omega) ?_)
         exact TL.nil (B.n (S.n (cf ((l116.set k118 (!(x0.has k118))), ()) ⟨hh, hn214⟩ (Sub.f [3, 3, 3] 4))))
        ·replace hh := iteO_f h212 hh
         replace h212 := of_decide_eq_false h212
         refine TL.f z (TL.f z (TL.g z (pickFB z z z) (TL.w z (pickFB z z z) ?_)))
         have u56 := grd_c hh
         replace hh := grd_t hh
         refine TL.isSl (i := 3) z (fun hs215 _ _ => ?_)
         refine TL.w z (indexN z underlying66 sz4 z z hs215 (by omega)) (TL.front 3 z z ?_)
         have hn216 : (l116.set k118 false).length = (List.replicate 256 false).length := by rw [List.length_set]; exact hn117
         refine TL.op z (storeS false z sz4 z z z z encB_len encB_one (by omega) (by omega) ?_)
         exact TL.nil (B.n (S.n (cf ((l116.set k118 false), ()) ⟨hh, hn216⟩ (Sub.f [3, 3, 3] 4))))
      ·replace hh := iteO_f h202 hh
       replace h202 := of_decide_eq_false h202
       refine TL.f z (TL.g z (pickFB z z z) (TL.g z (moveB (.inl z) z) (TL.f z (TL.f z (TL.g z (pickFB z z z) (TL.w z (pickFB z z z) (TL.j z z (TL.g z (moveI (.inl z) z) (TL.g z (OpVal.eql z z z) (TL.g z (moveB (.inl z) z) (TL.split 56 z (fun h217 => ?_) (fun h217 => ?_))))))))))))
       ·replace hh := iteO_t h217 hh
        replace h217 := of_decide_eq_true h217
        refine TL.g z (moveB (.inl z) z) (TL.g z (OpVal.not z z) (TL.g z (pickTB z z z) (TL.w z (pickFB z z z) ?_)))
        have u56 := grd_c hh
        replace hh := grd_t hh
        refine TL.isSl (i := 3) z (fun hs218 _ _ => ?_)
        refine TL.w z (indexN z underlying66 sz4 z z hs218 (by omega)) (TL.front 3 z z ?_)
        have hn219 : (l116.set k118 (!(x0.has k118))).length = (List.replicate 256 false).length := by rw [List.length_set]; exact hn117
        refine TL.op z (storeS (!(x0.has k118)) z sz4 z z z z encB_len encB_one (by omega) (by omega) ?_)
        exact TL.nil (B.n (S.n (cf ((l116.set k118 (!(x0.has k118))), ()) ⟨hh, hn219⟩ (Sub.f [3, 3, 3] 4))))
       ·replace hh := iteO_f h217 hh
        replace h217 := of_decide_eq_false h217
        refine TL.f z (TL.f z (TL.g z (pickFB z z z) (TL.w z (pickFB z z z) ?_)))
        have u56 := grd_c hh
        replace hh := grd_t hh
        refine TL.isSl (i := 3) z (fun hs220 _ _ => ?_)
        refine TL.w z (indexN z underlying66 sz4 z z hs220 (by omega)) (TL.front 3 z z ?_)
        have hn221 : (l116.set k118 false).length = (List.replicate 256 false).length := by rw [List.length_set]; exact hn117
        refine TL.op z (storeS false z sz4 z z z z encB_len encB_one (by omega) (by omega) ?_)
        exact TL.nil (B.n (S.n (cf ((l116.set k118 false), ()) ⟨hh, hn221⟩ (Sub.f [3, 3, 3] 4))))
   ·replace hh := iteO_f h123 hh
    replace h123 := of_decide_eq_false h123
    refine TL.f z (TL.w z (pickFB z z z) (TL.j z z (TL.f z (TL.w z (pickFB z z z) (TL.j z z (TL.g z (moveI (.inl z) z) (TL.g z (OpVal.eql z z z) (TL.g z (moveB (.inl z) z) (TL.split 35 z (fun h222 => ?_) (fun h222 => ?_))))))))))
    ·replace hh := iteO_t h222 hh
     replace h222 := of_decide_eq_true h222
     refine TL.g z (moveB (.inl z) z) (TL.g z (moveB (.inl z) z) (TL.split 37 z (fun h223 => ?_) (fun h223 => ?_)))
     ·replace hh := iteO_t h223 hh
      refine TL.f z (TL.g z (pickTB z z z) (TL.g z (pickTB z z z) (TL.w z (pickFB z z z) (TL.j z z (TL.f z (TL.f z (TL.f z (TL.f z (TL.f z (TL.f z (TL.f z (TL.f z (TL.f z (TL.w z (pickTB z z z) (TL.j z z ?_)))))))))))))))
      refine TL.f z (TL.f z (TL.f z (TL.f z (TL.f z (TL.f z (TL.w z (pickTB z z z) ?_))))))
      have u56 := grd_c hh
      replace hh := grd_t hh
      refine TL.isSl (i := 3) z (fun hs224 _ _ => ?_)
      refine TL.w z (indexN z underlying66 sz4 z z hs224 (by omega)) (TL.front 3 z z ?_)
      have hn225 : (l116.set k118 true).length = (List.replicate 256 false).length := by rw [List.length_set]; exact hn117
      refine TL.op z (storeS true z sz4 z z z z encB_len encB_one (by omega) (by omega) ?_)
      exact TL.nil (B.n (S.n (cf ((l116.set k118 true), ()) ⟨hh, hn225⟩ (Sub.f [3, 3, 3] 4))))
     ·replace hh := iteO_f h223 hh
      refine TL.g z (moveB (.inl z) z) (TL.g z (pickFB z z z) (TL.g z (pickTB z z z) (TL.w z (pickFB z z z) (TL.j z z (TL.split 42 z (fun h226 => ?_) (fun h226 => ?_))))))
      ·replace hh := iteO_t h226 hh
       refine TL.f z (TL.f z (TL.f z (TL.f z (TL.f z (TL.f z (TL.f z (TL.f z (TL.f z (TL.w z (pickTB z z z) (TL.j z z (TL.f z (TL.f z (TL.f z (TL.f z (TL.f z ?_)))))))))))))))
       refine TL.f z (TL.w z (pickTB z z z) ?_)
       have u56 := grd_c hh
       replace hh := grd_t hh
       refine TL.isSl (i := 3) z (fun hs227 _ _ => ?_)
       refine TL.w z (indexN z underlying66 sz4 z z hs227 (by omega)) (TL.front 3 z z ?_)
       have hn228 : (l116.set k118 true).length = (List.replicate 256 false).length := by rw [List.length_set]; exact hn117
       refine TL.op z (storeS true z sz4 z z z z encB_len encB_one (by omega) (by omega) ?_)
       exact TL.nil (B.n (S.n (cf ((l116.set k118 true), ()) ⟨hh, hn228⟩ (Sub.f [3, 3, 3] 4))))
      ·replace hh := iteO_f h226 hh
       refine TL.g z (moveI (.inl z) z) (TL.g z (OpVal.eql z z z) (TL.g z (moveB (.inl z) z) (TL.split 45 z (fun h229 => ?_) (fun h229 => ?_))))
       ·replace hh := iteO_t h229 hh
        replace h229 := of_decide_eq_true h229
        refine TL.g z (moveB (.inl z) z) (TL.g z (pickTB z z z) (TL.g z (moveB (.inl z) z) (TL.split 48 z (fun h230 => ?_) (fun h230 => ?_))))
        ·replace hh := iteO_t h230 hh
         refine TL.g z (moveB (.inl z) z) (TL.g z (OpVal.not z z) (TL.g z (pickTB z z z) (TL.w z (pickFB z z z) (TL.j z z (TL.split 53 z (fun h231 => ?_) (fun h231 => ?_))))))
         ·replace hh := iteO_t h231 hh
          refine TL.f z (TL.f z (TL.f z (TL.f z (TL.f z (TL.f z (TL.w z (pickTB z z z) ?_))))))
          have u56 := grd_c hh
          replace hh := grd_t hh
          refine TL.isSl (i := 3) z (fun hs232 _ _ => ?_)
          refine TL.w z (indexN z underlying66 sz4 z z hs232 (by omega)) (TL.front 3 z z ?_)
          have hn233 : (l116.set k118 true).length = (List.replicate 256 false).length := by rw [List.length_set]; exact hn117
          refine TL.op z (storeS true z sz4 z z z z encB_len encB_one (by omega) (by omega) ?_)
          exact TL.nil (B.n (S.n (cf ((l116.set k118 true), ()) ⟨hh, hn233⟩ (Sub.f [3, 3, 3] 4))))
         ·replace hh := iteO_f h231 hh
          refine TL.g z (moveI (.inl z) z) (TL.g z (OpVal.eql z z z) (TL.g z (moveB (.inl z) z) (TL.split 56 z (fun h234 => ?_) (fun h234 => ?_))))
          ·replace hh := iteO_t h234 hh
           replace h234 := of_decide_eq_true h234
           refine TL.g z (moveB (.inl z) z) (TL.g z (OpVal.not z z) (TL.g z (pickTB z z z) (TL.w z (pickFB z z z) ?_)))
           have u56 := grd_c hh
           replace hh := grd_t hh
           refine TL.isSl (i := 3) z (fun hs235 _ _ => ?_)
           refine TL.w z (indexN z underlying66 sz4 z z hs235 (by omega)) (TL.front 3 z z ?_)
           have hn236 : (l116.set k118 (!(x0.has k118))).length = (List.replicate 256 false).length := by rw [List.length_set]; exact hn117
           refine TL.op z (storeS (!(x0.has k118)) z sz4 z z z z encB_len encB_one (by omega) (by omega) ?_)
           exact TL.nil (B.n (S.n (cf ((l116.set k118 (!(x0.has k118))), ()) ⟨hh, hn236⟩ (Sub.f [3, 3, 3] 4))))
          ·replace hh := iteO_f h234 hh
           replace h234 := of_decide_eq_false h234
           refine TL.f z (TL.f z (TL.g z (pickFB z z z) (TL.w z (pickFB z z z) ?_)))
           have u56 := grd_c hh
           replace hh := grd_t hh
           refine TL.isSl (i := 3) z (fun hs237 _ _ => ?_)
           refine TL.w z (indexN z underlying66 sz4 z z hs237 (by omega)) (TL.front 3 z z ?_)
           have hn238 : (l116.set k118 false).length = (List.replicate 256 false).length := by rw [List.length_set]; exact hn117
           refine TL.op z (storeS false z sz4 z z z z encB_len encB_one (by omega) (by omega) ?_)
           exact TL.nil (B.n (S.n (cf ((l116.set k118 false), ()) ⟨hh, hn238⟩ (Sub.f [3, 3, 3] 4))))
        ·replace hh := iteO_f h230 hh
         refine TL.f z (TL.f z (TL.g z (pickFB z z z) (TL.w z (pickFB z z z) (TL.j z z (TL.g z (moveI (.inl z) z) (TL.g z (OpVal.eql z z z) (TL.g z (moveB (.inl z) z) (TL.split 56 z (fun h239 => ?_) (fun h239 => ?_)))))))))
         ·replace hh := iteO_t h239 hh
          replace h239 := of_decide_eq_true h239
          refine TL.g z (moveB (.inl z) z) (TL.g z (OpVal.not z z) (TL.g z (pickTB z z z) (TL.w z (pickFB z z z) ?_)))
          have u56 := grd_c hh
          replace hh := grd_t hh
          refine TL.isSl (i := 3) z (fun hs240 _ _ => ?_)
          refine TL.w z (indexN z underlying66 sz4 z z hs240 (by omega)) (TL.front 3 z z ?_)
          have hn241 : (l116.set k118 (!(x0.has k118))).length = (List.replicate 256 false).length := by rw [List.length_set]; exact hn117
          refine TL.op z (storeS (!(x0.has k118)) z sz4 z z z z encB_len encB_one (by omega) (by omega) ?_)
          exact TL.nil (B.n (S.n (cf ((l116.set k118 (!(x0.has k118))), ()) ⟨hh, hn241⟩ (Sub.f [3, 3, 3] 4))))
         ·replace hh := iteO_f h239 hh
          replace h239 := of_decide_eq_false h239
          refine TL.f z (TL.f z (TL.g z (pickFB z z z) (TL.w z (pickFB z z z) ?_)))
          have u56 := grd_c hh
          replace hh := grd_t hh
          refine TL.isSl (i := 3) z (fun hs242 _ _ => ?_)
          refine TL.w z (indexN z underlying66 sz4 z z hs242 (by omega)) (TL.front 3 z z ?_)
          have hn243 : (l116.set k118 false).length = (List.replicate 256 false).length := by rw [List.length_set]; exact hn117
          refine TL.op z (storeS false z sz4 z z z z encB_len encB_one (by omega) (by omega) ?_)
          exact TL.nil (B.n (S.n (cf ((l116.set k118 false), ()) ⟨hh, hn243⟩ (Sub.f [3, 3, 3] 4))))
       ·replace hh := iteO_f h229 hh
        replace h229 := of_decide_eq_false h229
        refine TL.f z (TL.g z (pickFB z z z) (TL.g z (moveB (.inl z) z) (TL.f z (TL.f z (TL.g z (pickFB z z z) (TL.w z (pickFB z z z) (TL.j z z (TL.g z (moveI (.inl z) z) (TL.g z (OpVal.eql z z z) (TL.g z (moveB (.inl z) z) (TL.split 56 z (fun h244 => ?_) (fun h244 => ?_))))))))))))
        ·replace hh := iteO_t h244 hh
         replace h244 := of_decide_eq_true h244
         refine TL.g z (moveB (.inl z) z) (TL.g z (OpVal.not z z) (TL.g z (pickTB z z z) (TL.w z (pickFB z z z) ?_)))
         have u56 := grd_c hh
         replace hh := grd_t hh
         refine TL.isSl (i := 3) z (fun hs245 _ _ => ?_)
         refine TL.w z (indexN z underlying66 sz4 z z hs245 (by omega)) (TL.front 3 z z ?_)
         have hn246 : (l116.set k118 (!(x0.has k118))).length = (List.replicate 256 false).length := by rw [List.length_set]; exact hn117
         refine TL.op z (storeS (!(x0.has k118)) z sz4 z z z z encB_len encB_one (by omega) (by omega) ?_)
         exact TL.nil (B.n (S.n (cf ((l116.set k118 (!(x0.has k118))), ()) ⟨hh, hn246⟩ (Sub.f [3, 3, 3] 4))))
        ·replace hh := iteO_f h244 hh
         replace h244 := of_decide_eq_false h244
         refine TL.f z (TL.f z (TL.g z (pickFB z z z) (TL.w z (pickFB z z z) ?_)))
         have u56 := grd_c hh
         replace hh := grd_t hh
         refine TL.isSl (i := 3) z (fun hs247 _ _ => ?_)
         refine TL.w z (indexN z underlying66 sz4 z z hs247 (by omega)) (TL.front 3 z z ?_)
         have hn248 : (l116.set k118 false).length = (List.replicate 256 false).length := by rw [List.length_set]; exact hn117
         refine TL.op z (storeS false z sz4 z z z z encB_len encB_one (by omega) (by omega) ?_)
         exact TL.nil (B.n (S.n (cf ((l116.set k118 false), ()) ⟨hh, hn248⟩ (Sub.f [3, 3, 3] 4))))
    ·replace hh := iteO_f h222 hh
     replace h222 := of_decide_eq_false h222
     refine TL.f z (TL.f z (TL.f z (TL.f z (TL.g z (pickFB z z z) (TL.w z (pickFB z z z) (TL.j z z (TL.g z (moveI (.inl z) z) (TL.g z (OpVal.eql z z z) (TL.g z (moveB (.inl z) z) (TL.split 45 z (fun h249 => ?_) (fun h249 => ?_)))))))))))
     ·replace hh := iteO_t h249 hh
      replace h249 := of_decide_eq_true h249
      refine TL.g z (moveB (.inl z) z) (TL.g z (pickTB z z z) (TL.g z (moveB (.inl z) z) (TL.split 48 z (fun h250 => ?_) (fun h250 => ?_))))
      ·replace hh := iteO_t h250 hh
       refine TL.g z (moveB (.inl z) z) (TL.g z (OpVal.not z z) (TL.g z (pickTB z z z) (TL.w z (pickFB z z z) (TL.j z z (TL.split 53 z (fun h251 => ?_) (fun h251 => ?_))))))
       ·replace hh := iteO_t h251 hh
        refine TL.f z (TL.f z (TL.f z (TL.f z (TL.f z (TL.f z (TL.w z (pickTB z z z) ?_))))))
        have u56 := grd_c hh
        replace hh := grd_t hh
        refine TL.isSl (i := 3) z (fun hs252 _ _ => ?_)
        refine TL.w z (indexN z underlying66 sz4 z z hs252 (by omega)) (TL.front 3 z z ?_)
        have hn253 : (l116.set k118 true).length = (List.replicate 256 false).length := by rw [List.length_set]; exact hn117
        refine TL.op z (storeS true z sz4 z z z z encB_len encB_one (by omega) (by omega) ?_)
        exact TL.nil (B.n (S.n (cf ((l116.set k118 true), ()) ⟨hh, hn253⟩ (Sub.f [3, 3, 3] 4))))
       ·replace hh := iteO_f h251 hh
        refine TL.g z (moveI (.inl z) z) (TL.g z (OpVal.eql z z z) (TL.g z (moveB (.inl z) z) (TL.split 56 z (fun h254 => ?_) (fun h254 => ?_))))
        ·replace hh := iteO_t h254 hh
         replace h254 := of_decide_eq_true h254
         refine TL.g z (moveB (.inl z) z) (TL.g z (OpVal.not z z) (TL.g z (pickTB z z z) (TL.w z (pickFB z z z) ?_)))
         have u56 := grd_c hh
         replace hh := grd_t hh
         refine TL.isSl (i := 3) z (fun hs255 _ _ => ?_)
         refine TL.w z (indexN z underlying66 sz4 z z hs255 (by omega)) (TL.front 3 z z ?_)
         have hn256 : (l116.set k118 (!(x0.has k118))).length = (List.replicate 256 false).length := by rw [List.length_set]; exact hn117
         refine TL.op z (storeS (!(x0.has k118)) z sz4 z z z z encB_len encB_one (by omega) (by omega) ?_)
         exact TL.nil (B.n (S.n (cf ((l116.set k118 (!(x0.has k118))), ()) ⟨hh, hn256⟩ (Sub.f [3, 3, 3] 4))))
        ·replace hh := iteO_f h254 hh
         replace h254 := of_decide_eq_false h254
         refine TL.f z (TL.f z (TL.g z (pickFB z z z) (TL.w z (pickFB z z z) ?_)))
         have u56 := grd_c hh
         replace hh := grd_t hh
         refine TL.isSl (i := 3) z (fun hs257 _ _ => ?_)
         refine TL.w z (indexN z underlying66 sz4 z z hs257 (by omega)) (TL.front 3 z z ?_)
         have hn258 : (l116.set k118 false).length = (List.replicate 256 false).length := by rw [List.length_set]; exact hn117
         refine TL.op z (storeS false z sz4 z z z z encB_len encB_one (by omega) (by omega) ?_)
         exact TL.nil (B.n (S.n (cf ((l116.set k118 false), ()) ⟨hh, hn258⟩ (Sub.f [3, 3, 3] 4))))
      ·replace hh := iteO_f h250 hh
       refine TL.f z (TL.f z (TL.g z (pickFB z z z) (TL.w z (pickFB z z z) (TL.j z z (TL.g z (moveI (.inl z) z) (TL.g z (OpVal.eql z z z) (TL.g z (moveB (.inl z) z) (TL.split 56 z (fun h259 => ?_) (fun h259 => ?_)))))))))
       ·replace hh := iteO_t h259 hh
        replace h259 := of_decide_eq_true h259
        refine TL.g z (moveB (.inl z) z) (TL.g z (OpVal.not z z) (TL.g z (pickTB z z z) (TL.w z (pickFB z z z) ?_)))
        have u56 := grd_c hh
        replace hh := grd_t hh
        refine TL.isSl (i := 3) z (fun hs260 _ _ => ?_)
        refine TL.w z (indexN z underlying66 sz4 z z hs260 (by omega)) (TL.front 3 z z ?_)
        have hn261 : (l116.set k118 (!(x0.has k118))).length = (List.replicate 256 false).length := by rw [List.length_set]; exact hn117
        refine TL.op z (storeS (!(x0.has k118)) z sz4 z z z z encB_len encB_one (by omega) (by omega) ?_)
        exact TL.nil (B.n (S.n (cf ((l116.set k118 (!(x0.has k118))), ()) ⟨hh, hn261⟩ (Sub.f [3, 3, 3] 4))))
       ·replace hh := iteO_f h259 hh
        replace h259 := of_decide_eq_false h259
        refine TL.f z (TL.f z (TL.g z (pickFB z z z) (TL.w z (pickFB z z z) ?_)))
        have u56 := grd_c hh
        replace hh := grd_t hh
        refine TL.isSl (i := 3) z (fun hs262 _ _ => ?_)
        refine TL.w z (indexN z underlying66 sz4 z z hs262 (by omega)) (TL.front 3 z z ?_)
        have hn263 : (l116.set k118 false).length = (List.replicate 256 false).length := by rw [List.length_set]; exact hn117
        refine TL.op z (storeS false z sz4 z z z z encB_len encB_one (by omega) (by omega) ?_)
        exact TL.nil (B.n (S.n (cf ((l116.set k118 false), ()) ⟨hh, hn263⟩ (Sub.f [3, 3, 3] 4))))
     ·replace hh := iteO_f h249 hh
      replace h249 := of_decide_eq_false h249
      refine TL.f z (TL.g z (pickFB z z z) (TL.g z (moveB (.inl z) z) (TL.f z (TL.f z (TL.g z (pickFB z z z) (TL.w z (pickFB z z z) (TL.j z z (TL.g z (moveI (.inl z) z) (TL.g z (OpVal.eql z z z) (TL.g z (moveB (.inl z) z) (TL.split 56 z (fun h264 => ?_) (fun h264 => ?_))))))))))))
      ·replace hh := iteO_t h264 hh
       replace h264 := of_decide_eq_true h264
       refine TL.g z (moveB (.inl z) z) (TL.g z (OpVal.not z z) (TL.g z (pickTB z z z) (TL.w z (pickFB z z z) ?_)))
       have u56 := grd_c hh
       replace hh := grd_t hh
       refine TL.isSl (i := 3) z (fun hs265 _ _ => ?_)
       refine TL.w z (indexN z underlying66 sz4 z z hs265 (by omega)) (TL.front 3 z z ?_)
       have hn266 : (l116.set k118 (!(x0.has k118))).length = (List.replicate 256 false).length := by rw [List.length_set]; exact hn117
       refine TL.op z (storeS (!(x0.has k118)) z sz4 z z z z encB_len encB_one (by omega) (by omega) ?_)
       exact TL.nil (B.n (S.n (cf ((l116.set k118 (!(x0.has k118))), ()) ⟨hh, hn266⟩ (Sub.f [3, 3, 3] 4))))
      ·replace hh := iteO_f h264 hh
       replace h264 := of_decide_eq_false h264
       refine TL.f z (TL.f z (TL.g z (pickFB z z z) (TL.w z (pickFB z z z) ?_)))
       have u56 := grd_c hh
       replace hh := grd_t hh
       refine TL.isSl (i := 3) z (fun hs267 _ _ => ?_)
       refine TL.w z (indexN z underlying66 sz4 z z hs267 (by omega)) (TL.front 3 z z ?_)
       have hn268 : (l116.set k118 false).length = (List.replicate 256 false).length := by rw [List.length_set]; exact hn117
       refine TL.op z (storeS false z sz4 z z z z encB_len encB_one (by omega) (by omega) ?_)
       exact TL.nil (B.n (S.n (cf ((l116.set k118 false), ()) ⟨hh, hn268⟩ (Sub.f [3, 3, 3] 4))))
  ·skip
   obtain ⟨l121, _⟩ := g
   obtain ⟨hh, hn122⟩ := hg
   try dsimp only at hn122 ⊢
   dsimp only [whittleref01_By_j1] at hh
   have hn122b := hn122
   refine TC.isSl (i := 3) z (fun _ hb269 _ => ?_)
   refine TC.region (TL.i z z (TL.w z (OpVal.succ z z z (by omega)) (TL.i z z (TL.en ?_))))
   obtain ⟨hh, hlt270⟩ := nxt_x hR1 hh
   exact lf ((l121, (k118 + 1)), ()) hlt270 ⟨hh, hn122⟩ (Sub.f [3, 3, 3, 3] 4)
 ·refine TC.exit (S.x (S.x ?_))
  replace hh := fin_x hR1 hh
  refine TC.exitHere (S.n (TC.a (TL.s z z (TL.front 3 z z ?_))))
  have u62 := grd_c hh
  replace hh := grd_t hh
  refine TL.op z (callT (make_conN hn117 u62) z z pf49 z z z z ?_)
  refine TL.front 2 z z (TL.op z (storeAll z sz36 z z z z z z ?_))
  refine TL.en (TC.rt 1 ?_)
  obtain rfl := so hh
  exact ro [] z (RVs.agg ag36 sz36 z (i := 0) z z RVs.nil) ⟨z, z, z⟩

noncomputable def whittleref03_Begins (x0 : List UInt8) (x1 : List UInt8) : Option (Bool) :=
 grd (x0.length ≤ 281474976710656) (grd (x1.length ≤ 281474976710656) (iteO (decide (((x0.length : Nat) : Int) ≤ ((x1.length : Nat) : Int))) (grd (0 ≤ x0.length ∧ x0.length ≤ x1.length) (some (decide ((x1.take x0.length) = x0)))) (some false)))
theorem whittleref03_Begins_con {σ : Store} {x0 : List UInt8} {x1 : List UInt8}  {r : Bool} (hh : whittleref03_Begins x0 x1 = some r) :
  Con Tryz.prog 74 #[.string (bs x0), .string (bs x1)] σ [] (PureP (.bool r) σ) := by
 dsimp only [whittleref03_Begins] at hh
 refine Con.mk (n := 18) Tryz.func74 z z z (fun w0 => ?_)
 have x0b := grd_c hh
 replace hh := grd_t hh
 have x1b := grd_c hh
 replace hh := grd_t hh
 refine TC.a (TL.j z z (TL.en (TC.a (TL.w z (moveStr (.inl z) z) (TL.w z (lenBs z underlying9 z) (TL.w z (moveStr (.inl z) z) (TL.w z (lenBs z underlying9 z) (TL.w z (OpVal.leq z z z) (TL.j z z (TL.split 10 z (fun h101 => ?_) (fun h101 => ?_)))))))))))
 ·replace hh := iteO_t h101 hh
  replace h101 := of_decide_eq_true h101
  refine TL.g z (moveStr (.inl z) z) (TL.g z (moveStr (.inl z) z) (TL.g z (lenBs z underlying9 z) ?_))
  have u11 := grd_c hh
  replace hh := grd_t hh
  refine TL.g z (sliceBsH (l := x1) (j := x0.length) z underlying9 z z (by omega) (by omega)) (TL.g z (moveStr (.inl z) z) (TL.g z (eqlBs z z z) (TL.w z (pickTB z z z) (TL.j z z (TL.en (TC.ret ?_))))))
  obtain rfl := so hh
  exact rq [4] ⟨z, z, z⟩
 ·replace hh := iteO_f h101 hh
  replace h101 := of_decide_eq_false h101
  refine TL.f z (TL.f z (TL.f z (TL.f z (TL.f z (TL.f z (TL.w z (pickFB z z z) (TL.j z z (TL.en (TC.ret ?_)))))))))
  obtain rfl := so hh
  exact rq [4] ⟨z, z, z⟩

noncomputable def whittleref03_Lcp_j1 (k111 : Nat) (t113 : Bool) : Option ((Bool × Nat) ⊕ ((Int) ⊕ ((List UInt8)))) :=
 nxt (t113, (k111 + 1))
noncomputable def whittleref03_Lcp_b2 (x0 : List (List UInt8)) (i104 : Int) (t110 : Bool) (k111 : Nat) : Option ((Bool × Nat) ⊕ ((Int) ⊕ ((List UInt8)))) :=
 iteO (decide (((k111 : Nat) : Int) < ((x0.length : Nat) : Int))) (iteO t110 (grd (0 < x0.length) (grd (0 ≤ i104 ∧ 0 ≤ i104.toNat ∧ i104.toNat ≤ (nth x0 0 ([] : List UInt8)).length) (bnd (whittleref03_Begins ((nth x0 0 ([] : List UInt8)).take i104.toNat) (nth x0 k111 ([] : List UInt8))) (fun v30 => whittleref03_Lcp_j1 k111 v30)))) (whittleref03_Lcp_j1 k111 false)) (fin (iteO t110 (grd (0 < x0.length) (grd (0 ≤ i104 ∧ 0 ≤ i104.toNat ∧ i104.toNat ≤ (nth x0 0 ([] : List UInt8)).length) (fin (some ((nth x0 0 ([] : List UInt8)).take i104.toNat))))) (nxt (IntKind.i64.wrap (i104 - 1)))))
noncomputable def whittleref03_Lcp_b1 (x0 : List (List UInt8)) (i104 : Int) : Option ((Int) ⊕ ((List UInt8))) :=
 iteO (decide (0 < i104)) (iter (fun q : Bool × Nat => whittleref03_Lcp_b2 x0 i104 q.1 q.2) (true, 0)) (fin (some ([] : List UInt8)))
noncomputable def whittleref03_Lcp (x0 : List (List UInt8)) : Option ((List UInt8)) :=
 iteO (decide (((x0.length : Nat) : Int) = 0)) (some ([] : List UInt8)) (grd (0 < x0.length) (iter (fun q : Int => whittleref03_Lcp_b1 x0 q) (((nth x0 0 ([] : List UInt8)).length : Nat) : Int)))
theorem whittleref03_Lcp_con {σ : Store} {x0 : List (List UInt8)} {a0_0 : Option Addr} {c0_0 : Nat} (f0_0 : RS σ 1 Go.E.encS (.slice a0_0 x0.length c0_0) x0) {r : (List UInt8)} (hh : whittleref03_Lcp x0 = some r) :
  Con Tryz.prog 61 #[.slice a0_0 x0.length c0_0] σ [] (PureP (.string (bs r)) σ) := by
 dsimp only [whittleref03_Lcp] at hh
 have f0_0b := f0_0.rv.big
 refine Con.mk (n := 42) Tryz.func61 z z z (fun w0 => ?_)
 refine TC.a (TL.w z (moveStr (.inr z) z) (TL.en (TC.seq (TC.a (TL.s z z (TL.w z (lenC z underlying106 z) (TL.w z (OpVal.eql z z z) (TL.en (TC.cD z hh (fun h101 hh => ?_) (fun h101 hh => ?_))))))))))
 ·refine TC.a (TL.w z (moveStr (.inr z) z) (TL.en (TC.ret (S.r ?_))))
  obtain rfl := so hh
  exact rq [2] ⟨z, z, z⟩
 ·refine TC.skip (S.n (TC.seq (TC.a (TL.s z z ?_))))
  have u7 := grd_c hh
  replace hh := grd_t hh
  refine TL.w z (indexN (i := 0) z underlying106 sz9 z z f0_0.rv.sl (by omega)) (TL.w z (loadS1 ([] : List UInt8) z ag9 z f0_0 (by omega) z) (TL.w z (lenBs z underlying9 z) (TL.i z z (TL.en (TC.block (TC.loopG (α := (Int) × (Unit)) (rgs [(2, 4), (13, 29)]) (fun g => [(3, .int .i64 g.1)]) (fun g => []) (fun g => σ) (fun g => iter (fun q : Int => whittleref03_Lcp_b1 x0 q) g.1 = some r) (fun g => rounds (fun q : Int => whittleref03_Lcp_b1 x0 q) g.1) ((((nth x0 0 ([] : List UInt8)).length : Nat) : Int), ()) (Sub.pre 0 z) z (by repeat (first | exact trivial | refine ⟨z, ?_⟩)) hh (fun g1 j1 hg1 => ?_)))))))
  obtain ⟨i104, _⟩ := g1
  have hh := hg1; clear hg1
  try dsimp only
  obtain ⟨z1, hh, hR1⟩ := iter_e hh
  dsimp only [whittleref03_Lcp_b1] at hh
  refine TC.seq (TC.a (TL.i z z (TL.w z (OpVal.gtr z z z) (TL.en (TC.cD z hh (fun h105 hh => ?_) (fun h105 hh => ?_))))))
  ·refine TC.skip (S.n (TC.seq (TC.block (TC.a (TL.j z z (TL.en (TC.seq (TC.a (TL.i z z (TL.en (TC.block (TC.loopG (α := (Bool × Nat) × (Unit)) (rgs [(4, 2), (17, 19)]) (fun g => [(4, .bool g.1.1), (5, .int .i64 ((g.1.2 : Nat) : Int))]) (fun g => []) (fun g => σ) (fun g => iter (fun q : Bool × Nat => whittleref03_Lcp_b2 x0 i104 q.1 q.2) g.1 = some z1) (fun g => rounds (fun q : Bool × Nat => whittleref03_Lcp_b2 x0 i104 q.1 q.2) g.1) ((true, 0), ()) (Sub.pre 0 z) z (by repeat (first | exact trivial | refine ⟨z, ?_⟩)) hh (fun g2 j2 hg2 => ?_)))))))))))))
   obtain ⟨⟨t110, k111⟩, _⟩ := g2
   have hh := hg2; clear hg2
   try dsimp only
   obtain ⟨z2, hh, hR2⟩ := iter_e hh
   dsimp only [whittleref03_Lcp_b2] at hh
   refine TC.seq (TC.a (TL.i z z (TL.s z z (TL.w z (lenC z underlying106 z) (TL.w z (OpVal.lss z z z) (TL.en (TC.cD z hh (fun h112 hh => ?_) (fun h112 hh => ?_))))))))
   ·refine TC.skip (S.n (TC.cutG (α := (Bool) × (Unit)) (rgs [(4, 1), (23, 13)]) (fun g => [(4, .bool g.1)]) (fun g => []) (fun g => σ) (fun g => whittleref03_Lcp_j1 k111 g.1 = some z2) ?_ (fun g j hg => ?_)))
    ·skip
     refine TC.block (TC.draw [] (by kernel_rfl) (TA.a 0 z (moveB (.inl z) z) z (TA.a 1 z (moveB (.inl z) z) z (TA.split 24 z (fun h114 => ?_) (fun h114 => ?_)))))
     ·replace hh := iteO_t h114 hh
      refine TA.on 2 z z z z (moveSl (.inl z) z) z ?_
      have u22 := grd_c hh
      replace hh := grd_t hh
      refine TA.on 3 z z z z (indexN (i := 0) z underlying106 sz9 z z f0_0.rv.sl (by omega)) z (TA.on 4 z z z z (loadS1 ([] : List UInt8) z ag9 z f0_0 (by omega) z) z (TA.on 5 z z z z (moveI (.inl z) z) z ?_))
      have u25 := grd_c hh
      replace hh := grd_t hh
      refine TA.on 6 rfl rfl rfl rfl (sliceBsH (l := (nth x0 0 ([] : List UInt8))) (j := i104.toNat) rfl underlying9 rfl (by show Value.int _ _ = _; rw [Int.toNat_of_nonneg (by omega)]) (by omega) (by omega)) rfl (TA.on 7 z z z z (moveSl (.inl z) z) z (TA.on 8 z z z z (moveI (.inl z) z) z (TA.on 9 z z z z (indexN z underlying106 sz9 z z f0_0.rv.sl (by omega)) z (TA.on 10 z z z z (loadS1 ([] : List UInt8) z ag9 z f0_0 (by omega) z) z ?_))))
      obtain ⟨v30, u30, hh⟩ := bnd_e hh
      refine TA.actOn 11 (by kernel_rfl) z z z z z z (callP (whittleref03_Begins_con u30) z z pf74 z z z (k0 ?_))
      exact TA.a 12 z (pickTB z z z) z (TA.a 13 z (moveB (.inr z) z) z (TA.dn (B.n (S.n (cf (v30, ()) hh (Sub.pre 0 z))))))
     ·replace hh := iteO_f h114 hh
      exact TA.off 2 z z z z z z (TA.off 3 z z z z z z (TA.off 4 z z z z z z (TA.off 5 z z z z z z (TA.off 6 z z z z z z (TA.off 7 z z z z z z (TA.off 8 z z z z z z (TA.off 9 z z z z z z (TA.off 10 z z z z z z (TA.off 11 z z z z z z (TA.a 12 z (pickFB z z z) z (TA.a 13 z (moveB (.inr z) z) z (TA.dn (B.n (S.n (cf (false, ()) hh (Sub.pre 0 z))))))))))))))))
    ·skip
     obtain ⟨t113, _⟩ := g
     have hh := hg; clear hg
     try dsimp only
     dsimp only [whittleref03_Lcp_j1] at hh
     refine TC.region (TL.i z z (TL.w z (OpVal.succ z z z (by omega)) (TL.i z z (TL.en ?_))))
     obtain ⟨hh, hlt115⟩ := nxt_x hR2 hh
     exact lf ((t113, (k111 + 1)), ()) hlt115 hh (Sub.pre 0 z)
   ·refine TC.exit (S.x (S.x ?_))
    replace hh := fin_x hR2 hh
    refine TC.exitHere (S.n (TC.a (TL.j z z (TL.en (TC.cB z hh (fun h116 hh => ?_) (fun h116 hh => ?_))))))
    ·refine TC.a (TL.s z z ?_)
     have u38 := grd_c hh
     replace hh := grd_t hh
     refine TL.w z (indexN (i := 0) z underlying106 sz9 z z f0_0.rv.sl (by omega)) (TL.w z (loadS1 ([] : List UInt8) z ag9 z f0_0 (by omega) z) (TL.i z z ?_))
     have u41 := grd_c hh
     replace hh := grd_t hh
     refine TL.w rfl (sliceBsH (l := (nth x0 0 ([] : List UInt8))) (j := i104.toNat) rfl underlying9 rfl (by show Value.int _ _ = _; rw [Int.toNat_of_nonneg (by omega)]) (by omega) (by omega)) (TL.w z (moveStr (.inr z) z) (TL.en (TC.ret (B.r (S.r (S.r ?_))))))
     replace hh := fin_x hR1 hh
     refine B.r (S.r ?_)
     obtain rfl := so hh
     exact rq [2] ⟨z, z, z⟩
    ·refine TC.skip (B.n (S.n (TC.region (TL.i z z (TL.w z (subW z z z) (TL.i z z (TL.en ?_)))))))
     obtain ⟨hh, hlt117⟩ := nxt_x hR1 hh
     exact lf ((IntKind.i64.wrap (i104 - 1)), ()) hlt117 hh (Sub.pre 0 z)
  ·refine TC.exit (S.x (S.x ?_))
   replace hh := fin_x hR1 hh
   refine TC.exitHere (S.n (TC.a (TL.w z (moveStr (.inr z) z) (TL.en (TC.ret ?_)))))
   obtain rfl := so hh
   exact rq [2] ⟨z, z, z⟩

noncomputable def whittleref03_Lag (x0 : List UInt8) (x1 : List UInt8) : Option ((List UInt8) × (List UInt8)) :=
 grd (x0.length ≤ 281474976710656) (grd (x1.length ≤ 281474976710656) (bnd (whittleref03_Lcp [x0, x1]) (fun v6 => grd (v6.length ≤ x0.length ∧ x0.length ≤ x0.length) (grd (v6.length ≤ x1.length ∧ x1.length ≤ x1.length) (some ((x0.drop v6.length), (x1.drop v6.length)))))))
theorem whittleref03_Lag_con {σ : Store} {x0 : List UInt8} {x1 : List UInt8}  {r : (List UInt8) × (List UInt8)} (hh : whittleref03_Lag x0 x1 = some r) :
  Con Tryz.prog 48 #[.string (bs x0), .string (bs x1)] σ [] (PureP (.tuple #[.string (bs r.1), .string (bs r.2)]) σ) := by
 dsimp only [whittleref03_Lag] at hh
 refine Con.mk (n := 18) Tryz.func48 z z z (fun w0 => ?_)
 have x0b := grd_c hh
 replace hh := grd_t hh
 have x1b := grd_c hh
 replace hh := grd_t hh
 refine TC.a (TL.w z (moveStr (.inr z) z) (TL.w z (moveStr (.inr z) z) (TL.en (TC.a (TL.w z (moveStr (.inl z) z) (TL.w z (moveStr (.inl z) z) (TL.op z (OpOk.lit (enc := Go.E.encS) [x0, x1] z underlying106 sz9 ze9 z z z Go.E.encS_len (by decide) (by decide) ([] : List UInt8) z (by decide) z (by decide) Go.E.encS_one (fun a101 c102 => ?_)))))))))
 obtain ⟨v6, u6, hh⟩ := bnd_e hh
 refine TL.op z (callK (Con.lend Go.E.encS_len (fun _ hle105 hr104 => whittleref03_Lcp_con hr104 u6)) z z pf61 z z z z ?_)
 refine TL.w z (lenBs z underlying9 z) (TL.i z z (TL.en (TC.seq ?_)))
 have u11 := grd_c hh
 replace hh := grd_t hh
 have u14 := grd_c hh
 replace hh := grd_t hh
 refine TC.draw [] (by kernel_rfl) (TA.a 0 z (moveStr (.inl z) z) z (TA.a 1 z (moveI (.inl z) z) z (TA.b 2 z (sliceBsL (l := x0) (i := v6.length) z underlying9 z z (by omega) (by omega)) z (TA.a 3 z (moveStr (.inl z) z) z (TA.a 4 z (moveI (.inl z) z) z (TA.b 5 z (sliceBsL (l := x1) (i := v6.length) z underlying9 z z (by omega) (by omega)) z (TA.a 6 z (moveStr (.inr z) z) z (TA.a 7 z (moveStr (.inr z) z) z (TA.dn (S.n (TC.rt 0 ?_)))))))))))
 obtain rfl := so hh
 exact rq [4, 5] ⟨z, z, z⟩

noncomputable def whittleref19_lag (x0 : Int) (x1 : Int) (x2 : List UInt8) (x3 : List UInt8) : Option (TLag) :=
 grd (x2.length ≤ 281474976710656) (grd (x3.length ≤ 281474976710656) (bnd (whittleref03_Lag x2 x3) (fun v4 => some (⟨x0, x1, v4.1, v4.2⟩ : TLag))))
theorem whittleref19_lag_con {σ : Store} {x0 : Int} {x1 : Int} {x2 : List UInt8} {x3 : List UInt8}  {r : TLag} (hh : whittleref19_lag x0 x1 x2 x3 = some r) :
  Con Tryz.prog 34 #[.int .i64 x0, .int .i64 x1, .string (bs x2), .string (bs x3)] σ [] (PureP (.agg #[.int .i64 r.p, .int .i64 r.q, .string (bs r.a), .string (bs r.b)]) σ) := by
 dsimp only [whittleref19_lag] at hh
 refine Con.mk (n := 22) Tryz.func34 z z z (fun w0 => ?_)
 have x2b := grd_c hh
 replace hh := grd_t hh
 have x3b := grd_c hh
 replace hh := grd_t hh
 refine TC.a (TL.op z (OpOk.alloc z ze60 z z (fun b101 => ?_)))
 refine TL.en (TC.a (TL.w z (moveStr (.inl z) z) (TL.w z (moveStr (.inl z) z) ?_)))
 obtain ⟨v4, u4, hh⟩ := bnd_e hh
 refine TL.op z (callP (whittleref03_Lag_con u4) z z pf48 z z z ?_)
 refine TL.w z (moveT (.inl z) z) (TL.w z (OpVal.extract z z z) (TL.w z (OpVal.extract z z z) (TL.w z (moveStr (.inr z) z) (TL.w z (moveStr (.inr z) z) (TL.en (TC.a (TL.i z z (TL.i z z (TL.w z (moveStr (.inl z) z) (TL.w z (moveStr (.inl z) z) (TL.w z (buildL z pl60 ze60 z) (TL.op z (storeAll z sz60 z z z z z z ?_)))))))))))))
 refine TL.en (TC.ret ?_)
 obtain rfl := so hh
 exact ro [] z (RVs.agg ag60 sz60 z (i := 0) z z RVs.nil) ⟨z, z, z⟩

noncomputable def whittleref19_Firsts_b2 (x0 : Fst) (k117 : Nat) (l129 : List TLag) (k132 : Nat) : Option (((List TLag) × Nat) ⊕ (((List TLag) × Nat) ⊕ ((List TLag)))) :=
 iteO (decide (((k132 : Nat) : Int) < ((x0.starts.length : Nat) : Int))) (bnd (whittleref19_lag ((nth x0.starts k117 Tip.zero).state) ((nth x0.starts k132 Tip.zero).state) ((nth x0.starts k117 Tip.zero).out) ((nth x0.starts k132 Tip.zero).out)) (fun v41 => grd ((l129.length + [v41].length) * 48 ≤ 140737488355328) (nxt ((l129 ++ [v41]), (k132 + 1))))) (fin (nxt (l129, (k117 + 1))))
noncomputable def whittleref19_Firsts_b1 (x0 : Fst) (l114 : List TLag) (k117 : Nat) : Option (((List TLag) × Nat) ⊕ ((List TLag))) :=
 iteO (decide (((k117 : Nat) : Int) < ((x0.starts.length : Nat) : Int))) (iter (fun q : (List TLag) × Nat => whittleref19_Firsts_b2 x0 k117 q.1 q.2) (l114, 0)) (fin (some l114))
noncomputable def whittleref19_Firsts (x0 : Fst) : Option ((List TLag)) :=
 iter (fun q : (List TLag) × Nat => whittleref19_Firsts_b1 x0 q.1 q.2) (([] : List TLag), 0)
def whittleref19_Firsts_P (σ : Store) (r : (List TLag)) : Value → Store → List Res → Prop := fun v σ' H' =>
 ∃ (a1 : Option Addr), ∃ (c1 : Nat),  v = .slice a1 r.length c1 ∧ σ = σ' ∧ H' = [Res.rowS 60 4 encLag (.slice a1 r.length c1) r]
theorem whittleref19_Firsts_con {σ : Store} {x0 : Fst} {a0_0 : Option Addr} {c0_0 : Nat} {a0_1 : Option Addr} {c0_1 : Nat} {a0_2 : Option Addr} {c0_2 : Nat} (f0_0 : RS σ 2 encTip (.slice a0_0 x0.starts.length c0_0) x0.starts) (f0_1 : RS σ 2 encTip (.slice a0_1 x0.ends.length c0_1) x0.ends) (f0_2 : RS σ 8 encArc (.slice a0_2 x0.arcs.length c0_2) x0.arcs) {r : (List TLag)} (hh : whittleref19_Firsts x0 = some r) :
  Con Tryz.prog 19 #[.agg #[.int .i64 x0.states, .slice a0_0 x0.starts.length c0_0, .slice a0_1 x0.ends.length c0_1, .slice a0_2 x0.arcs.length c0_2]] σ [] (whittleref19_Firsts_P σ r) := by
 dsimp only [whittleref19_Firsts] at hh
 have f0_0b := f0_0.rv.big
 have f0_1b := f0_1.rv.big
 have f0_2b := f0_2.rv.big
 refine Con.mk (n := 49) Tryz.func19 z z z (fun w0 => ?_)
 refine TC.a (TL.op z (boxA z z z z (fun b101 => ?_)))
 refine TL.s z z (TL.en (TC.a (TL.s z z (TL.en (TC.seq (TC.a (TL.i z z (TL.en (TC.block (TC.nilS 60 4 encLag (TC.loopG (α := ((List TLag) × Nat) × ((Option Addr) × Nat)) (rgs [(3, 45)]) (fun g => [(3, .slice g.2.1 g.1.1.length g.2.2), (4, .int .i64 ((g.1.2 : Nat) : Int))]) (fun g => [Res.cells b101 #[.int .i64 x0.states, .slice a0_0 x0.starts.length c0_0, .slice a0_1 x0.ends.length c0_1, .slice a0_2 x0.arcs.length c0_2] 25, Res.rowS 60 4 encLag (.slice g.2.1 g.1.1.length g.2.2) g.1.1]) (fun g => σ) (fun g => iter (fun q : (List TLag) × Nat => whittleref19_Firsts_b1 x0 q.1 q.2) g.1 = some r) (fun g => rounds (fun q : (List TLag) × Nat => whittleref19_Firsts_b1 x0 q.1 q.2) g.1) ((([] : List TLag), 0), (none, 0)) (Sub.f [1] 2) z (by repeat (first | exact trivial | refine ⟨z, ?_⟩)) hh (fun g1 j1 hg1 => ?_))))))))))))
 obtain ⟨⟨l114, k117⟩, ⟨a115, c116⟩⟩ := g1
 have hh := hg1; clear hg1
 try dsimp only
 obtain ⟨z1, hh, hR1⟩ := iter_e hh
 dsimp only [whittleref19_Firsts_b1] at hh
 refine TC.isSl (i := 1) z (fun _ hb119 _ => ?_)
 refine TC.seq (TC.a (TL.i z z (TL.w z (fieldLoc z fo25_1 z) (TL.w z (loadLoc z ag22 z (i := 0) z z) (TL.w z (lenC z underlying22 z) (TL.w z (OpVal.lss z z z) (TL.en (TC.cD z hh (fun h120 hh => ?_) (fun h120 hh => ?_)))))))))
 ·refine TC.skip (S.n (TC.seq (TC.block (TC.a (TL.i z z (TL.en (TC.block (TC.loopG (α := ((List TLag) × Nat) × ((Option Addr) × Nat)) (rgs [(3, 1), (5, 1), (13, 35)]) (fun g => [(3, .slice g.2.1 g.1.1.length g.2.2), (5, .int .i64 ((g.1.2 : Nat) : Int))]) (fun g => [Res.cells b101 #[.int .i64 x0.states, .slice a0_0 x0.starts.length c0_0, .slice a0_1 x0.ends.length c0_1, .slice a0_2 x0.arcs.length c0_2] 25, Res.rowS 60 4 encLag (.slice g.2.1 g.1.1.length g.2.2) g.1.1]) (fun g => σ) (fun g => iter (fun q : (List TLag) × Nat => whittleref19_Firsts_b2 x0 k117 q.1 q.2) g.1 = some z1) (fun g => rounds (fun q : (List TLag) × Nat => whittleref19_Firsts_b2 x0 k117 q.1 q.2) g.1) ((l114, 0), (a115, c116)) (Sub.f [1, 1] 2) z (by repeat (first | exact trivial | refine ⟨z, ?_⟩)) hh (fun g2 j2 hg2 => ?_)))))))))
  obtain ⟨⟨l129, k132⟩, ⟨a130, c131⟩⟩ := g2
  have hh := hg2; clear hg2
  try dsimp only
  obtain ⟨z2, hh, hR2⟩ := iter_e hh
  dsimp only [whittleref19_Firsts_b2] at hh
  refine TC.isSl (i := 1) z (fun _ hb133 _ => ?_)
  refine TC.seq (TC.a (TL.i z z (TL.w z (fieldLoc z fo25_1 z) (TL.w z (loadLoc z ag22 z (i := 0) z z) (TL.w z (lenC z underlying22 z) (TL.w z (OpVal.lss z z z) (TL.en (TC.cD z hh (fun h134 hh => ?_) (fun h134 hh => ?_)))))))))
  ·refine TC.skip (S.n (TC.seq (TC.block ?_)))
   obtain ⟨v41, u41, hh⟩ := bnd_e hh
   have u43 := grd_c hh
   replace hh := grd_t hh
   refine TC.draw [27, 28] (by kernel_rfl) (TA.a 0 z (moveSl (.inl z) z) z (TA.a 1 z (fieldLoc z fo25_1 z) z (TA.b 2 z (loadLoc z ag22 z (i := 0) z z) z (TA.a 3 z (moveI (.inl z) z) z (TA.b 4 z (indexN z underlying22 sz43 z z f0_0.rv.sl (by omega)) z (TA.a 5 z (fieldElem z fo43_0 z f0_0.rv.sl (by omega)) z (TA.b 6 z (loadS Tip.zero z ag3 z f0_0 (by omega) (by omega) z) z (TA.a 7 z (fieldLoc z fo25_1 z) z (TA.b 8 z (loadLoc z ag22 z (i := 0) z z) z (TA.a 9 z (moveI (.inl z) z) z (TA.b 10 z (indexN z underlying22 sz43 z z f0_0.rv.sl (by omega)) z (TA.a 11 z (fieldElem z fo43_0 z f0_0.rv.sl (by omega)) z (TA.b 12 z (loadS Tip.zero z ag3 z f0_0 (by omega) (by omega) z) z (TA.a 13 z (fieldLoc z fo25_1 z) z (TA.b 14 z (loadLoc z ag22 z (i := 0) z z) z ?_)))))))))))))))
   refine TA.a 15 z (moveI (.inl z) z) z (TA.b 16 z (indexN z underlying22 sz43 z z f0_0.rv.sl (by omega)) z (TA.a 17 z (fieldElem z fo43_1 z f0_0.rv.sl (by omega)) z (TA.b 18 z (loadS Tip.zero z ag9 z f0_0 (by omega) (by omega) z) z (TA.a 19 z (fieldLoc z fo25_1 z) z (TA.b 20 z (loadLoc z ag22 z (i := 0) z z) z (TA.a 21 z (moveI (.inl z) z) z (TA.b 22 z (indexN z underlying22 sz43 z z f0_0.rv.sl (by omega)) z (TA.a 23 z (fieldElem z fo43_1 z f0_0.rv.sl (by omega)) z (TA.b 24 z (loadS Tip.zero z ag9 z f0_0 (by omega) (by omega) z) z (TA.ac 25 z (callP (whittleref19_lag_con u41) z z pf34 z z z (k0 ?_))))))))))))
   refine TA.ac 26 z (OpOk.lit (enc := encLag) [v41] z underlying57 sz60 ze60 z z z encLag_len (by decide) (by decide) TLag.zero z (by decide) z (by decide) encLag_one (fun a140 c141 => (k1 ?_)))
   refine TA.front 2 z z (TA.last 27 (by kernel_rfl) z z z (appendS z z underlying57 sz60 by60 ze60 z z (by decide) z z z (.inr ⟨_, 0, z⟩) (by simpa using u43) (by decide) (fun a143 c144 => ?_)))
   refine TZ.v 28 (by kernel_rfl) z z z (moveSl (.inr z) z) z z (TZ.done (by kernel_rfl) (B.n (S.n (TC.region (TL.i z z (TL.w z (OpVal.succ z z z (by omega)) (TL.i z z (TL.en ?_))))))))
   obtain ⟨hh, hlt145⟩ := nxt_x hR2 hh
   exact lf (((l129 ++ [v41]), (k132 + 1)), (a143, c144)) hlt145 hh (Sub.f [2] 2)
  ·refine TC.exit (S.x (S.x ?_))
   replace hh := fin_x hR2 hh
   refine TC.exitHere (B.n (S.n (TC.region (TL.i z z (TL.w z (OpVal.succ z z z (by omega)) (TL.i z z (TL.en ?_)))))))
   obtain ⟨hh, hlt146⟩ := nxt_x hR1 hh
   exact lf ((l129, (k117 + 1)), (a130, c131)) hlt146 hh (Sub.f [1, 1] 2)
 ·refine TC.exit (S.x (S.x ?_))
  replace hh := fin_x hR1 hh
  refine TC.exitHere (S.n (TC.a (TL.s z z (TL.s z z (TL.en (TC.ofSub (Sub.f [1] 1) (TC.ret ?_)))))))
  obtain rfl := so hh
  exact ro [Res.rowS 60 4 encLag (.slice a115 l114.length c116) l114] z (RVs.tmp z RVs.nil) ⟨a115, c116, z, z, z⟩

noncomputable def whittleref19_Next_j3 (x0 : Fst) (k119 : Nat) (k136 : Nat) (s169 : List UInt8) (l163 : List TLag) (k166 : Nat) (s173 : List UInt8) : Option (((List TLag) × Nat) ⊕ (((List TLag) × Nat) ⊕ (((List TLag) × Nat) ⊕ ((List TLag))))) :=
 bnd (whittleref19_lag ((nth x0.arcs k119 Arc.zero).to) ((nth x0.arcs k136 Arc.zero).to) s169 s173) (fun v96 => grd ((l163.length + [v96].length) * 48 ≤ 140737488355328) (nxt ((l163 ++ [v96]), (k166 + 1))))
noncomputable def whittleref19_Next_j2 (x0 : Fst) (k136 : Nat) (k166 : Nat) (v48 : (List UInt8)) (x1 : TLag) (k119 : Nat) (l163 : List TLag) (s169 : List UInt8) : Option (((List TLag) × Nat) ⊕ (((List TLag) × Nat) ⊕ (((List TLag) × Nat) ⊕ ((List TLag))))) :=
 iteO ((nth x0.arcs k136 Arc.zero).copy) (grd (k166 ≤ (k166 + 1) ∧ (k166 + 1) ≤ v48.length) (grd ((x1.b ++ (nth x0.arcs k136 Arc.zero).out).length + ((v48.take (k166 + 1)).drop k166).length ≤ 9223372036854775807) (whittleref19_Next_j3 x0 k119 k136 s169 l163 k166 ((x1.b ++ (nth x0.arcs k136 Arc.zero).out) ++ ((v48.take (k166 + 1)).drop k166))))) (whittleref19_Next_j3 x0 k119 k136 s169 l163 k166 (x1.b ++ (nth x0.arcs k136 Arc.zero).out))
noncomputable def whittleref19_Next_j1 (k136 : Nat) (l141 : List TLag) : Option (((List TLag) × Nat) ⊕ (((List TLag) × Nat) ⊕ ((List TLag)))) :=
 nxt (l141, (k136 + 1))
noncomputable def whittleref19_Next_b3 (v48 : (List UInt8)) (x1 : TLag) (x0 : Fst) (k119 : Nat) (k136 : Nat) (l163 : List TLag) (k166 : Nat) : Option (((List TLag) × Nat) ⊕ (((List TLag) × Nat) ⊕ (((List TLag) × Nat) ⊕ ((List TLag))))) :=
 iteO (decide (((k166 : Nat) : Int) < ((v48.length : Nat) : Int))) (grd (x1.a.length + ((nth x0.arcs k119 Arc.zero).out).length ≤ 9223372036854775807) (grd (x1.b.length + ((nth x0.arcs k136 Arc.zero).out).length ≤ 9223372036854775807) (iteO ((nth x0.arcs k119 Arc.zero).copy) (grd (k166 ≤ (k166 + 1) ∧ (k166 + 1) ≤ v48.length) (grd ((x1.a ++ (nth x0.arcs k119 Arc.zero).out).length + ((v48.take (k166 + 1)).drop k166).length ≤ 9223372036854775807) (whittleref19_Next_j2 x0 k136 k166 v48 x1 k119 l163 ((x1.a ++ (nth x0.arcs k119 Arc.zero).out) ++ ((v48.take (k166 + 1)).drop k166))))) (whittleref19_Next_j2 x0 k136 k166 v48 x1 k119 l163 (x1.a ++ (nth x0.arcs k119 Arc.zero).out))))) (fin (whittleref19_Next_j1 k136 l163))
noncomputable def whittleref19_Next_b2 (x0 : Fst) (k119 : Nat) (x1 : TLag) (l133 : List TLag) (k136 : Nat) : Option (((List TLag) × Nat) ⊕ (((List TLag) × Nat) ⊕ ((List TLag)))) :=
 iteO (decide (((k136 : Nat) : Int) < ((x0.arcs.length : Nat) : Int))) (iteO (decide (((nth x0.arcs k119 Arc.zero).frm) ≠ x1.p)) (whittleref19_Next_j1 k136 l133) (iteO (decide (((nth x0.arcs k136 Arc.zero).frm) ≠ x1.q)) (whittleref19_Next_j1 k136 l133) (bnd (whittleref01_By ((nth x0.arcs k119 Arc.zero).set) ((nth x0.arcs k136 Arc.zero).set) 0) (fun v47 => bnd (whittleref01_Bytes v47) (fun v48 => iter (fun q : (List TLag) × Nat => whittleref19_Next_b3 v48 x1 x0 k119 k136 q.1 q.2) (l133, 0)))))) (fin (nxt (l133, (k119 + 1))))
noncomputable def whittleref19_Next_b1 (x0 : Fst) (x1 : TLag) (l116 : List TLag) (k119 : Nat) : Option (((List TLag) × Nat) ⊕ ((List TLag))) :=
 iteO (decide (((k119 : Nat) : Int) < ((x0.arcs.length : Nat) : Int))) (iter (fun q : (List TLag) × Nat => whittleref19_Next_b2 x0 k119 x1 q.1 q.2) (l116, 0)) (fin (some l116))
noncomputable def whittleref19_Next (x0 : Fst) (x1 : TLag) : Option ((List TLag)) :=
 iter (fun q : (List TLag) × Nat => whittleref19_Next_b1 x0 x1 q.1 q.2) (([] : List TLag), 0)
def whittleref19_Next_P (σ : Store) (r : (List TLag)) : Value → Store → List Res → Prop := fun v σ' H' =>
 ∃ (a1 : Option Addr), ∃ (c1 : Nat),  v = .slice a1 r.length c1 ∧ σ = σ' ∧ H' = [Res.rowS 60 4 encLag (.slice a1 r.length c1) r]
theorem whittleref19_Next_con {σ : Store} {x0 : Fst} {a0_0 : Option Addr} {c0_0 : Nat} {a0_1 : Option Addr} {c0_1 : Nat} {a0_2 : Option Addr} {c0_2 : Nat} {x1 : TLag} (f0_0 : RS σ 2 encTip (.slice a0_0 x0.starts.length c0_0) x0.starts) (f0_1 : RS σ 2 encTip (.slice a0_1 x0.ends.length c0_1) x0.ends) (f0_2 : RS σ 8 encArc (.slice a0_2 x0.arcs.length c0_2) x0.arcs) {r : (List TLag)} (hh : whittleref19_Next x0 x1 = some r) :
  Con Tryz.prog 21 #[.agg #[.int .i64 x0.states, .slice a0_0 x0.starts.length c0_0, .slice a0_1 x0.ends.length c0_1, .slice a0_2 x0.arcs.length c0_2], .agg #[.int .i64 x1.p, .int .i64 x1.q, .string (bs x1.a), .string (bs x1.b)]] σ [] (whittleref19_Next_P σ r) := by
 dsimp only [whittleref19_Next] at hh
 have f0_0b := f0_0.rv.big
 have f0_1b := f0_1.rv.big
 have f0_2b := f0_2.rv.big
 refine Con.mk (n := 103) Tryz.func21 z z z (fun w0 => ?_)
 refine TC.a (TL.op z (boxA z z z z (fun b101 => ?_)))
 refine TL.op z (boxA z z z z (fun b103 => ?_))
 refine TL.s z z (TL.en (TC.a (TL.s z z (TL.en (TC.seq (TC.a (TL.i z z (TL.en (TC.block (TC.nilS 60 4 encLag (TC.loopG (α := ((List TLag) × Nat) × ((Option Addr) × Nat × Store)) (rgs [(5, 97)]) (fun g => [(5, .slice g.2.1 g.1.1.length g.2.2.1), (6, .int .i64 ((g.1.2 : Nat) : Int))]) (fun g => [Res.cells b101 #[.int .i64 x0.states, .slice a0_0 x0.starts.length c0_0, .slice a0_1 x0.ends.length c0_1, .slice a0_2 x0.arcs.length c0_2] 25, Res.cells b103 #[.int .i64 x1.p, .int .i64 x1.q, .string (bs x1.a), .string (bs x1.b)] 60, Res.rowS 60 4 encLag (.slice g.2.1 g.1.1.length g.2.2.1) g.1.1]) (fun g => g.2.2.2) (fun g => iter (fun q : (List TLag) × Nat => whittleref19_Next_b1 x0 x1 q.1 q.2) g.1 = some r ∧ Store.le σ g.2.2.2) (fun g => rounds (fun q : (List TLag) × Nat => whittleref19_Next_b1 x0 x1 q.1 q.2) g.1) ((([] : List TLag), 0), (none, 0, σ)) (Sub.f [1, 2] 3) z (by repeat (first | exact trivial | refine ⟨z, ?_⟩)) ⟨hh, (Store.le.refl _)⟩ (fun g1 j1 hg1 => ?_))))))))))))
 obtain ⟨⟨l116, k119⟩, ⟨a117, c118, τ121⟩⟩ := g1
 obtain ⟨hh, hle122⟩ := hg1
 dsimp only at hle122
 replace f0_2 := f0_2.mono hle122
 try dsimp only
 obtain ⟨z1, hh, hR1⟩ := iter_e hh
 dsimp only [whittleref19_Next_b1] at hh
 refine TC.isSl (i := 2) z (fun _ hb123 _ => ?_)
 refine TC.seq (TC.a (TL.i z z (TL.w z (fieldLoc z fo25_3 z) (TL.w z (loadLoc z ag23 z (i := 0) z z) (TL.w z (lenC z underlying23 z) (TL.w z (OpVal.lss z z z) (TL.en (TC.cD z hh (fun h124 hh => ?_) (fun h124 hh => ?_)))))))))
 ·refine TC.skip (S.n (TC.seq (TC.block (TC.a (TL.i z z (TL.en (TC.block (TC.loopG (α := ((List TLag) × Nat) × ((Option Addr) × Nat × Store)) (rgs [(5, 1), (7, 7), (21, 81)]) (fun g => [(5, .slice g.2.1 g.1.1.length g.2.2.1), (7, .int .i64 ((g.1.2 : Nat) : Int))]) (fun g => [Res.cells b101 #[.int .i64 x0.states, .slice a0_0 x0.starts.length c0_0, .slice a0_1 x0.ends.length c0_1, .slice a0_2 x0.arcs.length c0_2] 25, Res.cells b103 #[.int .i64 x1.p, .int .i64 x1.q, .string (bs x1.a), .string (bs x1.b)] 60, Res.rowS 60 4 encLag (.slice g.2.1 g.1.1.length g.2.2.1) g.1.1]) (fun g => g.2.2.2) (fun g => iter (fun q : (List TLag) × Nat => whittleref19_Next_b2 x0 k119 x1 q.1 q.2) g.1 = some z1 ∧ Store.le τ121 g.2.2.2) (fun g => rounds (fun q : (List TLag) × Nat => whittleref19_Next_b2 x0 k119 x1 q.1 q.2) g.1) ((l116, 0), (a117, c118, τ121)) (Sub.f [2, 2, 2] 3) z (by repeat (first | exact trivial | refine ⟨z, ?_⟩)) ⟨hh, (Store.le.refl _)⟩ (fun g2 j2 hg2 => ?_)))))))))
  obtain ⟨⟨l133, k136⟩, ⟨a134, c135, τ137⟩⟩ := g2
  obtain ⟨hh, hle138⟩ := hg2
  dsimp only at hle138
  replace f0_2 := f0_2.mono hle138
  try dsimp only
  obtain ⟨z2, hh, hR2⟩ := iter_e hh
  dsimp only [whittleref19_Next_b2] at hh
  refine TC.isSl (i := 2) z (fun _ hb139 _ => ?_)
  refine TC.seq (TC.a (TL.i z z (TL.w z (fieldLoc z fo25_3 z) (TL.w z (loadLoc z ag23 z (i := 0) z z) (TL.w z (lenC z underlying23 z) (TL.w z (OpVal.lss z z z) (TL.en (TC.cD z hh (fun h140 hh => ?_) (fun h140 hh => ?_)))))))))
  ·refine TC.skip (S.n (TC.cutG (α := ((List TLag)) × ((Option Addr) × Nat × Store)) (rgs [(5, 1), (8, 6), (28, 74)]) (fun g => [(5, .slice g.2.1 g.1.length g.2.2.1)]) (fun g => [Res.cells b101 #[.int .i64 x0.states, .slice a0_0 x0.starts.length c0_0, .slice a0_1 x0.ends.length c0_1, .slice a0_2 x0.arcs.length c0_2] 25, Res.cells b103 #[.int .i64 x1.p, .int .i64 x1.q, .string (bs x1.a), .string (bs x1.b)] 60, Res.rowS 60 4 encLag (.slice g.2.1 g.1.length g.2.2.1) g.1]) (fun g => g.2.2.2) (fun g => whittleref19_Next_j1 k136 g.1 = some z2 ∧ Store.le τ137 g.2.2.2) ?_ (fun g j hg => ?_)))
   ·skip
    refine TC.block (TC.a (TL.w z (fieldLoc z fo25_3 z) (TL.w z (loadLoc z ag23 z (i := 0) z z) (TL.i z z (TL.w z (indexN z underlying23 sz38 z z f0_2.rv.sl (by omega)) (TL.w z (loadSA Arc.zero z ag38 sz38 z f0_2 (by omega) (by omega)) (TL.op z (OpOk.alloc z ze38 z z (fun b144 => ?_)))))))))
    refine TL.op z (storeAll z sz38 z z z z z z ?_)
    refine TL.en (TC.a (TL.w z (fieldLoc z fo25_3 z) (TL.w z (loadLoc z ag23 z (i := 1) z z) (TL.i z z (TL.w z (indexN z underlying23 sz38 z z f0_2.rv.sl (by omega)) (TL.w z (loadSA Arc.zero z ag38 sz38 z f0_2 (by omega) (by omega)) (TL.op z (OpOk.alloc z ze38 z z (fun b146 => ?_)))))))))
    refine TL.op z (storeAll z sz38 z z z z z z ?_)
    refine TL.en (TC.seq (TC.a (TL.w z (fieldLoc z fo38_0 z) (TL.w z (loadLoc z ag3 z (i := 1) z z) (TL.w z (fieldLoc z fo60_0 z) (TL.w z (loadLoc z ag3 z (i := 3) z z) (TL.w z (OpVal.neq z z z) (TL.j z z (TL.split 43 z (fun h148 => ?_) (fun h148 => ?_))))))))))
    ·replace hh := iteO_t h148 hh
     replace h148 := of_decide_eq_true h148
     exact TL.f z (TL.f z (TL.f z (TL.f z (TL.f z (TL.w z (pickTB z z z) (TL.en (TC.t z (TC.exit (S.x (TC.exitHere (S.n (cf (l133, (a134, c135, τ137)) ⟨hh, (Store.le.refl _)⟩ (Sub.f [4, 4, 4] 3)))))))))))))
    ·replace hh := iteO_f h148 hh
     replace h148 := of_decide_eq_false h148
     refine TL.g z (fieldLoc z fo38_0 z) (TL.g z (loadLoc z ag3 z (i := 0) z z) (TL.g z (fieldLoc z fo60_1 z) (TL.g z (loadLoc z ag3 z (i := 3) z z) (TL.g z (OpVal.neq z z z) (TL.w z (pickFB z z z) (TL.en (TC.cD z hh (fun h149 hh => ?_) (fun h149 hh => ?_))))))))
     ·exact TC.exit (S.x (TC.exitHere (S.n (cf (l133, (a134, c135, τ137)) ⟨hh, (Store.le.refl _)⟩ (Sub.f [4, 4, 4] 3)))))
     ·refine TC.skip (S.n (TC.a (TL.w z (fieldLoc z fo38_2 z) (TL.w z (loadLocA z ag36 sz36 z (i := 1) z z z) (TL.w z (fieldLoc z fo38_2 z) (TL.w z (loadLocA z ag36 sz36 z (i := 0) z z z) ?_))))))
      obtain ⟨v47, u47, hh⟩ := bnd_e hh
      refine TL.op z (callP (whittleref01_By_con u47) z z pf35 z z z ?_)
      obtain ⟨v48, u48, hh⟩ := bnd_e hh
      refine TL.op z (OpOk.call (whittleref01_Bytes_con u48) z z pf22 z z z z ?_)
      rintro _ _ _ hle150 ⟨a150_1, c150_1, rfl, rfl, rfl⟩
      refine TL.s z z (TL.sealS encU8_len (fun τ154 hle153 hr152 => ?_))
      have hr152b := hr152.rv.big
      refine TL.en (TC.a (TL.i z z (TL.en (TC.block (TC.loopG (α := ((List TLag) × Nat) × ((Option Addr) × Nat)) (rgs [(5, 1), (11, 3), (56, 46)]) (fun g => [(5, .slice g.2.1 g.1.1.length g.2.2), (11, .int .i64 ((g.1.2 : Nat) : Int))]) (fun g => [Res.cells b101 #[.int .i64 x0.states, .slice a0_0 x0.starts.length c0_0, .slice a0_1 x0.ends.length c0_1, .slice a0_2 x0.arcs.length c0_2] 25, Res.cells b103 #[.int .i64 x1.p, .int .i64 x1.q, .string (bs x1.a), .string (bs x1.b)] 60, Res.rowS 60 4 encLag (.slice g.2.1 g.1.1.length g.2.2) g.1.1, Res.cells b144 #[.int .i64 ((nth x0.arcs k119 Arc.zero).frm), .int .i64 ((nth x0.arcs k119 Arc.zero).to), .int .u64 ((((nth x0.arcs k119 Arc.zero).set).a : Nat) : Int), .int .u64 ((((nth x0.arcs k119 Arc.zero).set).b : Nat) : Int), .int .u64 ((((nth x0.arcs k119 Arc.zero).set).c : Nat) : Int), .int .u64 ((((nth x0.arcs k119 Arc.zero).set).d : Nat) : Int), .string (bs ((nth x0.arcs k119 Arc.zero).out)), .bool ((nth x0.arcs k119 Arc.zero).copy)] 38, Res.cells b146 #[.int .i64 ((nth x0.arcs k136 Arc.zero).frm), .int .i64 ((nth x0.arcs k136 Arc.zero).to), .int .u64 ((((nth x0.arcs k136 Arc.zero).set).a : Nat) : Int), .int .u64 ((((nth x0.arcs k136 Arc.zero).set).b : Nat) : Int), .int .u64 ((((nth x0.arcs k136 Arc.zero).set).c : Nat) : Int), .int .u64 ((((nth x0.arcs k136 Arc.zero).set).d : Nat) : Int), .string (bs ((nth x0.arcs k136 Arc.zero).out)), .bool ((nth x0.arcs k136 Arc.zero).copy)] 38]) (fun g => τ154) (fun g => iter (fun q : (List TLag) × Nat => whittleref19_Next_b3 v48 x1 x0 k119 k136 q.1 q.2) g.1 = some z2) (fun g => rounds (fun q : (List TLag) × Nat => whittleref19_Next_b3 v48 x1 x0 k119 k136 q.1 q.2) g.1) ((l133, 0), (a134, c135)) (Sub.f [1, 4, 4, 4] 5) z (by repeat (first | exact trivial | refine ⟨z, ?_⟩)) hh (fun g3 j3 hg3 => ?_))))))
      obtain ⟨⟨l163, k166⟩, ⟨a164, c165⟩⟩ := g3
      have hh := hg3; clear hg3
      try dsimp only
      obtain ⟨z3, hh, hR3⟩ := iter_e hh
      dsimp only [whittleref19_Next_b3] at hh
      refine TC.isSl (i := 2) z (fun _ hb167 _ => ?_)
      refine TC.seq (TC.a (TL.i z z (TL.s z z (TL.w z (lenC z underlying63 z) (TL.w z (OpVal.lss z z z) (TL.en (TC.cD z hh (fun h168 hh => ?_) (fun h168 hh => ?_))))))))
      ·refine TC.skip (S.n (TC.seq (TC.block (TC.a (TL.w z (fieldLoc z fo60_2 z) (TL.w z (loadLoc z ag9 z (i := 1) z z) (TL.w z (fieldLoc z fo38_3 z) (TL.w z (loadLoc z ag9 z (i := 3) z z) ?_))))))))
       have u59 := grd_c hh
       replace hh := grd_t hh
       refine TL.w z (catBs z z z u59) (TL.w z (moveStr (.inr z) z) (TL.en (TC.a (TL.w z (fieldLoc z fo60_3 z) (TL.w z (loadLoc z ag9 z (i := 1) z z) (TL.w z (fieldLoc z fo38_3 z) (TL.w z (loadLoc z ag9 z (i := 4) z z) ?_)))))))
       have u65 := grd_c hh
       replace hh := grd_t hh
       refine TL.w z (catBs z z z u65) (TL.w z (moveStr (.inr z) z) (TL.en (TC.cutG (α := ((List UInt8)) × (Unit)) (rgs [(12, 1), (72, 10)]) (fun g => [(12, .string (bs g.1))]) (fun g => [Res.cells b101 #[.int .i64 x0.states, .slice a0_0 x0.starts.length c0_0, .slice a0_1 x0.ends.length c0_1, .slice a0_2 x0.arcs.length c0_2] 25, Res.cells b103 #[.int .i64 x1.p, .int .i64 x1.q, .string (bs x1.a), .string (bs x1.b)] 60, Res.rowS 60 4 encLag (.slice a164 l163.length c165) l163, Res.cells b144 #[.int .i64 ((nth x0.arcs k119 Arc.zero).frm), .int .i64 ((nth x0.arcs k119 Arc.zero).to), .int .u64 ((((nth x0.arcs k119 Arc.zero).set).a : Nat) : Int), .int .u64 ((((nth x0.arcs k119 Arc.zero).set).b : Nat) : Int), .int .u64 ((((nth x0.arcs k119 Arc.zero).set).c : Nat) : Int), .int .u64 ((((nth x0.arcs k119 Arc.zero).set).d : Nat) : Int), .string (bs ((nth x0.arcs k119 Arc.zero).out)), .bool ((nth x0.arcs k119 Arc.zero).copy)] 38, Res.cells b146 #[.int .i64 ((nth x0.arcs k136 Arc.zero).frm), .int .i64 ((nth x0.arcs k136 Arc.zero).to), .int .u64 ((((nth x0.arcs k136 Arc.zero).set).a : Nat) : Int), .int .u64 ((((nth x0.arcs k136 Arc.zero).set).b : Nat) : Int), .int .u64 ((((nth x0.arcs k136 Arc.zero).set).c : Nat) : Int), .int .u64 ((((nth x0.arcs k136 Arc.zero).set).d : Nat) : Int), .string (bs ((nth x0.arcs k136 Arc.zero).out)), .bool ((nth x0.arcs k136 Arc.zero).copy)] 38]) (fun g => τ154) (fun g => whittleref19_Next_j2 x0 k136 k166 v48 x1 k119 l163 g.1 = some z3) ?_ (fun g j hg => ?_))))
       ·skip
        refine TC.a (TL.w z (fieldLoc z fo38_4 z) (TL.w z (loadLoc z ag4 z (i := 3) z z) (TL.en (TC.cB z hh (fun h170 hh => ?_) (fun h170 hh => ?_)))))
        ·refine TC.region (TL.w z (moveStr (.inl z) z) (TL.s z z (TL.i z z (TL.i z z (TL.w z (OpVal.succ z z z (by omega)) ?_)))))
         have u74 := grd_c hh
         replace hh := grd_t hh
         obtain ⟨a171, c171, hr171, hv171⟩ := hr152.sub k166 (k166 + 1) (by omega)
         have hr171b := hr171.rv.big
         refine TL.w z (hv171 z underlying63 sz5 z z z) (TL.w z (bytesStr (l := ((v48.take (k166 + 1)).drop k166)) z underlying63 underlying5 underlying9 z hr171.rv.sl (fun w hw => rdb_RS hr171 hw)) ?_)
         have u76 := grd_c hh
         replace hh := grd_t hh
         exact TL.w z (catBs z z z u76) (TL.w z (moveStr (.inr z) z) (TL.en (cf (((x1.a ++ (nth x0.arcs k119 Arc.zero).out) ++ ((v48.take (k166 + 1)).drop k166)), ()) hh (Sub.f [4, 4, 4, 4, 4] 5))))
        ·exact TC.skip (S.n (cf ((x1.a ++ (nth x0.arcs k119 Arc.zero).out), ()) hh (Sub.f [4, 4, 4, 4, 4] 5)))
       ·skip
        obtain ⟨s169, _⟩ := g
        have hh := hg; clear hg
        try dsimp only
        dsimp only [whittleref19_Next_j2] at hh
        refine TC.isSl (i := 2) z (fun _ hb172 _ => ?_)
        refine TC.cutG (α := ((List UInt8)) × (Unit)) (rgs [(13, 1), (82, 10)]) (fun g => [(13, .string (bs g.1))]) (fun g => [Res.cells b101 #[.int .i64 x0.states, .slice a0_0 x0.starts.length c0_0, .slice a0_1 x0.ends.length c0_1, .slice a0_2 x0.arcs.length c0_2] 25, Res.cells b103 #[.int .i64 x1.p, .int .i64 x1.q, .string (bs x1.a), .string (bs x1.b)] 60, Res.rowS 60 4 encLag (.slice a164 l163.length c165) l163, Res.cells b144 #[.int .i64 ((nth x0.arcs k119 Arc.zero).frm), .int .i64 ((nth x0.arcs k119 Arc.zero).to), .int .u64 ((((nth x0.arcs k119 Arc.zero).set).a : Nat) : Int), .int .u64 ((((nth x0.arcs k119 Arc.zero).set).b : Nat) : Int), .int .u64 ((((nth x0.arcs k119 Arc.zero).set).c : Nat) : Int), .int .u64 ((((nth x0.arcs k119 Arc.zero).set).d : Nat) : Int), .string (bs ((nth x0.arcs k119 Arc.zero).out)), .bool ((nth x0.arcs k119 Arc.zero).copy)] 38, Res.cells b146 #[.int .i64 ((nth x0.arcs k136 Arc.zero).frm), .int .i64 ((nth x0.arcs k136 Arc.zero).to), .int .u64 ((((nth x0.arcs k136 Arc.zero).set).a : Nat) : Int), .int .u64 ((((nth x0.arcs k136 Arc.zero).set).b : Nat) : Int), .int .u64 ((((nth x0.arcs k136 Arc.zero).set).c : Nat) : Int), .int .u64 ((((nth x0.arcs k136 Arc.zero).set).d : Nat) : Int), .string (bs ((nth x0.arcs k136 Arc.zero).out)), .bool ((nth x0.arcs k136 Arc.zero).copy)] 38]) (fun g => τ154) (fun g => whittleref19_Next_j3 x0 k119 k136 s169 l163 k166 g.1 = some z3) ?_ (fun g j hg => ?_)
        ·skip
         refine TC.a (TL.w z (fieldLoc z fo38_4 z) (TL.w z (loadLoc z ag4 z (i := 4) z z) (TL.en (TC.cB z hh (fun h174 hh => ?_) (fun h174 hh => ?_)))))
         ·refine TC.region (TL.w z (moveStr (.inl z) z) (TL.s z z (TL.i z z (TL.i z z (TL.w z (OpVal.succ z z z (by omega)) ?_)))))
          have u85 := grd_c hh
          replace hh := grd_t hh
          obtain ⟨a175, c175, hr175, hv175⟩ := hr152.sub k166 (k166 + 1) (by omega)
          have hr175b := hr175.rv.big
          refine TL.w z (hv175 z underlying63 sz5 z z z) (TL.w z (bytesStr (l := ((v48.take (k166 + 1)).drop k166)) z underlying63 underlying5 underlying9 z hr175.rv.sl (fun w hw => rdb_RS hr175 hw)) ?_)
          have u87 := grd_c hh
          replace hh := grd_t hh
          exact TL.w z (catBs z z z u87) (TL.w z (moveStr (.inr z) z) (TL.en (cf (((x1.b ++ (nth x0.arcs k136 Arc.zero).out) ++ ((v48.take (k166 + 1)).drop k166)), ()) hh (Sub.f [4, 4, 4, 4, 4] 5))))
         ·exact TC.skip (S.n (cf ((x1.b ++ (nth x0.arcs k136 Arc.zero).out), ()) hh (Sub.f [4, 4, 4, 4, 4] 5)))
        ·skip
         obtain ⟨s173, _⟩ := g
         have hh := hg; clear hg
         try dsimp only
         dsimp only [whittleref19_Next_j3] at hh
         refine TC.isSl (i := 2) z (fun _ hb176 _ => ?_)
         refine TC.region (TL.s z z (TL.w z (fieldLoc z fo38_1 z) (TL.w z (loadLoc z ag3 z (i := 3) z z) (TL.w z (fieldLoc z fo38_1 z) (TL.w z (loadLoc z ag3 z (i := 4) z z) (TL.w z (moveStr (.inl z) z) (TL.w z (moveStr (.inl z) z) ?_)))))))
         obtain ⟨v96, u96, hh⟩ := bnd_e hh
         refine TL.op z (callP (whittleref19_lag_con u96) z z pf34 z z z ?_)
         refine TL.op z (OpOk.lit (enc := encLag) [v96] z underlying57 sz60 ze60 z z z encLag_len (by decide) (by decide) TLag.zero z (by decide) z (by decide) encLag_one (fun a177 c178 => ?_))
         refine TL.front 3 z z ?_
         have u98 := grd_c hh
         replace hh := grd_t hh
         refine TL.op z (appendS z z underlying57 sz60 by60 ze60 z z (by decide) z z z (.inr ⟨_, 0, z⟩) (by simpa using u98) (by decide) (fun a180 c181 => ?_))
         refine TL.s z z (TL.nil (B.n (S.n (TC.region (TL.i z z (TL.w z (OpVal.succ z z z (by omega)) (TL.i z z (TL.en ?_))))))))
         obtain ⟨hh, hlt182⟩ := nxt_x hR3 hh
         exact lf (((l163 ++ [v96]), (k166 + 1)), (a180, c181)) hlt182 hh (Sub.f [5, 5, 2, 5, 5] 5)
      ·refine TC.exit (S.x (S.x ?_))
       replace hh := fin_x hR3 hh
       exact TC.exitHere (B.n (S.n (cf (l163, (a164, c165, τ154)) ⟨hh, hle153⟩ (Sub.f [2, 2, 2] 3))))
   ·skip
    obtain ⟨l141, ⟨a142, c143, τ183⟩⟩ := g
    obtain ⟨hh, hle184⟩ := hg
    try dsimp only at hle184 ⊢
    dsimp only [whittleref19_Next_j1] at hh
    refine TC.isSl (i := 2) z (fun _ hb185 _ => ?_)
    refine TC.region (TL.i z z (TL.w z (OpVal.succ z z z (by omega)) (TL.i z z (TL.en ?_))))
    obtain ⟨hh, hlt186⟩ := nxt_x hR2 hh
    exact lf ((l141, (k136 + 1)), (a142, c143, τ183)) hlt186 ⟨hh, (hle138.trans hle184)⟩ (Sub.f [2, 2, 2] 3)
  ·refine TC.exit (S.x (S.x ?_))
   replace hh := fin_x hR2 hh
   refine TC.exitHere (B.n (S.n (TC.region (TL.i z z (TL.w z (OpVal.succ z z z (by omega)) (TL.i z z (TL.en ?_)))))))
   obtain ⟨hh, hlt187⟩ := nxt_x hR1 hh
   exact lf ((l133, (k119 + 1)), (a134, c135, τ137)) hlt187 ⟨hh, (hle122.trans hle138)⟩ (Sub.f [2, 2, 2] 3)
 ·refine TC.exit (S.x (S.x ?_))
  replace hh := fin_x hR1 hh
  refine TC.exitHere (S.n (TC.a (TL.s z z (TL.s z z (TL.en (TC.ofSub (Sub.f [2] 1) (TC.back (TC.ret ?_))))))))
  obtain rfl := so hh
  exact ro [Res.rowS 60 4 encLag (.slice a117 l116.length c118) l116] z (RVs.tmp z RVs.nil) ⟨a117, c118, z, z, z⟩

end Go.Proofs.YtcfjjckencjjeaaGreat
end

/- T3 -/
section
/- Decompiled: the reference's rounds of lags; the law TwinTells. -/
set_option linter.unusedVariables false
set_option linter.unusedSimpArgs false
namespace Go.Proofs.YtcfjjckencjjeaaGreat
open Go Go.E Go.E.OpVal Go.E.OpOk Go.Proofs.Tryz
set_option maxRecDepth 100000
private theorem ag25 : Go.E.aggOf Tryz.prog 25 = some true := by kernel_rfl
private theorem eg60 : Tryz.prog.eqGuardType Tryz.prog.depth 60 = false := by kernel_rfl
private theorem es60 (x y : TLag) : Go.E.EqAt Tryz.prog 2 60 (.agg (Go.E.encLag x).toArray) (.agg (Go.E.encLag y).toArray) (decide (x = y)) :=
 (EqAt.struct (ts := [(false, 3, 0), (false, 3, 1), (false, 9, 2), (false, 9, 3)]) (by kernel_rfl) (by kernel_rfl) (by kernel_rfl) (EqC.one (by kernel_rfl) rfl rfl (EqAt.int underlying3 x.p y.p) (EqC.one (by kernel_rfl) rfl rfl (EqAt.int underlying3 x.q y.q) (EqC.one (by kernel_rfl) rfl rfl (EqAt.str underlying9 x.a y.a) (EqC.one (by kernel_rfl) rfl rfl (EqAt.str underlying9 x.b y.b) EqC.nil))))).of (by rw [Bool.eq_iff_iff]; cases x; cases y; simp)
private theorem fo25_0 : Go.E.foOf Tryz.prog 25 0 = some 0 := by kernel_rfl
private theorem pf14 : Go.E.plainF Tryz.prog 14 = true := by kernel_rfl
private theorem pf19 : Go.E.plainF Tryz.prog 19 = true := by kernel_rfl
private theorem pf20 : Go.E.plainF Tryz.prog 20 = true := by kernel_rfl
private theorem pf21 : Go.E.plainF Tryz.prog 21 = true := by kernel_rfl
private theorem pf4 : Go.E.plainF Tryz.prog 4 = true := by kernel_rfl
private theorem pf5 : Go.E.plainF Tryz.prog 5 = true := by kernel_rfl
private theorem pf6 : Go.E.plainF Tryz.prog 6 = true := by kernel_rfl
private theorem pf7 : Go.E.plainF Tryz.prog 7 = true := by kernel_rfl
private theorem pf8 : Go.E.plainF Tryz.prog 8 = true := by kernel_rfl
private theorem pf9 : Go.E.plainF Tryz.prog 9 = true := by kernel_rfl
private theorem sz25 : Go.E.szOf Tryz.prog 25 = some 4 := by kernel_rfl

noncomputable def whittleref20_Bound_j1 (i118 : Int) (k119 : Nat) (k121 : Nat) : Option ((Int × Nat) ⊕ (Int × Int)) :=
 nxt ((max i118 ((k121 : Nat) : Int)), (k119 + 1))
noncomputable def whittleref20_Bound_b2 (v5 : Fst × Int) (i110 : Int) (i118 : Int) (k119 : Nat) : Option ((Int × Nat) ⊕ (Int × Int)) :=
 iteO (decide (((k119 : Nat) : Int) < ((v5.1.arcs.length : Nat) : Int))) (iteO ((nth v5.1.arcs k119 Arc.zero).copy) (grd (((nth v5.1.arcs k119 Arc.zero).out).length + 1 ≤ 9223372036854775807) (whittleref20_Bound_j1 i118 k119 (((nth v5.1.arcs k119 Arc.zero).out).length + 1))) (whittleref20_Bound_j1 i118 k119 (((nth v5.1.arcs k119 Arc.zero).out).length))) (fin (some (IntKind.i64.wrap ((IntKind.i64.wrap ((IntKind.i64.wrap (v5.1.states * v5.1.states)) * i118)) + i110), 0)))
noncomputable def whittleref20_Bound_b1 (v5 : Fst × Int) (i110 : Int) (k111 : Nat) : Option ((Int × Nat) ⊕ (Int × Int)) :=
 iteO (decide (((k111 : Nat) : Int) < ((v5.1.starts.length : Nat) : Int))) (nxt ((max i110 ((((nth v5.1.starts k111 Tip.zero).out).length : Nat) : Int)), (k111 + 1))) (fin (iter (fun q : Int × Nat => whittleref20_Bound_b2 v5 i110 q.1 q.2) (0, 0)))
noncomputable def whittleref20_Bound (x0 : Fst) : Option (Int × Int) :=
 bnd (whittleref18_Trim x0) (fun v5 => iteO (decide (v5.2 ≠ 0)) (some (0, v5.2)) (iteO (decide (32 < v5.1.states)) (some (0, 2)) (iter (fun q : Int × Nat => whittleref20_Bound_b1 v5 q.1 q.2) (0, 0))))
theorem whittleref20_Bound_con {σ : Store} {x0 : Fst} {a0_0 : Option Addr} {c0_0 : Nat} {a0_1 : Option Addr} {c0_1 : Nat} {a0_2 : Option Addr} {c0_2 : Nat} (f0_0 : RS σ 2 encTip (.slice a0_0 x0.starts.length c0_0) x0.starts) (f0_1 : RS σ 2 encTip (.slice a0_1 x0.ends.length c0_1) x0.ends) (f0_2 : RS σ 8 encArc (.slice a0_2 x0.arcs.length c0_2) x0.arcs) {r : Int × Int} (hh : whittleref20_Bound x0 = some r) :
  Con Tryz.prog 6 #[.agg #[.int .i64 x0.states, .slice a0_0 x0.starts.length c0_0, .slice a0_1 x0.ends.length c0_1, .slice a0_2 x0.arcs.length c0_2]] σ [] (PureP (.tuple #[.int .i64 r.1, .int .i64 r.2]) σ) := by
 dsimp only [whittleref20_Bound] at hh
 have f0_0b := f0_0.rv.big
 have f0_1b := f0_1.rv.big
 have f0_2b := f0_2.rv.big
 refine Con.mk (n := 71) Tryz.func6 z z z (fun w0 => ?_)
 refine TC.a (TL.op z (boxA z z z z (fun b101 => ?_)))
 refine TL.i z z (TL.i z z (TL.en (TC.a (TL.w z (loadAll z ag25 sz25 z (i := 0) z z) ?_))))
 obtain ⟨v5, u5, hh⟩ := bnd_e hh
 refine TL.op z (OpOk.call (whittleref18_Trim_con (x0 := x0) f0_0 f0_1 f0_2 u5) z z pf14 z z z z ?_)
 rintro _ τ103 _ hle103 ⟨a103_1, c103_1, a103_2, c103_2, a103_3, c103_3, rfl, hr103_0, hr103_1, hr103_2, rfl⟩
 have hr103_0b := hr103_0.rv.big
 have hr103_1b := hr103_1.rv.big
 have hr103_2b := hr103_2.rv.big
 refine TL.w z (moveT (.inl z) z) (TL.w z (OpVal.extract z z z) (TL.w z (OpVal.extract z z z) (TL.op z (storeAll z sz25 z z z z z z ?_))))
 refine TL.i z z (TL.en (TC.seq (TC.a (TL.i z z (TL.w z (OpVal.neq z z z) (TL.en (TC.cD z hh (fun h104 hh => ?_) (fun h104 hh => ?_))))))))
 ·refine TC.a (TL.i z z (TL.i z z (TL.i z z (TL.en (TC.ofSub (Sub.pre 0 z) (TC.back (TC.ret (S.r ?_))))))))
  obtain rfl := so hh
  exact rq [2, 3] ⟨z, z, z⟩
 ·refine TC.skip (S.n (TC.seq (TC.a (TL.w z (fieldLoc z fo25_0 z) (TL.w z (loadLoc z ag3 z (i := 0) z z) (TL.w z (OpVal.gtr z z z) (TL.en (TC.cD z hh (fun h105 hh => ?_) (fun h105 hh => ?_)))))))))
  ·refine TC.a (TL.i z z (TL.i z z (TL.en (TC.ofSub (Sub.pre 0 z) (TC.back (TC.ret (S.r ?_)))))))
   obtain rfl := so hh
   exact rq [2, 3] ⟨z, z, z⟩
  ·refine TC.skip (S.n (TC.a (TL.i z z (TL.en (TC.seq (TC.a (TL.i z z (TL.en (TC.block (TC.loopG (α := (Int × Nat) × (Unit)) (rgs [(5, 2), (21, 16)]) (fun g => [(5, .int .i64 g.1.1), (6, .int .i64 ((g.1.2 : Nat) : Int))]) (fun g => [Res.cells b101 #[.int .i64 v5.1.states, .slice a103_1 v5.1.starts.length c103_1, .slice a103_2 v5.1.ends.length c103_2, .slice a103_3 v5.1.arcs.length c103_3] 25]) (fun g => τ103) (fun g => iter (fun q : Int × Nat => whittleref20_Bound_b1 v5 q.1 q.2) g.1 = some r) (fun g => rounds (fun q : Int × Nat => whittleref20_Bound_b1 v5 q.1 q.2) g.1) ((0, 0), ()) (Sub.pre 1 z) z (by repeat (first | exact trivial | refine ⟨z, ?_⟩)) hh (fun g1 j1 hg1 => ?_)))))))))))
   obtain ⟨⟨i110, k111⟩, _⟩ := g1
   have hh := hg1; clear hg1
   try dsimp only
   obtain ⟨z1, hh, hR1⟩ := iter_e hh
   dsimp only [whittleref20_Bound_b1] at hh
   refine TC.seq (TC.a (TL.i z z (TL.w z (fieldLoc z fo25_1 z) (TL.w z (loadLoc z ag22 z (i := 0) z z) (TL.w z (lenC z underlying22 z) (TL.w z (OpVal.lss z z z) (TL.en (TC.cD z hh (fun h112 hh => ?_) (fun h112 hh => ?_)))))))))
   ·refine TC.skip (S.n (TC.seq (TC.block (TC.region (TL.i z z (TL.w z (fieldLoc z fo25_1 z) (TL.w z (loadLoc z ag22 z (i := 0) z z) (TL.i z z (TL.w z (indexN z underlying22 sz43 z z hr103_0.rv.sl (by omega)) (TL.w z (fieldElem z fo43_1 z hr103_0.rv.sl (by omega)) (TL.w z (loadS Tip.zero z ag9 z hr103_0 (by omega) (by omega) z) (TL.w z (lenBs z underlying9 z) (TL.w z (maxI z z z) (TL.i z z (TL.nil ?_)))))))))))))))
    refine B.n (S.n (TC.region (TL.i z z (TL.w z (OpVal.succ z z z (by omega)) (TL.i z z (TL.en ?_))))))
    obtain ⟨hh, hlt113⟩ := nxt_x hR1 hh
    exact lf (((max i110 ((((nth v5.1.starts k111 Tip.zero).out).length : Nat) : Int)), (k111 + 1)), ()) hlt113 hh (Sub.pre 1 z)
   ·refine TC.exit (S.x (S.x ?_))
    replace hh := fin_x hR1 hh
    refine TC.exitHere (S.n (TC.a (TL.i z z (TL.en (TC.seq (TC.a (TL.i z z (TL.en (TC.block (TC.loopG (α := (Int × Nat) × (Unit)) (rgs [(7, 3), (37, 25)]) (fun g => [(7, .int .i64 g.1.1), (8, .int .i64 ((g.1.2 : Nat) : Int))]) (fun g => [Res.cells b101 #[.int .i64 v5.1.states, .slice a103_1 v5.1.starts.length c103_1, .slice a103_2 v5.1.ends.length c103_2, .slice a103_3 v5.1.arcs.length c103_3] 25]) (fun g => τ103) (fun g => iter (fun q : Int × Nat => whittleref20_Bound_b2 v5 i110 q.1 q.2) g.1 = some r) (fun g => rounds (fun q : Int × Nat => whittleref20_Bound_b2 v5 i110 q.1 q.2) g.1) ((0, 0), ()) (Sub.pre 1 z) z (by repeat (first | exact trivial | refine ⟨z, ?_⟩)) hh (fun g2 j2 hg2 => ?_)))))))))))
    obtain ⟨⟨i118, k119⟩, _⟩ := g2
    have hh := hg2; clear hg2
    try dsimp only
    obtain ⟨z1, hh, hR1⟩ := iter_e hh
    dsimp only [whittleref20_Bound_b2] at hh
    refine TC.seq (TC.a (TL.i z z (TL.w z (fieldLoc z fo25_3 z) (TL.w z (loadLoc z ag23 z (i := 0) z z) (TL.w z (lenC z underlying23 z) (TL.w z (OpVal.lss z z z) (TL.en (TC.cD z hh (fun h120 hh => ?_) (fun h120 hh => ?_)))))))))
    ·refine TC.skip (S.n (TC.seq (TC.block (TC.a (TL.w z (fieldLoc z fo25_3 z) (TL.w z (loadLoc z ag23 z (i := 0) z z) (TL.i z z (TL.w z (indexN z underlying23 sz38 z z hr103_2.rv.sl (by omega)) (TL.w z (fieldElem z fo38_3 z hr103_2.rv.sl (by omega)) (TL.w z (loadS Arc.zero z ag9 z hr103_2 (by omega) (by omega) z) (TL.w z (lenBs z underlying9 z) (TL.i z z (TL.en (TC.cutG (α := (Nat) × (Unit)) (rgs [(9, 1), (51, 8)]) (fun g => [(9, .int .i64 ((g.1 : Nat) : Int))]) (fun g => [Res.cells b101 #[.int .i64 v5.1.states, .slice a103_1 v5.1.starts.length c103_1, .slice a103_2 v5.1.ends.length c103_2, .slice a103_3 v5.1.arcs.length c103_3] 25]) (fun g => τ103) (fun g => whittleref20_Bound_j1 i118 k119 g.1 = some z1) ?_ (fun g j hg => ?_)))))))))))))))
     ·skip
      refine TC.a (TL.w z (fieldLoc z fo25_3 z) (TL.w z (loadLoc z ag23 z (i := 0) z z) (TL.i z z (TL.w z (indexN z underlying23 sz38 z z hr103_2.rv.sl (by omega)) (TL.w z (fieldElem z fo38_4 z hr103_2.rv.sl (by omega)) (TL.w z (loadS Arc.zero z ag4 z hr103_2 (by omega) (by omega) z) (TL.en (TC.cB z hh (fun h122 hh => ?_) (fun h122 hh => ?_)))))))))
      ·refine TC.region (TL.i z z ?_)
       have u63 := grd_c hh
       replace hh := grd_t hh
       exact TL.w z (OpVal.succ z z z (by omega)) (TL.i z z (TL.en (cf ((((nth v5.1.arcs k119 Arc.zero).out).length + 1), ()) hh (Sub.pre 1 z))))
      ·exact TC.skip (S.n (cf (((nth v5.1.arcs k119 Arc.zero).out).length, ()) hh (Sub.pre 1 z)))
     ·skip
      obtain ⟨k121, _⟩ := g
      have hh := hg; clear hg
      try dsimp only
      dsimp only [whittleref20_Bound_j1] at hh
      refine TC.region (TL.i z z (TL.i z z (TL.w z (maxI z z z) (TL.i z z (TL.nil (B.n (S.n (TC.region (TL.i z z (TL.w z (OpVal.succ z z z (by omega)) (TL.i z z (TL.en ?_))))))))))))
      obtain ⟨hh, hlt123⟩ := nxt_x hR1 hh
      exact lf (((max i118 ((k121 : Nat) : Int)), (k119 + 1)), ()) hlt123 hh (Sub.pre 1 z)
    ·refine TC.exit (S.x (S.x ?_))
     replace hh := fin_x hR1 hh
     refine TC.exitHere (S.n (TC.a (TL.w z (fieldLoc z fo25_0 z) (TL.w z (loadLoc z ag3 z (i := 0) z z) (TL.w z (fieldLoc z fo25_0 z) (TL.w z (loadLoc z ag3 z (i := 0) z z) (TL.w z (mulW z z z) (TL.i z z (TL.w z (mulW z z z) (TL.i z z (TL.w z (addW z z z) (TL.i z z (TL.i z z (TL.en (TC.ofSub (Sub.pre 0 z) ?_)))))))))))))))
     refine TC.back (TC.ret ?_)
     obtain rfl := so hh
     exact rq [2, 3] ⟨z, z, z⟩

noncomputable def whittleref20_fresh_j2 (k118 : Nat) (l123 : List TLag) : Option (((List TLag) × Nat) ⊕ ((List TLag))) :=
 nxt (l123, (k118 + 1))
noncomputable def whittleref20_fresh_j4 (l115 : List TLag) (x0 : List TLag) (k118 : Nat) (t138 : Bool) : Option (((List TLag) × Nat) ⊕ ((List TLag))) :=
 iteO (!t138) (grd ((l115.length + [(nth x0 k118 TLag.zero)].length) * 48 ≤ 140737488355328) (whittleref20_fresh_j2 k118 (l115 ++ [(nth x0 k118 TLag.zero)]))) (whittleref20_fresh_j2 k118 l115)
noncomputable def whittleref20_fresh_b3 (l115 : List TLag) (x0 : List TLag) (k118 : Nat) (t143 : Bool) (k144 : Nat) : Option ((Bool × Nat) ⊕ (((List TLag) × Nat) ⊕ ((List TLag)))) :=
 iteO (decide (((k144 : Nat) : Int) < ((l115.length : Nat) : Int))) (iteO (!t143) (nxt (decide ((nth l115 k144 TLag.zero) = (nth x0 k118 TLag.zero)), (k144 + 1))) (fin (whittleref20_fresh_j4 l115 x0 k118 t143))) (fin (whittleref20_fresh_j4 l115 x0 k118 t143))
noncomputable def whittleref20_fresh_j3 (l115 : List TLag) (x0 : List TLag) (k118 : Nat) (t126 : Bool) : Option (((List TLag) × Nat) ⊕ ((List TLag))) :=
 iter (fun q : Bool × Nat => whittleref20_fresh_b3 l115 x0 k118 q.1 q.2) (t126, 0)
noncomputable def whittleref20_fresh_b2 (x1 : List TLag) (x0 : List TLag) (k118 : Nat) (l115 : List TLag) (t131 : Bool) (k132 : Nat) : Option ((Bool × Nat) ⊕ (((List TLag) × Nat) ⊕ ((List TLag)))) :=
 iteO (decide (((k132 : Nat) : Int) < ((x1.length : Nat) : Int))) (iteO (!t131) (nxt (decide ((nth x1 k132 TLag.zero) = (nth x0 k118 TLag.zero)), (k132 + 1))) (fin (whittleref20_fresh_j3 l115 x0 k118 t131))) (fin (whittleref20_fresh_j3 l115 x0 k118 t131))
noncomputable def whittleref20_fresh_j1 (l101 : List TLag) : Option ((List TLag)) :=
 some l101
noncomputable def whittleref20_fresh_b1 (x0 : List TLag) (x1 : List TLag) (l115 : List TLag) (k118 : Nat) : Option (((List TLag) × Nat) ⊕ ((List TLag))) :=
 iteO (decide (((k118 : Nat) : Int) < ((x0.length : Nat) : Int))) (iteO (decide (((l115.length : Nat) : Int) ≤ 2048)) (iter (fun q : Bool × Nat => whittleref20_fresh_b2 x1 x0 k118 l115 q.1 q.2) (false, 0)) (fin (whittleref20_fresh_j1 l115))) (fin (whittleref20_fresh_j1 l115))
noncomputable def whittleref20_fresh (x0 : List TLag) (x1 : List TLag) : Option ((List TLag)) :=
 iter (fun q : (List TLag) × Nat => whittleref20_fresh_b1 x0 x1 q.1 q.2) (([] : List TLag), 0)
def whittleref20_fresh_P (σ : Store) (r : (List TLag)) : Value → Store → List Res → Prop := fun v σ' H' =>
 ∃ (a1 : Option Addr), ∃ (c1 : Nat),  v = .slice a1 r.length c1 ∧ σ = σ' ∧ H' = [Res.rowS 60 4 encLag (.slice a1 r.length c1) r]
theorem whittleref20_fresh_con {σ : Store} {x0 : List TLag} {a0_0 : Option Addr} {c0_0 : Nat} {x1 : List TLag} {a1_0 : Option Addr} {c1_0 : Nat} (f0_0 : RS σ 4 encLag (.slice a0_0 x0.length c0_0) x0) (f1_0 : RS σ 4 encLag (.slice a1_0 x1.length c1_0) x1) {r : (List TLag)} (hh : whittleref20_fresh x0 x1 = some r) :
  Con Tryz.prog 20 #[.slice a0_0 x0.length c0_0, .slice a1_0 x1.length c1_0] σ [] (whittleref20_fresh_P σ r) := by
 dsimp only [whittleref20_fresh] at hh
 have f0_0b := f0_0.rv.big
 have f1_0b := f1_0.rv.big
 refine Con.mk (n := 69) Tryz.func20 z z z (fun w0 => ?_)
 refine TC.a (TL.s z z (TL.en (TC.a (TL.s z z (TL.en (TC.cutG (α := ((List TLag)) × ((Option Addr) × Nat)) (rgs [(5, 63)]) (fun g => [(5, .slice g.2.1 g.1.length g.2.2)]) (fun g => [Res.rowS 60 4 encLag (.slice g.2.1 g.1.length g.2.2) g.1]) (fun g => σ) (fun g => whittleref20_fresh_j1 g.1 = some r) ?_ (fun g j hg => ?_)))))))
 ·skip
  refine TC.a (TL.i z z (TL.en (TC.block (TC.nilS 60 4 encLag (TC.loopG (α := ((List TLag) × Nat) × ((Option Addr) × Nat)) (rgs [(5, 63)]) (fun g => [(5, .slice g.2.1 g.1.1.length g.2.2), (6, .int .i64 ((g.1.2 : Nat) : Int))]) (fun g => [Res.rowS 60 4 encLag (.slice g.2.1 g.1.1.length g.2.2) g.1.1]) (fun g => σ) (fun g => iter (fun q : (List TLag) × Nat => whittleref20_fresh_b1 x0 x1 q.1 q.2) g.1 = some r) (fun g => rounds (fun q : (List TLag) × Nat => whittleref20_fresh_b1 x0 x1 q.1 q.2) g.1) ((([] : List TLag), 0), (none, 0)) (Sub.pre 1 z) z (by repeat (first | exact trivial | refine ⟨z, ?_⟩)) hh (fun g1 j1 hg1 => ?_))))))
  obtain ⟨⟨l115, k118⟩, ⟨a116, c117⟩⟩ := g1
  have hh := hg1; clear hg1
  try dsimp only
  obtain ⟨z1, hh, hR1⟩ := iter_e hh
  dsimp only [whittleref20_fresh_b1] at hh
  refine TC.isSl (i := 0) z (fun _ hb120 _ => ?_)
  refine TC.seq (TC.a (TL.i z z (TL.s z z (TL.w z (lenC z underlying57 z) (TL.w z (OpVal.lss z z z) (TL.j z z (TL.split 14 z (fun h121 => ?_) (fun h121 => ?_))))))))
  ·replace hh := iteO_t h121 hh
   replace h121 := of_decide_eq_true h121
   refine TL.g z (moveSl (.inl z) z) (TL.g z (lenC z underlying57 z) (TL.g z (OpVal.leq z z z) (TL.w z (pickTB z z z) (TL.en (TC.cD z hh (fun h122 hh => ?_) (fun h122 hh => ?_))))))
   ·refine TC.skip (S.n (TC.cutG (α := ((List TLag)) × ((Option Addr) × Nat)) (rgs [(5, 1), (7, 3), (21, 47)]) (fun g => [(5, .slice g.2.1 g.1.length g.2.2)]) (fun g => [Res.rowS 60 4 encLag (.slice g.2.1 g.1.length g.2.2) g.1]) (fun g => σ) (fun g => whittleref20_fresh_j2 k118 g.1 = some z1) ?_ (fun g j hg => ?_)))
    ·skip
     refine TC.block (TC.a (TL.j z z (TL.en (TC.cutG (α := (Bool) × (Unit)) (rgs [(7, 2), (21, 19)]) (fun g => [(7, .bool g.1)]) (fun g => [Res.rowS 60 4 encLag (.slice a116 l115.length c117) l115]) (fun g => σ) (fun g => whittleref20_fresh_j3 l115 x0 k118 g.1 = some z1) ?_ (fun g j hg => ?_)))))
     ·skip
      refine TC.a (TL.i z z (TL.en (TC.block (TC.loopG (α := (Bool × Nat) × (Unit)) (rgs [(7, 2), (21, 19)]) (fun g => [(7, .bool g.1.1), (8, .int .i64 ((g.1.2 : Nat) : Int))]) (fun g => [Res.rowS 60 4 encLag (.slice a116 l115.length c117) l115]) (fun g => σ) (fun g => iter (fun q : Bool × Nat => whittleref20_fresh_b2 x1 x0 k118 l115 q.1 q.2) g.1 = some z1) (fun g => rounds (fun q : Bool × Nat => whittleref20_fresh_b2 x1 x0 k118 l115 q.1 q.2) g.1) ((false, 0), ()) (Sub.pre 1 z) z (by repeat (first | exact trivial | refine ⟨z, ?_⟩)) hh (fun g2 j2 hg2 => ?_)))))
      obtain ⟨⟨t131, k132⟩, _⟩ := g2
      have hh := hg2; clear hg2
      try dsimp only
      obtain ⟨z2, hh, hR2⟩ := iter_e hh
      dsimp only [whittleref20_fresh_b2] at hh
      refine TC.isSl (i := 0) z (fun _ hb133 _ => ?_)
      refine TC.seq (TC.a (TL.i z z (TL.s z z (TL.w z (lenC z underlying57 z) (TL.w z (OpVal.lss z z z) (TL.j z z (TL.split 25 z (fun h134 => ?_) (fun h134 => ?_))))))))
      ·replace hh := iteO_t h134 hh
       replace h134 := of_decide_eq_true h134
       refine TL.g z (moveB (.inl z) z) (TL.g z (OpVal.not z z) (TL.w z (pickTB z z z) (TL.en (TC.cB z hh (fun h135 hh => ?_) (fun h135 hh => ?_)))))
       ·refine TC.skip (S.n (TC.seq (TC.block (TC.draw [] (by kernel_rfl) (TA.a 0 z (moveSl (.inl z) z) z (TA.a 1 z (moveI (.inl z) z) z (TA.b 2 z (indexN z underlying57 sz60 z z f1_0.rv.sl (by omega)) z (TA.b 3 z (loadSA TLag.zero z ag60 sz60 z f1_0 (by omega) (by omega)) z (TA.a 4 z (moveSl (.inl z) z) z (TA.a 5 z (moveI (.inl z) z) z (TA.b 6 z (indexN z underlying57 sz60 z z f0_0.rv.sl (by omega)) z (TA.b 7 z (loadSA TLag.zero z ag60 sz60 z f0_0 (by omega) (by omega)) z (TA.a 8 z (eqlSt (p := (nth x1 k132 TLag.zero) = (nth x0 k118 TLag.zero)) z z z eg60 (es60 (nth x1 k132 TLag.zero) (nth x0 k118 TLag.zero)) z) z (TA.a 9 z (moveB (.inr z) z) z (TA.dn ?_)))))))))))))))
        refine B.n (S.n (TC.region (TL.i z z (TL.w z (OpVal.succ z z z (by omega)) (TL.i z z (TL.en ?_))))))
        obtain ⟨hh, hlt136⟩ := nxt_x hR2 hh
        exact lf ((decide ((nth x1 k132 TLag.zero) = (nth x0 k118 TLag.zero)), (k132 + 1)), ()) hlt136 hh (Sub.pre 1 z)
       ·refine TC.exit (S.x (S.x ?_))
        replace hh := fin_x hR2 hh
        exact TC.exitHere (S.n (cf (t131, ()) hh (Sub.pre 1 z)))
      ·replace hh := iteO_f h134 hh
       replace h134 := of_decide_eq_false h134
       refine TL.f z (TL.f z (TL.w z (pickFB z z z) (TL.en (TC.f z (TC.exit (S.x (S.x ?_)))))))
       replace hh := fin_x hR2 hh
       exact TC.exitHere (S.n (cf (t131, ()) hh (Sub.pre 1 z)))
     ·skip
      obtain ⟨t126, _⟩ := g
      have hh := hg; clear hg
      try dsimp only
      dsimp only [whittleref20_fresh_j3] at hh
      refine TC.isSl (i := 0) z (fun _ hb137 _ => ?_)
      refine TC.cutG (α := (Bool) × (Unit)) (rgs [(7, 1), (9, 1), (40, 19)]) (fun g => [(7, .bool g.1)]) (fun g => [Res.rowS 60 4 encLag (.slice a116 l115.length c117) l115]) (fun g => σ) (fun g => whittleref20_fresh_j4 l115 x0 k118 g.1 = some z1) ?_ (fun g j hg => ?_)
      ·skip
       refine TC.a (TL.i z z (TL.en (TC.block (TC.loopG (α := (Bool × Nat) × (Unit)) (rgs [(7, 1), (9, 1), (40, 19)]) (fun g => [(7, .bool g.1.1), (9, .int .i64 ((g.1.2 : Nat) : Int))]) (fun g => [Res.rowS 60 4 encLag (.slice a116 l115.length c117) l115]) (fun g => σ) (fun g => iter (fun q : Bool × Nat => whittleref20_fresh_b3 l115 x0 k118 q.1 q.2) g.1 = some z1) (fun g => rounds (fun q : Bool × Nat => whittleref20_fresh_b3 l115 x0 k118 q.1 q.2) g.1) ((t126, 0), ()) (Sub.pre 1 z) z (by repeat (first | exact trivial | refine ⟨z, ?_⟩)) hh (fun g3 j3 hg3 => ?_)))))
       obtain ⟨⟨t143, k144⟩, _⟩ := g3
       have hh := hg3; clear hg3
       try dsimp only
       obtain ⟨z2, hh, hR2⟩ := iter_e hh
       dsimp only [whittleref20_fresh_b3] at hh
       refine TC.isSl (i := 0) z (fun _ hb145 _ => ?_)
       refine TC.seq (TC.a (TL.i z z (TL.s z z (TL.w z (lenC z underlying57 z) (TL.w z (OpVal.lss z z z) (TL.j z z (TL.split 44 z (fun h146 => ?_) (fun h146 => ?_))))))))
       ·replace hh := iteO_t h146 hh
        replace h146 := of_decide_eq_true h146
        refine TL.g z (moveB (.inl z) z) (TL.g z (OpVal.not z z) (TL.w z (pickTB z z z) (TL.en (TC.cB z hh (fun h147 hh => ?_) (fun h147 hh => ?_)))))
        ·refine TC.skip (S.n (TC.seq (TC.block (TC.draw [] (by kernel_rfl) (TA.a 0 z (moveSl (.inl z) z) z (TA.a 1 z (moveI (.inl z) z) z (TA.isSl (i := 0) z (fun hs149 _ _ => ?_))))))))
         refine TA.b 2 z (indexN z underlying57 sz60 z z hs149 (by omega)) z (TA.b 3 z (loadOA TLag.zero z ag60 sz60 z (q := 0) z encLag_len (by omega) (by omega)) z (TA.a 4 z (moveSl (.inl z) z) z (TA.a 5 z (moveI (.inl z) z) z (TA.b 6 z (indexN z underlying57 sz60 z z f0_0.rv.sl (by omega)) z (TA.b 7 z (loadSA TLag.zero z ag60 sz60 z f0_0 (by omega) (by omega)) z (TA.a 8 z (eqlSt (p := (nth l115 k144 TLag.zero) = (nth x0 k118 TLag.zero)) z z z eg60 (es60 (nth l115 k144 TLag.zero) (nth x0 k118 TLag.zero)) z) z (TA.a 9 z (moveB (.inr z) z) z (TA.dn (B.n (S.n (TC.region (TL.i z z (TL.w z (OpVal.succ z z z (by omega)) (TL.i z z (TL.en ?_)))))))))))))))
         obtain ⟨hh, hlt150⟩ := nxt_x hR2 hh
         exact lf ((decide ((nth l115 k144 TLag.zero) = (nth x0 k118 TLag.zero)), (k144 + 1)), ()) hlt150 hh (Sub.pre 1 z)
        ·refine TC.exit (S.x (S.x ?_))
         replace hh := fin_x hR2 hh
         exact TC.exitHere (S.n (cf (t143, ()) hh (Sub.pre 1 z)))
       ·replace hh := iteO_f h146 hh
        replace h146 := of_decide_eq_false h146
        refine TL.f z (TL.f z (TL.w z (pickFB z z z) (TL.en (TC.f z (TC.exit (S.x (S.x ?_)))))))
        replace hh := fin_x hR2 hh
        exact TC.exitHere (S.n (cf (t143, ()) hh (Sub.pre 1 z)))
      ·skip
       obtain ⟨t138, _⟩ := g
       have hh := hg; clear hg
       try dsimp only
       dsimp only [whittleref20_fresh_j4] at hh
       refine TC.isSl (i := 0) z (fun _ hb151 _ => ?_)
       refine TC.a (TL.j z z (TL.w z (OpVal.not z z) (TL.en (TC.cB z hh (fun h152 hh => ?_) (fun h152 hh => ?_)))))
       ·refine TC.region (TL.s z z (TL.s z z (TL.i z z (TL.w z (indexN z underlying57 sz60 z z f0_0.rv.sl (by omega)) (TL.w z (loadSA TLag.zero z ag60 sz60 z f0_0 (by omega) (by omega)) (TL.op z (OpOk.lit (enc := encLag) [(nth x0 k118 TLag.zero)] z underlying57 sz60 ze60 z z z encLag_len (by decide) (by decide) TLag.zero z (by decide) z (by decide) encLag_one (fun a153 c154 => ?_))))))))
        refine TL.front 1 z z ?_
        have u66 := grd_c hh
        replace hh := grd_t hh
        refine TL.op z (appendS z z underlying57 sz60 by60 ze60 z z (by decide) z z z (.inr ⟨_, 0, z⟩) (by simpa using u66) (by decide) (fun a156 c157 => ?_))
        exact TL.s z z (TL.nil (B.n (S.n (cf ((l115 ++ [(nth x0 k118 TLag.zero)]), (a156, c157)) hh (Sub.pre 1 z)))))
       ·exact TC.skip (B.n (S.n (cf (l115, (a116, c117)) hh (Sub.pre 1 z))))
    ·skip
     obtain ⟨l123, ⟨a124, c125⟩⟩ := g
     have hh := hg; clear hg
     try dsimp only
     dsimp only [whittleref20_fresh_j2] at hh
     refine TC.isSl (i := 0) z (fun _ hb158 _ => ?_)
     refine TC.region (TL.i z z (TL.w z (OpVal.succ z z z (by omega)) (TL.i z z (TL.en ?_))))
     obtain ⟨hh, hlt159⟩ := nxt_x hR1 hh
     exact lf ((l123, (k118 + 1)), (a124, c125)) hlt159 hh (Sub.pre 1 z)
   ·refine TC.exit (S.x (S.x ?_))
    replace hh := fin_x hR1 hh
    exact TC.exitHere (S.n (cf (l115, (a116, c117)) hh (Sub.pre 1 z)))
  ·replace hh := iteO_f h121 hh
   replace h121 := of_decide_eq_false h121
   refine TL.f z (TL.f z (TL.f z (TL.w z (pickFB z z z) (TL.en (TC.f z (TC.exit (S.x (S.x ?_))))))))
   replace hh := fin_x hR1 hh
   exact TC.exitHere (S.n (cf (l115, (a116, c117)) hh (Sub.pre 1 z)))
 ·skip
  obtain ⟨l101, ⟨a102, c103⟩⟩ := g
  have hh := hg; clear hg
  try dsimp only
  dsimp only [whittleref20_fresh_j1] at hh
  refine TC.isSl (i := 0) z (fun _ hb160 _ => ?_)
  refine TC.a (TL.s z z (TL.s z z (TL.en (TC.ret ?_))))
  obtain rfl := so hh
  exact ro [Res.rowS 60 4 encLag (.slice a102 l101.length c103) l101] z (RVs.tmp z RVs.nil) ⟨a102, c103, z, z, z⟩

noncomputable def whittleref20_Twin_b3 (v56 : (List TLag)) (v17 : Fst × Int) (l124 : List TLag) (l169 : List TLag) (k172 : Nat) : Option (((List TLag) × Nat) ⊕ (((List TLag) × (List TLag)) ⊕ (Bool × Int))) :=
 iteO (decide (((k172 : Nat) : Int) < ((v56.length : Nat) : Int))) (bnd (whittleref19_Next v17.1 (nth v56 k172 TLag.zero)) (fun v84 => grd ((l169.length + v84.length) * 48 ≤ 140737488355328) (nxt ((l169 ++ v84), (k172 + 1))))) (fin (nxt ((l124 ++ v56), l169)))
noncomputable def whittleref20_Twin_b2 (l128 : List TLag) (v5 : Int × Int) (l124 : List TLag) (v17 : Fst × Int) (k138 : Nat) : Option ((Nat) ⊕ (((List TLag) × (List TLag)) ⊕ (Bool × Int))) :=
 iteO (decide (((k138 : Nat) : Int) < ((l128.length : Nat) : Int))) (iteO (decide (v5.1 < ((((nth l128 k138 TLag.zero).a).length : Nat) : Int))) (fin (fin (some (false, 0)))) (iteO (decide (v5.1 < ((((nth l128 k138 TLag.zero).b).length : Nat) : Int))) (fin (fin (some (false, 0)))) (nxt (k138 + 1)))) (fin (bnd (whittleref20_fresh l128 l124) (fun v56 => grd ((l124.length + v56.length) * 48 ≤ 140737488355328) (iteO (decide (2048 < (((l124 ++ v56).length : Nat) : Int))) (fin (some (false, 2))) (iteO (decide (((v56.length : Nat) : Int) = 0)) (fin (some (true, 0))) (iter (fun q : (List TLag) × Nat => whittleref20_Twin_b3 v56 v17 l124 q.1 q.2) (([] : List TLag), 0)))))))
noncomputable def whittleref20_Twin_b1 (v5 : Int × Int) (v17 : Fst × Int) (l124 : List TLag) (l128 : List TLag) : Option (((List TLag) × (List TLag)) ⊕ (Bool × Int)) :=
 iter (fun q : Nat => whittleref20_Twin_b2 l128 v5 l124 v17 q) 0
noncomputable def whittleref20_Twin (x0 : Fst) : Option (Bool × Int) :=
 bnd (whittleref20_Bound x0) (fun v5 => iteO (decide (v5.2 ≠ 0)) (some (false, v5.2)) (bnd (whittleref18_Trim x0) (fun v17 => bnd (whittleref19_Firsts v17.1) (fun v24 => iter (fun q : (List TLag) × (List TLag) => whittleref20_Twin_b1 v5 v17 q.1 q.2) (([] : List TLag), v24)))))
theorem whittleref20_Twin_con {σ : Store} {x0 : Fst} {a0_0 : Option Addr} {c0_0 : Nat} {a0_1 : Option Addr} {c0_1 : Nat} {a0_2 : Option Addr} {c0_2 : Nat} (f0_0 : RS σ 2 encTip (.slice a0_0 x0.starts.length c0_0) x0.starts) (f0_1 : RS σ 2 encTip (.slice a0_1 x0.ends.length c0_1) x0.ends) (f0_2 : RS σ 8 encArc (.slice a0_2 x0.arcs.length c0_2) x0.arcs) {r : Bool × Int} (hh : whittleref20_Twin x0 = some r) :
  Con Tryz.prog 9 #[.agg #[.int .i64 x0.states, .slice a0_0 x0.starts.length c0_0, .slice a0_1 x0.ends.length c0_1, .slice a0_2 x0.arcs.length c0_2]] σ [] (PureP (.tuple #[.bool r.1, .int .i64 r.2]) σ) := by
 dsimp only [whittleref20_Twin] at hh
 have f0_0b := f0_0.rv.big
 have f0_1b := f0_1.rv.big
 have f0_2b := f0_2.rv.big
 refine Con.mk (n := 76) Tryz.func9 z z z (fun w0 => ?_)
 refine TC.a (TL.op z (boxA z z z z (fun b101 => ?_)))
 refine TL.j z z (TL.i z z (TL.en (TC.a (TL.w z (loadAll z ag25 sz25 z (i := 0) z z) ?_))))
 obtain ⟨v5, u5, hh⟩ := bnd_e hh
 refine TL.op z (callP (whittleref20_Bound_con (x0 := x0) f0_0 f0_1 f0_2 u5) z z pf6 z z z ?_)
 refine TL.w z (moveT (.inl z) z) (TL.w z (OpVal.extract z z z) (TL.w z (OpVal.extract z z z) (TL.i z z (TL.i z z (TL.en (TC.seq (TC.a (TL.i z z (TL.w z (OpVal.neq z z z) (TL.en (TC.cD z hh (fun h103 hh => ?_) (fun h103 hh => ?_))))))))))))
 ·refine TC.a (TL.i z z (TL.j z z (TL.i z z (TL.en (TC.rt 0 (S.r ?_))))))
  obtain rfl := so hh
  exact rq [2, 3] ⟨z, z, z⟩
 ·refine TC.skip (S.n (TC.a (TL.w z (loadAll z ag25 sz25 z (i := 0) z z) ?_)))
  obtain ⟨v17, u17, hh⟩ := bnd_e hh
  refine TL.op z (OpOk.call (whittleref18_Trim_con (x0 := x0) f0_0 f0_1 f0_2 u17) z z pf14 z z z z ?_)
  rintro _ τ104 _ hle104 ⟨a104_1, c104_1, a104_2, c104_2, a104_3, c104_3, rfl, hr104_0, hr104_1, hr104_2, rfl⟩
  have hr104_0b := hr104_0.rv.big
  have hr104_1b := hr104_1.rv.big
  have hr104_2b := hr104_2.rv.big
  refine TL.w z (moveT (.inl z) z) (TL.w z (OpVal.extract z z z) (TL.w z (OpVal.extract z z z) (TL.op z (storeAll z sz25 z z z z z z ?_))))
  refine TL.en (TC.a (TL.s z z (TL.en (TC.a (TL.w z (loadAll z ag25 sz25 z (i := 0) z z) ?_)))))
  obtain ⟨v24, u24, hh⟩ := bnd_e hh
  refine TL.op z (OpOk.call (whittleref19_Firsts_con (x0 := v17.1) hr104_0 hr104_1 hr104_2 u24) z z pf19 z z z z ?_)
  rintro _ _ _ hle105 ⟨a105_1, c105_1, rfl, rfl, rfl⟩
  refine TL.s z z (TL.en (TC.block (TC.nilS 60 4 encLag (TC.loopG (α := ((List TLag) × (List TLag)) × ((Option Addr) × Nat × (Option Addr) × Nat × Store)) (rgs [(2, 2), (6, 5), (26, 50)]) (fun g => [(6, .slice g.2.1 g.1.1.length g.2.2.1), (7, .slice g.2.2.2.1 g.1.2.length g.2.2.2.2.1)]) (fun g => [Res.cells b101 #[.int .i64 v17.1.states, .slice a104_1 v17.1.starts.length c104_1, .slice a104_2 v17.1.ends.length c104_2, .slice a104_3 v17.1.arcs.length c104_3] 25, Res.rowS 60 4 encLag (.slice g.2.1 g.1.1.length g.2.2.1) g.1.1, Res.rowS 60 4 encLag (.slice g.2.2.2.1 g.1.2.length g.2.2.2.2.1) g.1.2]) (fun g => g.2.2.2.2.2) (fun g => iter (fun q : (List TLag) × (List TLag) => whittleref20_Twin_b1 v5 v17 q.1 q.2) g.1 = some r ∧ Store.le τ104 g.2.2.2.2.2) (fun g => rounds (fun q : (List TLag) × (List TLag) => whittleref20_Twin_b1 v5 v17 q.1 q.2) g.1) ((([] : List TLag), v24), (none, 0, a105_1, c105_1, τ104)) (Sub.f [1, 1, 2] 3) z (by repeat (first | exact trivial | refine ⟨z, ?_⟩)) ⟨hh, (Store.le.refl _)⟩ (fun g1 j1 hg1 => ?_)))))
  obtain ⟨⟨l124, l128⟩, ⟨a125, c126, a129, c130, τ132⟩⟩ := g1
  obtain ⟨hh, hle133⟩ := hg1
  dsimp only at hle133
  replace hr104_0 := hr104_0.mono hle133
  replace hr104_1 := hr104_1.mono hle133
  replace hr104_2 := hr104_2.mono hle133
  try dsimp only
  obtain ⟨z1, hh, hR1⟩ := iter_e hh
  dsimp only [whittleref20_Twin_b1] at hh
  refine TC.isSl (i := 1) z (fun _ hb134 _ => ?_)
  refine TC.isSl (i := 2) z (fun _ hb135 _ => ?_)
  refine TC.block (TC.seq (TC.a (TL.i z z (TL.en (TC.block (TC.loopG (α := (Nat) × (Unit)) (rgs [(2, 2), (8, 1), (26, 24)]) (fun g => [(8, .int .i64 ((g.1 : Nat) : Int))]) (fun g => [Res.cells b101 #[.int .i64 v17.1.states, .slice a104_1 v17.1.starts.length c104_1, .slice a104_2 v17.1.ends.length c104_2, .slice a104_3 v17.1.arcs.length c104_3] 25, Res.rowS 60 4 encLag (.slice a125 l124.length c126) l124, Res.rowS 60 4 encLag (.slice a129 l128.length c130) l128]) (fun g => τ132) (fun g => iter (fun q : Nat => whittleref20_Twin_b2 l128 v5 l124 v17 q) g.1 = some z1) (fun g => rounds (fun q : Nat => whittleref20_Twin_b2 l128 v5 l124 v17 q) g.1) (0, ()) (Sub.f [2, 2, 2] 3) z (by repeat (first | exact trivial | refine ⟨z, ?_⟩)) hh (fun g2 j2 hg2 => ?_)))))))
  obtain ⟨k138, _⟩ := g2
  have hh := hg2; clear hg2
  try dsimp only
  obtain ⟨z2, hh, hR2⟩ := iter_e hh
  dsimp only [whittleref20_Twin_b2] at hh
  refine TC.isSl (i := 1) z (fun _ hb139 _ => ?_)
  refine TC.isSl (i := 2) z (fun _ hb140 _ => ?_)
  refine TC.seq (TC.a (TL.i z z (TL.s z z (TL.w z (lenC z underlying57 z) (TL.w z (OpVal.lss z z z) (TL.en (TC.cD z hh (fun h141 hh => ?_) (fun h141 hh => ?_))))))))
  ·refine TC.skip (S.n (TC.seq (TC.block (TC.a (TL.s z z (TL.i z z (TL.isSl (i := 2) z (fun hs142 _ _ => ?_))))))))
   refine TL.w z (indexN z underlying57 sz60 z z hs142 (by omega)) (TL.isSl (i := 2) z (fun hs143 _ _ => ?_))
   refine TL.w z (fieldElem z fo60_2 z hs143 (by omega)) (TL.w z (loadO TLag.zero z ag9 z (q := 2) z encLag_len (by omega) (by omega) z) (TL.w z (lenBs z underlying9 z) (TL.i z z (TL.w z (OpVal.gtr z z z) (TL.j z z (TL.split 40 z (fun h144 => ?_) (fun h144 => ?_)))))))
   ·replace hh := iteO_t h144 hh
    replace h144 := of_decide_eq_true h144
    refine TL.f z (TL.f z (TL.f z (TL.f z (TL.f z (TL.f z (TL.f z (TL.f z (TL.w z (pickTB z z z) (TL.en (TC.t z (TC.a (TL.j z z (TL.i z z (TL.en (TC.ofSub (Sub.pre 0 z) ?_)))))))))))))))
    refine TC.back (TC.ret (B.r (S.r (S.r ?_))))
    replace hh := fin_x hR2 hh
    refine B.r (S.r (B.r (S.r ?_)))
    replace hh := fin_x hR1 hh
    refine B.r ?_
    obtain rfl := so hh
    exact rq [2, 3] ⟨z, z, z⟩
   ·replace hh := iteO_f h144 hh
    replace h144 := of_decide_eq_false h144
    refine TL.g z (moveSl (.inl z) z) (TL.g z (moveI (.inl z) z) (TL.isSl (i := 2) z (fun hs145 _ _ => ?_)))
    refine TL.g z (indexN z underlying57 sz60 z z hs145 (by omega)) (TL.isSl (i := 2) z (fun hs146 _ _ => ?_))
    refine TL.g z (fieldElem z fo60_3 z hs146 (by omega)) (TL.g z (loadO TLag.zero z ag9 z (q := 2) z encLag_len (by omega) (by omega) z) (TL.g z (lenBs z underlying9 z) (TL.g z (moveI (.inl z) z) (TL.g z (OpVal.gtr z z z) (TL.w z (pickFB z z z) (TL.en (TC.cD z hh (fun h147 hh => ?_) (fun h147 hh => ?_))))))))
    ·refine TC.a (TL.j z z (TL.i z z (TL.en (TC.ofSub (Sub.pre 0 z) (TC.back (TC.ret (B.r (S.r (S.r ?_)))))))))
     replace hh := fin_x hR2 hh
     refine B.r (S.r (B.r (S.r ?_)))
     replace hh := fin_x hR1 hh
     refine B.r ?_
     obtain rfl := so hh
     exact rq [2, 3] ⟨z, z, z⟩
    ·refine TC.skip (B.n (S.n (TC.region (TL.i z z (TL.w z (OpVal.succ z z z (by omega)) (TL.i z z (TL.en ?_)))))))
     obtain ⟨hh, hlt148⟩ := nxt_x hR2 hh
     exact lf ((k138 + 1), ()) hlt148 hh (Sub.f [2, 2, 2] 3)
  ·refine TC.exit (S.x (S.x ?_))
   replace hh := fin_x hR2 hh
   refine TC.exitHere (S.n (TC.a (TL.s z z (TL.s z z (TL.front 2 z z (TL.sealS encLag_len (fun τ151 hle150 hr149 => ?_)))))))
   replace hr104_0 := hr104_0.mono hle150
   replace hr104_1 := hr104_1.mono hle150
   replace hr104_2 := hr104_2.mono hle150
   have hr149b := hr149.rv.big
   refine TL.front 1 z z ?_
   obtain ⟨v56, u56, hh⟩ := bnd_e hh
   refine TL.op rfl (OpOk.call (Con.lendG (Post := fun τ => whittleref20_fresh_P τ v56) encLag_len (by rintro τ τ' r σ' H' ⟨g0, g1, rfl, rfl, rfl⟩; exact ⟨rfl, g0, g1, rfl, rfl, rfl⟩) (fun _ hle_ hr_ => whittleref20_fresh_con (hr149.mono hle_) hr_ u56)) rfl rfl pf20 rfl rfl rfl rfl ?_)
   rintro _ _ _ hle152 ⟨_, ⟨a152_1, c152_1, rfl, rfl, rfl⟩, rfl⟩
   refine TL.s z z (TL.en (TC.a (TL.s z z (TL.s z z (TL.front 1 z z ?_)))))
   have u60 := grd_c hh
   replace hh := grd_t hh
   refine TL.op z (appendS z z underlying57 sz60 by60 ze60 z z (by decide) z z z (.inr ⟨_, 0, z⟩) (by simpa using u60) (by decide) (fun a154 c155 => ?_))
   refine TL.s z z (TL.en (TC.seq (TC.a (TL.s z z (TL.w z (lenC z underlying57 z) (TL.w z (OpVal.gtr z z z) (TL.en (TC.cD z hh (fun h156 hh => ?_) (fun h156 hh => ?_)))))))))
   ·refine TC.a (TL.j z z (TL.i z z (TL.en (TC.ofSub (Sub.pre 0 z) (TC.back (TC.ret (S.r (B.r (S.r ?_)))))))))
    replace hh := fin_x hR1 hh
    refine B.r ?_
    obtain rfl := so hh
    exact rq [2, 3] ⟨z, z, z⟩
   ·refine TC.skip (S.n (TC.seq (TC.a (TL.s z z (TL.w z (lenC z underlying57 z) (TL.w z (OpVal.eql z z z) (TL.en (TC.cD z hh (fun h157 hh => ?_) (fun h157 hh => ?_)))))))))
    ·refine TC.a (TL.j z z (TL.i z z (TL.en (TC.ofSub (Sub.pre 0 z) (TC.back (TC.ret (S.r (B.r (S.r ?_)))))))))
     replace hh := fin_x hR1 hh
     refine B.r ?_
     obtain rfl := so hh
     exact rq [2, 3] ⟨z, z, z⟩
    ·refine TC.skip (S.n (TC.a (TL.s z z (TL.en (TC.a (TL.i z z (TL.en (TC.block (TC.nilS 60 4 encLag (TC.loopG (α := ((List TLag) × Nat) × ((Option Addr) × Nat)) (rgs [(7, 1), (10, 1), (62, 14)]) (fun g => [(7, .slice g.2.1 g.1.1.length g.2.2), (10, .int .i64 ((g.1.2 : Nat) : Int))]) (fun g => [Res.cells b101 #[.int .i64 v17.1.states, .slice a104_1 v17.1.starts.length c104_1, .slice a104_2 v17.1.ends.length c104_2, .slice a104_3 v17.1.arcs.length c104_3] 25, Res.rowS 60 4 encLag (.slice a154 (l124 ++ v56).length c155) (l124 ++ v56), Res.rowS 60 4 encLag (.slice g.2.1 g.1.1.length g.2.2) g.1.1, Res.rowS 60 4 encLag (.slice a152_1 v56.length c152_1) v56]) (fun g => τ151) (fun g => iter (fun q : (List TLag) × Nat => whittleref20_Twin_b3 v56 v17 l124 q.1 q.2) g.1 = some z1) (fun g => rounds (fun q : (List TLag) × Nat => whittleref20_Twin_b3 v56 v17 l124 q.1 q.2) g.1) ((([] : List TLag), 0), (none, 0)) (Sub.f [2, 1, 2, 3] 4) z (by repeat (first | exact trivial | refine ⟨z, ?_⟩)) hh (fun g3 j3 hg3 => ?_)))))))))))
     obtain ⟨⟨l169, k172⟩, ⟨a170, c171⟩⟩ := g3
     have hh := hg3; clear hg3
     try dsimp only
     obtain ⟨z2, hh, hR2⟩ := iter_e hh
     dsimp only [whittleref20_Twin_b3] at hh
     refine TC.isSl (i := 1) z (fun _ hb174 _ => ?_)
     refine TC.isSl (i := 2) z (fun _ hb175 _ => ?_)
     refine TC.isSl (i := 3) z (fun _ hb176 _ => ?_)
     refine TC.seq (TC.a (TL.i z z (TL.s z z (TL.w z (lenC z underlying57 z) (TL.w z (OpVal.lss z z z) (TL.en (TC.cD z hh (fun h177 hh => ?_) (fun h177 hh => ?_))))))))
     ·refine TC.skip (S.n (TC.seq (TC.block ?_)))
      obtain ⟨v84, u84, hh⟩ := bnd_e hh
      have u85 := grd_c hh
      replace hh := grd_t hh
      refine TC.draw [7, 8] (by kernel_rfl) (TA.a 0 z (moveSl (.inl z) z) z (TA.b 1 z (loadAll z ag25 sz25 z (i := 0) z z) z (TA.a 2 z (moveSl (.inl z) z) z (TA.a 3 z (moveI (.inl z) z) z (TA.isSl (i := 3) z (fun hs183 _ _ => ?_))))))
      refine TA.b 4 z (indexN z underlying57 sz60 z z hs183 (by omega)) z (TA.b 5 z (loadOA TLag.zero z ag60 sz60 z (q := 3) z encLag_len (by omega) (by omega)) z (TA.ac 6 z (OpOk.call (whittleref19_Next_con (x0 := v17.1) hr104_0 hr104_1 hr104_2 u84) z z pf21 z z z z ?_)))
      rintro _ _ _ hle184 ⟨a184_1, c184_1, rfl, rfl, rfl⟩
      refine k1 (TA.front 3 z z (TA.last 7 (by kernel_rfl) z z z (appendS z z underlying57 sz60 by60 ze60 z z (by decide) z z z (.inr ⟨_, 0, z⟩) (by simpa using u85) (by decide) (fun a186 c187 => ?_))))
      refine TZ.v 8 (by kernel_rfl) z z z (moveSl (.inr z) z) z z (TZ.done (by kernel_rfl) (B.n (S.n (TC.region (TL.i z z (TL.w z (OpVal.succ z z z (by omega)) (TL.i z z (TL.en ?_))))))))
      obtain ⟨hh, hlt188⟩ := nxt_x hR2 hh
      exact lf (((l169 ++ v84), (k172 + 1)), (a186, c187)) hlt188 hh (Sub.f [4, 1, 4, 4] 4)
     ·refine TC.exit (S.x (S.x ?_))
      replace hh := fin_x hR2 hh
      refine TC.exitHere (B.n (S.n ?_))
      obtain ⟨hh, hlt189⟩ := nxt_x hR1 hh
      exact lf (((l124 ++ v56), l169), (a154, c155, a170, c171, τ151)) hlt189 ⟨hh, (hle133.trans hle150)⟩ (Sub.f [2, 2, 2] 3)

noncomputable def whittlelaw20_TwinTells_j1 (x0 : Fst) : Option (Bool) :=
 bnd (twin_Twin x0) (fun v39 => bnd (whittleref20_Twin x0) (fun v46 => bnd (whittlelaw20_awake) (fun v52 => iteO v52 (iteO (v39.1 == v46.1) (some (decide (v39.2 = v46.2))) (some false)) (some false))))
noncomputable def whittlelaw20_TwinTells (x0 : Fst) : Option (Bool) :=
 bnd (whittlelaw20_small x0) (fun v4 => iteO (!v4) (some true) (bnd (twin_Bound x0) (fun v8 => bnd (whittleref20_Bound x0) (fun v15 => iteO (decide (v8.1 ≠ v15.1)) (some false) (iteO (decide (v8.2 ≠ v15.2)) (some false) (iteO (decide (v8.2 = 0)) (iteO (decide (200 < v8.1)) (bnd (whittlelaw20_awake) (fun v36 => some v36)) (whittlelaw20_TwinTells_j1 x0)) (whittlelaw20_TwinTells_j1 x0)))))))
theorem whittlelaw20_TwinTells_con {σ : Store} {x0 : Fst} {a0_0 : Option Addr} {c0_0 : Nat} {a0_1 : Option Addr} {c0_1 : Nat} {a0_2 : Option Addr} {c0_2 : Nat} (f0_0 : RS σ 2 encTip (.slice a0_0 x0.starts.length c0_0) x0.starts) (f0_1 : RS σ 2 encTip (.slice a0_1 x0.ends.length c0_1) x0.ends) (f0_2 : RS σ 8 encArc (.slice a0_2 x0.arcs.length c0_2) x0.arcs) {r : Bool} (hh : whittlelaw20_TwinTells x0 = some r) :
  Con Tryz.prog 3 #[.agg #[.int .i64 x0.states, .slice a0_0 x0.starts.length c0_0, .slice a0_1 x0.ends.length c0_1, .slice a0_2 x0.arcs.length c0_2]] σ [] (PureP (.bool r) σ) := by
 dsimp only [whittlelaw20_TwinTells] at hh
 have f0_0b := f0_0.rv.big
 have f0_1b := f0_1.rv.big
 have f0_2b := f0_2.rv.big
 refine Con.mk (n := 60) Tryz.func3 z z z (fun w0 => ?_)
 refine TC.a (TL.op z (boxA z z z z (fun b101 => ?_)))
 refine TL.j z z (TL.en (TC.seq (TC.a (TL.w z (loadAll z ag25 sz25 z (i := 0) z z) ?_))))
 obtain ⟨v4, u4, hh⟩ := bnd_e hh
 refine TL.op z (callP (whittlelaw20_small_con (x0 := x0) f0_0 f0_1 f0_2 u4) z z pf4 z z z ?_)
 refine TL.w z (OpVal.not z z) (TL.en (TC.cB z hh (fun h103 hh => ?_) (fun h103 hh => ?_)))
 ·refine TC.a (TL.j z z (TL.en (TC.rt 0 (S.r ?_))))
  obtain rfl := so hh
  exact rq [2] ⟨z, z, z⟩
 ·refine TC.skip (S.n (TC.a (TL.w z (loadAll z ag25 sz25 z (i := 0) z z) ?_)))
  obtain ⟨v8, u8, hh⟩ := bnd_e hh
  refine TL.op z (callP (twin_Bound_con (x0 := x0) f0_0 f0_1 f0_2 u8) z z pf5 z z z ?_)
  refine TL.w z (moveT (.inl z) z) (TL.w z (OpVal.extract z z z) (TL.w z (OpVal.extract z z z) (TL.i z z (TL.i z z (TL.en (TC.a (TL.w z (loadAll z ag25 sz25 z (i := 0) z z) ?_)))))))
  obtain ⟨v15, u15, hh⟩ := bnd_e hh
  refine TL.op z (callP (whittleref20_Bound_con (x0 := x0) f0_0 f0_1 f0_2 u15) z z pf6 z z z ?_)
  refine TL.w z (moveT (.inl z) z) (TL.w z (OpVal.extract z z z) (TL.w z (OpVal.extract z z z) (TL.i z z (TL.i z z (TL.en (TC.seq (TC.a (TL.i z z (TL.i z z (TL.w z (OpVal.neq z z z) (TL.j z z (TL.split 27 z (fun h104 => ?_) (fun h104 => ?_)))))))))))))
  ·replace hh := iteO_t h104 hh
   replace h104 := of_decide_eq_true h104
   refine TL.f z (TL.f z (TL.f z (TL.w z (pickTB z z z) (TL.en (TC.t z (TC.a (TL.j z z (TL.en (TC.rt 0 (S.r ?_))))))))))
   obtain rfl := so hh
   exact rq [2] ⟨z, z, z⟩
  ·replace hh := iteO_f h104 hh
   replace h104 := of_decide_eq_false h104
   refine TL.g z (moveI (.inl z) z) (TL.g z (moveI (.inl z) z) (TL.g z (OpVal.neq z z z) (TL.w z (pickFB z z z) (TL.en (TC.cD z hh (fun h105 hh => ?_) (fun h105 hh => ?_))))))
   ·refine TC.a (TL.j z z (TL.en (TC.rt 0 (S.r ?_))))
    obtain rfl := so hh
    exact rq [2] ⟨z, z, z⟩
   ·refine TC.skip (S.n (TC.cutG (α := (Unit) × (Unit)) (rgs [(2, 1), (32, 7)]) (fun g => []) (fun g => [Res.cells b101 #[.int .i64 x0.states, .slice a0_0 x0.starts.length c0_0, .slice a0_1 x0.ends.length c0_1, .slice a0_2 x0.arcs.length c0_2] 25]) (fun g => σ) (fun g => whittlelaw20_TwinTells_j1 x0 = some r) ?_ (fun g j hg => ?_)))
    ·skip
     refine TC.a (TL.i z z (TL.w z (OpVal.eql z z z) (TL.j z z (TL.split 34 z (fun h106 => ?_) (fun h106 => ?_)))))
     ·replace hh := iteO_t h106 hh
      replace h106 := of_decide_eq_true h106
      refine TL.g z (moveI (.inl z) z) (TL.g z (OpVal.gtr z z z) (TL.w z (pickTB z z z) (TL.en (TC.cD z hh (fun h107 hh => ?_) (fun h107 hh => ?_)))))
      ·refine TC.a ?_
       obtain ⟨v36, u36, hh⟩ := bnd_e hh
       refine TL.op z (callP (whittlelaw20_awake_con u36) z z pf7 z z z ?_)
       refine TL.j z z (TL.en (TC.rt 0 (S.r ?_)))
       obtain rfl := so hh
       exact rq [2] ⟨z, z, z⟩
      ·exact TC.skip (S.n (cf ((), ()) hh (Sub.pre 1 z)))
     ·replace hh := iteO_f h106 hh
      replace h106 := of_decide_eq_false h106
      exact TL.f z (TL.f z (TL.w z (pickFB z z z) (TL.en (TC.f z (TC.skip (S.n (cf ((), ()) hh (Sub.pre 1 z))))))))
    ·skip
     obtain ⟨_, _⟩ := g
     have hh := hg; clear hg
     try dsimp only
     dsimp only [whittlelaw20_TwinTells_j1] at hh
     refine TC.a (TL.w z (loadAll z ag25 sz25 z (i := 0) z z) ?_)
     obtain ⟨v39, u39, hh⟩ := bnd_e hh
     refine TL.op z (callP (twin_Twin_con (x0 := x0) f0_0 f0_1 f0_2 u39) z z pf8 z z z ?_)
     refine TL.w z (moveT (.inl z) z) (TL.w z (OpVal.extract z z z) (TL.w z (OpVal.extract z z z) (TL.j z z (TL.i z z (TL.en (TC.a (TL.w z (loadAll z ag25 sz25 z (i := 0) z z) ?_)))))))
     obtain ⟨v46, u46, hh⟩ := bnd_e hh
     refine TL.op z (callP (whittleref20_Twin_con (x0 := x0) f0_0 f0_1 f0_2 u46) z z pf9 z z z ?_)
     refine TL.w z (moveT (.inl z) z) (TL.w z (OpVal.extract z z z) (TL.w z (OpVal.extract z z z) (TL.j z z (TL.i z z (TL.en (TC.a ?_))))))
     obtain ⟨v52, u52, hh⟩ := bnd_e hh
     refine TL.op z (callP (whittlelaw20_awake_con u52) z z pf7 z z z ?_)
     refine TL.j z z (TL.split 50 z (fun h108 => ?_) (fun h108 => ?_))
     ·replace hh := iteO_t h108 hh
      refine TL.g z (moveB (.inl z) z) (TL.g z (moveB (.inl z) z) (TL.g z (eqlB z z z underlying4) (TL.w z (pickTB z z z) (TL.j z z (TL.split 55 z (fun h109 => ?_) (fun h109 => ?_))))))
      ·replace hh := iteO_t h109 hh
       refine TL.g z (moveI (.inl z) z) (TL.g z (moveI (.inl z) z) (TL.g z (OpVal.eql z z z) (TL.w z (pickTB z z z) (TL.j z z (TL.en (TC.rt 0 ?_))))))
       obtain rfl := so hh
       exact rq [2] ⟨z, z, z⟩
      ·replace hh := iteO_f h109 hh
       refine TL.f z (TL.f z (TL.f z (TL.w z (pickFB z z z) (TL.j z z (TL.en (TC.rt 0 ?_))))))
       obtain rfl := so hh
       exact rq [2] ⟨z, z, z⟩
     ·replace hh := iteO_f h108 hh
      refine TL.f z (TL.f z (TL.f z (TL.w z (pickFB z z z) (TL.j z z (TL.f z (TL.f z (TL.f z (TL.w z (pickFB z z z) (TL.j z z (TL.en (TC.rt 0 ?_)))))))))))
      obtain rfl := so hh
      exact rq [2] ⟨z, z, z⟩

end Go.Proofs.YtcfjjckencjjeaaGreat
end

/- TrB -/
section
/- The reference's Bound is the program's. Plain lemmas, no condition. -/
set_option linter.unusedVariables false
set_option linter.unusedSimpArgs false
namespace Go.Proofs.YtcfjjckencjjeaaGreat
open Go Go.E
set_option maxRecDepth 100000

theorem rbound_in {v5 : Fst × Int} (ht : FstOk v5.1) (hs : v5.1.states ≤ 32) : iter (fun q : Int × Nat => whittleref20_Bound_b1 v5 q.1 q.2) (0, 0) = some (boundD v5.1, 0) := by
  obtain ⟨t, e5⟩ := v5
  dsimp only at ht hs
  have hr := boundD_rng ht hs
  have h0 := ht.st0
  have h2 := tipM_rng fun x hx => (ht.starts x hx).2
  have h3 := arcM_rng fun x hx => (ht.arcs x hx).2.2.2
  have hq : 0 ≤ t.states * t.states ∧ t.states * t.states ≤ 1024 := by
    have hn : t.states = ((t.states.toNat : Nat) : Int) := by omega
    have hm : t.states.toNat ≤ 32 := by omega
    have := Nat.mul_le_mul hm hm
    rw [hn]; omega
  have hq2 : 0 ≤ t.states * t.states * arcM t.arcs ∧ t.states * t.states * arcM t.arcs ≤ 1024 * 1025 :=
    ⟨Int.mul_nonneg hq.1 h3.1, Int.mul_le_mul hq.2 h3.2 h3.1 (by decide)⟩
  have hin : iter (fun q : Int × Nat => whittleref20_Bound_b2 (t, e5) (tipM t.starts) q.1 q.2) (0, 0) = some (boundD t, 0) := by
    refine iter_fold t.arcs Arc.zero (fun k => arcM (t.arcs.take k)) (fun k hk => ?_) ?_
    · show whittleref20_Bound_b2 (t, e5) _ _ k = _
      have hx := (ht.arcs _ (mem_at Arc.zero hk)).2.2.2
      unfold whittleref20_Bound_b2 whittleref20_Bound_j1
      dsimp only
      rw [iteO_dt (by omega), take_snoc _ hk Arc.zero, arcM_snoc]
      unfold arcW
      cases (nth t.arcs k Arc.zero).copy with
      | true => rw [iteO_true, grd_mk (by omega), if_pos rfl]; rfl
      | false => rw [iteO_false]; rfl
    · show whittleref20_Bound_b2 (t, e5) _ _ t.arcs.length = _
      unfold whittleref20_Bound_b2
      dsimp only
      rw [iteO_df (by omega), List.take_length, wrap64_of (a := t.states * t.states) (by omega) (by omega), wrap64_of (a := t.states * t.states * arcM t.arcs) (by omega) (by omega), wrap64_of (by unfold boundD at hr; omega) (by unfold boundD at hr; omega)]
      rfl
  refine iter_fold t.starts Tip.zero (fun k => tipM (t.starts.take k)) (fun k hk => ?_) ?_
  · show whittleref20_Bound_b1 (t, e5) _ k = _
    unfold whittleref20_Bound_b1
    dsimp only
    rw [iteO_dt (by omega), take_snoc _ hk Tip.zero, tipM_snoc]; rfl
  · show whittleref20_Bound_b1 (t, e5) _ t.starts.length = _
    unfold whittleref20_Bound_b1
    dsimp only
    rw [iteO_df (by omega), List.take_length, hin]; rfl
theorem rBound_eq (t : Fst) : whittleref20_Bound t = some (if (ttrimD t).2 = 0 then (boundD (ttrimD t).1, 0) else (0, (ttrimD t).2)) := by
  unfold whittleref20_Bound ttrimD
  rw [rtrim_eq, bnd_mk]
  by_cases h : fstB t = true
  · rw [if_pos h, if_pos h]
    simp only []
    rw [iteO_df (by omega)]
    by_cases h1 : (trimD t).states ≤ 32
    · rw [iteO_df (by omega), if_pos h1, if_pos rfl, rbound_in (trimD_ok ((fstB_iff t).1 h)) h1]
    · rw [iteO_dt (by omega), if_neg h1]; rfl
  · rw [if_neg h, if_neg h]; rfl
/-- The reference's lag. -/
theorem rbegins_eq (x y : List UInt8) (hx : x.length ≤ 281474976710656) (hy : y.length ≤ 281474976710656) : whittleref03_Begins x y = some (decide (x.length ≤ y.length ∧ y.take x.length = x)) := by
  unfold whittleref03_Begins
  rw [grd_mk hx, grd_mk hy]
  by_cases c : x.length ≤ y.length
  · rw [iteO_dt (by omega), grd_mk ⟨by omega, c⟩]
    simp [c]
  · rw [iteO_df (by omega)]
    simp [c]
theorem lcp_le : ∀ (a b : List UInt8) (n : Nat), n ≤ a.length → (n ≤ lcpN a b ↔ n ≤ b.length ∧ b.take n = a.take n)
  | a, b, 0, _ => by simp
  | [], b, n + 1, h => by simp at h
  | x :: l, [], n + 1, h => by simp [lcpN]
  | x :: l, y :: m, n + 1, h => by
    have ih := lcp_le l m n (by simpa using h)
    unfold lcpN
    by_cases c : x = y
    · subst c; simp [ih]
    · simp only [if_neg c, List.length_cons, List.take_succ_cons, List.cons.injEq]
      constructor
      · intro h; omega
      · intro h; exact absurd h.2.1.symm c
theorem rlcp_in (a b : List UInt8) (ha : a.length ≤ 281474976710656) (hb : b.length ≤ 281474976710656) (n : Nat) (hn : n + 1 ≤ a.length) :
    whittleref03_Lcp_b1 [a, b] ((n + 1 : Nat) : Int) = some (if n + 1 ≤ b.length ∧ b.take (n + 1) = a.take (n + 1) then .inr (a.take (n + 1)) else .inl ((n : Nat) : Int)) := by
  have hl : (a.take (n + 1)).length = n + 1 := by rw [List.length_take]; omega
  unfold whittleref03_Lcp_b1
  rw [iteO_dt (by omega)]
  refine iter_next (s' := (true, 1)) ?_ (iter_next (s' := (decide (n + 1 ≤ b.length ∧ b.take (n + 1) = a.take (n + 1)), 2)) ?_ (iter_done ?_))
  · show whittleref03_Lcp_b2 [a, b] _ true 0 = _
    unfold whittleref03_Lcp_b2 whittleref03_Lcp_j1
    rw [iteO_dt (by simp), iteO_true, grd_mk (by simp), grd_mk (by simp only [nth, List.getD_cons_zero]; omega), Int.toNat_natCast]
    show bnd (whittleref03_Begins (a.take (n + 1)) a) _ = _
    rw [rbegins_eq _ _ (by omega) ha, bnd_mk, hl, decide_eq_true ⟨hn, rfl⟩]; rfl
  · show whittleref03_Lcp_b2 [a, b] _ true 1 = _
    unfold whittleref03_Lcp_b2 whittleref03_Lcp_j1
    rw [iteO_dt (by simp), iteO_true, grd_mk (by simp), grd_mk (by simp only [nth, List.getD_cons_zero]; omega), Int.toNat_natCast]
    show bnd (whittleref03_Begins (a.take (n + 1)) b) _ = _
    rw [rbegins_eq _ _ (by omega) hb, bnd_mk, hl]; rfl
  · show whittleref03_Lcp_b2 [a, b] _ _ 2 = _
    unfold whittleref03_Lcp_b2
    rw [iteO_df (by simp)]
    by_cases c : n + 1 ≤ b.length ∧ b.take (n + 1) = a.take (n + 1)
    · rw [decide_eq_true c, iteO_true, grd_mk (by simp), grd_mk (by simp only [nth, List.getD_cons_zero]; omega), Int.toNat_natCast, if_pos c]; rfl
    · rw [decide_eq_false c, iteO_false, if_neg c, show ((n + 1 : Nat) : Int) - 1 = (n : Int) by omega, wrap64_of (by omega) (by omega)]; rfl
theorem rlcp_eq (a b : List UInt8) (ha : a.length ≤ 281474976710656) (hb : b.length ≤ 281474976710656) : whittleref03_Lcp [a, b] = some (a.take (lcpN a b)) := by
  have key : ∀ n : Nat, n ≤ a.length → lcpN a b ≤ n → iter (fun q : Int => whittleref03_Lcp_b1 [a, b] q) ((n : Nat) : Int) = some (a.take (lcpN a b)) := by
    intro n
    induction n with
    | zero =>
      intro _ h
      rw [show lcpN a b = 0 by omega]
      refine iter_done ?_
      show whittleref03_Lcp_b1 [a, b] _ = _
      unfold whittleref03_Lcp_b1
      rw [iteO_df (by omega)]; rfl
    | succ n ih =>
      intro hn h
      have hs := rlcp_in a b ha hb n hn
      have hi := lcp_le a b (n + 1) hn
      by_cases c : n + 1 ≤ b.length ∧ b.take (n + 1) = a.take (n + 1)
      · rw [if_pos c] at hs
        have := hi.2 c
        rw [show lcpN a b = n + 1 by omega]
        exact iter_done hs
      · rw [if_neg c] at hs
        have : ¬ n + 1 ≤ lcpN a b := fun h => c (hi.1 h)
        exact iter_next hs (ih (by omega) (by omega))
  unfold whittleref03_Lcp
  rw [iteO_df (by simp), grd_mk (by simp)]
  exact key a.length (Nat.le_refl _) (lcpN_l a b)
theorem rlag_eq (a b : List UInt8) (ha : a.length ≤ 281474976710656) (hb : b.length ≤ 281474976710656) : whittleref03_Lag a b = some (lagS a b) := by
  have h1 := lcpN_l a b
  have h2 := lcpN_r a b
  have hl : (a.take (lcpN a b)).length = lcpN a b := by rw [List.length_take]; omega
  unfold whittleref03_Lag
  rw [grd_mk ha, grd_mk hb, rlcp_eq a b ha hb, bnd_mk, hl, grd_mk ⟨h1, Nat.le_refl _⟩, grd_mk ⟨h2, Nat.le_refl _⟩]
  rfl
end Go.Proofs.YtcfjjckencjjeaaGreat
end

/- TrN -/
section
/- The reference's first lags, sets, bytes. Plain lemmas, no condition. -/
set_option linter.unusedVariables false
set_option linter.unusedSimpArgs false
namespace Go.Proofs.YtcfjjckencjjeaaGreat
open Go Go.E
set_option maxRecDepth 100000

theorem rlag19_eq (p q : Int) (a b : List UInt8) (ha : a.length ≤ 281474976710656) (hb : b.length ≤ 281474976710656) : whittleref19_lag p q a b = some ⟨p, q, (lagS a b).1, (lagS a b).2⟩ := by
  unfold whittleref19_lag
  rw [grd_mk ha, grd_mk hb, rlag_eq a b ha hb, bnd_mk]
theorem rfirsts_eq {t : Fst} (hl : ∀ x ∈ t.starts, x.out.length ≤ 1000000) (hn : t.starts.length ≤ 1024) : whittleref19_Firsts t = some (firstL t) := by
  have hin : ∀ k, k < t.starts.length → ∀ acc : List TLag, acc.length ≤ 1024 * 1024 → iter (fun q : (List TLag) × Nat => whittleref19_Firsts_b2 t k q.1 q.2) (acc, 0) = some (.inl (acc ++ t.starts.map (pairLag (nth t.starts k Tip.zero)), k + 1)) := fun k hk acc hacc => by
    have hx := hl _ (mem_at Tip.zero hk)
    have h := iter_fold (step := fun q : (List TLag) × Nat => whittleref19_Firsts_b2 t k q.1 q.2) (r := .inl (acc ++ t.starts.map (pairLag (nth t.starts k Tip.zero)), k + 1)) t.starts Tip.zero (fun j => acc ++ (t.starts.take j).map (pairLag (nth t.starts k Tip.zero))) (fun j hj => ?_) ?_
    · simpa using h
    · have hy := hl _ (mem_at Tip.zero hj)
      show whittleref19_Firsts_b2 t k _ j = _
      unfold whittleref19_Firsts_b2
      rw [iteO_dt (by omega), rlag19_eq _ _ _ _ (by omega) (by omega), bnd_mk, grd_mk (by simp only [List.length_append, List.length_map, List.length_take, List.length_singleton]; omega), take_snoc _ hj Tip.zero, List.map_append, ← List.append_assoc]
      rfl
    · show whittleref19_Firsts_b2 t k _ t.starts.length = _
      unfold whittleref19_Firsts_b2
      rw [iteO_df (by omega), List.take_length]; rfl
  unfold whittleref19_Firsts
  refine iter_fold t.starts Tip.zero (fun k => (t.starts.take k).flatMap fun x => t.starts.map (pairLag x)) (fun k hk => ?_) ?_
  · show whittleref19_Firsts_b1 t _ k = _
    have hlen : ((t.starts.take k).flatMap fun x => t.starts.map (pairLag x)).length = k * t.starts.length := by
      rw [List.length_flatMap]
      simp only [List.length_map, List.map_const', List.sum_replicate_nat, List.length_take]
      rw [Nat.min_eq_left (by omega)]
    have := Nat.mul_le_mul (show k ≤ 1024 by omega) hn
    unfold whittleref19_Firsts_b1
    rw [iteO_dt (by omega), hin k hk _ (by dsimp only; rw [hlen]; exact this), take_snoc _ hk Tip.zero, List.flatMap_append, List.flatMap_singleton]
  · show whittleref19_Firsts_b1 t _ t.starts.length = _
    unfold whittleref19_Firsts_b1
    rw [iteO_df (by omega), List.take_length]; rfl
/-- Its bytes, rising. -/
def bytesD (s : BSet) : List UInt8 := ((List.range 256).filter s.has).map fun n => toU8 ((n : Nat) : Int)
theorem rbytes_eq (s : BSet) : whittleref01_Bytes s = some (bytesD s) := by
  have h := iter_fold (step := fun q : List UInt8 × Nat => whittleref01_Bytes_b1 s q.1 q.2) (r := bytesD s) (List.range 256) 0 (fun k => ((List.range k).filter s.has).map fun n => toU8 ((n : Nat) : Int)) (fun k hk => ?_) ?_
  · exact h
  · rw [List.length_range] at hk
    have hl : (((List.range k).filter s.has).map fun n => toU8 ((n : Nat) : Int)).length ≤ k := by
      rw [List.length_map]; exact Nat.le_trans (List.length_filter_le ..) (by simp)
    show whittleref01_Bytes_b1 s _ k = _
    unfold whittleref01_Bytes_b1 whittleref01_Bytes_j1
    rw [iteO_dt (by omega), grd_mk hk, List.range_succ, List.filter_append, List.map_append]
    cases hb : s.has k with
    | true => rw [iteO_true, grd_mk (by rw [List.length_singleton]; dsimp only; omega)]; simp [hb, nxt]
    | false => rw [iteO_false]; simp [hb, nxt]
  · show whittleref01_Bytes_b1 s _ (List.range 256).length = _
    unfold whittleref01_Bytes_b1
    rw [List.length_range, iteO_df (by omega)]; rfl
theorem u64and_lt' (a b : Nat) : u64and a b < 18446744073709551616 := by unfold u64and; exact BitVec.isLt _
theorem has_bitN (s : BSet) (n : Nat) : s.has n = (s.word (n / 64)).testBit (n % 64) := by
  unfold BSet.has; rw [Nat.testBit_eq_decide_div_mod_eq]
theorem both_hasN (a b : BSet) (n : Nat) (hn : n < 256) : (bothS a b).has n = (a.has n && b.has n) := by
  have h : ∃ r, set_Both a b = some r ∧ ∀ i, i < 4 → r.word i = u64and (a.word i) (b.word i) := by
    unfold set_Both
    exact iter_up (step := fun q : BSet × Nat => set_Both_b1 b q.1 q.2) (fun (s : BSet) k => (s, k)) 4 (fun k s => ∀ i, i < 4 → s.word i = if i < k then u64and (a.word i) (b.word i) else a.word i) (fun r => ∀ i, i < 4 → r.word i = u64and (a.word i) (b.word i))
      (fun k s hk hI => .inl ⟨BSet.setWord s k (u64and (BSet.word s k) (BSet.word b k)), by
        show set_Both_b1 b s k = _
        unfold set_Both_b1
        rw [iteO_dt (by omega), grd_mk hk, grd_mk hk, grd_mk hk, grd_mk (u64and_lt' _ _)]; rfl, fun i hi => by
        rw [BSet.word_set s hk _ i (u64and_lt' _ _) hi]
        have h0 := hI i hi
        have h1 := hI k hk
        rw [if_neg (Nat.lt_irrefl k)] at h1
        by_cases c : i = k
        · subst c; rw [if_pos rfl, if_pos (by omega), h1]
        · rw [if_neg c, h0]
          by_cases c2 : i < k
          · rw [if_pos c2, if_pos (by omega)]
          · rw [if_neg c2, if_neg (by omega)]⟩)
      (fun s hI => ⟨s, by
        show set_Both_b1 b s 4 = _
        unfold set_Both_b1
        rw [iteO_df (by omega)]; rfl, fun i hi => by rw [hI i hi, if_pos hi]⟩) (s0 := a) (fun i hi => by rw [if_neg (by omega)])
  obtain ⟨r, h, hw⟩ := h
  have : bothS a b = r := by have := both_eq a b; rw [h] at this; exact (Option.some.inj this).symm
  rw [this, has_bitN, has_bitN, has_bitN, hw _ (by omega)]
  have l1 := BSet.word_lt a.isOk (n / 64)
  have l2 := BSet.word_lt b.isOk (n / 64)
  unfold u64and
  rw [BitVec.toNat_and, BitVec.toNat_ofNat, BitVec.toNat_ofNat, Nat.mod_eq_of_lt l1, Nat.mod_eq_of_lt l2, Nat.testBit_and]
theorem rby_eq (a b : BSet) : whittleref01_By a b 0 = some (BSet.make fun i => a.has i && b.has i) := by
  unfold whittleref01_By
  obtain ⟨r, h, rfl⟩ := iter_up (step := fun q : (List Bool) × Nat => whittleref01_By_b1 0 a b q.1 q.2) (fun (l : List Bool) k => (l, k)) 256 (fun k l => l.length = 256 ∧ ∀ i, i < 256 → nth l i false = (decide (i < k) && (a.has i && b.has i)))
    (fun r => r = BSet.make fun i => a.has i && b.has i)
    (fun k l hk ⟨c1, c2⟩ => .inl (by
      have hset : ∀ x : Bool, x = (a.has k && b.has k) → (l.set k x).length = 256 ∧ ∀ i, i < 256 → nth (l.set k x) i false = (decide (i < k + 1) && (a.has i && b.has i)) := fun x hx => ⟨by rw [List.length_set]; exact c1, fun i hi => by
        rw [nth_set]
        by_cases c : k = i
        · subst c; rw [if_pos ⟨rfl, by omega⟩, decide_eq_true (show k < k + 1 by omega), Bool.true_and, hx]
        · rw [if_neg (fun h => c h.1), c2 i hi]
          by_cases c3 : i < k
          · rw [decide_eq_true c3, decide_eq_true (show i < k + 1 by omega)]
          · rw [decide_eq_false c3, decide_eq_false (show ¬ i < k + 1 by omega)]⟩
      cases ha : a.has k with
      | true =>
        cases hb : b.has k with
        | true => exact ⟨l.set k true, by
            show whittleref01_By_b1 0 a b l k = _
            unfold whittleref01_By_b1 whittleref01_By_j1
            rw [iteO_dt (by omega), grd_mk hk, grd_mk hk, iteO_dt rfl, ha, iteO_true, hb, iteO_true, grd_mk (by omega)]; rfl, hset true (by rw [ha, hb]; rfl)⟩
        | false => exact ⟨l.set k false, by
            show whittleref01_By_b1 0 a b l k = _
            unfold whittleref01_By_b1 whittleref01_By_j1
            rw [iteO_dt (by omega), grd_mk hk, grd_mk hk, iteO_dt rfl, ha, iteO_true, hb, iteO_false, iteO_df (by decide), iteO_df (by decide), iteO_df (by decide), grd_mk (by omega)]; rfl, hset false (by rw [ha, hb]; rfl)⟩
      | false => exact ⟨l.set k false, by
            show whittleref01_By_b1 0 a b l k = _
            unfold whittleref01_By_b1 whittleref01_By_j1
            rw [iteO_dt (by omega), grd_mk hk, grd_mk hk, iteO_dt rfl, ha, iteO_false, iteO_df (by decide), iteO_df (by decide), iteO_df (by decide), grd_mk (by omega)]; rfl, hset false (by rw [ha]; rfl)⟩))
    (fun l ⟨c1, c2⟩ => ⟨BSet.make fun i => nth l i false, by
      show whittleref01_By_b1 0 a b l 256 = _
      unfold whittleref01_By_b1
      rw [iteO_df (by omega), grd_mk (List.length_replicate ..)]; rfl, BSet.make_congr fun i hi => by rw [c2 i hi, decide_eq_true hi, Bool.true_and]⟩)
    (s0 := List.replicate 256 false) ⟨List.length_replicate .., fun i hi => by
      unfold nth
      rw [List.getD_eq_getElem?_getD, List.getElem?_replicate, if_pos hi]; rfl⟩
  exact h
end Go.Proofs.YtcfjjckencjjeaaGreat
end

/- TrX -/
section
/- The reference's next lags. Plain lemmas, no condition. -/
set_option linter.unusedVariables false
set_option linter.unusedSimpArgs false
namespace Go.Proofs.YtcfjjckencjjeaaGreat
open Go Go.E
set_option maxRecDepth 100000

def lagB (z : TLag) (x y : Arc) (b : UInt8) : TLag := ⟨x.to, y.to, (lagS (z.a ++ cm x b) (z.b ++ cm y b)).1, (lagS (z.a ++ cm x b) (z.b ++ cm y b)).2⟩
def bothD (x y : Arc) : BSet := BSet.make fun i => x.set.has i && y.set.has i
def pieceD (z : TLag) (x y : Arc) : List TLag := if x.frm ≠ z.p then [] else if y.frm ≠ z.q then [] else (bytesD (bothD x y)).map (lagB z x y)
def rowD (t : Fst) (z : TLag) (x : Arc) : List TLag := t.arcs.flatMap (pieceD z x)
def nextD (t : Fst) (z : TLag) : List TLag := t.arcs.flatMap (rowD t z)
theorem bytesD_len (s : BSet) : (bytesD s).length ≤ 256 := by
  unfold bytesD; rw [List.length_map]; exact Nat.le_trans (List.length_filter_le ..) (by simp)
theorem pieceD_len (z : TLag) (x y : Arc) : (pieceD z x y).length ≤ 256 := by
  unfold pieceD
  split
  · simp
  split
  · simp
  · rw [List.length_map]; exact bytesD_len _
theorem flat_lenX {α β : Type} (f : α → List β) (n : Nat) (h : ∀ x, (f x).length ≤ n) : ∀ l : List α, (l.flatMap f).length ≤ l.length * n
  | [] => by simp
  | x :: l => by
    rw [List.flatMap_cons, List.length_append, List.length_cons, Nat.succ_mul]
    have := h x; have := flat_lenX f n h l; omega
theorem one_byte (l : List UInt8) {j : Nat} (hj : j < l.length) : (l.take (j + 1)).drop j = [nth l j 0] := by
  rw [take_snoc l hj 0, List.drop_append, List.drop_of_length_le (by rw [List.length_take]; omega), List.length_take, Nat.min_eq_left (by omega), Nat.sub_self]; rfl
theorem cm_app (p : List UInt8) (x : Arc) (b : UInt8) : p ++ cm x b = if x.copy = true then (p ++ x.out) ++ [b] else p ++ x.out := by
  unfold cm; split <;> simp
theorem rnext3 {t : Fst} (ho : ∀ x ∈ t.arcs, x.out.length ≤ 1024) {z : TLag} (ha : z.a.length ≤ 1000000000) (hb : z.b.length ≤ 1000000000) {k j : Nat} (hk : k < t.arcs.length) (hj : j < t.arcs.length) (v : List UInt8) (hv : v.length ≤ 256) (acc : List TLag) (hacc : acc.length ≤ 1000000000000) :
    iter (fun q : (List TLag) × Nat => whittleref19_Next_b3 v z t k j q.1 q.2) (acc, 0) = some (.inl (acc ++ v.map (lagB z (nth t.arcs k Arc.zero) (nth t.arcs j Arc.zero)), j + 1)) := by
  have hx := ho _ (mem_at Arc.zero hk)
  have hy := ho _ (mem_at Arc.zero hj)
  have h := iter_fold (step := fun q : (List TLag) × Nat => whittleref19_Next_b3 v z t k j q.1 q.2) (r := .inl (acc ++ v.map (lagB z (nth t.arcs k Arc.zero) (nth t.arcs j Arc.zero)), j + 1)) v 0 (fun i => acc ++ (v.take i).map (lagB z (nth t.arcs k Arc.zero) (nth t.arcs j Arc.zero))) (fun i hi => ?_) ?_
  · simpa using h
  · show whittleref19_Next_b3 v z t k j _ i = _
    unfold whittleref19_Next_b3 whittleref19_Next_j2 whittleref19_Next_j3
    have hl : (acc ++ (v.take i).map (lagB z (nth t.arcs k Arc.zero) (nth t.arcs j Arc.zero))).length ≤ 1000000000256 := by
      rw [List.length_append, List.length_map, List.length_take]; omega
    rw [iteO_dt (by omega), grd_mk (by omega), grd_mk (by omega), one_byte v hi]
    have hfin : ∀ (R : Type) (a b : List UInt8), a.length ≤ 2000000000 → b.length ≤ 2000000000 → a = z.a ++ cm (nth t.arcs k Arc.zero) (nth v i 0) → b = z.b ++ cm (nth t.arcs j Arc.zero) (nth v i 0) →
        bnd (whittleref19_lag (nth t.arcs k Arc.zero).to (nth t.arcs j Arc.zero).to a b) (fun v96 => grd (((acc ++ (v.take i).map (lagB z (nth t.arcs k Arc.zero) (nth t.arcs j Arc.zero))).length + [v96].length) * 48 ≤ 140737488355328) (nxt (R := R) ((acc ++ (v.take i).map (lagB z (nth t.arcs k Arc.zero) (nth t.arcs j Arc.zero))) ++ [v96], (i + 1)))) = some (Sum.inl (acc ++ (v.take (i + 1)).map (lagB z (nth t.arcs k Arc.zero) (nth t.arcs j Arc.zero)), i + 1))   := fun R a b h1 h2 e1 e2 => by
      rw [rlag19_eq _ _ _ _ (by omega) (by omega), bnd_mk, grd_mk (by rw [List.length_singleton]; omega), take_snoc _ hi 0, List.map_append, ← List.append_assoc, e1, e2]
      rfl
    cases c1 : (nth t.arcs k Arc.zero).copy with
    | true =>
      rw [iteO_true, grd_mk ⟨by omega, by omega⟩, grd_mk (by simp only [List.length_append, List.length_singleton]; omega)]
      cases c2 : (nth t.arcs j Arc.zero).copy with
      | true =>
        rw [iteO_true, grd_mk ⟨by omega, by omega⟩, grd_mk (by simp only [List.length_append, List.length_singleton]; omega)]
        exact hfin _ _ _ (by simp only [List.length_append, List.length_singleton]; omega) (by simp only [List.length_append, List.length_singleton]; omega) (by rw [cm_app, if_pos c1]) (by rw [cm_app, if_pos c2])
      | false =>
        rw [iteO_false]
        exact hfin _ _ _ (by simp only [List.length_append, List.length_singleton]; omega) (by simp only [List.length_append]; omega) (by rw [cm_app, if_pos c1]) (by rw [cm_app, if_neg (by rw [c2]; decide)])
    | false =>
      rw [iteO_false]
      cases c2 : (nth t.arcs j Arc.zero).copy with
      | true =>
        rw [iteO_true, grd_mk ⟨by omega, by omega⟩, grd_mk (by simp only [List.length_append, List.length_singleton]; omega)]
        exact hfin _ _ _ (by simp only [List.length_append]; omega) (by simp only [List.length_append, List.length_singleton]; omega) (by rw [cm_app, if_neg (by rw [c1]; decide)]) (by rw [cm_app, if_pos c2])
      | false =>
        rw [iteO_false]
        exact hfin _ _ _ (by simp only [List.length_append]; omega) (by simp only [List.length_append]; omega) (by rw [cm_app, if_neg (by rw [c1]; decide)]) (by rw [cm_app, if_neg (by rw [c2]; decide)])
  · show whittleref19_Next_b3 v z t k j _ v.length = _
    unfold whittleref19_Next_b3 whittleref19_Next_j1
    rw [iteO_df (by omega), List.take_length]; rfl
theorem rnext2 {t : Fst} (hN : t.arcs.length ≤ 16384) (ho : ∀ x ∈ t.arcs, x.out.length ≤ 1024) {z : TLag} (ha : z.a.length ≤ 1000000000) (hb : z.b.length ≤ 1000000000) {k : Nat} (hk : k < t.arcs.length) (acc : List TLag) (hacc : acc.length ≤ 100000000000) :
    iter (fun q : (List TLag) × Nat => whittleref19_Next_b2 t k z q.1 q.2) (acc, 0) = some (.inl (acc ++ rowD t z (nth t.arcs k Arc.zero), k + 1)) := by
  have h := iter_fold (step := fun q : (List TLag) × Nat => whittleref19_Next_b2 t k z q.1 q.2) (r := .inl (acc ++ rowD t z (nth t.arcs k Arc.zero), k + 1)) t.arcs Arc.zero (fun j => acc ++ (t.arcs.take j).flatMap (pieceD z (nth t.arcs k Arc.zero))) (fun j hj => ?_) ?_
  · simpa using h
  · have hl : (acc ++ (t.arcs.take j).flatMap (pieceD z (nth t.arcs k Arc.zero))).length ≤ 1000000000000 := by
      have := flat_lenX (pieceD z (nth t.arcs k Arc.zero)) 256 (pieceD_len z _) (t.arcs.take j)
      rw [List.length_take] at this
      rw [List.length_append]; omega
    show whittleref19_Next_b2 t k z _ j = _
    unfold whittleref19_Next_b2
    have e : pieceD z (nth t.arcs k Arc.zero) (nth t.arcs j Arc.zero) = if (nth t.arcs k Arc.zero).frm ≠ z.p then [] else if (nth t.arcs j Arc.zero).frm ≠ z.q then [] else (bytesD (bothD (nth t.arcs k Arc.zero) (nth t.arcs j Arc.zero))).map (lagB z (nth t.arcs k Arc.zero) (nth t.arcs j Arc.zero)) := rfl
    rw [iteO_dt (by omega), take_snoc _ hj Arc.zero, List.flatMap_append, List.flatMap_singleton, ← List.append_assoc, e]
    by_cases c1 : (nth t.arcs k Arc.zero).frm ≠ z.p
    · rw [iteO_dt c1, if_pos c1, List.append_nil]; rfl
    · rw [iteO_df c1, if_neg c1]
      by_cases c2 : (nth t.arcs j Arc.zero).frm ≠ z.q
      · rw [iteO_dt c2, if_pos c2, List.append_nil]; rfl
      · rw [iteO_df c2, if_neg c2, rby_eq, bnd_mk, rbytes_eq, bnd_mk, rnext3 ho ha hb hk hj _ (bytesD_len _) _ hl]; rfl
  · show whittleref19_Next_b2 t k z _ t.arcs.length = _
    unfold whittleref19_Next_b2
    rw [iteO_df (by omega), List.take_length]; rfl
theorem rnext_eq {t : Fst} (hN : t.arcs.length ≤ 16384) (ho : ∀ x ∈ t.arcs, x.out.length ≤ 1024) {z : TLag} (ha : z.a.length ≤ 1000000000) (hb : z.b.length ≤ 1000000000) : whittleref19_Next t z = some (nextD t z) := by
  unfold whittleref19_Next
  refine iter_fold t.arcs Arc.zero (fun k => (t.arcs.take k).flatMap (rowD t z)) (fun k hk => ?_) ?_
  · have hr : ∀ x, (rowD t z x).length ≤ 16384 * 256 := fun x => Nat.le_trans (flat_lenX _ 256 (pieceD_len z x) t.arcs) (Nat.mul_le_mul_right _ hN)
    have hl := flat_lenX (rowD t z) (16384 * 256) hr (t.arcs.take k)
    rw [List.length_take] at hl
    show whittleref19_Next_b1 t z _ k = _
    unfold whittleref19_Next_b1
    rw [iteO_dt (by omega), rnext2 hN ho ha hb hk _ (by dsimp only; omega), take_snoc _ hk Arc.zero, List.flatMap_append, List.flatMap_singleton]
  · show whittleref19_Next_b1 t z _ t.arcs.length = _
    unfold whittleref19_Next_b1
    rw [iteO_df (by omega), List.take_length]; rfl
end Go.Proofs.YtcfjjckencjjeaaGreat
end

/- TrF -/
section
/- The reference's fresh lags. Plain lemmas, no condition. -/
set_option linter.unusedVariables false
set_option linter.unusedSimpArgs false
namespace Go.Proofs.YtcfjjckencjjeaaGreat
open Go Go.E
set_option maxRecDepth 100000

theorem mem_take_succ {l : List TLag} {k : Nat} (hk : k < l.length) (x : TLag) : x ∈ l.take (k + 1) ↔ x ∈ l.take k ∨ nth l k TLag.zero = x := by
  rw [take_snoc l hk TLag.zero, List.mem_append, List.mem_singleton, eq_comm]
theorem fresh_b3 (l115 x0 : List TLag) (i : Nat) {t0 : Bool} {r} (hr : whittleref20_fresh_j4 l115 x0 i (t0 || decide (nth x0 i TLag.zero ∈ l115)) = some r) (hall : ∀ b, ∃ r, whittleref20_fresh_j4 l115 x0 i b = some r) :
    whittleref20_fresh_j3 l115 x0 i t0 = some r := by
  unfold whittleref20_fresh_j3
  obtain ⟨r', h1, h2⟩ := iter_up (step := fun q : Bool × Nat => whittleref20_fresh_b3 l115 x0 i q.1 q.2) (fun (t : Bool) k => (t, k)) l115.length
    (fun k t => t = (t0 || decide (nth x0 i TLag.zero ∈ l115.take k))) (fun r' => r' = r)
    (fun k t hk hI => by
      cases t with
      | true =>
        right
        refine ⟨r, ?_, rfl⟩
        show whittleref20_fresh_b3 l115 x0 i true k = _
        unfold whittleref20_fresh_b3
        have e : (t0 || decide (nth x0 i TLag.zero ∈ l115)) = true := by
          rw [Bool.or_eq_true, decide_eq_true_eq]
          rw [eq_comm, Bool.or_eq_true, decide_eq_true_eq] at hI
          exact hI.imp id List.mem_of_mem_take
        rw [e] at hr
        rw [iteO_dt (by omega), Bool.not_true, iteO_false, hr]; rfl
      | false =>
        left
        refine ⟨decide (nth l115 k TLag.zero = nth x0 i TLag.zero), ?_, ?_⟩
        · show whittleref20_fresh_b3 l115 x0 i false k = _
          unfold whittleref20_fresh_b3
          rw [iteO_dt (by omega), Bool.not_false, iteO_true]; rfl
        · rw [eq_comm, Bool.or_eq_false_iff, decide_eq_false_iff_not] at hI
          rw [hI.1, Bool.false_or, decide_eq_decide, mem_take_succ hk]
          exact ⟨.inr, fun h => h.resolve_left hI.2⟩)
    (fun t hI => ⟨r, by
      show whittleref20_fresh_b3 l115 x0 i t l115.length = _
      unfold whittleref20_fresh_b3
      rw [List.take_length] at hI
      rw [← hI] at hr
      rw [iteO_df (by omega), hr]; rfl, rfl⟩) (s0 := t0) (by simp)
  rw [h1, h2]
theorem fresh_b2 (x1 l115 x0 : List TLag) (i : Nat) {r} (hr : whittleref20_fresh_j4 l115 x0 i (decide (nth x0 i TLag.zero ∈ x1) || decide (nth x0 i TLag.zero ∈ l115)) = some r) (hall : ∀ b, ∃ r, whittleref20_fresh_j4 l115 x0 i b = some r) :
    iter (fun q : Bool × Nat => whittleref20_fresh_b2 x1 x0 i l115 q.1 q.2) (false, 0) = some r := by
  have h3 := fresh_b3 l115 x0 i hr hall
  obtain ⟨r', h1, h2⟩ := iter_up (step := fun q : Bool × Nat => whittleref20_fresh_b2 x1 x0 i l115 q.1 q.2) (fun (t : Bool) k => (t, k)) x1.length
    (fun k t => t = decide (nth x0 i TLag.zero ∈ x1.take k)) (fun r' => r' = r)
    (fun k t hk hI => by
      cases t with
      | true =>
        right
        refine ⟨r, ?_, rfl⟩
        show whittleref20_fresh_b2 x1 x0 i l115 true k = _
        unfold whittleref20_fresh_b2
        have e : decide (nth x0 i TLag.zero ∈ x1) = true := by
          rw [decide_eq_true_eq]
          rw [eq_comm, decide_eq_true_eq] at hI
          exact List.mem_of_mem_take hI
        rw [e] at h3
        rw [iteO_dt (by omega), Bool.not_true, iteO_false, h3]; rfl
      | false =>
        left
        refine ⟨decide (nth x1 k TLag.zero = nth x0 i TLag.zero), ?_, ?_⟩
        · show whittleref20_fresh_b2 x1 x0 i l115 false k = _
          unfold whittleref20_fresh_b2
          rw [iteO_dt (by omega), Bool.not_false, iteO_true]; rfl
        · rw [eq_comm, decide_eq_false_iff_not] at hI
          rw [decide_eq_decide, mem_take_succ hk]
          exact ⟨.inr, fun h => h.resolve_left hI⟩)
    (fun t hI => ⟨r, by
      show whittleref20_fresh_b2 x1 x0 i l115 t x1.length = _
      unfold whittleref20_fresh_b2
      rw [List.take_length] at hI
      rw [← hI] at h3
      rw [iteO_df (by omega), h3]; rfl, rfl⟩) (s0 := false) (by simp)
  rw [h1, h2]
structure FreshOk (l seen out : List TLag) : Prop where
  nodup : out.Nodup
  new : ∀ z ∈ out, z ∈ l ∧ z ∉ seen
  all : out.length ≤ 2048 → ∀ z ∈ l, z ∈ seen ∨ z ∈ out
  len : out.length ≤ 2049
theorem rfresh_ok (l seen : List TLag) : ∃ out, whittleref20_fresh l seen = some out ∧ FreshOk l seen out := by
  unfold whittleref20_fresh
  refine iter_up (step := fun q : (List TLag) × Nat => whittleref20_fresh_b1 l seen q.1 q.2) (fun (o : List TLag) k => (o, k)) l.length
    (fun k o => FreshOk (l.take k) seen o ∧ ∀ z ∈ l.take k, z ∈ seen ∨ z ∈ o) (fun o => FreshOk l seen o) (fun k o hk hI => ?_) (fun o hI => ?_) (s0 := []) ⟨⟨List.nodup_nil, fun z hz => (by cases hz), fun _ z hz => (by simp at hz), by simp⟩, fun z hz => (by simp at hz)⟩
  · obtain ⟨c, hall⟩ := hI
    have hm := mem_take_succ hk
    by_cases h2 : o.length ≤ 2048
    · left
      have hj : ∀ b, ∃ r, whittleref20_fresh_j4 o l k b = some r := fun b => by
        unfold whittleref20_fresh_j4 whittleref20_fresh_j2
        cases b with
        | true => exact ⟨_, rfl⟩
        | false => rw [Bool.not_false, iteO_true, grd_mk (by rw [List.length_singleton]; omega)]; exact ⟨_, rfl⟩
      by_cases hx : nth l k TLag.zero ∈ seen ∨ nth l k TLag.zero ∈ o
      · refine ⟨o, ?_, ⟨c.nodup, fun z hz => ⟨(hm z).2 (.inl (c.new z hz).1), (c.new z hz).2⟩, fun _ z hz => ?_, c.len⟩, fun z hz => ?_⟩
        · show whittleref20_fresh_b1 l seen o k = _
          unfold whittleref20_fresh_b1
          rw [iteO_dt (by omega), iteO_dt (by omega)]
          refine fresh_b2 seen o l k ?_ hj
          have e : (decide (nth l k TLag.zero ∈ seen) || decide (nth l k TLag.zero ∈ o)) = true := by
            rw [Bool.or_eq_true, decide_eq_true_eq, decide_eq_true_eq]; exact hx
          rw [e]; rfl
        · rcases (hm z).1 hz with h | rfl
          · exact hall z h
          · exact hx
        · rcases (hm z).1 hz with h | rfl
          · exact hall z h
          · exact hx
      · have hs : nth l k TLag.zero ∉ seen := fun h => hx (.inl h)
        have ho : nth l k TLag.zero ∉ o := fun h => hx (.inr h)
        have hnew : ∀ z ∈ l.take (k + 1), z ∈ seen ∨ z ∈ o ++ [nth l k TLag.zero] := fun z hz => by
          rcases (hm z).1 hz with h | rfl
          · exact (hall z h).imp id (List.mem_append_left _)
          · exact .inr (List.mem_append_right _ (List.mem_singleton.2 rfl))
        refine ⟨o ++ [nth l k TLag.zero], ?_, ⟨?_, fun z hz => ?_, fun _ => hnew, by rw [List.length_append, List.length_singleton]; omega⟩, hnew⟩
        · show whittleref20_fresh_b1 l seen o k = _
          unfold whittleref20_fresh_b1
          rw [iteO_dt (by omega), iteO_dt (by omega)]
          refine fresh_b2 seen o l k ?_ hj
          rw [decide_eq_false hs, decide_eq_false ho]
          unfold whittleref20_fresh_j4 whittleref20_fresh_j2
          rw [Bool.or_false, Bool.not_false, iteO_true, grd_mk (by rw [List.length_singleton]; omega)]; rfl
        · rw [List.nodup_append]
          exact ⟨c.nodup, List.pairwise_singleton _ _, fun a ha b hb => by rw [List.mem_singleton.1 hb]; exact fun h => ho (h ▸ ha)⟩
        · rcases List.mem_append.1 hz with h | h
          · exact ⟨(hm z).2 (.inl (c.new z h).1), (c.new z h).2⟩
          · rw [List.mem_singleton.1 h]; exact ⟨(hm _).2 (.inr rfl), hs⟩
    · right
      refine ⟨o, ?_, ⟨c.nodup, fun z hz => ⟨List.mem_of_mem_take (c.new z hz).1, (c.new z hz).2⟩, fun h => absurd h h2, c.len⟩⟩
      show whittleref20_fresh_b1 l seen o k = _
      unfold whittleref20_fresh_b1 whittleref20_fresh_j1
      rw [iteO_dt (by omega), iteO_df (by omega)]; rfl
  · obtain ⟨c, hall⟩ := hI
    rw [List.take_length] at c hall
    refine ⟨o, ?_, c⟩
    show whittleref20_fresh_b1 l seen o l.length = _
    unfold whittleref20_fresh_b1 whittleref20_fresh_j1
    rw [iteO_df (by omega)]; rfl
end Go.Proofs.YtcfjjckencjjeaaGreat
end

/- TrG -/
section
/- The reference's next lags are the program's. Plain lemmas, no condition. -/
set_option linter.unusedVariables false
set_option linter.unusedSimpArgs false
namespace Go.Proofs.YtcfjjckencjjeaaGreat
open Go Go.E
set_option maxRecDepth 100000

theorem toU8_of {n : Nat} (h : n < 256) : (toU8 ((n : Nat) : Int)).toNat = n := by
  have := toU8_val ((n : Nat) : Int)
  rw [wrap_u8] at this
  omega
theorem mem_byD {z z' : TLag} {x y : Arc} : z' ∈ byL z x y ↔ ∃ n : Nat, n < 256 ∧ x.set.has n = true ∧ y.set.has n = true ∧ z' = lagB z x y (toU8 ((n : Nat) : Int)) := by
  have hL : ∀ z', z' ∈ ((List.range' 0 256).filter fun n => (bothS x.set y.set).has (toU8 ((n : Nat) : Int)).toNat).map (lagOf z x y) ↔ ∃ n : Nat, n < 256 ∧ x.set.has n = true ∧ y.set.has n = true ∧ z' = lagB z x y (toU8 ((n : Nat) : Int)) := fun z' => by
    rw [List.mem_map]
    constructor
    · rintro ⟨n, hn, rfl⟩
      obtain ⟨h1, h2⟩ := List.mem_filter.1 hn
      have h3 : n < 256 := by have := List.mem_range'_1.1 h1; omega
      rw [toU8_of h3, both_hasN _ _ _ h3, Bool.and_eq_true] at h2
      exact ⟨n, h3, h2.1, h2.2, rfl⟩
    · rintro ⟨n, h1, h2, h3, rfl⟩
      refine ⟨n, List.mem_filter.2 ⟨List.mem_range'_1.2 ⟨Nat.zero_le _, by omega⟩, ?_⟩, rfl⟩
      rw [toU8_of h1, both_hasN _ _ _ h1, h2, h3]; rfl
  unfold byL byFrom
  dsimp only
  split
  · exact hL z'
  · rename_i hc
    have hc1 : x.copy = false ∧ y.copy = false := by
      cases h1 : x.copy <;> cases h2 : y.copy <;> simp [h1, h2] at hc ⊢
    have hsame : ∀ b b' : UInt8, lagB z x y b = lagB z x y b' := fun b b' => by
      unfold lagB cm; rw [hc1.1, hc1.2]; rfl
    constructor
    · intro h; exact (hL z').1 (List.mem_of_mem_take h)
    · intro h
      have hm := (hL z').2 h
      generalize ((List.range' 0 256).filter fun n => (bothS x.set y.set).has (toU8 ((n : Nat) : Int)).toNat) = F at hm
      cases F with
      | nil => cases hm
      | cons n F =>
        obtain ⟨m, _, _, _, rfl⟩ := h
        rw [List.map_cons, List.take_succ_cons]
        exact List.mem_cons.2 (.inl (hsame _ _))
theorem mem_pieceD {z z' : TLag} {x y : Arc} : z' ∈ pieceD z x y ↔ x.frm = z.p ∧ y.frm = z.q ∧ z' ∈ byL z x y := by
  unfold pieceD
  by_cases h1 : x.frm ≠ z.p
  · rw [if_pos h1]; exact ⟨fun h => (by cases h), fun h => absurd h.1 h1⟩
  rw [if_neg h1]
  by_cases h2 : y.frm ≠ z.q
  · rw [if_pos h2]; exact ⟨fun h => (by cases h), fun h => absurd h.2.1 h2⟩
  rw [if_neg h2, mem_byD]
  have g1 : x.frm = z.p := Decidable.not_not.1 h1
  have g2 : y.frm = z.q := Decidable.not_not.1 h2
  rw [List.mem_map]
  constructor
  · rintro ⟨b, hb, rfl⟩
    refine ⟨g1, g2, ?_⟩
    unfold bytesD at hb
    obtain ⟨n, hn, rfl⟩ := List.mem_map.1 hb
    obtain ⟨h3, h4⟩ := List.mem_filter.1 hn
    have h5 := List.mem_range.1 h3
    unfold bothD at h4
    rw [BSet.make_has _ h5, Bool.and_eq_true] at h4
    exact ⟨n, h5, h4.1, h4.2, rfl⟩
  · rintro ⟨_, _, n, h3, h4, h5, rfl⟩
    refine ⟨toU8 ((n : Nat) : Int), ?_, rfl⟩
    unfold bytesD
    refine List.mem_map.2 ⟨n, List.mem_filter.2 ⟨List.mem_range.2 h3, ?_⟩, rfl⟩
    unfold bothD
    rw [BSet.make_has _ h3, h4, h5]; rfl
/-- The lags behind one: of both the same. -/
theorem next_same {t : Fst} {n : Nat} {l : List (List Arc)} (hl : Grp Arc.frm id n l t.arcs) {z : TLag} (h1 : 0 ≤ z.p ∧ z.p < n) (h2 : 0 ≤ z.q ∧ z.q < n) (z' : TLag) : z' ∈ nextD t z ↔ z' ∈ nextOf l z := by
  have r1 := hl.row z.p.toNat (by omega)
  have r2 := hl.row z.q.toNat (by omega)
  unfold nextOf nextD rowD
  rw [r1, r2, List.map_id, List.map_id, show ((z.p.toNat : Nat) : Int) = z.p by omega, show ((z.q.toNat : Nat) : Int) = z.q by omega]
  simp only [List.mem_flatMap, List.mem_filter, decide_eq_true_eq, mem_pieceD]
  constructor
  · rintro ⟨x, hx, y, hy, e1, e2, h⟩; exact ⟨x, ⟨hx, e1⟩, y, ⟨hy, e2⟩, h⟩
  · rintro ⟨x, ⟨hx, e1⟩, y, ⟨hy, e2⟩, h⟩; exact ⟨x, hx, y, hy, e1, e2, h⟩
end Go.Proofs.YtcfjjckencjjeaaGreat
end
