/- In, and Sort, of a transducer; what the laws look at. Plain lemmas, no condition. -/
import Derived.Test.YtpijipnmfkehcaaFstQ
import Derived.Test.YtpijipnmfkehcaaChk
set_option linter.unusedVariables false
set_option linter.unusedSimpArgs false
namespace Go.Proofs.Ytpijipnmfkehcaa
open Go Go.E
set_option maxRecDepth 100000

/-! ### In order -/
def srt (t : Fst) : Fst := ⟨t.states, onceL Tip.zero cmpTip t.starts, onceL Tip.zero cmpTip t.ends, onceL Arc.zero cmpArc t.arcs⟩
theorem sort_eq (t : Fst) : fst_Sort t = some (if fstB t = true then (srt t, 0) else (⟨0, [], [], []⟩, 1)) := by
  unfold fst_Sort
  rw [fst_Check_eq, bnd, Option.bind_some, errB_ne]
  by_cases h : fstB t = true
  · have ht := (fstB_iff t).1 h
    have h1 := ht.startsN
    have h2 := ht.endsN
    have h3 := ht.arcsN
    rw [h, if_pos rfl, Bool.not_true, iteO_false]
    simp only [onceT_eq (l := t.starts) (by omega), onceT_eq (l := t.ends) (by omega), onceA_eq (l := t.arcs) (by omega), bnd, Option.bind_some]
    rfl
  · simp only [Bool.not_eq_true] at h
    rw [h]; rfl
/-- The same things, be it in another order and more often. -/
structure Alike (s t : Fst) : Prop where
  states : s.states = t.states
  starts : ∀ x, x ∈ s.starts ↔ x ∈ t.starts
  ends : ∀ x, x ∈ s.ends ↔ x ∈ t.ends
  arcs : ∀ x, x ∈ s.arcs ↔ x ∈ t.arcs
theorem srt_alike (t : Fst) : Alike (srt t) t := ⟨rfl, fun _ => mem_onceL, fun _ => mem_onceL, fun _ => mem_onceL⟩
theorem Alike.srt {s t : Fst} (h : Alike s t) : srt s = srt t := by
  unfold Proofs.Ytpijipnmfkehcaa.srt
  rw [h.states, onceL_congr cmpTip_good h.starts, onceL_congr cmpTip_good h.ends, onceL_congr cmpArc_good h.arcs]
theorem srt_srt (t : Fst) : srt (srt t) = srt t := (srt_alike t).srt
theorem srt_ok {t : Fst} (ht : FstOk t) : FstOk (srt t) where
  st0 := ht.st0
  st1 := ht.st1
  arcsN := Nat.le_trans (onceL_len _) ht.arcsN
  startsN := Nat.le_trans (onceL_len _) ht.startsN
  endsN := Nat.le_trans (onceL_len _) ht.endsN
  starts p hp := ht.starts p (mem_onceL.1 hp)
  ends p hp := ht.ends p (mem_onceL.1 hp)
  arcs a ha := ht.arcs a (mem_onceL.1 ha)
/-- More arcs and tips. -/
structure Within (s t : Fst) : Prop where
  starts : ∀ x ∈ s.starts, x ∈ t.starts
  ends : ∀ x ∈ s.ends, x ∈ t.ends
  arcs : ∀ x ∈ s.arcs, x ∈ t.arcs
theorem Alike.within {s t : Fst} (h : Alike s t) : Within s t := ⟨fun x => (h.starts x).1, fun x => (h.ends x).1, fun x => (h.arcs x).1⟩
theorem Alike.symm {s t : Fst} (h : Alike s t) : Alike t s := ⟨h.states.symm, fun x => (h.starts x).symm, fun x => (h.ends x).symm, fun x => (h.arcs x).symm⟩
theorem Within.pairs {s t : Fst} (h : Within s t) (w : List UInt8) : ∀ p ∈ pairsL s w, p ∈ pairsL t w := by
  induction w using rev_ind with
  | h0 =>
    intro p hp
    obtain ⟨x, hx, rfl⟩ := List.mem_map.1 hp
    exact List.mem_map.2 ⟨x, h.starts x hx, rfl⟩
  | h1 w b ih =>
    intro q hq
    rw [pairsL_snoc, mem_aftP] at *
    obtain ⟨p, hp, a, ha, r⟩ := hq
    exact ⟨p, ih p hp, a, h.arcs a ha, r⟩
theorem Within.fits {s t : Fst} (h : Within s t) (w : List UInt8) (ht : fitsB t w = true) : fitsB s w = true := by
  rw [fitsB, List.all_eq_true] at *
  intro k hk
  have := ht k hk
  rw [decide_eq_true_eq] at *
  exact Nat.le_trans (card_mono (h.pairs _)) this
theorem mem_endT {t : Fst} {S : List FPair} {o : List UInt8} : o ∈ endT t S ↔ ∃ p ∈ S, ∃ e ∈ t.ends, e.state = p.state ∧ o = p.out ++ e.out := by
  simp only [endT, List.mem_flatMap, List.mem_map, List.mem_filter, decide_eq_true_eq]
  constructor
  · rintro ⟨p, hp, _, ⟨e, ⟨he, h1⟩, rfl⟩, h2⟩; exact ⟨p, hp, e, he, h1, h2.symm⟩
  · rintro ⟨p, hp, e, he, h1, h2⟩; exact ⟨p, hp, _, ⟨e, ⟨he, h1⟩, rfl⟩, h2.symm⟩
theorem mem_outsL {t : Fst} {w o : List UInt8} : o ∈ outsL t w ↔ ∃ p ∈ pairsL t w, ∃ e ∈ t.ends, e.state = p.state ∧ o = p.out ++ e.out := by rw [outsL, mem_onceL, mem_endT]
theorem Within.outs {s t : Fst} (h : Within s t) (w : List UInt8) : ∀ o ∈ outsL s w, o ∈ outsL t w := by
  intro o ho
  rw [mem_outsL] at *
  obtain ⟨p, hp, e, he, r⟩ := ho
  exact ⟨p, h.pairs w p hp, e, h.ends e he, r⟩
theorem outsL_rise (t : Fst) (w : List UInt8) : (outsL t w).Pairwise fun x y => Lib.compareBytes x y < 0 := sorted_onceL cmpB_good _
theorem Alike.outs {s t : Fst} (h : Alike s t) (w : List UInt8) : outsL s w = outsL t w := rising_eq cmpB_good (outsL_rise s w) (outsL_rise t w) fun x => ⟨h.within.outs w x, h.symm.within.outs w x⟩
theorem Alike.fits {s t : Fst} (h : Alike s t) (w : List UInt8) : fitsB s w = fitsB t w := by
  rw [Bool.eq_iff_iff]; exact ⟨h.symm.within.fits w, h.within.fits w⟩

/-! ### What the laws look at -/
theorem same_run {α R : Type} {step : Nat → Option (Nat ⊕ R)} {y : R} (n : Nat) (hs : ∀ k, k < n → step k = some (.inl (k + 1))) (hd : step n = some (.inr y)) : iter step 0 = some y := iter_seq0 (fun k => k) n hs hd
theorem texts_refl (l : List (List UInt8)) : whittleref03_Texts l l = some true := by
  unfold whittleref03_Texts
  rw [decide_eq_false (by simp), iteO_false]
  refine same_run (α := Unit) l.length (fun k hk => ?_) ?_
  · simp only [whittleref03_Texts_b1, lt_dec hk, iteO_true, grd_mk hk, ne_eq, not_true_eq_false, decide_false, iteO_false]; rfl
  · simp only [whittleref03_Texts_b1, Int.lt_irrefl, decide_false, iteO_false]; rfl
theorem sameTips_refl (l : List Tip) : whittleref15_SameTips l l = some true := by
  unfold whittleref15_SameTips
  rw [decide_eq_false (by simp), iteO_false]
  refine same_run (α := Unit) l.length (fun k hk => ?_) ?_
  · simp only [whittleref15_SameTips_b1, lt_dec hk, iteO_true, grd_mk hk, not_true_eq_false, decide_false, iteO_false]; rfl
  · simp only [whittleref15_SameTips_b1, Int.lt_irrefl, decide_false, iteO_false]; rfl
theorem same_refl (t : Fst) : whittleref15_Same t t = some true := by
  unfold whittleref15_Same
  simp only [ne_eq, not_true_eq_false, decide_false, iteO_false, sameTips_refl, bnd, Option.bind_some, Bool.not_true]
  refine same_run (α := Unit) t.arcs.length (fun k hk => ?_) ?_
  · simp only [whittleref15_Same_b1, lt_dec hk, iteO_true, grd_mk hk, not_true_eq_false, decide_false, iteO_false]; rfl
  · simp only [whittleref15_Same_b1, Int.lt_irrefl, decide_false, iteO_false]; rfl
theorem index_eq (l : List (List UInt8)) (x : List UInt8) (hx : x.length ≤ 281474976710656) : ∃ v : Int, indexS l x = some v ∧ (0 ≤ v ↔ x ∈ l) := by
  unfold indexS
  rw [grd_mk hx]
  refine iter_run (step := fun q : Nat => indexS_b1 l x q) (fun k => k ≤ l.length ∧ x ∉ l.take k) (fun v => 0 ≤ v ↔ x ∈ l) (fun k => l.length - k) ?_ 0 ⟨Nat.zero_le _, by simp⟩
  rintro k ⟨hk, hn⟩
  by_cases hlt : k < l.length
  · by_cases he : x = nth l k []
    · right
      refine ⟨(k : Int), ?_, ?_⟩
      · simp only [indexS_b1, lt_dec hlt, iteO_true, decide_eq_true he]; rfl
      · exact ⟨fun _ => by rw [he]; exact nth_mem' hlt [], fun _ => by omega⟩
    · left
      refine ⟨k + 1, ?_, ⟨by omega, ?_⟩, by omega⟩
      · simp only [indexS_b1, lt_dec hlt, iteO_true, decide_eq_false he, iteO_false]; rfl
      · rw [take_snoc l hlt [], List.mem_append, List.mem_singleton]
        rintro (h | h)
        · exact hn h
        · exact he h
  · right
    refine ⟨-1, ?_, ?_⟩
    · simp only [indexS_b1, decide_eq_false (show ¬ ((k : Nat) : Int) < ((l.length : Nat) : Int) by omega), iteO_false]; rfl
    · rw [List.take_of_length_le (by omega)] at hn
      exact ⟨fun h => by omega, fun h => absurd h hn⟩
theorem contains_eq (l : List (List UInt8)) (x : List UInt8) (hx : x.length ≤ 281474976710656) : containsS l x = some (decide (x ∈ l)) := by
  obtain ⟨v, h1, h2⟩ := index_eq l x hx
  unfold containsS
  rw [grd_mk hx, h1, bnd, Option.bind_some]
  simp only [h2]
theorem has_eq (t : Fst) (w o : List UInt8) (hw : w.length ≤ 281474976710656) (ho : o.length ≤ 281474976710656) :
    fst_Has t w o = some (if fstB t = true then (if w.length ≤ 256 then (if fitsB t w = true then (decide (o ∈ outsL t w), 0) else (false, 2)) else (false, 2)) else (false, 1)) := by
  unfold fst_Has
  rw [grd_mk hw, grd_mk ho, outs_eq t w hw, bnd, Option.bind_some]
  split
  · split
    · split
      · simp only [ne_eq, not_true_eq_false, decide_false, iteO_false, contains_eq _ _ ho, bnd, Option.bind_some]
      · rfl
    · rfl
  · rfl
def awT : Fst := ⟨2, [⟨0, []⟩], [⟨1, [121]⟩], [⟨0, 1, BSet.ofL [97], [120], true⟩]⟩
theorem awT_outs : outsL awT [97] = [[120, 97, 121]] := by
  have h : endT awT (pairsL awT [97]) = [[120, 97, 121]] := by decide
  rw [outsL, h]
  exact onceL_of cmpB_good (List.pairwise_singleton ..)
theorem awT_b : fstB awT = true := by decide
theorem awT_f : fitsB awT [97] = true := by decide
theorem awake_eq : whittlelaw15_awake = some true := by
  have h1 := outs_eq awT [97] (by decide)
  have h2 := has_eq awT [97] [120, 97, 121] (by decide) (by decide)
  rw [awT_b, if_pos rfl, if_pos (by decide), awT_f, if_pos rfl, awT_outs] at h1 h2
  unfold whittlelaw15_awake
  rw [grd_mk (by decide)]
  change bnd (fst_Outs awT [97]) (fun v14 => bnd (fst_Has awT [97] [120, 97, 121]) (fun v21 => bnd (whittleref03_Texts v14.1 [[120, 97, 121]]) (fun v29 => iteO v29 (iteO (decide (v14.2 = 0)) (iteO v21.1 (some (decide (v21.2 = v14.2))) (some false)) (some false)) (some false)))) = some true
  rw [h1, h2]
  simp only [bnd, Option.bind_some, texts_refl, List.mem_singleton, decide_true, iteO_true]

/-! ### Few -/
theorem few3 (t : Fst) (i : Int) : ∃ b, whittleref15_Few_j3 t i = some b ∧ (60 < i → b = false) := by
  unfold whittleref15_Few_j3
  by_cases h : i ≤ 60
  · rw [decide_eq_true h, iteO_true]
    by_cases h2 : t.states ≤ 20
    · exact ⟨true, by rw [decide_eq_true h2]; rfl, fun h3 => by omega⟩
    · exact ⟨_, by rw [decide_eq_false h2]; rfl, fun h3 => by omega⟩
  · exact ⟨false, by rw [decide_eq_false h]; rfl, fun _ => rfl⟩
theorem few_loop {step : Int × Nat → Option ((Int × Nat) ⊕ Bool)} {nx : Int → Option Bool} {n : Nat} {f : Nat → Int → Int} (hnx : ∀ i, ∃ b, nx i = some b ∧ (60 < i → b = false))
    (h1 : ∀ i k, k < n → i ≤ 60 → step (i, k) = some (.inl (f k i, k + 1))) (h2 : ∀ i k, k < n → 60 < i → step (i, k) = fin (nx i)) (h3 : ∀ i k, n ≤ k → step (i, k) = fin (nx i)) (i : Int) : ∃ b, iter step (i, 0) = some b ∧ (60 < i → b = false) := by
  by_cases hi : 60 < i
  · obtain ⟨b, hb, hf⟩ := hnx i
    refine ⟨b, iter_done ?_, hf⟩
    by_cases hn : 0 < n
    · rw [h2 i 0 hn hi, hb]; rfl
    · rw [h3 i 0 (by omega), hb]; rfl
  · obtain ⟨b, hb, _⟩ := iter_run (step := step) (fun _ => True) (fun _ => True) (fun q => n - q.2) (fun s _ => by
      obtain ⟨j, k⟩ := s
      obtain ⟨b, hb, _⟩ := hnx j
      by_cases hk : k < n
      · by_cases hj : j ≤ 60
        · exact .inl ⟨_, h1 j k hk hj, trivial, by simp only; omega⟩
        · exact .inr ⟨b, by rw [h2 j k hk (by omega), hb]; rfl, trivial⟩
      · exact .inr ⟨b, by rw [h3 j k (by omega), hb]; rfl, trivial⟩) (i, 0) trivial
    exact ⟨b, hb, fun h => absurd h hi⟩
theorem few2 (t : Fst) (i : Int) : ∃ b, whittleref15_Few_j2 t i = some b ∧ (60 < i → b = false) := by
  unfold whittleref15_Few_j2
  refine few_loop (n := t.arcs.length) (f := fun k i => IntKind.i64.wrap (i + IntKind.i64.wrap (Int.tdiv (((nth t.arcs k Arc.zero).out.length : Nat) : Int) 40))) (few3 t) ?_ ?_ ?_ i
  · intro i k hk hi
    simp only [whittleref15_Few_b3, lt_dec hk, decide_eq_true hi, iteO_true]; rfl
  · intro i k hk hi
    simp only [whittleref15_Few_b3, lt_dec hk, decide_eq_false (show ¬ i ≤ 60 by omega), iteO_true, iteO_false]
  · intro i k hk
    simp only [whittleref15_Few_b3, decide_eq_false (show ¬ ((k : Nat) : Int) < ((t.arcs.length : Nat) : Int) by omega), iteO_false]
theorem few1 (t : Fst) (i : Int) : ∃ b, whittleref15_Few_j1 t i = some b ∧ (60 < i → b = false) := by
  unfold whittleref15_Few_j1
  refine few_loop (n := t.ends.length) (f := fun k i => IntKind.i64.wrap (i + IntKind.i64.wrap (Int.tdiv (((nth t.ends k Tip.zero).out.length : Nat) : Int) 40))) (few2 t) ?_ ?_ ?_ i
  · intro i k hk hi
    simp only [whittleref15_Few_b2, lt_dec hk, decide_eq_true hi, iteO_true]; rfl
  · intro i k hk hi
    simp only [whittleref15_Few_b2, lt_dec hk, decide_eq_false (show ¬ i ≤ 60 by omega), iteO_true, iteO_false]
  · intro i k hk
    simp only [whittleref15_Few_b2, decide_eq_false (show ¬ ((k : Nat) : Int) < ((t.ends.length : Nat) : Int) by omega), iteO_false]
theorem few_eq (t : Fst) (h1 : t.starts.length ≤ 281474976710656) (h2 : t.ends.length ≤ 281474976710656) (h3 : t.arcs.length ≤ 281474976710656) : ∃ b, whittleref15_Few t = some b ∧ (b = true → t.starts.length + t.ends.length + t.arcs.length ≤ 60) := by
  unfold whittleref15_Few
  rw [wrap64_of (a := ((t.starts.length : Nat) : Int) + ((t.ends.length : Nat) : Int)) (by omega) (by omega), wrap64_of (by omega) (by omega)]
  obtain ⟨b, hb, hf⟩ := few_loop (step := fun q : Int × Nat => whittleref15_Few_b1 t q.1 q.2) (n := t.starts.length) (f := fun k i => IntKind.i64.wrap (i + IntKind.i64.wrap (Int.tdiv (((nth t.starts k Tip.zero).out.length : Nat) : Int) 40))) (few1 t)
    (fun i k hk hi => by simp only [whittleref15_Few_b1, lt_dec hk, decide_eq_true hi, iteO_true]; rfl)
    (fun i k hk hi => by simp only [whittleref15_Few_b1, lt_dec hk, decide_eq_false (show ¬ i ≤ 60 by omega), iteO_true, iteO_false])
    (fun i k hk => by simp only [whittleref15_Few_b1, decide_eq_false (show ¬ ((k : Nat) : Int) < ((t.starts.length : Nat) : Int) by omega), iteO_false])
    (((t.starts.length : Nat) : Int) + ((t.ends.length : Nat) : Int) + ((t.arcs.length : Nat) : Int))
  refine ⟨b, hb, fun hbt => ?_⟩
  subst hbt
  by_cases hc : t.starts.length + t.ends.length + t.arcs.length ≤ 60
  · exact hc
  · have := hf (by omega); cases this

/-! ### What goes in -/
def inN (t : Fst) : Nfa := ⟨t.states, onceL 0 cmpI (t.starts.map Tip.state), onceL 0 cmpI (t.ends.map Tip.state), t.arcs.map fun a => ⟨a.frm, a.to, a.set⟩⟩
theorem states_eq {l : List Tip} (h : l.length ≤ 1024) : fst_states l = some (onceL 0 cmpI (l.map Tip.state)) := by
  unfold fst_states
  refine iter_fold (step := fun q : (List Int) × Nat => fst_states_b1 l q.1 q.2) l Tip.zero (fun k => (l.take k).map Tip.state) ?_ ?_
  · intro k hk
    simp only [fst_states_b1, lt_dec hk, iteO_true]
    rw [grd_mk (by simp only [List.length_map, List.length_take, List.length_singleton]; omega), take_snoc l hk Tip.zero, List.map_append]
    rfl
  · simp only [fst_states_b1, Int.lt_irrefl, decide_false, iteO_false, List.take_length]
    rw [onceI_eq (by rw [List.length_map]; omega)]; rfl
theorem in_eq (t : Fst) : fst_In t = some (if fstB t = true then (inN t, 0) else (⟨0, [], [], []⟩, 1)) := by
  unfold fst_In
  rw [fst_Check_eq, bnd, Option.bind_some, errB_ne]
  by_cases h : fstB t = true
  · have ht := (fstB_iff t).1 h
    have h3 := ht.arcsN
    rw [h, if_pos rfl, Bool.not_true, iteO_false]
    simp only [states_eq ht.startsN, states_eq ht.endsN, bnd, Option.bind_some]
    unfold fst_In_j1
    refine iter_fold (step := fun q : (List Arrow) × Nat => fst_In_b1 t (onceL 0 cmpI (t.starts.map Tip.state)) (onceL 0 cmpI (t.ends.map Tip.state)) q.1 q.2) t.arcs Arc.zero (fun k => (t.arcs.take k).map fun a => (⟨a.frm, a.to, a.set⟩ : Arrow)) ?_ ?_
    · intro k hk
      simp only [fst_In_b1, lt_dec hk, iteO_true]
      rw [grd_mk (by simp only [List.length_map, List.length_take, List.length_singleton]; omega), take_snoc t.arcs hk Arc.zero, List.map_append]
      rfl
    · simp only [fst_In_b1, Int.lt_irrefl, decide_false, iteO_false, List.take_length]; rfl
  · simp only [Bool.not_eq_true] at h
    rw [h]; rfl
theorem cmpI_lt {x y : Int} : cmpI x y < 0 ↔ x < y := by unfold cmpI; (repeat' split) <;> omega
theorem in_check {t : Fst} (ht : FstOk t) : checkB (inN t) = true := by
  have h1 := ht.st1
  have h2 := ht.arcsN
  have hr : ∀ l : List Tip, (∀ p ∈ l, (0 ≤ p.state ∧ p.state < t.states) ∧ p.out.length ≤ 1024) → (∀ x ∈ onceL 0 cmpI (l.map Tip.state), 0 ≤ x ∧ x < t.states) ∧ (onceL 0 cmpI (l.map Tip.state)).Pairwise (· < ·) := fun l hl => by
    refine ⟨fun x hx => ?_, (sorted_onceL cmpI_good _).imp fun h => cmpI_lt.1 h⟩
    rw [mem_onceL] at hx
    obtain ⟨p, hp, rfl⟩ := List.mem_map.1 hx
    exact (hl p hp).1
  refine checkB_iff.2 ⟨ht.st0, by simp only [inN]; omega, by simp only [inN, List.length_map]; omega, hr _ ht.starts, hr _ ht.ends, fun e he => ?_⟩
  obtain ⟨a, ha, rfl⟩ := List.mem_map.1 he
  have := ht.arcs a ha
  exact ⟨this.1.1, this.1.2, this.2.1.1, this.2.1.2, this.2.2.1⟩
end Go.Proofs.Ytpijipnmfkehcaa
