/- The laws on one arc more, on the order, and on what goes in. Plain lemmas, no condition. -/
import Derived.Test.YtpijipnmfkehcaaFstR
import Derived.Test.YtpijipnmfkehcaaF5
import Derived.Test.YtpijipnmfkehcaaN1t
set_option linter.unusedVariables false
set_option linter.unusedSimpArgs false
namespace Go.Proofs.Ytpijipnmfkehcaa
open Go Go.E
set_option maxRecDepth 100000

/-! ### The law on the order -/
theorem fstSort_eq (t : Fst) (w : List UInt8) (at_ : Int) (h1 : t.starts.length ≤ 281474976710656) (h2 : t.ends.length ≤ 281474976710656) (h3 : t.arcs.length ≤ 281474976710656) (hw : w.length ≤ 281474976710656) : whittlelaw15_FstSort t w at_ = some true := by
  obtain ⟨b, hb, hbt⟩ := few_eq t h1 h2 h3
  unfold whittlelaw15_FstSort
  rw [grd_mk hw, hb, bnd, Option.bind_some]
  cases b
  · rfl
  have hfew := hbt rfl
  rw [Bool.not_true, iteO_false]
  by_cases h5 : w.length ≤ 5
  rotate_left
  · rw [decide_eq_true (by omega), iteO_true]
  rw [decide_eq_false (by omega), iteO_false, sort_eq t]
  by_cases hB : fstB t = true
  rotate_left
  · simp only [if_neg hB, bnd, Option.bind_some, awake_eq, fst_Check_eq]
    simp only [Bool.not_eq_true] at hB
    rw [hB]; rfl
  have hT := (fstB_iff t).1 hB
  have hBs : fstB (srt t) = true := (fstB_iff _).2 (srt_ok hT)
  simp only [if_pos hB, bnd, Option.bind_some, ne_eq, not_true_eq_false, decide_false, iteO_false, sort_eq (srt t), if_pos hBs, srt_srt, outs_eq t w hw, outs_eq (srt t) w hw, if_pos (show w.length ≤ 256 by omega), (srt_alike t).fits, (srt_alike t).outs, same_refl, Bool.not_true, texts_refl, awake_eq]
  by_cases ha : at_ < 0
  · rw [decide_eq_true ha, iteO_true]
  rw [decide_eq_false ha, iteO_false]
  by_cases ha2 : (t.arcs.length : Int) ≤ at_
  · rw [decide_eq_true ha2, iteO_true]
  rw [decide_eq_false ha2, iteO_false, grd_mk (by omega), grd_mk (by rw [List.length_singleton]; omega)]
  have hmem : nth t.arcs at_.toNat Arc.zero ∈ t.arcs := nth_mem' (by omega) _
  have hal : Alike ⟨t.states, t.starts, t.ends, [nth t.arcs at_.toNat Arc.zero] ++ t.arcs⟩ t := ⟨rfl, fun _ => Iff.rfl, fun _ => Iff.rfl, fun x => by
    simp only [List.mem_append, List.mem_singleton]
    constructor
    · rintro (rfl | h)
      · exact hmem
      · exact h
    · exact .inr⟩
  have hBm : fstB ⟨t.states, t.starts, t.ends, [nth t.arcs at_.toNat Arc.zero] ++ t.arcs⟩ = true := (fstB_iff _).2
    ⟨hT.st0, hT.st1, by simp only [List.length_append, List.length_singleton]; omega, hT.startsN, hT.endsN, hT.starts, hT.ends, fun a ha => hT.arcs a ((hal.arcs a).1 ha)⟩
  simp only [sort_eq ⟨t.states, t.starts, t.ends, [nth t.arcs at_.toNat Arc.zero] ++ t.arcs⟩, if_pos hBm, Option.bind_some, hal.srt, same_refl, iteO_true, decide_true]

/-! ### The law on one arc more -/
theorem nth_get {α : Type} {l : List α} {i : Nat} (h : i < l.length) (d : α) : nth l i d = l[i] := by
  have := getD_some l h d
  rw [List.getElem?_eq_getElem h] at this; exact (Option.some.inj this).symm
theorem one_loop (a b : (List (List UInt8)) × Int) (hs : ∀ x ∈ a.1, x ∈ b.1) (ha : a.1.Pairwise fun x y => Lib.compareBytes x y < 0) (hb : b.1.Pairwise fun x y => Lib.compareBytes x y < 0) :
    iter (fun q : Nat × Nat => whittlelaw15_FstOne_b1 b a q.1 q.2) (0, 0) = some true := by
  refine Exists.elim (iter_run (step := fun q : Nat × Nat => whittlelaw15_FstOne_b1 b a q.1 q.2) (fun q => q.1 ≤ a.1.length ∧ q.2 ≤ b.1.length ∧ ∀ j, q.1 ≤ j → j < a.1.length → nth a.1 j [] ∈ b.1.drop q.2) (fun r => r = true) (fun q => b.1.length - q.2) ?_ (0, 0) ⟨Nat.zero_le _, Nat.zero_le _, fun j _ hj => by simpa using hs _ (nth_mem' hj [])⟩) (fun r hr => by rw [hr.1, hr.2])
  have hend : ∀ k, k = a.1.length → whittlelaw15_FstOne_j2 a k = some true := fun k hk => by
    unfold whittlelaw15_FstOne_j2
    rw [awake_eq, bnd, Option.bind_some, iteO_true, decide_eq_true (by rw [hk])]
  rintro ⟨k, i⟩ ⟨hk, hi, hI⟩
  simp only at hk hi hI
  by_cases hil : i < b.1.length
  · by_cases hkl : k < a.1.length
    · left
      have hd : b.1.drop i = nth b.1 i [] :: b.1.drop (i + 1) := by rw [nth_get hil]; exact List.drop_eq_getElem_cons hil
      have hri : ∀ y ∈ b.1.drop (i + 1), Lib.compareBytes (nth b.1 i []) y < 0 := fun y hy => by
        have : (b.1.drop i).Pairwise fun x y => Lib.compareBytes x y < 0 := hb.sublist (List.drop_sublist i _)
        rw [hd, List.pairwise_cons] at this
        exact this.1 y hy
      have hra : ∀ j, k < j → j < a.1.length → Lib.compareBytes (nth a.1 k []) (nth a.1 j []) < 0 := fun j hj hjl => by
        rw [nth_get hkl, nth_get hjl]
        exact List.pairwise_iff_getElem.1 ha k j hkl hjl hj
      simp only [whittlelaw15_FstOne_b1, lt_dec hil, lt_dec hkl, iteO_true]
      by_cases he : nth b.1 i [] = nth a.1 k []
      · refine ⟨(k + 1, i + 1), ?_, ⟨by simp only; omega, by simp only; omega, fun j hj hjl => ?_⟩, by simp only; omega⟩
        · rw [decide_eq_true he]; rfl
        · simp only at hj ⊢
          have h1 := hI j (by omega) hjl
          rw [hd, List.mem_cons] at h1
          rcases h1 with h1 | h1
          · have := hra j (by omega) hjl
            rw [h1, he] at this
            exact absurd this (cmpB_good.irr _)
          · exact h1
      · refine ⟨(k, i + 1), ?_, ⟨hk, by simp only; omega, fun j hj hjl => ?_⟩, by simp only; omega⟩
        · rw [decide_eq_false he]; rfl
        · simp only at hj ⊢
          have h1 := hI j hj hjl
          rw [hd, List.mem_cons] at h1
          rcases h1 with h1 | h1
          · have h2 := hI k (Nat.le_refl _) hkl
            rw [hd, List.mem_cons] at h2
            rcases h2 with h2 | h2
            · exact absurd h2.symm he
            · have h3 := hri _ h2
              have hkj : k ≠ j := fun e => by subst e; exact he h1.symm
              have h4 := hra j (by omega) hjl
              rw [h1] at h4
              exact absurd (cmpB_good.trans _ _ _ h3 h4) (cmpB_good.irr _)
          · exact h1
    · right
      refine ⟨true, ?_, rfl⟩
      simp only [whittlelaw15_FstOne_b1, lt_dec hil, iteO_true, decide_eq_false (show ¬ ((k : Nat) : Int) < ((a.1.length : Nat) : Int) by omega), iteO_false, hend k (by omega)]; rfl
  · right
    refine ⟨true, ?_, rfl⟩
    have : k = a.1.length := by
      by_cases hkl : k < a.1.length
      · have := hI k (Nat.le_refl _) hkl
        rw [List.drop_of_length_le (by omega)] at this; cases this
      · omega
    simp only [whittlelaw15_FstOne_b1, decide_eq_false (show ¬ ((i : Nat) : Int) < ((b.1.length : Nat) : Int) by omega), iteO_false, hend k this]; rfl
theorem fstOne_eq (t : Fst) (x : Arc) (w : List UInt8) (h1 : t.starts.length ≤ 281474976710656) (h2 : t.ends.length ≤ 281474976710656) (h3 : t.arcs.length ≤ 281474976710656) (hw : w.length ≤ 281474976710656) : whittlelaw15_FstOne t x w = some true := by
  obtain ⟨b, hb, hbt⟩ := few_eq t h1 h2 h3
  unfold whittlelaw15_FstOne
  rw [grd_mk hw, hb, bnd, Option.bind_some]
  cases b
  · rfl
  have hfew := hbt rfl
  rw [Bool.not_true, iteO_false]
  by_cases hx : (600 : Int) < ((x.out.length : Nat) : Int)
  · rw [decide_eq_true hx, iteO_true]
  rw [decide_eq_false hx, iteO_false]
  by_cases h5 : w.length ≤ 5
  rotate_left
  · rw [decide_eq_true (by omega), iteO_true]
  rw [decide_eq_false (by omega), iteO_false, grd_mk (by simp only [List.length_nil]; omega), grd_mk (by simp only [List.length_append, List.length_nil, List.length_singleton]; omega)]
  unfold whittlelaw15_FstOne_j1
  generalize hm : (⟨t.states, t.starts, t.ends, (([] : List Arc) ++ t.arcs) ++ [x]⟩ : Fst) = m
  have hin : Within t m := by subst hm; exact ⟨fun _ h => h, fun _ h => h, fun y h => by simp [h]⟩
  have hB : fstB m = true → fstB t = true := fun h => by
    have hm' := (fstB_iff m).1 h
    subst hm
    exact (fstB_iff t).2 ⟨hm'.st0, hm'.st1, by have := hm'.arcsN; simp at this; omega, hm'.startsN, hm'.endsN, hm'.starts, hm'.ends, fun a ha => hm'.arcs a (hin.arcs a ha)⟩
  have hF : fitsB m w = true → fitsB t w = true := hin.fits w
  simp only [outs_eq t w hw, outs_eq m w hw, bnd, Option.bind_some, if_pos (show w.length ≤ 256 by omega), awake_eq, iteO_true]
  by_cases hBm : fstB m = true
  · have hBt := hB hBm
    simp only [if_pos hBm, if_pos hBt]
    by_cases hFm : fitsB m w = true
    · have hFt := hF hFm
      simp only [if_pos hFm, if_pos hFt, ne_eq, not_true_eq_false, decide_false, iteO_false]
      exact one_loop (outsL t w, 0) (outsL m w, 0) (hin.outs w) (outsL_rise t w) (outsL_rise m w)
    · simp only [if_neg hFm]
      by_cases hFt : fitsB t w = true
      · simp only [if_pos hFt]; rfl
      · simp only [if_neg hFt]; rfl
  · simp only [if_neg hBm]
    by_cases hBt : fstB t = true
    · simp only [if_pos hBt]
      by_cases hFt : fitsB t w = true
      · simp only [if_pos hFt]; rfl
      · simp only [if_neg hFt]; rfl
    · simp only [if_neg hBt]; rfl

/-! ### What goes in -/
theorem in_reach (t : Fst) (w : List UInt8) : ∀ s, s ∈ reachL (inN t) w ↔ ∃ p ∈ pairsL t w, p.state = s := by
  induction w using rev_ind with
  | h0 =>
    intro s
    show s ∈ onceL 0 cmpI (t.starts.map Tip.state) ↔ ∃ p ∈ t.starts.map tp, p.state = s
    rw [mem_onceL]
    simp only [List.mem_map]
    constructor
    · rintro ⟨x, hx, rfl⟩; exact ⟨tp x, ⟨x, hx, rfl⟩, rfl⟩
    · rintro ⟨_, ⟨x, hx, rfl⟩, rfl⟩; exact ⟨x, hx, rfl⟩
  | h1 w b ih =>
    intro s
    have e : reachL (inN t) (w ++ [b]) = aftL (inN t) (reachL (inN t) w) b := by simp [reachL]
    rw [e, mem_aftL, pairsL_snoc]
    simp only [mem_aftP]
    constructor
    · rintro ⟨e, he, h1, h2, rfl⟩
      obtain ⟨a, ha, rfl⟩ := List.mem_map.1 he
      obtain ⟨p, hp, hps⟩ := (ih _).1 h2
      exact ⟨_, ⟨p, hp, a, ha, hps.symm, h1, rfl⟩, rfl⟩
    · rintro ⟨q, ⟨p, hp, a, ha, h1, h2, rfl⟩, rfl⟩
      exact ⟨⟨a.frm, a.to, a.set⟩, List.mem_map.2 ⟨a, ha, rfl⟩, h2, (ih _).2 ⟨p, hp, h1.symm⟩, rfl⟩
theorem in_takes (t : Fst) (w : List UInt8) : takesL (inN t) w = decide (0 < (((outsL t w).length : Nat) : Int)) := by
  rw [Bool.eq_iff_iff, decide_eq_true_eq, takesL, List.any_eq_true]
  constructor
  · rintro ⟨s, hs, h⟩
    have h := (in_reach t w s).1 (by simpa using h)
    obtain ⟨p, hp, rfl⟩ := h
    have hs : p.state ∈ onceL 0 cmpI (t.ends.map Tip.state) := hs
    rw [mem_onceL] at hs
    obtain ⟨e, he, hes⟩ := List.mem_map.1 hs
    have := List.length_pos_of_mem (mem_outsL.2 ⟨p, hp, e, he, hes, rfl⟩)
    omega
  · intro h
    obtain ⟨o, ho⟩ := List.exists_mem_of_length_pos (by omega : 0 < (outsL t w).length)
    obtain ⟨p, hp, e, he, hes, _⟩ := mem_outsL.1 ho
    refine ⟨p.state, ?_, by simpa using (in_reach t w p.state).2 ⟨p, hp, rfl⟩⟩
    show p.state ∈ onceL 0 cmpI (t.ends.map Tip.state)
    rw [mem_onceL]
    exact List.mem_map.2 ⟨e, he, hes⟩
theorem fstIn_eq (t : Fst) (w : List UInt8) (h1 : t.starts.length ≤ 281474976710656) (h2 : t.ends.length ≤ 281474976710656) (h3 : t.arcs.length ≤ 281474976710656) (hw : w.length ≤ 281474976710656) : whittlelaw15_FstIn t w = some true := by
  obtain ⟨b, hb, hbt⟩ := few_eq t h1 h2 h3
  unfold whittlelaw15_FstIn
  rw [grd_mk hw, hb, bnd, Option.bind_some]
  cases b
  · rfl
  rw [Bool.not_true, iteO_false]
  by_cases h5 : w.length ≤ 5
  rotate_left
  · rw [decide_eq_true (by omega), iteO_true]
  rw [decide_eq_false (by omega), iteO_false]
  simp only [outs_eq t w hw, in_eq t, takes_eq _ w hw, bnd, Option.bind_some, awake_eq, iteO_true, if_pos (show w.length ≤ 256 by omega)]
  by_cases hB : fstB t = true
  · have hT := (fstB_iff t).1 hB
    simp only [if_pos hB]
    by_cases hF : fitsB t w = true
    · simp only [if_pos hF, ne_eq, not_true_eq_false, decide_false, iteO_false, in_check hT, if_pos, in_takes, beq_self_eq_true, decide_true, iteO_true, errB]
    · simp only [if_neg hF]; rfl
  · simp only [if_neg hB]; rfl
end Go.Proofs.Ytpijipnmfkehcaa
