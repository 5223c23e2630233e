/- What the program compares by: whole orders. Plain. -/
import Derived.Test.YtpijipnmfkehcaaF2
import Derived.Test.YtpijipnmfkehcaaDec9
import Derived.Test.YtpijipnmfkehcaaPl
set_option linter.unusedVariables false
set_option linter.unusedSimpArgs false
namespace Go.Proofs.Ytpijipnmfkehcaa
open Go Go.E Go.Sort
set_option maxRecDepth 100000

structure GoodCmp {α : Type} (c : α → α → Int) : Prop where
  eq : ∀ x y, c x y = 0 ↔ x = y
  anti : ∀ x y, c x y < 0 ↔ 0 < c y x
  trans : ∀ x y z, c x y < 0 → c y z < 0 → c x z < 0
theorem GoodCmp.total {α : Type} {c : α → α → Int} (h : GoodCmp c) : TotalCmp c where
  swo := {
    irrefl := fun x => by have := (h.eq x x).2 rfl; simp [ltOf, this]
    trans := fun x y z h1 h2 => by
      simp only [ltOf, decide_eq_true_eq] at *
      exact h.trans x y z h1 h2
    ntrans := fun x y z h1 h2 => by
      simp only [ltOf, decide_eq_false_iff_not] at *
      intro h3
      by_cases e1 : x = y
      · subst e1; exact h2 h3
      · by_cases e2 : y = z
        · subst e2; exact h1 h3
        · have n1 : c x y ≠ 0 := fun e => e1 ((h.eq _ _).1 e)
          have n2 : c y z ≠ 0 := fun e => e2 ((h.eq _ _).1 e)
          have h4 : c z y < 0 := (h.anti _ _).2 (by omega)
          exact h1 (h.trans _ _ _ h3 h4) }
  tot := fun x y h1 h2 => by
    simp only [ltOf, decide_eq_false_iff_not] at *
    refine (h.eq x y).1 ?_
    have := (h.anti y x)
    omega
def corI (a b : Int) : Int := if a ≠ 0 then a else b
theorem GoodCmp.lex {α β γ : Type} {c : β → β → Int} {d : γ → γ → Int} (hc : GoodCmp c) (hd : GoodCmp d) (f : α → β) (g : α → γ) (hfg : ∀ x y, f x = f y → g x = g y → x = y) : GoodCmp fun x y => corI (c (f x) (f y)) (d (g x) (g y)) where
  eq x y := by
    unfold corI
    by_cases h : c (f x) (f y) = 0
    · have hf := (hc.eq _ _).1 h
      simp only [h, ne_eq, not_true_eq_false, if_false, hd.eq]
      exact ⟨fun hg => hfg x y hf hg, fun e => by rw [e]⟩
    · simp only [ne_eq, h, not_false_eq_true, if_true, false_iff]
      intro e; subst e; exact h ((hc.eq _ _).2 rfl)
  anti x y := by
    unfold corI
    have h1 := hc.anti (f x) (f y)
    have h2 := hc.anti (f y) (f x)
    have h3 := hd.anti (g x) (g y)
    by_cases h : c (f x) (f y) = 0
    · have hf := (hc.eq _ _).1 h
      have h' : c (f y) (f x) = 0 := (hc.eq _ _).2 hf.symm
      simp only [h, h', ne_eq, not_true_eq_false, if_false]; exact h3
    · have h' : c (f y) (f x) ≠ 0 := fun e => h ((hc.eq _ _).2 ((hc.eq _ _).1 e).symm)
      simp only [h, h', ne_eq, not_false_eq_true, if_true]; exact h1
  trans x y z := by
    unfold corI
    intro h1 h2
    by_cases a : c (f x) (f y) = 0
    · have ea := (hc.eq _ _).1 a
      rw [a] at h1; simp only [ne_eq, not_true_eq_false, if_false] at h1
      rw [ea]
      by_cases b : c (f y) (f z) = 0
      · rw [b] at h2 ⊢
        simp only [ne_eq, not_true_eq_false, if_false] at h2 ⊢
        exact hd.trans _ _ _ h1 h2
      · simp only [ne_eq, b, not_false_eq_true, if_true] at h2 ⊢; exact h2
    · simp only [ne_eq, a, not_false_eq_true, if_true] at h1
      by_cases b : c (f y) (f z) = 0
      · have eb := (hc.eq _ _).1 b
        rw [← eb]
        simp only [ne_eq, a, not_false_eq_true, if_true]; exact h1
      · simp only [ne_eq, b, not_false_eq_true, if_true] at h2
        have h3 := hc.trans _ _ _ h1 h2
        have h4 : c (f x) (f z) ≠ 0 := by omega
        simp only [ne_eq, h4, not_false_eq_true, if_true]; exact h3
def cmpI (x y : Int) : Int := if x < y then -1 else if y < x then 1 else 0
theorem cmpI_good : GoodCmp cmpI where
  eq x y := by unfold cmpI; (repeat' split) <;> omega
  anti x y := by unfold cmpI; (repeat' split) <;> omega
  trans x y z := by unfold cmpI; (repeat' split) <;> omega
def cmpN (x y : Nat) : Int := if x < y then -1 else if y < x then 1 else 0
theorem cmpN_good : GoodCmp cmpN where
  eq x y := by unfold cmpN; (repeat' split) <;> omega
  anti x y := by unfold cmpN; (repeat' split) <;> omega
  trans x y z := by unfold cmpN; (repeat' split) <;> omega
theorem cmpB_eq : ∀ a b : List UInt8, Lib.compareBytes a b = 0 ↔ a = b
  | [], [] => by simp [Lib.compareBytes]
  | [], _ :: _ => by simp [Lib.compareBytes]
  | _ :: _, [] => by simp [Lib.compareBytes]
  | x :: a, y :: b => by
    simp only [Lib.compareBytes]
    split
    · rename_i h; simp; intro e; subst e; exact absurd h (UInt8.lt_irrefl _)
    · rename_i h
      split
      · rename_i h'; simp; intro e; subst e; exact absurd h' (UInt8.lt_irrefl _)
      · rename_i h'
        have : x = y := UInt8.le_antisymm (UInt8.not_lt.1 h') (UInt8.not_lt.1 h)
        subst this
        simp [cmpB_eq a b]
theorem cmpB_anti : ∀ a b : List UInt8, Lib.compareBytes a b < 0 ↔ 0 < Lib.compareBytes b a
  | [], [] => by simp [Lib.compareBytes]
  | [], _ :: _ => by simp [Lib.compareBytes]
  | _ :: _, [] => by simp [Lib.compareBytes]
  | x :: a, y :: b => by
    simp only [Lib.compareBytes]
    by_cases h : x < y
    · have h' : ¬ y < x := fun h2 => UInt8.lt_irrefl _ (UInt8.lt_trans h h2)
      simp [h, h']
    · by_cases h' : y < x
      · simp [h, h']
      · simp [h, h', cmpB_anti a b]
theorem cmpB_trans : ∀ a b c : List UInt8, Lib.compareBytes a b < 0 → Lib.compareBytes b c < 0 → Lib.compareBytes a c < 0
  | [], [], c, h, _ => by simp [Lib.compareBytes] at h
  | [], _ :: _, [], _, h => by simp [Lib.compareBytes] at h
  | [], _ :: _, _ :: _, _, _ => by simp [Lib.compareBytes]
  | _ :: _, [], c, h, _ => by simp [Lib.compareBytes] at h
  | _ :: _, _ :: _, [], _, h => by simp [Lib.compareBytes] at h
  | x :: a, y :: b, z :: c, h1, h2 => by
    simp only [Lib.compareBytes] at *
    by_cases hxy : x < y
    · by_cases hyz : y < z
      · have := UInt8.lt_trans hxy hyz; simp [this]
      · by_cases hzy : z < y
        · simp [hyz, hzy] at h2
        · have : y = z := UInt8.le_antisymm (UInt8.not_lt.1 hzy) (UInt8.not_lt.1 hyz)
          subst this; simp [hxy]
    · by_cases hyx : y < x
      · simp [hxy, hyx] at h1
      · have : x = y := UInt8.le_antisymm (UInt8.not_lt.1 hyx) (UInt8.not_lt.1 hxy)
        subst this
        simp only [UInt8.lt_irrefl, if_false] at h1
        by_cases hyz : x < z
        · simp [hyz]
        · by_cases hzy : z < x
          · simp [hyz, hzy] at h2
          · simp only [hyz, hzy, if_false] at h2 ⊢
            exact cmpB_trans a b c h1 h2
theorem cmpB_good : GoodCmp Lib.compareBytes := ⟨cmpB_eq, cmpB_anti, cmpB_trans⟩
def cmpBool (x y : Bool) : Int := cmpI (if x then 1 else 0) (if y then 1 else 0)
theorem cmpBool_good : GoodCmp cmpBool where
  eq x y := by cases x <;> cases y <;> decide
  anti x y := by cases x <;> cases y <;> decide
  trans x y z := by cases x <;> cases y <;> cases z <;> decide

theorem cmp_Compare_eq (x y : Int) : cmp_Compare x y = some (cmpI x y) := by
  unfold cmp_Compare cmp_isNaN cmpI
  simp only [bnd, Option.bind_some, ne_eq, not_true_eq_false, decide_false, iteO_false]
  by_cases h : x < y
  · simp [h]
  · by_cases h' : y < x <;> simp [h, h']
theorem compareU_eq (x y : Nat) : compareU x y = some (cmpN x y) := by
  unfold compareU isNaNU cmpN
  simp only [bnd, Option.bind_some, ne_eq, not_true_eq_false, decide_false, iteO_false]
  by_cases h : x < y
  · simp [h]
  · by_cases h' : y < x <;> simp [h, h']
theorem strings_Compare_eq (x y : List UInt8) : strings_Compare x y = some (Lib.compareBytes x y) := rfl
def orL : List Int → Int
  | [] => 0
  | a :: l => corI a (orL l)
theorem cmp_Or_from (l : List Int) : ∀ m k, l.length = k + m → iter (fun q : Nat => cmp_Or_b1 l q) k = some (orL (l.drop k)) := by
  intro m
  induction m with
  | zero =>
    intro k hk
    refine iter_done ?_
    rw [List.drop_of_length_le (by omega)]
    simp only [cmp_Or_b1, decide_eq_false (show ¬ ((k : Nat) : Int) < ((l.length : Nat) : Int) by omega), iteO_false]; rfl
  | succ m ih =>
    intro k hk
    have hlt : k < l.length := by omega
    have hd : l.drop k = nth l k 0 :: l.drop (k + 1) := by
      rw [List.drop_eq_getElem_cons hlt]
      have := getD_some l hlt 0
      rw [List.getElem?_eq_getElem hlt, Option.some.injEq] at this
      rw [this]
    rw [hd, orL, corI]
    by_cases h : nth l k 0 ≠ 0
    · rw [if_pos h]
      refine iter_done ?_
      simp only [cmp_Or_b1, decide_eq_true (show ((k : Nat) : Int) < ((l.length : Nat) : Int) by omega), iteO_true, decide_eq_true h]; rfl
    · rw [if_neg h]
      refine iter_next (s' := k + 1) ?_ (ih (k + 1) (by omega))
      simp only [cmp_Or_b1, decide_eq_true (show ((k : Nat) : Int) < ((l.length : Nat) : Int) by omega), iteO_true, decide_eq_false h]; rfl
theorem cmp_Or_eq (l : List Int) : cmp_Or l = some (orL l) := by
  unfold cmp_Or; rw [cmp_Or_from l l.length 0 (by omega), List.drop_zero]

def cmpTip (x y : Tip) : Int := corI (cmpI x.state y.state) (corI (Lib.compareBytes x.out y.out) 0)
theorem compareTips_eq (x y : Tip) : fst_compareTips x y = some (cmpTip x y) := by
  unfold fst_compareTips
  rw [bnd_some (cmp_Compare_eq _ _), bnd_some (strings_Compare_eq _ _), bnd_some (cmp_Or_eq _)]; rfl
theorem corI_zero (a : Int) : corI a 0 = a := by unfold corI; split <;> omega
theorem cmpTip_good : GoodCmp cmpTip := by
  have := GoodCmp.lex cmpI_good cmpB_good Tip.state Tip.out (fun x y h1 h2 => by cases x; cases y; simp_all)
  have e : cmpTip = fun x y => corI (cmpI x.state y.state) (Lib.compareBytes x.out y.out) := by
    funext x y; unfold cmpTip; rw [corI_zero]
  rw [e]; exact this
def cmpSet (s t : BSet) : Int := corI (cmpN s.a t.a) (corI (cmpN s.b t.b) (corI (cmpN s.c t.c) (cmpN s.d t.d)))
theorem compareUs_four (a b c d a' b' c' d' : Nat) : compareUs [a, b, c, d] [a', b', c', d'] = some (corI (cmpN a a') (corI (cmpN b b') (corI (cmpN c c') (cmpN d d')))) := by
  have st : ∀ (k x y : Nat), k < 4 → nth [a, b, c, d] k 0 = x → nth [a', b', c', d'] k 0 = y → (cmpN x y ≠ 0 → iter (fun q : Nat => compareUs_b1 [a, b, c, d] [a', b', c', d'] q) k = some (cmpN x y)) ∧ (∀ r, cmpN x y = 0 → iter (fun q : Nat => compareUs_b1 [a, b, c, d] [a', b', c', d'] q) (k + 1) = some r → iter (fun q : Nat => compareUs_b1 [a, b, c, d] [a', b', c', d'] q) k = some r) := by
    intro k x y hk hx hy
    have e1 : ((k : Nat) : Int) < (([a, b, c, d].length : Nat) : Int) := by simp; omega
    have e2 : ¬ (([a', b', c', d'].length : Nat) : Int) ≤ ((k : Nat) : Int) := by simp; omega
    refine ⟨fun h => iter_done ?_, fun r h hr => iter_next (s' := k + 1) ?_ hr⟩
    · simp only [compareUs_b1, decide_eq_true e1, iteO_true, decide_eq_false e2, iteO_false]
      rw [grd_mk (by simp; omega), hx, hy, bnd_some (compareU_eq _ _), decide_eq_true h]; rfl
    · simp only [compareUs_b1, decide_eq_true e1, iteO_true, decide_eq_false e2, iteO_false]
      rw [grd_mk (by simp; omega), hx, hy, bnd_some (compareU_eq _ _), h]; rfl
  have fi : iter (fun q : Nat => compareUs_b1 [a, b, c, d] [a', b', c', d'] q) 4 = some 0 := iter_done (by simp [compareUs_b1])
  have go : ∀ (k x y : Nat) (r : Int), k < 4 → nth [a, b, c, d] k 0 = x → nth [a', b', c', d'] k 0 = y → iter (fun q : Nat => compareUs_b1 [a, b, c, d] [a', b', c', d'] q) (k + 1) = some r → iter (fun q : Nat => compareUs_b1 [a, b, c, d] [a', b', c', d'] q) k = some (corI (cmpN x y) r) := by
    intro k x y r hk hx hy hr
    obtain ⟨h1, h2⟩ := st k x y hk hx hy
    by_cases h : cmpN x y = 0
    · rw [show corI (cmpN x y) r = r from by simp [corI, h]]; exact h2 r h hr
    · rw [show corI (cmpN x y) r = cmpN x y from by simp [corI, h]]; exact h1 h
  have h3 := go 3 d d' 0 (by omega) rfl rfl fi
  rw [corI_zero] at h3
  exact go 0 a a' _ (by omega) rfl rfl (go 1 b b' _ (by omega) rfl rfl (go 2 c c' _ (by omega) rfl rfl h3))
theorem cmpSet_good : GoodCmp cmpSet := by
  have h1 := GoodCmp.lex (α := Nat × Nat) cmpN_good cmpN_good Prod.fst Prod.snd (fun x y h1 h2 => Prod.ext h1 h2)
  have h2 := GoodCmp.lex (α := Nat × Nat × Nat) cmpN_good h1 Prod.fst Prod.snd (fun x y h1 h2 => Prod.ext h1 h2)
  have h3 := GoodCmp.lex (α := BSet) cmpN_good h2 BSet.a (fun s => (s.b, s.c, s.d)) (fun x y h1 h2 => by
    cases x; cases y; simp_all)
  exact h3
def cmpArc (x y : Arc) : Int := corI (cmpI x.frm y.frm) (corI (cmpI x.to y.to) (corI (cmpSet x.set y.set) (corI (Lib.compareBytes x.out y.out) (corI (cmpBool x.copy y.copy) 0))))
theorem fst_number_eq (b : Bool) : fst_number b = some (if b then 1 else 0) := by cases b <;> rfl
theorem compareArcs_eq (x y : Arc) : fst_compareArcs x y = some (cmpArc x y) := by
  unfold fst_compareArcs
  rw [bnd_some (cmp_Compare_eq _ _), bnd_some (cmp_Compare_eq _ _), bnd_some (compareUs_four ..), bnd_some (strings_Compare_eq _ _), bnd_some (fst_number_eq _), bnd_some (fst_number_eq _), bnd_some (cmp_Compare_eq _ _), bnd_some (cmp_Or_eq _)]; rfl
theorem cmpArc_good : GoodCmp cmpArc := by
  have h1 := GoodCmp.lex (α := List UInt8 × Bool) cmpB_good cmpBool_good Prod.fst Prod.snd (fun x y h1 h2 => Prod.ext h1 h2)
  have h2 := GoodCmp.lex (α := BSet × List UInt8 × Bool) cmpSet_good h1 Prod.fst Prod.snd (fun x y h1 h2 => Prod.ext h1 h2)
  have h3 := GoodCmp.lex (α := Int × BSet × List UInt8 × Bool) cmpI_good h2 Prod.fst Prod.snd (fun x y h1 h2 => Prod.ext h1 h2)
  have h4 := GoodCmp.lex (α := Arc) cmpI_good h3 Arc.frm (fun s => (s.to, s.set, s.out, s.copy)) (fun x y h1 h2 => by
    cases x; cases y; simp_all)
  have e : cmpArc = fun x y => corI (cmpI x.frm y.frm) (corI (cmpI x.to y.to) (corI (cmpSet x.set y.set) (corI (Lib.compareBytes x.out y.out) (cmpBool x.copy y.copy)))) := by
    funext x y; unfold cmpArc; rw [corI_zero]
  rw [e]; exact h4
end Go.Proofs.Ytpijipnmfkehcaa
