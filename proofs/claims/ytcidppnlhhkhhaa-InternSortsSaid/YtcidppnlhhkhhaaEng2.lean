/- The engine, part two: code, regions and operations over environments. Plain lemmas over any program; no condition. -/
import Derived.Test.YtcidppnlhhkhhaaEng
set_option linter.unusedVariables false
set_option linter.unusedSimpArgs false
namespace Go.E
open Go

structure Ctx where
  P : Program
  w0 : World
  C : List Nat
  σ0 : Store
  n : Nat

abbrev QP := Exit → Env → Store → List Res → Prop

def low (X : Ctx) (Q : QP) : Exit → Act → World → Prop := fun ex a w =>
  ∃ e σ H, St X.n e a ∧ Reach X.w0 X.C X.σ0 σ w H ∧ Q ex e σ H

def TC (X : Ctx) (Q : QP) (c : Code) (e : Env) (σ : Store) (H : List Res) : Prop :=
  ∀ w a, Reach X.w0 X.C X.σ0 σ w H → St X.n e a → c.wp X.P (low X Q) a w

def TL (X : Ctx) (ops : Array Oper) (Q : QP) (l : List Oper) (e : Env) (σ : Store) (H : List Res) : Prop :=
  ∀ w a, Reach X.w0 X.C X.σ0 σ w H → St X.n e a → wpList X.P ops (low X Q) l a w

/-- One operation, whatever stands behind it. -/
def OpOk (X : Ctx) (o : Oper) (e : Env) (σ : Store) (H : List Res) (K : Env → Store → List Res → Prop) : Prop :=
  ∀ w a, Reach X.w0 X.C X.σ0 σ w H → St X.n e a → ∀ (K' : Act → World → Prop) (Q : Exit → Act → World → Prop),
    (∀ e' σ' H' a' w', K e' σ' H' → Reach X.w0 X.C X.σ0 σ' w' H' → St X.n e' a' → K' a' w') → o.wp X.P a w K' Q

def Sees (σ : Store) (H : List Res) (w : World) : Prop := (∀ b o, σ b = some o → w.heap[b]? = some o) ∧ ∀ r ∈ H, r.holds w

theorem Reach.sees {w0 : World} {C : List Nat} {σ0 σ : Store} {w : World} {H : List Res} (h : Reach w0 C σ0 σ w H) : Sees σ H w := ⟨h.fit, h.holds⟩

/-- An operation that only reads. -/
def OpVal (P : Program) (n : Nat) (o : Oper) (e : Env) (σ : Store) (H : List Res) (v : Value) : Prop :=
  ∀ w, Sees σ H w → (execOp (ev e) o).run P w = .ok (.value v) w

theorem Oper.wp_of_run {P : Program} {o : Oper} {a : Act} {w w' : World} {v : Value} {K : Act → World → Prop} {Q : Exit → Act → World → Prop}
    (h : (execOp a.eval o).run P w = .ok (.value v) w') (k : K (a.put o.dst v) w') : o.wp P a w K Q := by
  unfold Oper.wp; rw [h]; exact k

theorem Oper.wp_of_skip {P : Program} {o : Oper} {a : Act} {w w' : World} {K : Act → World → Prop} {Q : Exit → Act → World → Prop}
    (h : (execOp a.eval o).run P w = .ok .skip w') (k : K (a.put o.dst undef) w') : o.wp P a w K Q := by
  unfold Oper.wp; rw [h]; exact k

theorem OpVal.ok {X : Ctx} {o : Oper} {e : Env} {σ : Store} {H : List Res} {v : Value} {d : Nat} {K : Env → Store → List Res → Prop}
    (h : OpVal X.P X.n o e σ H v) (hd : o.dst = some d) (hn : Nat.blt d X.n = true) (k : K (upd e d v) σ H) : OpOk X o e σ H K := by
  intro w a hw ha K' Q hK
  refine Oper.wp_of_run (w' := w) (v := v) (by rw [ha.eval']; exact h w hw.sees) (hK _ _ _ _ _ k hw ?_)
  rw [hd]; exact ha.put (by simpa [Nat.blt_eq] using hn) v

section rules
variable {X : Ctx} {ops : Array Oper} {Q : QP} {e : Env} {σ : Store} {H : List Res} {o : Oper} {rest : List Oper}

theorem TL.nil (h : Q .normal e σ H) : TL X ops Q [] e σ H := fun w a hw ha => ⟨e, σ, H, ha, hw, h⟩

theorem TL.op (hg : o.guard = none) (h : OpOk X o e σ H (TL X ops Q rest)) : TL X ops Q (o :: rest) e σ H := fun w a hw ha =>
  wpList_plain hg fun K hK => h w a hw ha K (low X Q) fun e' σ' H' a' w' hk hw' ha' => hK a' w' (hk w' a' hw' ha')

theorem yielded_of {n : Nat} {e : Env} {a : Act} (ha : St n e a) {ops : Array Oper} {j dj : Nat} {oj : Oper} (hj : ops[j]? = some oj) (hd : oj.dst = some dj) (hn : Nat.blt dj n = true) :
    yielded ops a.tmps j = match e dj with | .bool b => some b | _ => none := by
  have hlt : dj < a.tmps.size := by rw [ha.size]; simpa [Nat.blt_eq] using hn
  have hg := ha.get dj
  rw [Array.getD_eq_getD_getElem?, Array.getElem?_eq_getElem hlt, Option.getD_some] at hg
  unfold yielded
  rw [hj]
  simp only [Option.bind_some, hd, Array.getElem?_eq_getElem hlt, hg]
  generalize e dj = v
  cases v <;> rfl

/-- A guarded operation that is wanted. -/
theorem TL.gon {j dj : Nat} {b : Bool} {oj : Oper} (hg : o.guard = some (j, b)) (hj : ops[j]? = some oj) (hd : oj.dst = some dj) (hn : Nat.blt dj X.n = true) (hb : e dj = .bool b)
    (h : OpOk X o e σ H (TL X ops Q rest)) : TL X ops Q (o :: rest) e σ H := fun w a hw ha =>
  wpList_step fun K hK => by
    rw [if_pos (by simp [Region.wanted, hg, yielded_of ha hj hd hn, hb])]
    exact h w a hw ha K (low X Q) fun e' σ' H' a' w' hk hw' ha' => hK a' w' (hk w' a' hw' ha')

/-- A guarded operation that is passed over. -/
theorem TL.goff {j dj d : Nat} {b b' : Bool} {oj : Oper} (hg : o.guard = some (j, b)) (hj : ops[j]? = some oj) (hd : oj.dst = some dj) (hn : Nat.blt dj X.n = true) (hb : e dj = .bool b') (hbb : b' = !b)
    (ho : o.dst = some d) (hdn : Nat.blt d X.n = true) (h : TL X ops Q rest (upd e d undef) σ H) : TL X ops Q (o :: rest) e σ H := fun w a hw ha =>
  wpList_step fun K hK => by
    rw [if_neg (by simp [Region.wanted, hg, yielded_of ha hj hd hn, hb, hbb])]
    rw [ho]
    exact hK _ _ (h w _ hw (ha.put (by simpa [Nat.blt_eq] using hdn) undef))

theorem TL.goff' {j dj d : Nat} {b : Bool} {oj : Oper} (hg : o.guard = some (j, b)) (hj : ops[j]? = some oj) (hd : oj.dst = some dj) (hn : Nat.blt dj X.n = true) (hb : e dj = undef)
    (ho : o.dst = some d) (hdn : Nat.blt d X.n = true) (h : TL X ops Q rest (upd e d undef) σ H) : TL X ops Q (o :: rest) e σ H := fun w a hw ha =>
  wpList_step fun K hK => by
    rw [if_neg (by simp [Region.wanted, hg, yielded_of ha hj hd hn, hb, undef])]
    rw [ho]
    exact hK _ _ (h w _ hw (ha.put (by simpa [Nat.blt_eq] using hdn) undef))

/-! ### Code -/
variable {c c1 c2 : Code}

theorem TC.region {id : Nat} {l : List Oper} (h : TL X l.toArray Q l e σ H) : TC X Q (.region id l.toArray false) e σ H := fun w a hw ha =>
  wp_region_lit (h w a hw ha)

theorem TC.weak {Q' : QP} (h : TC X Q c e σ H) (hq : ∀ ex e σ H, Q ex e σ H → Q' ex e σ H) : TC X Q' c e σ H := fun w a hw ha =>
  Go.wp_mono (h w a hw ha) fun ex a' w' ⟨e', σ', H', h1, h2, h3⟩ => ⟨e', σ', H', h1, h2, hq _ _ _ _ h3⟩

@[reducible] def seqQ (K : Env → Store → List Res → Prop) (Q : QP) : QP := fun ex => match ex with
  | .normal => K
  | ex => Q ex

theorem TC.seq (h : TC X (seqQ (TC X Q c2) Q) c1 e σ H) : TC X Q (.seq c1 c2) e σ H := fun w a hw ha =>
  Go.wp_seq (Go.wp_mono (h w a hw ha) fun ex a' w' ⟨e', σ', H', h1, h2, h3⟩ => by
    cases ex
    case normal => exact h3 w' a' h2 h1
    all_goals exact ⟨e', σ', H', h1, h2, h3⟩)

/-- A cut: what holds between two parts. -/
theorem TC.cut (J : Env → Store → List Res → Prop) (h : TC X (seqQ J Q) c1 e σ H) (k : ∀ e' σ' H', J e' σ' H' → TC X Q c2 e' σ' H') : TC X Q (.seq c1 c2) e σ H :=
  TC.seq (h.weak fun ex e' σ' H' hq => by cases ex <;> first | exact k _ _ _ hq | exact hq)

theorem TC.skip (h : Q .normal e σ H) : TC X Q .skip e σ H := fun w a hw ha => Go.wp_skip ⟨e, σ, H, ha, hw, h⟩
theorem TC.exit {id : Nat} (h : Q (.exit id) e σ H) : TC X Q (.exit id) e σ H := fun w a hw ha => Go.wp_exit ⟨e, σ, H, ha, hw, h⟩
theorem TC.ret (h : Q .ret e σ H) : TC X Q .ret e σ H := fun w a hw ha => Go.wp_ret ⟨e, σ, H, ha, hw, h⟩

theorem TC.cond {x : Operand} {t : Bool} (hc : ev e x = .bool t) (ht : t = true → TC X Q c1 e σ H) (hf : t = false → TC X Q c2 e σ H) : TC X Q (.cond x c1 c2) e σ H := fun w a hw ha =>
  Go.wp_cond_split (t := t) (by rw [ha.eval]; exact hc) (fun h => ht h w a hw ha) (fun h => hf h w a hw ha)

theorem TC.condD {x : Operand} {p : Prop} [Decidable p] (hc : ev e x = .bool (decide p)) (ht : p → TC X Q c1 e σ H) (hf : ¬ p → TC X Q c2 e σ H) : TC X Q (.cond x c1 c2) e σ H :=
  TC.cond hc (fun h => ht (of_decide_eq_true h)) (fun h => hf (of_decide_eq_false h))

@[reducible] def blkQ (id : Nat) (Q : QP) : QP := fun ex => match ex with
  | .exit i => if i = id then Q .normal else Q (.exit i)
  | ex => Q ex

theorem TC.block {id : Nat} (h : TC X (blkQ id Q) c e σ H) : TC X Q (.block id c) e σ H := fun w a hw ha =>
  Go.wp_block (Go.wp_mono (h w a hw ha) fun ex a' w' ⟨e', σ', H', h1, h2, h3⟩ => by
    cases ex with
    | exit i =>
      simp only [Exit.inBlock]
      by_cases hi : i = id
      · rw [if_pos hi]; simp only [blkQ, if_pos hi] at h3; exact ⟨e', σ', H', h1, h2, h3⟩
      · rw [if_neg hi]; simp only [blkQ, if_neg hi] at h3; exact ⟨e', σ', H', h1, h2, h3⟩
    | normal => exact ⟨e', σ', H', h1, h2, h3⟩
    | goto l => exact ⟨e', σ', H', h1, h2, h3⟩
    | ret => exact ⟨e', σ', H', h1, h2, h3⟩
    | panic l => exact ⟨e', σ', H', h1, h2, h3⟩
    | outgrown => exact ⟨e', σ', H', h1, h2, h3⟩)

theorem TC.exitHere {id : Nat} (h : Q .normal e σ H) : blkQ id Q (.exit id) e σ H := by simp only [blkQ, if_true]; exact h
theorem TC.exitOn {id i : Nat} (hi : Nat.beq i id = false) (h : Q (.exit i) e σ H) : blkQ id Q (.exit i) e σ H := by
  have : i ≠ id := fun hx => by simp [hx] at hi
  simp only [blkQ, this, if_false]; exact h

theorem least_of {p : Nat → Prop} (h : ∃ k, p k) : ∃ k, p k ∧ ∀ j, p j → k ≤ j := by
  obtain ⟨k, hk⟩ := h
  induction k using Nat.strongRecOn with
  | _ k ih =>
    by_cases hx : ∃ j, j < k ∧ p j
    · obtain ⟨j, hj, hp⟩ := hx
      exact ih j hj hp
    · exact ⟨k, hk, fun j hj => Nat.le_of_not_lt fun hlt => hx ⟨j, hlt, hj⟩⟩

/-- A loop: `I k` holds at the head of each round; the measure is the number itself, falling. -/
theorem TC.loop (I : Nat → Env → Store → List Res → Prop) (k0 : Nat) (h0 : I k0 e σ H)
    (round : ∀ k e' σ' H', I k e' σ' H' → TC X (seqQ (fun e'' σ'' H'' => ∃ k', k' < k ∧ I k' e'' σ'' H'') Q) c e' σ' H') : TC X Q (.loop c) e σ H := by
  intro w a hw ha
  classical
  have hex : ∃ k, ∃ e' σ' H', St X.n e' a ∧ Reach X.w0 X.C X.σ0 σ' w H' ∧ I k e' σ' H' := ⟨k0, e, σ, H, ha, hw, h0⟩
  let G : Act → World → Nat → Prop := fun a w k => ∃ e' σ' H', St X.n e' a ∧ Reach X.w0 X.C X.σ0 σ' w H' ∧ I k e' σ' H'
  let μ : Act → World → Nat := fun a w => if h : ∃ k, G a w k then Classical.choose (least_of h) else 0
  have hμ : ∀ a w, (∃ k, G a w k) → G a w (μ a w) ∧ ∀ j, G a w j → μ a w ≤ j := fun a w h => by
    have := Classical.choose_spec (least_of h)
    simp only [μ, h, dif_pos]; exact this
  refine Go.wp_loop (fun a w => ∃ k, G a w k) μ hex fun a w hI => ?_
  obtain ⟨⟨e', σ', H', h1, h2, h3⟩, hmin⟩ := hμ a w hI
  refine Go.wp_mono (round _ e' σ' H' h3 w a h2 h1) fun ex a' w' ⟨e'', σ'', H'', k1, k2, k3⟩ => ?_
  cases ex
  case normal =>
    obtain ⟨k', hlt, hk'⟩ := k3
    have hg : G a' w' k' := ⟨e'', σ'', H'', k1, k2, hk'⟩
    exact ⟨⟨k', hg⟩, Nat.lt_of_le_of_lt ((hμ a' w' ⟨k', hg⟩).2 k' hg) hlt⟩
  all_goals exact ⟨e'', σ'', H'', k1, k2, k3⟩

/-! ### Resources, at code and at operations -/
theorem TC.sub {H' : List Res} (hs : H'.Sublist H) (h : TC X Q c e σ H') : TC X Q c e σ H := fun w a hw ha => h w a (hw.sub hs) ha
theorem TC.perm {H' : List Res} (hs : H'.Perm H) (h : TC X Q c e σ H') : TC X Q c e σ H := fun w a hw ha => h w a (hw.perm hs) ha
theorem TL.sub {H' : List Res} {l : List Oper} (hs : H'.Sublist H) (h : TL X ops Q l e σ H') : TL X ops Q l e σ H := fun w a hw ha => h w a (hw.sub hs) ha
theorem TL.perm {H' : List Res} {l : List Oper} (hs : H'.Perm H) (h : TL X ops Q l e σ H') : TL X ops Q l e σ H := fun w a hw ha => h w a (hw.perm hs) ha

theorem front_perm {α : Type} {H F : List α} {r : α} {i : Nat} (hi : H[i]? = some r) (hF : H.eraseIdx i = F) : (r :: F).Perm H := by
  subst hF
  induction H generalizing i with
  | nil => simp at hi
  | cons x H ih =>
    cases i with
    | zero => simp at hi; subst hi; exact List.Perm.refl _
    | succ i => simp at hi; exact (List.Perm.swap x r _).trans ((ih hi).cons x)

theorem TC.front (i : Nat) {r : Res} {F : List Res} (hi : H[i]? = some r) (hF : H.eraseIdx i = F) (h : TC X Q c e σ (r :: F)) : TC X Q c e σ H := TC.perm (front_perm hi hF) h
theorem TL.front (i : Nat) {r : Res} {F : List Res} {l : List Oper} (hi : H[i]? = some r) (hF : H.eraseIdx i = F) (h : TL X ops Q l e σ (r :: F)) : TL X ops Q l e σ H := TL.perm (front_perm hi hF) h

end rules

/-! ### A function's contract -/
def argEnv (args : List Value) : Env := fun t => (args[t]?).getD undef

/-- What the results read as. -/
def RetVal (P : Program) (fn : Func) (n : Nat) (e : Env) (H : List Res) (r : Value) : Prop :=
  ∀ w a, St n e a → (∀ s ∈ H, s.holds w) → (results fn a.tmps).run P w = .ok r w

structure RetOk (P : Program) (fn : Func) (n : Nat) (Post : Value → Store → List Res → Prop) (ex : Exit) (e : Env) (σ : Store) (H : List Res) : Prop where
  ex : ex = .ret ∨ ex = .normal
  val : ∃ r H', RetVal P fn n e H r ∧ H'.Sublist H ∧ Post r σ H'

@[reducible] def retQ (P : Program) (fn : Func) (n : Nat) (Post : Value → Store → List Res → Prop) : QP := RetOk P fn n Post

theorem Con.mk {P : Program} {f : FuncId} {fn : Func} {c : Code} {args : List Value} {n : Nat} {σ : Store} {H : List Res} {Post : Value → Store → List Res → Prop}
    (hf : P.funcs[f]? = some fn) (hb : fn.body = some c) (hn : fn.ntmps = n) (ha : Nat.ble args.length n = true)
    (h : ∀ w0, TC ⟨P, w0, blks H, σ, n⟩ (retQ P fn n Post) c (argEnv args) σ H) : Con P f args.toArray σ H Post := by
  intro w hw
  refine calls_of_wp hf hb (Go.wp_mono (h w w _ hw ⟨rfl, ?_, ?_⟩) ?_)
  · have := Nat.le_of_ble_eq_true ha
    simp [hn]; omega
  · intro t
    have := Nat.le_of_ble_eq_true ha
    simp only [Array.getD_eq_getD_getElem?, Array.getElem?_append, argEnv, List.getElem?_toArray, List.size_toArray, Array.getElem?_replicate]
    split
    · rfl
    · rename_i hlt
      rw [List.getElem?_eq_none (by omega)]
      split <;> rfl
  · rintro ex a w' ⟨e', σ', H', h1, h2, ⟨hex, r, H'', h3, h4, h5⟩⟩
    have hr := h3 w' a h1 h2.holds
    have hR := h2.sub h4
    rcases hex with rfl | rfl
    · exact ⟨h1.defers, r, hr, r, σ', H'', rfl, h5, hR⟩
    · exact ⟨h1.defers, r, hr, r, σ', H'', rfl, h5, hR⟩

section ret
variable {P : Program} {fn : Func} {n : Nat} {Post : Value → Store → List Res → Prop} {e : Env} {σ : Store} {H : List Res}

theorem RetOk.of {ex : Exit} {r : Value} (H' : List Res) (hex : ex = .ret ∨ ex = .normal) (h : RetVal P fn n e H r) (hs : H'.Sublist H) (hp : Post r σ H') : RetOk P fn n Post ex e σ H := ⟨hex, r, H', h, hs, hp⟩
theorem RetVal.eq {r r' : Value} (h : RetVal P fn n e H r) (hr : r = r') : RetVal P fn n e H r' := hr ▸ h

theorem RetVal.none (hr : fn.results = #[]) : RetVal P fn n e H (.tuple #[]) := fun w a ha _ => results_none hr _ _ _
theorem RetVal.one {t : Nat} (hr : fn.results = #[.tmp t]) : RetVal P fn n e H (e t) := fun w a ha _ => by
  rw [results_tmp hr, ha.get]
theorem RetVal.two {t u : Nat} (hr : fn.results = #[.tmp t, .tmp u]) : RetVal P fn n e H (.tuple #[e t, e u]) := fun w a ha _ => by
  rw [results_tmp2 hr, ha.get, ha.get]
theorem RetVal.three {t u v : Nat} (hr : fn.results = #[.tmp t, .tmp u, .tmp v]) : RetVal P fn n e H (.tuple #[e t, e u, e v]) := fun w a ha _ => by
  simp [results, hr, ← ha.get]
end ret

end Go.E
