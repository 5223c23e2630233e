/- The decompiler's words: partial answers, rounds, and the rules by which a walk follows them. Plain lemmas over any program; no condition. -/
import Derived.Test.YtcidppnlhhkhhaaDec0
import Derived.Scope
set_option linter.unusedVariables false
set_option linter.unusedSimpArgs false
namespace Go.E
open Go

/-! ### Partial answers -/
def grd {α : Type} (p : Prop) [Decidable p] (t : Option α) : Option α := if p then t else none
theorem grd_c {α : Type} {p : Prop} [Decidable p] {t : Option α} {r : α} (h : grd p t = some r) : p := by
  unfold grd at h; split at h
  · assumption
  · cases h
theorem grd_t {α : Type} {p : Prop} [Decidable p] {t : Option α} {r : α} (h : grd p t = some r) : t = some r := by
  unfold grd at h; split at h
  · exact h
  · cases h
theorem grd_mk {α : Type} {p : Prop} [Decidable p] {t : Option α} (hp : p) : grd p t = t := if_pos hp
def bnd {α β : Type} (s : Option α) (f : α → Option β) : Option β := s.bind f
theorem bnd_e {α β : Type} {s : Option α} {f : α → Option β} {r : β} (h : bnd s f = some r) : ∃ x, s = some x ∧ f x = some r := by
  cases s with
  | none => cases h
  | some x => exact ⟨x, rfl, h⟩
theorem bnd_some {α β : Type} {s : Option α} {f : α → Option β} {x : α} (h : s = some x) : bnd s f = f x := by rw [h]; rfl
def iteO {α : Type} (b : Bool) (t e : Option α) : Option α := match b with | true => t | false => e
theorem iteO_t {α : Type} {b : Bool} {t e : Option α} {r : Option α} (hb : b = true) (h : iteO b t e = r) : t = r := by subst hb; exact h
theorem iteO_f {α : Type} {b : Bool} {t e : Option α} {r : Option α} (hb : b = false) (h : iteO b t e = r) : e = r := by subst hb; exact h
@[simp] theorem iteO_true {α : Type} (t e : Option α) : iteO true t e = t := rfl
@[simp] theorem iteO_false {α : Type} (t e : Option α) : iteO false t e = e := rfl

section iter
variable {S R : Type}
def iterN (step : S → Option (S ⊕ R)) : Nat → S → Option R
  | 0, _ => none
  | n + 1, s => match step s with
    | none => none
    | some (.inl s') => iterN step n s'
    | some (.inr r) => some r
theorem iterN_mono {step : S → Option (S ⊕ R)} : ∀ {n : Nat} {s : S} {r : R}, iterN step n s = some r → iterN step (n + 1) s = some r
  | 0, _, _, h => by cases h
  | n + 1, s, r, h => by
    rw [iterN] at h ⊢
    cases hs : step s with
    | none => rw [hs] at h; cases h
    | some z =>
      rw [hs] at h
      cases z with
      | inl s' => exact iterN_mono (n := n) h
      | inr r' => exact h
theorem iterN_le {step : S → Option (S ⊕ R)} {n m : Nat} {s : S} {r : R} (h : iterN step n s = some r) (hm : n ≤ m) : iterN step m s = some r := by
  induction hm with
  | refl => exact h
  | step _ ih => exact iterN_mono ih
open Classical in
noncomputable def iter (step : S → Option (S ⊕ R)) (s : S) : Option R := if h : ∃ n r, iterN step n s = some r then some h.choose_spec.choose else none
theorem iter_iff {step : S → Option (S ⊕ R)} {s : S} {r : R} : iter step s = some r ↔ ∃ n, iterN step n s = some r := by
  unfold iter
  constructor
  · intro h
    split at h
    · rename_i hx
      have := hx.choose_spec.choose_spec
      cases h
      exact ⟨_, this⟩
    · cases h
  · rintro ⟨n, hn⟩
    have hx : ∃ n r, iterN step n s = some r := ⟨n, r, hn⟩
    rw [dif_pos hx]
    have h3 := hx.choose_spec.choose_spec
    rcases Nat.le_total n hx.choose with h | h
    · exact h3.symm.trans (iterN_le hn h)
    · exact (iterN_le h3 h).symm.trans hn
open Classical in
noncomputable def rounds (step : S → Option (S ⊕ R)) (s : S) : Nat := if h : ∃ n, (iterN step n s).isSome = true then (least_of h).choose else 0
theorem rounds_spec {step : S → Option (S ⊕ R)} {s : S} {r : R} (h : iter step s = some r) : iterN step (rounds step s) s = some r ∧ ∀ n r', iterN step n s = some r' → rounds step s ≤ n := by
  obtain ⟨n, hn⟩ := iter_iff.1 h
  have hx : ∃ n, (iterN step n s).isSome = true := ⟨n, by rw [hn]; rfl⟩
  unfold rounds
  rw [dif_pos hx]
  have hc := (least_of hx).choose_spec
  refine ⟨?_, fun m r' hm => hc.2 m (by rw [hm]; rfl)⟩
  obtain ⟨r', hr'⟩ := Option.isSome_iff_exists.1 hc.1
  rw [hr', ← h]
  exact (iter_iff.2 ⟨_, hr'⟩).symm

/-- What a round's outcome is for. -/
structure Rd (step : S → Option (S ⊕ R)) (r : R) (m : Nat) (z : S ⊕ R) : Prop where
  next : ∀ s', z = .inl s' → iter step s' = some r ∧ rounds step s' < m
  done : ∀ r', z = .inr r' → r' = r
theorem iter_e {step : S → Option (S ⊕ R)} {s : S} {r : R} (h : iter step s = some r) : ∃ z, step s = some z ∧ Rd step r (rounds step s) z := by
  obtain ⟨h1, h2⟩ := rounds_spec h
  cases hn : rounds step s with
  | zero => rw [hn] at h1; cases h1
  | succ n =>
    rw [hn, iterN] at h1
    cases hs : step s with
    | none => rw [hs] at h1; cases h1
    | some z =>
      rw [hs] at h1
      cases z with
      | inl s' =>
        have h1 : iterN step n s' = some r := h1
        have hi : iter step s' = some r := iter_iff.2 ⟨n, h1⟩
        refine ⟨_, rfl, ⟨fun s'' he => ?_, fun r' he => (by cases he)⟩⟩
        cases he
        have := (rounds_spec hi).2 n r h1
        exact ⟨hi, by omega⟩
      | inr r' =>
        have h1 : some r' = some r := h1
        cases h1
        exact ⟨_, rfl, ⟨fun s'' he => (by cases he), fun r'' he => (by cases he; rfl)⟩⟩
theorem iter_next {step : S → Option (S ⊕ R)} {s s' : S} {r : R} (hs : step s = some (.inl s')) (h : iter step s' = some r) : iter step s = some r := by
  obtain ⟨n, hn⟩ := iter_iff.1 h
  exact iter_iff.2 ⟨n + 1, by rw [iterN, hs]; exact hn⟩
theorem iter_done {step : S → Option (S ⊕ R)} {s : S} {r : R} (hs : step s = some (.inr r)) : iter step s = some r :=
  iter_iff.2 ⟨1, by rw [iterN, hs]⟩
/-- Rounds, by an invariant and a measure. -/
theorem iter_run {step : S → Option (S ⊕ R)} (I : S → Prop) (P : R → Prop) (μ : S → Nat)
    (hs : ∀ s, I s → (∃ s', step s = some (.inl s') ∧ I s' ∧ μ s' < μ s) ∨ ∃ r, step s = some (.inr r) ∧ P r) (s : S) (h0 : I s) : ∃ r, iter step s = some r ∧ P r := by
  have key : ∀ n s, μ s = n → I s → ∃ r, iter step s = some r ∧ P r := by
    intro n
    induction n using Nat.strongRecOn with
    | _ n ih =>
      intro s hn hI
      rcases hs s hI with ⟨s', h1, h2, h3⟩ | ⟨r, h1, h2⟩
      · obtain ⟨r, h4, h5⟩ := ih (μ s') (hn ▸ h3) s' rfl h2
        exact ⟨r, iter_next h1 h4, h5⟩
      · exact ⟨r, iter_done h1, h2⟩
  exact key _ s rfl h0
/-- Rounds whose states are known one by one. -/
theorem iter_seq {step : S → Option (S ⊕ R)} {r : R} (f : Nat → S) (n : Nat) (hs : ∀ k, k < n → step (f k) = some (.inl (f (k + 1)))) (hd : step (f n) = some (.inr r)) : ∀ k, k ≤ n → iter step (f k) = some r := by
  intro k hk
  obtain ⟨m, rfl⟩ : ∃ m, k = n - m := ⟨n - k, by omega⟩
  induction m with
  | zero => exact iter_done hd
  | succ m ih =>
    by_cases h : n - (m + 1) < n
    · by_cases hm : m < n
      · have := hs (n - (m + 1)) h
        rw [show n - (m + 1) + 1 = n - m from by omega] at this
        exact iter_next this (ih (by omega))
      · have : n - (m + 1) = n - m := by omega
        rw [this]; exact ih (by omega)
    · have : n - (m + 1) = n - m := by omega
      rw [this]; exact ih (by omega)

/-- Out of the rounds. -/
def fin (t : Option R) : Option (S ⊕ R) := match t with | none => none | some r => some (.inr r)
def nxt (s : S) : Option (S ⊕ R) := some (.inl s)
@[simp] theorem fin_some (r : R) : (fin (some r) : Option (S ⊕ R)) = some (.inr r) := rfl
theorem fin_x {step : S → Option (S ⊕ R)} {r : R} {m : Nat} {z : S ⊕ R} {t : Option R} (hR : Rd step r m z) (h : fin t = some z) : t = some r := by
  cases t with
  | none => cases h
  | some r' => simp only [fin] at h; cases h; rw [hR.done r' rfl]
theorem nxt_x {step : S → Option (S ⊕ R)} {r : R} {m : Nat} {z : S ⊕ R} {s : S} (hR : Rd step r m z) (h : nxt s = some z) : iter step s = some r ∧ rounds step s < m := by
  simp only [nxt] at h; cases h; exact hR.next s rfl
end iter

/-! ### Some of the resources -/
def Sub (F H : List Res) : Prop := ∃ P : List Res, P.Perm H ∧ F.Sublist P
theorem Sub.refl (H : List Res) : Sub H H := ⟨H, List.Perm.refl _, List.Sublist.refl _⟩
theorem Sub.pre {F H : List Res} (k : Nat) (h : H.take k = F) : Sub F H := ⟨H, List.Perm.refl _, h ▸ List.take_sublist k H⟩
theorem Sub.nil (H : List Res) : Sub [] H := ⟨H, List.Perm.refl _, List.nil_sublist _⟩
theorem Sub.front {F H G : List Res} {r : Res} (i : Nat) (hi : H[i]? = some r) (hG : H.eraseIdx i = G) (h : Sub F (r :: G)) : Sub F H := by
  obtain ⟨P, h1, h2⟩ := h
  exact ⟨P, h1.trans (front_perm hi hG), h2⟩
theorem Reach.ofSub {w0 : World} {C : List Nat} {σ0 σ : Store} {w : World} {F H : List Res} (h : Reach w0 C σ0 σ w H) (hs : Sub F H) : Reach w0 C σ0 σ w F := by
  obtain ⟨P, h1, h2⟩ := hs
  exact (h.perm h1).sub h2

section rules
variable {X : Ctx} {ops : Array Oper} {Q : QP} {e : Env} {σ : Store} {H F : List Res} {c c1 c2 : Code} {l : List Oper}
theorem TC.ofSub (hs : Sub F H) (h : TC X Q c e σ F) : TC X Q c e σ H := fun w a hw ha => h w a (hw.ofSub hs) ha
theorem TL.ofSub (hs : Sub F H) (h : TL X ops Q l e σ F) : TL X ops Q l e σ H := fun w a hw ha => h w a (hw.ofSub hs) ha

theorem Reach.back {w0 : World} {C : List Nat} {σ0 σ' : Store} {w : World} (h : Reach w0 C σ0 σ' w H) : Reach w0 C σ0 σ0 w H :=
  ⟨h.os, h.tape, h.output, h.size, h.frame, Store.le.refl _, fun b o hb => h.fit b o (h.le b o hb), fun b o hb => .inl hb, h.holds, h.own, h.nodup, (fun r hr b hb => by
    cases hs : σ0 b with
    | none => rfl
    | some o => have h1 := h.apart r hr b hb; rw [h.le b o hs] at h1; cases h1), h.drawn⟩
theorem TC.back (h : TC X Q c e X.σ0 H) : TC X Q c e σ H := fun w a hw ha => h w a hw.back ha
theorem TC.weakR (h : TC X (fun ex e σ H => ∃ F, Sub F H ∧ Q ex e σ F) c e σ H) : TC X Q c e σ H := fun w a hw ha =>
  Go.wp_mono (h w a hw ha) fun ex a' w' ⟨e', σ', H', h1, h2, F, h3, h4⟩ => ⟨e', σ', F, h1, h2.ofSub h3, h4⟩

/-- What a cut is left with. -/
def CutP {α : Type} (M : List Nat) (e : Env) (S : α → List (Nat × Value)) (Hf : α → List Res) (σf : α → Store) (I : α → Prop) : Env → Store → List Res → Prop :=
  fun e' σ' H' => Agr M e' e ∧ ∃ a, I a ∧ Has e' (S a) ∧ Sub (Hf a) H' ∧ σ' = σf a

theorem TC.subQ {J J' : Env → Store → List Res → Prop} (hJ : ∀ e σ H, J e σ H → ∃ F, Sub F H ∧ J' e σ F) (h : TC X (seqQ J Q) c e σ H) : TC X (seqQ J' Q) c e σ H := fun w a hw ha =>
  Go.wp_mono (h w a hw ha) fun ex a' w' ⟨e', σ', H', h1, h2, h3⟩ => by
    cases ex
    case normal =>
      obtain ⟨F, hF, hj⟩ := hJ _ _ _ h3
      exact ⟨e', σ', F, h1, h2.ofSub hF, hj⟩
    all_goals exact ⟨e', σ', H', h1, h2, h3⟩

theorem TC.cutG {α : Type} (M : List Nat) (S : α → List (Nat × Value)) (Hf : α → List Res) (σf : α → Store) (I : α → Prop)
    (h : TC X (seqQ (CutP M e S Hf σf I) Q) c1 e σ H) (k : ∀ (a : α) (j : Env), I a → TC X Q c2 (upds (mask M j e) (S a)) (σf a) (Hf a)) : TC X Q (.seq c1 c2) e σ H := by
  refine TC.cut (fun e' σ' H' => Agr M e' e ∧ ∃ a, I a ∧ Has e' (S a) ∧ H' = Hf a ∧ σ' = σf a) (TC.subQ ?_ h) ?_
  · rintro e' σ' H' ⟨h1, a, h2, h3, h4, h5⟩
    exact ⟨_, h4, h1, a, h2, h3, rfl, h5⟩
  · rintro e' σ' H' ⟨hA, a, hI, hs, rfl, rfl⟩
    rw [env_form hA hs]
    exact k a e' hI
/-- A cut behind two parts. -/
theorem TC.cutG2 {α : Type} {c0 : Code} (M : List Nat) (S : α → List (Nat × Value)) (Hf : α → List Res) (σf : α → Store) (I : α → Prop)
    (h : TC X (seqQ (TC X (seqQ (CutP M e S Hf σf I) Q) c1) Q) c0 e σ H) (k : ∀ (a : α) (j : Env), I a → TC X Q c2 (upds (mask M j e) (S a)) (σf a) (Hf a)) : TC X Q (.seq c0 (.seq c1 c2)) e σ H := by
  refine TC.seq (h.weak fun ex e' σ' H' hq => ?_)
  cases ex
  case normal =>
    refine TC.cut (fun e' σ' H' => Agr M e' e ∧ ∃ a, I a ∧ Has e' (S a) ∧ H' = Hf a ∧ σ' = σf a) (TC.subQ ?_ hq) ?_
    · rintro e' σ' H' ⟨h1, a, h2, h3, h4, h5⟩
      exact ⟨_, h4, h1, a, h2, h3, rfl, h5⟩
    · rintro e' σ' H' ⟨hA, a, hI, hs, rfl, rfl⟩
      rw [env_form hA hs]
      exact k a e' hI
  all_goals exact hq

def LoopP {α : Type} (M : List Nat) (e : Env) (S : α → List (Nat × Value)) (Hf : α → List Res) (σf : α → Store) (I : α → Prop) (μ : α → Nat) (m : Nat) : Env → Store → List Res → Prop :=
  fun e' σ' H' => Agr M e' e ∧ ∃ a, μ a < m ∧ I a ∧ Has e' (S a) ∧ Sub (Hf a) H' ∧ σ' = σf a

theorem TC.loopG {α : Type} (M : List Nat) (S : α → List (Nat × Value)) (Hf : α → List Res) (σf : α → Store) (I : α → Prop) (μ : α → Nat) (a0 : α)
    (hH : Sub (Hf a0) H) (hσ : σ = σf a0) (hS : Has e (S a0)) (h0 : I a0)
    (round : ∀ (a : α) (j : Env), I a → TC X (seqQ (LoopP M e S Hf σf I μ (μ a)) Q) c (upds (mask M j e) (S a)) (σf a) (Hf a)) : TC X Q (.loop c) e σ H := by
  refine TC.ofSub hH ?_
  refine TC.loopF M S Hf σf I μ a0 h0 hS rfl hσ fun a j hI => TC.subQ ?_ (round a j hI)
  rintro e' σ' H' ⟨h1, a', h2, h3, h4, h5, h6⟩
  exact ⟨_, h5, h1, a', h2, h3, h4, rfl, h6⟩

@[reducible] def scpQ (Q : QP) : QP := fun ex => match ex with
  | .goto _ => fun _ _ _ => False
  | ex => Q ex
theorem TC.scope (h : TC X (scpQ Q) c e σ H) : TC X Q (.scope c) e σ H := fun w a hw ha =>
  Go.wp_scope_straight (Go.wp_mono (h w a hw ha) fun ex a' w' ⟨e', σ', H', h1, h2, h3⟩ => by
    cases ex
    case goto l => exact h3.elim
    all_goals exact ⟨e', σ', H', h1, h2, h3⟩)
theorem TC.label {n : Nat} (h : Q .normal e σ H) : TC X Q (.label n) e σ H := fun w a hw ha => Go.wp_label ⟨e, σ, H, ha, hw, h⟩
theorem P.n (h : Q .normal e σ H) : scpQ Q .normal e σ H := h
theorem P.x {i : Nat} (h : Q (.exit i) e σ H) : scpQ Q (.exit i) e σ H := h
theorem P.r (h : Q .ret e σ H) : scpQ Q .ret e σ H := h
end rules

/-! ### Results -/
inductive RVs (P : Program) (n : Nat) (e : Env) (H : List Res) : List ResultVar → List Value → Prop
  | nil : RVs P n e H [] []
  | tmp {t : Nat} {v : Value} {rs : List ResultVar} {vs : List Value} (h : e t = v) (k : RVs P n e H rs vs) : RVs P n e H (.tmp t :: rs) (v :: vs)
  | agg {t T b s i : Nat} {E : TypeId} {cs : Array Value} {rs : List ResultVar} {vs : List Value} (hA : aggOf P T = some true) (hz : szOf P T = some s) (ht : e t = loc b 0) (hi : H[i]? = some (Res.cells b cs E)) (hl : cs.size = s) (k : RVs P n e H rs vs) : RVs P n e H (.cell t T :: rs) (.agg cs :: vs)
  | one {t T b i : Nat} {E : TypeId} {cs : Array Value} {v : Value} {rs : List ResultVar} {vs : List Value} (hA : aggOf P T = some false) (ht : e t = loc b 0) (hi : H[i]? = some (Res.cells b cs E)) (hl : cs[0]? = some v) (k : RVs P n e H rs vs) : RVs P n e H (.cell t T :: rs) (v :: vs)

def tupV : List Value → Value
  | [v] => v
  | vs => .tuple vs.toArray

def rv1 (tmps : Array Value) : ResultVar → Sem Value
  | .tmp t => pure (tmps.getD t undef)
  | .cell a t => do loadVar t (← asAddr (tmps.getD a undef))
theorem RVs.run {P : Program} {n : Nat} {e : Env} {H : List Res} {rs : List ResultVar} {vs : List Value} (h : RVs P n e H rs vs) {a : Act} (ha : St n e a) {w : World} (hw : ∀ r ∈ H, r.holds w) :
    (rs.mapM (rv1 a.tmps)).run P w = .ok vs w := by
  induction h with
  | nil => simp
  | @tmp t v rs vs h k ih =>
    have h1 : (rv1 a.tmps (.tmp t)).run P w = .ok v w := by rw [rv1, ha.get, h]; rfl
    simp only [List.mapM_cons, Sem.run_bind, h1, Result.andThen_ok, ih, Sem.run_pure]
  | @agg t T b s i E cs rs vs hA hz ht hi hl k ih =>
    have h2 := run_loadAll (P := P) hA hz hi hl hw
    have h1 : (rv1 a.tmps (.cell t T)).run P w = .ok (.agg cs) w := by rw [rv1, ha.get, ht]; simp only [loc, asAddr, Sem.run_bind, Sem.run_pure, Result.andThen_ok]; exact h2
    simp only [List.mapM_cons, Sem.run_bind, h1, Result.andThen_ok, ih, Sem.run_pure]
  | @one t T b i E cs v rs vs hA ht hi hl k ih =>
    have hh := hw _ (List.mem_of_getElem? hi)
    have h2 := run_loadVar_one (P := P) hA (cell_of_cells hh hl)
    have h1 : (rv1 a.tmps (.cell t T)).run P w = .ok v w := by rw [rv1, ha.get, ht]; simp only [loc, asAddr, Sem.run_bind, Sem.run_pure, Result.andThen_ok]; exact h2
    simp only [List.mapM_cons, Sem.run_bind, h1, Result.andThen_ok, ih, Sem.run_pure]

theorem RVs.val {P : Program} {fn : Func} {n : Nat} {e : Env} {H : List Res} {rs : List ResultVar} {vs : List Value} (hr : fn.results = rs.toArray) (h : RVs P n e H rs vs) : RetVal P fn n e H (tupV vs) := fun w a ha hw => by
  have h1 := h.run ha hw
  have h2 : results fn a.tmps = (do let vs ← Array.mapM (rv1 a.tmps) rs.toArray; pure (if h : vs.size = 1 then vs[0] else .tuple vs) : Sem Value) := by
    unfold results
    rw [hr]
    congr 1
  rw [h2]
  simp only [List.mapM_toArray, Sem.run_bind, Sem.run_map, h1, Result.andThen_ok, Sem.run_pure]
  congr 1
  match vs with
  | [] => rfl
  | [v] => rfl
  | v :: u :: l => simp [tupV]
/-- A function's end: the results, and the resources that go with them. -/
theorem RetOk.mk' {P : Program} {fn : Func} {n : Nat} {Post : Value → Store → List Res → Prop} {ex : Exit} {e : Env} {σ : Store} {H : List Res} {rs : List ResultVar} {vs : List Value} (F : List Res) (hr : fn.results = rs.toArray) (hex : ex = .ret ∨ ex = .normal) (h : RVs P n e H rs vs) (hs : F.Sublist H)
    (hp : Post (tupV vs) σ F) : RetOk P fn n Post ex e σ H := RetOk.of F hex (h.val hr) hs hp
end Go.E
