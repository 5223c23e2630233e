/- The engine: symbolic execution of a function's code over an environment of slots, a sealed store and a list of owned blocks. Plain lemmas over any program; no condition. -/
import Derived.ProofKit
import Derived.OrdersHeld
import Derived.Laws.AppendOwn
import Derived.Laws.OwnMore
import Derived.Laws.MakeOwn
import Derived.Laws.StructEq
import Derived.Maps.OwnSet
import Derived.Maps.OwnOps
set_option linter.unusedVariables false
set_option linter.unusedSimpArgs false
namespace Go.E
open Go

abbrev Env := Nat → Value
abbrev Store := Nat → Option Obj

def upd (e : Env) (d : Nat) (v : Value) : Env := fun t => if t = d then v else e t
def mask (M : List Nat) (j e : Env) : Env := fun t => if M.contains t then j t else e t

def ev (e : Env) : Operand → Value
  | .tmp t => e t
  | .const v => v
  | .global g => .pointer (some ⟨g, 0, none⟩)
  | .func f => .func (.func f) #[] #[]

structure St (n : Nat) (e : Env) (a : Act) : Prop where
  defers : a.defers = []
  size : a.tmps.size = n
  get : ∀ t, a.tmps.getD t undef = e t

theorem St.eval {n : Nat} {e : Env} {a : Act} (h : St n e a) (x : Operand) : a.eval x = ev e x := by
  cases x with
  | tmp t => exact h.get t
  | _ => rfl

theorem St.eval' {n : Nat} {e : Env} {a : Act} (h : St n e a) : a.eval = ev e := funext h.eval

theorem St.put {n : Nat} {e : Env} {a : Act} (h : St n e a) {d : Nat} (hd : d < n) (v : Value) : St n (upd e d v) (a.put (some d) v) := by
  refine ⟨h.defers, by simp [Act.put, h.size], fun t => ?_⟩
  have hg := h.get t
  have hs := h.size
  simp only [Act.put, upd, Array.getD_eq_getD_getElem?, Array.getElem?_setIfInBounds] at *
  by_cases ht : t = d
  · subst ht; simp [hs, hd]
  · have : ¬ d = t := fun x => ht x.symm
    simp [this, ht, hg]

theorem St.put_none {n : Nat} {e : Env} {a : Act} (h : St n e a) (v : Value) : St n e (a.put none v) := h

/-- A resource: what the call owns: some blocks, and what holds of them. -/
structure Res where
  bl : List Nat
  holds : World → Prop
  lt : ∀ w b, b ∈ bl → holds w → b < w.heap.size
  keep : ∀ w w', (∀ b, b ∈ bl → w'.heap[b]? = w.heap[b]?) → holds w → holds w'

theorem Res.keep_of {r : Res} {w w' : World} (h : ∀ b, b < w.heap.size → b ∈ r.bl → w'.heap[b]? = w.heap[b]?) (hr : r.holds w) : r.holds w' :=
  r.keep w w' (fun b hb => h b (r.lt w b hb hr) hb) hr

abbrev blks (H : List Res) : List Nat := H.flatMap Res.bl

def Store.le (σ τ : Store) : Prop := ∀ b o, σ b = some o → τ b = some o
theorem Store.le.refl (σ : Store) : σ.le σ := fun _ _ h => h
theorem Store.le.trans {a b c : Store} (h : a.le b) (k : b.le c) : a.le c := fun i o hi => k i o (h i o hi)

structure Reach (w0 : World) (C : List Nat) (σ0 σ : Store) (w : World) (H : List Res) : Prop where
  os : w.os = w0.os
  tape : w.tape = w0.tape
  output : w.output = w0.output
  size : w0.heap.size ≤ w.heap.size
  frame : ∀ k, k < w0.heap.size → k ∉ C → w.heap[k]? = w0.heap[k]?
  le : σ0.le σ
  fit : ∀ b o, σ b = some o → w.heap[b]? = some o
  fresh : ∀ b o, σ b = some o → σ0 b = some o ∨ b ∈ C ∨ w0.heap.size ≤ b
  holds : ∀ r ∈ H, r.holds w
  own : ∀ r ∈ H, ∀ b, b ∈ r.bl → b ∈ C ∨ w0.heap.size ≤ b
  nodup : (blks H).Nodup
  apart : ∀ r ∈ H, ∀ b, b ∈ r.bl → σ b = none
  drawn : w0.drawn ≤ w.drawn

def Con (P : Program) (f : FuncId) (args : Array Value) (σ : Store) (H : List Res) (Post : Value → Store → List Res → Prop) : Prop :=
  ∀ w, Reach w (blks H) σ σ w H → Calls P f args w fun e w' => ∃ r σ' H', e = .returned r ∧ Post r σ' H' ∧ Reach w (blks H) σ σ' w' H'

theorem Con.mono {P : Program} {f : FuncId} {args : Array Value} {σ : Store} {H : List Res} {Post Post' : Value → Store → List Res → Prop}
    (h : Con P f args σ H Post) (hp : ∀ r σ' H', σ.le σ' → Post r σ' H' → Post' r σ' H') : Con P f args σ H Post' := fun w hw =>
  (h w hw).mono fun _ _ ⟨r, σ', H', h1, h2, h3⟩ => ⟨r, σ', H', h1, hp _ _ _ h3.le h2, h3⟩

theorem mem_blks {H : List Res} {b : Nat} : b ∈ blks H ↔ ∃ r ∈ H, b ∈ r.bl := by simp [blks, List.mem_flatMap]

theorem Reach.block_lt {w0 : World} {C : List Nat} {σ0 σ : Store} {w : World} {H : List Res} (h : Reach w0 C σ0 σ w H) {r : Res} (hr : r ∈ H) {b : Nat} (hb : b ∈ r.bl) : b < w.heap.size :=
  r.lt w b hb (h.holds r hr)

theorem nodup_app {a b : List Nat} : (a ++ b).Nodup ↔ a.Nodup ∧ b.Nodup ∧ ∀ x ∈ a, x ∉ b := by
  rw [List.nodup_append]
  constructor
  · rintro ⟨h1, h2, h3⟩; exact ⟨h1, h2, fun x hx hy => h3 x hx x hy rfl⟩
  · rintro ⟨h1, h2, h3⟩; exact ⟨h1, h2, fun x hx y hy hxy => h3 x hx (hxy ▸ hy)⟩

/-- Composition: a callee's reach over a part of what is owned. -/
theorem Reach.call {w0 : World} {C : List Nat} {σ0 σ σ' : Store} {w w' : World} {H1 F H1' : List Res} (h : Reach w0 C σ0 σ w (H1 ++ F))
    (k : Reach w (blks H1) σ σ' w' H1') : Reach w0 C σ0 σ' w' (H1' ++ F) := by
  have hnd : (blks H1 ++ blks F).Nodup := by have := h.nodup; simpa [blks, List.flatMap_append] using this
  obtain ⟨n1, n2, n3⟩ := nodup_app.1 hnd
  have hF : ∀ r ∈ F, ∀ b, b ∈ r.bl → b < w.heap.size ∧ b ∉ blks H1 := fun r hr b hb =>
    ⟨h.block_lt (List.mem_append_right _ hr) hb, fun hx => n3 b hx (mem_blks.2 ⟨r, hr, hb⟩)⟩
  have hC : ∀ b ∈ blks H1, b ∈ C ∨ w0.heap.size ≤ b := fun b hb => by
    obtain ⟨r, hr, hrb⟩ := mem_blks.1 hb
    exact h.own r (List.mem_append_left _ hr) b hrb
  refine ⟨k.os.trans h.os, k.tape.trans h.tape, k.output.trans h.output, Nat.le_trans h.size k.size, ?_, h.le.trans k.le, k.fit, ?_, ?_, ?_, ?_, ?_, Nat.le_trans h.drawn k.drawn⟩
  · intro i hi hiC
    rw [k.frame i (Nat.lt_of_lt_of_le hi h.size) (fun hx => ?_), h.frame i hi hiC]
    rcases hC i hx with hc | hc
    · exact hiC hc
    · omega
  · intro b o hb
    rcases k.fresh b o hb with h1 | h1 | h1
    · exact h.fresh b o h1
    · exact .inr (hC b h1)
    · exact .inr (.inr (Nat.le_trans h.size h1))
  · intro r hr
    rcases List.mem_append.1 hr with hr | hr
    · exact k.holds r hr
    · exact r.keep_of (fun b hb hrb => k.frame b hb (hF r hr b hrb).2) (h.holds r (List.mem_append_right _ hr))
  · intro r hr b hb
    rcases List.mem_append.1 hr with hr | hr
    · rcases k.own r hr b hb with h1 | h1
      · exact hC b h1
      · exact .inr (Nat.le_trans h.size h1)
    · exact h.own r (List.mem_append_right _ hr) b hb
  · have : blks (H1' ++ F) = blks H1' ++ blks F := by simp [blks, List.flatMap_append]
    rw [this, nodup_app]
    refine ⟨k.nodup, n2, fun x hx hxF => ?_⟩
    obtain ⟨r, hr, hrb⟩ := mem_blks.1 hx
    obtain ⟨r', hr', hrb'⟩ := mem_blks.1 hxF
    have := hF r' hr' x hrb'
    rcases k.own r hr x hrb with h1 | h1
    · exact this.2 h1
    · omega
  · intro r hr b hb
    rcases List.mem_append.1 hr with hr | hr
    · exact k.apart r hr b hb
    · cases hs : σ' b with
      | none => rfl
      | some o =>
        have h0 := h.apart r (List.mem_append_right _ hr) b hb
        have hf := hF r hr b hb
        rcases k.fresh b o hs with h1 | h1 | h1
        · rw [h0] at h1; cases h1
        · exact absurd h1 hf.2
        · omega

theorem Reach.drew {w0 : World} {C : List Nat} {σ0 σ : Store} {w : World} {H : List Res} (h : Reach w0 C σ0 σ w H) : Reach w0 C σ0 σ w.drew H := by
  have hk : ∀ r ∈ H, r.holds w.drew := fun r hr => r.keep w w.drew (fun _ _ => rfl) (h.holds r hr)
  exact ⟨h.os, h.tape, h.output, h.size, h.frame, h.le, h.fit, h.fresh, hk, h.own, h.nodup, h.apart, Nat.le_trans h.drawn (Nat.le_succ _)⟩

theorem sub_blks {H H' : List Res} (h : H'.Sublist H) : (blks H').Sublist (blks H) := by
  induction h with
  | slnil => exact List.Sublist.refl _
  | cons a _ ih => simp only [blks, List.flatMap_cons] at ih ⊢; exact ih.trans (List.sublist_append_right _ _)
  | cons_cons a _ ih => simp only [blks, List.flatMap_cons] at ih ⊢; exact (List.Sublist.refl _).append ih
theorem perm_blks {H H' : List Res} (h : H'.Perm H) : (blks H').Perm (blks H) := h.flatMap_right _
/-- Fewer resources. -/
theorem Reach.sub {w0 : World} {C : List Nat} {σ0 σ : Store} {w : World} {H H' : List Res} (h : Reach w0 C σ0 σ w H) (hs : H'.Sublist H) : Reach w0 C σ0 σ w H' := by
  have hm : ∀ r ∈ H', r ∈ H := fun r hr => hs.subset hr
  exact ⟨h.os, h.tape, h.output, h.size, h.frame, h.le, h.fit, h.fresh, fun r hr => h.holds r (hm r hr), fun r hr => h.own r (hm r hr), (sub_blks hs).nodup h.nodup, fun r hr => h.apart r (hm r hr), h.drawn⟩

theorem Reach.perm {w0 : World} {C : List Nat} {σ0 σ : Store} {w : World} {H H' : List Res} (h : Reach w0 C σ0 σ w H) (hp : H'.Perm H) : Reach w0 C σ0 σ w H' := by
  have hm : ∀ r ∈ H', r ∈ H := fun r hr => hp.subset hr
  exact ⟨h.os, h.tape, h.output, h.size, h.frame, h.le, h.fit, h.fresh, fun r hr => h.holds r (hm r hr), fun r hr => h.own r (hm r hr), (perm_blks hp).nodup_iff.2 h.nodup, fun r hr => h.apart r (hm r hr), h.drawn⟩

/-- One resource of its own changes, the rest of the heap grows at most. -/
theorem Reach.turn {w0 : World} {C : List Nat} {σ0 σ : Store} {w w' : World} {r r' : Res} {F : List Res} (h : Reach w0 C σ0 σ w (r :: F))
    (hos : w'.os = w.os) (ht : w'.tape = w.tape) (ho : w'.output = w.output) (hs : w.heap.size ≤ w'.heap.size) (hdr : w.drawn ≤ w'.drawn)
    (hb : ∀ k, k < w.heap.size → k ∉ r.bl → w'.heap[k]? = w.heap[k]?)
    (hh : r'.holds w') (hbk : ∀ b, b ∈ r'.bl → b ∈ r.bl ∨ w.heap.size ≤ b) (hnd : r'.bl.Nodup) : Reach w0 C σ0 σ w' (r' :: F) := by
  have hC : ∀ k, k ∈ blks [r] ↔ k ∈ r.bl := fun k => by simp [blks]
  refine Reach.call (H1 := [r]) (H1' := [r']) h ⟨hos, ht, ho, hs, fun k hk hkn => hb k hk (fun hx => hkn ((hC k).2 hx)), Store.le.refl _, ?_, fun b o hb => .inl hb, ?_, ?_, ?_, ?_, hdr⟩
  · intro b o hbo
    have h1 := h.fit b o hbo
    rw [hb b (Array.getElem?_eq_some_iff.1 h1).1 (fun hx => ?_), h1]
    have := h.apart r (List.mem_cons_self ..) b hx
    rw [this] at hbo; cases hbo
  · intro x hx; simp at hx; subst hx; exact hh
  · intro x hx b hxb; simp at hx; subst hx
    rcases hbk b hxb with h1 | h1
    · exact .inl ((hC b).2 h1)
    · exact .inr h1
  · simpa [blks] using hnd
  · intro x hx b hxb; simp at hx; subst hx
    rcases hbk b hxb with h1 | h1
    · exact h.apart r (List.mem_cons_self ..) b h1
    · cases hs' : σ b with
      | none => rfl
      | some o => have := (Array.getElem?_eq_some_iff.1 (h.fit b o hs')).1; omega

/-- No resource. -/
def Res.no : Res := ⟨[], fun _ => True, fun _ _ h => by simp at h, fun _ _ _ _ => trivial⟩
theorem Reach.no {w0 : World} {C : List Nat} {σ0 σ : Store} {w : World} {H : List Res} (h : Reach w0 C σ0 σ w H) : Reach w0 C σ0 σ w (Res.no :: H) :=
  ⟨h.os, h.tape, h.output, h.size, h.frame, h.le, h.fit, h.fresh,
    fun r hr => by rcases List.mem_cons.1 hr with rfl | hr; · trivial
                   · exact h.holds r hr,
    fun r hr b hb => by rcases List.mem_cons.1 hr with rfl | hr; · simp [Res.no] at hb
                        · exact h.own r hr b hb,
    by have := h.nodup; simpa [blks, Res.no] using this,
    fun r hr b hb => by rcases List.mem_cons.1 hr with rfl | hr; · simp [Res.no] at hb
                        · exact h.apart r hr b hb, h.drawn⟩
/-- A new resource, in new blocks or in none. -/
theorem Reach.gain {w0 : World} {C : List Nat} {σ0 σ : Store} {w w' : World} {r' : Res} {H : List Res} (h : Reach w0 C σ0 σ w H)
    (hos : w'.os = w.os) (ht : w'.tape = w.tape) (ho : w'.output = w.output) (hs : w.heap.size ≤ w'.heap.size) (hdr : w.drawn ≤ w'.drawn)
    (hb : ∀ k, k < w.heap.size → w'.heap[k]? = w.heap[k]?)
    (hh : r'.holds w') (hbk : ∀ b, b ∈ r'.bl → w.heap.size ≤ b) (hnd : r'.bl.Nodup) : Reach w0 C σ0 σ w' (r' :: H) :=
  h.no.turn hos ht ho hs hdr (fun k hk _ => hb k hk) hh (fun b hb => .inr (hbk b hb)) hnd

/-- The same, for what lies in one block or in none. -/
theorem Reach.turn1 {w0 : World} {C : List Nat} {σ0 σ : Store} {w w' : World} {r r' : Res} {F : List Res} (o o' : Option Nat) (h : Reach w0 C σ0 σ w (r :: F)) (e : r.bl = o.toList) (e' : r'.bl = o'.toList)
    (hos : w'.os = w.os) (ht : w'.tape = w.tape) (ho : w'.output = w.output) (hs : w.heap.size ≤ w'.heap.size) (hdr : w.drawn ≤ w'.drawn)
    (hb : ∀ k, k < w.heap.size → o ≠ some k → w'.heap[k]? = w.heap[k]?)
    (hh : r'.holds w') (hbk : ∀ b, o' = some b → o = some b ∨ w.heap.size ≤ b) : Reach w0 C σ0 σ w' (r' :: F) :=
  h.turn hos ht ho hs hdr (fun k hk hn => hb k hk fun hx => hn (by rw [e, hx]; simp)) hh (fun b hb' => by
    rw [e', Option.mem_toList] at hb'
    rcases hbk b hb' with h1 | h1
    · exact .inl (by rw [e, h1]; simp)
    · exact .inr h1) (by rw [e']; cases o' <;> simp)
theorem Reach.gain1 {w0 : World} {C : List Nat} {σ0 σ : Store} {w w' : World} {r' : Res} {H : List Res} (o' : Option Nat) (h : Reach w0 C σ0 σ w H) (e' : r'.bl = o'.toList)
    (hos : w'.os = w.os) (ht : w'.tape = w.tape) (ho : w'.output = w.output) (hs : w.heap.size ≤ w'.heap.size) (hdr : w.drawn ≤ w'.drawn)
    (hb : ∀ k, k < w.heap.size → w'.heap[k]? = w.heap[k]?)
    (hh : r'.holds w') (hbk : ∀ b, o' = some b → w.heap.size ≤ b) : Reach w0 C σ0 σ w' (r' :: H) :=
  h.gain hos ht ho hs hdr hb hh (fun b hb' => hbk b (by rw [e', Option.mem_toList] at hb'; exact hb')) (by rw [e']; cases o' <;> simp)

/-- Several resources as one. -/
def Res.star (H : List Res) : Res where
  bl := blks H
  holds w := ∀ r ∈ H, r.holds w
  lt w b hb h := by obtain ⟨r, hr, hrb⟩ := mem_blks.1 hb; exact r.lt w b hrb (h r hr)
  keep w w' hb h r hr := r.keep w w' (fun b hrb => hb b (mem_blks.2 ⟨r, hr, hrb⟩)) (h r hr)
theorem Reach.unstar {w0 : World} {C : List Nat} {σ0 σ : Store} {w : World} {G F : List Res} (h : Reach w0 C σ0 σ w (Res.star G :: F)) : Reach w0 C σ0 σ w (G ++ F) := by
  have hm : ∀ r ∈ G, ∀ b ∈ r.bl, b ∈ (Res.star G).bl := fun r hr b hb => mem_blks.2 ⟨r, hr, hb⟩
  have hS := List.mem_cons_self (a := Res.star G) (l := F)
  refine ⟨h.os, h.tape, h.output, h.size, h.frame, h.le, h.fit, h.fresh, fun r hr => ?_, fun r hr b hb => ?_, ?_, fun r hr b hb => ?_, h.drawn⟩
  · rcases List.mem_append.1 hr with hr | hr
    · exact h.holds _ hS r hr
    · exact h.holds r (List.mem_cons_of_mem _ hr)
  · rcases List.mem_append.1 hr with hr | hr
    · exact h.own _ hS b (hm r hr b hb)
    · exact h.own r (List.mem_cons_of_mem _ hr) b hb
  · have := h.nodup
    simpa [blks, Res.star] using this
  · rcases List.mem_append.1 hr with hr | hr
    · exact h.apart _ hS b (hm r hr b hb)
    · exact h.apart r (List.mem_cons_of_mem _ hr) b hb
theorem Reach.star {w0 : World} {C : List Nat} {σ0 σ : Store} {w : World} {G F : List Res} (h : Reach w0 C σ0 σ w (G ++ F)) : Reach w0 C σ0 σ w (Res.star G :: F) := by
  refine ⟨h.os, h.tape, h.output, h.size, h.frame, h.le, h.fit, h.fresh, fun r hr => ?_, fun r hr b hb => ?_, ?_, fun r hr b hb => ?_, h.drawn⟩
  · rcases List.mem_cons.1 hr with rfl | hr
    · exact fun r hr => h.holds r (List.mem_append_left _ hr)
    · exact h.holds r (List.mem_append_right _ hr)
  · rcases List.mem_cons.1 hr with rfl | hr
    · obtain ⟨r, hr, hrb⟩ := mem_blks.1 hb; exact h.own r (List.mem_append_left _ hr) b hrb
    · exact h.own r (List.mem_append_right _ hr) b hb
  · have := h.nodup
    simpa [blks, Res.star] using this
  · rcases List.mem_cons.1 hr with rfl | hr
    · obtain ⟨r, hr, hrb⟩ := mem_blks.1 hb; exact h.apart r (List.mem_append_left _ hr) b hrb
    · exact h.apart r (List.mem_append_right _ hr) b hb

/-- A resource that is one block of cells is sealed. -/
def Store.with (σ : Store) (b : Nat) (o : Obj) : Store := fun k => if k = b then some o else σ k

theorem Store.le_with {σ : Store} {b : Nat} {o : Obj} (h : σ b = none) : σ.le (σ.with b o) := fun k x hk => by
  unfold Store.with
  split
  · subst_vars; rw [h] at hk; cases hk
  · exact hk

theorem Reach.sealB {w0 : World} {C : List Nat} {σ0 σ : Store} {w : World} {r : Res} {F : List Res} (h : Reach w0 C σ0 σ w (r :: F)) {b : Nat} {o : Obj} (hb : r.bl = [b]) (ho : w.heap[b]? = some o) :
    Reach w0 C σ0 (σ.with b o) w F ∧ σ.le (σ.with b o) := by
  have hbm : b ∈ r.bl := by rw [hb]; exact List.mem_singleton.2 rfl
  have h0 := h.apart r (List.mem_cons_self ..) b hbm
  have hle := Store.le_with (o := o) h0
  have hF := h.sub (List.sublist_cons_self r F)
  refine ⟨⟨hF.os, hF.tape, hF.output, hF.size, hF.frame, h.le.trans hle, ?_, ?_, hF.holds, hF.own, hF.nodup, ?_, hF.drawn⟩, hle⟩
  · intro k x hk
    unfold Store.with at hk
    split at hk
    · subst_vars; rw [ho]; exact hk
    · exact h.fit k x hk
  · intro k x hk
    unfold Store.with at hk
    split at hk
    · subst_vars; exact .inr (h.own r (List.mem_cons_self ..) _ hbm)
    · exact h.fresh k x hk
  · intro r' hr' k hk
    unfold Store.with
    split
    · subst_vars
      have hnd := h.nodup
      simp only [blks, List.flatMap_cons, hb, List.singleton_append, List.nodup_cons] at hnd
      exact absurd (mem_blks.2 ⟨r', hr', hk⟩) hnd.1
    · exact hF.apart r' hr' k hk

end Go.E
