/- Words for drawn regions, rows handed on, strings. Plain lemmas over any program; no condition. -/
import Derived.Test.YtcidppnlhhkhhaaData
import Derived.Laws.IdiomStrings
import Derived.Laws.Strings2
set_option linter.unusedVariables false
set_option linter.unusedSimpArgs false
namespace Go.E
open Go
theorem Agr.maskIn {M M' : List Nat} {j e e0 : Env} (hs : (M'.all fun t => M.contains t) = true) (h : Agr M e e0) : Agr M (Go.E.mask M' j e) e0 :=
  Agr.trans (Agr.weak Agr.mask hs) h

/-! ### Drawn regions: several operations at once -/
section
variable {X : Ctx} {ops : Array Oper} {Q : QP} {e : Env} {σ σr : Store} {H Hr : List Res} {late : List Nat} {fuel : Nat} {listed : Array Bool}
def TA.All (X : Ctx) (ops : Array Oper) (Q : QP) (σr : Store) (Hr : List Res) (late : List Nat) (fuel : Nat) (listed : Array Bool) (e : Env) (σ : Store) (H : List Res) : List Nat → Prop
  | [] => True
  | i :: r => (∃ oi : Oper, ops[i]? = some oi ∧ oi.guard = none ∧ OpOk X oi e σ H fun e' σ' H' => (∀ w, Sees σ' H' w → Sees σr Hr w) ∧ TA X ops Q σr Hr late fuel (listed.setIfInBounds i true) e' σ' H') ∧ TA.All X ops Q σr Hr late fuel listed e σ H r
theorem TA.All.at {l : List Nat} (h : TA.All X ops Q σr Hr late fuel listed e σ H l) {i : Nat} (hi : i ∈ l) : ∃ oi : Oper, ops[i]? = some oi ∧ oi.guard = none ∧ OpOk X oi e σ H fun e' σ' H' => (∀ w, Sees σ' H' w → Sees σr Hr w) ∧ TA X ops Q σr Hr late fuel (listed.setIfInBounds i true) e' σ' H' := by
  induction l with
  | nil => cases hi
  | cons j r ih =>
    cases hi with
    | head => exact h.1
    | tail _ hi => exact ih h.2 hi
/-- Any of the operations that may come up next. -/
theorem TA.actN (l : List Nat) (hr : Region.ready .any ops listed = l) (h : TA.All X ops Q σr Hr late fuel listed e σ H l) (hl : l ≠ [] := by simp) : TA X ops Q σr Hr late (fuel + 1) listed e σ H := fun w a hw hS hcl ha => by
  refine ⟨fun h0 => absurd (hr.symm.trans h0) hl, fun q hq => ?_⟩
  have hst := hcl.step hq
  rw [hr] at hq
  obtain ⟨oi, hi, hg, ho⟩ := TA.All.at h hq
  exact wpOp_of hi hg (ho w a hw ha _ _ fun e' σ' H' a' w' ⟨hs, hk⟩ hw' ha' => ⟨fun _ _ => hs w' hw'.sees, hk w' a' hw' (hs w' hw'.sees) hst ha'⟩)
end
theorem OpOk.front {X : Ctx} {e : Env} {σ : Store} {H F : List Res} {o : Oper} {K : Env → Store → List Res → Prop} (i : Nat) {r : Res} (hi : H[i]? = some r) (hF : H.eraseIdx i = F) (h : OpOk X o e σ (r :: F) K) : OpOk X o e σ H K :=
  fun w a hw ha => h w a (hw.perm (front_perm hi hF)) ha
theorem OpOk.callRT {X : Ctx} {e : Env} {σ : Store} {H F H1 : List Res} {o : Oper} {x : Operand} {K : Env → Store → List Res → Prop} {α : Type} {E size f d : Nat} {enc : α → List Value} {l : List α} {ps : Array Operand} {ts : Array TypeId} {first cap : Array Value} {args : List Value} (hc : Con X.P f args.toArray σ H1 (RowP E size enc l σ)) (ho : o.op = .call { callee := .value x, args := ps, argTypes := ts })
    (hx : ev e x = .func (.func f) first cap) (hp : plainF X.P f = true) (hargs : first.toList ++ (ps.toList.map (ev e) ++ cap.toList) = args) (hd : o.dst = some d) (hn : Nat.blt d X.n = true) (hH : H1 ++ F = H)
    (k : ∀ a c, K (upd e d (.slice a l.length c)) σ (Res.rowS E size enc (.slice a l.length c) l :: F)) : OpOk X o e σ H K :=
  OpOk.call (H1 := H1) hc ho hx hp hargs hd hn hH fun r σ' H' _ ⟨⟨a, c, h1⟩, h2, h3⟩ => by subst h1 h2 h3; exact k a c

section
variable {P : Program} {n : Nat} {e : Env} {σ : Store} {H : List Res} {o : Oper} {x y z : Operand}
theorem OpVal.sliceStr {t : TypeId} {s : ByteArray} {i j : Int} {k k' : IntKind} (ho : o.op = .slice t x (some y) (some z) none) (ht : P.underlying t = some .string) (hx : ev e x = .string s) (hy : ev e y = .int k i) (hz : ev e z = .int k' j)
    (h0 : 0 ≤ i) (h1 : i ≤ j) (h2 : j ≤ s.size) : OpVal P n o e σ H (.string (s.extract i.toNat j.toNat)) := fun w _ => by
  have h := run_slice_string (P := P) w t s k k' i j ht h0 h1 h2
  simp [execOp, ho, hx, hy, hz, Instr.sliceAt, run_underlying ht, h]
end
/-- The block of a string's bytes. -/
def Res.obj (b : Nat) (o : Obj) : Res where
  bl := [b]
  holds w := w.heap[b]? = some o
  lt w k hk h := by rw [List.mem_singleton.1 hk]; exact (Array.getElem?_eq_some_iff.1 h).1
  keep w w' hb h := by rw [hb b (List.mem_singleton.2 rfl)]; exact h
theorem encU8_map (l : List UInt8) : l.flatMap encU8 = l.map fun b => Value.int .u8 (b.toNat : Nat) := by
  induction l with
  | nil => rfl
  | cons b l ih => rw [List.flatMap_cons, ih]; rfl
theorem OpOk.convBytes {X : Ctx} {e : Env} {σ : Store} {H : List Res} {o : Oper} {x : Operand} {K : Env → Store → List Res → Prop} {S T E d : Nat} {s : ByteArray} (ho : o.op = .convert S T x) (hs : X.P.underlying S = some .string) (ht : X.P.underlying T = some (.slice E)) (he : X.P.underlying E = some (.int .u8))
    (hx : ev e x = .string s) (hd : o.dst = some d) (hn : Nat.blt d X.n = true) (hsz : s.size ≤ 281474976710656)
    (k : ∀ a c σ', σ.le σ' → RS σ' 1 encU8 (.slice a s.data.toList.length c) s.data.toList → K (upd e d (.slice a s.data.toList.length c)) σ' H) : OpOk X o e σ H K := by
  intro w a hw ha K' Q hK
  have hrun := run_bytes_of_string (P := X.P) w S T E s hs ht he
  generalize hcap : grownCap w s.size 0 E = cap at hrun
  have hge : s.size ≤ cap := hcap ▸ grownCap_ge w s.size 0 E
  have hR := (hw.drew).gain1 (some w.heap.size) (r' := Res.obj w.heap.size (.cells (bytesRow s cap) E ((bytesRow s cap).size, (bytesRow s cap).size + 1))) (w' := w.drew.alloc (.cells (bytesRow s cap) E ((bytesRow s cap).size, (bytesRow s cap).size + 1))) rfl rfl rfl rfl (by simp) (Nat.le_refl _) (fun k hk => heap_alloc_old w.drew _ k hk) (heap_alloc_new w.drew _) (fun b hb => by cases hb; exact Nat.le_refl _)
  obtain ⟨hr, hle⟩ := hR.sealB (b := w.heap.size) rfl (heap_alloc_new w.drew _)
  have hl : s.data.toList.length = s.size := rfl
  have hRS : RS (σ.with w.heap.size (.cells (bytesRow s cap) E ((bytesRow s cap).size, (bytesRow s cap).size + 1))) 1 encU8 (.slice (some ⟨w.heap.size, 0, none⟩) s.data.toList.length cap) s.data.toList := by
    refine ⟨⟨⟨_, _, rfl, by simp, by omega⟩, by rw [flatMap_len encU8_len], ?_, fun u hu => ?_, by omega⟩, encU8_len⟩
    · intro a m c hv j u hj
      cases hv
      rw [loc_add]
      unfold Store.cell
      simp only [Store.with, if_true]
      rw [encU8_map, List.getElem?_map] at hj
      have hj' : j < s.data.toList.length := by
        by_cases h : j < s.data.toList.length
        · exact h
        · rw [List.getElem?_eq_none (by omega)] at hj; cases hj
      simp only [Nat.zero_add, bytesRow]
      rw [Array.getElem?_append_left (by simpa using hj'), Array.getElem?_map, ← Array.getElem?_toList]
      exact hj
    · rw [List.mem_flatMap] at hu
      obtain ⟨q, _, hq⟩ := hu
      exact encU8_one q u hq
  refine Oper.wp_of_run (v := .slice (some ⟨w.heap.size, 0, none⟩) s.size cap) ?_ (hK _ _ _ _ _ (k _ _ _ hle hRS) hr (put_dst ha hd hn _))
  rw [ha.eval']
  simp [execOp, ho, hx, hrun]
end Go.E
