/- Parts of a proof, one behind the other: what a machine reaches, functions decompiled, plain lemmas. Conditions stand with each lemma. -/
import Derived.Test.YtcidppnlhhkhhaaB6e0a8f0098
import Derived.Laws.IdiomStrings
import Derived.Laws.Strings2
import Derived.Laws.Strings3
import Derived.Laws.Concat
import Derived.MapKept

/- Dec2 -/
section
/- More words for the decompiler: strings as lists of bytes, sets as maps, lent slices, drawn regions. Plain lemmas over any program; no condition. -/
set_option linter.unusedVariables false
set_option linter.unusedSimpArgs false
namespace Go.E
open Go

/-! ### Drawn regions: guarded operations -/
section
variable {X : Ctx} {ops : Array Oper} {Q : QP} {e : Env} {σ σr : Store} {H Hr : List Res} {late : List Nat} {fuel : Nat} {listed : Array Bool}
theorem TA.sealS {α : Type} {E size : Nat} {enc : α → List Value} {v : Value} {l : List α} {F : List Res} (hl : ∀ x, (enc x).length = size) (k : ∀ σ', σ.le σ' → RS σ' size enc v l → TA X ops Q σr Hr late fuel listed e σ' F) : TA X ops Q σr Hr late fuel listed e σ (Res.rowS E size enc v l :: F) := fun hnd w a hw hS hc ha => by
  obtain ⟨σ', h1, h2, h3⟩ := hw.self.sealRow
  exact k σ' h2 ⟨h3, hl⟩ hnd w a (hw.step h1 rfl) hS hc ha
end

theorem RS.nilF {α : Type} (σ : Store) {size : Nat} (enc : α → List Value) (hl : ∀ x, (enc x).length = size) : RS σ size enc (.slice none 0 0) ([] : List α) := ⟨RV.nil σ size, hl⟩

/-! ### A slice of one's own, lent to a call that only reads -/
/-! ### Strings, as lists of bytes -/
def bs (l : List UInt8) : ByteArray := ⟨l.toArray⟩
theorem bs_size (l : List UInt8) : (bs l).size = l.length := rfl
theorem bs_list (l : List UInt8) : (bs l).data.toList = l := rfl
section
variable {P : Program} {n : Nat} {e : Env} {σ : Store} {H : List Res} {o : Oper} {x y z : Operand} {l m : List UInt8}
theorem OpVal.lenBs {t : TypeId} (ho : o.op = .call { callee := .builtin .len, args := #[x], argTypes := #[t] }) (ht : P.underlying t = some .string) (hx : ev e x = .string (bs l)) :
    OpVal P n o e σ H (.int .i64 (l.length : Nat)) := OpVal.lenStr ho ht hx
theorem OpVal.indexBs {T : Nat} {k : IntKind} {i : Nat} (ho : o.op = .index T x y) (ht : P.underlying T = some .string) (hx : ev e x = .string (bs l)) (hy : ev e y = .int k (i : Nat)) (h : i < l.length) :
    OpVal P n o e σ H (.int .u8 ((nth l i (0 : UInt8)).toNat : Nat)) := OpVal.indexStrN ho ht hx hy (by rw [bs_list]; exact getD_some l h _)
theorem bs_extract (l : List UInt8) (i j : Nat) : (bs l).extract i j = bs ((l.take j).drop i) := by
  apply ByteArray.ext
  rw [ByteArray.data_extract]
  apply Array.ext'
  simp [bs, List.extract_eq_take_drop, List.drop_take]
theorem OpVal.sliceBs {t : TypeId} {i j : Nat} {k k' : IntKind} (ho : o.op = .slice t x (some y) (some z) none) (ht : P.underlying t = some .string) (hx : ev e x = .string (bs l)) (hy : ev e y = .int k (i : Nat)) (hz : ev e z = .int k' (j : Nat))
    (h1 : i ≤ j) (h2 : j ≤ l.length) : OpVal P n o e σ H (.string (bs ((l.take j).drop i))) := by
  have := OpVal.sliceStr (P := P) (n := n) (σ := σ) (H := H) ho ht hx hy hz (by omega) (by omega) (by rw [bs_size]; omega)
  rwa [Int.toNat_natCast, Int.toNat_natCast, bs_extract] at this
end

theorem OpOk.convBs {X : Ctx} {e : Env} {σ : Store} {H : List Res} {o : Oper} {x : Operand} {K : Env → Store → List Res → Prop} {S T E d : Nat} {l : List UInt8} (ho : o.op = .convert S T x) (hs : X.P.underlying S = some .string) (ht : X.P.underlying T = some (.slice E)) (he : X.P.underlying E = some (.int .u8))
    (hx : ev e x = .string (bs l)) (hd : o.dst = some d) (hn : Nat.blt d X.n = true) (hsz : l.length ≤ 281474976710656)
    (k : ∀ a c σ', σ.le σ' → RS σ' 1 encU8 (.slice a l.length c) l → K (upd e d (.slice a l.length c)) σ' H) : OpOk X o e σ H K := OpOk.convBytes ho hs ht he hx hd hn hsz k

/-- make, the length and the room each by its own equation. -/
theorem OpOk.makeS2 {X : Ctx} {e : Env} {σ : Store} {H : List Res} {o : Oper} {x y : Operand} {K : Env → Store → List Res → Prop} {α : Type} {T E size by_ d m : Nat} {enc : α → List Value} {kl kc : IntKind} {z : Value} (x0 : α) (ho : o.op = .makeSlice T x y) (ht : X.P.underlying T = some (.slice E)) (hs : szOf X.P E = some size) (hby : byOf X.P E = some by_) (hz : zeroOf X.P E = some z)
    (hd : o.dst = some d) (hn : Nat.blt d X.n = true) (hx : ev e x = .int kl (m : Nat)) (hy : ev e y = .int kc (m : Nat)) (hb : by_ * m ≤ 281474976710656) (hby0 : 0 < by_) (hl : ∀ x, (enc x).length = size) (h0 : 0 < size)
    (hz0 : z.cells.toList = enc x0) (h1 : ∀ x, ∀ u ∈ enc x, u.oneCell' = true) (k : ∀ a c, K (upd e d (.slice a (List.replicate m x0).length c)) σ (Res.rowS E size enc (.slice a (List.replicate m x0).length c) (List.replicate m x0) :: H)) : OpOk X o e σ H K :=
  OpOk.makeS x0 ho ht hs hby hz hd hn hx hy hb hby0 hl h0 hz0 h1 fun a c => by have := k a c; simp only [List.length_replicate] at this; exact this

/-! ### Sets: maps of nothing -/
def insK {α : Type} [BEq α] (l : List α) (k : α) : List α := if l.contains k = true then l else l ++ [k]

structure KeyLaw {α : Type} [BEq α] (P : Program) (K : TypeId) (enc : α → Value) : Prop where
  check : ∀ x c w, (Instr.checkKey c 10000 K (enc x)).run P w = .ok () w
  find : ∀ x (l : List α) (es : List MapEntry) w, es.map (·.key) = l.map enc → ∃ r, (Instr.findKey K (enc x) es).run P w = .ok r w ∧
    (l.contains x = false → r = none) ∧ (l.contains x = true → ∃ i m, r = some (i, m.val) ∧ es[i]? = some m ∧ m.key = enc x)
  stays : ∀ x w, (Instr.keyThatStays (enc x) (enc x)).run P w = .ok (enc x) w

def Res.setS {α : Type} (enc : α → Value) (b : Nat) (l : List α) : Res where
  bl := [b]
  holds w := ∃ es clock, w.heap[b]? = some (.map es clock) ∧ es.toList.map (·.key) = l.map enc ∧ ∀ m ∈ es.toList, m.val = .agg #[]
  lt w k hk h := by rw [List.mem_singleton.1 hk]; obtain ⟨_, _, h, _⟩ := h; exact (Array.getElem?_eq_some_iff.1 h).1
  keep w w' hb h := by obtain ⟨es, c, h1, h2⟩ := h; exact ⟨es, c, by rw [hb b (List.mem_singleton.2 rfl)]; exact h1, h2⟩

def keyI (x : Int) : Value := .int .i64 x
theorem findNow_int (x : Int) : ∀ (l : List Int) (es : List MapEntry) (i : Nat), es.map (·.key) = l.map keyI → ∃ r, Instr.findNow (.int .i64) (keyI x) es i = some r ∧
    (l.contains x = false → r = none) ∧ (l.contains x = true → ∃ j m, r = some (i + j, m.val) ∧ es[j]? = some m ∧ m.key = keyI x)
  | [], [], i, _ => ⟨none, rfl, fun _ => rfl, fun h => by simp at h⟩
  | [], _ :: _, i, h => by simp at h
  | _ :: _, [], i, h => by simp at h
  | y :: l, m :: es, i, h => by
    simp only [List.map_cons, List.cons.injEq] at h
    obtain ⟨h1, h2⟩ := h
    unfold Instr.findNow
    rw [h1]
    simp only [Instr.sameNow, keyI, if_true]
    by_cases hxy : x = y
    · subst hxy
      simp only [beq_self_eq_true]
      exact ⟨_, rfl, fun h => by simp at h, fun _ => ⟨0, m, rfl, rfl, h1⟩⟩
    · have hb : (x == y) = false := by simpa using hxy
      simp only [hb]
      obtain ⟨r, h3, h4, h5⟩ := findNow_int x l es (i + 1) h2
      refine ⟨r, h3, fun h => h4 ?_, fun h => ?_⟩
      · rw [List.contains_cons, hb, Bool.false_or] at h; exact h
      · rw [List.contains_cons, hb, Bool.false_or] at h
        obtain ⟨j, m', e1, e2, e3⟩ := h5 h
        exact ⟨j + 1, m', by rw [e1]; congr 2; omega, by simpa using e2, e3⟩
theorem run_checkKey_int {P : Program} {K : TypeId} (hK : P.underlying K = some (.int .i64)) (d : Nat) (x : Int) (c : Bool) (w : World) : (Instr.checkKey c (d + 1) K (keyI x)).run P w = .ok () w := by
  simp [Instr.checkKey, run_underlying hK, keyI]
theorem keyI_law {P : Program} {K : TypeId} (hK : P.underlying K = some (.int .i64)) : KeyLaw P K keyI where
  check x c w := run_checkKey_int hK 9999 x c w
  find x l es w h := by
    obtain ⟨r, h1, h2, h3⟩ := findNow_int x l es 0 h
    refine ⟨r, by simp [Instr.findKey, run_underlying hK, h1], h2, fun hc => ?_⟩
    obtain ⟨j, m, e1, e2, e3⟩ := h3 hc
    exact ⟨j, m, by rw [e1, Nat.zero_add], e2, e3⟩
  stays x w := by
    have h : Instr.sameBits 10000 (keyI x) (keyI x) = true := by unfold keyI; rw [Instr.sameBits]; simp
    simp [Instr.keyThatStays, h]

section
variable {X : Ctx} {e : Env} {σ : Store} {H F : List Res} {o : Oper} {x y z : Operand} {K : Env → Store → List Res → Prop} {α : Type}
theorem OpOk.makeMapS {T d : Nat} {enc : α → Value} (ho : o.op = .makeMap T none) (hd : o.dst = some d) (hn : Nat.blt d X.n = true) (k : ∀ b, K (upd e d (.map (some b))) σ (Res.setS enc b [] :: H)) : OpOk X o e σ H K := by
  intro u0 C0 τ0 w a hw ha K' Q hK
  refine Oper.wp_of_run (w' := w.alloc (.map #[] 0)) (v := .map (some w.heap.size)) ?_ (hK _ _ _ _ _ (k w.heap.size) (hw.gain1 (some _) rfl rfl rfl rfl (by simp) (Nat.le_refl _) (fun k hk => alloc_old w _ k hk) ⟨#[], 0, heap_alloc_new w _, rfl, by simp⟩ (fun b hb => by cases hb; exact Nat.le_refl _)) (put_dst ha hd hn _))
  simp [execOp, ho, Instr.makeMap]
theorem run_getObj_map' {P : Program} {w : World} {r : Nat} {es : Array MapEntry} {clock : Nat} (h : w.heap[r]? = some (.map es clock)) : (getObj r).run P w = .ok (.map es clock) w := by simp [getObj, Sem.run, h]
theorem run_setObj_map' {P : Program} {w : World} {r : Nat} {es : Array MapEntry} {clock : Nat} (o : Obj) (h : w.heap[r]? = some (.map es clock)) : (setObj r o).run P w = .ok () { w with heap := w.heap.setIfInBounds r o } := by simp [setObj, Sem.run, h]
theorem setS_sees [BEq α] {enc : α → Value} {b : Nat} {l : List α} {i : Nat} {w : World} (hi : H[i]? = some (Res.setS enc b l)) (hw : Sees σ H w) :
    ∃ es clock, w.heap[b]? = some (.map es clock) ∧ es.toList.map (·.key) = l.map enc ∧ ∀ m ∈ es.toList, m.val = .agg #[] := hw.2 _ (List.mem_of_getElem? hi)
theorem OpVal.lookSet [BEq α] {P : Program} {n T KT ET i : Nat} {enc : α → Value} {b : Nat} {l : List α} {q : α} (ho : o.op = .lookup T x y true) (ht : P.underlying T = some (.map KT ET)) (hz : zeroOf P ET = some (.agg #[])) (hx : ev e x = .map (some b)) (hi : H[i]? = some (Res.setS enc b l)) (hy : ev e y = enc q) (K : KeyLaw P KT enc) :
    OpVal P n o e σ H (.tuple #[.agg #[], .bool (l.contains q)]) := fun w hw => by
  obtain ⟨es, clock, h1, h2, h3⟩ := setS_sees hi hw
  obtain ⟨r, k1, k2, k3⟩ := K.find q l es.toList w h2
  have hg : (getObj b).run P w = .ok (.map es clock) w := run_getObj_map' h1
  cases hc : l.contains q with
  | false =>
    rw [k2 hc] at k1
    simp [execOp, ho, hx, hy, Instr.lookup, run_underlying ht, hg, K.check, k1, run_zeroValue hz]
  | true =>
    obtain ⟨j, m, e1, e2, e3⟩ := k3 hc
    rw [e1] at k1
    have hm := h3 m (List.mem_of_getElem? e2)
    simp [execOp, ho, hx, hy, Instr.lookup, run_underlying ht, hg, K.check, k1, hm]
theorem OpVal.lenSet [BEq α] {P : Program} {n T KT ET i : Nat} {enc : α → Value} {b : Nat} {l : List α} (ho : o.op = .call { callee := .builtin .len, args := #[x], argTypes := #[T] }) (ht : P.underlying T = some (.map KT ET)) (hx : ev e x = .map (some b)) (hi : H[i]? = some (Res.setS enc b l)) :
    OpVal P n o e σ H (.int .i64 (l.length : Nat)) := fun w hw => by
  obtain ⟨es, clock, h1, h2, h3⟩ := setS_sees hi hw
  have hl : es.size = l.length := by have := congrArg List.length h2; simpa using this
  have hg : (getObj b).run P w = .ok (.map es clock) w := run_getObj_map' h1
  simp [execOp, ho, resolve, invoke, builtin, hx, Builtin.len_, run_underlying ht, hg, goInt, hl]
theorem OpOk.updSet [BEq α] [LawfulBEq α] {T KT ET : Nat} {enc : α → Value} {b : Nat} {l : List α} (q : α) (ho : o.op = .mapUpdate T x y z) (ht : X.P.underlying T = some (.map KT ET)) (hd : o.dst = none) (hx : ev e x = .map (some b)) (hy : ev e y = enc q) (hz : ev e z = .agg #[]) (KL : KeyLaw X.P KT enc)
    (k : K e σ (Res.setS enc b (insK l q) :: F)) : OpOk X o e σ (Res.setS enc b l :: F) K := by
  intro u0 C0 τ0 w a hw ha K' Q hK
  obtain ⟨es, clock, h1, h2, h3⟩ := hw.holds _ (List.mem_cons_self ..)
  obtain ⟨r, k1, k2, k3⟩ := KL.find q l es.toList w h2
  have hg : (getObj b).run X.P w = .ok (.map es clock) w := run_getObj_map' h1
  have hblt : b < w.heap.size := (Array.getElem?_eq_some_iff.1 h1).1
  have key : ∀ es' clock', es'.toList.map (·.key) = (insK l q).map enc → (∀ m ∈ es'.toList, m.val = Value.agg #[]) → Reach u0 C0 τ0 σ { w with heap := w.heap.setIfInBounds b (.map es' clock') } (Res.setS enc b (insK l q) :: F) := fun es' clock' g1 g2 =>
    hw.turn1 (some _) (some _) rfl rfl rfl rfl rfl (by simp) (Nat.le_refl _) (fun k hk hne => by
      have : b ≠ k := fun hx => hne (by rw [hx])
      simp [Array.getElem?_setIfInBounds, this]) ⟨es', clock', by simp [Array.getElem?_setIfInBounds, hblt], g1, g2⟩ (fun c hc => .inl (by cases hc; rfl))
  cases hc : l.contains q with
  | false =>
    rw [k2 hc] at k1
    refine Oper.wp_of_skip (w' := { w with heap := w.heap.setIfInBounds b (.map (es.push { key := enc q, val := .agg #[], born := clock }) (clock + 1)) }) ?_ (hK _ _ _ _ _ k (key _ _ ?_ ?_) (put_dst0 ha hd _))
    · rw [ha.eval']
      simp [execOp, ho, hx, hy, hz, Instr.mapUpdate, run_underlying ht, hg, KL.check, k1, run_setObj_map' _ h1]
    · rw [insK, hc, if_neg Bool.false_ne_true, List.map_append, Array.toList_push, List.map_append, h2]; rfl
    · intro m hm
      simp at hm
      rcases hm with hm | rfl
      · exact h3 m (by simpa using hm)
      · rfl
  | true =>
    obtain ⟨j, m, e1, e2, e3⟩ := k3 hc
    rw [e1] at k1
    have hj : j < es.size := by have := (List.getElem?_eq_some_iff.1 e2).1; simpa using this
    have e2' : es[j]? = some m := by simpa using e2
    refine Oper.wp_of_skip (w' := { w with heap := w.heap.setIfInBounds b (.map (es.modify j fun m => { m with key := enc q, val := .agg #[] }) clock) }) ?_ (hK _ _ _ _ _ k (key _ _ ?_ ?_) (put_dst0 ha hd _))
    · rw [ha.eval']
      simp [execOp, ho, hx, hy, hz, Instr.mapUpdate, run_underlying ht, hg, KL.check, k1, run_setObj_map' _ h1, e2', e3, KL.stays]
    · rw [insK, if_pos hc, ← h2]
      apply List.ext_getElem?
      intro i
      simp only [List.getElem?_map, Array.getElem?_toList, Array.getElem?_modify]
      by_cases hi : j = i
      · subst hi; simp [e2', e3]
      · simp [hi]
    · intro u hu
      obtain ⟨i, hi, hu'⟩ := List.getElem_of_mem hu
      have : (es.modify j fun m => { m with key := enc q, val := .agg #[] })[i]? = some u := by rw [← Array.getElem?_toList, List.getElem?_eq_getElem hi, hu']
      rw [Array.getElem?_modify] at this
      by_cases hij : j = i
      · subst hij
        simp [e2'] at this
        subst this; rfl
      · simp [hij] at this
        exact h3 u (List.mem_of_getElem? (by simpa using this))
end
end Go.E
end

/- N1a -/
section
/- Decompiled: what an automaton takes. -/
set_option linter.unusedVariables false
set_option linter.unusedSimpArgs false
namespace Go.Proofs.Ytcidppnlhhkhhaa
open Go Go.E
set_option maxRecDepth 100000
private theorem pf26 : Go.E.plainF Try.prog 26 = true := by kernel_rfl
private theorem pl83 : Go.E.plOf Try.prog 83 = some #[] := by kernel_rfl
private theorem sz83 : Go.E.szOf Try.prog 83 = some 0 := by kernel_rfl
private theorem ze83 : Go.E.zeroOf Try.prog 83 = some (.agg #[]) := by kernel_rfl

noncomputable def nfa_Takes_j2 (k137 : Nat) (m139 : List Int) : Option (((List Int) × Nat) ⊕ (((List Int) × Nat) ⊕ (Bool × Int))) :=
  nxt (m139, (k137 + 1))
noncomputable def nfa_Takes_b3 (x0 : Nfa) (m125 : List Int) (x1 : List UInt8) (k127 : Nat) (m136 : List Int) (k137 : Nat) : Option (((List Int) × Nat) ⊕ (((List Int) × Nat) ⊕ (Bool × Int))) :=
  iteO (decide (((k137 : Nat) : Int) < ((x0.edges.length : Nat) : Int))) (iteO (!(m125.contains ((nth x0.edges k137 Arrow.zero).frm))) (nfa_Takes_j2 k137 m136) (iteO (((nth x0.edges k137 Arrow.zero).set).has (nth x1 k127 (0 : UInt8)).toNat) (nfa_Takes_j2 k137 (insK m136 ((nth x0.edges k137 Arrow.zero).to))) (nfa_Takes_j2 k137 m136))) (fin (nxt (m136, (k127 + 1))))
noncomputable def nfa_Takes_b4 (x0 : Nfa) (m114 : List Int) (k150 : Nat) : Option ((Nat) ⊕ (Bool × Int)) :=
  iteO (decide (((k150 : Nat) : Int) < ((x0.ends.length : Nat) : Int))) (iteO (m114.contains (nth x0.ends k150 (0 : Int))) (fin (some (true, 0))) (nxt (k150 + 1))) (fin (some (false, 0)))
noncomputable def nfa_Takes_j1 (x0 : Nfa) (m114 : List Int) : Option (Bool × Int) :=
  iter (fun q : Nat => nfa_Takes_b4 x0 m114 q) 0
noncomputable def nfa_Takes_b2 (x1 : List UInt8) (x0 : Nfa) (m125 : List Int) (k127 : Nat) : Option (((List Int) × Nat) ⊕ (Bool × Int)) :=
  iteO (decide (((k127 : Nat) : Int) < ((x1.length : Nat) : Int))) (iteO (decide (0 < ((m125.length : Nat) : Int))) (iter (fun q : (List Int) × Nat => nfa_Takes_b3 x0 m125 x1 k127 q.1 q.2) (([] : List Int), 0)) (fin (nfa_Takes_j1 x0 m125))) (fin (nfa_Takes_j1 x0 m125))
noncomputable def nfa_Takes_b1 (x0 : Nfa) (x1 : List UInt8) (m110 : List Int) (k111 : Nat) : Option (((List Int) × Nat) ⊕ (Bool × Int)) :=
  iteO (decide (((k111 : Nat) : Int) < ((x0.starts.length : Nat) : Int))) (nxt ((insK m110 (nth x0.starts k111 (0 : Int))), (k111 + 1))) (fin (iter (fun q : (List Int) × Nat => nfa_Takes_b2 x1 x0 q.1 q.2) (m110, 0)))
noncomputable def nfa_Takes (x0 : Nfa) (x1 : List UInt8) : Option (Bool × Int) :=
  grd (x1.length ≤ 281474976710656) (iteO (decide ((errB (checkB x0)) ≠ 0)) (some (false, 1)) (iter (fun q : (List Int) × Nat => nfa_Takes_b1 x0 x1 q.1 q.2) (([] : List Int), 0)))
theorem nfa_Takes_con {σ : Store} {x0 : Nfa} {a0_0 : Option Addr} {c0_0 : Nat} {a0_1 : Option Addr} {c0_1 : Nat} {a0_2 : Option Addr} {c0_2 : Nat} {x1 : List UInt8} (f0_0 : RS σ 1 Go.E.encI (.slice a0_0 x0.starts.length c0_0) x0.starts) (f0_1 : RS σ 1 Go.E.encI (.slice a0_1 x0.ends.length c0_1) x0.ends) (f0_2 : RS σ 6 encE (.slice a0_2 x0.edges.length c0_2) x0.edges) {r : Bool × Int} (hh : nfa_Takes x0 x1 = some r) :
    Con Try.prog 23 #[.agg #[.int .i64 x0.states, .slice a0_0 x0.starts.length c0_0, .slice a0_1 x0.ends.length c0_1, .slice a0_2 x0.edges.length c0_2], .string (bs x1)] σ [] (PureP (.tuple #[.bool r.1, .int .i64 r.2]) σ) := by
  dsimp only [nfa_Takes] at hh
  have f0_0b := f0_0.rv.big
  have f0_1b := f0_1.rv.big
  have f0_2b := f0_2.rv.big
  refine Con.mk (n := 89) Try.func23 rfl rfl rfl (fun w0 => ?_)
  have x1b := grd_c hh
  replace hh := grd_t hh
  refine TC.seq ?_
  refine TC.region ?_
  refine TL.op rfl (OpOk.boxA rfl rfl rfl rfl (fun b101 => ?_))
  refine TL.v rfl (OpVal.moveB (.inr rfl) rfl) rfl rfl ?_
  refine TL.v rfl (OpVal.moveI (.inr rfl) rfl) rfl rfl ?_
  refine TL.nil ?_
  refine S.n ?_
  refine TC.seq ?_
  refine TC.seq ?_
  refine TC.region ?_
  refine TL.v rfl (OpVal.loadAll rfl ag25 sz25 rfl (i := 0) rfl rfl) rfl rfl ?_
  refine TL.op rfl (OpOk.callP (check_con _ x0 ⟨a0_0, c0_0, a0_1, c0_1, a0_2, c0_2⟩ ⟨f0_0, f0_1, f0_2, fun x _ => x.set.isOk⟩) rfl rfl pf18 rfl rfl rfl ?_)
  refine TL.v rfl (OpVal.neq rfl rfl rfl) rfl rfl ?_
  refine TL.nil ?_
  refine S.n ?_
  refine TC.cond rfl (fun h103 => ?_) (fun h103 => ?_)
  · replace hh := iteO_t h103 hh
    replace h103 := of_decide_eq_true h103
    refine TC.seq ?_
    refine TC.region ?_
    refine TL.v rfl (OpVal.moveB (.inr rfl) rfl) rfl rfl ?_
    refine TL.v rfl (OpVal.moveI (.inr rfl) rfl) rfl rfl ?_
    refine TL.nil ?_
    refine S.n ?_
    refine TC.ofSub (Sub.pre 0 rfl) ?_
    refine TC.ret ?_
    refine S.r ?_
    obtain rfl := Option.some.inj hh
    exact RetOk.mk' (rs := [.tmp 4, .tmp 5]) [] rfl (.inl rfl) (RVs.tmp rfl (RVs.tmp rfl RVs.nil)) (List.sublist_append_left _ _) ⟨rfl, rfl, rfl⟩
  · replace hh := iteO_f h103 hh
    replace h103 := of_decide_eq_false h103
    refine TC.skip ?_
    refine S.n ?_
    refine TC.seq ?_
    refine TC.region ?_
    refine TL.op rfl (OpOk.makeMapS (enc := keyI) rfl rfl rfl (fun b104 => ?_))
    refine TL.v rfl (OpVal.moveMap (.inr rfl) rfl) rfl rfl ?_
    refine TL.nil ?_
    refine S.n ?_
    refine TC.seq ?_
    refine TC.seq ?_
    refine TC.region ?_
    refine TL.v rfl (OpVal.fieldLoc rfl fo25_1 rfl) rfl rfl ?_
    refine TL.v rfl (OpVal.loadLoc rfl ag22 rfl (i := 1) rfl rfl) rfl rfl ?_
    refine TL.v rfl (OpVal.lenC rfl Try.underlying22 rfl) rfl rfl ?_
    refine TL.v rfl (OpVal.moveI (.inl rfl) rfl) rfl rfl ?_
    refine TL.nil ?_
    refine S.n ?_
    refine TC.block ?_
    refine TC.loopG (α := ((List Int) × Nat) × (Unit)) [8, 26, 27, 28, 29, 30, 31, 32, 33] (fun g => [(26, .int .i64 ((g.1.2 : Nat) : Int))]) (fun g => [Res.cells b101 #[.int .i64 x0.states, .slice a0_0 x0.starts.length c0_0, .slice a0_1 x0.ends.length c0_1, .slice a0_2 x0.edges.length c0_2] 25, Res.setS keyI b104 g.1.1]) (fun g => σ) (fun g => iter (fun q : (List Int) × Nat => nfa_Takes_b1 x0 x1 q.1 q.2) g.1 = some r) (fun g => rounds (fun q : (List Int) × Nat => nfa_Takes_b1 x0 x1 q.1 q.2) g.1) ((([] : List Int), 0), ()) (Sub.front 1 rfl rfl (Sub.pre 2 rfl)) rfl (by repeat (first | exact trivial | refine ⟨rfl, ?_⟩)) hh (fun g1 j1 hg1 => ?_)
    obtain ⟨⟨m110, k111⟩, _⟩ := g1
    have hh := hg1; clear hg1
    show TC _ _ _ (upds (mask _ j1 _) [(26, .int .i64 ((k111 : Nat) : Int))]) _ [Res.cells b101 #[.int .i64 x0.states, .slice a0_0 x0.starts.length c0_0, .slice a0_1 x0.ends.length c0_1, .slice a0_2 x0.edges.length c0_2] 25, Res.setS keyI b104 m110]
    obtain ⟨z1, hh, hR1⟩ := iter_e hh
    dsimp only [nfa_Takes_b1] at hh
    refine TC.seq ?_
    refine TC.region ?_
    refine TL.v rfl (OpVal.lss rfl rfl rfl) rfl rfl ?_
    refine TL.nil ?_
    refine S.n ?_
    refine TC.seq ?_
    refine TC.cond rfl (fun h112 => ?_) (fun h112 => ?_)
    · replace hh := iteO_t h112 hh
      replace h112 := of_decide_eq_true h112
      refine TC.skip ?_
      refine S.n ?_
      refine TC.seq ?_
      refine TC.block ?_
      refine TC.seq ?_
      refine TC.region ?_
      refine TL.v rfl (OpVal.indexN rfl Try.underlying22 sz3 rfl rfl f0_0.rv.sl (by omega)) rfl rfl ?_
      refine TL.v rfl (OpVal.loadS1 (0 : Int) rfl ag3 rfl f0_0 (by omega) rfl) rfl rfl ?_
      refine TL.v rfl (OpVal.moveI (.inr rfl) rfl) rfl rfl ?_
      refine TL.nil ?_
      refine S.n ?_
      refine TC.region ?_
      refine TL.v rfl (OpVal.moveMap (.inl rfl) rfl) rfl rfl ?_
      refine TL.v rfl (OpVal.moveI (.inl rfl) rfl) rfl rfl ?_
      refine TL.v rfl (OpVal.buildL rfl pl83 ze83 rfl) rfl rfl ?_
      refine TL.front 1 rfl rfl ?_
      refine TL.op rfl (OpOk.updSet (nth x0.starts k111 (0 : Int)) rfl Try.underlying82 rfl rfl rfl rfl (keyI_law Try.underlying3) ?_)
      refine TL.nil ?_
      refine B.n ?_
      refine S.n ?_
      refine TC.region ?_
      refine TL.v rfl (OpVal.succ rfl rfl rfl (by omega)) rfl rfl ?_
      refine TL.v rfl (OpVal.moveI (.inl rfl) rfl) rfl rfl ?_
      refine TL.nil ?_
      refine S.n ?_
      obtain ⟨hh, hlt113⟩ := nxt_x hR1 hh
      refine ⟨by repeat (first | exact Agr.refl _ _ | exact Agr.mask | refine Agr.upd rfl ?_ | refine Agr.maskIn rfl ?_ | refine Agr.upds rfl ?_), (((insK m110 (nth x0.starts k111 (0 : Int))), (k111 + 1)), ()), hlt113, hh, by repeat (first | exact trivial | refine ⟨rfl, ?_⟩), Sub.front 1 rfl rfl (Sub.pre 2 rfl), rfl⟩
    · replace hh := iteO_f h112 hh
      replace h112 := of_decide_eq_false h112
      refine TC.exit ?_
      refine S.x ?_
      refine S.x ?_
      replace hh := fin_x hR1 hh
      refine TC.exitHere ?_
      refine S.n ?_
      refine TC.cutG (α := ((List Int)) × (Nat)) [6, 9, 10, 12, 13, 14, 34, 35, 36, 37, 38, 39, 40, 41, 42, 43, 44, 45, 46, 47, 48, 49, 50, 51, 52, 53, 54, 55, 56, 57, 58, 59, 60, 61, 62, 63, 64, 65, 66, 67, 68, 69, 70, 71, 72, 73] (fun g => [(6, .map (some g.2))]) (fun g => [Res.cells b101 #[.int .i64 x0.states, .slice a0_0 x0.starts.length c0_0, .slice a0_1 x0.ends.length c0_1, .slice a0_2 x0.edges.length c0_2] 25, Res.setS keyI g.2 g.1]) (fun g => σ) (fun g => nfa_Takes_j1 x0 g.1 = some r) ?_ (fun g j hg => ?_)
      · skip
        refine TC.seq ?_
        refine TC.region ?_
        refine TL.v rfl (OpVal.moveI (.inr rfl) rfl) rfl rfl ?_
        refine TL.nil ?_
        refine S.n ?_
        refine TC.block ?_
        refine TC.loopG (α := ((List Int) × Nat) × (Nat)) [6, 9, 10, 12, 13, 14, 34, 35, 36, 37, 38, 39, 40, 41, 42, 43, 44, 45, 46, 47, 48, 49, 50, 51, 52, 53, 54, 55, 56, 57, 58, 59, 60, 61, 62, 63, 64, 65, 66, 67, 68, 69, 70, 71, 72, 73] (fun g => [(6, .map (some g.2)), (9, .int .i64 ((g.1.2 : Nat) : Int))]) (fun g => [Res.cells b101 #[.int .i64 x0.states, .slice a0_0 x0.starts.length c0_0, .slice a0_1 x0.ends.length c0_1, .slice a0_2 x0.edges.length c0_2] 25, Res.setS keyI g.2 g.1.1]) (fun g => σ) (fun g => iter (fun q : (List Int) × Nat => nfa_Takes_b2 x1 x0 q.1 q.2) g.1 = some r) (fun g => rounds (fun q : (List Int) × Nat => nfa_Takes_b2 x1 x0 q.1 q.2) g.1) ((m110, 0), b104) (Sub.front 1 rfl rfl (Sub.front 1 rfl rfl (Sub.pre 2 rfl))) rfl (by repeat (first | exact trivial | refine ⟨rfl, ?_⟩)) hh (fun g2 j2 hg2 => ?_)
        obtain ⟨⟨m125, k127⟩, b126⟩ := g2
        have hh := hg2; clear hg2
        show TC _ _ _ (upds (mask _ j2 _) [(6, .map (some b126)), (9, .int .i64 ((k127 : Nat) : Int))]) _ [Res.cells b101 #[.int .i64 x0.states, .slice a0_0 x0.starts.length c0_0, .slice a0_1 x0.ends.length c0_1, .slice a0_2 x0.edges.length c0_2] 25, Res.setS keyI b126 m125]
        obtain ⟨z1, hh, hR1⟩ := iter_e hh
        dsimp only [nfa_Takes_b2] at hh
        refine TC.seq ?_
        refine TC.seq ?_
        refine TC.region ?_
        refine TL.v rfl (OpVal.moveI (.inl rfl) rfl) rfl rfl ?_
        refine TL.v rfl (OpVal.moveStr (.inl rfl) rfl) rfl rfl ?_
        refine TL.v rfl (OpVal.lenBs rfl Try.underlying9 rfl) rfl rfl ?_
        refine TL.v rfl (OpVal.lss rfl rfl rfl) rfl rfl ?_
        refine TL.v rfl (OpVal.moveB (.inl rfl) rfl) rfl rfl ?_
        refine TL.split 38 rfl (fun h128 => ?_) (fun h128 => ?_)
        · replace hh := iteO_t h128 hh
          replace h128 := of_decide_eq_true h128
          refine TL.gv rfl rfl rfl rfl rfl (OpVal.moveMap (.inl rfl) rfl) rfl rfl ?_
          refine TL.gv rfl rfl rfl rfl rfl (OpVal.lenSet rfl Try.underlying82 rfl (i := 1) rfl) rfl rfl ?_
          refine TL.gv rfl rfl rfl rfl rfl (OpVal.gtr rfl rfl rfl) rfl rfl ?_
          refine TL.v rfl (OpVal.pickTB rfl rfl rfl) rfl rfl ?_
          refine TL.nil ?_
          refine S.n ?_
          refine TC.cond rfl (fun h129 => ?_) (fun h129 => ?_)
          · replace hh := iteO_t h129 hh
            replace h129 := of_decide_eq_true h129
            refine TC.skip ?_
            refine S.n ?_
            refine TC.seq ?_
            refine TC.block ?_
            refine TC.scope ?_
            refine TC.seq ?_
            refine TC.region ?_
            refine TL.op rfl (OpOk.makeMapS (enc := keyI) rfl rfl rfl (fun b130 => ?_))
            refine TL.v rfl (OpVal.moveMap (.inr rfl) rfl) rfl rfl ?_
            refine TL.nil ?_
            refine S.n ?_
            refine TC.seq ?_
            refine TC.label ?_
            refine S.n ?_
            refine TC.seq ?_
            refine TC.seq ?_
            refine TC.region ?_
            refine TL.v rfl (OpVal.fieldLoc rfl fo25_3 rfl) rfl rfl ?_
            refine TL.v rfl (OpVal.loadLoc rfl ag23 rfl (i := 1) rfl rfl) rfl rfl ?_
            refine TL.v rfl (OpVal.lenC rfl Try.underlying23 rfl) rfl rfl ?_
            refine TL.v rfl (OpVal.moveI (.inl rfl) rfl) rfl rfl ?_
            refine TL.nil ?_
            refine S.n ?_
            refine TC.block ?_
            refine TC.loopG (α := ((List Int) × Nat) × (Unit)) [12, 13, 14, 49, 50, 51, 52, 53, 54, 55, 56, 57, 58, 59, 60, 61, 62, 63, 64, 65, 66, 67, 68, 69, 70, 71, 72] (fun g => [(49, .int .i64 ((g.1.2 : Nat) : Int))]) (fun g => [Res.cells b101 #[.int .i64 x0.states, .slice a0_0 x0.starts.length c0_0, .slice a0_1 x0.ends.length c0_1, .slice a0_2 x0.edges.length c0_2] 25, Res.setS keyI b126 m125, Res.setS keyI b130 g.1.1]) (fun g => σ) (fun g => iter (fun q : (List Int) × Nat => nfa_Takes_b3 x0 m125 x1 k127 q.1 q.2) g.1 = some z1) (fun g => rounds (fun q : (List Int) × Nat => nfa_Takes_b3 x0 m125 x1 k127 q.1 q.2) g.1) ((([] : List Int), 0), ()) (Sub.front 2 rfl rfl (Sub.front 2 rfl rfl (Sub.pre 3 rfl))) rfl (by repeat (first | exact trivial | refine ⟨rfl, ?_⟩)) hh (fun g3 j3 hg3 => ?_)
            obtain ⟨⟨m136, k137⟩, _⟩ := g3
            have hh := hg3; clear hg3
            show TC _ _ _ (upds (mask _ j3 _) [(49, .int .i64 ((k137 : Nat) : Int))]) _ [Res.cells b101 #[.int .i64 x0.states, .slice a0_0 x0.starts.length c0_0, .slice a0_1 x0.ends.length c0_1, .slice a0_2 x0.edges.length c0_2] 25, Res.setS keyI b126 m125, Res.setS keyI b130 m136]
            obtain ⟨z2, hh, hR2⟩ := iter_e hh
            dsimp only [nfa_Takes_b3] at hh
            refine TC.seq ?_
            refine TC.region ?_
            refine TL.v rfl (OpVal.lss rfl rfl rfl) rfl rfl ?_
            refine TL.nil ?_
            refine S.n ?_
            refine TC.seq ?_
            refine TC.cond rfl (fun h138 => ?_) (fun h138 => ?_)
            · replace hh := iteO_t h138 hh
              replace h138 := of_decide_eq_true h138
              refine TC.skip ?_
              refine S.n ?_
              refine TC.cutG (α := ((List Int)) × (Unit)) [12, 13, 14, 51, 52, 53, 54, 55, 56, 57, 58, 59, 60, 61, 62, 63, 64, 65, 66, 67, 68, 69, 70, 71] (fun g => []) (fun g => [Res.cells b101 #[.int .i64 x0.states, .slice a0_0 x0.starts.length c0_0, .slice a0_1 x0.ends.length c0_1, .slice a0_2 x0.edges.length c0_2] 25, Res.setS keyI b126 m125, Res.setS keyI b130 g.1]) (fun g => σ) (fun g => nfa_Takes_j2 k137 g.1 = some z2) ?_ (fun g j hg => ?_)
              · skip
                refine TC.block ?_
                refine TC.seq ?_
                refine TC.region ?_
                refine TL.v rfl (OpVal.indexN rfl Try.underlying23 sz80 rfl rfl f0_2.rv.sl (by omega)) rfl rfl ?_
                refine TL.v rfl (OpVal.loadSA Arrow.zero rfl ag80 sz80 rfl f0_2 (by omega) (by omega)) rfl rfl ?_
                refine TL.op rfl (OpOk.alloc rfl ze80 rfl rfl (fun b140 => ?_))
                refine TL.op rfl (OpOk.storeAll rfl sz80 rfl rfl rfl rfl rfl rfl ?_)
                refine TL.nil ?_
                refine S.n ?_
                refine TC.seq ?_
                refine TC.seq ?_
                refine TC.region ?_
                refine TL.v rfl (OpVal.moveMap (.inl rfl) rfl) rfl rfl ?_
                refine TL.v rfl (OpVal.fieldLoc rfl fo80_0 rfl) rfl rfl ?_
                refine TL.v rfl (OpVal.loadLoc rfl ag3 rfl (i := 0) rfl rfl) rfl rfl ?_
                refine TL.v rfl (OpVal.lookSet rfl Try.underlying82 ze83 rfl (i := 2) rfl rfl (keyI_law Try.underlying3)) rfl rfl ?_
                refine TL.v rfl (OpVal.moveT (.inl rfl) rfl) rfl rfl ?_
                refine TL.v rfl (OpVal.extract rfl rfl rfl) rfl rfl ?_
                refine TL.v rfl (OpVal.extract rfl rfl rfl) rfl rfl ?_
                refine TL.op rfl (OpOk.alloc rfl ze83 rfl rfl (fun b142 => ?_))
                refine TL.op rfl (OpOk.storeAll rfl sz83 rfl rfl rfl rfl rfl rfl ?_)
                refine TL.v rfl (OpVal.moveB (.inr rfl) rfl) rfl rfl ?_
                refine TL.nil ?_
                refine S.n ?_
                refine TC.seq ?_
                refine TC.region ?_
                refine TL.v rfl (OpVal.moveB (.inl rfl) rfl) rfl rfl ?_
                refine TL.v rfl (OpVal.not rfl rfl) rfl rfl ?_
                refine TL.nil ?_
                refine S.n ?_
                refine TC.cond rfl (fun h144 => ?_) (fun h144 => ?_)
                · replace hh := iteO_t h144 hh
                  refine TC.exit ?_
                  refine S.x ?_
                  refine TC.exitHere ?_
                  refine S.n ?_
                  refine ⟨by repeat (first | exact Agr.refl _ _ | exact Agr.mask | refine Agr.upd rfl ?_ | refine Agr.maskIn rfl ?_ | refine Agr.upds rfl ?_), (m136, ()), hh, by repeat (first | exact trivial | refine ⟨rfl, ?_⟩), Sub.front 4 rfl rfl (Sub.front 4 rfl rfl (Sub.front 4 rfl rfl (Sub.pre 3 rfl))), rfl⟩
                · replace hh := iteO_f h144 hh
                  refine TC.skip ?_
                  refine S.n ?_
                  refine TC.seq ?_
                  refine TC.draw [] (by kernel_rfl) ?_
                  refine TA.takeP 0 rfl (by kernel_rfl) (by kernel_rfl) (by kernel_rfl) rfl (OpVal.fieldLoc rfl fo80_2 rfl) rfl rfl ?_
                  refine TA.take 1 rfl (by kernel_rfl) (by kernel_rfl) (by kernel_rfl) (by kernel_rfl) rfl (OpVal.loadLocA rfl ag28 sz28 rfl (i := 1) rfl rfl rfl) rfl rfl ?_
                  refine TA.takeP 2 rfl (by kernel_rfl) (by kernel_rfl) (by kernel_rfl) rfl (OpVal.moveStr (.inl rfl) rfl) rfl rfl ?_
                  refine TA.takeP 3 rfl (by kernel_rfl) (by kernel_rfl) (by kernel_rfl) rfl (OpVal.moveI (.inl rfl) rfl) rfl rfl ?_
                  refine TA.takeP 4 rfl (by kernel_rfl) (by kernel_rfl) (by kernel_rfl) rfl (OpVal.indexBs rfl Try.underlying9 rfl rfl (by omega)) rfl rfl ?_
                  refine TA.act 5 (by kernel_rfl) rfl rfl (OpOk.callP (has_con _ ((nth x0.edges k137 Arrow.zero).set) (nth x1 k127 (0 : UInt8)).toNat (BSet.isOk _) (UInt8.toNat_lt _)) rfl rfl pf26 rfl rfl rfl ⟨(fun w h => sees_of (Store.le.refl _) (fun r hr => hr) w h), ?_⟩)
                  refine TA.done (by kernel_rfl) ?_
                  refine S.n ?_
                  refine TC.cond rfl (fun h145 => ?_) (fun h145 => ?_)
                  · replace hh := iteO_t h145 hh
                    refine TC.region ?_
                    refine TL.v rfl (OpVal.moveMap (.inl rfl) rfl) rfl rfl ?_
                    refine TL.v rfl (OpVal.fieldLoc rfl fo80_1 rfl) rfl rfl ?_
                    refine TL.v rfl (OpVal.loadLoc rfl ag3 rfl (i := 1) rfl rfl) rfl rfl ?_
                    refine TL.v rfl (OpVal.buildL rfl pl83 ze83 rfl) rfl rfl ?_
                    refine TL.front 4 rfl rfl ?_
                    refine TL.op rfl (OpOk.updSet ((nth x0.edges k137 Arrow.zero).to) rfl Try.underlying82 rfl rfl rfl rfl (keyI_law Try.underlying3) ?_)
                    refine TL.nil ?_
                    refine B.n ?_
                    refine S.n ?_
                    refine ⟨by repeat (first | exact Agr.refl _ _ | exact Agr.mask | refine Agr.upd rfl ?_ | refine Agr.maskIn rfl ?_ | refine Agr.upds rfl ?_), ((insK m136 ((nth x0.edges k137 Arrow.zero).to)), ()), hh, by repeat (first | exact trivial | refine ⟨rfl, ?_⟩), Sub.front 4 rfl rfl (Sub.front 4 rfl rfl (Sub.pre 3 rfl)), rfl⟩
                  · replace hh := iteO_f h145 hh
                    refine TC.skip ?_
                    refine B.n ?_
                    refine S.n ?_
                    refine ⟨by repeat (first | exact Agr.refl _ _ | exact Agr.mask | refine Agr.upd rfl ?_ | refine Agr.maskIn rfl ?_ | refine Agr.upds rfl ?_), (m136, ()), hh, by repeat (first | exact trivial | refine ⟨rfl, ?_⟩), Sub.front 4 rfl rfl (Sub.front 4 rfl rfl (Sub.front 4 rfl rfl (Sub.pre 3 rfl))), rfl⟩
              · skip
                obtain ⟨m139, _⟩ := g
                have hh := hg; clear hg
                show TC _ _ _ (upds (mask _ j _) []) _ [Res.cells b101 #[.int .i64 x0.states, .slice a0_0 x0.starts.length c0_0, .slice a0_1 x0.ends.length c0_1, .slice a0_2 x0.edges.length c0_2] 25, Res.setS keyI b126 m125, Res.setS keyI b130 m139]
                dsimp only [nfa_Takes_j2] at hh
                refine TC.region ?_
                refine TL.v rfl (OpVal.succ rfl rfl rfl (by omega)) rfl rfl ?_
                refine TL.v rfl (OpVal.moveI (.inl rfl) rfl) rfl rfl ?_
                refine TL.nil ?_
                refine S.n ?_
                obtain ⟨hh, hlt146⟩ := nxt_x hR2 hh
                refine ⟨by repeat (first | exact Agr.refl _ _ | exact Agr.mask | refine Agr.upd rfl ?_ | refine Agr.maskIn rfl ?_ | refine Agr.upds rfl ?_), ((m139, (k137 + 1)), ()), hlt146, hh, by repeat (first | exact trivial | refine ⟨rfl, ?_⟩), Sub.front 2 rfl rfl (Sub.front 2 rfl rfl (Sub.front 2 rfl rfl (Sub.pre 3 rfl))), rfl⟩
            · replace hh := iteO_f h138 hh
              replace h138 := of_decide_eq_false h138
              refine TC.exit ?_
              refine S.x ?_
              refine S.x ?_
              replace hh := fin_x hR2 hh
              refine TC.exitHere ?_
              refine S.n ?_
              refine TC.region ?_
              refine TL.v rfl (OpVal.moveMap (.inl rfl) rfl) rfl rfl ?_
              refine TL.v rfl (OpVal.moveMap (.inr rfl) rfl) rfl rfl ?_
              refine TL.nil ?_
              refine P.n ?_
              refine B.n ?_
              refine S.n ?_
              refine TC.region ?_
              refine TL.v rfl (OpVal.moveI (.inl rfl) rfl) rfl rfl ?_
              refine TL.v rfl (OpVal.succ rfl rfl rfl (by omega)) rfl rfl ?_
              refine TL.v rfl (OpVal.moveI (.inr rfl) rfl) rfl rfl ?_
              refine TL.nil ?_
              refine S.n ?_
              obtain ⟨hh, hlt147⟩ := nxt_x hR1 hh
              refine ⟨by repeat (first | exact Agr.refl _ _ | exact Agr.mask | refine Agr.upd rfl ?_ | refine Agr.maskIn rfl ?_ | refine Agr.upds rfl ?_), ((m136, (k127 + 1)), b130), hlt147, hh, by repeat (first | exact trivial | refine ⟨rfl, ?_⟩), Sub.front 2 rfl rfl (Sub.front 1 rfl rfl (Sub.pre 2 rfl)), rfl⟩
          · replace hh := iteO_f h129 hh
            replace h129 := of_decide_eq_false h129
            refine TC.exit ?_
            refine S.x ?_
            refine S.x ?_
            replace hh := fin_x hR1 hh
            refine TC.exitHere ?_
            refine S.n ?_
            refine ⟨by repeat (first | exact Agr.refl _ _ | exact Agr.mask | refine Agr.upd rfl ?_ | refine Agr.maskIn rfl ?_ | refine Agr.upds rfl ?_), (m125, b126), hh, by repeat (first | exact trivial | refine ⟨rfl, ?_⟩), Sub.front 1 rfl rfl (Sub.front 1 rfl rfl (Sub.pre 2 rfl)), rfl⟩
        · replace hh := iteO_f h128 hh
          replace h128 := of_decide_eq_false h128
          refine TL.goff rfl rfl rfl rfl rfl rfl rfl rfl ?_
          refine TL.goff rfl rfl rfl rfl rfl rfl rfl rfl ?_
          refine TL.goff rfl rfl rfl rfl rfl rfl rfl rfl ?_
          refine TL.v rfl (OpVal.pickFB rfl rfl rfl) rfl rfl ?_
          refine TL.nil ?_
          refine S.n ?_
          refine TC.cond rfl (fun h => Bool.noConfusion h) (fun _ => ?_)
          refine TC.exit ?_
          refine S.x ?_
          refine S.x ?_
          replace hh := fin_x hR1 hh
          refine TC.exitHere ?_
          refine S.n ?_
          refine ⟨by repeat (first | exact Agr.refl _ _ | exact Agr.mask | refine Agr.upd rfl ?_ | refine Agr.maskIn rfl ?_ | refine Agr.upds rfl ?_), (m125, b126), hh, by repeat (first | exact trivial | refine ⟨rfl, ?_⟩), Sub.front 1 rfl rfl (Sub.front 1 rfl rfl (Sub.pre 2 rfl)), rfl⟩
      · skip
        obtain ⟨m114, b115⟩ := g
        have hh := hg; clear hg
        show TC _ _ _ (upds (mask _ j _) [(6, .map (some b115))]) _ [Res.cells b101 #[.int .i64 x0.states, .slice a0_0 x0.starts.length c0_0, .slice a0_1 x0.ends.length c0_1, .slice a0_2 x0.edges.length c0_2] 25, Res.setS keyI b115 m114]
        dsimp only [nfa_Takes_j1] at hh
        refine TC.seq ?_
        refine TC.seq ?_
        refine TC.region ?_
        refine TL.v rfl (OpVal.fieldLoc rfl fo25_2 rfl) rfl rfl ?_
        refine TL.v rfl (OpVal.loadLoc rfl ag22 rfl (i := 0) rfl rfl) rfl rfl ?_
        refine TL.v rfl (OpVal.lenC rfl Try.underlying22 rfl) rfl rfl ?_
        refine TL.v rfl (OpVal.moveI (.inl rfl) rfl) rfl rfl ?_
        refine TL.nil ?_
        refine S.n ?_
        refine TC.block ?_
        refine TC.loopG (α := (Nat) × (Unit)) [4, 5, 16, 17, 18, 77, 78, 79, 80, 81, 82, 83, 84, 85, 86, 87, 88] (fun g => [(77, .int .i64 ((g.1 : Nat) : Int))]) (fun g => [Res.setS keyI b115 m114]) (fun g => σ) (fun g => iter (fun q : Nat => nfa_Takes_b4 x0 m114 q) g.1 = some r) (fun g => rounds (fun q : Nat => nfa_Takes_b4 x0 m114 q) g.1) (0, ()) (Sub.front 1 rfl rfl (Sub.pre 1 rfl)) rfl (by repeat (first | exact trivial | refine ⟨rfl, ?_⟩)) hh (fun g4 j4 hg4 => ?_)
        obtain ⟨k150, _⟩ := g4
        have hh := hg4; clear hg4
        show TC _ _ _ (upds (mask _ j4 _) [(77, .int .i64 ((k150 : Nat) : Int))]) _ [Res.setS keyI b115 m114]
        obtain ⟨z1, hh, hR1⟩ := iter_e hh
        dsimp only [nfa_Takes_b4] at hh
        refine TC.seq ?_
        refine TC.region ?_
        refine TL.v rfl (OpVal.lss rfl rfl rfl) rfl rfl ?_
        refine TL.nil ?_
        refine S.n ?_
        refine TC.seq ?_
        refine TC.cond rfl (fun h151 => ?_) (fun h151 => ?_)
        · replace hh := iteO_t h151 hh
          replace h151 := of_decide_eq_true h151
          refine TC.skip ?_
          refine S.n ?_
          refine TC.seq ?_
          refine TC.block ?_
          refine TC.seq ?_
          refine TC.region ?_
          refine TL.v rfl (OpVal.indexN rfl Try.underlying22 sz3 rfl rfl f0_1.rv.sl (by omega)) rfl rfl ?_
          refine TL.v rfl (OpVal.loadS1 (0 : Int) rfl ag3 rfl f0_1 (by omega) rfl) rfl rfl ?_
          refine TL.v rfl (OpVal.moveI (.inr rfl) rfl) rfl rfl ?_
          refine TL.nil ?_
          refine S.n ?_
          refine TC.seq ?_
          refine TC.region ?_
          refine TL.v rfl (OpVal.moveMap (.inl rfl) rfl) rfl rfl ?_
          refine TL.v rfl (OpVal.moveI (.inl rfl) rfl) rfl rfl ?_
          refine TL.v rfl (OpVal.lookSet rfl Try.underlying82 ze83 rfl (i := 0) rfl rfl (keyI_law Try.underlying3)) rfl rfl ?_
          refine TL.v rfl (OpVal.moveT (.inl rfl) rfl) rfl rfl ?_
          refine TL.v rfl (OpVal.extract rfl rfl rfl) rfl rfl ?_
          refine TL.v rfl (OpVal.extract rfl rfl rfl) rfl rfl ?_
          refine TL.op rfl (OpOk.alloc rfl ze83 rfl rfl (fun b152 => ?_))
          refine TL.op rfl (OpOk.storeAll rfl sz83 rfl rfl rfl rfl rfl rfl ?_)
          refine TL.v rfl (OpVal.moveB (.inr rfl) rfl) rfl rfl ?_
          refine TL.nil ?_
          refine S.n ?_
          refine TC.seq ?_
          refine TC.region ?_
          refine TL.v rfl (OpVal.moveB (.inl rfl) rfl) rfl rfl ?_
          refine TL.nil ?_
          refine S.n ?_
          refine TC.cond rfl (fun h154 => ?_) (fun h154 => ?_)
          · replace hh := iteO_t h154 hh
            refine TC.seq ?_
            refine TC.region ?_
            refine TL.v rfl (OpVal.moveB (.inr rfl) rfl) rfl rfl ?_
            refine TL.v rfl (OpVal.moveI (.inr rfl) rfl) rfl rfl ?_
            refine TL.nil ?_
            refine S.n ?_
            refine TC.ofSub (Sub.pre 0 rfl) ?_
            refine TC.ret ?_
            refine B.r ?_
            refine S.r ?_
            refine S.r ?_
            replace hh := fin_x hR1 hh
            refine B.r ?_
            refine S.r ?_
            obtain rfl := Option.some.inj hh
            exact RetOk.mk' (rs := [.tmp 4, .tmp 5]) [] rfl (.inl rfl) (RVs.tmp rfl (RVs.tmp rfl RVs.nil)) (List.sublist_append_left _ _) ⟨rfl, rfl, rfl⟩
          · replace hh := iteO_f h154 hh
            refine TC.skip ?_
            refine B.n ?_
            refine S.n ?_
            refine TC.region ?_
            refine TL.v rfl (OpVal.succ rfl rfl rfl (by omega)) rfl rfl ?_
            refine TL.v rfl (OpVal.moveI (.inl rfl) rfl) rfl rfl ?_
            refine TL.nil ?_
            refine S.n ?_
            obtain ⟨hh, hlt155⟩ := nxt_x hR1 hh
            refine ⟨by repeat (first | exact Agr.refl _ _ | exact Agr.mask | refine Agr.upd rfl ?_ | refine Agr.maskIn rfl ?_ | refine Agr.upds rfl ?_), ((k150 + 1), ()), hlt155, hh, by repeat (first | exact trivial | refine ⟨rfl, ?_⟩), Sub.front 1 rfl rfl (Sub.pre 1 rfl), rfl⟩
        · replace hh := iteO_f h151 hh
          replace h151 := of_decide_eq_false h151
          refine TC.exit ?_
          refine S.x ?_
          refine S.x ?_
          replace hh := fin_x hR1 hh
          refine TC.exitHere ?_
          refine S.n ?_
          refine TC.seq ?_
          refine TC.region ?_
          refine TL.v rfl (OpVal.moveB (.inr rfl) rfl) rfl rfl ?_
          refine TL.v rfl (OpVal.moveI (.inr rfl) rfl) rfl rfl ?_
          refine TL.nil ?_
          refine S.n ?_
          refine TC.ofSub (Sub.pre 0 rfl) ?_
          refine TC.ret ?_
          obtain rfl := Option.some.inj hh
          exact RetOk.mk' (rs := [.tmp 4, .tmp 5]) [] rfl (.inl rfl) (RVs.tmp rfl (RVs.tmp rfl RVs.nil)) (List.sublist_append_left _ _) ⟨rfl, rfl, rfl⟩

end Go.Proofs.Ytcidppnlhhkhhaa
end

/- Nfa2 -/
section
/- Contracts of package nfa and of its reference, part two. -/
set_option linter.unusedVariables false
set_option linter.unusedSimpArgs false
namespace Go.Proofs.Ytcidppnlhhkhhaa
open Go Go.E
set_option maxRecDepth 100000

theorem right_con (σ : Store) (n : Nfa) (p : NfaP) (hn : RNfa σ n p) : Con Try.prog 57 #[nfaV n p] σ [] (PureP (.bool (checkB n)) σ) := by
  have hb := hn.d.rv.big
  have hd := hn.d
  refine Con.mk (n := 75) Try.func57 rfl rfl rfl (fun w0 => ?_)
  refine TC.seq ?_
  refine TC.region ?_
  refine TL.op rfl (OpOk.boxA rfl rfl rfl rfl (fun b1 => ?_))
  refine TL.v rfl (OpVal.moveB (.inr rfl) rfl) rfl rfl ?_
  refine TL.nil ?_
  refine S.n ?_
  refine TC.seq ?_
  refine TC.seq ?_
  refine TC.region ?_
  refine TL.v rfl (OpVal.fieldLoc rfl fo25_0 rfl) rfl rfl ?_
  refine TL.v rfl (OpVal.loadLoc rfl ag3 rfl (i := 0) rfl rfl) rfl rfl ?_
  refine TL.v rfl (OpVal.lss rfl rfl rfl) rfl rfl ?_
  refine TL.v rfl (OpVal.moveB (.inl rfl) rfl) rfl rfl ?_
  refine TL.split 8 rfl (fun h3 => ?_) (fun h3 => ?_)
  · try simp only [decide_eq_true_eq, decide_eq_false_iff_not, Bool.not_eq_true', Bool.not_eq_false', Bool.not_eq_eq_eq_not, Bool.not_true, Bool.not_false, Int.not_lt, Int.not_le, Decidable.not_not] at h3
    refine TL.goff rfl rfl rfl rfl rfl rfl rfl rfl ?_
    refine TL.goff rfl rfl rfl rfl rfl rfl rfl rfl ?_
    refine TL.goff rfl rfl rfl rfl rfl rfl rfl rfl ?_
    refine TL.v rfl (OpVal.pickTB rfl rfl rfl) rfl rfl ?_
    refine TL.v rfl (OpVal.moveB (.inl rfl) rfl) rfl rfl ?_
    refine TL.goff rfl rfl rfl rfl rfl rfl rfl rfl ?_
    refine TL.goff rfl rfl rfl rfl rfl rfl rfl rfl ?_
    refine TL.goff rfl rfl rfl rfl rfl rfl rfl rfl ?_
    refine TL.goff rfl rfl rfl rfl rfl rfl rfl rfl ?_
    refine TL.goff rfl rfl rfl rfl rfl rfl rfl rfl ?_
    refine TL.goff rfl rfl rfl rfl rfl rfl rfl rfl ?_
    refine TL.v rfl (OpVal.pickTB rfl rfl rfl) rfl rfl ?_
    refine TL.v rfl (OpVal.moveB (.inl rfl) rfl) rfl rfl ?_
    refine TL.goff rfl rfl rfl rfl rfl rfl rfl rfl ?_
    refine TL.goff rfl rfl rfl rfl rfl rfl rfl rfl ?_
    refine TL.goff rfl rfl rfl rfl rfl rfl rfl rfl ?_
    refine TL.goff rfl rfl rfl rfl rfl rfl rfl rfl ?_
    refine TL.goff rfl rfl rfl rfl rfl rfl rfl rfl ?_
    refine TL.goff rfl rfl rfl rfl rfl rfl rfl rfl ?_
    refine TL.v rfl (OpVal.pickTB rfl rfl rfl) rfl rfl ?_
    refine TL.v rfl (OpVal.moveB (.inl rfl) rfl) rfl rfl ?_
    refine TL.goff rfl rfl rfl rfl rfl rfl rfl rfl ?_
    refine TL.goff rfl rfl rfl rfl rfl rfl rfl rfl ?_
    refine TL.goff rfl rfl rfl rfl rfl rfl rfl rfl ?_
    refine TL.goff rfl rfl rfl rfl rfl rfl rfl rfl ?_
    refine TL.v rfl (OpVal.pickTB rfl rfl rfl) rfl rfl ?_
    refine TL.nil ?_
    refine S.n ?_
    refine TC.cond rfl (fun _ => ?_) (fun h => Bool.noConfusion h)
    refine TC.seq ?_
    refine TC.region ?_
    refine TL.v rfl (OpVal.moveB (.inr rfl) rfl) rfl rfl ?_
    refine TL.nil ?_
    refine S.n ?_
    refine TC.ret ?_
    refine S.r ?_
    -- leaf 1 ret [h3: t8=True] H=['q2']
    refine ret1P rfl (congrArg Value.bool ?_)
    exact (show checkB n = false from by simp only [checkB, Bool.and_eq_false_iff, decide_eq_false_iff_not]; omega).symm
  · try simp only [decide_eq_true_eq, decide_eq_false_iff_not, Bool.not_eq_true', Bool.not_eq_false', Bool.not_eq_eq_eq_not, Bool.not_true, Bool.not_false, Int.not_lt, Int.not_le, Decidable.not_not] at h3
    refine TL.gv rfl rfl rfl rfl rfl (OpVal.fieldLoc rfl fo25_0 rfl) rfl rfl ?_
    refine TL.gv rfl rfl rfl rfl rfl (OpVal.loadLoc rfl ag3 rfl (i := 0) rfl rfl) rfl rfl ?_
    refine TL.gv rfl rfl rfl rfl rfl (OpVal.gtr rfl rfl rfl) rfl rfl ?_
    refine TL.v rfl (OpVal.pickFB rfl rfl rfl) rfl rfl ?_
    refine TL.v rfl (OpVal.moveB (.inl rfl) rfl) rfl rfl ?_
    refine TL.split 13 rfl (fun h4 => ?_) (fun h4 => ?_)
    · try simp only [decide_eq_true_eq, decide_eq_false_iff_not, Bool.not_eq_true', Bool.not_eq_false', Bool.not_eq_eq_eq_not, Bool.not_true, Bool.not_false, Int.not_lt, Int.not_le, Decidable.not_not] at h4
      refine TL.goff rfl rfl rfl rfl rfl rfl rfl rfl ?_
      refine TL.goff rfl rfl rfl rfl rfl rfl rfl rfl ?_
      refine TL.goff rfl rfl rfl rfl rfl rfl rfl rfl ?_
      refine TL.goff rfl rfl rfl rfl rfl rfl rfl rfl ?_
      refine TL.goff rfl rfl rfl rfl rfl rfl rfl rfl ?_
      refine TL.goff rfl rfl rfl rfl rfl rfl rfl rfl ?_
      refine TL.v rfl (OpVal.pickTB rfl rfl rfl) rfl rfl ?_
      refine TL.v rfl (OpVal.moveB (.inl rfl) rfl) rfl rfl ?_
      refine TL.goff rfl rfl rfl rfl rfl rfl rfl rfl ?_
      refine TL.goff rfl rfl rfl rfl rfl rfl rfl rfl ?_
      refine TL.goff rfl rfl rfl rfl rfl rfl rfl rfl ?_
      refine TL.goff rfl rfl rfl rfl rfl rfl rfl rfl ?_
      refine TL.goff rfl rfl rfl rfl rfl rfl rfl rfl ?_
      refine TL.goff rfl rfl rfl rfl rfl rfl rfl rfl ?_
      refine TL.v rfl (OpVal.pickTB rfl rfl rfl) rfl rfl ?_
      refine TL.v rfl (OpVal.moveB (.inl rfl) rfl) rfl rfl ?_
      refine TL.goff rfl rfl rfl rfl rfl rfl rfl rfl ?_
      refine TL.goff rfl rfl rfl rfl rfl rfl rfl rfl ?_
      refine TL.goff rfl rfl rfl rfl rfl rfl rfl rfl ?_
      refine TL.goff rfl rfl rfl rfl rfl rfl rfl rfl ?_
      refine TL.v rfl (OpVal.pickTB rfl rfl rfl) rfl rfl ?_
      refine TL.nil ?_
      refine S.n ?_
      refine TC.cond rfl (fun _ => ?_) (fun h => Bool.noConfusion h)
      refine TC.seq ?_
      refine TC.region ?_
      refine TL.v rfl (OpVal.moveB (.inr rfl) rfl) rfl rfl ?_
      refine TL.nil ?_
      refine S.n ?_
      refine TC.ret ?_
      refine S.r ?_
      -- leaf 2 ret [h3: t8=False; h4: t13=True] H=['q2']
      refine ret1P rfl (congrArg Value.bool ?_)
      exact (show checkB n = false from by simp only [checkB, Bool.and_eq_false_iff, decide_eq_false_iff_not]; omega).symm
    · try simp only [decide_eq_true_eq, decide_eq_false_iff_not, Bool.not_eq_true', Bool.not_eq_false', Bool.not_eq_eq_eq_not, Bool.not_true, Bool.not_false, Int.not_lt, Int.not_le, Decidable.not_not] at h4
      refine TL.gv rfl rfl rfl rfl rfl (OpVal.fieldLoc rfl fo25_1 rfl) rfl rfl ?_
      refine TL.gv rfl rfl rfl rfl rfl (OpVal.loadLoc rfl ag22 rfl (i := 0) rfl rfl) rfl rfl ?_
      refine TL.gv rfl rfl rfl rfl rfl (OpVal.fieldLoc rfl fo25_0 rfl) rfl rfl ?_
      refine TL.gv rfl rfl rfl rfl rfl (OpVal.loadLoc rfl ag3 rfl (i := 0) rfl rfl) rfl rfl ?_
      refine TL.gon rfl rfl rfl rfl rfl (OpOk.callP (states_con _ _ _ _ _ hn.s) rfl rfl pf83 rfl rfl rfl ?_)
      refine TL.gv rfl rfl rfl rfl rfl (OpVal.not rfl rfl) rfl rfl ?_
      refine TL.v rfl (OpVal.pickFB rfl rfl rfl) rfl rfl ?_
      refine TL.v rfl (OpVal.moveB (.inl rfl) rfl) rfl rfl ?_
      refine TL.split 21 rfl (fun h5 => ?_) (fun h5 => ?_)
      · try simp only [decide_eq_true_eq, decide_eq_false_iff_not, Bool.not_eq_true', Bool.not_eq_false', Bool.not_eq_eq_eq_not, Bool.not_true, Bool.not_false, Int.not_lt, Int.not_le, Decidable.not_not] at h5
        refine TL.goff rfl rfl rfl rfl rfl rfl rfl rfl ?_
        refine TL.goff rfl rfl rfl rfl rfl rfl rfl rfl ?_
        refine TL.goff rfl rfl rfl rfl rfl rfl rfl rfl ?_
        refine TL.goff rfl rfl rfl rfl rfl rfl rfl rfl ?_
        refine TL.goff rfl rfl rfl rfl rfl rfl rfl rfl ?_
        refine TL.goff rfl rfl rfl rfl rfl rfl rfl rfl ?_
        refine TL.v rfl (OpVal.pickTB rfl rfl rfl) rfl rfl ?_
        refine TL.v rfl (OpVal.moveB (.inl rfl) rfl) rfl rfl ?_
        refine TL.goff rfl rfl rfl rfl rfl rfl rfl rfl ?_
        refine TL.goff rfl rfl rfl rfl rfl rfl rfl rfl ?_
        refine TL.goff rfl rfl rfl rfl rfl rfl rfl rfl ?_
        refine TL.goff rfl rfl rfl rfl rfl rfl rfl rfl ?_
        refine TL.v rfl (OpVal.pickTB rfl rfl rfl) rfl rfl ?_
        refine TL.nil ?_
        refine S.n ?_
        refine TC.cond rfl (fun _ => ?_) (fun h => Bool.noConfusion h)
        refine TC.seq ?_
        refine TC.region ?_
        refine TL.v rfl (OpVal.moveB (.inr rfl) rfl) rfl rfl ?_
        refine TL.nil ?_
        refine S.n ?_
        refine TC.ret ?_
        refine S.r ?_
        -- leaf 3 ret [h3: t8=False; h4: t13=False; h5: t21=True] H=['q2']
        refine ret1P rfl (congrArg Value.bool ?_)
        exact (show checkB n = false from by simp [checkB, h5]).symm
      · try simp only [decide_eq_true_eq, decide_eq_false_iff_not, Bool.not_eq_true', Bool.not_eq_false', Bool.not_eq_eq_eq_not, Bool.not_true, Bool.not_false, Int.not_lt, Int.not_le, Decidable.not_not] at h5
        refine TL.gv rfl rfl rfl rfl rfl (OpVal.fieldLoc rfl fo25_2 rfl) rfl rfl ?_
        refine TL.gv rfl rfl rfl rfl rfl (OpVal.loadLoc rfl ag22 rfl (i := 0) rfl rfl) rfl rfl ?_
        refine TL.gv rfl rfl rfl rfl rfl (OpVal.fieldLoc rfl fo25_0 rfl) rfl rfl ?_
        refine TL.gv rfl rfl rfl rfl rfl (OpVal.loadLoc rfl ag3 rfl (i := 0) rfl rfl) rfl rfl ?_
        refine TL.gon rfl rfl rfl rfl rfl (OpOk.callP (states_con _ _ _ _ _ hn.e) rfl rfl pf83 rfl rfl rfl ?_)
        refine TL.gv rfl rfl rfl rfl rfl (OpVal.not rfl rfl) rfl rfl ?_
        refine TL.v rfl (OpVal.pickFB rfl rfl rfl) rfl rfl ?_
        refine TL.v rfl (OpVal.moveB (.inl rfl) rfl) rfl rfl ?_
        refine TL.split 29 rfl (fun h6 => ?_) (fun h6 => ?_)
        · try simp only [decide_eq_true_eq, decide_eq_false_iff_not, Bool.not_eq_true', Bool.not_eq_false', Bool.not_eq_eq_eq_not, Bool.not_true, Bool.not_false, Int.not_lt, Int.not_le, Decidable.not_not] at h6
          refine TL.goff rfl rfl rfl rfl rfl rfl rfl rfl ?_
          refine TL.goff rfl rfl rfl rfl rfl rfl rfl rfl ?_
          refine TL.goff rfl rfl rfl rfl rfl rfl rfl rfl ?_
          refine TL.goff rfl rfl rfl rfl rfl rfl rfl rfl ?_
          refine TL.v rfl (OpVal.pickTB rfl rfl rfl) rfl rfl ?_
          refine TL.nil ?_
          refine S.n ?_
          refine TC.cond rfl (fun _ => ?_) (fun h => Bool.noConfusion h)
          refine TC.seq ?_
          refine TC.region ?_
          refine TL.v rfl (OpVal.moveB (.inr rfl) rfl) rfl rfl ?_
          refine TL.nil ?_
          refine S.n ?_
          refine TC.ret ?_
          refine S.r ?_
          -- leaf 4 ret [h3: t8=False; h4: t13=False; h5: t21=False; h6: t29=True] H=['q2']
          refine ret1P rfl (congrArg Value.bool ?_)
          exact (show checkB n = false from by simp [checkB, h6]).symm
        · try simp only [decide_eq_true_eq, decide_eq_false_iff_not, Bool.not_eq_true', Bool.not_eq_false', Bool.not_eq_eq_eq_not, Bool.not_true, Bool.not_false, Int.not_lt, Int.not_le, Decidable.not_not] at h6
          refine TL.gv rfl rfl rfl rfl rfl (OpVal.fieldLoc rfl fo25_3 rfl) rfl rfl ?_
          refine TL.gv rfl rfl rfl rfl rfl (OpVal.loadLoc rfl ag23 rfl (i := 0) rfl rfl) rfl rfl ?_
          refine TL.gv rfl rfl rfl rfl rfl (OpVal.lenC rfl Try.underlying23 rfl) rfl rfl ?_
          refine TL.gv rfl rfl rfl rfl rfl (OpVal.gtr rfl rfl rfl) rfl rfl ?_
          refine TL.v rfl (OpVal.pickFB rfl rfl rfl) rfl rfl ?_
          refine TL.nil ?_
          refine S.n ?_
          refine TC.condD rfl (fun h7 => ?_) (fun h7 => ?_)
          · try simp only [decide_eq_true_eq, decide_eq_false_iff_not, Bool.not_eq_true', Bool.not_eq_false', Bool.not_eq_eq_eq_not, Bool.not_true, Bool.not_false, Int.not_lt, Int.not_le, Decidable.not_not] at h7
            refine TC.seq ?_
            refine TC.region ?_
            refine TL.v rfl (OpVal.moveB (.inr rfl) rfl) rfl rfl ?_
            refine TL.nil ?_
            refine S.n ?_
            refine TC.ret ?_
            refine S.r ?_
            -- leaf 5 ret [h3: t8=False; h4: t13=False; h5: t21=False; h6: t29=False; h7: True] H=['q2']
            refine ret1P rfl (congrArg Value.bool ?_)
            exact (show checkB n = false from by simp only [checkB, Bool.and_eq_false_iff, decide_eq_false_iff_not]; omega).symm
          · try simp only [decide_eq_true_eq, decide_eq_false_iff_not, Bool.not_eq_true', Bool.not_eq_false', Bool.not_eq_eq_eq_not, Bool.not_true, Bool.not_false, Int.not_lt, Int.not_le, Decidable.not_not] at h7
            refine TC.skip ?_
            refine S.n ?_
            refine TC.seq ?_
            refine TC.seq ?_
            refine TC.region ?_
            refine TL.v rfl (OpVal.moveI (.inr rfl) rfl) rfl rfl ?_
            refine TL.nil ?_
            refine S.n ?_
            refine TC.block ?_
            refine TC.loopF (α := Nat) [2, 3, 4, 35, 36, 37, 38, 39, 40, 41, 42, 43, 44, 45, 46, 47, 48, 49, 50, 51, 52, 53, 54, 55, 56, 57, 58, 59, 60, 61, 62, 63, 64, 65, 66, 67, 68, 69, 70, 71, 72, 73, 74] (fun k => [(3, .int .i64 (k : Nat))]) (fun _ => _) (fun _ => _) (fun k => k ≤ n.edges.length ∧ ∀ i, i < k → edgeB n.states (nth n.edges i Arrow.zero) = true) (fun k => n.edges.length - k) (0) (by first | exact True.intro | omega | (dsimp only; omega) | (simp; done) | (simp; omega)) (by repeat (first | exact trivial | refine ⟨rfl, ?_⟩)) (by rfl) (by rfl) (fun g1 j1 hg1 => ?_)
            obtain ⟨hk, hi⟩ := hg1
            refine TC.seq ?_
            refine TC.seq ?_
            refine TC.region ?_
            refine TL.v rfl (OpVal.moveI (.inl rfl) rfl) rfl rfl ?_
            refine TL.v rfl (OpVal.fieldLoc rfl fo25_3 rfl) rfl rfl ?_
            refine TL.v rfl (OpVal.loadLoc rfl ag23 rfl (i := 0) rfl rfl) rfl rfl ?_
            refine TL.v rfl (OpVal.lenC rfl Try.underlying23 rfl) rfl rfl ?_
            refine TL.v rfl (OpVal.lss rfl rfl rfl) rfl rfl ?_
            refine TL.nil ?_
            refine S.n ?_
            refine TC.condD rfl (fun h8 => ?_) (fun h8 => ?_)
            · try simp only [decide_eq_true_eq, decide_eq_false_iff_not, Bool.not_eq_true', Bool.not_eq_false', Bool.not_eq_eq_eq_not, Bool.not_true, Bool.not_false, Int.not_lt, Int.not_le, Decidable.not_not] at h8
              refine TC.skip ?_
              refine S.n ?_
              refine TC.seq ?_
              refine TC.block ?_
              refine TC.seq ?_
              refine TC.region ?_
              refine TL.v rfl (OpVal.fieldLoc rfl fo25_3 rfl) rfl rfl ?_
              refine TL.v rfl (OpVal.loadLoc rfl ag23 rfl (i := 0) rfl rfl) rfl rfl ?_
              refine TL.v rfl (OpVal.moveI (.inl rfl) rfl) rfl rfl ?_
              refine TL.v rfl (OpVal.indexN rfl Try.underlying23 sz80 rfl rfl (by first | assumption | exact (RS.rv (by assumption)).sl) (by omega)) rfl rfl ?_
              refine TL.v rfl (OpVal.loadSA Arrow.zero rfl ag80 sz80 rfl (by assumption) (by omega) (by omega)) rfl rfl ?_
              refine TL.op rfl (OpOk.alloc rfl ze80 rfl rfl (fun b9 => ?_))
              refine TL.op rfl (OpOk.storeAll rfl sz80 rfl rfl rfl rfl rfl rfl ?_)
              refine TL.nil ?_
              refine S.n ?_
              refine TC.seq ?_
              refine TC.region ?_
              refine TL.v rfl (OpVal.fieldLoc rfl fo80_0 rfl) rfl rfl ?_
              refine TL.v rfl (OpVal.loadLoc rfl ag3 rfl (i := 0) rfl rfl) rfl rfl ?_
              refine TL.v rfl (OpVal.lss rfl rfl rfl) rfl rfl ?_
              refine TL.v rfl (OpVal.moveB (.inl rfl) rfl) rfl rfl ?_
              refine TL.split 50 rfl (fun h11 => ?_) (fun h11 => ?_)
              · try simp only [decide_eq_true_eq, decide_eq_false_iff_not, Bool.not_eq_true', Bool.not_eq_false', Bool.not_eq_eq_eq_not, Bool.not_true, Bool.not_false, Int.not_lt, Int.not_le, Decidable.not_not] at h11
                refine TL.goff rfl rfl rfl rfl rfl rfl rfl rfl ?_
                refine TL.goff rfl rfl rfl rfl rfl rfl rfl rfl ?_
                refine TL.goff rfl rfl rfl rfl rfl rfl rfl rfl ?_
                refine TL.goff rfl rfl rfl rfl rfl rfl rfl rfl ?_
                refine TL.goff rfl rfl rfl rfl rfl rfl rfl rfl ?_
                refine TL.v rfl (OpVal.pickTB rfl rfl rfl) rfl rfl ?_
                refine TL.v rfl (OpVal.moveB (.inl rfl) rfl) rfl rfl ?_
                refine TL.goff rfl rfl rfl rfl rfl rfl rfl rfl ?_
                refine TL.goff rfl rfl rfl rfl rfl rfl rfl rfl ?_
                refine TL.goff rfl rfl rfl rfl rfl rfl rfl rfl ?_
                refine TL.v rfl (OpVal.pickTB rfl rfl rfl) rfl rfl ?_
                refine TL.v rfl (OpVal.moveB (.inl rfl) rfl) rfl rfl ?_
                refine TL.goff rfl rfl rfl rfl rfl rfl rfl rfl ?_
                refine TL.goff rfl rfl rfl rfl rfl rfl rfl rfl ?_
                refine TL.goff rfl rfl rfl rfl rfl rfl rfl rfl ?_
                refine TL.goff rfl rfl rfl rfl rfl rfl rfl rfl ?_
                refine TL.goff rfl rfl rfl rfl rfl rfl rfl rfl ?_
                refine TL.v rfl (OpVal.pickTB rfl rfl rfl) rfl rfl ?_
                refine TL.v rfl (OpVal.moveB (.inl rfl) rfl) rfl rfl ?_
                refine TL.goff rfl rfl rfl rfl rfl rfl rfl rfl ?_
                refine TL.goff rfl rfl rfl rfl rfl rfl rfl rfl ?_
                refine TL.goff rfl rfl rfl rfl rfl rfl rfl rfl ?_
                refine TL.goff rfl rfl rfl rfl rfl rfl rfl rfl ?_
                refine TL.v rfl (OpVal.pickTB rfl rfl rfl) rfl rfl ?_
                refine TL.nil ?_
                refine S.n ?_
                refine TC.cond rfl (fun _ => ?_) (fun h => Bool.noConfusion h)
                refine TC.seq ?_
                refine TC.region ?_
                refine TL.v rfl (OpVal.moveB (.inr rfl) rfl) rfl rfl ?_
                refine TL.nil ?_
                refine S.n ?_
                refine TC.ret ?_
                refine B.r ?_
                refine S.r ?_
                refine S.r ?_
                refine B.r ?_
                refine S.r ?_
                -- leaf 6 ret [h3: t8=False; h4: t13=False; h5: t21=False; h6: t29=False; h7: False; h8: True; h11: t50=True] H=['q10', 'q2']
                refine ret1P rfl (congrArg Value.bool ?_)
                exact (show checkB n = false from by rw [checkB, edges_no (n := n) (k := g1) (by omega) (by simp [edgeB, stateB]; omega), Bool.and_false]).symm
              · try simp only [decide_eq_true_eq, decide_eq_false_iff_not, Bool.not_eq_true', Bool.not_eq_false', Bool.not_eq_eq_eq_not, Bool.not_true, Bool.not_false, Int.not_lt, Int.not_le, Decidable.not_not] at h11
                refine TL.gv rfl rfl rfl rfl rfl (OpVal.fieldLoc rfl fo80_0 rfl) rfl rfl ?_
                refine TL.gv rfl rfl rfl rfl rfl (OpVal.loadLoc rfl ag3 rfl (i := 0) rfl rfl) rfl rfl ?_
                refine TL.gv rfl rfl rfl rfl rfl (OpVal.fieldLoc rfl fo25_0 rfl) rfl rfl ?_
                refine TL.gv rfl rfl rfl rfl rfl (OpVal.loadLoc rfl ag3 rfl (i := 1) rfl rfl) rfl rfl ?_
                refine TL.gv rfl rfl rfl rfl rfl (OpVal.geq rfl rfl rfl) rfl rfl ?_
                refine TL.v rfl (OpVal.pickFB rfl rfl rfl) rfl rfl ?_
                refine TL.v rfl (OpVal.moveB (.inl rfl) rfl) rfl rfl ?_
                refine TL.split 57 rfl (fun h12 => ?_) (fun h12 => ?_)
                · try simp only [decide_eq_true_eq, decide_eq_false_iff_not, Bool.not_eq_true', Bool.not_eq_false', Bool.not_eq_eq_eq_not, Bool.not_true, Bool.not_false, Int.not_lt, Int.not_le, Decidable.not_not] at h12
                  refine TL.goff rfl rfl rfl rfl rfl rfl rfl rfl ?_
                  refine TL.goff rfl rfl rfl rfl rfl rfl rfl rfl ?_
                  refine TL.goff rfl rfl rfl rfl rfl rfl rfl rfl ?_
                  refine TL.v rfl (OpVal.pickTB rfl rfl rfl) rfl rfl ?_
                  refine TL.v rfl (OpVal.moveB (.inl rfl) rfl) rfl rfl ?_
                  refine TL.goff rfl rfl rfl rfl rfl rfl rfl rfl ?_
                  refine TL.goff rfl rfl rfl rfl rfl rfl rfl rfl ?_
                  refine TL.goff rfl rfl rfl rfl rfl rfl rfl rfl ?_
                  refine TL.goff rfl rfl rfl rfl rfl rfl rfl rfl ?_
                  refine TL.goff rfl rfl rfl rfl rfl rfl rfl rfl ?_
                  refine TL.v rfl (OpVal.pickTB rfl rfl rfl) rfl rfl ?_
                  refine TL.v rfl (OpVal.moveB (.inl rfl) rfl) rfl rfl ?_
                  refine TL.goff rfl rfl rfl rfl rfl rfl rfl rfl ?_
                  refine TL.goff rfl rfl rfl rfl rfl rfl rfl rfl ?_
                  refine TL.goff rfl rfl rfl rfl rfl rfl rfl rfl ?_
                  refine TL.goff rfl rfl rfl rfl rfl rfl rfl rfl ?_
                  refine TL.v rfl (OpVal.pickTB rfl rfl rfl) rfl rfl ?_
                  refine TL.nil ?_
                  refine S.n ?_
                  refine TC.cond rfl (fun _ => ?_) (fun h => Bool.noConfusion h)
                  refine TC.seq ?_
                  refine TC.region ?_
                  refine TL.v rfl (OpVal.moveB (.inr rfl) rfl) rfl rfl ?_
                  refine TL.nil ?_
                  refine S.n ?_
                  refine TC.ret ?_
                  refine B.r ?_
                  refine S.r ?_
                  refine S.r ?_
                  refine B.r ?_
                  refine S.r ?_
                  -- leaf 7 ret [h3: t8=False; h4: t13=False; h5: t21=False; h6: t29=False; h7: False; h8: True; h11: t50=False; h12: t57=True] H=['q10', 'q2']
                  refine ret1P rfl (congrArg Value.bool ?_)
                  exact (show checkB n = false from by rw [checkB, edges_no (n := n) (k := g1) (by omega) (by simp [edgeB, stateB]; omega), Bool.and_false]).symm
                · try simp only [decide_eq_true_eq, decide_eq_false_iff_not, Bool.not_eq_true', Bool.not_eq_false', Bool.not_eq_eq_eq_not, Bool.not_true, Bool.not_false, Int.not_lt, Int.not_le, Decidable.not_not] at h12
                  refine TL.gv rfl rfl rfl rfl rfl (OpVal.fieldLoc rfl fo80_1 rfl) rfl rfl ?_
                  refine TL.gv rfl rfl rfl rfl rfl (OpVal.loadLoc rfl ag3 rfl (i := 0) rfl rfl) rfl rfl ?_
                  refine TL.gv rfl rfl rfl rfl rfl (OpVal.lss rfl rfl rfl) rfl rfl ?_
                  refine TL.v rfl (OpVal.pickFB rfl rfl rfl) rfl rfl ?_
                  refine TL.v rfl (OpVal.moveB (.inl rfl) rfl) rfl rfl ?_
                  refine TL.split 62 rfl (fun h13 => ?_) (fun h13 => ?_)
                  · try simp only [decide_eq_true_eq, decide_eq_false_iff_not, Bool.not_eq_true', Bool.not_eq_false', Bool.not_eq_eq_eq_not, Bool.not_true, Bool.not_false, Int.not_lt, Int.not_le, Decidable.not_not] at h13
                    refine TL.goff rfl rfl rfl rfl rfl rfl rfl rfl ?_
                    refine TL.goff rfl rfl rfl rfl rfl rfl rfl rfl ?_
                    refine TL.goff rfl rfl rfl rfl rfl rfl rfl rfl ?_
                    refine TL.goff rfl rfl rfl rfl rfl rfl rfl rfl ?_
                    refine TL.goff rfl rfl rfl rfl rfl rfl rfl rfl ?_
                    refine TL.v rfl (OpVal.pickTB rfl rfl rfl) rfl rfl ?_
                    refine TL.v rfl (OpVal.moveB (.inl rfl) rfl) rfl rfl ?_
                    refine TL.goff rfl rfl rfl rfl rfl rfl rfl rfl ?_
                    refine TL.goff rfl rfl rfl rfl rfl rfl rfl rfl ?_
                    refine TL.goff rfl rfl rfl rfl rfl rfl rfl rfl ?_
                    refine TL.goff rfl rfl rfl rfl rfl rfl rfl rfl ?_
                    refine TL.v rfl (OpVal.pickTB rfl rfl rfl) rfl rfl ?_
                    refine TL.nil ?_
                    refine S.n ?_
                    refine TC.cond rfl (fun _ => ?_) (fun h => Bool.noConfusion h)
                    refine TC.seq ?_
                    refine TC.region ?_
                    refine TL.v rfl (OpVal.moveB (.inr rfl) rfl) rfl rfl ?_
                    refine TL.nil ?_
                    refine S.n ?_
                    refine TC.ret ?_
                    refine B.r ?_
                    refine S.r ?_
                    refine S.r ?_
                    refine B.r ?_
                    refine S.r ?_
                    -- leaf 8 ret [h3: t8=False; h4: t13=False; h5: t21=False; h6: t29=False; h7: False; h8: True; h11: t50=False; h12: t57=False; h13: t62=True] H=['q10', 'q2']
                    refine ret1P rfl (congrArg Value.bool ?_)
                    exact (show checkB n = false from by rw [checkB, edges_no (n := n) (k := g1) (by omega) (by simp [edgeB, stateB]; omega), Bool.and_false]).symm
                  · try simp only [decide_eq_true_eq, decide_eq_false_iff_not, Bool.not_eq_true', Bool.not_eq_false', Bool.not_eq_eq_eq_not, Bool.not_true, Bool.not_false, Int.not_lt, Int.not_le, Decidable.not_not] at h13
                    refine TL.gv rfl rfl rfl rfl rfl (OpVal.fieldLoc rfl fo80_1 rfl) rfl rfl ?_
                    refine TL.gv rfl rfl rfl rfl rfl (OpVal.loadLoc rfl ag3 rfl (i := 0) rfl rfl) rfl rfl ?_
                    refine TL.gv rfl rfl rfl rfl rfl (OpVal.fieldLoc rfl fo25_0 rfl) rfl rfl ?_
                    refine TL.gv rfl rfl rfl rfl rfl (OpVal.loadLoc rfl ag3 rfl (i := 1) rfl rfl) rfl rfl ?_
                    refine TL.gv rfl rfl rfl rfl rfl (OpVal.geq rfl rfl rfl) rfl rfl ?_
                    refine TL.v rfl (OpVal.pickFB rfl rfl rfl) rfl rfl ?_
                    refine TL.v rfl (OpVal.moveB (.inl rfl) rfl) rfl rfl ?_
                    refine TL.split 69 rfl (fun h14 => ?_) (fun h14 => ?_)
                    · try simp only [decide_eq_true_eq, decide_eq_false_iff_not, Bool.not_eq_true', Bool.not_eq_false', Bool.not_eq_eq_eq_not, Bool.not_true, Bool.not_false, Int.not_lt, Int.not_le, Decidable.not_not] at h14
                      refine TL.goff rfl rfl rfl rfl rfl rfl rfl rfl ?_
                      refine TL.goff rfl rfl rfl rfl rfl rfl rfl rfl ?_
                      refine TL.goff rfl rfl rfl rfl rfl rfl rfl rfl ?_
                      refine TL.goff rfl rfl rfl rfl rfl rfl rfl rfl ?_
                      refine TL.v rfl (OpVal.pickTB rfl rfl rfl) rfl rfl ?_
                      refine TL.nil ?_
                      refine S.n ?_
                      refine TC.cond rfl (fun _ => ?_) (fun h => Bool.noConfusion h)
                      refine TC.seq ?_
                      refine TC.region ?_
                      refine TL.v rfl (OpVal.moveB (.inr rfl) rfl) rfl rfl ?_
                      refine TL.nil ?_
                      refine S.n ?_
                      refine TC.ret ?_
                      refine B.r ?_
                      refine S.r ?_
                      refine S.r ?_
                      refine B.r ?_
                      refine S.r ?_
                      -- leaf 9 ret [h3: t8=False; h4: t13=False; h5: t21=False; h6: t29=False; h7: False; h8: True; h11: t50=False; h12: t57=False; h13: t62=False; h14: t69=True] H=['q10', 'q2']
                      refine ret1P rfl (congrArg Value.bool ?_)
                      exact (show checkB n = false from by rw [checkB, edges_no (n := n) (k := g1) (by omega) (by simp [edgeB, stateB]; omega), Bool.and_false]).symm
                    · try simp only [decide_eq_true_eq, decide_eq_false_iff_not, Bool.not_eq_true', Bool.not_eq_false', Bool.not_eq_eq_eq_not, Bool.not_true, Bool.not_false, Int.not_lt, Int.not_le, Decidable.not_not] at h14
                      refine TL.gv rfl rfl rfl rfl rfl (OpVal.fieldLoc rfl fo80_2 rfl) rfl rfl ?_
                      refine TL.gv rfl rfl rfl rfl rfl (OpVal.loadLocA rfl ag28 sz28 rfl (i := 0) rfl rfl rfl) rfl rfl ?_
                      refine TL.gv rfl rfl rfl rfl rfl (OpVal.buildArrL rfl Try.underlying28 sz26 ze28 rfl) rfl rfl ?_
                      refine TL.gv rfl rfl rfl rfl rfl (OpVal.eqlArr4 rfl Try.underlying28 Try.underlying26 ag26 sz26 eg28 rfl rfl rfl rfl) rfl rfl ?_
                      refine TL.v rfl (OpVal.pickFB rfl rfl rfl) rfl rfl ?_
                      refine TL.nil ?_
                      refine S.n ?_
                      refine TC.condD rfl (fun h15 => ?_) (fun h15 => ?_)
                      · try simp only [decide_eq_true_eq, decide_eq_false_iff_not, Bool.not_eq_true', Bool.not_eq_false', Bool.not_eq_eq_eq_not, Bool.not_true, Bool.not_false, Int.not_lt, Int.not_le, Decidable.not_not] at h15
                        refine TC.seq ?_
                        refine TC.region ?_
                        refine TL.v rfl (OpVal.moveB (.inr rfl) rfl) rfl rfl ?_
                        refine TL.nil ?_
                        refine S.n ?_
                        refine TC.ret ?_
                        refine B.r ?_
                        refine S.r ?_
                        refine S.r ?_
                        refine B.r ?_
                        refine S.r ?_
                        -- leaf 10 ret [h3: t8=False; h4: t13=False; h5: t21=False; h6: t29=False; h7: False; h8: True; h11: t50=False; h12: t57=False; h13: t62=False; h14: t69=False; h15: True] H=['q10', 'q2']
                        refine ret1P rfl (congrArg Value.bool ?_)
                        exact (show checkB n = false from by rw [checkB, edges_no (n := n) (k := g1) (by omega) (by simp [edgeB, (BSet.zero_iff _).1 h15]), Bool.and_false]).symm
                      · try simp only [decide_eq_true_eq, decide_eq_false_iff_not, Bool.not_eq_true', Bool.not_eq_false', Bool.not_eq_eq_eq_not, Bool.not_true, Bool.not_false, Int.not_lt, Int.not_le, Decidable.not_not] at h15
                        refine TC.skip ?_
                        refine B.n ?_
                        refine S.n ?_
                        refine TC.region ?_
                        refine TL.v rfl (OpVal.moveI (.inl rfl) rfl) rfl rfl ?_
                        refine TL.v rfl (OpVal.succ rfl rfl rfl (by omega)) rfl rfl ?_
                        refine TL.v rfl (OpVal.moveI (.inr rfl) rfl) rfl rfl ?_
                        refine TL.dropN 1 rfl ?_
                        refine TL.nil ?_
                        refine S.n ?_
                        -- leaf 11 next [h3: t8=False; h4: t13=False; h5: t21=False; h6: t29=False; h7: False; h8: True; h11: t50=False; h12: t57=False; h13: t62=False; h14: t69=False; h15: False] H=['q2']
                        refine ⟨by repeat (first | exact Agr.mask | refine Agr.upd rfl ?_ | refine Agr.maskIn rfl ?_), g1 + 1, ?_, ?_, ?_, ?_, ?_⟩
                        · omega
                        · refine ⟨by omega, all_step (p := fun i => edgeB n.states (nth n.edges i Arrow.zero)) hi ?_⟩
                          have hz : ¬ (nth n.edges g1 Arrow.zero).set = BSet.zero := fun hx => h15 ((BSet.zero_iff _).2 hx)
                          simp [edgeB, stateB, hz]; omega
                        · repeat (first | exact trivial | refine ⟨rfl, ?_⟩)
                        · rfl
                        · rfl
            · try simp only [decide_eq_true_eq, decide_eq_false_iff_not, Bool.not_eq_true', Bool.not_eq_false', Bool.not_eq_eq_eq_not, Bool.not_true, Bool.not_false, Int.not_lt, Int.not_le, Decidable.not_not] at h8
              refine TC.exit ?_
              refine S.x ?_
              refine S.x ?_
              refine TC.exitHere ?_
              refine S.n ?_
              refine TC.seq ?_
              refine TC.region ?_
              refine TL.v rfl (OpVal.moveB (.inr rfl) rfl) rfl rfl ?_
              refine TL.nil ?_
              refine S.n ?_
              refine TC.ret ?_
              -- leaf 12 ret [h3: t8=False; h4: t13=False; h5: t21=False; h6: t29=False; h7: False; h8: False] H=['q2']
              refine ret1P rfl (congrArg Value.bool ?_)
              have he := edges_yes (n := n) (fun i h => hi i (by omega))
              simp [checkB, h3, h4, h5, h6, h7, he]

theorem few_con (σ : Store) (n : Nfa) (p : NfaP) (hn : RNfa σ n p) : Con Try.prog 14 #[nfaV n p] σ [] (PureP (.bool (fewB n)) σ) := by
  have hb := hn.d.rv.big
  have hb1 := hn.s.rv.big
  have hb2 := hn.e.rv.big
  refine Con.mk (n := 27) Try.func14 rfl rfl rfl (fun w0 => ?_)
  refine TC.seq ?_
  refine TC.region ?_
  refine TL.op rfl (OpOk.boxA rfl rfl rfl rfl (fun b1 => ?_))
  refine TL.v rfl (OpVal.moveB (.inr rfl) rfl) rfl rfl ?_
  refine TL.nil ?_
  refine S.n ?_
  refine TC.seq ?_
  refine TC.region ?_
  refine TL.v rfl (OpVal.fieldLoc rfl fo25_0 rfl) rfl rfl ?_
  refine TL.v rfl (OpVal.loadLoc rfl ag3 rfl (i := 0) rfl rfl) rfl rfl ?_
  refine TL.v rfl (OpVal.leq rfl rfl rfl) rfl rfl ?_
  refine TL.v rfl (OpVal.moveB (.inl rfl) rfl) rfl rfl ?_
  refine TL.split 6 rfl (fun h3 => ?_) (fun h3 => ?_)
  · try simp only [decide_eq_true_eq, decide_eq_false_iff_not, Bool.not_eq_true', Bool.not_eq_false', Bool.not_eq_eq_eq_not, Bool.not_true, Bool.not_false, Int.not_lt, Int.not_le, Decidable.not_not] at h3
    refine TL.goff rfl rfl rfl rfl rfl rfl rfl rfl ?_
    refine TL.goff rfl rfl rfl rfl rfl rfl rfl rfl ?_
    refine TL.goff rfl rfl rfl rfl rfl rfl rfl rfl ?_
    refine TL.v rfl (OpVal.pickTB rfl rfl rfl) rfl rfl ?_
    refine TL.v rfl (OpVal.moveB (.inl rfl) rfl) rfl rfl ?_
    refine TL.gv rfl rfl rfl rfl rfl (OpVal.fieldLoc rfl fo25_3 rfl) rfl rfl ?_
    refine TL.gv rfl rfl rfl rfl rfl (OpVal.loadLoc rfl ag23 rfl (i := 0) rfl rfl) rfl rfl ?_
    refine TL.gv rfl rfl rfl rfl rfl (OpVal.lenC rfl Try.underlying23 rfl) rfl rfl ?_
    refine TL.gv rfl rfl rfl rfl rfl (OpVal.leq rfl rfl rfl) rfl rfl ?_
    refine TL.v rfl (OpVal.pickTB rfl rfl rfl) rfl rfl ?_
    refine TL.v rfl (OpVal.moveB (.inl rfl) rfl) rfl rfl ?_
    refine TL.split 17 rfl (fun h4 => ?_) (fun h4 => ?_)
    · try simp only [decide_eq_true_eq, decide_eq_false_iff_not, Bool.not_eq_true', Bool.not_eq_false', Bool.not_eq_eq_eq_not, Bool.not_true, Bool.not_false, Int.not_lt, Int.not_le, Decidable.not_not] at h4
      refine TL.gv rfl rfl rfl rfl rfl (OpVal.fieldLoc rfl fo25_1 rfl) rfl rfl ?_
      refine TL.gv rfl rfl rfl rfl rfl (OpVal.loadLoc rfl ag22 rfl (i := 0) rfl rfl) rfl rfl ?_
      refine TL.gv rfl rfl rfl rfl rfl (OpVal.lenC rfl Try.underlying22 rfl) rfl rfl ?_
      refine TL.gv rfl rfl rfl rfl rfl (OpVal.fieldLoc rfl fo25_2 rfl) rfl rfl ?_
      refine TL.gv rfl rfl rfl rfl rfl (OpVal.loadLoc rfl ag22 rfl (i := 0) rfl rfl) rfl rfl ?_
      refine TL.gv rfl rfl rfl rfl rfl (OpVal.lenC rfl Try.underlying22 rfl) rfl rfl ?_
      refine TL.gv rfl rfl rfl rfl rfl (OpVal.add rfl rfl rfl (by omega) (by omega)) rfl rfl ?_
      refine TL.gv rfl rfl rfl rfl rfl (OpVal.leq rfl rfl rfl) rfl rfl ?_
      refine TL.v rfl (OpVal.pickTB rfl rfl rfl) rfl rfl ?_
      refine TL.v rfl (OpVal.moveB (.inr rfl) rfl) rfl rfl ?_
      refine TL.nil ?_
      refine S.n ?_
      refine TC.ret ?_
      -- leaf 1 ret [h3: t6=True; h4: t17=True] H=['q2']
      refine ret1P rfl (congrArg Value.bool ?_)
      simp [fewB, *] <;> omega
    · try simp only [decide_eq_true_eq, decide_eq_false_iff_not, Bool.not_eq_true', Bool.not_eq_false', Bool.not_eq_eq_eq_not, Bool.not_true, Bool.not_false, Int.not_lt, Int.not_le, Decidable.not_not] at h4
      refine TL.goff rfl rfl rfl rfl rfl rfl rfl rfl ?_
      refine TL.goff rfl rfl rfl rfl rfl rfl rfl rfl ?_
      refine TL.goff rfl rfl rfl rfl rfl rfl rfl rfl ?_
      refine TL.goff rfl rfl rfl rfl rfl rfl rfl rfl ?_
      refine TL.goff rfl rfl rfl rfl rfl rfl rfl rfl ?_
      refine TL.goff rfl rfl rfl rfl rfl rfl rfl rfl ?_
      refine TL.goff rfl rfl rfl rfl rfl rfl rfl rfl ?_
      refine TL.goff rfl rfl rfl rfl rfl rfl rfl rfl ?_
      refine TL.v rfl (OpVal.pickFB rfl rfl rfl) rfl rfl ?_
      refine TL.v rfl (OpVal.moveB (.inr rfl) rfl) rfl rfl ?_
      refine TL.nil ?_
      refine S.n ?_
      refine TC.ret ?_
      -- leaf 2 ret [h3: t6=True; h4: t17=False] H=['q2']
      refine ret1P rfl (congrArg Value.bool ?_)
      simp [fewB, *] <;> omega
  · try simp only [decide_eq_true_eq, decide_eq_false_iff_not, Bool.not_eq_true', Bool.not_eq_false', Bool.not_eq_eq_eq_not, Bool.not_true, Bool.not_false, Int.not_lt, Int.not_le, Decidable.not_not] at h3
    refine TL.gv rfl rfl rfl rfl rfl (OpVal.fieldLoc rfl fo25_0 rfl) rfl rfl ?_
    refine TL.gv rfl rfl rfl rfl rfl (OpVal.loadLoc rfl ag3 rfl (i := 0) rfl rfl) rfl rfl ?_
    refine TL.gv rfl rfl rfl rfl rfl (OpVal.gtr rfl rfl rfl) rfl rfl ?_
    refine TL.v rfl (OpVal.pickFB rfl rfl rfl) rfl rfl ?_
    refine TL.v rfl (OpVal.moveB (.inl rfl) rfl) rfl rfl ?_
    refine TL.split 11 rfl (fun h5 => ?_) (fun h5 => ?_)
    · try simp only [decide_eq_true_eq, decide_eq_false_iff_not, Bool.not_eq_true', Bool.not_eq_false', Bool.not_eq_eq_eq_not, Bool.not_true, Bool.not_false, Int.not_lt, Int.not_le, Decidable.not_not] at h5
      refine TL.gv rfl rfl rfl rfl rfl (OpVal.fieldLoc rfl fo25_3 rfl) rfl rfl ?_
      refine TL.gv rfl rfl rfl rfl rfl (OpVal.loadLoc rfl ag23 rfl (i := 0) rfl rfl) rfl rfl ?_
      refine TL.gv rfl rfl rfl rfl rfl (OpVal.lenC rfl Try.underlying23 rfl) rfl rfl ?_
      refine TL.gv rfl rfl rfl rfl rfl (OpVal.leq rfl rfl rfl) rfl rfl ?_
      refine TL.v rfl (OpVal.pickTB rfl rfl rfl) rfl rfl ?_
      refine TL.v rfl (OpVal.moveB (.inl rfl) rfl) rfl rfl ?_
      refine TL.split 17 rfl (fun h6 => ?_) (fun h6 => ?_)
      · try simp only [decide_eq_true_eq, decide_eq_false_iff_not, Bool.not_eq_true', Bool.not_eq_false', Bool.not_eq_eq_eq_not, Bool.not_true, Bool.not_false, Int.not_lt, Int.not_le, Decidable.not_not] at h6
        refine TL.gv rfl rfl rfl rfl rfl (OpVal.fieldLoc rfl fo25_1 rfl) rfl rfl ?_
        refine TL.gv rfl rfl rfl rfl rfl (OpVal.loadLoc rfl ag22 rfl (i := 0) rfl rfl) rfl rfl ?_
        refine TL.gv rfl rfl rfl rfl rfl (OpVal.lenC rfl Try.underlying22 rfl) rfl rfl ?_
        refine TL.gv rfl rfl rfl rfl rfl (OpVal.fieldLoc rfl fo25_2 rfl) rfl rfl ?_
        refine TL.gv rfl rfl rfl rfl rfl (OpVal.loadLoc rfl ag22 rfl (i := 0) rfl rfl) rfl rfl ?_
        refine TL.gv rfl rfl rfl rfl rfl (OpVal.lenC rfl Try.underlying22 rfl) rfl rfl ?_
        refine TL.gv rfl rfl rfl rfl rfl (OpVal.add rfl rfl rfl (by omega) (by omega)) rfl rfl ?_
        refine TL.gv rfl rfl rfl rfl rfl (OpVal.leq rfl rfl rfl) rfl rfl ?_
        refine TL.v rfl (OpVal.pickTB rfl rfl rfl) rfl rfl ?_
        refine TL.v rfl (OpVal.moveB (.inr rfl) rfl) rfl rfl ?_
        refine TL.nil ?_
        refine S.n ?_
        refine TC.ret ?_
        -- leaf 3 ret [h3: t6=False; h5: t11=True; h6: t17=True] H=['q2']
        refine ret1P rfl (congrArg Value.bool ?_)
        simp [fewB, *] <;> omega
      · try simp only [decide_eq_true_eq, decide_eq_false_iff_not, Bool.not_eq_true', Bool.not_eq_false', Bool.not_eq_eq_eq_not, Bool.not_true, Bool.not_false, Int.not_lt, Int.not_le, Decidable.not_not] at h6
        refine TL.goff rfl rfl rfl rfl rfl rfl rfl rfl ?_
        refine TL.goff rfl rfl rfl rfl rfl rfl rfl rfl ?_
        refine TL.goff rfl rfl rfl rfl rfl rfl rfl rfl ?_
        refine TL.goff rfl rfl rfl rfl rfl rfl rfl rfl ?_
        refine TL.goff rfl rfl rfl rfl rfl rfl rfl rfl ?_
        refine TL.goff rfl rfl rfl rfl rfl rfl rfl rfl ?_
        refine TL.goff rfl rfl rfl rfl rfl rfl rfl rfl ?_
        refine TL.goff rfl rfl rfl rfl rfl rfl rfl rfl ?_
        refine TL.v rfl (OpVal.pickFB rfl rfl rfl) rfl rfl ?_
        refine TL.v rfl (OpVal.moveB (.inr rfl) rfl) rfl rfl ?_
        refine TL.nil ?_
        refine S.n ?_
        refine TC.ret ?_
        -- leaf 4 ret [h3: t6=False; h5: t11=True; h6: t17=False] H=['q2']
        refine ret1P rfl (congrArg Value.bool ?_)
        simp [fewB, *] <;> omega
    · try simp only [decide_eq_true_eq, decide_eq_false_iff_not, Bool.not_eq_true', Bool.not_eq_false', Bool.not_eq_eq_eq_not, Bool.not_true, Bool.not_false, Int.not_lt, Int.not_le, Decidable.not_not] at h5
      refine TL.goff rfl rfl rfl rfl rfl rfl rfl rfl ?_
      refine TL.goff rfl rfl rfl rfl rfl rfl rfl rfl ?_
      refine TL.goff rfl rfl rfl rfl rfl rfl rfl rfl ?_
      refine TL.goff rfl rfl rfl rfl rfl rfl rfl rfl ?_
      refine TL.v rfl (OpVal.pickFB rfl rfl rfl) rfl rfl ?_
      refine TL.v rfl (OpVal.moveB (.inl rfl) rfl) rfl rfl ?_
      refine TL.goff rfl rfl rfl rfl rfl rfl rfl rfl ?_
      refine TL.goff rfl rfl rfl rfl rfl rfl rfl rfl ?_
      refine TL.goff rfl rfl rfl rfl rfl rfl rfl rfl ?_
      refine TL.goff rfl rfl rfl rfl rfl rfl rfl rfl ?_
      refine TL.goff rfl rfl rfl rfl rfl rfl rfl rfl ?_
      refine TL.goff rfl rfl rfl rfl rfl rfl rfl rfl ?_
      refine TL.goff rfl rfl rfl rfl rfl rfl rfl rfl ?_
      refine TL.goff rfl rfl rfl rfl rfl rfl rfl rfl ?_
      refine TL.v rfl (OpVal.pickFB rfl rfl rfl) rfl rfl ?_
      refine TL.v rfl (OpVal.moveB (.inr rfl) rfl) rfl rfl ?_
      refine TL.nil ?_
      refine S.n ?_
      refine TC.ret ?_
      -- leaf 5 ret [h3: t6=False; h5: t11=False] H=['q2']
      refine ret1P rfl (congrArg Value.bool ?_)
      simp [fewB, *] <;> omega

theorem fits_con (σ : Store) (s d : Int) : Con Try.prog 61 #[.int .i64 s, .int .i64 d] σ [] (PureP (.bool (decide (s ≤ 4096) && decide (d ≤ 65536))) σ) := by
  refine Con.mk (n := 11) Try.func61 rfl rfl rfl (fun w0 => ?_)
  refine TC.seq ?_
  refine TC.region ?_
  refine TL.v rfl (OpVal.moveB (.inr rfl) rfl) rfl rfl ?_
  refine TL.nil ?_
  refine S.n ?_
  refine TC.seq ?_
  refine TC.region ?_
  refine TL.v rfl (OpVal.moveI (.inl rfl) rfl) rfl rfl ?_
  refine TL.v rfl (OpVal.leq rfl rfl rfl) rfl rfl ?_
  refine TL.v rfl (OpVal.moveB (.inl rfl) rfl) rfl rfl ?_
  refine TL.split 7 rfl (fun h1 => ?_) (fun h1 => ?_)
  · try simp only [decide_eq_true_eq, decide_eq_false_iff_not, Bool.not_eq_true', Bool.not_eq_false', Bool.not_eq_eq_eq_not, Bool.not_true, Bool.not_false, Int.not_lt, Int.not_le, Decidable.not_not] at h1
    refine TL.gv rfl rfl rfl rfl rfl (OpVal.moveI (.inl rfl) rfl) rfl rfl ?_
    refine TL.gv rfl rfl rfl rfl rfl (OpVal.leq rfl rfl rfl) rfl rfl ?_
    refine TL.v rfl (OpVal.pickTB rfl rfl rfl) rfl rfl ?_
    refine TL.v rfl (OpVal.moveB (.inr rfl) rfl) rfl rfl ?_
    refine TL.nil ?_
    refine S.n ?_
    refine TC.ret ?_
    -- leaf 1 ret [h1: t7=True] H=[]
    refine ret1P rfl (congrArg Value.bool ?_)
    simp [*] <;> omega
  · try simp only [decide_eq_true_eq, decide_eq_false_iff_not, Bool.not_eq_true', Bool.not_eq_false', Bool.not_eq_eq_eq_not, Bool.not_true, Bool.not_false, Int.not_lt, Int.not_le, Decidable.not_not] at h1
    refine TL.goff rfl rfl rfl rfl rfl rfl rfl rfl ?_
    refine TL.goff rfl rfl rfl rfl rfl rfl rfl rfl ?_
    refine TL.v rfl (OpVal.pickFB rfl rfl rfl) rfl rfl ?_
    refine TL.v rfl (OpVal.moveB (.inr rfl) rfl) rfl rfl ?_
    refine TL.nil ?_
    refine S.n ?_
    refine TC.ret ?_
    -- leaf 2 ret [h1: t7=False] H=[]
    refine ret1P rfl (congrArg Value.bool ?_)
    simp [*] <;> omega

theorem marks_con (σ : Store) (a : Option Addr) (c : Nat) (l : List Int) (st : Int) (hl : RS σ 1 Go.E.encI (.slice a l.length c) l) (h0 : 0 ≤ st) (h1 : st ≤ 4096) (hs : ∀ x ∈ l, 0 ≤ x ∧ x < st) :
    Con Try.prog 60 #[.slice a l.length c, .int .i64 st] σ [] (RowP 4 1 encB (marksL l st.toNat) σ) := by
  have hb := hl.rv.big
  obtain ⟨m, rfl⟩ := Int.eq_ofNat_of_zero_le h0
  refine Con.mk (n := 21) Try.func60 rfl rfl rfl (fun w0 => ?_)
  refine TC.seq ?_
  refine TC.region ?_
  refine TL.v rfl (OpVal.moveSl (.inr rfl) rfl) rfl rfl ?_
  refine TL.nil ?_
  refine S.n ?_
  refine TC.seq ?_
  refine TC.region ?_
  refine TL.v rfl (OpVal.moveI (.inl rfl) rfl) rfl rfl ?_
  refine TL.op rfl (OpOk.makeS (enc := encB) false rfl Try.underlying47 sz4 by4 ze4 rfl rfl rfl rfl (by omega) (by decide) encB_len (by decide) rfl encB_one (fun a1 c2 => ?_))
  refine TL.v rfl (OpVal.moveSl (.inr rfl) rfl) rfl rfl ?_
  refine TL.nil ?_
  refine S.n ?_
  refine TC.seq ?_
  refine TC.seq ?_
  refine TC.region ?_
  refine TL.v rfl (OpVal.moveSl (.inl rfl) rfl) rfl rfl ?_
  refine TL.v rfl (OpVal.lenC rfl Try.underlying22 rfl) rfl rfl ?_
  refine TL.v rfl (OpVal.moveI (.inl rfl) rfl) rfl rfl ?_
  refine TL.nil ?_
  refine S.n ?_
  refine TC.block ?_
  refine TC.loopF (α := Nat) [7, 12, 13, 14, 15, 16, 17, 18, 19] (fun k => [(12, .int .i64 (k : Nat))]) (fun k => [Res.rowS 4 1 encB (.slice a1 m c2) (marksTo l k m)]) (fun _ => _) (fun k => k ≤ l.length) (fun k => l.length - k) (0) (by first | exact True.intro | omega | (dsimp only; omega) | (simp; done) | (simp; omega)) (by repeat (first | exact trivial | refine ⟨rfl, ?_⟩)) (by rw [marksTo_zero]) (by rfl) (fun g1 j1 hg1 => ?_)
  have hx : g1 < l.length → 0 ≤ nth l g1 0 ∧ nth l g1 0 < m := fun h => hs _ (nth_mem h 0)
  have hml := marksTo_len l g1 m
  refine TC.seq ?_
  refine TC.region ?_
  refine TL.v rfl (OpVal.lss rfl rfl rfl) rfl rfl ?_
  refine TL.nil ?_
  refine S.n ?_
  refine TC.seq ?_
  refine TC.condD rfl (fun h4 => ?_) (fun h4 => ?_)
  · try simp only [decide_eq_true_eq, decide_eq_false_iff_not, Bool.not_eq_true', Bool.not_eq_false', Bool.not_eq_eq_eq_not, Bool.not_true, Bool.not_false, Int.not_lt, Int.not_le, Decidable.not_not] at h4
    refine TC.skip ?_
    refine S.n ?_
    refine TC.seq ?_
    refine TC.block ?_
    refine TC.seq ?_
    refine TC.region ?_
    refine TL.v rfl (OpVal.indexN rfl Try.underlying22 sz3 rfl rfl (by first | assumption | exact (RS.rv (by assumption)).sl) (by omega)) rfl rfl ?_
    refine TL.v rfl (OpVal.loadS1 (0 : Int) rfl ag3 rfl (by assumption) (by omega) rfl) rfl rfl ?_
    refine TL.v rfl (OpVal.moveI (.inr rfl) rfl) rfl rfl ?_
    refine TL.nil ?_
    refine S.n ?_
    refine TC.region ?_
    refine TL.v rfl (OpVal.moveSl (.inl rfl) rfl) rfl rfl ?_
    refine TL.v rfl (OpVal.moveI (.inl rfl) rfl) rfl rfl ?_
    refine TL.isSl (i := 0) rfl (fun hs5 _ _ => ?_)
    refine TL.v rfl (OpVal.index rfl Try.underlying47 sz4 rfl rfl (by first | assumption | exact (RS.rv (by assumption)).sl) (by omega) (by omega)) rfl rfl ?_
    refine TL.op rfl (OpOk.storeS _ rfl sz4 rfl rfl rfl rfl encB_len encB_one (by omega) (by omega) ?_)
    refine TL.nil ?_
    refine B.n ?_
    refine S.n ?_
    refine TC.region ?_
    refine TL.v rfl (OpVal.succ rfl rfl rfl (by omega)) rfl rfl ?_
    refine TL.v rfl (OpVal.moveI (.inl rfl) rfl) rfl rfl ?_
    refine TL.nil ?_
    refine S.n ?_
    -- leaf 1 next [h4: True] H=['q3']
    refine ⟨by repeat (first | exact Agr.mask | refine Agr.upd rfl ?_ | refine Agr.maskIn rfl ?_), g1 + 1, ?_, ?_, ?_, ?_, ?_⟩
    · omega
    · first | exact True.intro | omega | (dsimp only; omega) | (simp; done) | (simp; omega)
    · repeat (first | exact trivial | refine ⟨rfl, ?_⟩)
    · rw [marksTo_succ (by omega) (by omega)]
    · rfl
  · try simp only [decide_eq_true_eq, decide_eq_false_iff_not, Bool.not_eq_true', Bool.not_eq_false', Bool.not_eq_eq_eq_not, Bool.not_true, Bool.not_false, Int.not_lt, Int.not_le, Decidable.not_not] at h4
    refine TC.exit ?_
    refine S.x ?_
    refine S.x ?_
    refine TC.exitHere ?_
    refine S.n ?_
    refine TC.seq ?_
    refine TC.region ?_
    refine TL.v rfl (OpVal.moveSl (.inl rfl) rfl) rfl rfl ?_
    refine TL.v rfl (OpVal.moveSl (.inr rfl) rfl) rfl rfl ?_
    refine TL.nil ?_
    refine S.n ?_
    refine TC.ret ?_
    -- leaf 2 ret [h4: False] H=['q3']
    obtain rfl : g1 = l.length := by omega
    simp only [Int.toNat_natCast, marksTo_all]
    exact ret1R' rfl rfl (marksL_len l m)

theorem shift_con (σ : Store) (a : Option Addr) (c : Nat) (l : List Int) (k : Int) (hl : RS σ 1 Go.E.encI (.slice a l.length c) l) (hk : 0 ≤ k ∧ k ≤ 1000000) (hs : ∀ x ∈ l, 0 ≤ x ∧ x ≤ 1000000) (hsz : l.length ≤ 1000000000000) :
    Con Try.prog 63 #[.slice a l.length c, .int .i64 k] σ [] (RowP 3 1 Go.E.encI (shiftL l k) σ) := by
  have hb := hl.rv.big
  refine Con.mk (n := 26) Try.func63 rfl rfl rfl (fun w0 => ?_)
  refine TC.seq ?_
  refine TC.region ?_
  refine TL.v rfl (OpVal.moveSl (.inr rfl) rfl) rfl rfl ?_
  refine TL.nil ?_
  refine S.n ?_
  refine TC.seq ?_
  refine TC.region ?_
  refine TL.v rfl (OpVal.moveSl (.inl rfl) rfl) rfl rfl ?_
  refine TL.v rfl (OpVal.lenC rfl Try.underlying22 rfl) rfl rfl ?_
  refine TL.op rfl (OpOk.makeS (enc := Go.E.encI) (0 : Int) rfl Try.underlying22 sz3 by3 ze3 rfl rfl rfl rfl (by omega) (by decide) encI_len (by decide) rfl encI_one (fun a1 c2 => ?_))
  refine TL.v rfl (OpVal.moveSl (.inr rfl) rfl) rfl rfl ?_
  refine TL.nil ?_
  refine S.n ?_
  refine TC.seq ?_
  refine TC.seq ?_
  refine TC.region ?_
  refine TL.v rfl (OpVal.moveSl (.inl rfl) rfl) rfl rfl ?_
  refine TL.v rfl (OpVal.lenC rfl Try.underlying22 rfl) rfl rfl ?_
  refine TL.v rfl (OpVal.moveI (.inl rfl) rfl) rfl rfl ?_
  refine TL.nil ?_
  refine S.n ?_
  refine TC.block ?_
  refine TC.loopF (α := Nat) [6, 7, 13, 14, 15, 16, 17, 18, 19, 20, 21, 22, 23, 24] (fun i => [(13, .int .i64 (i : Nat))]) (fun i => [Res.rowS 3 1 Go.E.encI (.slice a1 l.length c2) (shiftTo l i k)]) (fun _ => _) (fun i => i ≤ l.length) (fun i => l.length - i) (0) (by first | exact True.intro | omega | (dsimp only; omega) | (simp; done) | (simp; omega)) (by repeat (first | exact trivial | refine ⟨rfl, ?_⟩)) (by simp [shiftTo, shiftL]) (by rfl) (fun g1 j1 hg1 => ?_)
  have hx : g1 < l.length → 0 ≤ nth l g1 0 ∧ nth l g1 0 ≤ 1000000 := fun h => hs _ (nth_mem h 0)
  have hml := fun h => shiftTo_len l g1 k h
  refine TC.seq ?_
  refine TC.region ?_
  refine TL.v rfl (OpVal.lss rfl rfl rfl) rfl rfl ?_
  refine TL.nil ?_
  refine S.n ?_
  refine TC.seq ?_
  refine TC.condD rfl (fun h4 => ?_) (fun h4 => ?_)
  · try simp only [decide_eq_true_eq, decide_eq_false_iff_not, Bool.not_eq_true', Bool.not_eq_false', Bool.not_eq_eq_eq_not, Bool.not_true, Bool.not_false, Int.not_lt, Int.not_le, Decidable.not_not] at h4
    refine TC.skip ?_
    refine S.n ?_
    refine TC.seq ?_
    refine TC.block ?_
    refine TC.seq ?_
    refine TC.region ?_
    refine TL.v rfl (OpVal.moveI (.inl rfl) rfl) rfl rfl ?_
    refine TL.v rfl (OpVal.indexN rfl Try.underlying22 sz3 rfl rfl (by first | assumption | exact (RS.rv (by assumption)).sl) (by omega)) rfl rfl ?_
    refine TL.v rfl (OpVal.loadS1 (0 : Int) rfl ag3 rfl (by assumption) (by omega) rfl) rfl rfl ?_
    refine TL.v rfl (OpVal.moveI (.inr rfl) rfl) rfl rfl ?_
    refine TL.v rfl (OpVal.moveI (.inr rfl) rfl) rfl rfl ?_
    refine TL.nil ?_
    refine S.n ?_
    refine TC.region ?_
    refine TL.v rfl (OpVal.moveSl (.inl rfl) rfl) rfl rfl ?_
    refine TL.v rfl (OpVal.moveI (.inl rfl) rfl) rfl rfl ?_
    refine TL.v rfl (OpVal.moveI (.inl rfl) rfl) rfl rfl ?_
    refine TL.v rfl (OpVal.moveI (.inl rfl) rfl) rfl rfl ?_
    refine TL.v rfl (OpVal.add rfl rfl rfl (by omega) (by omega)) rfl rfl ?_
    refine TL.isSl (i := 0) rfl (fun hs5 _ _ => ?_)
    refine TL.v rfl (OpVal.indexN rfl Try.underlying22 sz3 rfl rfl (by first | assumption | exact (RS.rv (by assumption)).sl) (by omega)) rfl rfl ?_
    refine TL.op rfl (OpOk.storeS _ rfl sz3 rfl rfl rfl rfl encI_len encI_one (by omega) (by omega) ?_)
    refine TL.nil ?_
    refine B.n ?_
    refine S.n ?_
    refine TC.region ?_
    refine TL.v rfl (OpVal.succ rfl rfl rfl (by omega)) rfl rfl ?_
    refine TL.v rfl (OpVal.moveI (.inl rfl) rfl) rfl rfl ?_
    refine TL.nil ?_
    refine S.n ?_
    -- leaf 1 next [h4: True] H=['q3']
    refine ⟨by repeat (first | exact Agr.mask | refine Agr.upd rfl ?_ | refine Agr.maskIn rfl ?_), g1 + 1, ?_, ?_, ?_, ?_, ?_⟩
    · omega
    · first | exact True.intro | omega | (dsimp only; omega) | (simp; done) | (simp; omega)
    · repeat (first | exact trivial | refine ⟨rfl, ?_⟩)
    · rw [shiftTo_succ (by omega)]
    · rfl
  · try simp only [decide_eq_true_eq, decide_eq_false_iff_not, Bool.not_eq_true', Bool.not_eq_false', Bool.not_eq_eq_eq_not, Bool.not_true, Bool.not_false, Int.not_lt, Int.not_le, Decidable.not_not] at h4
    refine TC.exit ?_
    refine S.x ?_
    refine S.x ?_
    refine TC.exitHere ?_
    refine S.n ?_
    refine TC.seq ?_
    refine TC.region ?_
    refine TL.v rfl (OpVal.moveSl (.inl rfl) rfl) rfl rfl ?_
    refine TL.v rfl (OpVal.moveSl (.inr rfl) rfl) rfl rfl ?_
    refine TL.nil ?_
    refine S.n ?_
    refine TC.ret ?_
    -- leaf 2 ret [h4: False] H=['q3']
    obtain rfl : g1 = l.length := by omega
    simp only [shiftTo_all]
    exact ret1R' rfl rfl (shiftL_len l k)

theorem rshift_con (σ : Store) (a : Option Addr) (c : Nat) (l : List Int) (k : Int) (hl : RS σ 1 Go.E.encI (.slice a l.length c) l) (hk : 0 ≤ k ∧ k ≤ 1000000) (hs : ∀ x ∈ l, 0 ≤ x ∧ x ≤ 1000000) (hsz : l.length ≤ 1000000000000) :
    Con Try.prog 67 #[.slice a l.length c, .int .i64 k] σ [] (RowP 3 1 Go.E.encI (shiftL l k) σ) := by
  have hb := hl.rv.big
  refine Con.mk (n := 23) Try.func67 rfl rfl rfl (fun w0 => ?_)
  refine TC.seq ?_
  refine TC.region ?_
  refine TL.v rfl (OpVal.moveSl (.inr rfl) rfl) rfl rfl ?_
  refine TL.nil ?_
  refine S.n ?_
  refine TC.seq ?_
  refine TC.region ?_
  refine TL.v rfl (OpVal.moveSl (.inr rfl) rfl) rfl rfl ?_
  refine TL.nilS 3 1 Go.E.encI ?_
  refine TL.nil ?_
  refine S.n ?_
  refine TC.seq ?_
  refine TC.seq ?_
  refine TC.region ?_
  refine TL.v rfl (OpVal.moveI (.inr rfl) rfl) rfl rfl ?_
  refine TL.nil ?_
  refine S.n ?_
  refine TC.block ?_
  refine TC.loopF (α := Nat × Option Addr × Nat) [5, 6, 7, 8, 9, 10, 11, 12, 13, 14, 15, 16, 17, 18, 19, 20, 21] (fun g => [(6, .int .i64 (g.1 : Nat)), (5, .slice g.2.1 (shiftL (l.take g.1) k).length g.2.2)]) (fun g => [Res.rowS 3 1 Go.E.encI (.slice g.2.1 (shiftL (l.take g.1) k).length g.2.2) (shiftL (l.take g.1) k)]) (fun _ => _) (fun g => g.1 ≤ l.length) (fun g => l.length - g.1) ((0, none, 0)) (by first | exact True.intro | omega | (dsimp only; omega) | (simp; done) | (simp; omega)) (by repeat (first | exact trivial | refine ⟨rfl, ?_⟩)) (by rfl) (by rfl) (fun g1 j1 hg1 => ?_)
  obtain ⟨g1, ga, gc⟩ := g1
  dsimp only
  have hg1 : g1 ≤ l.length := hg1
  have hx : g1 < l.length → 0 ≤ nth l g1 0 ∧ nth l g1 0 ≤ 1000000 := fun h => hs _ (nth_mem h 0)
  have hml : (shiftL (l.take g1) k).length = min g1 l.length := by simp [shiftL]
  refine TC.seq ?_
  refine TC.seq ?_
  refine TC.region ?_
  refine TL.v rfl (OpVal.moveI (.inl rfl) rfl) rfl rfl ?_
  refine TL.v rfl (OpVal.moveSl (.inl rfl) rfl) rfl rfl ?_
  refine TL.v rfl (OpVal.lenC rfl Try.underlying22 rfl) rfl rfl ?_
  refine TL.v rfl (OpVal.lss rfl rfl rfl) rfl rfl ?_
  refine TL.nil ?_
  refine S.n ?_
  refine TC.condD rfl (fun h2 => ?_) (fun h2 => ?_)
  · try simp only [decide_eq_true_eq, decide_eq_false_iff_not, Bool.not_eq_true', Bool.not_eq_false', Bool.not_eq_eq_eq_not, Bool.not_true, Bool.not_false, Int.not_lt, Int.not_le, Decidable.not_not] at h2
    refine TC.skip ?_
    refine S.n ?_
    refine TC.seq ?_
    refine TC.block ?_
    refine TC.region ?_
    refine TL.v rfl (OpVal.moveSl (.inl rfl) rfl) rfl rfl ?_
    refine TL.v rfl (OpVal.moveSl (.inl rfl) rfl) rfl rfl ?_
    refine TL.v rfl (OpVal.moveI (.inl rfl) rfl) rfl rfl ?_
    refine TL.v rfl (OpVal.indexN rfl Try.underlying22 sz3 rfl rfl (by first | assumption | exact (RS.rv (by assumption)).sl) (by omega)) rfl rfl ?_
    refine TL.v rfl (OpVal.loadS1 (0 : Int) rfl ag3 rfl (by assumption) (by omega) rfl) rfl rfl ?_
    refine TL.v rfl (OpVal.moveI (.inl rfl) rfl) rfl rfl ?_
    refine TL.v rfl (OpVal.add rfl rfl rfl (by omega) (by omega)) rfl rfl ?_
    refine TL.op rfl (OpOk.lit (enc := Go.E.encI) [_] rfl Try.underlying22 sz3 ze3 rfl rfl rfl encI_len (by decide) (by decide) (0 : Int) rfl (by decide) rfl (by decide) encI_one (fun a3 c4 => ?_))
    refine TL.front 1 rfl rfl ?_
    refine TL.op rfl (OpOk.appendS rfl rfl Try.underlying22 sz3 by3 ze3 rfl rfl (by decide) rfl rfl rfl (.inr ⟨_, 0, rfl⟩) (by (try simp only [List.length_cons, List.length_nil, List.length_append]); omega) (by decide) (fun a6 c7 => ?_))
    refine TL.v rfl (OpVal.moveSl (.inr rfl) rfl) rfl rfl ?_
    refine TL.nil ?_
    refine B.n ?_
    refine S.n ?_
    refine TC.region ?_
    refine TL.v rfl (OpVal.moveI (.inl rfl) rfl) rfl rfl ?_
    refine TL.v rfl (OpVal.succ rfl rfl rfl (by omega)) rfl rfl ?_
    refine TL.v rfl (OpVal.moveI (.inr rfl) rfl) rfl rfl ?_
    refine TL.takeN 1 rfl ?_
    refine TL.nil ?_
    refine S.n ?_
    -- leaf 1 next [h2: True] H=['q1']
    refine ⟨by repeat (first | exact Agr.mask | refine Agr.upd rfl ?_ | refine Agr.maskIn rfl ?_), (g1 + 1, a6, c7), ?_, ?_, ?_, ?_, ?_⟩
    · show l.length - (g1 + 1) < l.length - g1; omega
    · show g1 + 1 ≤ l.length; omega
    · show Has _ [(_, .int .i64 ((g1 + 1 : Nat) : Int)), (5, .slice _ (shiftL (l.take (g1 + 1)) k).length _)]
      rw [shiftL_snoc (l := l) (i := g1) (k := k) (by omega)]; exact ⟨rfl, rfl, trivial⟩
    · show _ = [Res.rowS _ _ _ (.slice _ (shiftL (l.take (g1 + 1)) k).length _) (shiftL (l.take (g1 + 1)) k)]
      rw [shiftL_snoc (l := l) (i := g1) (k := k) (by omega)]; rfl
    · rfl
  · try simp only [decide_eq_true_eq, decide_eq_false_iff_not, Bool.not_eq_true', Bool.not_eq_false', Bool.not_eq_eq_eq_not, Bool.not_true, Bool.not_false, Int.not_lt, Int.not_le, Decidable.not_not] at h2
    refine TC.exit ?_
    refine S.x ?_
    refine S.x ?_
    refine TC.exitHere ?_
    refine S.n ?_
    refine TC.seq ?_
    refine TC.region ?_
    refine TL.v rfl (OpVal.moveSl (.inl rfl) rfl) rfl rfl ?_
    refine TL.v rfl (OpVal.moveSl (.inr rfl) rfl) rfl rfl ?_
    refine TL.nil ?_
    refine S.n ?_
    refine TC.ret ?_
    -- leaf 2 ret [h2: False] H=['q1']
    obtain rfl : g1 = l.length := by omega
    rw [List.take_length]
    exact ret1R rfl rfl

theorem empty_con (σ : Store) (n : Nfa) (p : NfaP) (hn : RNfa σ n p) : Con Try.prog 69 #[nfaV n p] σ [] (PureP (.bool (emptyB n)) σ) := by
  have hb1 := hn.s.rv.big
  have hs := hn.s
  refine Con.mk (n := 19) Try.func69 rfl rfl rfl (fun w0 => ?_)
  refine TC.seq ?_
  refine TC.region ?_
  refine TL.op rfl (OpOk.boxA rfl rfl rfl rfl (fun b1 => ?_))
  refine TL.v rfl (OpVal.moveB (.inr rfl) rfl) rfl rfl ?_
  refine TL.nil ?_
  refine S.n ?_
  refine TC.seq ?_
  refine TC.seq ?_
  refine TC.region ?_
  refine TL.v rfl (OpVal.moveI (.inr rfl) rfl) rfl rfl ?_
  refine TL.nil ?_
  refine S.n ?_
  refine TC.block ?_
  refine TC.loopF (α := Nat) [2, 3, 4, 5, 6, 7, 8, 9, 10, 11, 12, 13, 14, 15, 16, 17, 18] (fun k => [(3, .int .i64 (k : Nat))]) (fun _ => _) (fun _ => _) (fun k => k ≤ n.starts.length ∧ ∀ i, i < k → n.ends.contains (nth n.starts i 0) = false) (fun k => n.starts.length - k) (0) (by first | exact True.intro | omega | (dsimp only; omega) | (simp; done) | (simp; omega)) (by repeat (first | exact trivial | refine ⟨rfl, ?_⟩)) (by rfl) (by rfl) (fun g1 j1 hg1 => ?_)
  obtain ⟨hk, hi⟩ := hg1
  refine TC.seq ?_
  refine TC.seq ?_
  refine TC.region ?_
  refine TL.v rfl (OpVal.moveI (.inl rfl) rfl) rfl rfl ?_
  refine TL.v rfl (OpVal.fieldLoc rfl fo25_1 rfl) rfl rfl ?_
  refine TL.v rfl (OpVal.loadLoc rfl ag22 rfl (i := 0) rfl rfl) rfl rfl ?_
  refine TL.v rfl (OpVal.lenC rfl Try.underlying22 rfl) rfl rfl ?_
  refine TL.v rfl (OpVal.lss rfl rfl rfl) rfl rfl ?_
  refine TL.nil ?_
  refine S.n ?_
  refine TC.condD rfl (fun h3 => ?_) (fun h3 => ?_)
  · try simp only [decide_eq_true_eq, decide_eq_false_iff_not, Bool.not_eq_true', Bool.not_eq_false', Bool.not_eq_eq_eq_not, Bool.not_true, Bool.not_false, Int.not_lt, Int.not_le, Decidable.not_not] at h3
    refine TC.skip ?_
    refine S.n ?_
    refine TC.seq ?_
    refine TC.block ?_
    refine TC.seq ?_
    refine TC.draw [] (by kernel_rfl) ?_
    refine TA.takeP 0 rfl (by kernel_rfl) (by kernel_rfl) (by kernel_rfl) rfl (OpVal.fieldLoc rfl fo25_1 rfl) rfl rfl ?_
    refine TA.take 1 rfl (by kernel_rfl) (by kernel_rfl) (by kernel_rfl) (by kernel_rfl) rfl (OpVal.loadLoc rfl ag22 rfl (i := 0) rfl rfl) rfl rfl ?_
    refine TA.takeP 2 rfl (by kernel_rfl) (by kernel_rfl) (by kernel_rfl) rfl (OpVal.moveI (.inl rfl) rfl) rfl rfl ?_
    refine TA.takeP 3 rfl (by kernel_rfl) (by kernel_rfl) (by kernel_rfl) rfl (OpVal.indexN rfl Try.underlying22 sz3 rfl rfl (by first | assumption | exact (RS.rv (by assumption)).sl) (by omega)) rfl rfl ?_
    refine TA.take 4 rfl (by kernel_rfl) (by kernel_rfl) (by kernel_rfl) (by kernel_rfl) rfl (OpVal.loadS1 (0 : Int) rfl ag3 rfl (by assumption) (by omega) rfl) rfl rfl ?_
    refine TA.takeP 5 rfl (by kernel_rfl) (by kernel_rfl) (by kernel_rfl) rfl (OpVal.fieldLoc rfl fo25_2 rfl) rfl rfl ?_
    refine TA.take 6 rfl (by kernel_rfl) (by kernel_rfl) (by kernel_rfl) (by kernel_rfl) rfl (OpVal.loadLoc rfl ag22 rfl (i := 0) rfl rfl) rfl rfl ?_
    refine TA.act 7 (by kernel_rfl) rfl rfl (OpOk.callP (in_con _ _ _ _ _ hn.e) rfl rfl pf59 rfl rfl rfl ⟨(fun w h => sees_of (by first | exact Store.le.refl _ | assumption) (fun r hr => hr) w h), ?_⟩)
    refine TA.done (by kernel_rfl) ?_
    refine S.n ?_
    refine TC.cond rfl (fun h4 => ?_) (fun h4 => ?_)
    · try simp only [decide_eq_true_eq, decide_eq_false_iff_not, Bool.not_eq_true', Bool.not_eq_false', Bool.not_eq_eq_eq_not, Bool.not_true, Bool.not_false, Int.not_lt, Int.not_le, Decidable.not_not] at h4
      refine TC.seq ?_
      refine TC.region ?_
      refine TL.v rfl (OpVal.moveB (.inr rfl) rfl) rfl rfl ?_
      refine TL.nil ?_
      refine S.n ?_
      refine TC.ret ?_
      refine B.r ?_
      refine S.r ?_
      refine S.r ?_
      refine B.r ?_
      refine S.r ?_
      -- leaf 1 ret [h3: True; h4: True] H=['q2']
      refine ret1P rfl (congrArg Value.bool ?_)
      exact (emptyB_yes (k := g1) (by omega) h4).symm
    · try simp only [decide_eq_true_eq, decide_eq_false_iff_not, Bool.not_eq_true', Bool.not_eq_false', Bool.not_eq_eq_eq_not, Bool.not_true, Bool.not_false, Int.not_lt, Int.not_le, Decidable.not_not] at h4
      refine TC.skip ?_
      refine B.n ?_
      refine S.n ?_
      refine TC.region ?_
      refine TL.v rfl (OpVal.moveI (.inl rfl) rfl) rfl rfl ?_
      refine TL.v rfl (OpVal.succ rfl rfl rfl (by omega)) rfl rfl ?_
      refine TL.v rfl (OpVal.moveI (.inr rfl) rfl) rfl rfl ?_
      refine TL.nil ?_
      refine S.n ?_
      -- leaf 2 next [h3: True; h4: False] H=['q2']
      refine ⟨by repeat (first | exact Agr.mask | refine Agr.upd rfl ?_ | refine Agr.maskIn rfl ?_), g1 + 1, ?_, ?_, ?_, ?_, ?_⟩
      · omega
      · exact ⟨by omega, fun j hj => by rcases Nat.lt_succ_iff_lt_or_eq.1 hj with h | rfl; exact hi j h; exact h4⟩
      · repeat (first | exact trivial | refine ⟨rfl, ?_⟩)
      · rfl
      · rfl
  · try simp only [decide_eq_true_eq, decide_eq_false_iff_not, Bool.not_eq_true', Bool.not_eq_false', Bool.not_eq_eq_eq_not, Bool.not_true, Bool.not_false, Int.not_lt, Int.not_le, Decidable.not_not] at h3
    refine TC.exit ?_
    refine S.x ?_
    refine S.x ?_
    refine TC.exitHere ?_
    refine S.n ?_
    refine TC.seq ?_
    refine TC.region ?_
    refine TL.v rfl (OpVal.moveB (.inr rfl) rfl) rfl rfl ?_
    refine TL.nil ?_
    refine S.n ?_
    refine TC.ret ?_
    -- leaf 3 ret [h3: False] H=['q2']
    refine ret1P rfl (congrArg Value.bool ?_)
    exact (emptyB_no (fun j hj => hi j (by omega))).symm

theorem clone_con (σ : Store) (a : Option Addr) (c : Nat) (l : List Int) (hl : RS σ 1 Go.E.encI (.slice a l.length c) l) (hsz : l.length ≤ 1000000000000) :
    Con Try.prog 64 #[.slice a l.length c] σ [] (RowP 3 1 Go.E.encI l σ) := by
  have hb := hl.rv.big
  refine Con.mk (n := 8) Try.func64 rfl rfl rfl (fun w0 => ?_)
  refine TC.seq ?_
  refine TC.region ?_
  refine TL.v rfl (OpVal.moveSl (.inr rfl) rfl) rfl rfl ?_
  refine TL.nilS 3 1 Go.E.encI ?_
  refine TL.nil ?_
  refine S.n ?_
  refine TC.seq ?_
  refine TC.seq ?_
  refine TC.region ?_
  refine TL.v rfl (OpVal.moveSl (.inl rfl) rfl) rfl rfl ?_
  refine TL.v rfl (OpVal.eqlNilSl rfl Try.underlying22 rfl rfl) rfl rfl ?_
  refine TL.nil ?_
  refine S.n ?_
  refine TC.cond rfl (fun h2 => ?_) (fun h2 => ?_)
  · try simp only [decide_eq_true_eq, decide_eq_false_iff_not, Bool.not_eq_true', Bool.not_eq_false', Bool.not_eq_eq_eq_not, Bool.not_true, Bool.not_false, Int.not_lt, Int.not_le, Decidable.not_not] at h2
    refine TC.seq ?_
    refine TC.region ?_
    refine TL.v rfl (OpVal.moveSl (.inr rfl) rfl) rfl rfl ?_
    refine TL.nilS 3 1 Go.E.encI ?_
    refine TL.nil ?_
    refine S.n ?_
    refine TC.ret ?_
    refine S.r ?_
    -- leaf 1 ret [h2: True] H=['q3', 'q1']
    cases a with
    | some _ => simp at h2
    | none =>
      obtain rfl := hl.none_nil
      exact ret1R rfl rfl
  · try simp only [decide_eq_true_eq, decide_eq_false_iff_not, Bool.not_eq_true', Bool.not_eq_false', Bool.not_eq_eq_eq_not, Bool.not_true, Bool.not_false, Int.not_lt, Int.not_le, Decidable.not_not] at h2
    refine TC.skip ?_
    refine S.n ?_
    refine TC.seq ?_
    refine TC.region ?_
    refine TL.op rfl (OpOk.lit0 (enc := Go.E.encI) rfl rfl Try.underlying22 sz3 rfl rfl (fun a4 c5 => ?_))
    refine TL.v rfl (OpVal.moveSl (.inl rfl) rfl) rfl rfl ?_
    refine TL.op rfl (OpOk.appendS rfl rfl Try.underlying22 sz3 by3 ze3 rfl rfl (by decide) rfl rfl rfl (.inl (by assumption)) (by (try simp only [List.length_cons, List.length_nil, List.length_append]); omega) (by decide) (fun a7 c8 => ?_))
    refine TL.v rfl (OpVal.moveSl (.inr rfl) rfl) rfl rfl ?_
    refine TL.nil ?_
    refine S.n ?_
    refine TC.ret ?_
    -- leaf 2 ret [h2: False] H=['q6', 'q1']
    exact ret1R rfl rfl

theorem clonee_con (σ : Store) (a : Option Addr) (c : Nat) (l : List Arrow) (hl : RS σ 6 encE (.slice a l.length c) l) (hsz : l.length ≤ 1000000000000) :
    Con Try.prog 72 #[.slice a l.length c] σ [] (RowP 80 6 encE l σ) := by
  have hb := hl.rv.big
  refine Con.mk (n := 8) Try.func72 rfl rfl rfl (fun w0 => ?_)
  refine TC.seq ?_
  refine TC.region ?_
  refine TL.v rfl (OpVal.moveSl (.inr rfl) rfl) rfl rfl ?_
  refine TL.nilS 80 6 encE ?_
  refine TL.nil ?_
  refine S.n ?_
  refine TC.seq ?_
  refine TC.seq ?_
  refine TC.region ?_
  refine TL.v rfl (OpVal.moveSl (.inl rfl) rfl) rfl rfl ?_
  refine TL.v rfl (OpVal.eqlNilSl rfl Try.underlying23 rfl rfl) rfl rfl ?_
  refine TL.nil ?_
  refine S.n ?_
  refine TC.cond rfl (fun h2 => ?_) (fun h2 => ?_)
  · try simp only [decide_eq_true_eq, decide_eq_false_iff_not, Bool.not_eq_true', Bool.not_eq_false', Bool.not_eq_eq_eq_not, Bool.not_true, Bool.not_false, Int.not_lt, Int.not_le, Decidable.not_not] at h2
    refine TC.seq ?_
    refine TC.region ?_
    refine TL.v rfl (OpVal.moveSl (.inr rfl) rfl) rfl rfl ?_
    refine TL.nilS 80 6 encE ?_
    refine TL.nil ?_
    refine S.n ?_
    refine TC.ret ?_
    refine S.r ?_
    -- leaf 1 ret [h2: True] H=['q3', 'q1']
    cases a with
    | some _ => simp at h2
    | none =>
      obtain rfl := hl.none_nil
      exact ret1R rfl rfl
  · try simp only [decide_eq_true_eq, decide_eq_false_iff_not, Bool.not_eq_true', Bool.not_eq_false', Bool.not_eq_eq_eq_not, Bool.not_true, Bool.not_false, Int.not_lt, Int.not_le, Decidable.not_not] at h2
    refine TC.skip ?_
    refine S.n ?_
    refine TC.seq ?_
    refine TC.region ?_
    refine TL.op rfl (OpOk.lit0 (enc := encE) rfl rfl Try.underlying23 sz80 rfl rfl (fun a4 c5 => ?_))
    refine TL.v rfl (OpVal.moveSl (.inl rfl) rfl) rfl rfl ?_
    refine TL.op rfl (OpOk.appendS rfl rfl Try.underlying23 sz80 by80 ze80 rfl rfl (by decide) rfl rfl rfl (.inl (by assumption)) (by (try simp only [List.length_cons, List.length_nil, List.length_append]); omega) (by decide) (fun a7 c8 => ?_))
    refine TL.v rfl (OpVal.moveSl (.inr rfl) rfl) rfl rfl ?_
    refine TL.nil ?_
    refine S.n ?_
    refine TC.ret ?_
    -- leaf 2 ret [h2: False] H=['q6', 'q1']
    exact ret1R rfl rfl

theorem rboth_con (σ : Store) (a : Option Addr) (c : Nat) (l : List Int) (a' : Option Addr) (c' : Nat) (l' : List Int) (hl : RS σ 1 Go.E.encI (.slice a l.length c) l) (hl' : RS σ 1 Go.E.encI (.slice a' l'.length c') l') (hsz : l.length ≤ 1000000000000) (hsz' : l'.length ≤ 1000000000000) :
    Con Try.prog 68 #[.slice a l.length c, .slice a' l'.length c'] σ [] (RowP 3 1 Go.E.encI (l ++ l') σ) := by
  refine Con.mk (n := 13) Try.func68 rfl rfl rfl (fun w0 => ?_)
  refine TC.seq ?_
  refine TC.region ?_
  refine TL.v rfl (OpVal.moveSl (.inr rfl) rfl) rfl rfl ?_
  refine TL.nil ?_
  refine S.n ?_
  refine TC.seq ?_
  refine TC.region ?_
  refine TL.v rfl (OpVal.moveSl (.inr rfl) rfl) rfl rfl ?_
  refine TL.nilS 3 1 Go.E.encI ?_
  refine TL.nil ?_
  refine S.n ?_
  refine TC.seq ?_
  refine TC.region ?_
  refine TL.v rfl (OpVal.moveSl (.inl rfl) rfl) rfl rfl ?_
  refine TL.v rfl (OpVal.moveSl (.inl rfl) rfl) rfl rfl ?_
  refine TL.op rfl (OpOk.appendS rfl rfl Try.underlying22 sz3 by3 ze3 rfl rfl (by decide) rfl rfl rfl (.inl (by assumption)) (by (try simp only [List.length_cons, List.length_nil, List.length_append]); omega) (by decide) (fun a2 c3 => ?_))
  refine TL.v rfl (OpVal.moveSl (.inr rfl) rfl) rfl rfl ?_
  refine TL.nil ?_
  refine S.n ?_
  refine TC.seq ?_
  refine TC.region ?_
  refine TL.v rfl (OpVal.moveSl (.inl rfl) rfl) rfl rfl ?_
  refine TL.v rfl (OpVal.moveSl (.inl rfl) rfl) rfl rfl ?_
  refine TL.op rfl (OpOk.appendS rfl rfl Try.underlying22 sz3 by3 ze3 rfl rfl (by decide) rfl rfl rfl (.inl (by assumption)) (by (try simp only [List.length_cons, List.length_nil, List.length_append]); omega) (by decide) (fun a4 c5 => ?_))
  refine TL.v rfl (OpVal.moveSl (.inr rfl) rfl) rfl rfl ?_
  refine TL.nil ?_
  refine S.n ?_
  refine TC.seq ?_
  refine TC.region ?_
  refine TL.v rfl (OpVal.moveSl (.inl rfl) rfl) rfl rfl ?_
  refine TL.v rfl (OpVal.moveSl (.inr rfl) rfl) rfl rfl ?_
  refine TL.nil ?_
  refine S.n ?_
  refine TC.ret ?_
  -- leaf 1 ret [] H=['q1']
  exact ret1R rfl rfl

theorem shifted_con (σ : Store) (a : Option Addr) (c : Nat) (l : List Arrow) (k : Int) (hl : RS σ 6 encE (.slice a l.length c) l) (hk : 0 ≤ k ∧ k ≤ 1000000) (hs : ∀ x ∈ l, 0 ≤ x.frm ∧ x.frm ≤ 1000000 ∧ 0 ≤ x.to ∧ x.to ≤ 1000000) (hsz : l.length ≤ 1000000000) :
    Con Try.prog 70 #[.slice a l.length c, .int .i64 k] σ [] (RowP 80 6 encE (shiftE l k) σ) := by
  have hb := hl.rv.big
  refine Con.mk (n := 37) Try.func70 rfl rfl rfl (fun w0 => ?_)
  refine TC.seq ?_
  refine TC.region ?_
  refine TL.v rfl (OpVal.moveSl (.inr rfl) rfl) rfl rfl ?_
  refine TL.nil ?_
  refine S.n ?_
  refine TC.seq ?_
  refine TC.region ?_
  refine TL.v rfl (OpVal.moveSl (.inr rfl) rfl) rfl rfl ?_
  refine TL.nilS 80 6 encE ?_
  refine TL.nil ?_
  refine S.n ?_
  refine TC.seq ?_
  refine TC.seq ?_
  refine TC.region ?_
  refine TL.v rfl (OpVal.moveI (.inr rfl) rfl) rfl rfl ?_
  refine TL.nil ?_
  refine S.n ?_
  refine TC.block ?_
  refine TC.loopF (α := Nat × Option Addr × Nat) [5, 6, 7, 8, 9, 10, 11, 12, 13, 14, 15, 16, 17, 18, 19, 20, 21, 22, 23, 24, 25, 26, 27, 28, 29, 30, 31, 32, 33, 34, 35] (fun g => [(6, .int .i64 (g.1 : Nat)), (5, .slice g.2.1 (shiftE (l.take g.1) k).length g.2.2)]) (fun g => [Res.rowS 80 6 encE (.slice g.2.1 (shiftE (l.take g.1) k).length g.2.2) (shiftE (l.take g.1) k)]) (fun _ => _) (fun g => g.1 ≤ l.length) (fun g => l.length - g.1) ((0, none, 0)) (by first | exact True.intro | omega | (dsimp only; omega) | (simp; done) | (simp; omega)) (by repeat (first | exact trivial | refine ⟨rfl, ?_⟩)) (by rfl) (by rfl) (fun g1 j1 hg1 => ?_)
  obtain ⟨g1, ga, gc⟩ := g1
  dsimp only
  have hg1 : g1 ≤ l.length := hg1
  have hx : g1 < l.length → 0 ≤ (nth l g1 Arrow.zero).frm ∧ (nth l g1 Arrow.zero).frm ≤ 1000000 ∧ 0 ≤ (nth l g1 Arrow.zero).to ∧ (nth l g1 Arrow.zero).to ≤ 1000000 := fun h => hs _ (nth_mem h Arrow.zero)
  have hml : (shiftE (l.take g1) k).length = min g1 l.length := by simp [shiftE]
  refine TC.seq ?_
  refine TC.seq ?_
  refine TC.region ?_
  refine TL.v rfl (OpVal.moveI (.inl rfl) rfl) rfl rfl ?_
  refine TL.v rfl (OpVal.moveSl (.inl rfl) rfl) rfl rfl ?_
  refine TL.v rfl (OpVal.lenC rfl Try.underlying23 rfl) rfl rfl ?_
  refine TL.v rfl (OpVal.lss rfl rfl rfl) rfl rfl ?_
  refine TL.nil ?_
  refine S.n ?_
  refine TC.condD rfl (fun h2 => ?_) (fun h2 => ?_)
  · try simp only [decide_eq_true_eq, decide_eq_false_iff_not, Bool.not_eq_true', Bool.not_eq_false', Bool.not_eq_eq_eq_not, Bool.not_true, Bool.not_false, Int.not_lt, Int.not_le, Decidable.not_not] at h2
    refine TC.skip ?_
    refine S.n ?_
    refine TC.seq ?_
    refine TC.block ?_
    refine TC.draw [22, 23] (by kernel_rfl) ?_
    refine TA.takeP 0 rfl (by kernel_rfl) (by kernel_rfl) (by kernel_rfl) rfl (OpVal.moveSl (.inl rfl) rfl) rfl rfl ?_
    refine TA.takeP 1 rfl (by kernel_rfl) (by kernel_rfl) (by kernel_rfl) rfl (OpVal.moveSl (.inl rfl) rfl) rfl rfl ?_
    refine TA.takeP 2 rfl (by kernel_rfl) (by kernel_rfl) (by kernel_rfl) rfl (OpVal.moveI (.inl rfl) rfl) rfl rfl ?_
    refine TA.takeP 3 rfl (by kernel_rfl) (by kernel_rfl) (by kernel_rfl) rfl (OpVal.indexN rfl Try.underlying23 sz80 rfl rfl (by first | assumption | exact (RS.rv (by assumption)).sl) (by omega)) rfl rfl ?_
    refine TA.takeP 4 rfl (by kernel_rfl) (by kernel_rfl) (by kernel_rfl) rfl (OpVal.fieldElem rfl fo80_0 rfl (by first | assumption | exact (RS.rv (by assumption)).sl) (by omega)) rfl rfl ?_
    refine TA.take 5 rfl (by kernel_rfl) (by kernel_rfl) (by kernel_rfl) (by kernel_rfl) rfl (OpVal.loadS Arrow.zero rfl ag3 rfl (by assumption) (by omega) (by omega) rfl) rfl rfl ?_
    refine TA.takeP 6 rfl (by kernel_rfl) (by kernel_rfl) (by kernel_rfl) rfl (OpVal.moveI (.inl rfl) rfl) rfl rfl ?_
    refine TA.takeP 7 rfl (by kernel_rfl) (by kernel_rfl) (by kernel_rfl) rfl (OpVal.add rfl rfl rfl (by omega) (by omega)) rfl rfl ?_
    refine TA.takeP 8 rfl (by kernel_rfl) (by kernel_rfl) (by kernel_rfl) rfl (OpVal.moveSl (.inl rfl) rfl) rfl rfl ?_
    refine TA.takeP 9 rfl (by kernel_rfl) (by kernel_rfl) (by kernel_rfl) rfl (OpVal.moveI (.inl rfl) rfl) rfl rfl ?_
    refine TA.takeP 10 rfl (by kernel_rfl) (by kernel_rfl) (by kernel_rfl) rfl (OpVal.indexN rfl Try.underlying23 sz80 rfl rfl (by first | assumption | exact (RS.rv (by assumption)).sl) (by omega)) rfl rfl ?_
    refine TA.takeP 11 rfl (by kernel_rfl) (by kernel_rfl) (by kernel_rfl) rfl (OpVal.fieldElem rfl fo80_1 rfl (by first | assumption | exact (RS.rv (by assumption)).sl) (by omega)) rfl rfl ?_
    refine TA.take 12 rfl (by kernel_rfl) (by kernel_rfl) (by kernel_rfl) (by kernel_rfl) rfl (OpVal.loadS Arrow.zero rfl ag3 rfl (by assumption) (by omega) (by omega) rfl) rfl rfl ?_
    refine TA.takeP 13 rfl (by kernel_rfl) (by kernel_rfl) (by kernel_rfl) rfl (OpVal.moveI (.inl rfl) rfl) rfl rfl ?_
    refine TA.takeP 14 rfl (by kernel_rfl) (by kernel_rfl) (by kernel_rfl) rfl (OpVal.add rfl rfl rfl (by omega) (by omega)) rfl rfl ?_
    refine TA.takeP 15 rfl (by kernel_rfl) (by kernel_rfl) (by kernel_rfl) rfl (OpVal.moveSl (.inl rfl) rfl) rfl rfl ?_
    refine TA.takeP 16 rfl (by kernel_rfl) (by kernel_rfl) (by kernel_rfl) rfl (OpVal.moveI (.inl rfl) rfl) rfl rfl ?_
    refine TA.takeP 17 rfl (by kernel_rfl) (by kernel_rfl) (by kernel_rfl) rfl (OpVal.indexN rfl Try.underlying23 sz80 rfl rfl (by first | assumption | exact (RS.rv (by assumption)).sl) (by omega)) rfl rfl ?_
    refine TA.takeP 18 rfl (by kernel_rfl) (by kernel_rfl) (by kernel_rfl) rfl (OpVal.fieldElem rfl fo80_2 rfl (by first | assumption | exact (RS.rv (by assumption)).sl) (by omega)) rfl rfl ?_
    refine TA.take 19 rfl (by kernel_rfl) (by kernel_rfl) (by kernel_rfl) (by kernel_rfl) rfl (OpVal.loadSub Arrow.zero rfl ag28 sz28 rfl (by assumption) (by omega) (by omega) (by omega) rfl rfl) rfl rfl ?_
    refine TA.takeP 20 rfl (by kernel_rfl) (by kernel_rfl) (by kernel_rfl) rfl (OpVal.buildL rfl pl80 ze80 rfl) rfl rfl ?_
    refine TA.act 21 (by kernel_rfl) rfl rfl (OpOk.lit (enc := encE) [⟨(nth l g1 Arrow.zero).frm + k, (nth l g1 Arrow.zero).to + k, (nth l g1 Arrow.zero).set⟩] rfl Try.underlying23 sz80 ze80 rfl rfl rfl encE_len (by decide) (by decide) Arrow.zero rfl (by decide) rfl (by decide) encE_one (fun a3 c4 => ⟨(fun w h => sees_of (by first | exact Store.le.refl _ | assumption) (fun r hr => (List.mem_cons_of_mem _ hr)) w h), ?_⟩))
    refine TA.front 1 rfl rfl ?_
    refine TA.last 22 (by kernel_rfl) rfl rfl rfl (OpOk.appendS rfl rfl Try.underlying23 sz80 by80 ze80 rfl rfl (by decide) rfl rfl rfl (.inr ⟨_, 0, rfl⟩) (by (try simp only [List.length_cons, List.length_nil, List.length_append]); omega) (by decide) (fun a6 c7 => ?_))
    refine TZ.v 23 (by kernel_rfl) rfl rfl rfl (OpVal.moveSl (.inr rfl) rfl) rfl rfl ?_
    refine TZ.done (by kernel_rfl) ?_
    refine B.n ?_
    refine S.n ?_
    refine TC.region ?_
    refine TL.v rfl (OpVal.moveI (.inl rfl) rfl) rfl rfl ?_
    refine TL.v rfl (OpVal.succ rfl rfl rfl (by omega)) rfl rfl ?_
    refine TL.v rfl (OpVal.moveI (.inr rfl) rfl) rfl rfl ?_
    refine TL.takeN 1 rfl ?_
    refine TL.nil ?_
    refine S.n ?_
    -- leaf 1 next [h2: True] H=['q1']
    refine ⟨by repeat (first | exact Agr.mask | refine Agr.upd rfl ?_ | refine Agr.maskIn rfl ?_), (g1 + 1, a6, c7), ?_, ?_, ?_, ?_, ?_⟩
    · show l.length - (g1 + 1) < l.length - g1; omega
    · show g1 + 1 ≤ l.length; omega
    · show Has _ [(_, .int .i64 ((g1 + 1 : Nat) : Int)), (5, .slice _ (shiftE (l.take (g1 + 1)) k).length _)]
      rw [shiftE_snoc (l := l) (i := g1) (k := k) (by omega)]; exact ⟨rfl, rfl, trivial⟩
    · show _ = [Res.rowS _ _ _ (.slice _ (shiftE (l.take (g1 + 1)) k).length _) (shiftE (l.take (g1 + 1)) k)]
      rw [shiftE_snoc (l := l) (i := g1) (k := k) (by omega)]; rfl
    · rfl
  · try simp only [decide_eq_true_eq, decide_eq_false_iff_not, Bool.not_eq_true', Bool.not_eq_false', Bool.not_eq_eq_eq_not, Bool.not_true, Bool.not_false, Int.not_lt, Int.not_le, Decidable.not_not] at h2
    refine TC.exit ?_
    refine S.x ?_
    refine S.x ?_
    refine TC.exitHere ?_
    refine S.n ?_
    refine TC.seq ?_
    refine TC.region ?_
    refine TL.v rfl (OpVal.moveSl (.inl rfl) rfl) rfl rfl ?_
    refine TL.v rfl (OpVal.moveSl (.inr rfl) rfl) rfl rfl ?_
    refine TL.nil ?_
    refine S.n ?_
    refine TC.ret ?_
    -- leaf 2 ret [h2: False] H=['q1']
    obtain rfl : g1 = l.length := by omega
    rw [List.take_length]
    exact ret1R rfl rfl

end Go.Proofs.Ytcidppnlhhkhhaa
end

/- Sets -/
section
/- Contracts of sets of bytes that are made. -/
set_option linter.unusedVariables false
set_option linter.unusedSimpArgs false
namespace Go.Proofs.Ytcidppnlhhkhhaa
open Go Go.E
set_option maxRecDepth 100000

def inTo (l : List UInt8) (k : Nat) : Nat → Bool := fun i => (l.take k).any fun u => decide (i = u.toNat)
theorem inTo_zero (l : List UInt8) : BSet.make (inTo l 0) = BSet.zero := by
  rw [show inTo l 0 = fun _ => false from by funext i; simp [inTo]]; exact BSet.make_zero
theorem inTo_succ {l : List UInt8} {k : Nat} (h : k < l.length) : (fun i => inTo l k i || decide (i = (nth l k 0).toNat)) = inTo l (k + 1) := by
  funext i; simp [inTo, take_succ_nth l h 0]
theorem inTo_all (l : List UInt8) : BSet.make (inTo l l.length) = BSet.ofL l := by
  unfold inTo BSet.ofL; rw [List.take_length]
theorem two_pow_lt {a : Nat} (h : a < 64) : 2 ^ a < 18446744073709551616 := Nat.lt_of_le_of_lt (Nat.pow_le_pow_right (by omega) (show a ≤ 63 by omega)) (by decide)

theorem of_con (σ : Store) (a : Option Addr) (c : Nat) (l : List UInt8) (hsz : l.length ≤ 1000000000000) :
    Con Try.prog 53 #[.slice a l.length c] σ [Res.rowS 5 1 encU8 (.slice a l.length c) l] (PureP (setV (BSet.ofL l)) σ) := by
  refine Con.mk (n := 23) Try.func53 rfl rfl rfl (fun w0 => ?_)
  refine TC.seq ?_
  refine TC.region ?_
  refine TL.op rfl (OpOk.alloc rfl ze28 rfl rfl (fun b1 => ?_))
  refine TL.nil ?_
  refine S.n ?_
  refine TC.seq ?_
  refine TC.region ?_
  refine TL.op rfl (OpOk.alloc rfl ze28 rfl rfl (fun b3 => ?_))
  refine TL.nil ?_
  refine S.n ?_
  refine TC.seq ?_
  refine TC.seq ?_
  refine TC.region ?_
  refine TL.v rfl (OpVal.moveSl (.inl rfl) rfl) rfl rfl ?_
  refine TL.v rfl (OpVal.lenC rfl Try.underlying78 rfl) rfl rfl ?_
  refine TL.v rfl (OpVal.moveI (.inl rfl) rfl) rfl rfl ?_
  refine TL.nil ?_
  refine S.n ?_
  refine TC.block ?_
  refine TC.loopF (α := Nat) [5, 8, 9, 10, 11, 12, 13, 14, 15, 16, 17, 18, 19, 20, 21] (fun k => [(8, .int .i64 (k : Nat))]) (fun k => [Res.cells b3 (setA (BSet.make (inTo l k))) 28, Res.cells b1 (setA BSet.zero) 28, Res.rowS 5 1 encU8 (.slice a l.length c) l]) (fun _ => _) (fun k => k ≤ l.length) (fun k => l.length - k) (0) (by first | exact True.intro | omega | (dsimp only; omega) | (simp; done) | (simp; omega)) (by repeat (first | exact trivial | refine ⟨rfl, ?_⟩)) (by rw [inTo_zero]; rfl) (by rfl) (fun g1 j1 hg1 => ?_)
  have hu : (nth l g1 (0 : UInt8)).toNat < 256 := UInt8.toNat_lt _
  have hp := two_pow_lt (Nat.mod_lt (nth l g1 (0 : UInt8)).toNat (show 0 < 64 by omega))
  have hw := BSet.word_lt (BSet.make_ok (inTo l g1)) ((nth l g1 (0 : UInt8)).toNat / 64)
  refine TC.seq ?_
  refine TC.region ?_
  refine TL.v rfl (OpVal.lss rfl rfl rfl) rfl rfl ?_
  refine TL.nil ?_
  refine S.n ?_
  refine TC.seq ?_
  refine TC.condD rfl (fun h5 => ?_) (fun h5 => ?_)
  · try simp only [decide_eq_true_eq, decide_eq_false_iff_not, Bool.not_eq_true', Bool.not_eq_false', Bool.not_eq_eq_eq_not, Bool.not_true, Bool.not_false, Int.not_lt, Int.not_le, Decidable.not_not] at h5
    refine TC.skip ?_
    refine S.n ?_
    refine TC.seq ?_
    refine TC.block ?_
    refine TC.seq ?_
    refine TC.region ?_
    refine TL.isSl (i := 2) rfl (fun hs6 _ _ => ?_)
    refine TL.v rfl (OpVal.indexN rfl Try.underlying78 sz5 rfl rfl (by first | assumption | exact (RS.rv (by assumption)).sl) (by omega)) rfl rfl ?_
    refine TL.v rfl (OpVal.loadO1 (0 : UInt8) rfl ag5 rfl (q := 2) rfl encU8_len (by omega) rfl) rfl rfl ?_
    refine TL.v rfl (OpVal.moveI (.inr rfl) rfl) rfl rfl ?_
    refine TL.nil ?_
    refine S.n ?_
    refine TC.region ?_
    refine TL.v rfl (OpVal.moveI (.inl rfl) rfl) rfl rfl ?_
    refine TL.v rfl (OpVal.quoN (b := 64) rfl rfl rfl (by omega) (by simp only [kmax]; omega)) rfl rfl ?_
    refine TL.v rfl (OpVal.indexArrN rfl Try.underlying28 sz26 rfl rfl (by omega)) rfl rfl ?_
    refine TL.v rfl (OpVal.loadWord rfl ag26 rfl (j := 0) rfl (by omega)) rfl rfl ?_
    refine TL.v rfl (OpVal.moveI (.inl rfl) rfl) rfl rfl ?_
    refine TL.v rfl (OpVal.remN (b := 64) rfl rfl rfl (by omega)) rfl rfl ?_
    refine TL.v rfl (OpVal.shlN (a := 1) rfl rfl rfl (by show _ < 64; omega) (by simp only [kmax]; omega)) rfl rfl ?_
    refine TL.v rfl (OpVal.orN rfl rfl rfl (by omega) (by omega)) rfl rfl ?_
    refine TL.v rfl (OpVal.indexArrN rfl Try.underlying28 sz26 rfl rfl (by omega)) rfl rfl ?_
    refine TL.op rfl (OpOk.storeWord rfl sz26 rfl rfl rfl (by omega) (Nat.or_lt_two_pow (n := 64) hw (by omega)) ?_)
    refine TL.nil ?_
    refine B.n ?_
    refine S.n ?_
    refine TC.region ?_
    refine TL.v rfl (OpVal.succ rfl rfl rfl (by omega)) rfl rfl ?_
    refine TL.v rfl (OpVal.moveI (.inl rfl) rfl) rfl rfl ?_
    refine TL.nil ?_
    refine S.n ?_
    -- leaf 1 next [h5: True] H=['q4', 'q2', 'r0']
    refine ⟨by repeat (first | exact Agr.mask | refine Agr.upd rfl ?_ | refine Agr.maskIn rfl ?_), g1 + 1, ?_, ?_, ?_, ?_, ?_⟩
    · omega
    · first | exact True.intro | omega | (dsimp only; omega) | (simp; done) | (simp; omega)
    · repeat (first | exact trivial | refine ⟨rfl, ?_⟩)
    · rw [BSet.make_or _ hu, inTo_succ (by omega)]
    · rfl
  · try simp only [decide_eq_true_eq, decide_eq_false_iff_not, Bool.not_eq_true', Bool.not_eq_false', Bool.not_eq_eq_eq_not, Bool.not_true, Bool.not_false, Int.not_lt, Int.not_le, Decidable.not_not] at h5
    refine TC.exit ?_
    refine S.x ?_
    refine S.x ?_
    refine TC.exitHere ?_
    refine S.n ?_
    refine TC.seq ?_
    refine TC.region ?_
    refine TL.v rfl (OpVal.loadAll rfl ag28 sz28 rfl (i := 0) rfl rfl) rfl rfl ?_
    refine TL.front 1 rfl rfl ?_
    refine TL.op rfl (OpOk.storeAll rfl sz28 rfl rfl rfl rfl rfl rfl ?_)
    refine TL.nil ?_
    refine S.n ?_
    refine TC.ret ?_
    -- leaf 2 ret [h5: False] H=['q2', 'q4', 'r0']
    obtain rfl : g1 = l.length := by omega
    rw [inTo_all]
    exact retCellP 0 rfl ag28 sz28 rfl rfl rfl rfl

/-- The sums so far: all bytes below b. -/
def setTo (f : Nat → Bool) (b : Nat) : BSet := BSet.make fun i => f i && decide (i < b)
theorem setTo_zero (f : Nat → Bool) : setTo f 0 = BSet.zero := by
  rw [show setTo f 0 = BSet.make (fun _ => false) from by unfold setTo; congr 1; funext i; simp]; exact BSet.make_zero
theorem setTo_all (f : Nat → Bool) : setTo f 256 = BSet.make f := BSet.make_congr fun i hi => by simp [hi]
theorem setTo_no {f : Nat → Bool} {b : Nat} (h : f b = false) : setTo f (b + 1) = setTo f b := by
  unfold setTo; congr 1; funext i
  by_cases hi : i = b
  · subst hi; simp [h]
  · have : decide (i < b + 1) = decide (i < b) := by rw [decide_eq_decide]; omega
    rw [this]
theorem setTo_bit (f : Nat → Bool) {b i j : Nat} (hi : i < 4) : ((setTo f b).word i).testBit j = (decide (j < 64) && (f (64 * i + j) && decide (64 * i + j < b))) := by
  unfold setTo; rw [BSet.make_word _ hi, sumTo_bit]
/-- What was there is less than the byte's bit. -/
theorem setTo_lt (f : Nat → Bool) {b : Nat} (hb : b < 256) : (setTo f b).word (b / 64) < 2 ^ (b % 64) := by
  apply Nat.lt_pow_two_of_testBit
  intro j hj
  rw [setTo_bit f (by omega)]
  have : ¬ 64 * (b / 64) + j < b := by omega
  simp [this]
theorem setTo_yes {f : Nat → Bool} {b : Nat} (hb : b < 256) (h : f b = true) : (setTo f b).setWord (b / 64) ((setTo f b).word (b / 64) + 2 ^ (b % 64)) = setTo f (b + 1) := by
  refine BSet.ext_word fun i hi => ?_
  have hlt := setTo_lt f hb
  have hw : (setTo f b).word (b / 64) + 2 ^ (b % 64) < 18446744073709551616 := by
    have h2 : 2 ^ (b % 64) ≤ 2 ^ 63 := Nat.pow_le_pow_right (by omega) (by omega)
    have h3 : (2 : Nat) ^ 63 = 9223372036854775808 := by decide
    omega
  rw [BSet.word_set _ (by omega) _ _ hw hi]
  split
  · subst_vars
    refine Nat.eq_of_testBit_eq fun j => ?_
    rw [setTo_bit f (by omega), Nat.add_comm]
    rcases Nat.lt_trichotomy j (b % 64) with hj | hj | hj
    · rw [Nat.testBit_two_pow_add_gt hj, setTo_bit f (by omega)]
      have h1 : 64 * (b / 64) + j < b := by omega
      have h2 : 64 * (b / 64) + j < b + 1 := by omega
      simp [h1, h2]
    · subst hj
      rw [Nat.testBit_two_pow_add_eq, setTo_bit f (by omega)]
      have h1 : 64 * (b / 64) + b % 64 = b := by omega
      have h2 : b % 64 < 64 := by omega
      rw [h1]; simp [h, h2]
    · rw [Nat.testBit_lt_two_pow (Nat.lt_of_lt_of_le (show 2 ^ (b % 64) + (setTo f b).word (b / 64) < 2 ^ (b % 64 + 1) from by rw [Nat.pow_succ]; omega) (Nat.pow_le_pow_right (by omega) hj))]
      by_cases hj2 : j < 64
      · have : ¬ 64 * (b / 64) + j < b + 1 := by omega
        simp [this]
      · simp [hj2]
  · refine Nat.eq_of_testBit_eq fun j => ?_
    rw [setTo_bit f hi, setTo_bit f hi]
    by_cases hj : j < 64
    · have : decide (64 * i + j < b) = decide (64 * i + j < b + 1) := by rw [decide_eq_decide]; omega
      rw [this]
    · simp [hj]

theorem make_con (σ : Store) (a : Option Addr) (c : Nat) (l : List Bool) (h256 : l.length = 256) :
    Con Try.prog 82 #[.slice a 256 c] σ [Res.rowS 4 1 encB (.slice a 256 c) l] (PureP (setV (BSet.make fun i => nth l i false)) σ) := by
  refine Con.mk (n := 25) Try.func82 rfl rfl rfl (fun w0 => ?_)
  refine TC.seq ?_
  refine TC.region ?_
  refine TL.op rfl (OpOk.alloc rfl ze28 rfl rfl (fun b1 => ?_))
  refine TL.nil ?_
  refine S.n ?_
  refine TC.seq ?_
  refine TC.region ?_
  refine TL.op rfl (OpOk.alloc rfl ze28 rfl rfl (fun b3 => ?_))
  refine TL.nil ?_
  refine S.n ?_
  refine TC.seq ?_
  refine TC.seq ?_
  refine TC.region ?_
  refine TL.v rfl (OpVal.moveI (.inr rfl) rfl) rfl rfl ?_
  refine TL.nil ?_
  refine S.n ?_
  refine TC.block ?_
  refine TC.loopF (α := Nat) [4, 5, 6, 7, 8, 9, 10, 11, 12, 13, 14, 15, 16, 17, 18, 19, 20, 21, 22, 23] (fun k => [(4, .int .i64 (k : Nat))]) (fun k => [Res.cells b3 (setA (setTo (fun i => nth l i false) k)) 28, Res.cells b1 (setA BSet.zero) 28, Res.rowS 4 1 encB (.slice a 256 c) l]) (fun _ => _) (fun k => k ≤ 256) (fun k => 256 - k) (0) (by first | exact True.intro | omega | (dsimp only; omega) | (simp; done) | (simp; omega)) (by repeat (first | exact trivial | refine ⟨rfl, ?_⟩)) (by rw [setTo_zero]; rfl) (by rfl) (fun g1 j1 hg1 => ?_)
  have hp := two_pow_lt (Nat.mod_lt g1 (show 0 < 64 by omega))
  have hw : g1 < 256 → (setTo (fun i => nth l i false) g1).word (g1 / 64) + 2 ^ (g1 % 64) < 18446744073709551616 := fun h => by
    have h1 := setTo_lt (fun i => nth l i false) h
    have h2 : 2 ^ (g1 % 64) ≤ 2 ^ 63 := Nat.pow_le_pow_right (by omega) (by omega)
    have h3 : (2 : Nat) ^ 63 = 9223372036854775808 := by decide
    omega
  refine TC.seq ?_
  refine TC.seq ?_
  refine TC.region ?_
  refine TL.v rfl (OpVal.moveI (.inl rfl) rfl) rfl rfl ?_
  refine TL.v rfl (OpVal.lss rfl rfl rfl) rfl rfl ?_
  refine TL.nil ?_
  refine S.n ?_
  refine TC.condD rfl (fun h5 => ?_) (fun h5 => ?_)
  · try simp only [decide_eq_true_eq, decide_eq_false_iff_not, Bool.not_eq_true', Bool.not_eq_false', Bool.not_eq_eq_eq_not, Bool.not_true, Bool.not_false, Int.not_lt, Int.not_le, Decidable.not_not] at h5
    refine TC.skip ?_
    refine S.n ?_
    refine TC.seq ?_
    refine TC.block ?_
    refine TC.seq ?_
    refine TC.region ?_
    refine TL.v rfl (OpVal.moveSl (.inl rfl) rfl) rfl rfl ?_
    refine TL.v rfl (OpVal.moveI (.inl rfl) rfl) rfl rfl ?_
    refine TL.isSl (i := 2) rfl (fun hs6 _ _ => ?_)
    refine TL.v rfl (OpVal.indexN rfl Try.underlying47 sz4 rfl rfl (by first | assumption | exact (RS.rv (by assumption)).sl) (by omega)) rfl rfl ?_
    refine TL.v rfl (OpVal.loadO1 false rfl ag4 rfl (q := 2) rfl encB_len (by omega) rfl) rfl rfl ?_
    refine TL.nil ?_
    refine S.n ?_
    refine TC.cond rfl (fun h7 => ?_) (fun h7 => ?_)
    · try simp only [decide_eq_true_eq, decide_eq_false_iff_not, Bool.not_eq_true', Bool.not_eq_false', Bool.not_eq_eq_eq_not, Bool.not_true, Bool.not_false, Int.not_lt, Int.not_le, Decidable.not_not] at h7
      refine TC.draw [11] (by kernel_rfl) ?_
      refine TA.takeP 0 rfl (by kernel_rfl) (by kernel_rfl) (by kernel_rfl) rfl (OpVal.moveI (.inl rfl) rfl) rfl rfl ?_
      refine TA.takeP 1 rfl (by kernel_rfl) (by kernel_rfl) (by kernel_rfl) rfl (OpVal.quoN (b := 64) rfl rfl rfl (by omega) (by simp only [kmax]; omega)) rfl rfl ?_
      refine TA.takeP 2 rfl (by kernel_rfl) (by kernel_rfl) (by kernel_rfl) rfl (OpVal.moveI (.inl rfl) rfl) rfl rfl ?_
      refine TA.takeP 3 rfl (by kernel_rfl) (by kernel_rfl) (by kernel_rfl) rfl (OpVal.quoN (b := 64) rfl rfl rfl (by omega) (by simp only [kmax]; omega)) rfl rfl ?_
      refine TA.takeP 4 rfl (by kernel_rfl) (by kernel_rfl) (by kernel_rfl) rfl (OpVal.indexArrN rfl Try.underlying28 sz26 rfl rfl (by omega)) rfl rfl ?_
      refine TA.take 5 rfl (by kernel_rfl) (by kernel_rfl) (by kernel_rfl) (by kernel_rfl) rfl (OpVal.loadWord rfl ag26 rfl (j := 0) rfl (by omega)) rfl rfl ?_
      refine TA.takeP 6 rfl (by kernel_rfl) (by kernel_rfl) (by kernel_rfl) rfl (OpVal.moveI (.inl rfl) rfl) rfl rfl ?_
      refine TA.takeP 7 rfl (by kernel_rfl) (by kernel_rfl) (by kernel_rfl) rfl (OpVal.remN (b := 64) rfl rfl rfl (by omega)) rfl rfl ?_
      refine TA.act 8 (by kernel_rfl) rfl rfl (OpOk.callP (power_con _ (g1 % 64) (by omega)) rfl rfl pf84 rfl rfl rfl ⟨(fun w h => sees_of (by first | exact Store.le.refl _ | assumption) (fun r hr => hr) w h), ?_⟩)
      refine TA.takeP 9 rfl (by kernel_rfl) (by kernel_rfl) (by kernel_rfl) rfl (OpVal.addN rfl rfl rfl (by simp only [kmax]; omega)) rfl rfl ?_
      refine TA.takeP 10 rfl (by kernel_rfl) (by kernel_rfl) (by kernel_rfl) rfl (OpVal.indexArrN rfl Try.underlying28 sz26 rfl rfl (by omega)) rfl rfl ?_
      refine TA.last 11 (by kernel_rfl) rfl rfl rfl (OpOk.storeWord rfl sz26 rfl rfl rfl (by omega) (hw (by omega)) ?_)
      refine TZ.done (by kernel_rfl) ?_
      refine B.n ?_
      refine S.n ?_
      refine TC.region ?_
      refine TL.v rfl (OpVal.moveI (.inl rfl) rfl) rfl rfl ?_
      refine TL.v rfl (OpVal.succ rfl rfl rfl (by omega)) rfl rfl ?_
      refine TL.v rfl (OpVal.moveI (.inr rfl) rfl) rfl rfl ?_
      refine TL.nil ?_
      refine S.n ?_
      -- leaf 1 next [h5: True; h7: True] H=['q4', 'q2', 'r0']
      refine ⟨by repeat (first | exact Agr.mask | refine Agr.upd rfl ?_ | refine Agr.maskIn rfl ?_), g1 + 1, ?_, ?_, ?_, ?_, ?_⟩
      · omega
      · first | exact True.intro | omega | (dsimp only; omega) | (simp; done) | (simp; omega)
      · repeat (first | exact trivial | refine ⟨rfl, ?_⟩)
      · rw [setTo_yes (by omega) h7]
      · rfl
    · try simp only [decide_eq_true_eq, decide_eq_false_iff_not, Bool.not_eq_true', Bool.not_eq_false', Bool.not_eq_eq_eq_not, Bool.not_true, Bool.not_false, Int.not_lt, Int.not_le, Decidable.not_not] at h7
      refine TC.skip ?_
      refine B.n ?_
      refine S.n ?_
      refine TC.region ?_
      refine TL.v rfl (OpVal.moveI (.inl rfl) rfl) rfl rfl ?_
      refine TL.v rfl (OpVal.succ rfl rfl rfl (by omega)) rfl rfl ?_
      refine TL.v rfl (OpVal.moveI (.inr rfl) rfl) rfl rfl ?_
      refine TL.nil ?_
      refine S.n ?_
      -- leaf 2 next [h5: True; h7: False] H=['q4', 'q2', 'r0']
      refine ⟨by repeat (first | exact Agr.mask | refine Agr.upd rfl ?_ | refine Agr.maskIn rfl ?_), g1 + 1, ?_, ?_, ?_, ?_, ?_⟩
      · omega
      · first | exact True.intro | omega | (dsimp only; omega) | (simp; done) | (simp; omega)
      · repeat (first | exact trivial | refine ⟨rfl, ?_⟩)
      · rw [setTo_no h7]
      · rfl
  · try simp only [decide_eq_true_eq, decide_eq_false_iff_not, Bool.not_eq_true', Bool.not_eq_false', Bool.not_eq_eq_eq_not, Bool.not_true, Bool.not_false, Int.not_lt, Int.not_le, Decidable.not_not] at h5
    refine TC.exit ?_
    refine S.x ?_
    refine S.x ?_
    refine TC.exitHere ?_
    refine S.n ?_
    refine TC.seq ?_
    refine TC.region ?_
    refine TL.v rfl (OpVal.loadAll rfl ag28 sz28 rfl (i := 0) rfl rfl) rfl rfl ?_
    refine TL.front 1 rfl rfl ?_
    refine TL.op rfl (OpOk.storeAll rfl sz28 rfl rfl rfl rfl rfl rfl ?_)
    refine TL.nil ?_
    refine S.n ?_
    refine TC.ret ?_
    -- leaf 3 ret [h5: False] H=['q2', 'q4', 'r0']
    obtain rfl : g1 = 256 := by omega
    rw [setTo_all]
    exact retCellP 0 rfl ag28 sz28 rfl rfl rfl rfl

def boolTo (l : List UInt8) (k : Nat) : List Bool := (List.range 256).map (inTo l k)
theorem boolTo_len (l : List UInt8) (k : Nat) : (boolTo l k).length = 256 := by simp [boolTo]
theorem boolTo_zero' (l : List UInt8) (n : Nat) : List.replicate n false = (List.range n).map (inTo l 0) := by
  apply List.ext_getElem?
  intro i
  by_cases h : i < n <;> simp [inTo, h]
theorem boolTo_zero (l : List UInt8) : List.replicate 256 false = boolTo l 0 := boolTo_zero' l 256
theorem boolTo_succ {l : List UInt8} {k : Nat} (h : k < l.length) : (boolTo l k).set (nth l k 0).toNat true = boolTo l (k + 1) := by
  apply List.ext_getElem?
  intro i
  have hu : (nth l k (0 : UInt8)).toNat < 256 := UInt8.toNat_lt _
  simp only [boolTo, List.getElem?_set, List.getElem?_map, List.length_map, List.length_range, ← inTo_succ h]
  by_cases h1 : i < 256
  · simp only [List.getElem?_range h1, Option.map_some]
    by_cases he : (nth l k 0).toNat = i
    · simp [he, h1]
    · have : ¬ i = (nth l k 0).toNat := fun hx => he hx.symm
      simp [he, this]
  · rw [List.getElem?_eq_none (by simpa using h1)]
    have : ¬ (nth l k 0).toNat = i := by omega
    simp [this]
theorem boolTo_make (l : List UInt8) : BSet.make (fun i => nth (boolTo l l.length) i false) = BSet.ofL l := by
  rw [← inTo_all]
  refine BSet.make_congr fun i hi => ?_
  simp [nth, boolTo, hi]

end Go.Proofs.Ytcidppnlhhkhhaa
end

/- Nfa3 -/
section
/- Contracts of package nfa, part three: automatons of texts and sets. -/
set_option linter.unusedVariables false
set_option linter.unusedSimpArgs false
namespace Go.Proofs.Ytcidppnlhhkhhaa
open Go Go.E
set_option maxRecDepth 100000

theorem edge_con (σ : Store) (b c : Nat) (a : Option Addr) (l : List Arrow) (f t : Int) (s : BSet) (hsz : l.length ≤ 1000000000) :
    Con Try.prog 52 #[loc b 0, .int .i64 f, .int .i64 t, setV s] σ [Res.cells b #[.slice a l.length c] 74, Res.rowS 80 6 encE (.slice a l.length c) l] (EdgeP 74 80 b l ⟨f, t, s⟩ σ) := by
  refine Con.mk (n := 21) Try.func52 rfl rfl rfl (fun w0 => ?_)
  refine TC.seq ?_
  refine TC.region ?_
  refine TL.op rfl (OpOk.boxA rfl rfl rfl rfl (fun b1 => ?_))
  refine TL.nil ?_
  refine S.n ?_
  refine TC.draw [10, 11, 12, 13] (by kernel_rfl) ?_
  refine TA.takeP 0 rfl (by kernel_rfl) (by kernel_rfl) (by kernel_rfl) rfl (OpVal.moveLoc (.inl rfl) rfl) rfl rfl ?_
  refine TA.takeP 1 rfl (by kernel_rfl) (by kernel_rfl) (by kernel_rfl) rfl (OpVal.moveLoc (.inl rfl) rfl) rfl rfl ?_
  refine TA.takeP 2 rfl (by kernel_rfl) (by kernel_rfl) (by kernel_rfl) rfl (OpVal.nilCheckLoc rfl rfl) rfl rfl ?_
  refine TA.takeP 3 rfl (by kernel_rfl) (by kernel_rfl) (by kernel_rfl) rfl (OpVal.fieldLoc rfl fo74_0 rfl) rfl rfl ?_
  refine TA.take 4 rfl (by kernel_rfl) (by kernel_rfl) (by kernel_rfl) (by kernel_rfl) rfl (OpVal.loadLoc rfl ag23 rfl (i := 1) rfl rfl) rfl rfl ?_
  refine TA.takeP 5 rfl (by kernel_rfl) (by kernel_rfl) (by kernel_rfl) rfl (OpVal.moveI (.inl rfl) rfl) rfl rfl ?_
  refine TA.takeP 6 rfl (by kernel_rfl) (by kernel_rfl) (by kernel_rfl) rfl (OpVal.moveI (.inl rfl) rfl) rfl rfl ?_
  refine TA.take 7 rfl (by kernel_rfl) (by kernel_rfl) (by kernel_rfl) (by kernel_rfl) rfl (OpVal.loadAll rfl ag28 sz28 rfl (i := 0) rfl rfl) rfl rfl ?_
  refine TA.takeP 8 rfl (by kernel_rfl) (by kernel_rfl) (by kernel_rfl) rfl (OpVal.buildL rfl pl80 ze80 rfl) rfl rfl ?_
  refine TA.act 9 (by kernel_rfl) rfl rfl (OpOk.lit (enc := encE) [⟨f, t, s⟩] rfl Try.underlying23 sz80 ze80 rfl rfl rfl encE_len (by decide) (by decide) Arrow.zero rfl (by decide) rfl (by decide) encE_one (fun a3 c4 => ⟨(fun w h => sees_of (by first | exact Store.le.refl _ | assumption) (fun r hr => (List.mem_cons_of_mem _ hr)) w h), ?_⟩))
  refine TA.front 3 rfl rfl ?_
  refine TA.last 10 (by kernel_rfl) rfl rfl rfl (OpOk.appendS rfl rfl Try.underlying23 sz80 by80 ze80 rfl rfl (by decide) rfl rfl rfl (.inr ⟨_, 0, rfl⟩) (by (try simp only [List.length_cons, List.length_nil, List.length_append]); omega) (by decide) (fun a6 c7 => ?_))
  refine TZ.v 11 (by kernel_rfl) rfl rfl rfl (OpVal.nilCheckLoc rfl rfl) rfl rfl ?_
  refine TZ.v 12 (by kernel_rfl) rfl rfl rfl (OpVal.fieldLoc rfl fo74_0 rfl) rfl rfl ?_
  refine TZ.front 3 rfl rfl ?_
  refine TZ.last 13 (by kernel_rfl) rfl rfl rfl (OpOk.storeSl rfl sz23 rfl rfl rfl rfl rfl ?_)
  refine TZ.done (by kernel_rfl) ?_
  -- leaf 1 end [] H=['q0', 'r0', 'q5', 'q2']
  exact retE (by simp) rfl

def setE (s : BSet) : List Arrow := if s = BSet.zero then [] else [⟨0, 1, s⟩]
def setN (s : BSet) : Nfa := ⟨2, [0], [1], setE s⟩
theorem setE_ok {s : BSet} (h : s.ok) : ∀ x ∈ setE s, x.set.ok := by
  intro x hx
  unfold setE at hx
  split at hx
  · simp at hx
  · simp at hx; subst hx; exact h

theorem set_con (σ : Store) (s : BSet) (hs : s.ok) : Con Try.prog 21 #[setV s] σ [] (NfaR1 (setN s)) := by
  refine Con.mk (n := 19) Try.func21 rfl rfl rfl (fun w0 => ?_)
  refine TC.seq ?_
  refine TC.region ?_
  refine TL.op rfl (OpOk.boxA rfl rfl rfl rfl (fun b1 => ?_))
  refine TL.op rfl (OpOk.alloc rfl ze25 rfl rfl (fun b3 => ?_))
  refine TL.nil ?_
  refine S.n ?_
  refine TC.seq ?_
  refine TC.region ?_
  refine TL.v rfl (OpVal.buildL rfl pl74 ze74 rfl) rfl rfl ?_
  refine TL.op rfl (OpOk.boxA rfl rfl rfl rfl (fun b5 => ?_))
  refine TL.nilS 80 6 encE ?_
  refine TL.v rfl (OpVal.moveLoc (.inr rfl) rfl) rfl rfl ?_
  refine TL.nil ?_
  refine S.n ?_
  refine TC.seq ?_
  refine TC.seq ?_
  refine TC.region ?_
  refine TL.v rfl (OpVal.loadAll rfl ag28 sz28 rfl (i := 3) rfl rfl) rfl rfl ?_
  refine TL.v rfl (OpVal.buildArrL rfl Try.underlying28 sz26 ze28 rfl) rfl rfl ?_
  refine TL.v rfl (OpVal.neqArr4 rfl Try.underlying28 Try.underlying26 ag26 sz26 eg28 rfl rfl rfl rfl) rfl rfl ?_
  refine TL.nil ?_
  refine S.n ?_
  refine TC.cond rfl (fun h8 => ?_) (fun h8 => ?_)
  · try simp only [decide_eq_true_eq, decide_eq_false_iff_not, Bool.not_eq_true', Bool.not_eq_false', Bool.not_eq_eq_eq_not, Bool.not_true, Bool.not_false, Int.not_lt, Int.not_le, Decidable.not_not] at h8
    refine TC.region ?_
    refine TL.v rfl (OpVal.moveLoc (.inl rfl) rfl) rfl rfl ?_
    refine TL.v rfl (OpVal.loadAll rfl ag28 sz28 rfl (i := 3) rfl rfl) rfl rfl ?_
    refine TL.front 1 rfl rfl ?_
    refine TL.op rfl (OpOk.callE (edge_con _ _ _ _ [] 0 1 s (by decide)) rfl rfl pf52 rfl rfl rfl rfl (fun a9 c10 => ?_))
    refine TL.nil ?_
    refine S.n ?_
    refine TC.seq ?_
    refine TC.region ?_
    refine TL.op rfl (OpOk.lit (enc := Go.E.encI) [_] rfl Try.underlying22 sz3 ze3 rfl rfl rfl encI_len (by decide) (by decide) (0 : Int) rfl (by decide) rfl (by decide) encI_one (fun a11 c12 => ?_))
    refine TL.op rfl (OpOk.lit (enc := Go.E.encI) [_] rfl Try.underlying22 sz3 ze3 rfl rfl rfl encI_len (by decide) (by decide) (0 : Int) rfl (by decide) rfl (by decide) encI_one (fun a14 c15 => ?_))
    refine TL.v rfl (OpVal.moveLoc (.inl rfl) rfl) rfl rfl ?_
    refine TL.v rfl (OpVal.nilCheckLoc rfl rfl) rfl rfl ?_
    refine TL.v rfl (OpVal.fieldLoc rfl fo74_0 rfl) rfl rfl ?_
    refine TL.v rfl (OpVal.loadLoc rfl ag23 rfl (i := 2) rfl rfl) rfl rfl ?_
    refine TL.v rfl (OpVal.buildL rfl pl25 ze25 rfl) rfl rfl ?_
    refine TL.front 4 rfl rfl ?_
    refine TL.op rfl (OpOk.storeAll rfl sz25 rfl rfl rfl rfl rfl rfl ?_)
    refine TL.nil ?_
    refine S.n ?_
    refine TC.front 1 rfl rfl ?_
    refine TC.sealS encI_len (fun τ19 hle18 hr17 => ?_)
    refine TC.front 1 rfl rfl ?_
    refine TC.sealS encI_len (fun τ22 hle21 hr20 => ?_)
    replace hr17 := hr17.mono hle21
    refine TC.front 2 rfl rfl ?_
    refine TC.sealS encE_len (fun τ25 hle24 hr23 => ?_)
    replace hr17 := hr17.mono hle24
    replace hr20 := hr20.mono hle24
    refine TC.ret ?_
    -- leaf 1 ret [h8: True] H=['q4', 'q6', 'q2']
    have h0 : ¬ s = BSet.zero := fun hx => h8 ((BSet.zero_iff s).2 hx)
    have hE : setE s = [⟨0, 1, s⟩] := if_neg h0
    exact retNfa1 (p := ⟨a11, c12, a14, c15, a9, c10⟩) 0 rfl ag25 sz25 rfl rfl (by unfold nfaA setN; rw [hE]; rfl) ⟨hr20, hr17, by unfold setN; rw [hE]; exact hr23, setE_ok hs⟩
  · try simp only [decide_eq_true_eq, decide_eq_false_iff_not, Bool.not_eq_true', Bool.not_eq_false', Bool.not_eq_eq_eq_not, Bool.not_true, Bool.not_false, Int.not_lt, Int.not_le, Decidable.not_not] at h8
    refine TC.skip ?_
    refine S.n ?_
    refine TC.seq ?_
    refine TC.region ?_
    refine TL.op rfl (OpOk.lit (enc := Go.E.encI) [_] rfl Try.underlying22 sz3 ze3 rfl rfl rfl encI_len (by decide) (by decide) (0 : Int) rfl (by decide) rfl (by decide) encI_one (fun a26 c27 => ?_))
    refine TL.op rfl (OpOk.lit (enc := Go.E.encI) [_] rfl Try.underlying22 sz3 ze3 rfl rfl rfl encI_len (by decide) (by decide) (0 : Int) rfl (by decide) rfl (by decide) encI_one (fun a29 c30 => ?_))
    refine TL.v rfl (OpVal.moveLoc (.inl rfl) rfl) rfl rfl ?_
    refine TL.v rfl (OpVal.nilCheckLoc rfl rfl) rfl rfl ?_
    refine TL.v rfl (OpVal.fieldLoc rfl fo74_0 rfl) rfl rfl ?_
    refine TL.v rfl (OpVal.loadLoc rfl ag23 rfl (i := 3) rfl rfl) rfl rfl ?_
    refine TL.v rfl (OpVal.buildL rfl pl25 ze25 rfl) rfl rfl ?_
    refine TL.front 4 rfl rfl ?_
    refine TL.op rfl (OpOk.storeAll rfl sz25 rfl rfl rfl rfl rfl rfl ?_)
    refine TL.nil ?_
    refine S.n ?_
    refine TC.front 1 rfl rfl ?_
    refine TC.sealS encI_len (fun τ34 hle33 hr32 => ?_)
    refine TC.front 1 rfl rfl ?_
    refine TC.sealS encI_len (fun τ37 hle36 hr35 => ?_)
    replace hr32 := hr32.mono hle36
    refine TC.front 1 rfl rfl ?_
    refine TC.sealS encE_len (fun τ40 hle39 hr38 => ?_)
    replace hr32 := hr32.mono hle39
    replace hr35 := hr35.mono hle39
    refine TC.ret ?_
    -- leaf 2 ret [h8: False] H=['q4', 'q6', 'q2']
    have h0 : s = BSet.zero := (BSet.zero_iff s).1 h8
    have hE : setE s = [] := if_pos h0
    exact retNfa1 (p := ⟨a26, c27, a29, c30, none, 0⟩) 0 rfl ag25 sz25 rfl rfl (by unfold nfaA setN; rw [hE]; rfl) ⟨hr35, hr32, by unfold setN; rw [hE]; exact hr38, setE_ok hs⟩

/-- The automaton of a text, its first k bytes laid. -/
def textE (t : List UInt8) (k : Nat) : List Arrow := (List.range k).map fun i : Nat => ⟨(i : Int), ((i + 1 : Nat) : Int), BSet.ofL [nth t i 0]⟩
theorem textE_succ (t : List UInt8) (k : Nat) : textE t (k + 1) = textE t k ++ [⟨(k : Int), ((k + 1 : Nat) : Int), BSet.ofL [nth t k 0]⟩] := by
  simp [textE, List.range_succ]
theorem textE_len (t : List UInt8) (k : Nat) : (textE t k).length = k := by simp [textE]
def textN (t : List UInt8) : Nfa := ⟨((t.length + 1 : Nat) : Int), [0], [(t.length : Int)], textE t t.length⟩
def textR (t : List UInt8) : Nfa := if t.length ≤ 256 then textN t else Nfa.zero
def textX (t : List UInt8) : Int := if t.length ≤ 256 then 0 else 2
theorem ofL_ok (l : List UInt8) : (BSet.ofL l).ok := BSet.make_ok _
theorem textE_ok (t : List UInt8) (k : Nat) : ∀ x ∈ textE t k, x.set.ok := by
  intro x hx
  simp only [textE, List.mem_map] at hx
  obtain ⟨i, _, rfl⟩ := hx
  exact ofL_ok _

theorem text_con (σ : Store) (s : ByteArray) (hsz : s.size ≤ 1000000000000) :
    Con Try.prog 15 #[.string s] σ [] (NfaR (textR s.data.toList) (textX s.data.toList)) := by
  have hsl : s.data.toList.length = s.size := rfl
  refine Con.mk (n := 43) Try.func15 rfl rfl rfl (fun w0 => ?_)
  refine TC.seq ?_
  refine TC.region ?_
  refine TL.op rfl (OpOk.alloc rfl ze25 rfl rfl (fun b1 => ?_))
  refine TL.v rfl (OpVal.moveI (.inr rfl) rfl) rfl rfl ?_
  refine TL.nil ?_
  refine S.n ?_
  refine TC.seq ?_
  refine TC.seq ?_
  refine TC.region ?_
  refine TL.v rfl (OpVal.moveStr (.inl rfl) rfl) rfl rfl ?_
  refine TL.v rfl (OpVal.lenStr rfl Try.underlying9 rfl) rfl rfl ?_
  refine TL.v rfl (OpVal.gtr rfl rfl rfl) rfl rfl ?_
  refine TL.nil ?_
  refine S.n ?_
  refine TC.condD rfl (fun h3 => ?_) (fun h3 => ?_)
  · try simp only [decide_eq_true_eq, decide_eq_false_iff_not, Bool.not_eq_true', Bool.not_eq_false', Bool.not_eq_eq_eq_not, Bool.not_true, Bool.not_false, Int.not_lt, Int.not_le, Decidable.not_not] at h3
    refine TC.seq ?_
    refine TC.region ?_
    refine TL.v rfl (OpVal.buildL rfl pl25 ze25 rfl) rfl rfl ?_
    refine TL.op rfl (OpOk.storeAll rfl sz25 rfl rfl rfl rfl rfl rfl ?_)
    refine TL.v rfl (OpVal.moveI (.inr rfl) rfl) rfl rfl ?_
    refine TL.nil ?_
    refine S.n ?_
    refine TC.ret ?_
    refine S.r ?_
    -- leaf 1 ret [h3: True] H=['q2']
    have h0 : ¬ s.data.toList.length ≤ 256 := by omega
    simp only [textR, textX, if_neg h0]
    exact retNfa (p := NfaP.zero) 0 rfl ag25 sz25 rfl rfl rfl rfl (RNfa.zero _)
  · try simp only [decide_eq_true_eq, decide_eq_false_iff_not, Bool.not_eq_true', Bool.not_eq_false', Bool.not_eq_eq_eq_not, Bool.not_true, Bool.not_false, Int.not_lt, Int.not_le, Decidable.not_not] at h3
    refine TC.skip ?_
    refine S.n ?_
    refine TC.seq ?_
    refine TC.region ?_
    refine TL.v rfl (OpVal.buildL rfl pl74 ze74 rfl) rfl rfl ?_
    refine TL.op rfl (OpOk.boxA rfl rfl rfl rfl (fun b4 => ?_))
    refine TL.nilS 80 6 encE ?_
    refine TL.v rfl (OpVal.moveLoc (.inr rfl) rfl) rfl rfl ?_
    refine TL.nil ?_
    refine S.n ?_
    refine TC.seq ?_
    refine TC.region ?_
    refine TL.v rfl (OpVal.moveLoc (.inl rfl) rfl) rfl rfl ?_
    refine TL.v rfl (OpVal.makeFn rfl) rfl rfl ?_
    refine TL.v rfl (OpVal.moveFn (.inr rfl) rfl) rfl rfl ?_
    refine TL.nil ?_
    refine S.n ?_
    refine TC.seq ?_
    refine TC.seq ?_
    refine TC.region ?_
    refine TL.v rfl (OpVal.moveStr (.inl rfl) rfl) rfl rfl ?_
    refine TL.v rfl (OpVal.lenStr rfl Try.underlying9 rfl) rfl rfl ?_
    refine TL.v rfl (OpVal.moveI (.inl rfl) rfl) rfl rfl ?_
    refine TL.nil ?_
    refine S.n ?_
    refine TC.block ?_
    refine TC.loopF (α := Nat × Option Addr × Nat) [6, 17, 18, 19, 20, 21, 22, 23, 24, 25, 26, 27, 28, 29, 30] (fun g => [(17, .int .i64 (g.1 : Nat))]) (fun g => [Res.rowS 80 6 encE (.slice g.2.1 (textE s.data.toList g.1).length g.2.2) (textE s.data.toList g.1), Res.cells b4 #[.slice g.2.1 (textE s.data.toList g.1).length g.2.2] 74, Res.cells b1 (nfaA Nfa.zero NfaP.zero) 25]) (fun _ => _) (fun g => g.1 ≤ s.size) (fun g => s.size - g.1) ((0, none, 0)) (by first | exact True.intro | omega | (dsimp only; omega) | (simp; done) | (simp; omega)) (by repeat (first | exact trivial | refine ⟨rfl, ?_⟩)) (by rfl) (by rfl) (fun g1 j1 hg1 => ?_)
    obtain ⟨g1, ga, gc⟩ := g1
    dsimp only
    have hg1 : g1 ≤ s.size := hg1
    refine TC.seq ?_
    refine TC.region ?_
    refine TL.v rfl (OpVal.lss rfl rfl rfl) rfl rfl ?_
    refine TL.nil ?_
    refine S.n ?_
    refine TC.seq ?_
    refine TC.condD rfl (fun h7 => ?_) (fun h7 => ?_)
    · try simp only [decide_eq_true_eq, decide_eq_false_iff_not, Bool.not_eq_true', Bool.not_eq_false', Bool.not_eq_eq_eq_not, Bool.not_true, Bool.not_false, Int.not_lt, Int.not_le, Decidable.not_not] at h7
      refine TC.skip ?_
      refine S.n ?_
      refine TC.seq ?_
      refine TC.block ?_
      refine TC.seq ?_
      refine TC.region ?_
      refine TL.v rfl (OpVal.moveI (.inl rfl) rfl) rfl rfl ?_
      refine TL.v rfl (OpVal.moveI (.inr rfl) rfl) rfl rfl ?_
      refine TL.nil ?_
      refine S.n ?_
      refine TC.region ?_
      refine TL.v rfl (OpVal.moveFn (.inl rfl) rfl) rfl rfl ?_
      refine TL.v rfl (OpVal.moveI (.inl rfl) rfl) rfl rfl ?_
      refine TL.v rfl (OpVal.moveI (.inl rfl) rfl) rfl rfl ?_
      refine TL.v rfl (OpVal.succ rfl rfl rfl (by omega)) rfl rfl ?_
      refine TL.v rfl (OpVal.moveStr (.inl rfl) rfl) rfl rfl ?_
      refine TL.v rfl (OpVal.moveI (.inl rfl) rfl) rfl rfl ?_
      refine TL.v rfl (OpVal.indexStrN rfl Try.underlying9 rfl rfl (getD_some s.data.toList (by omega) 0)) rfl rfl ?_
      refine TL.op rfl (OpOk.lit (enc := encU8) [_] rfl Try.underlying78 sz5 ze5 rfl rfl rfl encU8_len (by decide) (by decide) (0 : UInt8) rfl (by decide) rfl (by decide) encU8_one (fun a8 c9 => ?_))
      refine TL.op rfl (OpOk.callT (of_con _ _ _ [nth s.data.toList g1 0] (by simp)) rfl rfl pf53 rfl rfl rfl rfl ?_)
      refine TL.front 1 rfl rfl ?_
      refine TL.op rfl (OpOk.callE (edge_con _ _ _ _ _ _ _ (BSet.ofL [nth s.data.toList g1 0]) (by rw [textE_len]; omega)) rfl rfl pf52 rfl rfl rfl rfl (fun a11 c12 => ?_))
      refine TL.nil ?_
      refine B.n ?_
      refine S.n ?_
      refine TC.region ?_
      refine TL.v rfl (OpVal.succ rfl rfl rfl (by omega)) rfl rfl ?_
      refine TL.v rfl (OpVal.moveI (.inl rfl) rfl) rfl rfl ?_
      refine TL.front 2 rfl rfl ?_
      refine TL.front 1 rfl rfl ?_
      refine TL.front 2 rfl rfl ?_
      refine TL.nil ?_
      refine S.n ?_
      -- leaf 2 next [h3: False; h7: True] H=['q6', 'q5', 'q2']
      refine ⟨by repeat (first | exact Agr.mask | refine Agr.upd rfl ?_ | refine Agr.maskIn rfl ?_), (g1 + 1, a11, c12), ?_, ?_, ?_, ?_, ?_⟩
      · show s.size - (g1 + 1) < s.size - g1; omega
      · show g1 + 1 ≤ s.size; omega
      · repeat (first | exact trivial | refine ⟨rfl, ?_⟩)
      · show _ = [Res.rowS _ _ _ (.slice _ (textE s.data.toList (g1 + 1)).length _) (textE s.data.toList (g1 + 1)), Res.cells _ #[.slice _ (textE s.data.toList (g1 + 1)).length _] _, _]
        rw [textE_succ]; rfl
      · rfl
    · try simp only [decide_eq_true_eq, decide_eq_false_iff_not, Bool.not_eq_true', Bool.not_eq_false', Bool.not_eq_eq_eq_not, Bool.not_true, Bool.not_false, Int.not_lt, Int.not_le, Decidable.not_not] at h7
      refine TC.exit ?_
      refine S.x ?_
      refine S.x ?_
      refine TC.exitHere ?_
      refine S.n ?_
      refine TC.seq ?_
      refine TC.region ?_
      refine TL.v rfl (OpVal.moveStr (.inl rfl) rfl) rfl rfl ?_
      refine TL.v rfl (OpVal.lenStr rfl Try.underlying9 rfl) rfl rfl ?_
      refine TL.v rfl (OpVal.succ rfl rfl rfl (by omega)) rfl rfl ?_
      refine TL.op rfl (OpOk.lit (enc := Go.E.encI) [_] rfl Try.underlying22 sz3 ze3 rfl rfl rfl encI_len (by decide) (by decide) (0 : Int) rfl (by decide) rfl (by decide) encI_one (fun a13 c14 => ?_))
      refine TL.v rfl (OpVal.moveStr (.inl rfl) rfl) rfl rfl ?_
      refine TL.v rfl (OpVal.lenStr rfl Try.underlying9 rfl) rfl rfl ?_
      refine TL.op rfl (OpOk.lit (enc := Go.E.encI) [_] rfl Try.underlying22 sz3 ze3 rfl rfl rfl encI_len (by decide) (by decide) (0 : Int) rfl (by decide) rfl (by decide) encI_one (fun a16 c17 => ?_))
      refine TL.v rfl (OpVal.moveLoc (.inl rfl) rfl) rfl rfl ?_
      refine TL.v rfl (OpVal.nilCheckLoc rfl rfl) rfl rfl ?_
      refine TL.v rfl (OpVal.fieldLoc rfl fo74_0 rfl) rfl rfl ?_
      refine TL.v rfl (OpVal.loadLoc rfl ag23 rfl (i := 3) rfl rfl) rfl rfl ?_
      refine TL.v rfl (OpVal.buildL rfl pl25 ze25 rfl) rfl rfl ?_
      refine TL.front 4 rfl rfl ?_
      refine TL.op rfl (OpOk.storeAll rfl sz25 rfl rfl rfl rfl rfl rfl ?_)
      refine TL.v rfl (OpVal.moveI (.inr rfl) rfl) rfl rfl ?_
      refine TL.nil ?_
      refine S.n ?_
      refine TC.front 1 rfl rfl ?_
      refine TC.sealS encI_len (fun τ21 hle20 hr19 => ?_)
      refine TC.front 1 rfl rfl ?_
      refine TC.sealS encI_len (fun τ24 hle23 hr22 => ?_)
      replace hr19 := hr19.mono hle23
      refine TC.front 1 rfl rfl ?_
      refine TC.sealS encE_len (fun τ27 hle26 hr25 => ?_)
      replace hr19 := hr19.mono hle26
      replace hr22 := hr22.mono hle26
      refine TC.ret ?_
      -- leaf 3 ret [h3: False; h7: False] H=['q2', 'q5']
      obtain rfl : g1 = s.size := by omega
      have h0 : s.data.toList.length ≤ 256 := by omega
      simp only [textR, textX, if_pos h0]
      exact retNfa (p := ⟨a13, c14, a16, c17, ga, gc⟩) 0 rfl ag25 sz25 rfl rfl rfl rfl ⟨hr22, hr19, hr25, textE_ok _ _⟩

end Go.Proofs.Ytcidppnlhhkhhaa
end

/- Nfa4 -/
section
/- Contracts of package nfa, part four: joined and repeated. -/
set_option linter.unusedVariables false
set_option linter.unusedSimpArgs false
namespace Go.Proofs.Ytcidppnlhhkhhaa
open Go Go.E
set_option maxRecDepth 100000

theorem indexf_con (σ : Store) (a : Option Addr) (c : Nat) (l : List Int) (hl : RS σ 1 Go.E.encI (.slice a l.length c) l) (H1 : List Res) (g : Nat) (hg : plainF Try.prog g = true) (cap : List Value) (p : Int → Bool)
    (hc : ∀ x ∈ l, Con Try.prog g ([Value.int .i64 x] ++ cap).toArray σ H1 (KeepP (.bool (p x)) σ H1)) :
    Con Try.prog 92 #[.slice a l.length c, .func (.func g) #[] cap.toArray] σ H1 (KeepP (.int .i64 (if l.any p then ((l.findIdx p : Nat) : Int) else -1)) σ H1) := by
  have hb := hl.rv.big
  refine Con.mk (n := 19) Try.func92 rfl rfl rfl (fun w0 => ?_)
  refine TC.seq ?_
  refine TC.region ?_
  refine TL.v rfl (OpVal.moveI (.inr rfl) rfl) rfl rfl ?_
  refine TL.nil ?_
  refine S.n ?_
  refine TC.seq ?_
  refine TC.seq ?_
  refine TC.region ?_
  refine TL.v rfl (OpVal.moveSl (.inl rfl) rfl) rfl rfl ?_
  refine TL.v rfl (OpVal.lenC rfl Try.underlying22 rfl) rfl rfl ?_
  refine TL.v rfl (OpVal.moveI (.inl rfl) rfl) rfl rfl ?_
  refine TL.nil ?_
  refine S.n ?_
  refine TC.block ?_
  refine TC.loopF (α := Nat) [4, 5, 8, 9, 10, 11, 12, 13, 14, 15, 16, 17, 18] (fun k => [(8, .int .i64 (k : Nat))]) (fun _ => _) (fun _ => _) (fun k => k ≤ l.length ∧ ∀ i, i < k → p (nth l i 0) = false) (fun k => l.length - k) (0) (by first | exact True.intro | omega | (dsimp only; omega) | (simp; done) | (simp; omega)) (by repeat (first | exact trivial | refine ⟨rfl, ?_⟩)) (by rfl) (by rfl) (fun g1 j1 hg1 => ?_)
  obtain ⟨hk, hi⟩ := hg1
  refine TC.seq ?_
  refine TC.region ?_
  refine TL.v rfl (OpVal.lss rfl rfl rfl) rfl rfl ?_
  refine TL.nil ?_
  refine S.n ?_
  refine TC.seq ?_
  refine TC.condD rfl (fun h1 => ?_) (fun h1 => ?_)
  · try simp only [decide_eq_true_eq, decide_eq_false_iff_not, Bool.not_eq_true', Bool.not_eq_false', Bool.not_eq_eq_eq_not, Bool.not_true, Bool.not_false, Int.not_lt, Int.not_le, Decidable.not_not] at h1
    refine TC.skip ?_
    refine S.n ?_
    refine TC.seq ?_
    refine TC.block ?_
    refine TC.seq ?_
    refine TC.region ?_
    refine TL.v rfl (OpVal.moveI (.inl rfl) rfl) rfl rfl ?_
    refine TL.v rfl (OpVal.moveI (.inr rfl) rfl) rfl rfl ?_
    refine TL.nil ?_
    refine S.n ?_
    refine TC.seq ?_
    refine TC.region ?_
    refine TL.v rfl (OpVal.moveFn (.inl rfl) rfl) rfl rfl ?_
    refine TL.v rfl (OpVal.moveSl (.inl rfl) rfl) rfl rfl ?_
    refine TL.v rfl (OpVal.moveI (.inl rfl) rfl) rfl rfl ?_
    refine TL.v rfl (OpVal.indexN rfl Try.underlying22 sz3 rfl rfl (by first | assumption | exact (RS.rv (by assumption)).sl) (by omega)) rfl rfl ?_
    refine TL.v rfl (OpVal.loadS1 (0 : Int) rfl ag3 rfl (by assumption) (by omega) rfl) rfl rfl ?_
    refine TL.op rfl (OpOk.callK0 (hc (nth l g1 0) (nth_mem (by omega) 0)) rfl rfl hg rfl rfl rfl ?_)
    refine TL.nil ?_
    refine S.n ?_
    refine TC.cond rfl (fun h2 => ?_) (fun h2 => ?_)
    · try simp only [decide_eq_true_eq, decide_eq_false_iff_not, Bool.not_eq_true', Bool.not_eq_false', Bool.not_eq_eq_eq_not, Bool.not_true, Bool.not_false, Int.not_lt, Int.not_le, Decidable.not_not] at h2
      refine TC.seq ?_
      refine TC.region ?_
      refine TL.v rfl (OpVal.moveI (.inl rfl) rfl) rfl rfl ?_
      refine TL.v rfl (OpVal.moveI (.inr rfl) rfl) rfl rfl ?_
      refine TL.nil ?_
      refine S.n ?_
      refine TC.ret ?_
      refine B.r ?_
      refine S.r ?_
      refine S.r ?_
      refine B.r ?_
      refine S.r ?_
      -- leaf 1 ret [h1: True; h2: True] H=[]
      refine ret1K rfl (congrArg (Value.int _) ?_)
      exact (findI_yes (k := g1) (by omega) hi h2).symm
    · try simp only [decide_eq_true_eq, decide_eq_false_iff_not, Bool.not_eq_true', Bool.not_eq_false', Bool.not_eq_eq_eq_not, Bool.not_true, Bool.not_false, Int.not_lt, Int.not_le, Decidable.not_not] at h2
      refine TC.skip ?_
      refine B.n ?_
      refine S.n ?_
      refine TC.region ?_
      refine TL.v rfl (OpVal.succ rfl rfl rfl (by omega)) rfl rfl ?_
      refine TL.v rfl (OpVal.moveI (.inl rfl) rfl) rfl rfl ?_
      refine TL.nil ?_
      refine S.n ?_
      -- leaf 2 next [h1: True; h2: False] H=[]
      refine ⟨by repeat (first | exact Agr.mask | refine Agr.upd rfl ?_ | refine Agr.maskIn rfl ?_), g1 + 1, ?_, ?_, ?_, ?_, ?_⟩
      · omega
      · exact ⟨by omega, fun j hj => by rcases Nat.lt_succ_iff_lt_or_eq.1 hj with h | rfl; exact hi j h; exact h2⟩
      · repeat (first | exact trivial | refine ⟨rfl, ?_⟩)
      · rfl
      · rfl
  · try simp only [decide_eq_true_eq, decide_eq_false_iff_not, Bool.not_eq_true', Bool.not_eq_false', Bool.not_eq_eq_eq_not, Bool.not_true, Bool.not_false, Int.not_lt, Int.not_le, Decidable.not_not] at h1
    refine TC.exit ?_
    refine S.x ?_
    refine S.x ?_
    refine TC.exitHere ?_
    refine S.n ?_
    refine TC.seq ?_
    refine TC.region ?_
    refine TL.v rfl (OpVal.moveI (.inr rfl) rfl) rfl rfl ?_
    refine TL.nil ?_
    refine S.n ?_
    refine TC.ret ?_
    -- leaf 3 ret [h1: False] H=[]
    refine ret1K rfl (congrArg (Value.int _) ?_)
    exact (findI_no (fun j hj => hi j (by omega))).symm

theorem containsf_con (σ : Store) (a : Option Addr) (c : Nat) (l : List Int) (hl : RS σ 1 Go.E.encI (.slice a l.length c) l) (H1 : List Res) (g : Nat) (hg : plainF Try.prog g = true) (cap : List Value) (p : Int → Bool)
    (hc : ∀ x ∈ l, Con Try.prog g ([Value.int .i64 x] ++ cap).toArray σ H1 (KeepP (.bool (p x)) σ H1)) :
    Con Try.prog 85 #[.slice a l.length c, .func (.func g) #[] cap.toArray] σ H1 (KeepP (.bool (l.any p)) σ H1) := by
  refine Con.mk (n := 9) Try.func85 rfl rfl rfl (fun w0 => ?_)
  refine TC.seq ?_
  refine TC.region ?_
  refine TL.v rfl (OpVal.moveB (.inr rfl) rfl) rfl rfl ?_
  refine TL.nil ?_
  refine S.n ?_
  refine TC.seq ?_
  refine TC.region ?_
  refine TL.v rfl (OpVal.moveSl (.inl rfl) rfl) rfl rfl ?_
  refine TL.v rfl (OpVal.moveFn (.inl rfl) rfl) rfl rfl ?_
  refine TL.op rfl (OpOk.callK0 (indexf_con _ _ _ l hl _ g hg cap p hc) rfl rfl pf92 rfl rfl rfl ?_)
  refine TL.v rfl (OpVal.geq rfl rfl rfl) rfl rfl ?_
  refine TL.v rfl (OpVal.moveB (.inr rfl) rfl) rfl rfl ?_
  refine TL.nil ?_
  refine S.n ?_
  refine TC.ret ?_
  -- leaf 1 ret [] H=[]
  refine ret1K rfl (congrArg Value.bool ?_)
  by_cases h : l.any p = true
  · simp [h] <;> omega
  · simp [h]

theorem lam_con (σ : Store) (b n c : Nat) (a : Option Addr) (m : List Bool) (s : Int) (h0 : 0 ≤ s) (h1 : s < m.length) (hn : m.length = n) :
    Con Try.prog 86 #[.int .i64 s, loc b 0] σ [Res.cells b #[.slice a n c] 47, Res.rowS 4 1 encB (.slice a n c) m] (KeepP (.bool (nth m s.toNat false)) σ [Res.cells b #[.slice a n c] 47, Res.rowS 4 1 encB (.slice a n c) m]) := by
  refine Con.mk (n := 8) Try.func86 rfl rfl rfl (fun w0 => ?_)
  refine TC.seq ?_
  refine TC.region ?_
  refine TL.v rfl (OpVal.moveB (.inr rfl) rfl) rfl rfl ?_
  refine TL.nil ?_
  refine S.n ?_
  refine TC.seq ?_
  refine TC.region ?_
  refine TL.v rfl (OpVal.loadLoc rfl ag47 rfl (i := 0) rfl rfl) rfl rfl ?_
  refine TL.v rfl (OpVal.moveI (.inl rfl) rfl) rfl rfl ?_
  refine TL.isSl (i := 1) rfl (fun hs1 _ _ => ?_)
  refine TL.v rfl (OpVal.index rfl Try.underlying47 sz4 rfl rfl (by first | assumption | exact (RS.rv (by assumption)).sl) (by omega) (by omega)) rfl rfl ?_
  refine TL.v rfl (OpVal.loadO1 false rfl ag4 rfl (q := 1) rfl encB_len (by omega) rfl) rfl rfl ?_
  refine TL.v rfl (OpVal.moveB (.inr rfl) rfl) rfl rfl ?_
  refine TL.nil ?_
  refine S.n ?_
  refine TC.ret ?_
  -- leaf 1 ret [] H=['q0', 'r0']
  exact ret1K rfl rfl

def lamH (b c : Nat) (a : Option Addr) (n : Nfa) : List Res := [Res.cells b #[.slice a (marksL n.ends n.states.toNat).length c] 47, Res.rowS 4 1 encB (.slice a (marksL n.ends n.states.toNat).length c) (marksL n.ends n.states.toNat)]
theorem lam_any (σ : Store) (b c : Nat) (a : Option Addr) (n : Nfa) (x : Int) (h0 : 0 ≤ x) (h1 : x < n.states) :
    Con Try.prog 86 ([Value.int .i64 x] ++ [loc b 0]).toArray σ (lamH b c a n) (KeepP (.bool (n.ends.contains x)) σ (lamH b c a n)) := by
  have := lam_con σ b _ c a (marksL n.ends n.states.toNat) x h0 (by rw [marksL_len]; omega) rfl
  rw [marksL_get (by omega), Int.toNat_of_nonneg h0] at this
  exact this

theorem nempty_con (σ : Store) (n : Nfa) (p : NfaP) (hn : RNfa σ n p) (hc : checkB n = true) : Con Try.prog 65 #[nfaV n p] σ [] (PureP (.bool (emptyB n)) σ) := by
  obtain ⟨k1, k2, k3, k4, k5, k6⟩ := checkB_spec hc
  refine Con.mk (n := 13) Try.func65 rfl rfl rfl (fun w0 => ?_)
  refine TC.seq ?_
  refine TC.region ?_
  refine TL.op rfl (OpOk.boxA rfl rfl rfl rfl (fun b1 => ?_))
  refine TL.v rfl (OpVal.moveB (.inr rfl) rfl) rfl rfl ?_
  refine TL.nil ?_
  refine S.n ?_
  refine TC.seq ?_
  refine TC.region ?_
  refine TL.v rfl (OpVal.fieldLoc rfl fo25_2 rfl) rfl rfl ?_
  refine TL.v rfl (OpVal.loadLoc rfl ag22 rfl (i := 0) rfl rfl) rfl rfl ?_
  refine TL.v rfl (OpVal.fieldLoc rfl fo25_0 rfl) rfl rfl ?_
  refine TL.v rfl (OpVal.loadLoc rfl ag3 rfl (i := 0) rfl rfl) rfl rfl ?_
  refine TL.op rfl (OpOk.callR (marks_con _ _ _ _ _ hn.e k1 k2 k5) rfl rfl pf60 rfl rfl rfl (fun a3 c4 => ?_))
  refine TL.op rfl (OpOk.alloc rfl ze47 rfl rfl (fun b6 => ?_))
  refine TL.op rfl (OpOk.storeSl rfl sz47 rfl rfl rfl rfl rfl ?_)
  refine TL.nil ?_
  refine S.n ?_
  refine TC.seq ?_
  refine TC.region ?_
  refine TL.v rfl (OpVal.fieldLoc rfl fo25_1 rfl) rfl rfl ?_
  refine TL.v rfl (OpVal.loadLoc rfl ag22 rfl (i := 2) rfl rfl) rfl rfl ?_
  refine TL.v rfl (OpVal.makeFn rfl) rfl rfl ?_
  refine TL.front 1 rfl rfl ?_
  refine TL.front 1 rfl rfl ?_
  refine TL.op rfl (OpOk.callK (containsf_con _ _ _ _ hn.s (lamH b6 c4 a3 n) 86 pf86 [loc b6 0] (fun s => n.ends.contains s) (fun x hx => lam_any _ _ _ _ n x (k4 x hx).1 (k4 x hx).2)) rfl rfl pf85 rfl rfl rfl rfl ?_)
  refine TL.v rfl (OpVal.moveB (.inr rfl) rfl) rfl rfl ?_
  refine TL.nil ?_
  refine S.n ?_
  refine TC.ret ?_
  -- leaf 1 ret [] H=['q7', 'q5', 'q2']
  refine ret1P rfl (congrArg Value.bool ?_)
  rfl

theorem both_con (σ : Store) (x y : Nfa) (p q : NfaP) (hx : RNfa σ x p) (hy : RNfa σ y q) (hst : 0 ≤ x.states ∧ x.states ≤ 1000000) (hs : ∀ u ∈ y.edges, 0 ≤ u.frm ∧ u.frm ≤ 1000000 ∧ 0 ≤ u.to ∧ u.to ≤ 1000000) (hl1 : x.edges.length ≤ 100000000) (hl2 : y.edges.length ≤ 100000000) :
    Con Try.prog 62 #[nfaV x p, nfaV y q] σ [] (MakerP 74 80 (x.edges ++ shiftE y.edges x.states) σ) := by
  have hd := hy.d
  refine Con.mk (n := 36) Try.func62 rfl rfl rfl (fun w0 => ?_)
  refine TC.seq ?_
  refine TC.region ?_
  refine TL.op rfl (OpOk.boxA rfl rfl rfl rfl (fun b1 => ?_))
  refine TL.op rfl (OpOk.boxA rfl rfl rfl rfl (fun b3 => ?_))
  refine TL.v rfl (OpVal.movePtr (.inr rfl) rfl) rfl rfl ?_
  refine TL.nil ?_
  refine S.n ?_
  refine TC.seq ?_
  refine TC.region ?_
  refine TL.v rfl (OpVal.fieldLoc rfl fo25_3 rfl) rfl rfl ?_
  refine TL.v rfl (OpVal.loadLoc rfl ag23 rfl (i := 1) rfl rfl) rfl rfl ?_
  refine TL.op rfl (OpOk.callR (clonee_con _ _ _ _ hx.d (by omega)) rfl rfl pf72 rfl rfl rfl (fun a5 c6 => ?_))
  refine TL.v rfl (OpVal.buildL rfl pl74 ze74 rfl) rfl rfl ?_
  refine TL.op rfl (OpOk.boxA rfl rfl rfl rfl (fun b8 => ?_))
  refine TL.v rfl (OpVal.moveLoc (.inr rfl) rfl) rfl rfl ?_
  refine TL.nil ?_
  refine S.n ?_
  refine TC.seq ?_
  refine TC.seq ?_
  refine TC.region ?_
  refine TL.v rfl (OpVal.fieldLoc rfl fo25_3 rfl) rfl rfl ?_
  refine TL.v rfl (OpVal.loadLoc rfl ag23 rfl (i := 2) rfl rfl) rfl rfl ?_
  refine TL.v rfl (OpVal.lenC rfl Try.underlying23 rfl) rfl rfl ?_
  refine TL.v rfl (OpVal.moveI (.inl rfl) rfl) rfl rfl ?_
  refine TL.nil ?_
  refine S.n ?_
  refine TC.block ?_
  refine TC.loopF (α := Nat × Option Addr × Nat) [7, 16, 17, 18, 19, 20, 21, 22, 23, 24, 25, 26, 27, 28, 29, 30, 31, 32, 33, 34] (fun g => [(16, .int .i64 (g.1 : Nat))]) (fun g => [Res.cells b8 #[.slice g.2.1 (x.edges ++ shiftE (y.edges.take g.1) x.states).length g.2.2] 74, Res.rowS 80 6 encE (.slice g.2.1 (x.edges ++ shiftE (y.edges.take g.1) x.states).length g.2.2) (x.edges ++ shiftE (y.edges.take g.1) x.states), Res.cells b3 (nfaA y q) 25, Res.cells b1 (nfaA x p) 25]) (fun _ => _) (fun g => g.1 ≤ y.edges.length) (fun g => y.edges.length - g.1) ((0, a5, c6)) (by first | exact True.intro | omega | (dsimp only; omega) | (simp; done) | (simp; omega)) (by repeat (first | exact trivial | refine ⟨rfl, ?_⟩)) (by simp only [List.take_zero, shiftE, List.map_nil, List.append_nil]; rfl) (by rfl) (fun g1 j1 hg1 => ?_)
  obtain ⟨g1, ga, gc⟩ := g1
  dsimp only
  have hg1 : g1 ≤ y.edges.length := hg1
  have hu : g1 < y.edges.length → _ := fun h => hs _ (nth_mem h Arrow.zero)
  refine TC.seq ?_
  refine TC.region ?_
  refine TL.v rfl (OpVal.lss rfl rfl rfl) rfl rfl ?_
  refine TL.nil ?_
  refine S.n ?_
  refine TC.seq ?_
  refine TC.condD rfl (fun h10 => ?_) (fun h10 => ?_)
  · try simp only [decide_eq_true_eq, decide_eq_false_iff_not, Bool.not_eq_true', Bool.not_eq_false', Bool.not_eq_eq_eq_not, Bool.not_true, Bool.not_false, Int.not_lt, Int.not_le, Decidable.not_not] at h10
    refine TC.skip ?_
    refine S.n ?_
    refine TC.seq ?_
    refine TC.block ?_
    refine TC.seq ?_
    refine TC.region ?_
    refine TL.v rfl (OpVal.indexN rfl Try.underlying23 sz80 rfl rfl (by first | assumption | exact (RS.rv (by assumption)).sl) (by omega)) rfl rfl ?_
    refine TL.v rfl (OpVal.loadSA Arrow.zero rfl ag80 sz80 rfl (by assumption) (by omega) (by omega)) rfl rfl ?_
    refine TL.op rfl (OpOk.alloc rfl ze80 rfl rfl (fun b11 => ?_))
    refine TL.op rfl (OpOk.storeAll rfl sz80 rfl rfl rfl rfl rfl rfl ?_)
    refine TL.nil ?_
    refine S.n ?_
    refine TC.region ?_
    refine TL.v rfl (OpVal.moveLoc (.inl rfl) rfl) rfl rfl ?_
    refine TL.v rfl (OpVal.fieldLoc rfl fo80_0 rfl) rfl rfl ?_
    refine TL.v rfl (OpVal.loadLoc rfl ag3 rfl (i := 0) rfl rfl) rfl rfl ?_
    refine TL.v rfl (OpVal.fieldLoc rfl fo25_0 rfl) rfl rfl ?_
    refine TL.v rfl (OpVal.loadLoc rfl ag3 rfl (i := 4) rfl rfl) rfl rfl ?_
    refine TL.v rfl (OpVal.add rfl rfl rfl (by omega) (by omega)) rfl rfl ?_
    refine TL.v rfl (OpVal.fieldLoc rfl fo80_1 rfl) rfl rfl ?_
    refine TL.v rfl (OpVal.loadLoc rfl ag3 rfl (i := 0) rfl rfl) rfl rfl ?_
    refine TL.v rfl (OpVal.fieldLoc rfl fo25_0 rfl) rfl rfl ?_
    refine TL.v rfl (OpVal.loadLoc rfl ag3 rfl (i := 4) rfl rfl) rfl rfl ?_
    refine TL.v rfl (OpVal.add rfl rfl rfl (by omega) (by omega)) rfl rfl ?_
    refine TL.v rfl (OpVal.fieldLoc rfl fo80_2 rfl) rfl rfl ?_
    refine TL.v rfl (OpVal.loadLocA rfl ag28 sz28 rfl (i := 0) rfl rfl rfl) rfl rfl ?_
    refine TL.front 2 rfl rfl ?_
    refine TL.front 2 rfl rfl ?_
    refine TL.op rfl (OpOk.callE (edge_con _ _ _ _ _ _ _ (nth y.edges g1 Arrow.zero).set (by rw [List.length_append, shiftE_len, List.length_take]; omega)) rfl rfl pf52 rfl rfl rfl rfl (fun a13 c14 => ?_))
    refine TL.nil ?_
    refine B.n ?_
    refine S.n ?_
    refine TC.region ?_
    refine TL.v rfl (OpVal.succ rfl rfl rfl (by omega)) rfl rfl ?_
    refine TL.v rfl (OpVal.moveI (.inl rfl) rfl) rfl rfl ?_
    refine TL.front 4 rfl rfl ?_
    refine TL.front 4 rfl rfl ?_
    refine TL.front 3 rfl rfl ?_
    refine TL.front 3 rfl rfl ?_
    refine TL.takeN 4 rfl ?_
    refine TL.nil ?_
    refine S.n ?_
    -- leaf 1 next [h10: True] H=['q9', 'q7', 'q4', 'q2']
    refine ⟨by repeat (first | exact Agr.mask | refine Agr.upd rfl ?_ | refine Agr.maskIn rfl ?_), (g1 + 1, a13, c14), ?_, ?_, ?_, ?_, ?_⟩
    · show y.edges.length - (g1 + 1) < y.edges.length - g1; omega
    · show g1 + 1 ≤ y.edges.length; omega
    · repeat (first | exact trivial | refine ⟨rfl, ?_⟩)
    · show _ = [Res.cells _ #[.slice _ (x.edges ++ shiftE (y.edges.take (g1 + 1)) x.states).length _] _, Res.rowS _ _ _ (.slice _ (x.edges ++ shiftE (y.edges.take (g1 + 1)) x.states).length _) (x.edges ++ shiftE (y.edges.take (g1 + 1)) x.states), _, _]
      rw [shiftE_snoc (by omega), ← List.append_assoc]; rfl
    · rfl
  · try simp only [decide_eq_true_eq, decide_eq_false_iff_not, Bool.not_eq_true', Bool.not_eq_false', Bool.not_eq_eq_eq_not, Bool.not_true, Bool.not_false, Int.not_lt, Int.not_le, Decidable.not_not] at h10
    refine TC.exit ?_
    refine S.x ?_
    refine S.x ?_
    refine TC.exitHere ?_
    refine S.n ?_
    refine TC.seq ?_
    refine TC.region ?_
    refine TL.v rfl (OpVal.moveLoc (.inl rfl) rfl) rfl rfl ?_
    refine TL.v rfl (OpVal.moveLoc (.inr rfl) rfl) rfl rfl ?_
    refine TL.nil ?_
    refine S.n ?_
    refine TC.front 1 rfl rfl ?_
    refine TC.front 1 rfl rfl ?_
    refine TC.takeN 2 rfl ?_
    refine TC.ret ?_
    -- leaf 2 ret [h10: False] H=['q9', 'q7']
    obtain rfl : g1 = y.edges.length := by omega
    rw [List.take_length]
    exact retM rfl rfl

end Go.Proofs.Ytcidppnlhhkhhaa
end

/- Nfa5 -/
section
/- Contracts of package nfa, part five: again and again. -/
set_option linter.unusedVariables false
set_option linter.unusedSimpArgs false
namespace Go.Proofs.Ytcidppnlhhkhhaa
open Go Go.E
set_option maxRecDepth 100000

theorem errB_no {b : Bool} (h : errB b ≠ 0) : b = false := by
  cases b
  · rfl
  · exact absurd rfl h
theorem errB_yes {b : Bool} (h : errB b = 0) : b = true := by
  cases b
  · exact absurd h (by decide)
  · rfl
/-- May an automaton be so big? -/
def fitB (s d : Int) : Bool := decide (s ≤ 4096) && decide (d ≤ 65536)

def starOf (a : Nfa) (x : Arrow) : List Arrow :=
  (if a.starts.contains x.frm = true then [⟨a.states, x.to, x.set⟩] else []) ++ ((if a.ends.contains x.to = true then [⟨x.frm, a.states, x.set⟩] else []) ++
    (if a.starts.contains x.frm = true ∧ a.ends.contains x.to = true then [⟨a.states, a.states, x.set⟩] else []))
def starTo (a : Nfa) (k : Nat) : List Arrow := a.edges ++ (a.edges.take k).flatMap (starOf a)
theorem starTo_zero (a : Nfa) : starTo a 0 = a.edges := by simp [starTo]
theorem starTo_succ {a : Nfa} {k : Nat} (h : k < a.edges.length) : starTo a (k + 1) = starTo a k ++ starOf a (nth a.edges k Arrow.zero) := by
  simp [starTo, take_succ_nth a.edges h Arrow.zero]
theorem starOf_len (a : Nfa) (x : Arrow) : (starOf a x).length ≤ 3 := by
  unfold starOf
  repeat' split
  all_goals simp
theorem starTo_len (a : Nfa) (k : Nat) (h : k ≤ a.edges.length) : (starTo a k).length ≤ a.edges.length + 3 * k := by
  induction k with
  | zero => simp [starTo]
  | succ k ih =>
    rw [starTo_succ (by omega), List.length_append]
    have := starOf_len a (nth a.edges k Arrow.zero)
    have := ih (by omega)
    omega
theorem starOf_ok {a : Nfa} {x : Arrow} (h : x.set.ok) : ∀ y ∈ starOf a x, y.set.ok := by
  intro y hy
  unfold starOf at hy
  simp only [List.mem_append] at hy
  rcases hy with hy | hy | hy <;> (split at hy <;> simp at hy <;> subst hy <;> exact h)
theorem starTo_ok {a : Nfa} (h : ∀ x ∈ a.edges, x.set.ok) (k : Nat) : ∀ y ∈ starTo a k, y.set.ok := by
  intro y hy
  simp only [starTo, List.mem_append, List.mem_flatMap] at hy
  rcases hy with hy | ⟨x, hx, hy⟩
  · exact h y hy
  · exact starOf_ok (h x (List.mem_of_mem_take hx)) y hy

theorem starTo_step {a : Nfa} {k : Nat} (h : k < a.edges.length) (k6 : ∀ x ∈ a.edges, 0 ≤ x.frm ∧ x.frm < a.states ∧ 0 ≤ x.to ∧ x.to < a.states) :
    nth (marksL a.starts a.states.toNat) (nth a.edges k Arrow.zero).frm.toNat false = a.starts.contains (nth a.edges k Arrow.zero).frm ∧
    nth (marksL a.ends a.states.toNat) (nth a.edges k Arrow.zero).to.toNat false = a.ends.contains (nth a.edges k Arrow.zero).to := by
  have hu := k6 _ (nth_mem h Arrow.zero)
  rw [marksL_get (by omega), marksL_get (by omega), Int.toNat_of_nonneg hu.1, Int.toNat_of_nonneg hu.2.2.1]
  exact ⟨rfl, rfl⟩
theorem starTo_tt {a : Nfa} {k : Nat} (h : k < a.edges.length) (k6 : ∀ x ∈ a.edges, 0 ≤ x.frm ∧ x.frm < a.states ∧ 0 ≤ x.to ∧ x.to < a.states)
    (h1 : nth (marksL a.starts a.states.toNat) (nth a.edges k Arrow.zero).frm.toNat false = true) (h2 : nth (marksL a.ends a.states.toNat) (nth a.edges k Arrow.zero).to.toNat false = true) :
    starTo a (k + 1) = starTo a k ++ [⟨a.states, (nth a.edges k Arrow.zero).to, (nth a.edges k Arrow.zero).set⟩] ++ [⟨(nth a.edges k Arrow.zero).frm, a.states, (nth a.edges k Arrow.zero).set⟩] ++ [⟨a.states, a.states, (nth a.edges k Arrow.zero).set⟩] := by
  rw [(starTo_step h k6).1] at h1
  rw [(starTo_step h k6).2] at h2
  rw [starTo_succ h, starOf, if_pos h1, if_pos h2, if_pos ⟨h1, h2⟩]; simp only [List.append_assoc]
theorem starTo_tf {a : Nfa} {k : Nat} (h : k < a.edges.length) (k6 : ∀ x ∈ a.edges, 0 ≤ x.frm ∧ x.frm < a.states ∧ 0 ≤ x.to ∧ x.to < a.states)
    (h1 : nth (marksL a.starts a.states.toNat) (nth a.edges k Arrow.zero).frm.toNat false = true) (h2 : nth (marksL a.ends a.states.toNat) (nth a.edges k Arrow.zero).to.toNat false = false) :
    starTo a (k + 1) = starTo a k ++ [⟨a.states, (nth a.edges k Arrow.zero).to, (nth a.edges k Arrow.zero).set⟩] := by
  rw [(starTo_step h k6).1] at h1
  rw [(starTo_step h k6).2, ← Bool.not_eq_true] at h2
  rw [starTo_succ h, starOf, if_pos h1, if_neg h2, if_neg (fun x => h2 x.2)]; rfl
theorem starTo_ft {a : Nfa} {k : Nat} (h : k < a.edges.length) (k6 : ∀ x ∈ a.edges, 0 ≤ x.frm ∧ x.frm < a.states ∧ 0 ≤ x.to ∧ x.to < a.states)
    (h1 : nth (marksL a.starts a.states.toNat) (nth a.edges k Arrow.zero).frm.toNat false = false) (h2 : nth (marksL a.ends a.states.toNat) (nth a.edges k Arrow.zero).to.toNat false = true) :
    starTo a (k + 1) = starTo a k ++ [⟨(nth a.edges k Arrow.zero).frm, a.states, (nth a.edges k Arrow.zero).set⟩] := by
  rw [(starTo_step h k6).1, ← Bool.not_eq_true] at h1
  rw [(starTo_step h k6).2] at h2
  rw [starTo_succ h, starOf, if_neg h1, if_pos h2, if_neg (fun x => h1 x.1)]; rfl
theorem starTo_ff {a : Nfa} {k : Nat} (h : k < a.edges.length) (k6 : ∀ x ∈ a.edges, 0 ≤ x.frm ∧ x.frm < a.states ∧ 0 ≤ x.to ∧ x.to < a.states)
    (h1 : nth (marksL a.starts a.states.toNat) (nth a.edges k Arrow.zero).frm.toNat false = false) (h2 : nth (marksL a.ends a.states.toNat) (nth a.edges k Arrow.zero).to.toNat false = false) :
    starTo a (k + 1) = starTo a k := by
  rw [(starTo_step h k6).1, ← Bool.not_eq_true] at h1
  rw [(starTo_step h k6).2, ← Bool.not_eq_true] at h2
  rw [starTo_succ h, starOf, if_neg h1, if_neg h2, if_neg (fun x => h1 x.1), List.append_nil, List.append_nil, List.append_nil]

def starE (a : Nfa) : List Arrow := starTo a a.edges.length
def starN (a : Nfa) : Nfa := ⟨a.states + 1, [a.states], [a.states], starE a⟩
def starF (a : Nfa) : Bool := fitB (a.states + 1) (starE a).length
def starR (a : Nfa) : Nfa := if checkB a = true then if starF a = true then starN a else Nfa.zero else Nfa.zero
def starX (a : Nfa) : Int := if checkB a = true then if starF a = true then 0 else 2 else 1

theorem star_con (σ : Store) (n : Nfa) (p : NfaP) (hn : RNfa σ n p) : Con Try.prog 31 #[nfaV n p] σ [] (NfaR (starR n) (starX n)) := by
  have hd := hn.d
  refine Con.mk (n := 105) Try.func31 rfl rfl rfl (fun w0 => ?_)
  refine TC.seq ?_
  refine TC.region ?_
  refine TL.op rfl (OpOk.boxA rfl rfl rfl rfl (fun b1 => ?_))
  refine TL.op rfl (OpOk.alloc rfl ze25 rfl rfl (fun b3 => ?_))
  refine TL.v rfl (OpVal.moveI (.inr rfl) rfl) rfl rfl ?_
  refine TL.nil ?_
  refine S.n ?_
  refine TC.seq ?_
  refine TC.seq ?_
  refine TC.region ?_
  refine TL.v rfl (OpVal.loadAll rfl ag25 sz25 rfl (i := 1) rfl rfl) rfl rfl ?_
  refine TL.op rfl (OpOk.callP (check_con _ _ _ hn) rfl rfl pf18 rfl rfl rfl ?_)
  refine TL.v rfl (OpVal.neq rfl rfl rfl) rfl rfl ?_
  refine TL.nil ?_
  refine S.n ?_
  refine TC.condD rfl (fun h5 => ?_) (fun h5 => ?_)
  · try simp only [decide_eq_true_eq, decide_eq_false_iff_not, Bool.not_eq_true', Bool.not_eq_false', Bool.not_eq_eq_eq_not, Bool.not_true, Bool.not_false, Int.not_lt, Int.not_le, Decidable.not_not] at h5
    refine TC.seq ?_
    refine TC.region ?_
    refine TL.v rfl (OpVal.buildL rfl pl25 ze25 rfl) rfl rfl ?_
    refine TL.op rfl (OpOk.storeAll rfl sz25 rfl rfl rfl rfl rfl rfl ?_)
    refine TL.v rfl (OpVal.moveI (.inr rfl) rfl) rfl rfl ?_
    refine TL.nil ?_
    refine S.n ?_
    refine TC.ret ?_
    refine S.r ?_
    -- leaf 1 ret [h5: True] H=['q4', 'q2']
    have hc := errB_no h5
    have hc : ¬ checkB n = true := by rw [hc]; exact Bool.false_ne_true
    simp only [starR, starX, if_neg hc]
    exact retNfa (p := NfaP.zero) 0 rfl ag25 sz25 rfl rfl rfl rfl (RNfa.zero _)
  · try simp only [decide_eq_true_eq, decide_eq_false_iff_not, Bool.not_eq_true', Bool.not_eq_false', Bool.not_eq_eq_eq_not, Bool.not_true, Bool.not_false, Int.not_lt, Int.not_le, Decidable.not_not] at h5
    refine TC.skip ?_
    refine S.n ?_
    refine TC.seq ?_
    have hc : checkB n = true := by first | exact errB_yes h2 | exact errB_yes h3 | exact errB_yes h5
    obtain ⟨k1, k2, k3, k4, k5, k6⟩ := checkB_spec hc
    have ms := marksL_len n.starts n.states.toNat
    have me := marksL_len n.ends n.states.toNat
    refine TC.region ?_
    refine TL.v rfl (OpVal.fieldLoc rfl fo25_1 rfl) rfl rfl ?_
    refine TL.v rfl (OpVal.loadLoc rfl ag22 rfl (i := 1) rfl rfl) rfl rfl ?_
    refine TL.v rfl (OpVal.fieldLoc rfl fo25_0 rfl) rfl rfl ?_
    refine TL.v rfl (OpVal.loadLoc rfl ag3 rfl (i := 1) rfl rfl) rfl rfl ?_
    refine TL.op rfl (OpOk.callR (marks_con _ _ _ _ _ (by first | exact hn.s | exact hn.e) k1 k2 (by first | exact k4 | exact k5)) rfl rfl pf60 rfl rfl rfl (fun a6 c7 => ?_))
    refine TL.v rfl (OpVal.moveSl (.inr rfl) rfl) rfl rfl ?_
    refine TL.nil ?_
    refine S.n ?_
    refine TC.seq ?_
    refine TC.region ?_
    refine TL.v rfl (OpVal.fieldLoc rfl fo25_2 rfl) rfl rfl ?_
    refine TL.v rfl (OpVal.loadLoc rfl ag22 rfl (i := 2) rfl rfl) rfl rfl ?_
    refine TL.v rfl (OpVal.fieldLoc rfl fo25_0 rfl) rfl rfl ?_
    refine TL.v rfl (OpVal.loadLoc rfl ag3 rfl (i := 2) rfl rfl) rfl rfl ?_
    refine TL.op rfl (OpOk.callR (marks_con _ _ _ _ _ (by first | exact hn.s | exact hn.e) k1 k2 (by first | exact k4 | exact k5)) rfl rfl pf60 rfl rfl rfl (fun a9 c10 => ?_))
    refine TL.v rfl (OpVal.moveSl (.inr rfl) rfl) rfl rfl ?_
    refine TL.nil ?_
    refine S.n ?_
    refine TC.seq ?_
    refine TC.region ?_
    refine TL.v rfl (OpVal.fieldLoc rfl fo25_0 rfl) rfl rfl ?_
    refine TL.v rfl (OpVal.loadLoc rfl ag3 rfl (i := 3) rfl rfl) rfl rfl ?_
    refine TL.v rfl (OpVal.moveI (.inr rfl) rfl) rfl rfl ?_
    refine TL.nil ?_
    refine S.n ?_
    refine TC.seq ?_
    refine TC.region ?_
    refine TL.v rfl (OpVal.fieldLoc rfl fo25_3 rfl) rfl rfl ?_
    refine TL.v rfl (OpVal.loadLoc rfl ag23 rfl (i := 3) rfl rfl) rfl rfl ?_
    refine TL.op rfl (OpOk.callR (clonee_con _ _ _ _ hn.d (by omega)) rfl rfl pf72 rfl rfl rfl (fun a12 c13 => ?_))
    refine TL.v rfl (OpVal.buildL rfl pl74 ze74 rfl) rfl rfl ?_
    refine TL.op rfl (OpOk.boxA rfl rfl rfl rfl (fun b15 => ?_))
    refine TL.v rfl (OpVal.moveLoc (.inr rfl) rfl) rfl rfl ?_
    refine TL.nil ?_
    refine S.n ?_
    refine TC.seq ?_
    refine TC.region ?_
    refine TL.v rfl (OpVal.moveLoc (.inl rfl) rfl) rfl rfl ?_
    refine TL.v rfl (OpVal.makeFn rfl) rfl rfl ?_
    refine TL.v rfl (OpVal.moveFn (.inr rfl) rfl) rfl rfl ?_
    refine TL.nil ?_
    refine S.n ?_
    refine TC.seq ?_
    refine TC.seq ?_
    refine TC.region ?_
    refine TL.v rfl (OpVal.fieldLoc rfl fo25_3 rfl) rfl rfl ?_
    refine TL.v rfl (OpVal.loadLoc rfl ag23 rfl (i := 5) rfl rfl) rfl rfl ?_
    refine TL.v rfl (OpVal.lenC rfl Try.underlying23 rfl) rfl rfl ?_
    refine TL.v rfl (OpVal.moveI (.inl rfl) rfl) rfl rfl ?_
    refine TL.nil ?_
    refine S.n ?_
    refine TC.block ?_
    refine TC.loopF (α := Nat × Option Addr × Nat) [10, 37, 38, 39, 40, 41, 42, 43, 44, 45, 46, 47, 48, 49, 50, 51, 52, 53, 54, 55, 56, 57, 58, 59, 60, 61, 62, 63, 64, 65, 66, 67, 68, 69, 70, 71, 72, 73, 74, 75, 76, 77, 78, 79, 80, 81, 82, 83] (fun g => [(37, .int .i64 (g.1 : Nat))]) (fun g => [Res.cells b15 #[.slice g.2.1 (starTo n g.1).length g.2.2] 74, Res.rowS 80 6 encE (.slice g.2.1 (starTo n g.1).length g.2.2) (starTo n g.1), Res.rowS 4 1 encB (.slice a9 (marksL n.ends n.states.toNat).length c10) (marksL n.ends n.states.toNat), Res.rowS 4 1 encB (.slice a6 (marksL n.starts n.states.toNat).length c7) (marksL n.starts n.states.toNat), Res.cells b3 (nfaA Nfa.zero NfaP.zero) 25, Res.cells b1 (nfaA n p) 25]) (fun _ => _) (fun g => g.1 ≤ n.edges.length) (fun g => n.edges.length - g.1) ((0, a12, c13)) (by first | exact True.intro | omega | (dsimp only; omega) | (simp; done) | (simp; omega)) (by repeat (first | exact trivial | refine ⟨rfl, ?_⟩)) (by simp only [starTo_zero]; rfl) (by rfl) (fun g1 j1 hg1 => ?_)
    obtain ⟨g1, ga, gc⟩ := g1
    dsimp only
    have hg1 : g1 ≤ n.edges.length := hg1
    have hu : g1 < n.edges.length → _ := fun h => k6 _ (nth_mem h Arrow.zero)
    have hl := starTo_len n g1 hg1
    refine TC.seq ?_
    refine TC.region ?_
    refine TL.v rfl (OpVal.lss rfl rfl rfl) rfl rfl ?_
    refine TL.nil ?_
    refine S.n ?_
    refine TC.seq ?_
    refine TC.condD rfl (fun h17 => ?_) (fun h17 => ?_)
    · try simp only [decide_eq_true_eq, decide_eq_false_iff_not, Bool.not_eq_true', Bool.not_eq_false', Bool.not_eq_eq_eq_not, Bool.not_true, Bool.not_false, Int.not_lt, Int.not_le, Decidable.not_not] at h17
      refine TC.skip ?_
      refine S.n ?_
      refine TC.seq ?_
      refine TC.block ?_
      refine TC.seq ?_
      refine TC.region ?_
      refine TL.v rfl (OpVal.indexN rfl Try.underlying23 sz80 rfl rfl (by first | assumption | exact (RS.rv (by assumption)).sl) (by omega)) rfl rfl ?_
      refine TL.v rfl (OpVal.loadSA Arrow.zero rfl ag80 sz80 rfl (by assumption) (by omega) (by omega)) rfl rfl ?_
      refine TL.op rfl (OpOk.alloc rfl ze80 rfl rfl (fun b18 => ?_))
      refine TL.op rfl (OpOk.storeAll rfl sz80 rfl rfl rfl rfl rfl rfl ?_)
      refine TL.nil ?_
      refine S.n ?_
      refine TC.seq ?_
      refine TC.seq ?_
      refine TC.region ?_
      refine TL.v rfl (OpVal.moveSl (.inl rfl) rfl) rfl rfl ?_
      refine TL.v rfl (OpVal.fieldLoc rfl fo80_0 rfl) rfl rfl ?_
      refine TL.v rfl (OpVal.loadLoc rfl ag3 rfl (i := 0) rfl rfl) rfl rfl ?_
      refine TL.isSl (i := 4) rfl (fun hs20 _ _ => ?_)
      refine TL.v rfl (OpVal.index rfl Try.underlying47 sz4 rfl rfl (by first | assumption | exact (RS.rv (by assumption)).sl) (by omega) (by omega)) rfl rfl ?_
      refine TL.v rfl (OpVal.loadO1 false rfl ag4 rfl (q := 4) rfl encB_len (by omega) rfl) rfl rfl ?_
      refine TL.nil ?_
      refine S.n ?_
      refine TC.cond rfl (fun h21 => ?_) (fun h21 => ?_)
      · try simp only [decide_eq_true_eq, decide_eq_false_iff_not, Bool.not_eq_true', Bool.not_eq_false', Bool.not_eq_eq_eq_not, Bool.not_true, Bool.not_false, Int.not_lt, Int.not_le, Decidable.not_not] at h21
        refine TC.region ?_
        refine TL.v rfl (OpVal.moveFn (.inl rfl) rfl) rfl rfl ?_
        refine TL.v rfl (OpVal.moveI (.inl rfl) rfl) rfl rfl ?_
        refine TL.v rfl (OpVal.fieldLoc rfl fo80_1 rfl) rfl rfl ?_
        refine TL.v rfl (OpVal.loadLoc rfl ag3 rfl (i := 0) rfl rfl) rfl rfl ?_
        refine TL.v rfl (OpVal.fieldLoc rfl fo80_2 rfl) rfl rfl ?_
        refine TL.v rfl (OpVal.loadLocA rfl ag28 sz28 rfl (i := 0) rfl rfl rfl) rfl rfl ?_
        refine TL.front 2 rfl rfl ?_
        refine TL.front 2 rfl rfl ?_
        refine TL.op rfl (OpOk.callE (edge_con _ _ _ _ _ _ _ (nth n.edges g1 Arrow.zero).set (by (try simp only [List.length_append, List.length_singleton, Nat.add_assoc]); omega)) rfl rfl pf52 rfl rfl rfl rfl (fun a22 c23 => ?_))
        refine TL.nil ?_
        refine S.n ?_
        refine TC.seq ?_
        refine TC.seq ?_
        refine TC.region ?_
        refine TL.v rfl (OpVal.moveSl (.inl rfl) rfl) rfl rfl ?_
        refine TL.v rfl (OpVal.fieldLoc rfl fo80_1 rfl) rfl rfl ?_
        refine TL.v rfl (OpVal.loadLoc rfl ag3 rfl (i := 2) rfl rfl) rfl rfl ?_
        refine TL.isSl (i := 3) rfl (fun hs24 _ _ => ?_)
        refine TL.v rfl (OpVal.index rfl Try.underlying47 sz4 rfl rfl (by first | assumption | exact (RS.rv (by assumption)).sl) (by omega) (by omega)) rfl rfl ?_
        refine TL.v rfl (OpVal.loadO1 false rfl ag4 rfl (q := 3) rfl encB_len (by omega) rfl) rfl rfl ?_
        refine TL.nil ?_
        refine S.n ?_
        refine TC.cond rfl (fun h25 => ?_) (fun h25 => ?_)
        · try simp only [decide_eq_true_eq, decide_eq_false_iff_not, Bool.not_eq_true', Bool.not_eq_false', Bool.not_eq_eq_eq_not, Bool.not_true, Bool.not_false, Int.not_lt, Int.not_le, Decidable.not_not] at h25
          refine TC.region ?_
          refine TL.v rfl (OpVal.moveFn (.inl rfl) rfl) rfl rfl ?_
          refine TL.v rfl (OpVal.fieldLoc rfl fo80_0 rfl) rfl rfl ?_
          refine TL.v rfl (OpVal.loadLoc rfl ag3 rfl (i := 2) rfl rfl) rfl rfl ?_
          refine TL.v rfl (OpVal.moveI (.inl rfl) rfl) rfl rfl ?_
          refine TL.v rfl (OpVal.fieldLoc rfl fo80_2 rfl) rfl rfl ?_
          refine TL.v rfl (OpVal.loadLocA rfl ag28 sz28 rfl (i := 2) rfl rfl rfl) rfl rfl ?_
          refine TL.front 1 rfl rfl ?_
          refine TL.front 1 rfl rfl ?_
          refine TL.op rfl (OpOk.callE (edge_con _ _ _ _ _ _ _ (nth n.edges g1 Arrow.zero).set (by (try simp only [List.length_append, List.length_singleton, Nat.add_assoc]); omega)) rfl rfl pf52 rfl rfl rfl rfl (fun a26 c27 => ?_))
          refine TL.nil ?_
          refine S.n ?_
          refine TC.seq ?_
          refine TC.region ?_
          refine TL.v rfl (OpVal.moveSl (.inl rfl) rfl) rfl rfl ?_
          refine TL.v rfl (OpVal.fieldLoc rfl fo80_0 rfl) rfl rfl ?_
          refine TL.v rfl (OpVal.loadLoc rfl ag3 rfl (i := 2) rfl rfl) rfl rfl ?_
          refine TL.isSl (i := 4) rfl (fun hs28 _ _ => ?_)
          refine TL.v rfl (OpVal.index rfl Try.underlying47 sz4 rfl rfl (by first | assumption | exact (RS.rv (by assumption)).sl) (by omega) (by omega)) rfl rfl ?_
          refine TL.v rfl (OpVal.loadO1 false rfl ag4 rfl (q := 4) rfl encB_len (by omega) rfl) rfl rfl ?_
          refine TL.v rfl (OpVal.moveB (.inl rfl) rfl) rfl rfl ?_
          refine TL.split 70 rfl (fun h29 => ?_) (fun h29 => ?_)
          · try simp only [decide_eq_true_eq, decide_eq_false_iff_not, Bool.not_eq_true', Bool.not_eq_false', Bool.not_eq_eq_eq_not, Bool.not_true, Bool.not_false, Int.not_lt, Int.not_le, Decidable.not_not] at h29
            refine TL.gv rfl rfl rfl rfl rfl (OpVal.moveSl (.inl rfl) rfl) rfl rfl ?_
            refine TL.gv rfl rfl rfl rfl rfl (OpVal.fieldLoc rfl fo80_1 rfl) rfl rfl ?_
            refine TL.gv rfl rfl rfl rfl rfl (OpVal.loadLoc rfl ag3 rfl (i := 2) rfl rfl) rfl rfl ?_
            refine TL.isSl (i := 3) rfl (fun hs30 _ _ => ?_)
            refine TL.gv rfl rfl rfl rfl rfl (OpVal.index rfl Try.underlying47 sz4 rfl rfl (by first | assumption | exact (RS.rv (by assumption)).sl) (by omega) (by omega)) rfl rfl ?_
            refine TL.gv rfl rfl rfl rfl rfl (OpVal.loadO1 false rfl ag4 rfl (q := 3) rfl encB_len (by omega) rfl) rfl rfl ?_
            refine TL.v rfl (OpVal.pickTB rfl rfl rfl) rfl rfl ?_
            refine TL.nil ?_
            refine S.n ?_
            refine TC.cond rfl (fun h31 => ?_) (fun h31 => ?_)
            · try simp only [decide_eq_true_eq, decide_eq_false_iff_not, Bool.not_eq_true', Bool.not_eq_false', Bool.not_eq_eq_eq_not, Bool.not_true, Bool.not_false, Int.not_lt, Int.not_le, Decidable.not_not] at h31
              refine TC.region ?_
              refine TL.v rfl (OpVal.moveFn (.inl rfl) rfl) rfl rfl ?_
              refine TL.v rfl (OpVal.moveI (.inl rfl) rfl) rfl rfl ?_
              refine TL.v rfl (OpVal.moveI (.inl rfl) rfl) rfl rfl ?_
              refine TL.v rfl (OpVal.fieldLoc rfl fo80_2 rfl) rfl rfl ?_
              refine TL.v rfl (OpVal.loadLocA rfl ag28 sz28 rfl (i := 2) rfl rfl rfl) rfl rfl ?_
              refine TL.front 1 rfl rfl ?_
              refine TL.front 1 rfl rfl ?_
              refine TL.op rfl (OpOk.callE (edge_con _ _ _ _ _ _ _ (nth n.edges g1 Arrow.zero).set (by (try simp only [List.length_append, List.length_singleton, Nat.add_assoc]); omega)) rfl rfl pf52 rfl rfl rfl rfl (fun a32 c33 => ?_))
              refine TL.nil ?_
              refine B.n ?_
              refine S.n ?_
              refine TC.region ?_
              refine TL.v rfl (OpVal.succ rfl rfl rfl (by omega)) rfl rfl ?_
              refine TL.v rfl (OpVal.moveI (.inl rfl) rfl) rfl rfl ?_
              refine TL.front 6 rfl rfl ?_
              refine TL.front 6 rfl rfl ?_
              refine TL.front 6 rfl rfl ?_
              refine TL.front 6 rfl rfl ?_
              refine TL.front 5 rfl rfl ?_
              refine TL.front 5 rfl rfl ?_
              refine TL.takeN 6 rfl ?_
              refine TL.nil ?_
              refine S.n ?_
              -- leaf 2 next [h5: False; h17: True; h21: True; h25: True; h29: t70=True; h31: True] H=['q16', 'q14', 'q11', 'q8', 'q4', 'q2']
              refine ⟨by repeat (first | exact Agr.mask | refine Agr.upd rfl ?_ | refine Agr.maskIn rfl ?_), (g1 + 1, a32, c33), ?_, ?_, ?_, ?_, ?_⟩
              · show n.edges.length - (g1 + 1) < n.edges.length - g1; omega
              · show g1 + 1 ≤ n.edges.length; omega
              · repeat (first | exact trivial | refine ⟨rfl, ?_⟩)
              · show _ = [Res.cells _ #[.slice _ (starTo n (g1 + 1)).length _] _, Res.rowS _ _ _ (.slice _ (starTo n (g1 + 1)).length _) (starTo n (g1 + 1)), _, _, _, _]
                rw [starTo_tt (by omega) k6 h21 h25]; rfl
              · rfl
            · try simp only [decide_eq_true_eq, decide_eq_false_iff_not, Bool.not_eq_true', Bool.not_eq_false', Bool.not_eq_eq_eq_not, Bool.not_true, Bool.not_false, Int.not_lt, Int.not_le, Decidable.not_not] at h31
              refine TC.skip ?_
              refine B.n ?_
              refine S.n ?_
              refine TC.region ?_
              refine TL.v rfl (OpVal.succ rfl rfl rfl (by omega)) rfl rfl ?_
              refine TL.v rfl (OpVal.moveI (.inl rfl) rfl) rfl rfl ?_
              refine TL.front 6 rfl rfl ?_
              refine TL.front 6 rfl rfl ?_
              refine TL.front 6 rfl rfl ?_
              refine TL.front 6 rfl rfl ?_
              refine TL.front 5 rfl rfl ?_
              refine TL.front 5 rfl rfl ?_
              refine TL.takeN 6 rfl ?_
              refine TL.nil ?_
              refine S.n ?_
              -- leaf 3 next [h5: False; h17: True; h21: True; h25: True; h29: t70=True; h31: False] H=['q16', 'q14', 'q11', 'q8', 'q4', 'q2']
              exact absurd (h31.symm.trans h25) Bool.false_ne_true
          · try simp only [decide_eq_true_eq, decide_eq_false_iff_not, Bool.not_eq_true', Bool.not_eq_false', Bool.not_eq_eq_eq_not, Bool.not_true, Bool.not_false, Int.not_lt, Int.not_le, Decidable.not_not] at h29
            refine TL.goff rfl rfl rfl rfl rfl rfl rfl rfl ?_
            refine TL.goff rfl rfl rfl rfl rfl rfl rfl rfl ?_
            refine TL.goff rfl rfl rfl rfl rfl rfl rfl rfl ?_
            refine TL.goff rfl rfl rfl rfl rfl rfl rfl rfl ?_
            refine TL.goff rfl rfl rfl rfl rfl rfl rfl rfl ?_
            refine TL.v rfl (OpVal.pickFB rfl rfl rfl) rfl rfl ?_
            refine TL.nil ?_
            refine S.n ?_
            refine TC.cond rfl (fun h => Bool.noConfusion h) (fun _ => ?_)
            refine TC.skip ?_
            refine B.n ?_
            refine S.n ?_
            refine TC.region ?_
            refine TL.v rfl (OpVal.succ rfl rfl rfl (by omega)) rfl rfl ?_
            refine TL.v rfl (OpVal.moveI (.inl rfl) rfl) rfl rfl ?_
            refine TL.front 6 rfl rfl ?_
            refine TL.front 6 rfl rfl ?_
            refine TL.front 6 rfl rfl ?_
            refine TL.front 6 rfl rfl ?_
            refine TL.front 5 rfl rfl ?_
            refine TL.front 5 rfl rfl ?_
            refine TL.takeN 6 rfl ?_
            refine TL.nil ?_
            refine S.n ?_
            -- leaf 4 next [h5: False; h17: True; h21: True; h25: True; h29: t70=False] H=['q16', 'q14', 'q11', 'q8', 'q4', 'q2']
            exact absurd (h29.symm.trans h21) Bool.false_ne_true
        · try simp only [decide_eq_true_eq, decide_eq_false_iff_not, Bool.not_eq_true', Bool.not_eq_false', Bool.not_eq_eq_eq_not, Bool.not_true, Bool.not_false, Int.not_lt, Int.not_le, Decidable.not_not] at h25
          refine TC.skip ?_
          refine S.n ?_
          refine TC.seq ?_
          refine TC.region ?_
          refine TL.v rfl (OpVal.moveSl (.inl rfl) rfl) rfl rfl ?_
          refine TL.v rfl (OpVal.fieldLoc rfl fo80_0 rfl) rfl rfl ?_
          refine TL.v rfl (OpVal.loadLoc rfl ag3 rfl (i := 2) rfl rfl) rfl rfl ?_
          refine TL.isSl (i := 4) rfl (fun hs34 _ _ => ?_)
          refine TL.v rfl (OpVal.index rfl Try.underlying47 sz4 rfl rfl (by first | assumption | exact (RS.rv (by assumption)).sl) (by omega) (by omega)) rfl rfl ?_
          refine TL.v rfl (OpVal.loadO1 false rfl ag4 rfl (q := 4) rfl encB_len (by omega) rfl) rfl rfl ?_
          refine TL.v rfl (OpVal.moveB (.inl rfl) rfl) rfl rfl ?_
          refine TL.split 70 rfl (fun h35 => ?_) (fun h35 => ?_)
          · try simp only [decide_eq_true_eq, decide_eq_false_iff_not, Bool.not_eq_true', Bool.not_eq_false', Bool.not_eq_eq_eq_not, Bool.not_true, Bool.not_false, Int.not_lt, Int.not_le, Decidable.not_not] at h35
            refine TL.gv rfl rfl rfl rfl rfl (OpVal.moveSl (.inl rfl) rfl) rfl rfl ?_
            refine TL.gv rfl rfl rfl rfl rfl (OpVal.fieldLoc rfl fo80_1 rfl) rfl rfl ?_
            refine TL.gv rfl rfl rfl rfl rfl (OpVal.loadLoc rfl ag3 rfl (i := 2) rfl rfl) rfl rfl ?_
            refine TL.isSl (i := 3) rfl (fun hs36 _ _ => ?_)
            refine TL.gv rfl rfl rfl rfl rfl (OpVal.index rfl Try.underlying47 sz4 rfl rfl (by first | assumption | exact (RS.rv (by assumption)).sl) (by omega) (by omega)) rfl rfl ?_
            refine TL.gv rfl rfl rfl rfl rfl (OpVal.loadO1 false rfl ag4 rfl (q := 3) rfl encB_len (by omega) rfl) rfl rfl ?_
            refine TL.v rfl (OpVal.pickTB rfl rfl rfl) rfl rfl ?_
            refine TL.nil ?_
            refine S.n ?_
            refine TC.cond rfl (fun h37 => ?_) (fun h37 => ?_)
            · try simp only [decide_eq_true_eq, decide_eq_false_iff_not, Bool.not_eq_true', Bool.not_eq_false', Bool.not_eq_eq_eq_not, Bool.not_true, Bool.not_false, Int.not_lt, Int.not_le, Decidable.not_not] at h37
              refine TC.region ?_
              refine TL.v rfl (OpVal.moveFn (.inl rfl) rfl) rfl rfl ?_
              refine TL.v rfl (OpVal.moveI (.inl rfl) rfl) rfl rfl ?_
              refine TL.v rfl (OpVal.moveI (.inl rfl) rfl) rfl rfl ?_
              refine TL.v rfl (OpVal.fieldLoc rfl fo80_2 rfl) rfl rfl ?_
              refine TL.v rfl (OpVal.loadLocA rfl ag28 sz28 rfl (i := 2) rfl rfl rfl) rfl rfl ?_
              refine TL.front 1 rfl rfl ?_
              refine TL.front 1 rfl rfl ?_
              refine TL.op rfl (OpOk.callE (edge_con _ _ _ _ _ _ _ (nth n.edges g1 Arrow.zero).set (by (try simp only [List.length_append, List.length_singleton, Nat.add_assoc]); omega)) rfl rfl pf52 rfl rfl rfl rfl (fun a38 c39 => ?_))
              refine TL.nil ?_
              refine B.n ?_
              refine S.n ?_
              refine TC.region ?_
              refine TL.v rfl (OpVal.succ rfl rfl rfl (by omega)) rfl rfl ?_
              refine TL.v rfl (OpVal.moveI (.inl rfl) rfl) rfl rfl ?_
              refine TL.front 6 rfl rfl ?_
              refine TL.front 6 rfl rfl ?_
              refine TL.front 6 rfl rfl ?_
              refine TL.front 6 rfl rfl ?_
              refine TL.front 5 rfl rfl ?_
              refine TL.front 5 rfl rfl ?_
              refine TL.takeN 6 rfl ?_
              refine TL.nil ?_
              refine S.n ?_
              -- leaf 5 next [h5: False; h17: True; h21: True; h25: False; h35: t70=True; h37: True] H=['q16', 'q14', 'q11', 'q8', 'q4', 'q2']
              exact absurd (h25.symm.trans h37) Bool.false_ne_true
            · try simp only [decide_eq_true_eq, decide_eq_false_iff_not, Bool.not_eq_true', Bool.not_eq_false', Bool.not_eq_eq_eq_not, Bool.not_true, Bool.not_false, Int.not_lt, Int.not_le, Decidable.not_not] at h37
              refine TC.skip ?_
              refine B.n ?_
              refine S.n ?_
              refine TC.region ?_
              refine TL.v rfl (OpVal.succ rfl rfl rfl (by omega)) rfl rfl ?_
              refine TL.v rfl (OpVal.moveI (.inl rfl) rfl) rfl rfl ?_
              refine TL.front 6 rfl rfl ?_
              refine TL.front 6 rfl rfl ?_
              refine TL.front 6 rfl rfl ?_
              refine TL.front 6 rfl rfl ?_
              refine TL.front 5 rfl rfl ?_
              refine TL.front 5 rfl rfl ?_
              refine TL.takeN 6 rfl ?_
              refine TL.nil ?_
              refine S.n ?_
              -- leaf 6 next [h5: False; h17: True; h21: True; h25: False; h35: t70=True; h37: False] H=['q16', 'q14', 'q11', 'q8', 'q4', 'q2']
              refine ⟨by repeat (first | exact Agr.mask | refine Agr.upd rfl ?_ | refine Agr.maskIn rfl ?_), (g1 + 1, a22, c23), ?_, ?_, ?_, ?_, ?_⟩
              · show n.edges.length - (g1 + 1) < n.edges.length - g1; omega
              · show g1 + 1 ≤ n.edges.length; omega
              · repeat (first | exact trivial | refine ⟨rfl, ?_⟩)
              · show _ = [Res.cells _ #[.slice _ (starTo n (g1 + 1)).length _] _, Res.rowS _ _ _ (.slice _ (starTo n (g1 + 1)).length _) (starTo n (g1 + 1)), _, _, _, _]
                rw [starTo_tf (by omega) k6 h21 h25]; rfl
              · rfl
          · try simp only [decide_eq_true_eq, decide_eq_false_iff_not, Bool.not_eq_true', Bool.not_eq_false', Bool.not_eq_eq_eq_not, Bool.not_true, Bool.not_false, Int.not_lt, Int.not_le, Decidable.not_not] at h35
            refine TL.goff rfl rfl rfl rfl rfl rfl rfl rfl ?_
            refine TL.goff rfl rfl rfl rfl rfl rfl rfl rfl ?_
            refine TL.goff rfl rfl rfl rfl rfl rfl rfl rfl ?_
            refine TL.goff rfl rfl rfl rfl rfl rfl rfl rfl ?_
            refine TL.goff rfl rfl rfl rfl rfl rfl rfl rfl ?_
            refine TL.v rfl (OpVal.pickFB rfl rfl rfl) rfl rfl ?_
            refine TL.nil ?_
            refine S.n ?_
            refine TC.cond rfl (fun h => Bool.noConfusion h) (fun _ => ?_)
            refine TC.skip ?_
            refine B.n ?_
            refine S.n ?_
            refine TC.region ?_
            refine TL.v rfl (OpVal.succ rfl rfl rfl (by omega)) rfl rfl ?_
            refine TL.v rfl (OpVal.moveI (.inl rfl) rfl) rfl rfl ?_
            refine TL.front 6 rfl rfl ?_
            refine TL.front 6 rfl rfl ?_
            refine TL.front 6 rfl rfl ?_
            refine TL.front 6 rfl rfl ?_
            refine TL.front 5 rfl rfl ?_
            refine TL.front 5 rfl rfl ?_
            refine TL.takeN 6 rfl ?_
            refine TL.nil ?_
            refine S.n ?_
            -- leaf 7 next [h5: False; h17: True; h21: True; h25: False; h35: t70=False] H=['q16', 'q14', 'q11', 'q8', 'q4', 'q2']
            exact absurd (h35.symm.trans h21) Bool.false_ne_true
      · try simp only [decide_eq_true_eq, decide_eq_false_iff_not, Bool.not_eq_true', Bool.not_eq_false', Bool.not_eq_eq_eq_not, Bool.not_true, Bool.not_false, Int.not_lt, Int.not_le, Decidable.not_not] at h21
        refine TC.skip ?_
        refine S.n ?_
        refine TC.seq ?_
        refine TC.seq ?_
        refine TC.region ?_
        refine TL.v rfl (OpVal.moveSl (.inl rfl) rfl) rfl rfl ?_
        refine TL.v rfl (OpVal.fieldLoc rfl fo80_1 rfl) rfl rfl ?_
        refine TL.v rfl (OpVal.loadLoc rfl ag3 rfl (i := 0) rfl rfl) rfl rfl ?_
        refine TL.isSl (i := 3) rfl (fun hs40 _ _ => ?_)
        refine TL.v rfl (OpVal.index rfl Try.underlying47 sz4 rfl rfl (by first | assumption | exact (RS.rv (by assumption)).sl) (by omega) (by omega)) rfl rfl ?_
        refine TL.v rfl (OpVal.loadO1 false rfl ag4 rfl (q := 3) rfl encB_len (by omega) rfl) rfl rfl ?_
        refine TL.nil ?_
        refine S.n ?_
        refine TC.cond rfl (fun h41 => ?_) (fun h41 => ?_)
        · try simp only [decide_eq_true_eq, decide_eq_false_iff_not, Bool.not_eq_true', Bool.not_eq_false', Bool.not_eq_eq_eq_not, Bool.not_true, Bool.not_false, Int.not_lt, Int.not_le, Decidable.not_not] at h41
          refine TC.region ?_
          refine TL.v rfl (OpVal.moveFn (.inl rfl) rfl) rfl rfl ?_
          refine TL.v rfl (OpVal.fieldLoc rfl fo80_0 rfl) rfl rfl ?_
          refine TL.v rfl (OpVal.loadLoc rfl ag3 rfl (i := 0) rfl rfl) rfl rfl ?_
          refine TL.v rfl (OpVal.moveI (.inl rfl) rfl) rfl rfl ?_
          refine TL.v rfl (OpVal.fieldLoc rfl fo80_2 rfl) rfl rfl ?_
          refine TL.v rfl (OpVal.loadLocA rfl ag28 sz28 rfl (i := 0) rfl rfl rfl) rfl rfl ?_
          refine TL.front 2 rfl rfl ?_
          refine TL.front 2 rfl rfl ?_
          refine TL.op rfl (OpOk.callE (edge_con _ _ _ _ _ _ _ (nth n.edges g1 Arrow.zero).set (by (try simp only [List.length_append, List.length_singleton, Nat.add_assoc]); omega)) rfl rfl pf52 rfl rfl rfl rfl (fun a42 c43 => ?_))
          refine TL.nil ?_
          refine S.n ?_
          refine TC.seq ?_
          refine TC.region ?_
          refine TL.v rfl (OpVal.moveSl (.inl rfl) rfl) rfl rfl ?_
          refine TL.v rfl (OpVal.fieldLoc rfl fo80_0 rfl) rfl rfl ?_
          refine TL.v rfl (OpVal.loadLoc rfl ag3 rfl (i := 2) rfl rfl) rfl rfl ?_
          refine TL.isSl (i := 4) rfl (fun hs44 _ _ => ?_)
          refine TL.v rfl (OpVal.index rfl Try.underlying47 sz4 rfl rfl (by first | assumption | exact (RS.rv (by assumption)).sl) (by omega) (by omega)) rfl rfl ?_
          refine TL.v rfl (OpVal.loadO1 false rfl ag4 rfl (q := 4) rfl encB_len (by omega) rfl) rfl rfl ?_
          refine TL.v rfl (OpVal.moveB (.inl rfl) rfl) rfl rfl ?_
          refine TL.split 70 rfl (fun h45 => ?_) (fun h45 => ?_)
          · try simp only [decide_eq_true_eq, decide_eq_false_iff_not, Bool.not_eq_true', Bool.not_eq_false', Bool.not_eq_eq_eq_not, Bool.not_true, Bool.not_false, Int.not_lt, Int.not_le, Decidable.not_not] at h45
            refine TL.gv rfl rfl rfl rfl rfl (OpVal.moveSl (.inl rfl) rfl) rfl rfl ?_
            refine TL.gv rfl rfl rfl rfl rfl (OpVal.fieldLoc rfl fo80_1 rfl) rfl rfl ?_
            refine TL.gv rfl rfl rfl rfl rfl (OpVal.loadLoc rfl ag3 rfl (i := 2) rfl rfl) rfl rfl ?_
            refine TL.isSl (i := 3) rfl (fun hs46 _ _ => ?_)
            refine TL.gv rfl rfl rfl rfl rfl (OpVal.index rfl Try.underlying47 sz4 rfl rfl (by first | assumption | exact (RS.rv (by assumption)).sl) (by omega) (by omega)) rfl rfl ?_
            refine TL.gv rfl rfl rfl rfl rfl (OpVal.loadO1 false rfl ag4 rfl (q := 3) rfl encB_len (by omega) rfl) rfl rfl ?_
            refine TL.v rfl (OpVal.pickTB rfl rfl rfl) rfl rfl ?_
            refine TL.nil ?_
            refine S.n ?_
            refine TC.cond rfl (fun h47 => ?_) (fun h47 => ?_)
            · try simp only [decide_eq_true_eq, decide_eq_false_iff_not, Bool.not_eq_true', Bool.not_eq_false', Bool.not_eq_eq_eq_not, Bool.not_true, Bool.not_false, Int.not_lt, Int.not_le, Decidable.not_not] at h47
              refine TC.region ?_
              refine TL.v rfl (OpVal.moveFn (.inl rfl) rfl) rfl rfl ?_
              refine TL.v rfl (OpVal.moveI (.inl rfl) rfl) rfl rfl ?_
              refine TL.v rfl (OpVal.moveI (.inl rfl) rfl) rfl rfl ?_
              refine TL.v rfl (OpVal.fieldLoc rfl fo80_2 rfl) rfl rfl ?_
              refine TL.v rfl (OpVal.loadLocA rfl ag28 sz28 rfl (i := 2) rfl rfl rfl) rfl rfl ?_
              refine TL.front 1 rfl rfl ?_
              refine TL.front 1 rfl rfl ?_
              refine TL.op rfl (OpOk.callE (edge_con _ _ _ _ _ _ _ (nth n.edges g1 Arrow.zero).set (by (try simp only [List.length_append, List.length_singleton, Nat.add_assoc]); omega)) rfl rfl pf52 rfl rfl rfl rfl (fun a48 c49 => ?_))
              refine TL.nil ?_
              refine B.n ?_
              refine S.n ?_
              refine TC.region ?_
              refine TL.v rfl (OpVal.succ rfl rfl rfl (by omega)) rfl rfl ?_
              refine TL.v rfl (OpVal.moveI (.inl rfl) rfl) rfl rfl ?_
              refine TL.front 6 rfl rfl ?_
              refine TL.front 6 rfl rfl ?_
              refine TL.front 6 rfl rfl ?_
              refine TL.front 6 rfl rfl ?_
              refine TL.front 5 rfl rfl ?_
              refine TL.front 5 rfl rfl ?_
              refine TL.takeN 6 rfl ?_
              refine TL.nil ?_
              refine S.n ?_
              -- leaf 8 next [h5: False; h17: True; h21: False; h41: True; h45: t70=True; h47: True] H=['q16', 'q14', 'q11', 'q8', 'q4', 'q2']
              exact absurd (h21.symm.trans h45) Bool.false_ne_true
            · try simp only [decide_eq_true_eq, decide_eq_false_iff_not, Bool.not_eq_true', Bool.not_eq_false', Bool.not_eq_eq_eq_not, Bool.not_true, Bool.not_false, Int.not_lt, Int.not_le, Decidable.not_not] at h47
              refine TC.skip ?_
              refine B.n ?_
              refine S.n ?_
              refine TC.region ?_
              refine TL.v rfl (OpVal.succ rfl rfl rfl (by omega)) rfl rfl ?_
              refine TL.v rfl (OpVal.moveI (.inl rfl) rfl) rfl rfl ?_
              refine TL.front 6 rfl rfl ?_
              refine TL.front 6 rfl rfl ?_
              refine TL.front 6 rfl rfl ?_
              refine TL.front 6 rfl rfl ?_
              refine TL.front 5 rfl rfl ?_
              refine TL.front 5 rfl rfl ?_
              refine TL.takeN 6 rfl ?_
              refine TL.nil ?_
              refine S.n ?_
              -- leaf 9 next [h5: False; h17: True; h21: False; h41: True; h45: t70=True; h47: False] H=['q16', 'q14', 'q11', 'q8', 'q4', 'q2']
              exact absurd (h21.symm.trans h45) Bool.false_ne_true
          · try simp only [decide_eq_true_eq, decide_eq_false_iff_not, Bool.not_eq_true', Bool.not_eq_false', Bool.not_eq_eq_eq_not, Bool.not_true, Bool.not_false, Int.not_lt, Int.not_le, Decidable.not_not] at h45
            refine TL.goff rfl rfl rfl rfl rfl rfl rfl rfl ?_
            refine TL.goff rfl rfl rfl rfl rfl rfl rfl rfl ?_
            refine TL.goff rfl rfl rfl rfl rfl rfl rfl rfl ?_
            refine TL.goff rfl rfl rfl rfl rfl rfl rfl rfl ?_
            refine TL.goff rfl rfl rfl rfl rfl rfl rfl rfl ?_
            refine TL.v rfl (OpVal.pickFB rfl rfl rfl) rfl rfl ?_
            refine TL.nil ?_
            refine S.n ?_
            refine TC.cond rfl (fun h => Bool.noConfusion h) (fun _ => ?_)
            refine TC.skip ?_
            refine B.n ?_
            refine S.n ?_
            refine TC.region ?_
            refine TL.v rfl (OpVal.succ rfl rfl rfl (by omega)) rfl rfl ?_
            refine TL.v rfl (OpVal.moveI (.inl rfl) rfl) rfl rfl ?_
            refine TL.front 6 rfl rfl ?_
            refine TL.front 6 rfl rfl ?_
            refine TL.front 6 rfl rfl ?_
            refine TL.front 6 rfl rfl ?_
            refine TL.front 5 rfl rfl ?_
            refine TL.front 5 rfl rfl ?_
            refine TL.takeN 6 rfl ?_
            refine TL.nil ?_
            refine S.n ?_
            -- leaf 10 next [h5: False; h17: True; h21: False; h41: True; h45: t70=False] H=['q16', 'q14', 'q11', 'q8', 'q4', 'q2']
            refine ⟨by repeat (first | exact Agr.mask | refine Agr.upd rfl ?_ | refine Agr.maskIn rfl ?_), (g1 + 1, a42, c43), ?_, ?_, ?_, ?_, ?_⟩
            · show n.edges.length - (g1 + 1) < n.edges.length - g1; omega
            · show g1 + 1 ≤ n.edges.length; omega
            · repeat (first | exact trivial | refine ⟨rfl, ?_⟩)
            · show _ = [Res.cells _ #[.slice _ (starTo n (g1 + 1)).length _] _, Res.rowS _ _ _ (.slice _ (starTo n (g1 + 1)).length _) (starTo n (g1 + 1)), _, _, _, _]
              rw [starTo_ft (by omega) k6 h21 h41]; rfl
            · rfl
        · try simp only [decide_eq_true_eq, decide_eq_false_iff_not, Bool.not_eq_true', Bool.not_eq_false', Bool.not_eq_eq_eq_not, Bool.not_true, Bool.not_false, Int.not_lt, Int.not_le, Decidable.not_not] at h41
          refine TC.skip ?_
          refine S.n ?_
          refine TC.seq ?_
          refine TC.region ?_
          refine TL.v rfl (OpVal.moveSl (.inl rfl) rfl) rfl rfl ?_
          refine TL.v rfl (OpVal.fieldLoc rfl fo80_0 rfl) rfl rfl ?_
          refine TL.v rfl (OpVal.loadLoc rfl ag3 rfl (i := 0) rfl rfl) rfl rfl ?_
          refine TL.isSl (i := 4) rfl (fun hs50 _ _ => ?_)
          refine TL.v rfl (OpVal.index rfl Try.underlying47 sz4 rfl rfl (by first | assumption | exact (RS.rv (by assumption)).sl) (by omega) (by omega)) rfl rfl ?_
          refine TL.v rfl (OpVal.loadO1 false rfl ag4 rfl (q := 4) rfl encB_len (by omega) rfl) rfl rfl ?_
          refine TL.v rfl (OpVal.moveB (.inl rfl) rfl) rfl rfl ?_
          refine TL.split 70 rfl (fun h51 => ?_) (fun h51 => ?_)
          · try simp only [decide_eq_true_eq, decide_eq_false_iff_not, Bool.not_eq_true', Bool.not_eq_false', Bool.not_eq_eq_eq_not, Bool.not_true, Bool.not_false, Int.not_lt, Int.not_le, Decidable.not_not] at h51
            refine TL.gv rfl rfl rfl rfl rfl (OpVal.moveSl (.inl rfl) rfl) rfl rfl ?_
            refine TL.gv rfl rfl rfl rfl rfl (OpVal.fieldLoc rfl fo80_1 rfl) rfl rfl ?_
            refine TL.gv rfl rfl rfl rfl rfl (OpVal.loadLoc rfl ag3 rfl (i := 0) rfl rfl) rfl rfl ?_
            refine TL.isSl (i := 3) rfl (fun hs52 _ _ => ?_)
            refine TL.gv rfl rfl rfl rfl rfl (OpVal.index rfl Try.underlying47 sz4 rfl rfl (by first | assumption | exact (RS.rv (by assumption)).sl) (by omega) (by omega)) rfl rfl ?_
            refine TL.gv rfl rfl rfl rfl rfl (OpVal.loadO1 false rfl ag4 rfl (q := 3) rfl encB_len (by omega) rfl) rfl rfl ?_
            refine TL.v rfl (OpVal.pickTB rfl rfl rfl) rfl rfl ?_
            refine TL.nil ?_
            refine S.n ?_
            refine TC.cond rfl (fun h53 => ?_) (fun h53 => ?_)
            · try simp only [decide_eq_true_eq, decide_eq_false_iff_not, Bool.not_eq_true', Bool.not_eq_false', Bool.not_eq_eq_eq_not, Bool.not_true, Bool.not_false, Int.not_lt, Int.not_le, Decidable.not_not] at h53
              refine TC.region ?_
              refine TL.v rfl (OpVal.moveFn (.inl rfl) rfl) rfl rfl ?_
              refine TL.v rfl (OpVal.moveI (.inl rfl) rfl) rfl rfl ?_
              refine TL.v rfl (OpVal.moveI (.inl rfl) rfl) rfl rfl ?_
              refine TL.v rfl (OpVal.fieldLoc rfl fo80_2 rfl) rfl rfl ?_
              refine TL.v rfl (OpVal.loadLocA rfl ag28 sz28 rfl (i := 0) rfl rfl rfl) rfl rfl ?_
              refine TL.front 2 rfl rfl ?_
              refine TL.front 2 rfl rfl ?_
              refine TL.op rfl (OpOk.callE (edge_con _ _ _ _ _ _ _ (nth n.edges g1 Arrow.zero).set (by (try simp only [List.length_append, List.length_singleton, Nat.add_assoc]); omega)) rfl rfl pf52 rfl rfl rfl rfl (fun a54 c55 => ?_))
              refine TL.nil ?_
              refine B.n ?_
              refine S.n ?_
              refine TC.region ?_
              refine TL.v rfl (OpVal.succ rfl rfl rfl (by omega)) rfl rfl ?_
              refine TL.v rfl (OpVal.moveI (.inl rfl) rfl) rfl rfl ?_
              refine TL.front 6 rfl rfl ?_
              refine TL.front 6 rfl rfl ?_
              refine TL.front 6 rfl rfl ?_
              refine TL.front 6 rfl rfl ?_
              refine TL.front 5 rfl rfl ?_
              refine TL.front 5 rfl rfl ?_
              refine TL.takeN 6 rfl ?_
              refine TL.nil ?_
              refine S.n ?_
              -- leaf 11 next [h5: False; h17: True; h21: False; h41: False; h51: t70=True; h53: True] H=['q16', 'q14', 'q11', 'q8', 'q4', 'q2']
              exact absurd (h21.symm.trans h51) Bool.false_ne_true
            · try simp only [decide_eq_true_eq, decide_eq_false_iff_not, Bool.not_eq_true', Bool.not_eq_false', Bool.not_eq_eq_eq_not, Bool.not_true, Bool.not_false, Int.not_lt, Int.not_le, Decidable.not_not] at h53
              refine TC.skip ?_
              refine B.n ?_
              refine S.n ?_
              refine TC.region ?_
              refine TL.v rfl (OpVal.succ rfl rfl rfl (by omega)) rfl rfl ?_
              refine TL.v rfl (OpVal.moveI (.inl rfl) rfl) rfl rfl ?_
              refine TL.dropN 1 rfl ?_
              refine TL.nil ?_
              refine S.n ?_
              -- leaf 12 next [h5: False; h17: True; h21: False; h41: False; h51: t70=True; h53: False] H=['q16', 'q14', 'q11', 'q8', 'q4', 'q2']
              exact absurd (h21.symm.trans h51) Bool.false_ne_true
          · try simp only [decide_eq_true_eq, decide_eq_false_iff_not, Bool.not_eq_true', Bool.not_eq_false', Bool.not_eq_eq_eq_not, Bool.not_true, Bool.not_false, Int.not_lt, Int.not_le, Decidable.not_not] at h51
            refine TL.goff rfl rfl rfl rfl rfl rfl rfl rfl ?_
            refine TL.goff rfl rfl rfl rfl rfl rfl rfl rfl ?_
            refine TL.goff rfl rfl rfl rfl rfl rfl rfl rfl ?_
            refine TL.goff rfl rfl rfl rfl rfl rfl rfl rfl ?_
            refine TL.goff rfl rfl rfl rfl rfl rfl rfl rfl ?_
            refine TL.v rfl (OpVal.pickFB rfl rfl rfl) rfl rfl ?_
            refine TL.nil ?_
            refine S.n ?_
            refine TC.cond rfl (fun h => Bool.noConfusion h) (fun _ => ?_)
            refine TC.skip ?_
            refine B.n ?_
            refine S.n ?_
            refine TC.region ?_
            refine TL.v rfl (OpVal.succ rfl rfl rfl (by omega)) rfl rfl ?_
            refine TL.v rfl (OpVal.moveI (.inl rfl) rfl) rfl rfl ?_
            refine TL.dropN 1 rfl ?_
            refine TL.nil ?_
            refine S.n ?_
            -- leaf 13 next [h5: False; h17: True; h21: False; h41: False; h51: t70=False] H=['q16', 'q14', 'q11', 'q8', 'q4', 'q2']
            refine ⟨by repeat (first | exact Agr.mask | refine Agr.upd rfl ?_ | refine Agr.maskIn rfl ?_), (g1 + 1, ga, gc), ?_, ?_, ?_, ?_, ?_⟩
            · show n.edges.length - (g1 + 1) < n.edges.length - g1; omega
            · show g1 + 1 ≤ n.edges.length; omega
            · repeat (first | exact trivial | refine ⟨rfl, ?_⟩)
            · show _ = [Res.cells _ #[.slice _ (starTo n (g1 + 1)).length _] _, Res.rowS _ _ _ (.slice _ (starTo n (g1 + 1)).length _) (starTo n (g1 + 1)), _, _, _, _]
              rw [starTo_ff (by omega) k6 h21 h41]; rfl
            · rfl
    · try simp only [decide_eq_true_eq, decide_eq_false_iff_not, Bool.not_eq_true', Bool.not_eq_false', Bool.not_eq_eq_eq_not, Bool.not_true, Bool.not_false, Int.not_lt, Int.not_le, Decidable.not_not] at h17
      refine TC.exit ?_
      refine S.x ?_
      refine S.x ?_
      refine TC.exitHere ?_
      refine S.n ?_
      refine TC.seq ?_
      refine TC.seq ?_
      refine TC.region ?_
      refine TL.v rfl (OpVal.moveI (.inl rfl) rfl) rfl rfl ?_
      refine TL.v rfl (OpVal.add rfl rfl rfl (by omega) (by omega)) rfl rfl ?_
      refine TL.v rfl (OpVal.moveLoc (.inl rfl) rfl) rfl rfl ?_
      refine TL.v rfl (OpVal.nilCheckLoc rfl rfl) rfl rfl ?_
      refine TL.v rfl (OpVal.fieldLoc rfl fo74_0 rfl) rfl rfl ?_
      refine TL.v rfl (OpVal.loadLoc rfl ag23 rfl (i := 0) rfl rfl) rfl rfl ?_
      refine TL.v rfl (OpVal.lenC rfl Try.underlying23 rfl) rfl rfl ?_
      refine TL.op rfl (OpOk.callP (fits_con _ _ _) rfl rfl pf61 rfl rfl rfl ?_)
      refine TL.v rfl (OpVal.not rfl rfl) rfl rfl ?_
      refine TL.nil ?_
      refine S.n ?_
      refine TC.cond rfl (fun h56 => ?_) (fun h56 => ?_)
      · try simp only [decide_eq_true_eq, decide_eq_false_iff_not, Bool.not_eq_true', Bool.not_eq_false', Bool.not_eq_eq_eq_not, Bool.not_true, Bool.not_false, Int.not_lt, Int.not_le, Decidable.not_not] at h56
        refine TC.seq ?_
        refine TC.region ?_
        refine TL.v rfl (OpVal.buildL rfl pl25 ze25 rfl) rfl rfl ?_
        refine TL.front 4 rfl rfl ?_
        refine TL.op rfl (OpOk.storeAll rfl sz25 rfl rfl rfl rfl rfl rfl ?_)
        refine TL.v rfl (OpVal.moveI (.inr rfl) rfl) rfl rfl ?_
        refine TL.nil ?_
        refine S.n ?_
        refine TC.front 2 rfl rfl ?_
        refine TC.sealS encE_len (fun τ59 hle58 hr57 => ?_)
        refine TC.front 2 rfl rfl ?_
        refine TC.sealS encB_len (fun τ62 hle61 hr60 => ?_)
        replace hr57 := hr57.mono hle61
        refine TC.front 2 rfl rfl ?_
        refine TC.sealS encB_len (fun τ65 hle64 hr63 => ?_)
        replace hr57 := hr57.mono hle64
        replace hr60 := hr60.mono hle64
        refine TC.ret ?_
        refine S.r ?_
        -- leaf 14 ret [h5: False; h17: False; h56: True] H=['q4', 'q16', 'q2']
        obtain rfl : g1 = n.edges.length := by omega
        have hf : ¬ starF n = true := by rw [show starF n = false from h56]; exact Bool.false_ne_true
        simp only [starR, starX, if_pos hc, if_neg hf]
        exact retNfa (p := NfaP.zero) 0 rfl ag25 sz25 rfl rfl rfl rfl (RNfa.zero _)
      · try simp only [decide_eq_true_eq, decide_eq_false_iff_not, Bool.not_eq_true', Bool.not_eq_false', Bool.not_eq_eq_eq_not, Bool.not_true, Bool.not_false, Int.not_lt, Int.not_le, Decidable.not_not] at h56
        refine TC.skip ?_
        refine S.n ?_
        refine TC.seq ?_
        refine TC.region ?_
        refine TL.v rfl (OpVal.moveI (.inl rfl) rfl) rfl rfl ?_
        refine TL.v rfl (OpVal.add rfl rfl rfl (by omega) (by omega)) rfl rfl ?_
        refine TL.v rfl (OpVal.moveI (.inl rfl) rfl) rfl rfl ?_
        refine TL.op rfl (OpOk.lit (enc := Go.E.encI) [_] rfl Try.underlying22 sz3 ze3 rfl rfl rfl encI_len (by decide) (by decide) (0 : Int) rfl (by decide) rfl (by decide) encI_one (fun a66 c67 => ?_))
        refine TL.v rfl (OpVal.moveI (.inl rfl) rfl) rfl rfl ?_
        refine TL.op rfl (OpOk.lit (enc := Go.E.encI) [_] rfl Try.underlying22 sz3 ze3 rfl rfl rfl encI_len (by decide) (by decide) (0 : Int) rfl (by decide) rfl (by decide) encI_one (fun a69 c70 => ?_))
        refine TL.v rfl (OpVal.moveLoc (.inl rfl) rfl) rfl rfl ?_
        refine TL.v rfl (OpVal.nilCheckLoc rfl rfl) rfl rfl ?_
        refine TL.v rfl (OpVal.fieldLoc rfl fo74_0 rfl) rfl rfl ?_
        refine TL.v rfl (OpVal.loadLoc rfl ag23 rfl (i := 2) rfl rfl) rfl rfl ?_
        refine TL.v rfl (OpVal.buildL rfl pl25 ze25 rfl) rfl rfl ?_
        refine TL.front 6 rfl rfl ?_
        refine TL.op rfl (OpOk.storeAll rfl sz25 rfl rfl rfl rfl rfl rfl ?_)
        refine TL.v rfl (OpVal.moveI (.inr rfl) rfl) rfl rfl ?_
        refine TL.nil ?_
        refine S.n ?_
        refine TC.front 1 rfl rfl ?_
        refine TC.sealS encI_len (fun τ74 hle73 hr72 => ?_)
        refine TC.front 1 rfl rfl ?_
        refine TC.sealS encI_len (fun τ77 hle76 hr75 => ?_)
        replace hr72 := hr72.mono hle76
        refine TC.front 2 rfl rfl ?_
        refine TC.sealS encE_len (fun τ80 hle79 hr78 => ?_)
        replace hr72 := hr72.mono hle79
        replace hr75 := hr75.mono hle79
        refine TC.front 2 rfl rfl ?_
        refine TC.sealS encB_len (fun τ83 hle82 hr81 => ?_)
        replace hr72 := hr72.mono hle82
        replace hr75 := hr75.mono hle82
        replace hr78 := hr78.mono hle82
        refine TC.front 2 rfl rfl ?_
        refine TC.sealS encB_len (fun τ86 hle85 hr84 => ?_)
        replace hr72 := hr72.mono hle85
        replace hr75 := hr75.mono hle85
        replace hr78 := hr78.mono hle85
        replace hr81 := hr81.mono hle85
        refine TC.ret ?_
        -- leaf 15 ret [h5: False; h17: False; h56: False] H=['q4', 'q16', 'q2']
        obtain rfl : g1 = n.edges.length := by omega
        have hf : starF n = true := h56
        simp only [starR, starX, if_pos hc, if_pos hf]
        exact retNfa (p := ⟨a66, c67, a69, c70, ga, gc⟩) 0 rfl ag25 sz25 rfl rfl rfl rfl ⟨hr75, hr72, hr78, starTo_ok hn.ok _⟩

end Go.Proofs.Ytcidppnlhhkhhaa
end
