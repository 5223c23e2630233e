/- More words: a row cut, what make appends, parts of slices that are only read. Plain lemmas over any program; no condition. -/
import Derived.Test.YtcidppnlhhkhhaaDec3
import Derived.Lib.AppendZerosOnto
set_option linter.unusedVariables false
set_option linter.unusedSimpArgs false
namespace Go.E
open Go
section
variable {P : Program} {n : Nat} {e : Env} {σ : Store} {H : List Res} {o : Oper} {x y z : Operand} {α : Type}
theorem OpVal.capC {t E m c : Nat} {a : Option Addr} (ho : o.op = .call { callee := .builtin .cap, args := #[x], argTypes := #[t] }) (ht : P.underlying t = some (.slice E)) (hx : ev e x = .slice a m c) :
    OpVal P n o e σ H (.int .i64 (c : Nat)) := fun w _ => by
  simp [execOp, ho, resolve, invoke, builtin, hx, Builtin.cap_, run_underlying ht, goInt]
theorem OpVal.sliceNil {t E s : TypeId} {k : IntKind} (ho : o.op = .slice t x none (some z) none) (ht : P.underlying t = some (.slice E)) (hs : szOf P E = some s) (hx : ev e x = .slice none 0 0) (hz : ev e z = .int k 0) : OpVal P n o e σ H (.slice none 0 0) := fun w _ => by
  simp [execOp, ho, hx, hz, Instr.sliceAt, Instr.slice, Instr.sliceBounds, Instr.sliceBound, asIntOf, run_underlying ht, run_sizeOf hs]
end
section
variable {X : Ctx} {e : Env} {σ : Store} {H F : List Res} {o : Oper} {x y z : Operand} {K : Env → Store → List Res → Prop} {α : Type}
/-- append(nil, make(..)...) -/
theorem OpOk.appendMake {T I E size by_ d m : Nat} {enc : α → List Value} {kn : IntKind} {zv : Value} (x0 : α) (ho : o.op = .call { callee := .builtin .append, args := #[x, y], argTypes := #[T, I] }) (ht : X.P.underlying T = some (.slice E)) (hI : X.P.underlying I = some (.int kn)) (hs : szOf X.P E = some size) (hby : byOf X.P E = some by_) (hz : zeroOf X.P E = some zv)
    (hd : o.dst = some d) (hn : Nat.blt d X.n = true) (hx : ev e x = .slice none 0 0) {kq : IntKind} (hy : ev e y = .int kq (m : Nat)) (hm : 0 < m ∧ m * by_ ≤ 140737488355328) (hby0 : 0 < by_) (hl : ∀ x, (enc x).length = size) (h0 : 0 < size)
    (hz0 : zv.cells.toList = enc x0) (h1 : ∀ x, ∀ u ∈ enc x, u.oneCell' = true) (k : ∀ a c, K (upd e d (.slice a (List.replicate m x0).length c)) σ (Res.rowS E size enc (.slice a (List.replicate m x0).length c) (List.replicate m x0) :: H)) : OpOk X o e σ H K := by
  obtain ⟨i, hi, hsz⟩ := szOf_info hs
  have hiz : i.zero = some zv := by simpa [zeroOf, hi] using hz
  have hib : i.bytes = by_ := by simpa [byOf, hi] using hby
  have hm0 : m ≤ 140737488355328 := Nat.le_trans (Nat.le_mul_of_pos_right m hby0) hm.2
  intro w a hw ha K' Q hK
  have hrun := Lib.run_append_grow_zeros (P := X.P) w T I o.type E i zv kq kn ht hI hi hiz none 0 0 [] (by rw [hsz]; exact run_firstCells_none w.drew size 0 0 0) m hm.1 (by omega) (by omega) (by omega) (by rw [hib]; omega) (by rw [Nat.zero_add, nextslicecap_zero hm.1, hib]; omega)
  generalize hcap : grownCap w (0 + m) 0 E = cap at hrun
  have hge : 0 + m ≤ cap := hcap ▸ grownCap_ge w (0 + m) 0 E
  rw [Nat.zero_add] at hrun hge
  have hcs : (Builtin.zeroCells zv.cells m).toList = (List.replicate m x0).flatMap enc := by
    have := madeCells_flat zv x0 hz0 m (by rw [hl]; exact h0)
    rw [hl] at this
    rw [← this]
    have hzs : zv.cells.size = size := by rw [← Array.length_toList, hz0, hl]
    simp [Builtin.zeroCells, madeCells, hzs]
  have hzn : ∀ q, (Builtin.zeroCells zv.cells q).size = q * size := fun q => by
    have hzs : zv.cells.size = size := by rw [← Array.length_toList, hz0, hl]
    simp [Builtin.zeroCells, hzs]
  have hown : (w.drew.alloc (.cells (#[] ++ Builtin.zeroCells zv.cells m ++ Builtin.zeroCells zv.cells (cap - m)) E)).ownsRow 0 E size (.slice (some ⟨w.heap.size, 0, none⟩) m cap) m ((List.replicate m x0).flatMap enc) := by
    refine ⟨by rw [flatMap_len hl, List.length_replicate], .inr ⟨w.heap.size, cap, _, rfl, Nat.zero_le _, heap_alloc_new w.drew _, hge, ?_, ?_, ?_⟩⟩
    · rw [← hcap]; exact grownCap_le_maxLen w (0 + m) 0 E (by unfold maxLen; omega)
    · rw [Array.size_append, Array.size_append, hzn, hzn, Array.size_empty, Nat.zero_add, ← Nat.add_mul]; congr 1; omega
    · rw [Array.toList_append, Array.toList_append, Array.toList_empty, List.nil_append, hcs, List.take_append_of_le_length (by rw [flatMap_len hl, List.length_replicate]; exact Nat.le_refl _), List.take_of_length_le (by rw [flatMap_len hl, List.length_replicate]; exact Nat.le_refl _)]
  have hR := (hw.drew).gain1 (some w.heap.size) (r' := Res.rowS E size enc (.slice (some ⟨w.heap.size, 0, none⟩) m cap) (List.replicate m x0)) (w' := w.drew.alloc (.cells (#[] ++ Builtin.zeroCells zv.cells m ++ Builtin.zeroCells zv.cells (cap - m)) E)) rfl rfl rfl rfl (by simp) (Nat.le_refl _) (fun k hk => heap_alloc_old w.drew _ k hk)
    ⟨by rw [List.length_replicate]; exact hown, fun u hu => by
      rw [List.mem_flatMap] at hu
      obtain ⟨q, _, hq⟩ := hu
      exact h1 q u hq, by rw [List.length_replicate]; omega⟩ (fun b hb => by cases hb; exact Nat.le_refl _)
  have hk := k (some ⟨w.heap.size, 0, none⟩) cap
  rw [List.length_replicate] at hk
  refine Oper.wp_of_run (v := .slice (some ⟨w.heap.size, 0, none⟩) m cap) ?_ (hK _ _ _ _ _ hk hR (put_dst ha hd hn _))
  rw [ha.eval']
  have e0 : (([] : List Value).toArray) = #[] := rfl
  rw [e0] at hrun
  simp [execOp, ho, resolve, invoke, builtin, hx, hy, hrun]
theorem take_flat {enc : α → List Value} {size : Nat} (hl : ∀ x, (enc x).length = size) : ∀ (l : List α) (i : Nat), (l.take i).flatMap enc = (l.flatMap enc).take (i * size)
  | [], i => by simp
  | u :: l, 0 => by simp
  | u :: l, i + 1 => by
    rw [List.take_succ_cons, List.flatMap_cons, List.flatMap_cons, take_flat hl l i]
    have h1 : (i + 1) * size = (enc u).length + i * size := by rw [hl, Nat.add_mul]; omega
    rw [h1, List.take_append, Nat.add_sub_cancel_left, List.take_of_length_le (Nat.le_add_right _ _)]
/-- A row cut: fewer elements, the same room. -/
theorem OpOk.cutS {T E size d i : Nat} {k : IntKind} {enc : α → List Value} {a : Option Addr} {m c : Nat} {l : List α} (ho : o.op = .slice T x none (some z) none) (ht : X.P.underlying T = some (.slice E)) (hs : szOf X.P E = some size) (hd : o.dst = some d) (hn : Nat.blt d X.n = true) (hx : ev e x = .slice a m c) (hm : l.length = m) (hz : ev e z = .int k (i : Nat)) (hi : i ≤ l.length) (hl : ∀ x, (enc x).length = size)
    (kk : K (upd e d (.slice a (l.take i).length c)) σ (Res.rowS E size enc (.slice a (l.take i).length c) (l.take i) :: F)) : OpOk X o e σ (Res.rowS E size enc (.slice a m c) l :: F) K := by
  subst hm
  intro w ac hw ha K' Q hK
  obtain ⟨hown, hone, hbg⟩ := hw.holds _ (List.mem_cons_self ..)
  have hli : (l.take i).length = i := by rw [List.length_take]; omega
  rw [hli] at kk
  have hflat : (l.take i).flatMap enc = (l.flatMap enc).take (i * size) := take_flat hl l i
  have hone' : ∀ u ∈ (l.take i).flatMap enc, u.oneCell' = true := fun u hu => hone u (by rw [hflat] at hu; exact List.mem_of_mem_take hu)
  have hsl := isSl_row hown
  obtain ⟨a', c', hv, hnone, hcap⟩ := hsl
  cases hv
  have hsz := run_sizeOf (P := X.P) hs
  have hrun : (Instr.slice T (.slice a l.length c) none (some (.int k i)) none).run X.P w = .ok (.slice a i c) w := by
    cases a with
    | none =>
      obtain ⟨h1, h2⟩ := hnone rfl
      have : i = 0 := by omega
      subst this; subst h2
      simp [Instr.slice, Instr.sliceBounds, Instr.sliceBound, asIntOf, run_underlying ht, hsz]
    | some ad =>
      have h2 : (i : Int) ≤ (c : Int) := by omega
      simp [Instr.slice, Instr.sliceBounds, Instr.sliceBound, asIntOf, run_underlying ht, hsz, Addr.add]
      intro hlt; omega
  have hown' : w.ownsRow 0 E size (.slice a i c) i ((l.take i).flatMap enc) := by
    refine ⟨by rw [flatMap_len hl, hli], ?_⟩
    rcases hown.2 with ⟨h1, h2⟩ | ⟨g, cap, cur, h1, h2, h3, h4, h5, h6, h7⟩
    · refine .inl ⟨?_, by omega⟩
      simp only [Value.slice.injEq] at h1 ⊢
      exact ⟨h1.1, by omega, h1.2.2⟩
    · simp only [Value.slice.injEq] at h1
      refine .inr ⟨g, cap, cur, ?_, h2, h3, by omega, h5, h6, ?_⟩
      · simp only [Value.slice.injEq]; exact ⟨h1.1, trivial, h1.2.2⟩
      · rw [hflat, ← h7, List.take_take, Nat.min_eq_left (Nat.mul_le_mul_right _ hi)]
  have hR : Reach X.w0 X.C X.σ0 σ w (Res.rowS E size enc (.slice a i c) (l.take i) :: F) :=
    hw.turn1 (Value.ownBlock (.slice a l.length c)) (Value.ownBlock (.slice a i c)) rfl rfl rfl rfl rfl (Nat.le_refl _) (Nat.le_refl _) (fun _ _ _ => rfl) ⟨by rw [hli]; exact hown', hone', by rw [hli]; omega⟩ (fun q hq => .inl (by cases a <;> exact hq))
  refine Oper.wp_of_run (v := .slice a i c) ?_ (hK _ _ _ _ _ kk hR (put_dst ha hd hn _))
  rw [ha.eval']
  simp [execOp, ho, hx, hz, Instr.sliceAt, run_underlying ht, hrun]
end
end Go.E
namespace Go.E
open Go
/-! ### Parts of slices that are only read -/
section
variable {α : Type} {σ : Store} {size m c : Nat} {enc : α → List Value} {a : Option Addr} {l : List α}
theorem drop_flat (hl : ∀ x, (enc x).length = size) : ∀ (l : List α) (i : Nat), (l.drop i).flatMap enc = (l.flatMap enc).drop (i * size)
  | [], i => by simp
  | u :: l, 0 => by simp
  | u :: l, i + 1 => by
    rw [List.drop_succ_cons, List.flatMap_cons, drop_flat hl l i]
    have h1 : (i + 1) * size = (enc u).length + i * size := by rw [hl, Nat.add_mul]; omega
    rw [h1, List.drop_append, Nat.add_sub_cancel_left, List.drop_of_length_le (Nat.le_add_right _ _), List.nil_append]
theorem RS.subH (h : RS σ size enc (.slice a m c) l) (j : Nat) (hj : j ≤ l.length) : ∃ (a' : Option Addr) (c' : Nat), RS σ size enc (.slice a' (l.take j).length c') (l.take j) ∧
    ∀ {P : Program} {n : Nat} {e : Env} {H : List Res} {o : Oper} {x z : Operand} {T E : TypeId} {k : IntKind} (_ : o.op = .slice T x none (some z) none) (_ : P.underlying T = some (.slice E)) (_ : szOf P E = some size) (_ : ev e x = .slice a m c) (_ : ev e z = .int k (j : Nat)), OpVal P n o e σ H (.slice a' (l.take j).length c') := by
  have hlj : (l.take j).length = j := by rw [List.length_take]; omega
  obtain ⟨a1, c1, hv, hn, hc⟩ := h.rv.sl
  cases hv
  rw [hlj]
  refine ⟨a, c, ⟨⟨⟨a, c, by rw [hlj], fun ha => ?_, by omega⟩, by rw [flatMap_len h.len], ?_, fun u hu => h.rv.one u (by rw [take_flat h.len] at hu; exact List.mem_of_mem_take hu), by have := h.rv.big; omega⟩, h.len⟩, ?_⟩
  · obtain ⟨h1, h2⟩ := hn ha; exact ⟨by omega, h2⟩
  · intro ad m' c' hv i u hi
    cases hv
    rw [take_flat h.len, List.getElem?_take] at hi
    split at hi
    · exact h.rv.cell ad _ c rfl i u hi
    · cases hi
  · intro P n e H o x z T E k ho hT hs hx hz w _
    have hsz := run_sizeOf (P := P) hs
    have hrun : (Instr.slice T (.slice a l.length c) none (some (.int k j)) none).run P w = .ok (.slice a j c) w := by
      cases a with
      | none =>
        obtain ⟨h1, h2⟩ := hn rfl
        have : j = 0 := by omega
        subst this; subst h2
        simp [Instr.slice, Instr.sliceBounds, Instr.sliceBound, asIntOf, run_underlying hT, hsz]
      | some ad =>
        simp [Instr.slice, Instr.sliceBounds, Instr.sliceBound, asIntOf, run_underlying hT, hsz, Addr.add]
        intro hlt; omega
    simp [execOp, ho, hx, hz, Instr.sliceAt, run_underlying hT, hrun]
theorem RS.subL (h : RS σ size enc (.slice a m c) l) (i : Nat) (hi : i ≤ l.length) : ∃ (a' : Option Addr) (c' : Nat), RS σ size enc (.slice a' (l.drop i).length c') (l.drop i) ∧
    ∀ {P : Program} {n : Nat} {e : Env} {H : List Res} {o : Oper} {x z : Operand} {T E : TypeId} {k : IntKind} (_ : o.op = .slice T x (some z) none none) (_ : P.underlying T = some (.slice E)) (_ : szOf P E = some size) (_ : ev e x = .slice a m c) (_ : ev e z = .int k (i : Nat)), OpVal P n o e σ H (.slice a' (l.drop i).length c') := by
  have hlj : (l.drop i).length = l.length - i := by rw [List.length_drop]
  obtain ⟨a1, c1, hv, hn, hc⟩ := h.rv.sl
  cases hv
  rw [hlj]
  refine ⟨if c - i = 0 ∧ False then a else (if c = i then a else a.map (·.add (i * size))), c - i, ⟨⟨⟨_, _, by rw [hlj], fun ha => ?_, by omega⟩, by rw [flatMap_len h.len], ?_, fun u hu => h.rv.one u (by rw [drop_flat h.len] at hu; exact List.mem_of_mem_drop hu), by have := h.rv.big; omega⟩, h.len⟩, ?_⟩
  · simp only [and_false, if_false] at ha
    split at ha
    · obtain ⟨h1, h2⟩ := hn ha; omega
    · cases a with
      | none => obtain ⟨h1, h2⟩ := hn rfl; omega
      | some ad => simp at ha
  · intro ad m' c' hv j u hj
    simp only [and_false, if_false] at hv
    rw [drop_flat h.len, List.getElem?_drop] at hj
    have hjl := (List.getElem?_eq_some_iff.1 hj).1
    rw [flatMap_len h.len] at hjl
    have hil : i < l.length := by
      rcases Nat.lt_or_ge i l.length with h1 | h1
      · exact h1
      · have := Nat.mul_le_mul_right size h1; omega
    have hci : ¬ c = i := by omega
    rw [if_neg hci] at hv
    cases a with
    | none => simp at hv
    | some a0 =>
      simp only [Option.map_some, Value.slice.injEq, Option.some.injEq] at hv
      obtain ⟨rfl, _⟩ := hv
      rw [add_add]
      exact h.rv.cell a0 _ c rfl _ u hj
  · intro P n e H o x z T E k ho hT hs hx hz w _
    have hsz := run_sizeOf (P := P) hs
    have hrun : (Instr.slice T (.slice a l.length c) (some (.int k i)) none none).run P w = .ok (.slice (if c = i then a else a.map (·.add (i * size))) (l.length - i) (c - i)) w := by
      simp [Instr.slice, Instr.sliceBounds, Instr.sliceBound, asIntOf, run_underlying hT, hsz]
      intro hlt; omega
    simp [execOp, ho, hx, hz, Instr.sliceAt, run_underlying hT, hrun]
end
end Go.E
