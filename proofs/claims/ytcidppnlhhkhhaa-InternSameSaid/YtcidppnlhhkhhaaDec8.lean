/- More words: rounds in any order, copies, bytes made a text, parts of rows. Plain lemmas over any program; no condition. -/
import Derived.Test.YtcidppnlhhkhhaaDec7
import Derived.Laws.BytesArg
import Derived.Lib.Bytealg
set_option linter.unusedVariables false
set_option linter.unusedSimpArgs false
namespace Go.E
open Go
theorem runA_of {K V S R : Type} {step : S → Option (K × V) → Option (S ⊕ R)} {m : FM K V} {l : List (K × V)} {s : S} {r : R} (h : allP (fun q => Rep q m) (fun q => runL step q s) = some r) (hl : Rep l m) : runA step l s = some r :=
  allP_i l (List.Perm.refl _) fun q hq => allP_e h q (hl.perm hq)
def unitV (_ : Unit) : Value := .agg #[]
def encW (x : Nat) : List Value := [.int .u64 (x : Nat)]
theorem encW_len (x : Nat) : (encW x).length = 1 := rfl
theorem encW_one : ∀ x, ∀ u ∈ encW x, u.oneCell' = true := fun x u hu => by simp [encW] at hu; subst hu; rfl
def encSet (x : BSet) : List Value := (setA x).toList
theorem encSet_len (x : BSet) : (encSet x).length = 4 := rfl
theorem encSet_one : ∀ x, ∀ u ∈ encSet x, u.oneCell' = true := setA_one
/-! ### Cells of a slice, whoever owns it -/
def Rdb (w : World) (v : Value) (xs : List Value) : Prop := ∀ a m c, v = .slice (some a) m c → ∀ j u, xs[j]? = some u → w.cell? (a.add j) = some u
theorem rdb_RS {α : Type} {σ : Store} {H : List Res} {size : Nat} {enc : α → List Value} {v : Value} {l : List α} {w : World} (h : RS σ size enc v l) (hw : Sees σ H w) : Rdb w v (l.flatMap enc) := fun a m c hv j u hj => hw.cell (h.rv.cell a m c hv j u hj)
theorem rdb_row {α : Type} {σ : Store} {H : List Res} {E size q : Nat} {enc : α → List Value} {v : Value} {l : List α} {w : World} (hq : H[q]? = some (Res.rowS E size enc v l)) (hw : Sees σ H w) : Rdb w v (l.flatMap enc) := by
  intro a m c hv j u hj
  have hown := (hw.2 _ (List.mem_of_getElem? hq)).1
  subst hv
  obtain ⟨h1, h2⟩ := hown
  rcases h2 with ⟨h2, _⟩ | ⟨g, cap, cur, h2, _, hg, h3, h4, h5, h6⟩
  · cases h2
  · cases h2
    rw [loc_add]
    have hj2 := (List.getElem?_eq_some_iff.1 hj).1
    rw [← h6, List.getElem?_take] at hj
    split at hj
    · simp only [World.cell?, hg, Option.isSome_none, Bool.false_eq_true, if_false, Nat.zero_add]
      rw [← Array.getElem?_toList]; exact hj
    · cases hj
theorem OpVal.bytesStr {P : Program} {n : Nat} {e : Env} {σ : Store} {H : List Res} {o : Oper} {x : Operand} {S T E m c : Nat} {a : Option Addr} {l : List UInt8} (ho : o.op = .convert S T x) (hs : P.underlying S = some (.slice E)) (he : P.underlying E = some (.int .u8)) (ht : P.underlying T = some .string)
    (hx : ev e x = .slice a m c) (hl : IsSl (.slice a m c) l.length) (hr : ∀ w, Sees σ H w → Rdb w (.slice a m c) (l.flatMap encU8)) : OpVal P n o e σ H (.string (bs l)) := fun w hw => by
  obtain ⟨a', c', hv, hn, hc⟩ := hl
  cases hv
  cases a with
  | none =>
    obtain ⟨h1, _⟩ := hn rfl
    have hl0 : l = [] := List.eq_nil_of_length_eq_zero h1
    subst hl0
    have := run_convert_bytes_nil (P := P) w S E hs he 0 c T ht
    simp only [execOp, ho, hx]
    simp only [List.length_nil, Sem.run_bind, this, Result.andThen_ok, Sem.run_pure]
    rfl
  | some ad =>
    have hcell := hr w hw ad _ c rfl
    have h1 : (loadCells ad l.length).run P w = .ok ((l.map fun b => (b.toNat : Int)).map (Value.int .u8)).toArray w := by
      have := run_loadCells_list (P := P) w ad ((l.map fun b => (b.toNat : Int)).map (Value.int .u8)) (fun j v hj => hcell j v (by rw [encU8_map]; simpa using hj))
      simpa using this
    have h2 := run_convert_bytes_string (P := P) w S T E (some ad) l.length c hs he ht
    have h3 := run_bytesToString (P := P) w ad l.length c (l.map fun b => (b.toNat : Int)) h1
    have h4 : (⟨(ByteArray.empty.data ++ (((l.map fun b => (b.toNat : Int)).map fun n => UInt8.ofNat n.toNat)).toArray)⟩ : ByteArray) = bs l := by
      simp [bs, ByteArray.empty, ByteArray.emptyWithCapacity, Function.comp_def]
      rfl
    rw [foldl_push_bytes, h4] at h3
    simp only [execOp, ho, hx, Sem.run_bind, h2, h3, Result.andThen_ok, Sem.run_pure]
theorem Reach.nilMap {K V : Type} {enc : K → Value} {encV : V → Value} {w0 : World} {C : List Nat} {σ0 σ : Store} {w : World} {F : List Res} (h : Reach w0 C σ0 σ w F) : Reach w0 C σ0 σ w (Res.mapB enc encV none FM.emp :: F) :=
  h.gain rfl rfl rfl (Nat.le_refl _) (Nat.le_refl _) (fun _ _ => rfl) ⟨fun _ => rfl, fun k hk => by cases hk⟩ (fun b hb => by simp [Res.mapB] at hb) (by simp [Res.mapB])
/-! ### Strings compared by the library -/
theorem OpVal.cmpStr {P : Program} {n : Nat} {e : Env} {σ : Store} {H : List Res} {o : Oper} {x p q : Operand} {ts : Array TypeId} {J : FuncId} {fn : Func} {a b : List UInt8} (ho : o.op = .call { callee := .value x, args := #[p, q], argTypes := ts }) (hx : ev e x = .func (.func J) #[] #[]) (hf : P.funcs[J]? = some fn) (hname : (fn.name == "runtime.NumGoroutine") = false)
    (hb : fn.body.isNone = true) (hn : Extern.findNext fn = none) (he : Extern.find fn = some Extern.BytealgCompare.compare) (hp : ev e p = .string (bs a)) (hq : ev e q = .string (bs b)) : OpVal P n o e σ H (.int .i64 (Lib.compareBytes a b)) := fun w _ => by
  have h := run_callFunc_extern hf hname hb hn he #[.string (bs a), .string (bs b)] w
  rw [Lib.run_compareString] at h
  simp [execOp, ho, resolve, Deferred.ofValue, invoke, hx, hp, hq, h, Result.andThen, bs_list]

/-! ### A part of a row of one's own, looked at through a slice of its own -/
structure VwOk (v u : Value) (size k n : Nat) : Prop where
  sl : IsSl u n
  el : ∀ j, j < n → elem u (j * size) = elem v ((k + j) * size)
theorem VwOk.self {v : Value} {size n : Nat} (h : IsSl v n) : VwOk v v size 0 n := ⟨h, fun j _ => by rw [Nat.zero_add]⟩
theorem vw_of {a : Option Addr} {m c size k : Nat} (h : IsSl (.slice a m c) m) (hk : k ≤ m) : ∃ (a' : Option Addr) (c' : Nat), VwOk (.slice a m c) (.slice a' (m - k) c') size k (m - k) ∧
    ∀ {P : Program} {n : Nat} {e : Env} {σ : Store} {H : List Res} {o : Oper} {x z : Operand} {T E : TypeId} {kk : IntKind} (_ : o.op = .slice T x (some z) none none) (_ : P.underlying T = some (.slice E)) (_ : szOf P E = some size) (_ : ev e x = .slice a m c) (_ : ev e z = .int kk (k : Nat)), OpVal P n o e σ H (.slice a' (m - k) c') := by
  obtain ⟨a1, c1, hv, hn, hc⟩ := h
  cases hv
  refine ⟨if c = k then a else a.map (·.add (k * size)), c - k, ⟨⟨_, _, rfl, fun ha => ?_, by omega⟩, fun j hj => ?_⟩, ?_⟩
  · split at ha
    · obtain ⟨h1, h2⟩ := hn ha; omega
    · cases a with
      | none => obtain ⟨h1, h2⟩ := hn rfl; omega
      | some ad => simp at ha
  · have hck : ¬ c = k := by omega
    rw [if_neg hck]
    cases a with
    | none => obtain ⟨h1, h2⟩ := hn rfl; omega
    | some ad => simp only [elem, Option.map_some]; rw [add_add, Nat.add_mul]
  · intro P n e σ H o x z T E kk ho hT hs hx hz w _
    have hsz := run_sizeOf (P := P) hs
    have hrun : (Instr.slice T (.slice a m c) (some (.int kk k)) none none).run P w = .ok (.slice (if c = k then a else a.map (·.add (k * size))) (m - k) (c - k)) w := by
      simp [Instr.slice, Instr.sliceBounds, Instr.sliceBound, asIntOf, run_underlying hT, hsz]
      intro hlt; omega
    simp [execOp, ho, hx, hz, Instr.sliceAt, run_underlying hT, hrun]
theorem OpVal.elVw {P : Program} {n : Nat} {e : Env} {σ : Store} {H : List Res} {o : Oper} {v u : Value} {size k m j : Nat} (hv : VwOk v u size k m) (hj : j < m) (h : OpVal P n o e σ H (elem u (j * size))) : OpVal P n o e σ H (elem v ((k + j) * size)) := hv.el j hj ▸ h
theorem zeroCells_flat {α : Type} {enc : α → List Value} {size : Nat} {z : Value} (x0 : α) (hz : z.cells.toList = enc x0) (hl : ∀ x, (enc x).length = size) (m : Nat) (h0 : 0 < size) : (Builtin.zeroCells z.cells m).toList = (List.replicate m x0).flatMap enc := by
  have := madeCells_flat z x0 hz m (by rw [hl]; exact h0)
  rw [hl] at this
  rw [← this]
  have hzs : z.cells.size = size := by rw [← Array.length_toList, hz, hl]
  simp [Builtin.zeroCells, madeCells, hzs]
theorem splice_end {α : Type} {enc : α → List Value} {size : Nat} (hl : ∀ x, (enc x).length = size) (l : List α) (k : Nat) (x0 : α) (hk : k ≤ l.length) :
    splice (l.flatMap enc) (k * size) ((List.replicate (l.length - k) x0).flatMap enc) = (l.take k ++ List.replicate (l.length - k) x0).flatMap enc := by
  rw [List.flatMap_append, splice, take_flat hl]
  have h1 : ((List.replicate (l.length - k) x0).flatMap enc).length = (l.length - k) * size := by rw [flatMap_len hl, List.length_replicate]
  rw [h1]
  have h2 : (l.flatMap enc).length = l.length * size := flatMap_len hl l
  rw [List.drop_of_length_le (by rw [h2, ← Nat.add_mul]; exact Nat.mul_le_mul_right _ (by omega)), List.append_nil]
/-- clear of the end of a row of one's own. -/
theorem OpOk.clearV {X : Ctx} {e : Env} {σ : Store} {F : List Res} {o : Oper} {x : Operand} {K : Env → Store → List Res → Prop} {α : Type} {T E size k m' : Nat} {enc : α → List Value} {zv v u : Value} {l : List α} (x0 : α) (ho : o.op = .call { callee := .builtin .clear, args := #[x], argTypes := #[T] }) (ht : X.P.underlying T = some (.slice E)) (hz : zeroOf X.P E = some zv)
    (hd : o.dst = none) (hx : ev e x = u) (hv : VwOk v u size k m') (hm : l.length - k = m') (hk : k ≤ l.length) (hl : ∀ x, (enc x).length = size) (h0 : 0 < size) (hz0 : zv.cells.toList = enc x0) (h1 : ∀ x, ∀ u ∈ enc x, u.oneCell' = true)
    (kk : K e σ (Res.rowS E size enc v (l.take k ++ List.replicate (l.length - k) x0) :: F)) : OpOk X o e σ (Res.rowS E size enc v l :: F) K := by
  subst hm
  intro w a hw ha K' Q hK
  obtain ⟨hown, hone, hbg⟩ := hw.holds _ (List.mem_cons_self ..)
  have hlen : (l.take k ++ List.replicate (l.length - k) x0).length = l.length := by simp; omega
  obtain ⟨a', c', rfl, hn, hc⟩ := hv.sl
  by_cases hkl : k = l.length
  · subst hkl
    have e1 : l.take l.length ++ List.replicate (l.length - l.length) x0 = l := by simp
    rw [e1] at kk
    have hrun : (Builtin.clear_ #[T] o.type #[.slice a' (l.length - l.length) c']).run X.P w = .ok (.tuple #[]) w := by
      rw [Nat.sub_self]
      cases a' <;> simp [Builtin.clear_, run_underlying ht]
    refine Oper.wp_of_run (v := .tuple #[]) (w' := w) ?_ (hK _ _ _ _ _ kk hw (by rw [hd]; exact ha))
    rw [ha.eval']
    rw [Nat.sub_self] at hrun
    simp [execOp, ho, resolve, invoke, builtin, hx, hrun]
  · have hj : 0 < l.length - k := by omega
    have hel := hv.el 0 hj
    cases a' with
    | none => obtain ⟨h2, _⟩ := hn rfl; omega
    | some ad =>
      rcases id hown.2 with ⟨hvn, hmn⟩ | ⟨g, cap, cur, rfl, _⟩
      · omega
      · simp only [elem, Nat.zero_mul, Nat.add_zero] at hel
        have had : ad = ⟨g, k * size, none⟩ := by
          have h3 : (ad.add 0) = (⟨g, 0, none⟩ : Addr).add (k * size) := by injection hel with h; injection h
          rw [loc_add] at h3
          simpa [Addr.add] using h3
        subst had
        have hzl := zeroCells_flat (size := size) x0 hz0 hl (l.length - k) h0
        obtain ⟨w', hst, hown', hgr, hdr⟩ := World.ownsRow.spliced X.P hown (k := k * size) (vs := (List.replicate (l.length - k) x0).flatMap enc) (by rw [flatMap_len hl, flatMap_len hl, List.length_replicate, ← Nat.add_mul]; exact Nat.mul_le_mul_right _ (by omega)) (fun u hu => by
          obtain ⟨q, _, hq⟩ := List.mem_flatMap.1 hu
          exact h1 q u hq)
        rw [splice_end hl l k x0 hk] at hown'
        have hrun : (Builtin.clear_ #[T] o.type #[.slice (some ⟨g, k * size, none⟩) (l.length - k) c']).run X.P w = .ok (.tuple #[]) w' := by
          have hne : l.length - k ≠ 0 := by omega
          simp only [Builtin.clear_]
          simp [run_underlying ht, run_zeroValue hz, hzl, hst]
        have hR : Reach X.w0 X.C X.σ0 σ w' (Res.rowS E size enc (.slice (some ⟨g, 0, none⟩) l.length cap) (l.take k ++ List.replicate (l.length - k) x0) :: F) := by
          refine hw.turn1 (some g) (some g) rfl rfl hgr.os hgr.tape hgr.output hgr.size hdr (fun q hq hne => hgr.block q hq (fun hx => hne (by cases hx; rfl))) ?_ (fun q hq => .inl hq)
          show _ ∧ _ ∧ _
          rw [hlen]
          refine ⟨hown', fun u hu => ?_, hbg⟩
          obtain ⟨q, _, hq⟩ := List.mem_flatMap.1 hu
          exact h1 q u hq
        refine Oper.wp_of_run (v := .tuple #[]) (w' := w') ?_ (hK _ _ _ _ _ kk hR (by rw [hd]; exact ha))
        rw [ha.eval']
        simp [execOp, ho, resolve, invoke, builtin, hx, hrun]
/-! ### A part of an array variable, lent -/
theorem RS.ofCells {α : Type} {τ : Store} {b k m E : Nat} {cs : Array Value} {enc : α → List Value} {l : List α} (h : τ b = some (.cells cs E (0, 0))) (hl : ∀ x, (enc x).length = 1) (h1 : ∀ x, ∀ u ∈ enc x, u.oneCell' = true) (hk : (cs.toList.drop k).take m = l.flatMap enc) (hm : l.length = m) (hb : Nat.ble l.length 281474976710656 = true) : RS τ 1 enc (.slice (some ⟨b, k, none⟩) m m) l := by
  subst hm
  refine ⟨⟨⟨_, _, rfl, (fun h => by cases h), Nat.le_refl _⟩, flatMap_len hl l, ?_, fun u hu => ?_, Nat.le_of_ble_eq_true hb⟩, hl⟩
  · intro a m c hv j u hj
    cases hv
    rw [loc_add]
    unfold Store.cell
    simp only [h, Option.isSome_none, Bool.false_eq_true, if_false]
    rw [← hk, List.getElem?_take] at hj
    split at hj
    · rw [List.getElem?_drop, Array.getElem?_toList] at hj; exact hj
    · cases hj
  · obtain ⟨q, _, hq⟩ := List.mem_flatMap.1 hu
    exact h1 q u hq
theorem Con.lendC {P : Program} {f : FuncId} {args : Array Value} {σ : Store} {F : List Res} {r : Value} {b E : Nat} {cs : Array Value}
    (h : ∀ τ, σ.le τ → τ b = some (.cells cs E (0, 0)) → Con P f args τ F (KeepP r τ F)) : Con P f args σ (Res.cells b cs E :: F) (KeepP r σ (Res.cells b cs E :: F)) := by
  intro w hw
  have ho : w.heap[b]? = some (.cells cs E (0, 0)) := hw.holds _ (List.mem_cons_self ..)
  obtain ⟨h1, h2⟩ := hw.sealB (b := b) rfl ho
  have h3 : σ.with b (.cells cs E (0, 0)) b = some (.cells cs E (0, 0)) := by simp [Store.with]
  generalize σ.with b (.cells cs E (0, 0)) = τ at h1 h2 h3
  have h0 : Reach w (blks F) τ τ w F := ⟨rfl, rfl, rfl, Nat.le_refl _, fun _ _ _ => rfl, Store.le.refl _, h1.fit, fun b o hb => .inl hb, h1.holds, fun r hr b hb => .inl (mem_blks.2 ⟨r, hr, hb⟩), h1.nodup, h1.apart, Nat.le_refl _⟩
  refine (h τ h2 h3 w h0).mono fun ex w' ⟨r', σ', H', he, ⟨e1, e2, e3⟩, k⟩ => ?_
  subst e1 e2 e3
  refine ⟨r', σ, _, he, ⟨rfl, rfl, rfl⟩, ?_⟩
  have hb : b < w.heap.size ∧ b ∉ blks H' := by
    refine ⟨(Array.getElem?_eq_some_iff.1 ho).1, fun hx => ?_⟩
    have hnd := hw.nodup
    simp only [blks, List.flatMap_cons] at hnd
    exact (nodup_app.1 hnd).2.2 b (by simp [Res.cells]) hx
  have hframe : ∀ i, i < w.heap.size → i ∉ blks H' → w'.heap[i]? = w.heap[i]? := k.frame
  refine ⟨k.os, k.tape, k.output, k.size, ?_, Store.le.refl _, fun b o hs => k.fit b o (h2 b o hs), fun b o hs => .inl hs, ?_, ?_, ?_, ?_, k.drawn⟩
  · intro i hi hn
    refine hframe i hi fun hx => hn ?_
    obtain ⟨r2, hr2, hb2⟩ := mem_blks.1 hx
    exact mem_blks.2 ⟨r2, List.mem_cons_of_mem _ hr2, hb2⟩
  · intro r2 hr2
    rcases List.mem_cons.1 hr2 with rfl | hr2
    · exact (Res.cells b cs E).keep w w' (fun c hc => by rw [List.mem_singleton.1 hc]; exact hframe b hb.1 hb.2) ho
    · exact k.holds r2 hr2
  · intro r2 hr2 b hb2
    exact .inl (mem_blks.2 ⟨r2, hr2, hb2⟩)
  · exact hw.nodup
  · intro r2 hr2 b hb2
    exact hw.apart r2 hr2 b hb2
theorem OpVal.sliceArr {P : Program} {n : Nat} {e : Env} {σ : Store} {H : List Res} {o : Oper} {x : Operand} {T E m b k s : Nat} (ho : o.op = .slice T x none none none) (ht : P.underlying T = some (.array m E)) (hs : szOf P E = some s) (hx : ev e x = loc b k) : OpVal P n o e σ H (.slice (some ⟨b, k, none⟩) m m) := fun w _ => by
  have hsz := run_sizeOf (P := P) hs
  simp [execOp, ho, hx, loc, Instr.sliceAt, Instr.sureAddr, run_underlying ht, Instr.slice, Instr.sliceBounds, Instr.sliceBound, hsz, Addr.add]
theorem mem_pick {H B : List Res} (is : List Nat) (h : is.map (fun i => H[i]?) = B.map some) {r : Res} (hr : r ∈ B) : r ∈ H := by
  have h1 : some r ∈ B.map some := List.mem_map.2 ⟨r, hr, rfl⟩
  rw [← h] at h1
  obtain ⟨i, _, hi⟩ := List.mem_map.1 h1
  exact List.mem_of_getElem? hi
end Go.E
