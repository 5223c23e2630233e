/- The library's sort of numbers, by the kit's contract, in the engine's words. Plain lemmas over any program; no condition. -/
import Derived.Test.YtcidppnlhhkhhaaDec9
import Derived.Shelf.Sort.Plain
import Derived.Shelf.Slices.In.SortNone
set_option linter.unusedVariables false
set_option linter.unusedSimpArgs false
namespace Go.E
open Go Go.Sort Go.Proofs Go.Shelf
theorem flat_encI (l : List Int) : l.flatMap Go.E.encI = l.map (Value.int .i64) := by
  induction l with
  | nil => rfl
  | cons x l ih => rw [List.flatMap_cons, ih]; rfl
theorem Con.sortInt {P : Program} {ρ : Ren} (L : Lays.n189 P ρ) {f E c : Nat} {a : Option Addr} {l : List Int} {σ : Store} (hf : ρ.f 189 = f) :
    Con P f #[.slice a l.length c] σ [Res.rowS E 1 Go.E.encI (.slice a l.length c) l] (SortP E 1 Go.E.encI a c l (l.mergeSort fun x y => decide (x ≤ y)) σ) := by
  subst hf
  have hlen : (l.mergeSort fun x y => decide (x ≤ y)).length = l.length := List.length_mergeSort _
  intro w hw
  obtain ⟨hown, hone, hbg⟩ := hw.holds _ (List.mem_cons_self ..)
  have hsl := isSl_row hown
  rcases id hown.2 with ⟨hn, hm⟩ | ⟨g', cap', cur, hv, hb0, hg, h3, h4, h5, h6⟩
  · have hl0 : l = [] := List.eq_nil_of_length_eq_zero hm
    subst hl0
    refine (Any.slices_Sort_int_none L a c w).mono fun e w' ⟨h1, h2⟩ => ⟨_, σ, _, h1, ⟨rfl, rfl, rfl⟩, ?_⟩
    subst h2
    rw [show (([] : List Int).mergeSort fun x y => decide (x ≤ y)) = [] from by simp]
    exact hw
  · cases hv
    have hH := holds_row hown
    rw [flat_encI] at hH
    have hHe : Holds (Value.int .i64) w g' 0 l.toArray := fun j hj => by
      have := hH.1 j (by simpa using hj)
      have hj' : j < l.length := by simpa using hj
      simpa [hj'] using this
    have hsz : l.length < 4611686018427387904 := by omega
    have := Any.slices_Sort_int L g' 0 c l w hHe hH.2 hsz
    refine this.mono fun e w' ⟨h7, n, os, h8⟩ => ⟨_, σ, _, h7, ⟨rfl, rfl, rfl⟩, ?_⟩
    subst h8
    rw [putRow_id]
    have := Reach.sorted (h := hw) (m := n) (os := os) (xs' := (l.mergeSort fun x y => decide (x ≤ y)).map (Value.int .i64)) (by rw [flat_encI, List.length_map, List.length_map, hlen]) (fun u hu => by
      obtain ⟨x, _, rfl⟩ := List.mem_map.1 hu
      rfl)
    unfold Res.rowS
    rw [flat_encI (l.mergeSort fun x y => decide (x ≤ y)), hlen]
    exact this
theorem OpVal.minI {P : Program} {n : Nat} {e : Env} {σ : Store} {H : List Res} {o : Oper} {x y : Operand} {ts : Array TypeId} {k k' : IntKind} {a b : Int} (ho : o.op = .call { callee := .builtin .min, args := #[x, y], argTypes := ts }) (hx : ev e x = .int k a) (hy : ev e y = .int k' b) : OpVal P n o e σ H (.int k (min a b)) := fun w _ => by
  have h : (if b < a then b else a) = min a b := by rw [Int.min_def]; split <;> split <;> omega
  simp [execOp, ho, resolve, invoke, builtin, hx, hy, Builtin.min_, Builtin.min2, h]
theorem OpVal.maxI {P : Program} {n : Nat} {e : Env} {σ : Store} {H : List Res} {o : Oper} {x y : Operand} {ts : Array TypeId} {k k' : IntKind} {a b : Int} (ho : o.op = .call { callee := .builtin .max, args := #[x, y], argTypes := ts }) (hx : ev e x = .int k a) (hy : ev e y = .int k' b) : OpVal P n o e σ H (.int k (max a b)) := fun w _ => by
  have h : (if a < b then b else a) = max a b := by rw [Int.max_def]; split <;> split <;> omega
  simp [execOp, ho, resolve, invoke, builtin, hx, hy, Builtin.max_, Builtin.max2, h]
/-- make with no element and some room. -/
theorem OpOk.make0S {X : Ctx} {e : Env} {σ : Store} {H : List Res} {o : Oper} {x y : Operand} {K : Env → Store → List Res → Prop} {α : Type} {T E size by_ d m : Nat} {kl kc : IntKind} {enc : α → List Value} {z : Value} (ho : o.op = .makeSlice T x y) (ht : X.P.underlying T = some (.slice E)) (hs : szOf X.P E = some size) (hby : byOf X.P E = some by_) (hz : zeroOf X.P E = some z)
    (hd : o.dst = some d) (hn : Nat.blt d X.n = true) (hx : ev e x = .int kl 0) (hy : ev e y = .int kc (m : Nat)) (hb : by_ * m ≤ 281474976710656) (hby0 : 0 < by_)
    (k : ∀ a c, K (upd e d (.slice a ([] : List α).length c)) σ (Res.rowS E size enc (.slice a ([] : List α).length c) [] :: H)) : OpOk X o e σ H K := OpOk.make0 ho ht hs hby hz hd hn hx hy hb hby0 k
/-! ### A slice of one's own, lent to a call that hands back what is new -/
theorem Con.lendG {P : Program} {f : FuncId} {args : Array Value} {σ : Store} {F : List Res} {v : Value} {α : Type} {E size : Nat} {enc : α → List Value} {l : List α} {Post : Store → Value → Store → List Res → Prop} (hl : ∀ x, (enc x).length = size)
    (hP : ∀ τ τ' r σ' H', Post τ r σ' H' → σ' = τ ∧ Post τ' r τ' H') (h : ∀ τ, σ.le τ → RS τ size enc v l → Con P f args τ F (Post τ)) : Con P f args σ (Res.rowS E size enc v l :: F) (fun r σ' H' => ∃ H'', Post σ r σ' H'' ∧ H' = H'' ++ [Res.rowS E size enc v l]) := by
  intro w hw
  obtain ⟨τ, h1, h2, h3⟩ := hw.sealRow
  have h0 : Reach w (blks F) τ τ w F := ⟨rfl, rfl, rfl, Nat.le_refl _, fun _ _ _ => rfl, Store.le.refl _, h1.fit, fun b o hb => .inl hb, h1.holds, fun r hr b hb => .inl (mem_blks.2 ⟨r, hr, hb⟩), h1.nodup, h1.apart, Nat.le_refl _⟩
  refine (h τ h2 ⟨h3, hl⟩ w h0).mono fun ex w' ⟨r', σ', H', he, hp, k⟩ => ?_
  obtain ⟨e2, hp'⟩ := hP τ σ r' σ' H' hp
  subst e2
  refine ⟨r', σ, _, he, ⟨H', hp', rfl⟩, ?_⟩
  have hb : ∀ b, b ∈ (Res.rowS E size enc v l).bl → b < w.heap.size ∧ b ∉ blks F := fun b hb => by
    refine ⟨hw.block_lt (List.mem_cons_self ..) hb, fun hx => ?_⟩
    have hnd := hw.nodup
    simp only [blks, List.flatMap_cons] at hnd
    exact (nodup_app.1 hnd).2.2 b hb hx
  have hF : ∀ b, b ∈ blks F → b ∈ blks (Res.rowS E size enc v l :: F) := fun b hx => by
    obtain ⟨r2, hr2, hb2⟩ := mem_blks.1 hx
    exact mem_blks.2 ⟨r2, List.mem_cons_of_mem _ hr2, hb2⟩
  have hframe : ∀ i, i < w.heap.size → i ∉ blks F → w'.heap[i]? = w.heap[i]? := k.frame
  refine ⟨k.os, k.tape, k.output, k.size, fun i hi hn => hframe i hi fun hx => hn (hF i hx), Store.le.refl _, fun b o hs => k.fit b o (h2 b o hs), fun b o hs => .inl hs, ?_, ?_, ?_, ?_, k.drawn⟩
  · intro r2 hr2
    rcases List.mem_append.1 hr2 with hr2 | hr2
    · exact k.holds r2 hr2
    · rw [List.mem_singleton.1 hr2]
      exact (Res.rowS E size enc v l).keep w w' (fun b hbb => hframe b (hb b hbb).1 (hb b hbb).2) (hw.holds _ (List.mem_cons_self ..))
  · intro r2 hr2 b hb2
    rcases List.mem_append.1 hr2 with hr2 | hr2
    · exact (k.own r2 hr2 b hb2).imp (hF b) id
    · rw [List.mem_singleton.1 hr2] at hb2
      exact .inl (mem_blks.2 ⟨_, List.mem_cons_self .., hb2⟩)
  · have e : blks (H' ++ [Res.rowS E size enc v l]) = blks H' ++ (Res.rowS E size enc v l).bl := by simp [blks, List.flatMap_append]
    rw [e, nodup_app]
    refine ⟨k.nodup, ?_, fun b hx hy => ?_⟩
    · have hnd := hw.nodup
      simp only [blks, List.flatMap_cons] at hnd
      exact (nodup_app.1 hnd).1
    · obtain ⟨r2, hr2, hb2⟩ := mem_blks.1 hx
      have := hb b hy
      rcases k.own r2 hr2 b hb2 with h4 | h4
      · exact this.2 h4
      · omega
  · intro r2 hr2 b hb2
    rcases List.mem_append.1 hr2 with hr2 | hr2
    · cases hs : σ b with
      | none => rfl
      | some o => have := k.apart r2 hr2 b hb2; rw [h2 b o hs] at this; cases this
    · rw [List.mem_singleton.1 hr2] at hb2
      exact hw.apart _ (List.mem_cons_self ..) b hb2
theorem RowP.lend {α : Type} {E size : Nat} {enc : α → List Value} {l : List α} : ∀ τ τ' r σ' H', RowP E size enc l τ r σ' H' → σ' = τ ∧ RowP E size enc l τ' r τ' H' := fun _ _ _ _ _ h => ⟨h.2.1, h.1, rfl, h.2.2⟩
end Go.E
