/- The library's sort, by the kit's contract, in the engine's words. Plain lemmas over any program; no condition. -/
import Derived.Test.YtcidppnlhhkhhaaDec8
import Derived.Shelf.SlSortCmp.NoneTotal
set_option linter.unusedVariables false
set_option linter.unusedSimpArgs false
namespace Go.E
open Go Go.Sort Go.Proofs Go.Shelf

theorem Reach.grown {w w' : World} {σ : Store} {H : List Res} (h : Reach w [] (fun _ => none) σ w' H) : ∃ q os', w' = grow (w.drewN q) os' := by
  refine ⟨w'.drawn - w.drawn, w'.heap.extract w.heap.size w'.heap.size, ?_⟩
  have h1 : w'.heap = w.heap ++ w'.heap.extract w.heap.size w'.heap.size := by
    apply Array.ext_getElem?
    intro i
    rw [Array.getElem?_append]
    split
    · rename_i hi; exact h.frame i hi (by simp)
    · rename_i hi
      by_cases hl : i < w'.heap.size
      · rw [Array.getElem?_extract_of_lt (by omega)]; simp only [show w.heap.size + (i - w.heap.size) = i by omega]; exact Array.getElem?_eq_getElem hl
      · rw [Array.getElem?_eq_none (by omega), Array.getElem?_eq_none (by simp; omega)]
  have h2 := h.drawn
  cases w' with
  | mk heap tape drawn os output =>
    have e1 := h.os; have e2 := h.tape; have e3 := h.output
    simp only at h1 h2 e1 e2 e3
    simp only [grow, World.drewN]
    rw [World.mk.injEq]
    exact ⟨h1, e2, by omega, e1, e3⟩
theorem reach_nil (w : World) : Reach w [] (fun _ => none) (fun _ => none) w [] :=
  ⟨rfl, rfl, rfl, Nat.le_refl _, fun _ _ _ => rfl, Store.le.refl _, (fun _ _ h => by cases h), (fun _ _ h => by cases h), by simp, by simp, by simp [blks], by simp, Nat.le_refl _⟩

section
variable {α : Type} [Inhabited α] {P : Program}
theorem cmpLays1_of {g : Nat} {enc : α → Value} {cf : α → α → Int} {blk off size : Nat} {w : World} (h : ∀ x y τ, Con P g #[enc x, enc y] τ [] (PureP (.int .i64 (cf x y)) τ)) : CmpLays1 P g #[] enc cf blk off size w := by
  intro m os dk _ x y
  refine (h x y (fun _ => none) _ (reach_nil _)).mono fun e w' ⟨r, σ', H', he, ⟨hr, _, _⟩, k⟩ => ⟨by rw [he, hr], Reach.grown k⟩
theorem cmpLays_of {g k : Nat} {enc : α → List Value} {cf : α → α → Int} {blk off size : Nat} {w : World} (h : ∀ x y τ, Con P g #[.agg (enc x).toArray, .agg (enc y).toArray] τ [] (PureP (.int .i64 (cf x y)) τ)) : CmpLays P g #[] enc k cf blk off size w := by
  intro m os dk _ x y
  refine (h x y (fun _ => none) _ (reach_nil _)).mono fun e w' ⟨r, σ', H', he, ⟨hr, _, _⟩, k⟩ => ⟨by rw [he, hr], Reach.grown k⟩
end

theorem getBang {α : Type} [Inhabited α] (l : List α) (i : Nat) (h : i < l.length) : l.toArray[i]! = l[i] := by simp [h]
theorem Reach.sorted {w0 : World} {C : List Nat} {σ0 σ : Store} {w : World} {F : List Res} {E size n cap g m : Nat} {xs xs' : List Value} {os : Array Obj} (h : Reach w0 C σ0 σ w (Res.row E size (.slice (some ⟨g, 0, none⟩) n cap) n xs :: F)) (hl : xs'.length = xs.length) (h1 : ∀ u ∈ xs', u.oneCell' = true) :
    Reach w0 C σ0 σ (grow (putRow (id : Value → Value) (Sort.ahead w m) g 0 xs'.toArray) os) (Res.row E size (.slice (some ⟨g, 0, none⟩) n cap) n xs' :: F) := by
  obtain ⟨hown, hone, hbg⟩ := h.holds _ (List.mem_cons_self ..)
  obtain ⟨hlen, hc⟩ := hown
  rcases hc with ⟨hc, _⟩ | ⟨g', cap', cur, hv, hb0, hg, h3, h4, h5, h6⟩
  · cases hc
  cases hv
  have hgl : g < w.heap.size := (Array.getElem?_eq_some_iff.1 hg).1
  have hnew : (grow (putRow (id : Value → Value) (Sort.ahead w m) g 0 xs'.toArray) os).heap[g]? = some (.cells (putCells (id : Value → Value) 0 xs'.toArray cur) E) := by
    rw [heap_grow_old _ _ (by simpa using hgl)]
    simp [putRow, mapBlock, Sort.ahead, Array.getElem?_modify, hg, onCells]
  have hold : ∀ k, k < w.heap.size → k ≠ g → (grow (putRow (id : Value → Value) (Sort.ahead w m) g 0 xs'.toArray) os).heap[k]? = w.heap[k]? := by
    intro k hk hne
    rw [heap_grow_old _ _ (by simpa using hk)]
    have : g ≠ k := fun e => hne e.symm
    simp [putRow, mapBlock, Sort.ahead, Array.getElem?_modify, this]
  have hcur : xs.length ≤ cur.size := by
    have := congrArg List.length h6
    simp at this; omega
  refine h.turn1 (some g) (some g) rfl rfl rfl rfl rfl (by simp [grow]) (by simp [grow, putRow, mapBlock, Sort.ahead]) (fun k hk hne => hold k hk fun e => hne (by rw [e])) ⟨⟨by rw [hl]; exact hlen, .inr ⟨g, cap, _, rfl, hb0, hnew, h3, h4, by simp [putCells, h5], ?_⟩⟩, h1, hbg⟩ (fun b hb => .inl hb)
  apply List.ext_getElem?
  intro i
  by_cases hi : i < n * size
  · have hi2 : i < xs'.length := by rw [hl, hlen]; exact hi
    rw [List.getElem?_take_of_lt hi, Array.getElem?_toList]
    simp [putCells, hi2, show i < cur.size by omega]
  · rw [List.getElem?_take_eq_none (by omega), List.getElem?_eq_none (by omega)]
theorem holds_row {w : World} {E size n cap g : Nat} {xs : List Value} (h : w.ownsRow 0 E size (.slice (some ⟨g, 0, none⟩) n cap) n xs) : Holds (id : Value → Value) w g 0 xs.toArray ∧ g < w.heap.size := by
  obtain ⟨hlen, hc⟩ := h
  rcases hc with ⟨hc, _⟩ | ⟨g', cap', cur, hv, hb0, hg, h3, h4, h5, h6⟩
  · cases hc
  cases hv
  refine ⟨fun j hj => ?_, (Array.getElem?_eq_some_iff.1 hg).1⟩
  have hj' : j < xs.length := by simpa using hj
  refine ⟨?_, by simp [World.frozen?, hg]⟩
  have h7 : (cur.toList.take (n * size))[j]? = xs[j]? := by rw [h6]
  rw [List.getElem?_take_of_lt (by omega)] at h7
  simp only [World.cell?, hg, Nat.zero_add, Option.isSome_none, Bool.false_eq_true, if_false]
  rw [← Array.getElem?_toList, h7]
  simp [hj']
theorem putRow_id {α : Type} [Inhabited α] (enc : α → Value) (w : World) (g : Nat) (l : List α) : putRow enc w g 0 l.toArray = putRow (id : Value → Value) w g 0 (l.map enc).toArray := by
  unfold putRow
  congr 1
  funext c
  unfold putCells
  apply Array.ext_getElem?
  intro i
  simp only [Array.getElem?_mapIdx]
  cases hc : c[i]? with
  | none => rfl
  | some v =>
    simp only [Option.map_some, Nat.zero_le, true_and, Nat.zero_add, Nat.sub_zero, List.size_toArray, List.length_map]
    split
    · rename_i hi; simp [hi]
    · rfl
theorem flatK_list {α : Type} [Inhabited α] {enc : α → List Value} {k : Nat} (hk : ∀ x, (enc x).length = k) (l : List α) : flatK enc k l.toArray = (l.flatMap enc).toArray := by
  have hl : (l.flatMap enc).length = l.length * k := flatMap_len hk l
  refine ext_get! (by simp [hl]) fun t ht => ?_
  have ht' : t < l.length * k := by simpa using ht
  have k0 : 0 < k := by rcases Nat.eq_zero_or_pos k with h | h
                        · subst h; simp at ht'
                        · exact h
  have hd : t / k < l.length := Nat.div_lt_of_lt_mul (by rw [Nat.mul_comm]; exact ht')
  have hm : t % k < k := Nat.mod_lt _ k0
  rw [get_flatK _ _ _ _ (by simpa using ht'), getBang l _ hd]
  have h2 := flatMap_get hk l (t / k) (t % k) l[t / k] (List.getElem?_eq_getElem hd) hm
  rw [Nat.div_add_mod' t k] at h2
  have hb : t < (l.flatMap enc).toArray.size := by simpa [hl] using ht'
  have h3 : (l.flatMap enc).toArray[t]! = (enc l[t / k])[t % k]! := by
    rw [getElem!_pos (l.flatMap enc).toArray t hb]
    have h4 : (l.flatMap enc)[t]? = some ((l.flatMap enc).toArray[t]'hb) := by rw [← List.getElem?_toArray]; exact Array.getElem?_eq_getElem hb
    rw [h2] at h4
    have hlt : t % k < (enc l[t / k]).length := by rw [hk]; exact hm
    rw [List.getElem?_eq_getElem hlt, Option.some.injEq] at h4
    rw [getElem!_pos (enc l[t / k]) (t % k) hlt, h4]
  rw [h3]

/-- What the sort leaves. -/
def sortL {α : Type} (cf : α → α → Int) (l : List α) : List α := l.mergeSort fun x y => !decide (cf y x < 0)
def SortP {α : Type} (E size : Nat) (enc : α → List Value) (a : Option Addr) (c : Nat) (l l' : List α) (σ : Store) : Value → Store → List Res → Prop := fun v σ' H' => v = .tuple #[] ∧ σ = σ' ∧ H' = [Res.rowS E size enc (.slice a l.length c) l']
/-- An order that tells apart whatever is not the same. -/
structure TotalCmp {α : Type} (cf : α → α → Int) : Prop where
  swo : SWO (ltOf cf)
  tot : ∀ x y, ltOf cf x y = false → ltOf cf y x = false → x = y
section
variable {α : Type} [Inhabited α] {P : Program} {ρ : Ren}
theorem Con.sort1 (L : SlLaysF.n6 P ρ) (L0 : SlLaysF0.n6 P ρ) {enc : α → Value} {encL : α → List Value} {cf : α → α → Int} {f g E c : Nat} {a : Option Addr} {l : List α} {σ : Store} (hf : ρ.f 6 = f) (he : ∀ x, encL x = [enc x]) (h1 : OneCell enc) (hO : TotalCmp cf)
    (eg : ∀ args w, (callFunc g args).run P w = .ok (.enter g args) w) (hc : ∀ x y τ, Con P g #[enc x, enc y] τ [] (PureP (.int .i64 (cf x y)) τ)) :
    Con P f #[.slice a l.length c, .func (.func g) #[] #[]] σ [Res.rowS E 1 encL (.slice a l.length c) l] (SortP E 1 encL a c l (sortL cf l) σ) := by
  subst hf
  have hflat : ∀ l : List α, l.flatMap encL = l.map enc := fun l => by
    induction l with
    | nil => rfl
    | cons x l ih => rw [List.flatMap_cons, ih, he]; rfl
  have hlen : (sortL cf l).length = l.length := List.length_mergeSort _
  intro w hw
  obtain ⟨hown, hone, hbg⟩ := hw.holds _ (List.mem_cons_self ..)
  have hsl := isSl_row hown
  rcases id hown.2 with ⟨hn, hm⟩ | ⟨g', cap', cur, hv, hb0, hg, h3, h4, h5, h6⟩
  · have hl0 : l = [] := List.eq_nil_of_length_eq_zero hm
    subst hl0
    refine (AnyF.slices_SortFunc_none L0 a c (.func (.func g) #[] #[]) w).mono fun e w' ⟨h1, h2⟩ => ⟨_, σ, _, h1, ⟨rfl, rfl, rfl⟩, ?_⟩
    subst h2
    rw [show sortL cf ([] : List α) = [] from by simp [sortL]]
    exact hw
  · cases hv
    have hH := holds_row hown
    rw [hflat] at hH
    have hHe : Holds enc w g' 0 l.toArray := fun j hj => by
      have := hH.1 j (by simpa using hj)
      have hj' : j < l.length := by simpa using hj
      simpa [hj'] using this
    have hsz : l.toArray.size < 4611686018427387904 := by simp; omega
    have := Any.slices_SortFunc_total L enc h1 cf hO.swo g #[] g' 0 c l.toArray w eg (cmpLays1_of hc) hHe hH.2 hsz hO.tot
    refine this.mono fun e w' ⟨h7, n, os, h8⟩ => ⟨_, σ, _, h7, ⟨rfl, rfl, rfl⟩, ?_⟩
    subst h8
    have h9 : (l.toArray.toList.mergeSort fun x y => !(ltOf cf) y x) = sortL cf l := rfl
    rw [h9]
    unfold sortWorld
    rw [putRow_id]
    have := Reach.sorted (h := hw) (m := n) (os := os) (xs' := (sortL cf l).map enc) (by rw [hflat, List.length_map, List.length_map, hlen]) (fun u hu => by
      obtain ⟨x, _, rfl⟩ := List.mem_map.1 hu
      exact h1 x)
    unfold Res.rowS
    rw [hflat (sortL cf l), hlen]
    exact this
theorem Con.sortK (L : SlLaysF0.n6 P ρ) {k : Nat} {enc : α → List Value} {cf : α → α → Int} {f g E c : Nat} {a : Option Addr} {l : List α} {σ : Store} (hf : ρ.f 6 = f) (aE : ∀ w, (isAgg (ρ.t 24)).run P w = .ok true w) (zE : ∀ w, (Go.sizeOf (ρ.t 24)).run P w = .ok k w) (hk : ∀ x, (enc x).length = k) (h1 : ∀ x, ∀ u ∈ enc x, u.oneCell' = true) (hO : TotalCmp cf)
    (eg : ∀ args w, (callFunc g args).run P w = .ok (.enter g args) w) (hc : ∀ x y τ, Con P g #[.agg (enc x).toArray, .agg (enc y).toArray] τ [] (PureP (.int .i64 (cf x y)) τ)) :
    Con P f #[.slice a l.length c, .func (.func g) #[] #[]] σ [Res.rowS E k enc (.slice a l.length c) l] (SortP E k enc a c l (sortL cf l) σ) := by
  subst hf
  have hlen : (sortL cf l).length = l.length := List.length_mergeSort _
  intro w hw
  obtain ⟨hown, hone, hbg⟩ := hw.holds _ (List.mem_cons_self ..)
  rcases id hown.2 with ⟨hn, hm⟩ | ⟨g', cap', cur, hv, hb0, hg, h3, h4, h5, h6⟩
  · have hl0 : l = [] := List.eq_nil_of_length_eq_zero hm
    subst hl0
    refine (AnyF.slices_SortFunc_none L a c (.func (.func g) #[] #[]) w).mono fun e w' ⟨h1, h2⟩ => ⟨_, σ, _, h1, ⟨rfl, rfl, rfl⟩, ?_⟩
    subst h2
    rw [show sortL cf ([] : List α) = [] from by simp [sortL]]
    exact hw
  · cases hv
    have hH := holds_row hown
    have hHe : HoldsK enc k w g' 0 l.toArray := by
      unfold HoldsK; rw [flatK_list hk]; exact hH.1
    have hsz : l.toArray.size < 4611686018427387904 := by simp; omega
    have := AnyQ.slices_SortFunc_total L k aE zE enc hk h1 cf hO.swo g #[] g' 0 c l.toArray w eg (cmpLays_of hc) hHe hH.2 hsz hO.tot
    refine this.mono fun e w' ⟨h7, n, os, h8⟩ => ⟨_, σ, _, h7, ⟨rfl, rfl, rfl⟩, ?_⟩
    subst h8
    have h9 : (l.toArray.toList.mergeSort fun x y => !(ltOf cf) y x) = sortL cf l := rfl
    rw [h9]
    unfold sortWorldK putRowK
    rw [flatK_list hk]
    have := Reach.sorted (h := hw) (m := n) (os := os) (xs' := (sortL cf l).flatMap enc) (by rw [flatMap_len hk, flatMap_len hk, hlen]) (fun u hu => by
      obtain ⟨x, _, hx⟩ := List.mem_flatMap.1 hu
      exact h1 x u hx)
    unfold Res.rowS
    rw [hlen]
    exact this
end
end Go.E
