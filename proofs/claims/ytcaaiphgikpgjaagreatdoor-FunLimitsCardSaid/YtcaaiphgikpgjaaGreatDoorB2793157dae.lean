/- Parts of a proof, one behind the other: what a machine reaches, functions decompiled, plain lemmas. Conditions stand with each lemma. -/
import Derived.Test.YtcaaiphgikpgjaaGreatDoorB7a4fe0d455
import Derived.Shelf.SlSortCmp.NoneTotal
import Derived.Shelf.Sort.Plain
import Derived.Shelf.Slices.In.SortNone
import Derived.Test.YtcaaiphgikpgjaaGreatDoorProg
import Derived.Test.YtcaaiphgikpgjaaGreatDoorChecked

set_option linter.unusedVariables false
set_option linter.unusedSimpArgs false
set_option linter.unusedSectionVars false
set_option maxRecDepth 100000

section
namespace Go.E
open Go Go.Sort Go.Proofs Go.Shelf
theorem Reach.grown {w w' : World} {σ : Store} {H : List Res} (h : Reach w [] (fun _ => none) σ w' H) : ∃ q os', w' = grow (w.drewN q) os' := by
  refine ⟨w'.drawn - w.drawn, w'.heap.extract w.heap.size w'.heap.size, ?_⟩
  have h1 : w'.heap = w.heap ++ w'.heap.extract w.heap.size w'.heap.size := by
    apply Array.ext_getElem?
    intro i
    rw [Array.getElem?_append]
    split
    · rename_i hi; exact h.frame i hi (by simp)
    · rename_i hi
      by_cases hl : i < w'.heap.size
      · rw [Array.getElem?_extract_of_lt (by omega)]; simp only [show w.heap.size + (i - w.heap.size) = i by omega]; exact Array.getElem?_eq_getElem hl
      · rw [Array.getElem?_eq_none (by omega), Array.getElem?_eq_none (by simp; omega)]
  have h2 := h.drawn
  cases w' with
  | mk heap tape drawn os output =>
    have e1 := h.os; have e2 := h.tape; have e3 := h.output
    simp only at h1 h2 e1 e2 e3
    simp only [grow, World.drewN]
    rw [World.mk.injEq]
    exact ⟨h1, e2, by omega, e1, e3⟩
theorem reach_nil (w : World) : Reach w [] (fun _ => none) (fun _ => none) w [] :=
  ⟨rfl, rfl, rfl, Nat.le_refl _, fun _ _ _ => rfl, Store.le.refl _, (fun _ _ h => by cases h), (fun _ _ h => by cases h), by simp, by simp, by simp [blks], by simp, Nat.le_refl _⟩
section
variable {α : Type} [Inhabited α] {P : Program}
theorem cmpLays1_of {g : Nat} {enc : α → Value} {cf : α → α → Int} {blk off size : Nat} {w : World} (h : ∀ x y τ, Con P g #[enc x, enc y] τ [] (PureP (.int .i64 (cf x y)) τ)) : CmpLays1 P g #[] enc cf blk off size w := by
  intro m os dk _ x y
  refine (h x y (fun _ => none) _ (reach_nil _)).mono fun e w' ⟨r, σ', H', he, ⟨hr, _, _⟩, k⟩ => ⟨by rw [he, hr], Reach.grown k⟩
theorem cmpLays_of {g k : Nat} {enc : α → List Value} {cf : α → α → Int} {blk off size : Nat} {w : World} (h : ∀ x y τ, Con P g #[.agg (enc x).toArray, .agg (enc y).toArray] τ [] (PureP (.int .i64 (cf x y)) τ)) : CmpLays P g #[] enc k cf blk off size w := by
  intro m os dk _ x y
  refine (h x y (fun _ => none) _ (reach_nil _)).mono fun e w' ⟨r, σ', H', he, ⟨hr, _, _⟩, k⟩ => ⟨by rw [he, hr], Reach.grown k⟩
end
theorem getBang {α : Type} [Inhabited α] (l : List α) (i : Nat) (h : i < l.length) : l.toArray[i]! = l[i] := by simp [h]
theorem Reach.sorted {w0 : World} {C : List Nat} {σ0 σ : Store} {w : World} {F : List Res} {E size n cap g m : Nat} {xs xs' : List Value} {os : Array Obj} (h : Reach w0 C σ0 σ w (Res.row E size (.slice (some ⟨g, 0, none⟩) n cap) n xs :: F)) (hl : xs'.length = xs.length) (h1 : ∀ u ∈ xs', u.oneCell' = true) :
    Reach w0 C σ0 σ (grow (putRow (id : Value → Value) (Sort.ahead w m) g 0 xs'.toArray) os) (Res.row E size (.slice (some ⟨g, 0, none⟩) n cap) n xs' :: F) := by
  obtain ⟨hown, hone, hbg⟩ := h.holds _ (List.mem_cons_self ..)
  obtain ⟨hlen, hc⟩ := hown
  rcases hc with ⟨hc, _⟩ | ⟨g', cap', cur, hv, hb0, hg, h3, h4, h5, h6⟩
  · cases hc
  cases hv
  have hgl : g < w.heap.size := (Array.getElem?_eq_some_iff.1 hg).1
  have hnew : (grow (putRow (id : Value → Value) (Sort.ahead w m) g 0 xs'.toArray) os).heap[g]? = some (.cells (putCells (id : Value → Value) 0 xs'.toArray cur) E) := by
    rw [heap_grow_old _ _ (by simpa using hgl)]
    simp [putRow, mapBlock, Sort.ahead, Array.getElem?_modify, hg, onCells]
  have hold : ∀ k, k < w.heap.size → k ≠ g → (grow (putRow (id : Value → Value) (Sort.ahead w m) g 0 xs'.toArray) os).heap[k]? = w.heap[k]? := by
    intro k hk hne
    rw [heap_grow_old _ _ (by simpa using hk)]
    have : g ≠ k := fun e => hne e.symm
    simp [putRow, mapBlock, Sort.ahead, Array.getElem?_modify, this]
  have hcur : xs.length ≤ cur.size := by
    have := congrArg List.length h6
    simp at this; omega
  refine h.turn1 (some g) (some g) rfl rfl rfl rfl rfl (by simp [grow]) (by simp [grow, putRow, mapBlock, Sort.ahead]) (fun k hk hne => hold k hk fun e => hne (by rw [e])) ⟨⟨by rw [hl]; exact hlen, .inr ⟨g, cap, _, rfl, hb0, hnew, h3, h4, by simp [putCells, h5], ?_⟩⟩, h1, hbg⟩ (fun b hb => .inl hb)
  apply List.ext_getElem?
  intro i
  by_cases hi : i < n * size
  · have hi2 : i < xs'.length := by rw [hl, hlen]; exact hi
    rw [List.getElem?_take_of_lt hi, Array.getElem?_toList]
    simp [putCells, hi2, show i < cur.size by omega]
  · rw [List.getElem?_take_eq_none (by omega), List.getElem?_eq_none (by omega)]
theorem holds_row {w : World} {E size n cap g : Nat} {xs : List Value} (h : w.ownsRow 0 E size (.slice (some ⟨g, 0, none⟩) n cap) n xs) : Holds (id : Value → Value) w g 0 xs.toArray ∧ g < w.heap.size := by
  obtain ⟨hlen, hc⟩ := h
  rcases hc with ⟨hc, _⟩ | ⟨g', cap', cur, hv, hb0, hg, h3, h4, h5, h6⟩
  · cases hc
  cases hv
  refine ⟨fun j hj => ?_, (Array.getElem?_eq_some_iff.1 hg).1⟩
  have hj' : j < xs.length := by simpa using hj
  refine ⟨?_, by simp [World.frozen?, hg]⟩
  have h7 : (cur.toList.take (n * size))[j]? = xs[j]? := by rw [h6]
  rw [List.getElem?_take_of_lt (by omega)] at h7
  simp only [World.cell?, hg, Nat.zero_add, Option.isSome_none, Bool.false_eq_true, if_false]
  rw [← Array.getElem?_toList, h7]
  simp [hj']
theorem putRow_id {α : Type} [Inhabited α] (enc : α → Value) (w : World) (g : Nat) (l : List α) : putRow enc w g 0 l.toArray = putRow (id : Value → Value) w g 0 (l.map enc).toArray := by
  unfold putRow
  congr 1
  funext c
  unfold putCells
  apply Array.ext_getElem?
  intro i
  simp only [Array.getElem?_mapIdx]
  cases hc : c[i]? with
  | none => rfl
  | some v =>
    simp only [Option.map_some, Nat.zero_le, true_and, Nat.zero_add, Nat.sub_zero, List.size_toArray, List.length_map]
    split
    · rename_i hi; simp [hi]
    · rfl
theorem flatK_list {α : Type} [Inhabited α] {enc : α → List Value} {k : Nat} (hk : ∀ x, (enc x).length = k) (l : List α) : flatK enc k l.toArray = (l.flatMap enc).toArray := by
  have hl : (l.flatMap enc).length = l.length * k := flatMap_len hk l
  refine ext_get! (by simp [hl]) fun t ht => ?_
  have ht' : t < l.length * k := by simpa using ht
  have k0 : 0 < k := by rcases Nat.eq_zero_or_pos k with h | h
                        · subst h; simp at ht'
                        · exact h
  have hd : t / k < l.length := Nat.div_lt_of_lt_mul (by rw [Nat.mul_comm]; exact ht')
  have hm : t % k < k := Nat.mod_lt _ k0
  rw [get_flatK _ _ _ _ (by simpa using ht'), getBang l _ hd]
  have h2 := flatMap_get hk l (t / k) (t % k) l[t / k] (List.getElem?_eq_getElem hd) hm
  rw [Nat.div_add_mod' t k] at h2
  have hb : t < (l.flatMap enc).toArray.size := by simpa [hl] using ht'
  have h3 : (l.flatMap enc).toArray[t]! = (enc l[t / k])[t % k]! := by
    rw [getElem!_pos (l.flatMap enc).toArray t hb]
    have h4 : (l.flatMap enc)[t]? = some ((l.flatMap enc).toArray[t]'hb) := by rw [← List.getElem?_toArray]; exact Array.getElem?_eq_getElem hb
    rw [h2] at h4
    have hlt : t % k < (enc l[t / k]).length := by rw [hk]; exact hm
    rw [List.getElem?_eq_getElem hlt, Option.some.injEq] at h4
    rw [getElem!_pos (enc l[t / k]) (t % k) hlt, h4]
  rw [h3]
def sortL {α : Type} (cf : α → α → Int) (l : List α) : List α := l.mergeSort fun x y => !decide (cf y x < 0)
def SortP {α : Type} (E size : Nat) (enc : α → List Value) (a : Option Addr) (c : Nat) (l l' : List α) (σ : Store) : Value → Store → List Res → Prop := fun v σ' H' => v = .tuple #[] ∧ σ = σ' ∧ H' = [Res.rowS E size enc (.slice a l.length c) l']
structure TotalCmp {α : Type} (cf : α → α → Int) : Prop where
  swo : SWO (ltOf cf)
  tot : ∀ x y, ltOf cf x y = false → ltOf cf y x = false → x = y
section
variable {α : Type} [Inhabited α] {P : Program} {ρ : Ren}
theorem Con.sort1 (L : SlLaysF.n6 P ρ) (L0 : SlLaysF0.n6 P ρ) {enc : α → Value} {encL : α → List Value} {cf : α → α → Int} {f g E c : Nat} {a : Option Addr} {l : List α} {σ : Store} (hf : ρ.f 6 = f) (he : ∀ x, encL x = [enc x]) (h1 : OneCell enc) (hO : TotalCmp cf)
    (eg : ∀ args w, (callFunc g args).run P w = .ok (.enter g args) w) (hc : ∀ x y τ, Con P g #[enc x, enc y] τ [] (PureP (.int .i64 (cf x y)) τ)) :
    Con P f #[.slice a l.length c, .func (.func g) #[] #[]] σ [Res.rowS E 1 encL (.slice a l.length c) l] (SortP E 1 encL a c l (sortL cf l) σ) := by
  subst hf
  have hflat : ∀ l : List α, l.flatMap encL = l.map enc := fun l => by
    induction l with
    | nil => rfl
    | cons x l ih => rw [List.flatMap_cons, ih, he]; rfl
  have hlen : (sortL cf l).length = l.length := List.length_mergeSort _
  intro w hw
  obtain ⟨hown, hone, hbg⟩ := hw.holds _ (List.mem_cons_self ..)
  have hsl := isSl_row hown
  rcases id hown.2 with ⟨hn, hm⟩ | ⟨g', cap', cur, hv, hb0, hg, h3, h4, h5, h6⟩
  · have hl0 : l = [] := List.eq_nil_of_length_eq_zero hm
    subst hl0
    refine (AnyF.slices_SortFunc_none L0 a c (.func (.func g) #[] #[]) w).mono fun e w' ⟨h1, h2⟩ => ⟨_, σ, _, h1, ⟨rfl, rfl, rfl⟩, ?_⟩
    subst h2
    rw [show sortL cf ([] : List α) = [] from by simp [sortL]]
    exact hw
  · cases hv
    have hH := holds_row hown
    rw [hflat] at hH
    have hHe : Holds enc w g' 0 l.toArray := fun j hj => by
      have := hH.1 j (by simpa using hj)
      have hj' : j < l.length := by simpa using hj
      simpa [hj'] using this
    have hsz : l.toArray.size < 4611686018427387904 := by simp; omega
    have := Any.slices_SortFunc_total L enc h1 cf hO.swo g #[] g' 0 c l.toArray w eg (cmpLays1_of hc) hHe hH.2 hsz hO.tot
    refine this.mono fun e w' ⟨h7, n, os, h8⟩ => ⟨_, σ, _, h7, ⟨rfl, rfl, rfl⟩, ?_⟩
    subst h8
    have h9 : (l.toArray.toList.mergeSort fun x y => !(ltOf cf) y x) = sortL cf l := rfl
    rw [h9]
    unfold sortWorld
    rw [putRow_id]
    have := Reach.sorted (h := hw) (m := n) (os := os) (xs' := (sortL cf l).map enc) (by rw [hflat, List.length_map, List.length_map, hlen]) (fun u hu => by
      obtain ⟨x, _, rfl⟩ := List.mem_map.1 hu
      exact h1 x)
    unfold Res.rowS
    rw [hflat (sortL cf l), hlen]
    exact this
theorem Con.sortK (L : SlLaysF0.n6 P ρ) {k : Nat} {enc : α → List Value} {cf : α → α → Int} {f g E c : Nat} {a : Option Addr} {l : List α} {σ : Store} (hf : ρ.f 6 = f) (aE : ∀ w, (isAgg (ρ.t 24)).run P w = .ok true w) (zE : ∀ w, (Go.sizeOf (ρ.t 24)).run P w = .ok k w) (hk : ∀ x, (enc x).length = k) (h1 : ∀ x, ∀ u ∈ enc x, u.oneCell' = true) (hO : TotalCmp cf)
    (eg : ∀ args w, (callFunc g args).run P w = .ok (.enter g args) w) (hc : ∀ x y τ, Con P g #[.agg (enc x).toArray, .agg (enc y).toArray] τ [] (PureP (.int .i64 (cf x y)) τ)) :
    Con P f #[.slice a l.length c, .func (.func g) #[] #[]] σ [Res.rowS E k enc (.slice a l.length c) l] (SortP E k enc a c l (sortL cf l) σ) := by
  subst hf
  have hlen : (sortL cf l).length = l.length := List.length_mergeSort _
  intro w hw
  obtain ⟨hown, hone, hbg⟩ := hw.holds _ (List.mem_cons_self ..)
  rcases id hown.2 with ⟨hn, hm⟩ | ⟨g', cap', cur, hv, hb0, hg, h3, h4, h5, h6⟩
  · have hl0 : l = [] := List.eq_nil_of_length_eq_zero hm
    subst hl0
    refine (AnyF.slices_SortFunc_none L a c (.func (.func g) #[] #[]) w).mono fun e w' ⟨h1, h2⟩ => ⟨_, σ, _, h1, ⟨rfl, rfl, rfl⟩, ?_⟩
    subst h2
    rw [show sortL cf ([] : List α) = [] from by simp [sortL]]
    exact hw
  · cases hv
    have hH := holds_row hown
    have hHe : HoldsK enc k w g' 0 l.toArray := by
      unfold HoldsK; rw [flatK_list hk]; exact hH.1
    have hsz : l.toArray.size < 4611686018427387904 := by simp; omega
    have := AnyQ.slices_SortFunc_total L k aE zE enc hk h1 cf hO.swo g #[] g' 0 c l.toArray w eg (cmpLays_of hc) hHe hH.2 hsz hO.tot
    refine this.mono fun e w' ⟨h7, n, os, h8⟩ => ⟨_, σ, _, h7, ⟨rfl, rfl, rfl⟩, ?_⟩
    subst h8
    have h9 : (l.toArray.toList.mergeSort fun x y => !(ltOf cf) y x) = sortL cf l := rfl
    rw [h9]
    unfold sortWorldK putRowK
    rw [flatK_list hk]
    have := Reach.sorted (h := hw) (m := n) (os := os) (xs' := (sortL cf l).flatMap enc) (by rw [flatMap_len hk, flatMap_len hk, hlen]) (fun u hu => by
      obtain ⟨x, _, hx⟩ := List.mem_flatMap.1 hu
      exact h1 x u hx)
    unfold Res.rowS
    rw [hlen]
    exact this
end
end Go.E
end

section
namespace Go.E
open Go Go.Sort Go.Proofs Go.Shelf
theorem flat_encI (l : List Int) : l.flatMap Go.E.encI = l.map (Value.int .i64) := by
  induction l with
  | nil => rfl
  | cons x l ih => rw [List.flatMap_cons, ih]; rfl
theorem OpVal.minI {P : Program} {n : Nat} {e : Env} {σ : Store} {H : List Res} {o : Oper} {x y : Operand} {ts : Array TypeId} {k k' : IntKind} {a b : Int} (ho : o.op = .call { callee := .builtin .min, args := #[x, y], argTypes := ts }) (hx : ev e x = .int k a) (hy : ev e y = .int k' b) : OpVal P n o e σ H (.int k (min a b)) := fun w _ => by
  have h : (if b < a then b else a) = min a b := by rw [Int.min_def]; split <;> split <;> omega
  simp [execOp, ho, resolve, invoke, builtin, hx, hy, Builtin.min_, Builtin.min2, h]
end Go.E
end

section
namespace Go.Proofs.YtcaaiphgikpgjaaGreatDoor
open Go Go.E
end Go.Proofs.YtcaaiphgikpgjaaGreatDoor
end

section
namespace Go.Proofs.YtcaaiphgikpgjaaGreatDoor
open Go
theorem ag26 : Go.E.aggOf Tryz.prog 26 = some false := by kernel_rfl
theorem ag3 : Go.E.aggOf Tryz.prog 3 = some false := by kernel_rfl
theorem ag5 : Go.E.aggOf Tryz.prog 5 = some false := by kernel_rfl
theorem ag55 : Go.E.aggOf Tryz.prog 55 = some false := by kernel_rfl
theorem ag57 : Go.E.aggOf Tryz.prog 57 = some true := by kernel_rfl
theorem by3 : Go.E.byOf Tryz.prog 3 = some 8 := by kernel_rfl
theorem eg57 : Tryz.prog.eqGuardType Tryz.prog.depth 57 = false := by kernel_rfl
theorem pf73 : Go.E.plainF Tryz.prog 73 = true := by kernel_rfl
theorem sz3 : Go.E.szOf Tryz.prog 3 = some 1 := by kernel_rfl
theorem sz5 : Go.E.szOf Tryz.prog 5 = some 1 := by kernel_rfl
theorem sz55 : Go.E.szOf Tryz.prog 55 = some 1 := by kernel_rfl
theorem sz57 : Go.E.szOf Tryz.prog 57 = some 4 := by kernel_rfl
theorem ze3 : Go.E.zeroOf Tryz.prog 3 = some (.int .i64 0) := by kernel_rfl
theorem ze57 : Go.E.zeroOf Tryz.prog 57 = some (.agg #[.int .u64 0, .int .u64 0, .int .u64 0, .int .u64 0]) := by kernel_rfl
end Go.Proofs.YtcaaiphgikpgjaaGreatDoor
end

section
namespace Go.Proofs.YtcaaiphgikpgjaaGreatDoor
open Go Go.E
theorem and_one (a : Nat) : a &&& 1 = a % 2 := Nat.and_one_is_mod a
theorem has_con (σ : Store) (s : BSet) (b : Nat) (hs : s.ok) (hb : b < 256) : Con Tryz.prog 54 #[setV s, .int .u8 (b : Nat)] σ [] (PureP (.bool (s.has b)) σ) := by
  have hw : s.word (b / 64) < 18446744073709551616 := BSet.word_lt hs _
  have hw2 : s.word (b / 64) / 2 ^ (b % 64) < 18446744073709551616 := Nat.lt_of_le_of_lt (Nat.div_le_self _ _) hw
  refine Con.mk (n := 14) Tryz.func54 rfl rfl rfl (fun w0 => ?_)
  refine TC.seq ?_
  refine TC.region ?_
  refine TL.op rfl (OpOk.boxA rfl rfl rfl rfl (fun b1 => ?_))
  refine TL.v rfl (OpVal.moveB (.inr rfl) rfl) rfl rfl ?_
  refine TL.nil ?_
  refine S.n ?_
  refine TC.seq ?_
  refine TC.region ?_
  refine TL.v rfl (OpVal.moveI (.inl rfl) rfl) rfl rfl ?_
  refine TL.v rfl (OpVal.quoN (b := 64) rfl rfl rfl (by omega) (by simp only [kmax]; omega)) rfl rfl ?_
  refine TL.v rfl (OpVal.indexArrN rfl Tryz.underlying57 sz55 rfl rfl (by omega)) rfl rfl ?_
  refine TL.v rfl (OpVal.loadWord rfl ag55 rfl (j := 0) rfl (by omega)) rfl rfl ?_
  refine TL.v rfl (OpVal.moveI (.inl rfl) rfl) rfl rfl ?_
  refine TL.v rfl (OpVal.remN (b := 64) rfl rfl rfl (by omega)) rfl rfl ?_
  refine TL.v rfl (OpVal.shrN rfl rfl rfl (by show _ < 64; omega)) rfl rfl ?_
  refine TL.v rfl (OpVal.andN (b := 1) rfl rfl rfl (by omega) (by omega)) rfl rfl ?_
  refine TL.v rfl (OpVal.eqlN (b := 1) rfl rfl rfl) rfl rfl ?_
  refine TL.v rfl (OpVal.moveB (.inr rfl) rfl) rfl rfl ?_
  refine TL.nil ?_
  refine S.n ?_
  refine TC.ret ?_
  -- leaf 1 ret [] H=['q2']
  refine ret1P rfl (congrArg Value.bool ?_)
  unfold BSet.has; rw [decide_eq_decide, and_one]
theorem power_con (σ : Store) (k : Nat) (hk : k < 64) : Con Tryz.prog 73 #[.int .i64 (k : Nat)] σ [] (PureP (.int .u64 ((2 ^ k : Nat) : Int)) σ) := by
  have hp : ∀ i, i < k → 2 * 2 ^ i < 18446744073709551616 := fun i hi => by
    have : 2 * 2 ^ i = 2 ^ (i + 1) := by rw [Nat.pow_succ]; omega
    rw [this]
    exact Nat.lt_of_le_of_lt (Nat.pow_le_pow_right (by omega) (show i + 1 ≤ 63 by omega)) (by decide)
  refine Con.mk (n := 13) Tryz.func73 rfl rfl rfl (fun w0 => ?_)
  refine TC.seq ?_
  refine TC.region ?_
  refine TL.v rfl (OpVal.moveI (.inr rfl) rfl) rfl rfl ?_
  refine TL.nil ?_
  refine S.n ?_
  refine TC.seq ?_
  refine TC.region ?_
  refine TL.v rfl (OpVal.moveI (.inr rfl) rfl) rfl rfl ?_
  refine TL.nil ?_
  refine S.n ?_
  refine TC.seq ?_
  refine TC.seq ?_
  refine TC.region ?_
  refine TL.v rfl (OpVal.moveI (.inr rfl) rfl) rfl rfl ?_
  refine TL.nil ?_
  refine S.n ?_
  refine TC.block ?_
  refine TC.loopF (α := Nat) [3, 4, 5, 6, 7, 8, 9, 10, 11] (fun i => [(3, .int .u64 ((2 ^ i : Nat) : Int)), (4, .int .i64 (i : Nat))]) (fun _ => _) (fun _ => _) (fun i => i ≤ k) (fun i => k - i) (0) (by first | exact True.intro | omega | (dsimp only; omega) | (simp; done) | (simp; omega)) (by repeat (first | exact trivial | refine ⟨rfl, ?_⟩)) (by rfl) (by rfl) (fun g1 j1 hg1 => ?_)
  have hp1 : g1 < k → 2 * 2 ^ g1 < 18446744073709551616 := hp g1
  refine TC.seq ?_
  refine TC.seq ?_
  refine TC.region ?_
  refine TL.v rfl (OpVal.moveI (.inl rfl) rfl) rfl rfl ?_
  refine TL.v rfl (OpVal.moveI (.inl rfl) rfl) rfl rfl ?_
  refine TL.v rfl (OpVal.lss rfl rfl rfl) rfl rfl ?_
  refine TL.nil ?_
  refine S.n ?_
  refine TC.condD rfl (fun h1 => ?_) (fun h1 => ?_)
  · try simp only [decide_eq_true_eq, decide_eq_false_iff_not, Bool.not_eq_true', Bool.not_eq_false', Bool.not_eq_eq_eq_not, Bool.not_true, Bool.not_false, Int.not_lt, Int.not_le, Decidable.not_not] at h1
    refine TC.skip ?_
    refine S.n ?_
    refine TC.seq ?_
    refine TC.block ?_
    refine TC.region ?_
    refine TL.v rfl (OpVal.moveI (.inl rfl) rfl) rfl rfl ?_
    refine TL.v rfl (OpVal.mulN (a := 2) rfl rfl rfl (by simp only [kmax]; omega)) rfl rfl ?_
    refine TL.v rfl (OpVal.moveI (.inr rfl) rfl) rfl rfl ?_
    refine TL.nil ?_
    refine B.n ?_
    refine S.n ?_
    refine TC.region ?_
    refine TL.v rfl (OpVal.moveI (.inl rfl) rfl) rfl rfl ?_
    refine TL.v rfl (OpVal.succ rfl rfl rfl (by omega)) rfl rfl ?_
    refine TL.v rfl (OpVal.moveI (.inr rfl) rfl) rfl rfl ?_
    refine TL.nil ?_
    refine S.n ?_
    -- leaf 1 next [h1: True] H=[]
    refine ⟨by repeat (first | exact Agr.mask | refine Agr.upd rfl ?_ | refine Agr.maskIn rfl ?_), g1 + 1, ?_, ?_, ?_, ?_, ?_⟩
    · omega
    · first | exact True.intro | omega | (dsimp only; omega) | (simp; done) | (simp; omega)
    · exact ⟨congrArg (fun x : Nat => Value.int .u64 (x : Int)) (by rw [Nat.pow_succ]; omega), rfl, trivial⟩
    · rfl
    · rfl
  · try simp only [decide_eq_true_eq, decide_eq_false_iff_not, Bool.not_eq_true', Bool.not_eq_false', Bool.not_eq_eq_eq_not, Bool.not_true, Bool.not_false, Int.not_lt, Int.not_le, Decidable.not_not] at h1
    refine TC.exit ?_
    refine S.x ?_
    refine S.x ?_
    refine TC.exitHere ?_
    refine S.n ?_
    refine TC.seq ?_
    refine TC.region ?_
    refine TL.v rfl (OpVal.moveI (.inl rfl) rfl) rfl rfl ?_
    refine TL.v rfl (OpVal.moveI (.inr rfl) rfl) rfl rfl ?_
    refine TL.nil ?_
    refine S.n ?_
    refine TC.ret ?_
    -- leaf 2 ret [h1: False] H=[]
    have : g1 = k := by omega
    subst this
    exact ret1P rfl rfl
theorem rhas_con (σ : Store) (s : BSet) (b : Nat) (hs : s.ok) (hb : b < 256) : Con Tryz.prog 48 #[setV s, .int .i64 (b : Nat)] σ [] (PureP (.bool (s.has b)) σ) := by
  have hw : s.word (b / 64) < 18446744073709551616 := BSet.word_lt hs _
  have hd : ((b : Int)).tdiv 64 = ((b / 64 : Nat) : Int) := by rw [Int.tdiv_eq_ediv_of_nonneg (by omega)]; omega
  have hp : 0 < 2 ^ (b % 64) := Nat.pow_pos (by omega)
  have hq : s.word (b / 64) / 2 ^ (b % 64) < 18446744073709551616 := Nat.lt_of_le_of_lt (Nat.div_le_self _ _) hw
  refine Con.mk (n := 15) Tryz.func48 rfl rfl rfl (fun w0 => ?_)
  refine TC.seq ?_
  refine TC.region ?_
  refine TL.op rfl (OpOk.boxA rfl rfl rfl rfl (fun b1 => ?_))
  refine TL.v rfl (OpVal.moveB (.inr rfl) rfl) rfl rfl ?_
  refine TL.nil ?_
  refine S.n ?_
  refine TC.seq ?_
  refine TC.draw [] (by kernel_rfl) ?_
  refine TA.takeP 0 rfl (by kernel_rfl) (by kernel_rfl) (by kernel_rfl) rfl (OpVal.moveI (.inl rfl) rfl) rfl rfl ?_
  refine TA.takeP 1 rfl (by kernel_rfl) (by kernel_rfl) (by kernel_rfl) rfl (OpVal.quoN (b := 64) rfl rfl rfl (by omega) (by simp only [kmax]; omega)) rfl rfl ?_
  refine TA.takeP 2 rfl (by kernel_rfl) (by kernel_rfl) (by kernel_rfl) rfl (OpVal.indexArrN rfl Tryz.underlying57 sz55 rfl rfl (by omega)) rfl rfl ?_
  refine TA.take 3 rfl (by kernel_rfl) (by kernel_rfl) (by kernel_rfl) (by kernel_rfl) rfl (OpVal.loadWord rfl ag55 rfl (j := 0) rfl (by omega)) rfl rfl ?_
  refine TA.takeP 4 rfl (by kernel_rfl) (by kernel_rfl) (by kernel_rfl) rfl (OpVal.moveI (.inl rfl) rfl) rfl rfl ?_
  refine TA.takeP 5 rfl (by kernel_rfl) (by kernel_rfl) (by kernel_rfl) rfl (OpVal.remN (b := 64) rfl rfl rfl (by omega)) rfl rfl ?_
  refine TA.act 6 (by kernel_rfl) rfl rfl (OpOk.callP (power_con _ (b % 64) (by omega)) rfl rfl pf73 rfl rfl rfl ⟨(fun w h => sees_of (by first | exact Store.le.refl _ | assumption) (fun r hr => hr) w h), ?_⟩)
  refine TA.takeP 7 rfl (by kernel_rfl) (by kernel_rfl) (by kernel_rfl) rfl (OpVal.quoN rfl rfl rfl (by omega) (by simp only [kmax]; omega)) rfl rfl ?_
  refine TA.takeP 8 rfl (by kernel_rfl) (by kernel_rfl) (by kernel_rfl) rfl (OpVal.remN (b := 2) rfl rfl rfl (by omega)) rfl rfl ?_
  refine TA.takeP 9 rfl (by kernel_rfl) (by kernel_rfl) (by kernel_rfl) rfl (OpVal.eqlN (b := 1) rfl rfl rfl) rfl rfl ?_
  refine TA.takeP 10 rfl (by kernel_rfl) (by kernel_rfl) (by kernel_rfl) rfl (OpVal.moveB (.inr rfl) rfl) rfl rfl ?_
  refine TA.done (by kernel_rfl) ?_
  refine S.n ?_
  refine TC.ret ?_
  -- leaf 1 ret [] H=['q2']
  refine ret1P rfl (congrArg Value.bool ?_)
  unfold BSet.has; rfl
end Go.Proofs.YtcaaiphgikpgjaaGreatDoor
end

section
namespace Go.Proofs.YtcaaiphgikpgjaaGreatDoor
open Go Go.E
def errB (b : Bool) : Int := if b then 0 else 1
theorem take_succ_nth {α : Type} (l : List α) {k : Nat} (hk : k < l.length) (d : α) : l.take (k + 1) = l.take k ++ [nth l k d] := by
  rw [List.take_add_one, getD_some l hk d]; rfl
end Go.Proofs.YtcaaiphgikpgjaaGreatDoor
end

section
namespace Go.Proofs.YtcaaiphgikpgjaaGreatDoor
open Go Go.E
def inTo (l : List UInt8) (k : Nat) : Nat → Bool := fun i => (l.take k).any fun u => decide (i = u.toNat)
theorem inTo_zero (l : List UInt8) : BSet.make (inTo l 0) = BSet.zero := by
  rw [show inTo l 0 = fun _ => false from by funext i; simp [inTo]]; exact BSet.make_zero
theorem inTo_succ {l : List UInt8} {k : Nat} (h : k < l.length) : (fun i => inTo l k i || decide (i = (nth l k 0).toNat)) = inTo l (k + 1) := by
  funext i; simp [inTo, take_succ_nth l h 0]
theorem inTo_all (l : List UInt8) : BSet.make (inTo l l.length) = BSet.ofL l := by
  unfold inTo BSet.ofL; rw [List.take_length]
theorem two_pow_lt {a : Nat} (h : a < 64) : 2 ^ a < 18446744073709551616 := Nat.lt_of_le_of_lt (Nat.pow_le_pow_right (by omega) (show a ≤ 63 by omega)) (by decide)
theorem of_con (σ : Store) (a : Option Addr) (c : Nat) (l : List UInt8) (hsz : l.length ≤ 1000000000000) :
    Con Tryz.prog 23 #[.slice a l.length c] σ [Res.rowS 5 1 encU8 (.slice a l.length c) l] (PureP (setV (BSet.ofL l)) σ) := by
  refine Con.mk (n := 23) Tryz.func23 rfl rfl rfl (fun w0 => ?_)
  refine TC.seq ?_
  refine TC.region ?_
  refine TL.op rfl (OpOk.alloc rfl ze57 rfl rfl (fun b1 => ?_))
  refine TL.nil ?_
  refine S.n ?_
  refine TC.seq ?_
  refine TC.region ?_
  refine TL.op rfl (OpOk.alloc rfl ze57 rfl rfl (fun b3 => ?_))
  refine TL.nil ?_
  refine S.n ?_
  refine TC.seq ?_
  refine TC.seq ?_
  refine TC.region ?_
  refine TL.v rfl (OpVal.moveSl (.inl rfl) rfl) rfl rfl ?_
  refine TL.v rfl (OpVal.lenC rfl Tryz.underlying53 rfl) rfl rfl ?_
  refine TL.v rfl (OpVal.moveI (.inl rfl) rfl) rfl rfl ?_
  refine TL.nil ?_
  refine S.n ?_
  refine TC.block ?_
  refine TC.loopF (α := Nat) [5, 8, 9, 10, 11, 12, 13, 14, 15, 16, 17, 18, 19, 20, 21] (fun k => [(8, .int .i64 (k : Nat))]) (fun k => [Res.cells b3 (setA (BSet.make (inTo l k))) 57, Res.cells b1 (setA BSet.zero) 57, Res.rowS 5 1 encU8 (.slice a l.length c) l]) (fun _ => _) (fun k => k ≤ l.length) (fun k => l.length - k) (0) (by first | exact True.intro | omega | (dsimp only; omega) | (simp; done) | (simp; omega)) (by repeat (first | exact trivial | refine ⟨rfl, ?_⟩)) (by rw [inTo_zero]; rfl) (by rfl) (fun g1 j1 hg1 => ?_)
  have hu : (nth l g1 (0 : UInt8)).toNat < 256 := UInt8.toNat_lt _
  have hp := two_pow_lt (Nat.mod_lt (nth l g1 (0 : UInt8)).toNat (show 0 < 64 by omega))
  have hw := BSet.word_lt (BSet.make_ok (inTo l g1)) ((nth l g1 (0 : UInt8)).toNat / 64)
  refine TC.seq ?_
  refine TC.region ?_
  refine TL.v rfl (OpVal.lss rfl rfl rfl) rfl rfl ?_
  refine TL.nil ?_
  refine S.n ?_
  refine TC.seq ?_
  refine TC.condD rfl (fun h5 => ?_) (fun h5 => ?_)
  · try simp only [decide_eq_true_eq, decide_eq_false_iff_not, Bool.not_eq_true', Bool.not_eq_false', Bool.not_eq_eq_eq_not, Bool.not_true, Bool.not_false, Int.not_lt, Int.not_le, Decidable.not_not] at h5
    refine TC.skip ?_
    refine S.n ?_
    refine TC.seq ?_
    refine TC.block ?_
    refine TC.seq ?_
    refine TC.region ?_
    refine TL.isSl (i := 2) rfl (fun hs6 _ _ => ?_)
    refine TL.v rfl (OpVal.indexN rfl Tryz.underlying53 sz5 rfl rfl (by first | assumption | exact (RS.rv (by assumption)).sl) (by omega)) rfl rfl ?_
    refine TL.v rfl (OpVal.loadO1 (0 : UInt8) rfl ag5 rfl (q := 2) rfl encU8_len (by omega) rfl) rfl rfl ?_
    refine TL.v rfl (OpVal.moveI (.inr rfl) rfl) rfl rfl ?_
    refine TL.nil ?_
    refine S.n ?_
    refine TC.region ?_
    refine TL.v rfl (OpVal.moveI (.inl rfl) rfl) rfl rfl ?_
    refine TL.v rfl (OpVal.quoN (b := 64) rfl rfl rfl (by omega) (by simp only [kmax]; omega)) rfl rfl ?_
    refine TL.v rfl (OpVal.indexArrN rfl Tryz.underlying57 sz55 rfl rfl (by omega)) rfl rfl ?_
    refine TL.v rfl (OpVal.loadWord rfl ag55 rfl (j := 0) rfl (by omega)) rfl rfl ?_
    refine TL.v rfl (OpVal.moveI (.inl rfl) rfl) rfl rfl ?_
    refine TL.v rfl (OpVal.remN (b := 64) rfl rfl rfl (by omega)) rfl rfl ?_
    refine TL.v rfl (OpVal.shlN (a := 1) rfl rfl rfl (by show _ < 64; omega) (by simp only [kmax]; omega)) rfl rfl ?_
    refine TL.v rfl (OpVal.orN rfl rfl rfl (by omega) (by omega)) rfl rfl ?_
    refine TL.v rfl (OpVal.indexArrN rfl Tryz.underlying57 sz55 rfl rfl (by omega)) rfl rfl ?_
    refine TL.op rfl (OpOk.storeWord rfl sz55 rfl rfl rfl (by omega) (Nat.or_lt_two_pow (n := 64) hw (by omega)) ?_)
    refine TL.nil ?_
    refine B.n ?_
    refine S.n ?_
    refine TC.region ?_
    refine TL.v rfl (OpVal.succ rfl rfl rfl (by omega)) rfl rfl ?_
    refine TL.v rfl (OpVal.moveI (.inl rfl) rfl) rfl rfl ?_
    refine TL.nil ?_
    refine S.n ?_
    -- leaf 1 next [h5: True] H=['q4', 'q2', 'r0']
    refine ⟨by repeat (first | exact Agr.mask | refine Agr.upd rfl ?_ | refine Agr.maskIn rfl ?_), g1 + 1, ?_, ?_, ?_, ?_, ?_⟩
    · omega
    · first | exact True.intro | omega | (dsimp only; omega) | (simp; done) | (simp; omega)
    · repeat (first | exact trivial | refine ⟨rfl, ?_⟩)
    · rw [BSet.make_or _ hu, inTo_succ (by omega)]
    · rfl
  · try simp only [decide_eq_true_eq, decide_eq_false_iff_not, Bool.not_eq_true', Bool.not_eq_false', Bool.not_eq_eq_eq_not, Bool.not_true, Bool.not_false, Int.not_lt, Int.not_le, Decidable.not_not] at h5
    refine TC.exit ?_
    refine S.x ?_
    refine S.x ?_
    refine TC.exitHere ?_
    refine S.n ?_
    refine TC.seq ?_
    refine TC.region ?_
    refine TL.v rfl (OpVal.loadAll rfl ag57 sz57 rfl (i := 0) rfl rfl) rfl rfl ?_
    refine TL.front 1 rfl rfl ?_
    refine TL.op rfl (OpOk.storeAll rfl sz57 rfl rfl rfl rfl rfl rfl ?_)
    refine TL.nil ?_
    refine S.n ?_
    refine TC.ret ?_
    -- leaf 2 ret [h5: False] H=['q2', 'q4', 'r0']
    obtain rfl : g1 = l.length := by omega
    rw [inTo_all]
    exact retCellP 0 rfl ag57 sz57 rfl rfl rfl rfl
end Go.Proofs.YtcaaiphgikpgjaaGreatDoor
end

section
namespace Go.E
open Go
structure IStore where
  rows : List (List Int)
  places : FM (List UInt8) Int
structure ITable where
  of : IStore
structure RTable where
  l : List (List Int)
def ITable.zero : ITable := ⟨⟨[], FM.emp⟩⟩
def RTable.zero : RTable := ⟨[]⟩
end Go.E
end

section
namespace Go.E
open Go
section
variable {β : Type} {E' E size : Nat} {enc : β → List Value} {v : Value}
theorem sees_nestX {σ : Store} {H : List Res} {q i : Nat} {z : List (NP β)} (hq : H[q]? = some (Res.nestX E' E size enc v z i)) (w : World) (h : Sees σ H w) : Sees σ [Res.rowS E' 1 encN v z] w :=
  ⟨h.1, fun r hr => by
    simp at hr; subst hr
    exact h.2 _ (List.mem_of_getElem? hq) _ (List.mem_cons_self ..)⟩
theorem isSl_nestX {σ : Store} {H : List Res} {q i : Nat} {z : List (NP β)} {l : List (List β)} (hq : H[q]? = some (Res.nestX E' E size enc v z i)) (hZ : Zn z l) (w : World) (h : Sees σ H w) : IsSl v l.length ∧ l.length ≤ 281474976710656 := by
  have := isSl_seen (H := H) (sees_nestX hq w h)
  rw [hZ.len] at this; exact this
end
theorem TC.drawR {X : Ctx} {Q : QP} {id : Nat} {ops : Array Oper} {e : Env} {σ : Store} {H Hr : List Res} (hs : ∀ r ∈ Hr, r ∈ H) (late : List Nat) (hm : X.P.follows .mixedOrders = true) (h : TA X ops Q σ Hr late ops.size (Array.replicate ops.size false) e σ H) (hnd : noDeferB ops = true := by kernel_rfl) : TC X Q (.region id ops true) e σ H := fun w a hw ha =>
  Go.wpIn_mono (wpIn_region_any hm (wpAny_of_late _ _ _ _ (h (noDefer_of hnd) w.drew a hw.drew (sees_of (Store.le.refl _) hs _ hw.drew.sees) (closed_start _ _) ha))) fun ex a w h => by
    cases ex <;> first | exact h | exact h.elim
section
variable {P : Program} {n : Nat} {e : Env} {σ : Store} {H : List Res} {o : Oper} {x y : Operand} {T T' : TypeId} {k : IntKind} {a b : Int}
theorem OpVal.quoW (ho : o.op = .binOp .quo T x y T') (hx : ev e x = .int k a) (hy : ev e y = .int k b) (h : b ≠ 0) : OpVal P n o e σ H (.int k (k.wrap (a.tdiv b))) := .bin ho hx hy fun w => by simp [binOp, Op.intDiv, h]
theorem OpVal.remW (ho : o.op = .binOp .rem T x y T') (hx : ev e x = .int k a) (hy : ev e y = .int k b) (h : b ≠ 0) : OpVal P n o e σ H (.int k (a.tmod b)) := .bin ho hx hy fun w => by simp [binOp, Op.intDiv, h]
end
theorem OpVal.loadWordAt {P : Program} {n : Nat} {e : Env} {σ : Store} {H : List Res} {o : Oper} {x : Operand} {T b E i j off : Nat} {cs : Array Value} (s : BSet) (ho : o.op = .load T x) (hA : aggOf P T = some false) (hx : ev e x = loc b (off + i * 1)) (hi : H[j]? = some (Res.cells b cs E)) (hk : i < 4)
    (hc : (cs.toList.drop off).take 4 = s.vals) : OpVal P n o e σ H (.int .u64 ((s.word i : Nat) : Int)) := by
  refine OpVal.loadLoc ho hA hx hi ?_
  have h1 : ((cs.toList.drop off).take 4)[i]? = some (.int .u64 ((s.word i : Nat) : Int)) := by
    rw [hc]
    match i, hk with
    | 0, _ => rfl
    | 1, _ => rfl
    | 2, _ => rfl
    | 3, _ => rfl
  rw [List.getElem?_take, if_pos hk, List.getElem?_drop] at h1
  rw [Nat.mul_one]; simpa using h1
end Go.E
end

section
namespace Go.Proofs.YtcaaiphgikpgjaaGreatDoor
open Go Go.E Go.E.OpVal Go.E.OpOk
private theorem pf130 : Go.E.plainF Tryz.prog 130 = true := by kernel_rfl
noncomputable def Ex_ (x0 : Int) : Option (Bool) :=
 some (decide (x0 ≠ x0))
theorem Fo_ {σ : Store} {x0 : Int}  {r : Bool} (hh : Ex_ x0 = some r) :
  Con Tryz.prog 130 #[.int .i64 x0] σ [] (PureP (.bool r) σ) := by
 dsimp only [Ex_] at hh
 refine Con.mk (n := 6) Tryz.func130 z z z (fun w0 => ?_)
 refine TC.a (TL.j z z (TL.en (TC.a (TL.i z z (TL.i z z (TL.w z (OpVal.neq z z z) (TL.j z z (TL.en (TC.ret ?_)))))))))
 obtain rfl := so hh
 exact rq [2] ⟨z, z, z⟩
noncomputable def Cj_ (x0 : Int) (x1 : Int) : Option (Int) :=
 bnd (Ex_ x0) (fun v3 => bnd (Ex_ x1) (fun v6 => iteO v3 (iteO v6 (some 0) (some (-1))) (iteO v6 (some 1) (iteO (decide (x0 < x1)) (some (-1)) (iteO (decide (x1 < x0)) (some 1) (some 0))))))
theorem Du_ {σ : Store} {x0 : Int} {x1 : Int}  {r : Int} (hh : Cj_ x0 x1 = some r) :
  Con Tryz.prog 86 #[.int .i64 x0, .int .i64 x1] σ [] (PureP (.int .i64 r) σ) := by
 dsimp only [Cj_] at hh
 refine Con.mk (n := 20) Tryz.func86 z z z (fun w0 => ?_)
 refine TC.a (TL.i z z (TL.en (TC.a (TL.i z z ?_))))
 obtain ⟨v3, u3, hh⟩ := bnd_e hh
 refine TL.op z (callP (Fo_ u3) z z pf130 z z z ?_)
 refine TL.j z z (TL.en (TC.a (TL.i z z ?_)))
 obtain ⟨v6, u6, hh⟩ := bnd_e hh
 refine TL.op z (callP (Fo_ u6) z z pf130 z z z ?_)
 refine TL.j z z (TL.en (TC.seq (TC.a (TL.j z z (TL.en (TC.cB z hh (fun h101 hh => ?_) (fun h101 hh => ?_)))))))
 ·refine TC.seq (TC.a (TL.j z z (TL.en (TC.cB z hh (fun h102 hh => ?_) (fun h102 hh => ?_)))))
  ·refine TC.a (TL.i z z (TL.en (TC.ret (S.r (S.r ?_)))))
   obtain rfl := so hh
   exact rq [4] ⟨z, z, z⟩
  ·refine TC.skip (S.n (TC.a (TL.i z z (TL.en (TC.ret (S.r ?_))))))
   obtain rfl := so hh
   exact rq [4] ⟨z, z, z⟩
 ·refine TC.skip (S.n (TC.seq (TC.a (TL.j z z (TL.en (TC.cB z hh (fun h103 hh => ?_) (fun h103 hh => ?_)))))))
  ·refine TC.a (TL.i z z (TL.en (TC.ret (S.r ?_))))
   obtain rfl := so hh
   exact rq [4] ⟨z, z, z⟩
  ·refine TC.skip (S.n (TC.seq (TC.a (TL.i z z (TL.i z z (TL.w z (OpVal.lss z z z) (TL.en (TC.cD z hh (fun h104 hh => ?_) (fun h104 hh => ?_)))))))))
   ·refine TC.a (TL.i z z (TL.en (TC.ret (S.r ?_))))
    obtain rfl := so hh
    exact rq [4] ⟨z, z, z⟩
   ·refine TC.skip (S.n (TC.seq (TC.a (TL.i z z (TL.i z z (TL.w z (OpVal.gtr z z z) (TL.en (TC.cD z hh (fun h105 hh => ?_) (fun h105 hh => ?_)))))))))
    ·refine TC.a (TL.i z z (TL.en (TC.ret (S.r ?_))))
     obtain rfl := so hh
     exact rq [4] ⟨z, z, z⟩
    ·refine TC.skip (S.n (TC.a (TL.i z z (TL.en (TC.ret ?_)))))
     obtain rfl := so hh
     exact rq [4] ⟨z, z, z⟩
end Go.Proofs.YtcaaiphgikpgjaaGreatDoor
end

section
namespace Go.Proofs.YtcaaiphgikpgjaaGreatDoor
open Go Go.Shelf
def layS_ren : Go.Shelf.Ren := ⟨fun | 6 => 105 | 15 => 80 | 14 => 142 | 28 => 127 | 29 => 128 | 20 => 170 | 21 => 171 | 22 => 172 | 23 => 173 | 24 => 174 | 25 => 175 | 26 => 176 | 27 => 177 | 46 => 185 | 47 => 148 | 48 => 149 | 49 => 186 | 50 => 187 | 57 => 190 | n => n, fun | 22 => 45 | 24 => 9 | 25 => 133 | 3 => 3 | 39 => 150 | 0 => 0 | 53 => 210 | 55 => 55 | 4 => 4 | 46 => 203 | 45 => 202 | 50 => 207 | 5 => 5 | 9 => 9 | 66 => 232 | 70 => 236 | 76 => 256 | 77 => 257 | n => n, fun | n => n⟩
def layT0_ren : Go.Shelf.Ren := ⟨fun | 6 => 83 | 15 => 80 | 14 => 129 | 28 => 127 | 29 => 128 | 20 => 152 | 21 => 153 | 22 => 154 | 23 => 155 | 24 => 156 | 25 => 157 | 26 => 158 | 27 => 159 | 46 => 179 | 47 => 148 | 48 => 149 | 49 => 180 | 50 => 181 | 57 => 188 | n => n, fun | 22 => 22 | 24 => 41 | 25 => 116 | 3 => 3 | 39 => 150 | 0 => 0 | 53 => 210 | 55 => 55 | 4 => 4 | 46 => 203 | 45 => 202 | 50 => 207 | 5 => 5 | 9 => 9 | 66 => 232 | 70 => 236 | 76 => 256 | 77 => 257 | n => n, fun | n => n⟩
theorem layT0 : Go.Proofs.SlLaysF0.n6 Tryz.prog layT0_ren := {
  mixed := by kernel_rfl,
  f6 := ⟨Tryz.f83.name, by decide, Tryz.func83.trans (congrArg some (by kernel_rfl))⟩,
  f14 := ⟨Tryz.f129.name, by decide, Tryz.func129.trans (congrArg some (by kernel_rfl))⟩,
  f15 := Tryz.func80.trans (congrArg some (by kernel_rfl)),
  f20 := ⟨Tryz.f152.name, by decide, Tryz.func152.trans (congrArg some (by kernel_rfl))⟩,
  f21 := ⟨Tryz.f153.name, by decide, Tryz.func153.trans (congrArg some (by kernel_rfl))⟩,
  f22 := ⟨Tryz.f154.name, by decide, Tryz.func154.trans (congrArg some (by kernel_rfl))⟩,
  f23 := ⟨Tryz.f155.name, by decide, Tryz.func155.trans (congrArg some (by kernel_rfl))⟩,
  f24 := ⟨Tryz.f156.name, by decide, Tryz.func156.trans (congrArg some (by kernel_rfl))⟩,
  f25 := ⟨Tryz.f157.name, by decide, Tryz.func157.trans (congrArg some (by kernel_rfl))⟩,
  f26 := ⟨Tryz.f158.name, by decide, Tryz.func158.trans (congrArg some (by kernel_rfl))⟩,
  f27 := ⟨Tryz.f159.name, by decide, Tryz.func159.trans (congrArg some (by kernel_rfl))⟩,
  f28 := Tryz.func127.trans (congrArg some (by kernel_rfl)),
  f29 := Tryz.func128.trans (congrArg some (by kernel_rfl)),
  f46 := ⟨Tryz.f179.name, by decide, Tryz.func179.trans (congrArg some (by kernel_rfl))⟩,
  f47 := Tryz.func148.trans (congrArg some (by kernel_rfl)),
  f48 := Tryz.func149.trans (congrArg some (by kernel_rfl)),
  f49 := ⟨Tryz.f180.name, by decide, Tryz.func180.trans (congrArg some (by kernel_rfl))⟩,
  f50 := ⟨Tryz.f181.name, by decide, Tryz.func181.trans (congrArg some (by kernel_rfl))⟩,
  f57 := ⟨Tryz.f188.name, by decide, Tryz.func188.trans (congrArg some (by kernel_rfl))⟩,
  t0 := Tryz.underlying0,
  a0 := Tryz.isAgg0,
  z0 := Tryz.sizeOf0,
  v0 := Tryz.zeroValue0,
  t3 := Tryz.underlying3,
  a3 := Tryz.isAgg3,
  z3 := Tryz.sizeOf3,
  v3 := Tryz.zeroValue3,
  t4 := Tryz.underlying4,
  a4 := Tryz.isAgg4,
  z4 := Tryz.sizeOf4,
  v4 := Tryz.zeroValue4,
  t5 := Tryz.underlying5,
  a5 := Tryz.isAgg5,
  z5 := Tryz.sizeOf5,
  v5 := Tryz.zeroValue5,
  t9 := Tryz.underlying9,
  a9 := Tryz.isAgg9,
  z9 := Tryz.sizeOf9,
  v9 := Tryz.zeroValue9,
  t22 := Tryz.underlying22,
  a22 := Tryz.isAgg22,
  z22 := Tryz.sizeOf22,
  v22 := Tryz.zeroValue22,
  t25 := Tryz.underlying116,
  a25 := Tryz.isAgg116,
  z25 := Tryz.sizeOf116,
  v25 := Tryz.zeroValue116,
  t39 := Tryz.underlying150,
  a39 := Tryz.isAgg150,
  z39 := Tryz.sizeOf150,
  v39 := Tryz.zeroValue150,
  t45 := Tryz.underlying202,
  a45 := Tryz.isAgg202,
  z45 := Tryz.sizeOf202,
  v45 := Tryz.zeroValue202,
  t46 := Tryz.underlying203,
  a46 := Tryz.isAgg203,
  z46 := Tryz.sizeOf203,
  v46 := Tryz.zeroValue203,
  t50 := Tryz.underlying207,
  a50 := Tryz.isAgg207,
  z50 := Tryz.sizeOf207,
  v50 := Tryz.zeroValue207,
  t53 := Tryz.underlying210,
  a53 := Tryz.isAgg210,
  z53 := Tryz.sizeOf210,
  v53 := Tryz.zeroValue210,
  t55 := Tryz.underlying55,
  a55 := Tryz.isAgg55,
  z55 := Tryz.sizeOf55,
  v55 := Tryz.zeroValue55,
  t66 := Tryz.underlying232,
  a66 := Tryz.isAgg232,
  z66 := Tryz.sizeOf232,
  v66 := Tryz.zeroValue232,
  t70 := Tryz.underlying236,
  a70 := Tryz.isAgg236,
  z70 := Tryz.sizeOf236,
  v70 := Tryz.zeroValue236,
  t76 := Tryz.underlying256,
  a76 := Tryz.isAgg256,
  z76 := Tryz.sizeOf256,
  v76 := Tryz.zeroValue256,
  t77 := Tryz.underlying257,
  a77 := Tryz.isAgg257,
  z77 := Tryz.sizeOf257,
  v77 := Tryz.zeroValue257 }
def layA0_ren : Go.Shelf.Ren := ⟨fun | 6 => 88 | 15 => 80 | 14 => 131 | 28 => 127 | 29 => 128 | 20 => 160 | 21 => 161 | 22 => 162 | 23 => 163 | 24 => 164 | 25 => 165 | 26 => 166 | 27 => 167 | 46 => 182 | 47 => 148 | 48 => 149 | 49 => 183 | 50 => 184 | 57 => 189 | n => n, fun | 22 => 23 | 24 => 59 | 25 => 118 | 3 => 3 | 39 => 150 | 0 => 0 | 53 => 210 | 55 => 55 | 4 => 4 | 46 => 203 | 45 => 202 | 50 => 207 | 5 => 5 | 9 => 9 | 66 => 232 | 70 => 236 | 76 => 256 | 77 => 257 | n => n, fun | n => n⟩
theorem layA0 : Go.Proofs.SlLaysF0.n6 Tryz.prog layA0_ren := {
  mixed := by kernel_rfl,
  f6 := ⟨Tryz.f88.name, by decide, Tryz.func88.trans (congrArg some (by kernel_rfl))⟩,
  f14 := ⟨Tryz.f131.name, by decide, Tryz.func131.trans (congrArg some (by kernel_rfl))⟩,
  f15 := Tryz.func80.trans (congrArg some (by kernel_rfl)),
  f20 := ⟨Tryz.f160.name, by decide, Tryz.func160.trans (congrArg some (by kernel_rfl))⟩,
  f21 := ⟨Tryz.f161.name, by decide, Tryz.func161.trans (congrArg some (by kernel_rfl))⟩,
  f22 := ⟨Tryz.f162.name, by decide, Tryz.func162.trans (congrArg some (by kernel_rfl))⟩,
  f23 := ⟨Tryz.f163.name, by decide, Tryz.func163.trans (congrArg some (by kernel_rfl))⟩,
  f24 := ⟨Tryz.f164.name, by decide, Tryz.func164.trans (congrArg some (by kernel_rfl))⟩,
  f25 := ⟨Tryz.f165.name, by decide, Tryz.func165.trans (congrArg some (by kernel_rfl))⟩,
  f26 := ⟨Tryz.f166.name, by decide, Tryz.func166.trans (congrArg some (by kernel_rfl))⟩,
  f27 := ⟨Tryz.f167.name, by decide, Tryz.func167.trans (congrArg some (by kernel_rfl))⟩,
  f28 := Tryz.func127.trans (congrArg some (by kernel_rfl)),
  f29 := Tryz.func128.trans (congrArg some (by kernel_rfl)),
  f46 := ⟨Tryz.f182.name, by decide, Tryz.func182.trans (congrArg some (by kernel_rfl))⟩,
  f47 := Tryz.func148.trans (congrArg some (by kernel_rfl)),
  f48 := Tryz.func149.trans (congrArg some (by kernel_rfl)),
  f49 := ⟨Tryz.f183.name, by decide, Tryz.func183.trans (congrArg some (by kernel_rfl))⟩,
  f50 := ⟨Tryz.f184.name, by decide, Tryz.func184.trans (congrArg some (by kernel_rfl))⟩,
  f57 := ⟨Tryz.f189.name, by decide, Tryz.func189.trans (congrArg some (by kernel_rfl))⟩,
  t0 := Tryz.underlying0,
  a0 := Tryz.isAgg0,
  z0 := Tryz.sizeOf0,
  v0 := Tryz.zeroValue0,
  t3 := Tryz.underlying3,
  a3 := Tryz.isAgg3,
  z3 := Tryz.sizeOf3,
  v3 := Tryz.zeroValue3,
  t4 := Tryz.underlying4,
  a4 := Tryz.isAgg4,
  z4 := Tryz.sizeOf4,
  v4 := Tryz.zeroValue4,
  t5 := Tryz.underlying5,
  a5 := Tryz.isAgg5,
  z5 := Tryz.sizeOf5,
  v5 := Tryz.zeroValue5,
  t9 := Tryz.underlying9,
  a9 := Tryz.isAgg9,
  z9 := Tryz.sizeOf9,
  v9 := Tryz.zeroValue9,
  t22 := Tryz.underlying23,
  a22 := Tryz.isAgg23,
  z22 := Tryz.sizeOf23,
  v22 := Tryz.zeroValue23,
  t25 := Tryz.underlying118,
  a25 := Tryz.isAgg118,
  z25 := Tryz.sizeOf118,
  v25 := Tryz.zeroValue118,
  t39 := Tryz.underlying150,
  a39 := Tryz.isAgg150,
  z39 := Tryz.sizeOf150,
  v39 := Tryz.zeroValue150,
  t45 := Tryz.underlying202,
  a45 := Tryz.isAgg202,
  z45 := Tryz.sizeOf202,
  v45 := Tryz.zeroValue202,
  t46 := Tryz.underlying203,
  a46 := Tryz.isAgg203,
  z46 := Tryz.sizeOf203,
  v46 := Tryz.zeroValue203,
  t50 := Tryz.underlying207,
  a50 := Tryz.isAgg207,
  z50 := Tryz.sizeOf207,
  v50 := Tryz.zeroValue207,
  t53 := Tryz.underlying210,
  a53 := Tryz.isAgg210,
  z53 := Tryz.sizeOf210,
  v53 := Tryz.zeroValue210,
  t55 := Tryz.underlying55,
  a55 := Tryz.isAgg55,
  z55 := Tryz.sizeOf55,
  v55 := Tryz.zeroValue55,
  t66 := Tryz.underlying232,
  a66 := Tryz.isAgg232,
  z66 := Tryz.sizeOf232,
  v66 := Tryz.zeroValue232,
  t70 := Tryz.underlying236,
  a70 := Tryz.isAgg236,
  z70 := Tryz.sizeOf236,
  v70 := Tryz.zeroValue236,
  t76 := Tryz.underlying256,
  a76 := Tryz.isAgg256,
  z76 := Tryz.sizeOf256,
  v76 := Tryz.zeroValue256,
  t77 := Tryz.underlying257,
  a77 := Tryz.isAgg257,
  z77 := Tryz.sizeOf257,
  v77 := Tryz.zeroValue257 }
end Go.Proofs.YtcaaiphgikpgjaaGreatDoor
end

section
namespace Go.E
open Go
structure Tip where
  state : Int
  out : List UInt8
  deriving DecidableEq
def Tip.zero : Tip := ⟨0, []⟩
def encTip (x : Tip) : List Value := [.int .i64 x.state, .string (bs x.out)]
theorem encTip_len (x : Tip) : (encTip x).length = 2 := rfl
theorem encTip_one : ∀ x, ∀ u ∈ encTip x, u.oneCell' = true := fun x u hu => by
  simp [encTip] at hu
  rcases hu with rfl | rfl <;> rfl
structure Arc where
  frm : Int
  to : Int
  set : BSet
  out : List UInt8
  copy : Bool
  deriving DecidableEq
def Arc.zero : Arc := ⟨0, 0, BSet.zero, [], false⟩
def encArc (x : Arc) : List Value := [.int .i64 x.frm, .int .i64 x.to, .int .u64 ((x.set.a : Nat) : Int), .int .u64 ((x.set.b : Nat) : Int), .int .u64 ((x.set.c : Nat) : Int), .int .u64 ((x.set.d : Nat) : Int), .string (bs x.out), .bool x.copy]
theorem encArc_len (x : Arc) : (encArc x).length = 8 := rfl
theorem encArc_one : ∀ x, ∀ u ∈ encArc x, u.oneCell' = true := fun x u hu => by
  simp [encArc] at hu
  rcases hu with rfl | rfl | rfl | rfl | rfl | rfl | rfl | rfl <;> rfl
structure FPair where
  state : Int
  out : List UInt8
  deriving DecidableEq
def FPair.zero : FPair := ⟨0, []⟩
structure Span where
  frm : Int
  to : Int
  deriving DecidableEq
def Span.zero : Span := ⟨0, 0⟩
structure Fst where
  states : Int
  starts : List Tip
  ends : List Tip
  arcs : List Arc
  deriving DecidableEq
def Fst.zero : Fst := ⟨0, [], [], []⟩
end Go.E
end

section
namespace Go.Proofs.YtcaaiphgikpgjaaGreatDoor
open Go Go.E Go.E.OpVal Go.E.OpOk Go.Proofs.Tryz
private theorem ag22 : Go.E.aggOf Tryz.prog 22 = some false := by kernel_rfl
private theorem ag23 : Go.E.aggOf Tryz.prog 23 = some false := by kernel_rfl
private theorem ag41 : Go.E.aggOf Tryz.prog 41 = some true := by kernel_rfl
private theorem ag59 : Go.E.aggOf Tryz.prog 59 = some true := by kernel_rfl
private theorem ag9 : Go.E.aggOf Tryz.prog 9 = some false := by kernel_rfl
private theorem fo25_0 : Go.E.foOf Tryz.prog 25 0 = some 0 := by kernel_rfl
private theorem fo25_1 : Go.E.foOf Tryz.prog 25 1 = some 1 := by kernel_rfl
private theorem fo25_2 : Go.E.foOf Tryz.prog 25 2 = some 2 := by kernel_rfl
private theorem fo25_3 : Go.E.foOf Tryz.prog 25 3 = some 3 := by kernel_rfl
private theorem fo41_0 : Go.E.foOf Tryz.prog 41 0 = some 0 := by kernel_rfl
private theorem fo41_1 : Go.E.foOf Tryz.prog 41 1 = some 1 := by kernel_rfl
private theorem fo59_0 : Go.E.foOf Tryz.prog 59 0 = some 0 := by kernel_rfl
private theorem fo59_1 : Go.E.foOf Tryz.prog 59 1 = some 1 := by kernel_rfl
private theorem fo59_2 : Go.E.foOf Tryz.prog 59 2 = some 2 := by kernel_rfl
private theorem fo59_3 : Go.E.foOf Tryz.prog 59 3 = some 6 := by kernel_rfl
private theorem pf51 : Go.E.plainF Tryz.prog 51 = true := by kernel_rfl
private theorem pf52 : Go.E.plainF Tryz.prog 52 = true := by kernel_rfl
private theorem sz41 : Go.E.szOf Tryz.prog 41 = some 2 := by kernel_rfl
private theorem sz59 : Go.E.szOf Tryz.prog 59 = some 8 := by kernel_rfl
private theorem ze41 : Go.E.zeroOf Tryz.prog 41 = some (.agg #[.int .i64 0, .string ByteArray.empty]) := by kernel_rfl
private theorem ze59 : Go.E.zeroOf Tryz.prog 59 = some (.agg #[.int .i64 0, .int .i64 0, .int .u64 0, .int .u64 0, .int .u64 0, .int .u64 0, .string ByteArray.empty, .bool false]) := by kernel_rfl
noncomputable def D1_ (x0 : Int) (x1 : Int) : Option (Bool) :=
 iteO (decide (0 ≤ x0)) (some (decide (x0 < x1))) (some false)
theorem E2_ {σ : Store} {x0 : Int} {x1 : Int}  {r : Bool} (hh : D1_ x0 x1 = some r) :
  Con Tryz.prog 52 #[.int .i64 x0, .int .i64 x1] σ [] (PureP (.bool r) σ) := by
 dsimp only [D1_] at hh
 refine Con.mk (n := 12) Tryz.func52 z z z (fun w0 => ?_)
 refine TC.a (TL.j z z (TL.en (TC.a (TL.i z z (TL.w z (OpVal.leq z z z) (TL.j z z (TL.split 7 z (fun h101 => ?_) (fun h101 => ?_))))))))
 ·replace hh := iteO_t h101 hh
  replace h101 := of_decide_eq_true h101
  refine TL.g z (moveI (.inl z) z) (TL.g z (moveI (.inl z) z) (TL.g z (OpVal.lss z z z) (TL.w z (pickTB z z z) (TL.j z z (TL.en (TC.ret ?_))))))
  obtain rfl := so hh
  exact rq [4] ⟨z, z, z⟩
 ·replace hh := iteO_f h101 hh
  replace h101 := of_decide_eq_false h101
  refine TL.f z (TL.f z (TL.f z (TL.w z (pickFB z z z) (TL.j z z (TL.en (TC.ret ?_))))))
  obtain rfl := so hh
  exact rq [4] ⟨z, z, z⟩
noncomputable def Bw_ (x0 : List Tip) (x1 : Int) (k104 : Nat) : Option ((Nat) ⊕ (Bool)) :=
 iteO (decide (((k104 : Nat) : Int) < ((x0.length : Nat) : Int))) (bnd (D1_ ((nth x0 k104 Tip.zero).state) x1) (fun v17 => iteO (!v17) (fin (some false)) (iteO (decide (1024 < ((((nth x0 k104 Tip.zero).out).length : Nat) : Int))) (fin (some false)) (nxt (k104 + 1))))) (fin (some true))
noncomputable def C1_ (x0 : List Tip) (x1 : Int) : Option (Bool) :=
 iteO (decide (1024 < ((x0.length : Nat) : Int))) (some false) (iter (fun q : Nat => Bw_ x0 x1 q) 0)
theorem E7_ {σ : Store} {x0 : List Tip} {a0_0 : Option Addr} {c0_0 : Nat} {x1 : Int} (f0_0 : RS σ 2 encTip (.slice a0_0 x0.length c0_0) x0) {r : Bool} (hh : C1_ x0 x1 = some r) :
  Con Tryz.prog 51 #[.slice a0_0 x0.length c0_0, .int .i64 x1] σ [] (PureP (.bool r) σ) := by
 dsimp only [C1_] at hh
 have f0_0b := f0_0.rv.big
 refine Con.mk (n := 28) Tryz.func51 z z z (fun w0 => ?_)
 refine TC.a (TL.j z z (TL.en (TC.seq (TC.a (TL.s z z (TL.w z (lenC z underlying22 z) (TL.w z (OpVal.gtr z z z) (TL.en (TC.cD z hh (fun h101 hh => ?_) (fun h101 hh => ?_))))))))))
 ·refine TC.a (TL.j z z (TL.en (TC.ret (S.r ?_))))
  obtain rfl := so hh
  exact rq [4] ⟨z, z, z⟩
 ·refine TC.skip (S.n (TC.seq (TC.a (TL.s z z (TL.w z (lenC z underlying22 z) (TL.i z z (TL.en (TC.block (TC.loopG (α := (Nat) × (Unit)) (rgs [(4, 1), (6, 1), (12, 16)]) (fun g => [(12, .int .i64 ((g.1 : Nat) : Int))]) (fun g => []) (fun g => σ) (fun g => iter (fun q : Nat => Bw_ x0 x1 q) g.1 = some r) (fun g => rounds (fun q : Nat => Bw_ x0 x1 q) g.1) (0, ()) (Sub.pre 0 z) z (by repeat (first | exact trivial | refine ⟨z, ?_⟩)) hh (fun g1 j1 hg1 => ?_))))))))))
  obtain ⟨k104, _⟩ := g1
  have hh := hg1; clear hg1
  try dsimp only
  obtain ⟨z1, hh, hR1⟩ := iter_e hh
  dsimp only [Bw_] at hh
  refine TC.a (TL.w z (OpVal.lss z z z) (TL.en (TC.seq (TC.cD z hh (fun h105 hh => ?_) (fun h105 hh => ?_)))))
  ·refine TC.skip (S.n (TC.seq (TC.block (TC.a (TL.w z (indexN z underlying22 sz41 z z f0_0.rv.sl (by omega)) (TL.w z (loadSA Tip.zero z ag41 sz41 z f0_0 (by omega) (by omega)) (TL.op z (OpOk.alloc z ze41 z z (fun b106 => ?_)))))))))
   refine TL.op z (storeAll z sz41 z z z z z z ?_)
   refine TL.en (TC.a (TL.w z (fieldLoc z fo41_0 z) (TL.w z (loadLoc z ag3 z (i := 0) z z) (TL.i z z ?_))))
   obtain ⟨v17, u17, hh⟩ := bnd_e hh
   refine TL.op z (callP (E2_ u17) z z pf52 z z z ?_)
   refine TL.w z (OpVal.not z z) (TL.j z z (TL.split 21 z (fun h108 => ?_) (fun h108 => ?_)))
   ·replace hh := iteO_t h108 hh
    refine TL.f z (TL.f z (TL.f z (TL.f z (TL.w z (pickTB z z z) (TL.en (TC.t z (TC.a (TL.j z z (TL.en (TC.rt 0 (B.r (S.r (S.r ?_)))))))))))))
    replace hh := fin_x hR1 hh
    refine B.r (S.r ?_)
    obtain rfl := so hh
    exact rq [4] ⟨z, z, z⟩
   ·replace hh := iteO_f h108 hh
    refine TL.g z (fieldLoc z fo41_1 z) (TL.g z (loadLoc z ag9 z (i := 0) z z) (TL.g z (lenBs z underlying9 z) (TL.g z (OpVal.gtr z z z) (TL.w z (pickFB z z z) (TL.en (TC.cD z hh (fun h109 hh => ?_) (fun h109 hh => ?_)))))))
    ·refine TC.a (TL.j z z (TL.en (TC.rt 0 (B.r (S.r (S.r ?_))))))
     replace hh := fin_x hR1 hh
     refine B.r (S.r ?_)
     obtain rfl := so hh
     exact rq [4] ⟨z, z, z⟩
    ·refine TC.skip (B.n (S.n (TC.region (TL.w z (OpVal.succ z z z (by omega)) (TL.i z z (TL.en ?_))))))
     obtain ⟨hh, hlt110⟩ := nxt_x hR1 hh
     exact lf ((k104 + 1), ()) hlt110 hh (Sub.pre 0 z)
  ·refine TC.exit (S.x (S.x ?_))
   replace hh := fin_x hR1 hh
   refine TC.exitHere (S.n (TC.a (TL.j z z (TL.en (TC.ret ?_)))))
   obtain rfl := so hh
   exact rq [4] ⟨z, z, z⟩
noncomputable def Cu_ (x0 : Fst) (k110 : Nat) : Option ((Nat) ⊕ (Int)) :=
 iteO (decide (((k110 : Nat) : Int) < ((x0.arcs.length : Nat) : Int))) (bnd (D1_ ((nth x0.arcs k110 Arc.zero).frm) x0.states) (fun v46 => iteO (!v46) (fin (some 1)) (bnd (D1_ ((nth x0.arcs k110 Arc.zero).to) x0.states) (fun v53 => iteO (!v53) (fin (some 1)) (iteO (decide ((nth x0.arcs k110 Arc.zero).set = BSet.zero)) (fin (some 1)) (iteO (decide (1024 < ((((nth x0.arcs k110 Arc.zero).out).length : Nat) : Int))) (fin (some 1)) (nxt (k110 + 1)))))))) (fin (some 0))
noncomputable def C6_ (x0 : Fst) : Option (Int) :=
 iteO (decide (x0.states < 0)) (some 1) (iteO (decide (1024 < x0.states)) (some 1) (iteO (decide (16384 < ((x0.arcs.length : Nat) : Int))) (some 1) (bnd (C1_ x0.starts x0.states) (fun v22 => iteO (!v22) (some 1) (bnd (C1_ x0.ends x0.states) (fun v29 => iteO (!v29) (some 1) (iter (fun q : Nat => Cu_ x0 q) 0)))))))
theorem Dq_ {σ : Store} {x0 : Fst} {a0_0 : Option Addr} {c0_0 : Nat} {a0_1 : Option Addr} {c0_1 : Nat} {a0_2 : Option Addr} {c0_2 : Nat} (f0_0 : RS σ 2 encTip (.slice a0_0 x0.starts.length c0_0) x0.starts) (f0_1 : RS σ 2 encTip (.slice a0_1 x0.ends.length c0_1) x0.ends) (f0_2 : RS σ 8 encArc (.slice a0_2 x0.arcs.length c0_2) x0.arcs) {r : Int} (hh : C6_ x0 = some r) :
  Con Tryz.prog 24 #[.agg #[.int .i64 x0.states, .slice a0_0 x0.starts.length c0_0, .slice a0_1 x0.ends.length c0_1, .slice a0_2 x0.arcs.length c0_2]] σ [] (PureP (.int .i64 r) σ) := by
 dsimp only [C6_] at hh
 have f0_0b := f0_0.rv.big
 have f0_1b := f0_1.rv.big
 have f0_2b := f0_2.rv.big
 refine Con.mk (n := 67) Tryz.func24 z z z (fun w0 => ?_)
 refine TC.a (TL.op z (boxA z z z z (fun b101 => ?_)))
 refine TL.i z z (TL.en (TC.seq (TC.a (TL.w z (fieldLoc z fo25_0 z) (TL.w z (loadLoc z ag3 z (i := 0) z z) (TL.w z (OpVal.lss z z z) (TL.j z z (TL.split 8 z (fun h103 => ?_) (fun h103 => ?_)))))))))
 ·replace hh := iteO_t h103 hh
  replace h103 := of_decide_eq_true h103
  refine TL.f z (TL.f z (TL.f z (TL.w z (pickTB z z z) (TL.j z z (TL.f z (TL.f z (TL.f z (TL.f z (TL.w z (pickTB z z z) (TL.en (TC.t z (TC.a (TL.i z z (TL.en (TC.rt 0 (S.r ?_))))))))))))))))
  obtain rfl := so hh
  exact rq [2] ⟨z, z, z⟩
 ·replace hh := iteO_f h103 hh
  replace h103 := of_decide_eq_false h103
  refine TL.g z (fieldLoc z fo25_0 z) (TL.g z (loadLoc z ag3 z (i := 0) z z) (TL.g z (OpVal.gtr z z z) (TL.w z (pickFB z z z) (TL.j z z (TL.split 13 z (fun h104 => ?_) (fun h104 => ?_))))))
  ·replace hh := iteO_t h104 hh
   replace h104 := of_decide_eq_true h104
   refine TL.f z (TL.f z (TL.f z (TL.f z (TL.w z (pickTB z z z) (TL.en (TC.t z (TC.a (TL.i z z (TL.en (TC.rt 0 (S.r ?_)))))))))))
   obtain rfl := so hh
   exact rq [2] ⟨z, z, z⟩
  ·replace hh := iteO_f h104 hh
   replace h104 := of_decide_eq_false h104
   refine TL.g z (fieldLoc z fo25_3 z) (TL.g z (loadLoc z ag23 z (i := 0) z z) (TL.g z (lenC z underlying23 z) (TL.g z (OpVal.gtr z z z) (TL.w z (pickFB z z z) (TL.en (TC.cD z hh (fun h105 hh => ?_) (fun h105 hh => ?_)))))))
   ·refine TC.a (TL.i z z (TL.en (TC.rt 0 (S.r ?_))))
    obtain rfl := so hh
    exact rq [2] ⟨z, z, z⟩
   ·refine TC.skip (S.n (TC.seq (TC.a (TL.w z (fieldLoc z fo25_1 z) (TL.w z (loadLoc z ag22 z (i := 0) z z) (TL.w z (fieldLoc z fo25_0 z) (TL.w z (loadLoc z ag3 z (i := 0) z z) ?_)))))))
    obtain ⟨v22, u22, hh⟩ := bnd_e hh
    refine TL.op z (callP (E7_ f0_0 u22) z z pf51 z z z ?_)
    refine TL.w z (OpVal.not z z) (TL.j z z (TL.split 25 z (fun h106 => ?_) (fun h106 => ?_)))
    ·replace hh := iteO_t h106 hh
     refine TL.f z (TL.f z (TL.f z (TL.f z (TL.f z (TL.f z (TL.w z (pickTB z z z) (TL.en (TC.t z (TC.a (TL.i z z (TL.en (TC.rt 0 (S.r ?_)))))))))))))
     obtain rfl := so hh
     exact rq [2] ⟨z, z, z⟩
    ·replace hh := iteO_f h106 hh
     refine TL.g z (fieldLoc z fo25_2 z) (TL.g z (loadLoc z ag22 z (i := 0) z z) (TL.g z (fieldLoc z fo25_0 z) (TL.g z (loadLoc z ag3 z (i := 0) z z) ?_)))
     obtain ⟨v29, u29, hh⟩ := bnd_e hh
     refine TL.gon z z z z z (callP (E7_ f0_1 u29) z z pf51 z z z ?_)
     refine TL.g z (OpVal.not z z) (TL.w z (pickFB z z z) (TL.en (TC.cB z hh (fun h107 hh => ?_) (fun h107 hh => ?_))))
     ·refine TC.a (TL.i z z (TL.en (TC.rt 0 (S.r ?_))))
      obtain rfl := so hh
      exact rq [2] ⟨z, z, z⟩
     ·refine TC.skip (S.n (TC.seq (TC.a (TL.w z (fieldLoc z fo25_3 z) (TL.w z (loadLoc z ag23 z (i := 0) z z) (TL.w z (lenC z underlying23 z) (TL.i z z (TL.en (TC.block (TC.loopG (α := (Nat) × (Unit)) (rgs [(2, 1), (4, 1), (36, 31)]) (fun g => [(36, .int .i64 ((g.1 : Nat) : Int))]) (fun g => [Res.cells b101 #[.int .i64 x0.states, .slice a0_0 x0.starts.length c0_0, .slice a0_1 x0.ends.length c0_1, .slice a0_2 x0.arcs.length c0_2] 25]) (fun g => σ) (fun g => iter (fun q : Nat => Cu_ x0 q) g.1 = some r) (fun g => rounds (fun q : Nat => Cu_ x0 q) g.1) (0, ()) (Sub.pre 1 z) z (by repeat (first | exact trivial | refine ⟨z, ?_⟩)) hh (fun g1 j1 hg1 => ?_)))))))))))
      obtain ⟨k110, _⟩ := g1
      have hh := hg1; clear hg1
      try dsimp only
      obtain ⟨z1, hh, hR1⟩ := iter_e hh
      dsimp only [Cu_] at hh
      refine TC.a (TL.w z (OpVal.lss z z z) (TL.en (TC.seq (TC.cD z hh (fun h111 hh => ?_) (fun h111 hh => ?_)))))
      ·refine TC.skip (S.n (TC.seq (TC.block (TC.a (TL.w z (indexN z underlying23 sz59 z z f0_2.rv.sl (by omega)) (TL.w z (loadSA Arc.zero z ag59 sz59 z f0_2 (by omega) (by omega)) (TL.op z (OpOk.alloc z ze59 z z (fun b112 => ?_)))))))))
       refine TL.op z (storeAll z sz59 z z z z z z ?_)
       refine TL.en (TC.a (TL.w z (fieldLoc z fo59_0 z) (TL.w z (loadLoc z ag3 z (i := 0) z z) (TL.w z (fieldLoc z fo25_0 z) (TL.w z (loadLoc z ag3 z (i := 1) z z) ?_)))))
       obtain ⟨v46, u46, hh⟩ := bnd_e hh
       refine TL.op z (callP (E2_ u46) z z pf52 z z z ?_)
       refine TL.w z (OpVal.not z z) (TL.j z z (TL.split 46 z (fun h114 => ?_) (fun h114 => ?_)))
       ·replace hh := iteO_t h114 hh
        refine TL.f z (TL.f z (TL.f z (TL.f z (TL.f z (TL.f z (TL.w z (pickTB z z z) (TL.j z z (TL.f z (TL.f z (TL.f z (TL.f z (TL.w z (pickTB z z z) (TL.j z z (TL.f z (TL.f z (TL.f z (TL.f z (TL.w z (pickTB z z z) (TL.en (TC.t z (TC.a (TL.i z z (TL.en (TC.rt 0 (B.r (S.r (S.r ?_)))))))))))))))))))))))))))
        replace hh := fin_x hR1 hh
        refine B.r (S.r ?_)
        obtain rfl := so hh
        exact rq [2] ⟨z, z, z⟩
       ·replace hh := iteO_f h114 hh
        refine TL.g z (fieldLoc z fo59_1 z) (TL.g z (loadLoc z ag3 z (i := 0) z z) (TL.g z (fieldLoc z fo25_0 z) (TL.g z (loadLoc z ag3 z (i := 1) z z) ?_)))
        obtain ⟨v53, u53, hh⟩ := bnd_e hh
        refine TL.gon z z z z z (callP (E2_ u53) z z pf52 z z z ?_)
        refine TL.g z (OpVal.not z z) (TL.w z (pickFB z z z) (TL.j z z (TL.split 54 z (fun h115 => ?_) (fun h115 => ?_))))
        ·replace hh := iteO_t h115 hh
         refine TL.f z (TL.f z (TL.f z (TL.f z (TL.w z (pickTB z z z) (TL.j z z (TL.f z (TL.f z (TL.f z (TL.f z (TL.w z (pickTB z z z) (TL.en (TC.t z (TC.a (TL.i z z (TL.en (TC.rt 0 (B.r (S.r (S.r ?_)))))))))))))))))))
         replace hh := fin_x hR1 hh
         refine B.r (S.r ?_)
         obtain rfl := so hh
         exact rq [2] ⟨z, z, z⟩
        ·replace hh := iteO_f h115 hh
         refine TL.g z (fieldLoc z fo59_2 z) (TL.g z (loadLocA z ag57 sz57 z (i := 0) z z z) (TL.g z (buildArrL z underlying57 sz55 ze57 z) (TL.g z (eqlSet (s := (nth x0.arcs k110 Arc.zero).set) (t := BSet.zero) z underlying57 underlying55 ag55 sz55 eg57 z z) (TL.w z (pickFB z z z) (TL.j z z (TL.split 60 z (fun h116 => ?_) (fun h116 => ?_)))))))
         ·replace hh := iteO_t h116 hh
          replace h116 := of_decide_eq_true h116
          refine TL.f z (TL.f z (TL.f z (TL.f z (TL.w z (pickTB z z z) (TL.en (TC.t z (TC.a (TL.i z z (TL.en (TC.rt 0 (B.r (S.r (S.r ?_)))))))))))))
          replace hh := fin_x hR1 hh
          refine B.r (S.r ?_)
          obtain rfl := so hh
          exact rq [2] ⟨z, z, z⟩
         ·replace hh := iteO_f h116 hh
          replace h116 := of_decide_eq_false h116
          refine TL.g z (fieldLoc z fo59_3 z) (TL.g z (loadLoc z ag9 z (i := 0) z z) (TL.g z (lenBs z underlying9 z) (TL.g z (OpVal.gtr z z z) (TL.w z (pickFB z z z) (TL.en (TC.cD z hh (fun h117 hh => ?_) (fun h117 hh => ?_)))))))
          ·refine TC.a (TL.i z z (TL.en (TC.rt 0 (B.r (S.r (S.r ?_))))))
           replace hh := fin_x hR1 hh
           refine B.r (S.r ?_)
           obtain rfl := so hh
           exact rq [2] ⟨z, z, z⟩
          ·refine TC.skip (B.n (S.n (TC.region (TL.w z (OpVal.succ z z z (by omega)) (TL.i z z (TL.en ?_))))))
           obtain ⟨hh, hlt118⟩ := nxt_x hR1 hh
           exact lf ((k110 + 1), ()) hlt118 hh (Sub.f [1] 1)
      ·refine TC.exit (S.x (S.x ?_))
       replace hh := fin_x hR1 hh
       refine TC.exitHere (S.n (TC.a (TL.i z z (TL.en (TC.rt 0 ?_)))))
       obtain rfl := so hh
       exact rq [2] ⟨z, z, z⟩
end Go.Proofs.YtcaaiphgikpgjaaGreatDoor
end

section
namespace Go.Proofs.YtcaaiphgikpgjaaGreatDoor
open Go Go.E Go.E.OpVal Go.E.OpOk Go.Proofs.Tryz
private theorem ag4 : Go.E.aggOf Tryz.prog 4 = some false := by kernel_rfl
private theorem fo59_4 : Go.E.foOf Tryz.prog 59 4 = some 7 := by kernel_rfl
private theorem pf107 : Go.E.plainF Tryz.prog 107 = true := by kernel_rfl
private theorem pf132 : Go.E.plainF Tryz.prog 132 = true := by kernel_rfl
private theorem pf168 : Go.E.plainF Tryz.prog 168 = true := by kernel_rfl
private theorem pf71 : Go.E.plainF Tryz.prog 71 = true := by kernel_rfl
private theorem pf85 : Go.E.plainF Tryz.prog 85 = true := by kernel_rfl
private theorem pf86 : Go.E.plainF Tryz.prog 86 = true := by kernel_rfl
private theorem pf90 : Go.E.plainF Tryz.prog 90 = true := by kernel_rfl
private theorem pf91 : Go.E.plainF Tryz.prog 91 = true := by kernel_rfl
noncomputable def B6_ (x0 : List UInt8) (x1 : List UInt8) : Option (Int) :=
 some (Lib.compareBytes x0 x1)
theorem D8_ {σ : Store} {x0 : List UInt8} {x1 : List UInt8}  {r : Int} (hh : B6_ x0 x1 = some r) :
  Con Tryz.prog 107 #[.string (bs x0), .string (bs x1)] σ [] (PureP (.int .i64 r) σ) := by
 dsimp only [B6_] at hh
 refine Con.mk (n := 8) Tryz.func107 z z z (fun w0 => ?_)
 refine TC.a (TL.i z z (TL.en (TC.a (TL.w z (moveStr (.inl z) z) (TL.w z (moveStr (.inl z) z) (TL.w z (cmpStr z z Tryz.func143 (by kernel_rfl) (by kernel_rfl) (by kernel_rfl) (by kernel_rfl) z z) (TL.i z z (TL.en (TC.ret ?_)))))))))
 obtain rfl := so hh
 exact rq [4] ⟨z, z, z⟩
noncomputable def C4_ (x0 : List UInt8) (x1 : List UInt8) : Option (Int) :=
 bnd (B6_ x0 x1) (fun v4 => some v4)
theorem El_ {σ : Store} {x0 : List UInt8} {x1 : List UInt8}  {r : Int} (hh : C4_ x0 x1 = some r) :
  Con Tryz.prog 71 #[.string (bs x0), .string (bs x1)] σ [] (PureP (.int .i64 r) σ) := by
 dsimp only [C4_] at hh
 refine Con.mk (n := 8) Tryz.func71 z z z (fun w0 => ?_)
 refine TC.a (TL.i z z (TL.en (TC.a (TL.w z (moveStr (.inl z) z) (TL.w z (moveStr (.inl z) z) ?_)))))
 obtain ⟨v4, u4, hh⟩ := bnd_e hh
 refine TL.op z (callP (D8_ u4) z z pf107 z z z ?_)
 refine TL.i z z (TL.en (TC.ret ?_))
 obtain rfl := so hh
 exact rq [4] ⟨z, z, z⟩
noncomputable def isNaNU (x0 : Nat) : Option (Bool) :=
 some (decide (x0 ≠ x0))
theorem isNaNU_con {σ : Store} {x0 : Nat}  {r : Bool} (hh : isNaNU x0 = some r) :
  Con Tryz.prog 168 #[.int .u64 ((x0 : Nat) : Int)] σ [] (PureP (.bool r) σ) := by
 dsimp only [isNaNU] at hh
 refine Con.mk (n := 6) Tryz.func168 z z z (fun w0 => ?_)
 refine TC.a (TL.j z z (TL.en (TC.a (TL.i z z (TL.i z z (TL.w z (neqU z z z) (TL.j z z (TL.en (TC.ret ?_)))))))))
 obtain rfl := so hh
 exact rq [2] ⟨z, z, z⟩
noncomputable def compareU (x0 : Nat) (x1 : Nat) : Option (Int) :=
 bnd (isNaNU x0) (fun v3 => bnd (isNaNU x1) (fun v6 => iteO v3 (iteO v6 (some 0) (some (-1))) (iteO v6 (some 1) (iteO (decide (x0 < x1)) (some (-1)) (iteO (decide (x1 < x0)) (some 1) (some 0))))))
theorem compareU_con {σ : Store} {x0 : Nat} {x1 : Nat}  {r : Int} (hh : compareU x0 x1 = some r) :
  Con Tryz.prog 132 #[.int .u64 ((x0 : Nat) : Int), .int .u64 ((x1 : Nat) : Int)] σ [] (PureP (.int .i64 r) σ) := by
 dsimp only [compareU] at hh
 refine Con.mk (n := 20) Tryz.func132 z z z (fun w0 => ?_)
 refine TC.a (TL.i z z (TL.en (TC.a (TL.i z z ?_))))
 obtain ⟨v3, u3, hh⟩ := bnd_e hh
 refine TL.op z (callP (isNaNU_con u3) z z pf168 z z z ?_)
 refine TL.j z z (TL.en (TC.a (TL.i z z ?_)))
 obtain ⟨v6, u6, hh⟩ := bnd_e hh
 refine TL.op z (callP (isNaNU_con u6) z z pf168 z z z ?_)
 refine TL.j z z (TL.en (TC.seq (TC.a (TL.j z z (TL.en (TC.cB z hh (fun h101 hh => ?_) (fun h101 hh => ?_)))))))
 ·refine TC.seq (TC.a (TL.j z z (TL.en (TC.cB z hh (fun h102 hh => ?_) (fun h102 hh => ?_)))))
  ·refine TC.a (TL.i z z (TL.en (TC.ret (S.r (S.r ?_)))))
   obtain rfl := so hh
   exact rq [4] ⟨z, z, z⟩
  ·refine TC.skip (S.n (TC.a (TL.i z z (TL.en (TC.ret (S.r ?_))))))
   obtain rfl := so hh
   exact rq [4] ⟨z, z, z⟩
 ·refine TC.skip (S.n (TC.seq (TC.a (TL.j z z (TL.en (TC.cB z hh (fun h103 hh => ?_) (fun h103 hh => ?_)))))))
  ·refine TC.a (TL.i z z (TL.en (TC.ret (S.r ?_))))
   obtain rfl := so hh
   exact rq [4] ⟨z, z, z⟩
  ·refine TC.skip (S.n (TC.seq (TC.a (TL.i z z (TL.i z z (TL.w z (lssU z z z) (TL.en (TC.cD z hh (fun h104 hh => ?_) (fun h104 hh => ?_)))))))))
   ·refine TC.a (TL.i z z (TL.en (TC.ret (S.r ?_))))
    obtain rfl := so hh
    exact rq [4] ⟨z, z, z⟩
   ·refine TC.skip (S.n (TC.seq (TC.a (TL.i z z (TL.i z z (TL.w z (gtrU z z z) (TL.en (TC.cD z hh (fun h105 hh => ?_) (fun h105 hh => ?_)))))))))
    ·refine TC.a (TL.i z z (TL.en (TC.ret (S.r ?_))))
     obtain rfl := so hh
     exact rq [4] ⟨z, z, z⟩
    ·refine TC.skip (S.n (TC.a (TL.i z z (TL.en (TC.ret ?_)))))
     obtain rfl := so hh
     exact rq [4] ⟨z, z, z⟩
noncomputable def Ee_ (x0 : Bool) : Option (Int) :=
 iteO x0 (some 1) (some 0)
theorem Fg_ {σ : Store} {x0 : Bool}  {r : Int} (hh : Ee_ x0 = some r) :
  Con Tryz.prog 91 #[.bool x0] σ [] (PureP (.int .i64 r) σ) := by
 dsimp only [Ee_] at hh
 refine Con.mk (n := 4) Tryz.func91 z z z (fun w0 => ?_)
 refine TC.a (TL.i z z (TL.en (TC.seq (TC.a (TL.j z z (TL.en (TC.cB z hh (fun h101 hh => ?_) (fun h101 hh => ?_))))))))
 ·refine TC.a (TL.i z z (TL.en (TC.ret (S.r ?_))))
  obtain rfl := so hh
  exact rq [2] ⟨z, z, z⟩
 ·refine TC.skip (S.n (TC.a (TL.i z z (TL.en (TC.ret ?_)))))
  obtain rfl := so hh
  exact rq [2] ⟨z, z, z⟩
noncomputable def Dl_ (x0 : List Int) (k103 : Nat) : Option ((Nat) ⊕ (Int)) :=
 iteO (decide (((k103 : Nat) : Int) < ((x0.length : Nat) : Int))) (iteO (decide ((nth x0 k103 (0 : Int)) ≠ 0)) (fin (some (nth x0 k103 (0 : Int)))) (nxt (k103 + 1))) (fin (some 0))
noncomputable def Ff_ (x0 : List Int) : Option (Int) :=
 iter (fun q : Nat => Dl_ x0 q) 0
theorem F3_ {σ : Store} {x0 : List Int} {a0_0 : Option Addr} {c0_0 : Nat} (f0_0 : RS σ 1 Go.E.encI (.slice a0_0 x0.length c0_0) x0) {r : Int} (hh : Ff_ x0 = some r) :
  Con Tryz.prog 85 #[.slice a0_0 x0.length c0_0] σ [] (PureP (.int .i64 r) σ) := by
 dsimp only [Ff_] at hh
 have f0_0b := f0_0.rv.big
 refine Con.mk (n := 18) Tryz.func85 z z z (fun w0 => ?_)
 refine TC.a (TL.i z z (TL.en (TC.a (TL.i z z (TL.en (TC.seq (TC.a (TL.s z z (TL.w z (lenC z underlying26 z) (TL.i z z (TL.en (TC.block (TC.loopG (α := (Nat) × (Unit)) (rgs [(2, 1), (5, 1), (8, 9)]) (fun g => [(8, .int .i64 ((g.1 : Nat) : Int))]) (fun g => []) (fun g => σ) (fun g => iter (fun q : Nat => Dl_ x0 q) g.1 = some r) (fun g => rounds (fun q : Nat => Dl_ x0 q) g.1) (0, ()) (Sub.pre 0 z) z (by repeat (first | exact trivial | refine ⟨z, ?_⟩)) hh (fun g1 j1 hg1 => ?_))))))))))))))
 obtain ⟨k103, _⟩ := g1
 have hh := hg1; clear hg1
 try dsimp only
 obtain ⟨z1, hh, hR1⟩ := iter_e hh
 dsimp only [Dl_] at hh
 refine TC.a (TL.w z (OpVal.lss z z z) (TL.en (TC.seq (TC.cD z hh (fun h104 hh => ?_) (fun h104 hh => ?_)))))
 ·refine TC.skip (S.n (TC.seq (TC.block (TC.a (TL.w z (indexN z underlying26 sz3 z z f0_0.rv.sl (by omega)) (TL.w z (loadS1 (0 : Int) z ag3 z f0_0 (by omega) z) (TL.i z z (TL.en (TC.a (TL.i z z (TL.i z z (TL.w z (OpVal.neq z z z) (TL.en (TC.cD z hh (fun h105 hh => ?_) (fun h105 hh => ?_)))))))))))))))
  ·refine TC.a (TL.i z z (TL.i z z (TL.en (TC.ret (B.r (S.r (S.r ?_)))))))
   replace hh := fin_x hR1 hh
   refine B.r (S.r ?_)
   obtain rfl := so hh
   exact rq [2] ⟨z, z, z⟩
  ·refine TC.skip (B.n (S.n (TC.region (TL.w z (OpVal.succ z z z (by omega)) (TL.i z z (TL.en ?_))))))
   obtain ⟨hh, hlt106⟩ := nxt_x hR1 hh
   exact lf ((k103 + 1), ()) hlt106 hh (Sub.pre 0 z)
 ·refine TC.exit (S.x (S.x ?_))
  replace hh := fin_x hR1 hh
  refine TC.exitHere (S.n (TC.a (TL.i z z (TL.i z z (TL.en (TC.ret ?_))))))
  obtain rfl := so hh
  exact rq [2] ⟨z, z, z⟩
noncomputable def Dw_ (x0 : Tip) (x1 : Tip) : Option (Int) :=
 bnd (Cj_ x0.state x1.state) (fun v8 => bnd (C4_ x0.out x1.out) (fun v13 => bnd (Ff_ [v8, v13]) (fun v15 => some v15)))
theorem Fr_ {σ : Store} {x0 : Tip} {x1 : Tip}  {r : Int} (hh : Dw_ x0 x1 = some r) :
  Con Tryz.prog 62 #[.agg #[.int .i64 x0.state, .string (bs x0.out)], .agg #[.int .i64 x1.state, .string (bs x1.out)]] σ [] (PureP (.int .i64 r) σ) := by
 dsimp only [Dw_] at hh
 refine Con.mk (n := 17) Tryz.func62 z z z (fun w0 => ?_)
 refine TC.a (TL.op z (boxA z z z z (fun b101 => ?_)))
 refine TL.op z (boxA z z z z (fun b103 => ?_))
 refine TL.i z z (TL.en (TC.seq ?_))
 obtain ⟨v8, u8, hh⟩ := bnd_e hh
 obtain ⟨v13, u13, hh⟩ := bnd_e hh
 obtain ⟨v15, u15, hh⟩ := bnd_e hh
 refine TC.draw [] (by kernel_rfl) (TA.a 0 z (fieldLoc z fo41_0 z) z (TA.b 1 z (loadLoc z ag3 z (i := 1) z z) z (TA.a 2 z (fieldLoc z fo41_0 z) z (TA.b 3 z (loadLoc z ag3 z (i := 0) z z) z (TA.a 5 z (fieldLoc z fo41_1 z) z (TA.b 6 z (loadLoc z ag9 z (i := 1) z z) z (TA.a 7 z (fieldLoc z fo41_1 z) z (TA.b 8 z (loadLoc z ag9 z (i := 0) z z) z (TA.ac 4 z (callP (Du_ u8) z z pf86 z z z (k0 ?_)))))))))))
 refine TA.ac 9 z (callP (El_ u13) z z pf71 z z z (k0 ?_))
 refine TA.ac 10 z (OpOk.lit (enc := Go.E.encI) [v8, v13] z underlying26 sz3 ze3 z z z Go.E.encI_len (by decide) (by decide) (0 : Int) z (by decide) z (by decide) Go.E.encI_one (fun a110 c111 => (k1 ?_)))
 refine TA.ac 11 z (callK (Con.lend Go.E.encI_len (fun _ hle114 hr113 => F3_ hr113 u15)) z z pf85 z z z z (k1 ?_))
 refine TA.a 12 z (moveI (.inr z) z) z (TA.dn (S.n (TC.rt 0 ?_)))
 obtain rfl := so hh
 exact rq [4] ⟨z, z, z⟩
noncomputable def compareUs_b1 (x0 : List Nat) (x1 : List Nat) (k103 : Nat) : Option ((Nat) ⊕ (Int)) :=
 iteO (decide (((k103 : Nat) : Int) < ((x0.length : Nat) : Int))) (iteO (decide (((x1.length : Nat) : Int) ≤ ((k103 : Nat) : Int))) (fin (some 1)) (grd (k103 < x1.length) (bnd (compareU (nth x0 k103 (0 : Nat)) (nth x1 k103 (0 : Nat))) (fun v23 => iteO (decide (v23 ≠ 0)) (fin (some v23)) (nxt (k103 + 1)))))) (fin (iteO (decide (((x0.length : Nat) : Int) < ((x1.length : Nat) : Int))) (some (-1)) (some 0)))
noncomputable def compareUs (x0 : List Nat) (x1 : List Nat) : Option (Int) :=
 iter (fun q : Nat => compareUs_b1 x0 x1 q) 0
theorem compareUs_con {σ : Store} {x0 : List Nat} {a0_0 : Option Addr} {c0_0 : Nat} {x1 : List Nat} {a1_0 : Option Addr} {c1_0 : Nat} (f0_0 : RS σ 1 encW (.slice a0_0 x0.length c0_0) x0) (f1_0 : RS σ 1 encW (.slice a1_0 x1.length c1_0) x1) {r : Int} (hh : compareUs x0 x1 = some r) :
  Con Tryz.prog 90 #[.slice a0_0 x0.length c0_0, .slice a1_0 x1.length c1_0] σ [] (PureP (.int .i64 r) σ) := by
 dsimp only [compareUs] at hh
 have f0_0b := f0_0.rv.big
 have f1_0b := f1_0.rv.big
 refine Con.mk (n := 36) Tryz.func90 z z z (fun w0 => ?_)
 refine TC.a (TL.i z z (TL.en (TC.seq (TC.a (TL.s z z (TL.w z (lenC z underlying158 z) (TL.i z z (TL.en (TC.block (TC.loopG (α := (Nat) × (Unit)) (rgs [(4, 5), (11, 20)]) (fun g => [(11, .int .i64 ((g.1 : Nat) : Int))]) (fun g => []) (fun g => σ) (fun g => iter (fun q : Nat => compareUs_b1 x0 x1 q) g.1 = some r) (fun g => rounds (fun q : Nat => compareUs_b1 x0 x1 q) g.1) (0, ()) (Sub.pre 0 z) z (by repeat (first | exact trivial | refine ⟨z, ?_⟩)) hh (fun g1 j1 hg1 => ?_)))))))))))
 obtain ⟨k103, _⟩ := g1
 have hh := hg1; clear hg1
 try dsimp only
 obtain ⟨z1, hh, hR1⟩ := iter_e hh
 dsimp only [compareUs_b1] at hh
 refine TC.a (TL.w z (OpVal.lss z z z) (TL.en (TC.seq (TC.cD z hh (fun h104 hh => ?_) (fun h104 hh => ?_)))))
 ·refine TC.skip (S.n (TC.seq (TC.block (TC.a (TL.i z z (TL.w z (indexN z underlying158 sz55 z z f0_0.rv.sl (by omega)) (TL.w z (loadS1 (0 : Nat) z ag55 z f0_0 (by omega) z) (TL.i z z (TL.i z z (TL.en (TC.seq (TC.a (TL.i z z (TL.s z z (TL.w z (lenC z underlying158 z) (TL.w z (OpVal.geq z z z) (TL.en (TC.cD z hh (fun h105 hh => ?_) (fun h105 hh => ?_)))))))))))))))))))
  ·refine TC.a (TL.i z z (TL.en (TC.ret (S.r (B.r (S.r (S.r ?_)))))))
   replace hh := fin_x hR1 hh
   refine B.r (S.r ?_)
   obtain rfl := so hh
   exact rq [4] ⟨z, z, z⟩
  ·refine TC.skip (S.n (TC.a (TL.s z z (TL.i z z ?_))))
   have u18 := grd_c hh
   replace hh := grd_t hh
   refine TL.w z (indexN z underlying158 sz55 z z f1_0.rv.sl (by omega)) (TL.w z (loadS1 (0 : Nat) z ag55 z f1_0 (by omega) z) (TL.i z z (TL.en (TC.a (TL.i z z (TL.i z z ?_))))))
   obtain ⟨v23, u23, hh⟩ := bnd_e hh
   refine TL.op z (callP (compareU_con u23) z z pf132 z z z ?_)
   refine TL.i z z (TL.en (TC.a (TL.i z z (TL.w z (OpVal.neq z z z) (TL.en (TC.cD z hh (fun h106 hh => ?_) (fun h106 hh => ?_)))))))
   ·refine TC.a (TL.i z z (TL.i z z (TL.en (TC.ret (B.r (S.r (S.r ?_)))))))
    replace hh := fin_x hR1 hh
    refine B.r (S.r ?_)
    obtain rfl := so hh
    exact rq [4] ⟨z, z, z⟩
   ·refine TC.skip (B.n (S.n (TC.region (TL.w z (OpVal.succ z z z (by omega)) (TL.i z z (TL.en ?_))))))
    obtain ⟨hh, hlt107⟩ := nxt_x hR1 hh
    exact lf ((k103 + 1), ()) hlt107 hh (Sub.pre 0 z)
 ·refine TC.exit (S.x (S.x ?_))
  replace hh := fin_x hR1 hh
  refine TC.exitHere (S.n (TC.seq (TC.a (TL.s z z (TL.w z (lenC z underlying158 z) (TL.s z z (TL.w z (lenC z underlying158 z) (TL.w z (OpVal.lss z z z) (TL.en (TC.cD z hh (fun h108 hh => ?_) (fun h108 hh => ?_)))))))))))
  ·refine TC.a (TL.i z z (TL.en (TC.ret (S.r ?_))))
   obtain rfl := so hh
   exact rq [4] ⟨z, z, z⟩
  ·refine TC.skip (S.n (TC.a (TL.i z z (TL.en (TC.ret ?_)))))
   obtain rfl := so hh
   exact rq [4] ⟨z, z, z⟩
noncomputable def Dy_ (x0 : Arc) (x1 : Arc) : Option (Int) :=
 bnd (Cj_ x0.frm x1.frm) (fun v8 => bnd (Cj_ x0.to x1.to) (fun v13 => bnd (compareUs [x0.set.a, x0.set.b, x0.set.c, x0.set.d] [x1.set.a, x1.set.b, x1.set.c, x1.set.d]) (fun v18 => bnd (C4_ x0.out x1.out) (fun v23 => bnd (Ee_ x0.copy) (fun v26 => bnd (Ee_ x1.copy) (fun v29 => bnd (Cj_ v26 v29) (fun v30 => bnd (Ff_ [v8, v13, v18, v23, v30]) (fun v32 => some v32))))))))
theorem Fp_ {σ : Store} {x0 : Arc} {x1 : Arc}  {r : Int} (hh : Dy_ x0 x1 = some r) :
  Con Tryz.prog 64 #[.agg #[.int .i64 x0.frm, .int .i64 x0.to, .int .u64 ((x0.set.a : Nat) : Int), .int .u64 ((x0.set.b : Nat) : Int), .int .u64 ((x0.set.c : Nat) : Int), .int .u64 ((x0.set.d : Nat) : Int), .string (bs x0.out), .bool x0.copy], .agg #[.int .i64 x1.frm, .int .i64 x1.to, .int .u64 ((x1.set.a : Nat) : Int), .int .u64 ((x1.set.b : Nat) : Int), .int .u64 ((x1.set.c : Nat) : Int), .int .u64 ((x1.set.d : Nat) : Int), .string (bs x1.out), .bool x1.copy]] σ [] (PureP (.int .i64 r) σ) := by
 dsimp only [Dy_] at hh
 refine Con.mk (n := 34) Tryz.func64 z z z (fun w0 => ?_)
 refine TC.a (TL.op z (boxA z z z z (fun b101 => ?_)))
 refine TL.op z (boxA z z z z (fun b103 => ?_))
 refine TL.i z z (TL.en (TC.seq ?_))
 obtain ⟨v8, u8, hh⟩ := bnd_e hh
 obtain ⟨v13, u13, hh⟩ := bnd_e hh
 obtain ⟨v18, u18, hh⟩ := bnd_e hh
 obtain ⟨v23, u23, hh⟩ := bnd_e hh
 obtain ⟨v26, u26, hh⟩ := bnd_e hh
 obtain ⟨v29, u29, hh⟩ := bnd_e hh
 obtain ⟨v30, u30, hh⟩ := bnd_e hh
 obtain ⟨v32, u32, hh⟩ := bnd_e hh
 refine TC.draw [] (by kernel_rfl) (TA.a 0 z (fieldLoc z fo59_0 z) z (TA.b 1 z (loadLoc z ag3 z (i := 1) z z) z (TA.a 2 z (fieldLoc z fo59_0 z) z (TA.b 3 z (loadLoc z ag3 z (i := 0) z z) z (TA.a 5 z (fieldLoc z fo59_1 z) z (TA.b 6 z (loadLoc z ag3 z (i := 1) z z) z (TA.a 7 z (fieldLoc z fo59_1 z) z (TA.b 8 z (loadLoc z ag3 z (i := 0) z z) z (TA.a 10 z (fieldLoc z fo59_2 z) z (TA.b 11 z (sliceArr z underlying57 sz55 z) z (TA.a 12 z (fieldLoc z fo59_2 z) z (TA.b 13 z (sliceArr z underlying57 sz55 z) z (TA.a 15 z (fieldLoc z fo59_3 z) z (TA.b 16 z (loadLoc z ag9 z (i := 1) z z) z (TA.a 17 z (fieldLoc z fo59_3 z) z (TA.b 18 z (loadLoc z ag9 z (i := 0) z z) z (TA.a 20 z (fieldLoc z fo59_4 z) z (TA.b 21 z (loadLoc z ag4 z (i := 1) z z) z (TA.a 23 z (fieldLoc z fo59_4 z) z (TA.b 24 z (loadLoc z ag4 z (i := 0) z z) z (TA.ac 4 z (callP (Du_ u8) z z pf86 z z z (k0 ?_)))))))))))))))))))))))
 refine TA.ac 9 z (callP (Du_ u13) z z pf86 z z z (k0 ?_))
 refine TA.front 1 z z (TA.ac 14 z (callK (Con.lendC (fun _ hle116 hr114 => Con.lendC (fun _ hle117 hr115 => compareUs_con (RS.ofCells (l := [x0.set.a, x0.set.b, x0.set.c, x0.set.d]) (hle117 _ _ hr114) encW_len encW_one z z z) (RS.ofCells (l := [x1.set.a, x1.set.b, x1.set.c, x1.set.d]) hr115 encW_len encW_one z z z) u18))) z z pf90 z z z z ⟨(fun w h => sees_of (Store.le.refl _) (fun r hr => mem_pick [1, 0] z hr) w h), ?_⟩))
 refine TA.ac 19 z (callP (El_ u23) z z pf71 z z z ⟨(fun w h => sees_of (Store.le.refl _) (fun r hr => mem_pick [1, 0] z hr) w h), ?_⟩)
 refine TA.ac 22 z (callP (Fg_ u26) z z pf91 z z z ⟨(fun w h => sees_of (Store.le.refl _) (fun r hr => mem_pick [1, 0] z hr) w h), ?_⟩)
 refine TA.ac 25 z (callP (Fg_ u29) z z pf91 z z z ⟨(fun w h => sees_of (Store.le.refl _) (fun r hr => mem_pick [1, 0] z hr) w h), ?_⟩)
 refine TA.ac 26 z (callP (Du_ u30) z z pf86 z z z ⟨(fun w h => sees_of (Store.le.refl _) (fun r hr => mem_pick [1, 0] z hr) w h), ?_⟩)
 refine TA.ac 27 z (OpOk.lit (enc := Go.E.encI) [v8, v13, v18, v23, v30] z underlying26 sz3 ze3 z z z Go.E.encI_len (by decide) (by decide) (0 : Int) z (by decide) z (by decide) Go.E.encI_one (fun a118 c119 => ⟨(fun w h => sees_of (Store.le.refl _) (fun r hr => mem_pick [2, 1] z hr) w h), ?_⟩))
 refine TA.ac 28 z (callK (Con.lend Go.E.encI_len (fun _ hle122 hr121 => F3_ hr121 u32)) z z pf85 z z z z ⟨(fun w h => sees_of (Store.le.refl _) (fun r hr => mem_pick [2, 1] z hr) w h), ?_⟩)
 refine TA.a 29 z (moveI (.inr z) z) z (TA.dn (S.n (TC.rt 0 ?_)))
 obtain rfl := so hh
 exact rq [4] ⟨z, z, z⟩
end Go.Proofs.YtcaaiphgikpgjaaGreatDoor
end

section
namespace Go.E
open Go
section
variable {S R : Type} {step : S → Option (S ⊕ R)}
theorem iter_any {y no : R} (f : Nat → S) (p : Nat → Bool) (n : Nat) (hs : ∀ k, k < n → p k = false → step (f k) = some (.inl (f (k + 1)))) (hy : ∀ k, k < n → p k = true → step (f k) = some (.inr y))
    (hd : step (f n) = some (.inr no)) : ∀ k, k ≤ n → iter step (f k) = some (bif (List.range n).any (fun i => decide (k ≤ i) && p i) then y else no) := by
  intro k hk
  obtain ⟨m, rfl⟩ : ∃ m, k = n - m := ⟨n - k, by omega⟩
  induction m with
  | zero =>
    have : (List.range n).any (fun i => decide (n - 0 ≤ i) && p i) = false := by
      rw [List.any_eq_false]; intro i hi; have := List.mem_range.1 hi; simp; omega
    rw [this]; exact iter_done hd
  | succ m ih =>
    by_cases h : m < n
    · have e : n - (m + 1) + 1 = n - m := by omega
      cases hp : p (n - (m + 1)) with
      | true =>
        have : (List.range n).any (fun i => decide (n - (m + 1) ≤ i) && p i) = true := by
          rw [List.any_eq_true]; exact ⟨n - (m + 1), List.mem_range.2 (by omega), by simp [hp]⟩
        rw [this]; exact iter_done (hy _ (by omega) hp)
      | false =>
        have h1 := hs (n - (m + 1)) (by omega) hp
        rw [e] at h1
        have : (List.range n).any (fun i => decide (n - (m + 1) ≤ i) && p i) = (List.range n).any (fun i => decide (n - m ≤ i) && p i) := by
          rw [Bool.eq_iff_iff, List.any_eq_true, List.any_eq_true]
          constructor
          · rintro ⟨i, hi, hx⟩
            simp only [Bool.and_eq_true, decide_eq_true_eq] at hx
            refine ⟨i, hi, ?_⟩
            have : i ≠ n - (m + 1) := fun h => by rw [h, hp] at hx; exact absurd hx.2 Bool.false_ne_true
            simp [hx.2]; omega
          · rintro ⟨i, hi, hx⟩
            simp only [Bool.and_eq_true, decide_eq_true_eq] at hx
            exact ⟨i, hi, by simp [hx.2]; omega⟩
        rw [this]
        exact iter_next h1 (ih (by omega))
    · have e : n - (m + 1) = n - m := by omega
      rw [e]; exact ih (by omega)
theorem iter_any0 {y no : R} (f : Nat → S) (p : Nat → Bool) (n : Nat) (hs : ∀ k, k < n → p k = false → step (f k) = some (.inl (f (k + 1)))) (hy : ∀ k, k < n → p k = true → step (f k) = some (.inr y))
    (hd : step (f n) = some (.inr no)) : iter step (f 0) = some (bif (List.range n).any p then y else no) := by
  have := iter_any f p n hs hy hd 0 (by omega)
  simpa using this
theorem iter_seq0 {r : R} (f : Nat → S) (n : Nat) (hs : ∀ k, k < n → step (f k) = some (.inl (f (k + 1)))) (hd : step (f n) = some (.inr r)) : iter step (f 0) = some r := iter_seq f n hs hd 0 (by omega)
end
theorem range_any {α : Type} (l : List α) (d : α) (p : α → Bool) : (List.range l.length).any (fun i => p (nth l i d)) = l.any p := by
  rw [Bool.eq_iff_iff, List.any_eq_true, List.any_eq_true]
  constructor
  · rintro ⟨i, hi, h⟩
    have hi := List.mem_range.1 hi
    exact ⟨nth l i d, List.mem_of_getElem? (getD_some l hi d), h⟩
  · rintro ⟨x, hx, h⟩
    obtain ⟨i, hi, rfl⟩ := List.getElem_of_mem hx
    refine ⟨i, List.mem_range.2 hi, ?_⟩
    have : nth l i d = l[i] := by have := getD_some l hi d; rw [List.getElem?_eq_getElem hi] at this; exact (Option.some.inj this).symm
    rw [this]; exact h
theorem take_snoc {α : Type} (l : List α) {k : Nat} (h : k < l.length) (d : α) : l.take (k + 1) = l.take k ++ [nth l k d] := by
  rw [List.take_add_one, getD_some l h d]; rfl
theorem nth_mem' {α : Type} {l : List α} {i : Nat} (h : i < l.length) (d : α) : nth l i d ∈ l := List.mem_of_getElem? (getD_some l h d)
end Go.E
end

section
namespace Go.Proofs.YtcaaiphgikpgjaaGreatDoor
open Go Go.E Go.Sort
structure GoodCmp {α : Type} (c : α → α → Int) : Prop where
  eq : ∀ x y, c x y = 0 ↔ x = y
  anti : ∀ x y, c x y < 0 ↔ 0 < c y x
  trans : ∀ x y z, c x y < 0 → c y z < 0 → c x z < 0
theorem GoodCmp.total {α : Type} {c : α → α → Int} (h : GoodCmp c) : TotalCmp c where
  swo := {
    irrefl := fun x => by have := (h.eq x x).2 rfl; simp [ltOf, this]
    trans := fun x y z h1 h2 => by
      simp only [ltOf, decide_eq_true_eq] at *
      exact h.trans x y z h1 h2
    ntrans := fun x y z h1 h2 => by
      simp only [ltOf, decide_eq_false_iff_not] at *
      intro h3
      by_cases e1 : x = y
      · subst e1; exact h2 h3
      · by_cases e2 : y = z
        · subst e2; exact h1 h3
        · have n1 : c x y ≠ 0 := fun e => e1 ((h.eq _ _).1 e)
          have n2 : c y z ≠ 0 := fun e => e2 ((h.eq _ _).1 e)
          have h4 : c z y < 0 := (h.anti _ _).2 (by omega)
          exact h1 (h.trans _ _ _ h3 h4) }
  tot := fun x y h1 h2 => by
    simp only [ltOf, decide_eq_false_iff_not] at *
    refine (h.eq x y).1 ?_
    have := (h.anti y x)
    omega
def corI (a b : Int) : Int := if a ≠ 0 then a else b
theorem GoodCmp.lex {α β γ : Type} {c : β → β → Int} {d : γ → γ → Int} (hc : GoodCmp c) (hd : GoodCmp d) (f : α → β) (g : α → γ) (hfg : ∀ x y, f x = f y → g x = g y → x = y) : GoodCmp fun x y => corI (c (f x) (f y)) (d (g x) (g y)) where
  eq x y := by
    unfold corI
    by_cases h : c (f x) (f y) = 0
    · have hf := (hc.eq _ _).1 h
      simp only [h, ne_eq, not_true_eq_false, if_false, hd.eq]
      exact ⟨fun hg => hfg x y hf hg, fun e => by rw [e]⟩
    · simp only [ne_eq, h, not_false_eq_true, if_true, false_iff]
      intro e; subst e; exact h ((hc.eq _ _).2 rfl)
  anti x y := by
    unfold corI
    have h1 := hc.anti (f x) (f y)
    have h2 := hc.anti (f y) (f x)
    have h3 := hd.anti (g x) (g y)
    by_cases h : c (f x) (f y) = 0
    · have hf := (hc.eq _ _).1 h
      have h' : c (f y) (f x) = 0 := (hc.eq _ _).2 hf.symm
      simp only [h, h', ne_eq, not_true_eq_false, if_false]; exact h3
    · have h' : c (f y) (f x) ≠ 0 := fun e => h ((hc.eq _ _).2 ((hc.eq _ _).1 e).symm)
      simp only [h, h', ne_eq, not_false_eq_true, if_true]; exact h1
  trans x y z := by
    unfold corI
    intro h1 h2
    by_cases a : c (f x) (f y) = 0
    · have ea := (hc.eq _ _).1 a
      rw [a] at h1; simp only [ne_eq, not_true_eq_false, if_false] at h1
      rw [ea]
      by_cases b : c (f y) (f z) = 0
      · rw [b] at h2 ⊢
        simp only [ne_eq, not_true_eq_false, if_false] at h2 ⊢
        exact hd.trans _ _ _ h1 h2
      · simp only [ne_eq, b, not_false_eq_true, if_true] at h2 ⊢; exact h2
    · simp only [ne_eq, a, not_false_eq_true, if_true] at h1
      by_cases b : c (f y) (f z) = 0
      · have eb := (hc.eq _ _).1 b
        rw [← eb]
        simp only [ne_eq, a, not_false_eq_true, if_true]; exact h1
      · simp only [ne_eq, b, not_false_eq_true, if_true] at h2
        have h3 := hc.trans _ _ _ h1 h2
        have h4 : c (f x) (f z) ≠ 0 := by omega
        simp only [ne_eq, h4, not_false_eq_true, if_true]; exact h3
def cmpI (x y : Int) : Int := if x < y then -1 else if y < x then 1 else 0
theorem cmpI_good : GoodCmp cmpI where
  eq x y := by unfold cmpI; (repeat' split) <;> omega
  anti x y := by unfold cmpI; (repeat' split) <;> omega
  trans x y z := by unfold cmpI; (repeat' split) <;> omega
def cmpN (x y : Nat) : Int := if x < y then -1 else if y < x then 1 else 0
theorem cmpN_good : GoodCmp cmpN where
  eq x y := by unfold cmpN; (repeat' split) <;> omega
  anti x y := by unfold cmpN; (repeat' split) <;> omega
  trans x y z := by unfold cmpN; (repeat' split) <;> omega
theorem cmpB_eq : ∀ a b : List UInt8, Lib.compareBytes a b = 0 ↔ a = b
  | [], [] => by simp [Lib.compareBytes]
  | [], _ :: _ => by simp [Lib.compareBytes]
  | _ :: _, [] => by simp [Lib.compareBytes]
  | x :: a, y :: b => by
    simp only [Lib.compareBytes]
    split
    · rename_i h; simp; intro e; subst e; exact absurd h (UInt8.lt_irrefl _)
    · rename_i h
      split
      · rename_i h'; simp; intro e; subst e; exact absurd h' (UInt8.lt_irrefl _)
      · rename_i h'
        have : x = y := UInt8.le_antisymm (UInt8.not_lt.1 h') (UInt8.not_lt.1 h)
        subst this
        simp [cmpB_eq a b]
theorem cmpB_anti : ∀ a b : List UInt8, Lib.compareBytes a b < 0 ↔ 0 < Lib.compareBytes b a
  | [], [] => by simp [Lib.compareBytes]
  | [], _ :: _ => by simp [Lib.compareBytes]
  | _ :: _, [] => by simp [Lib.compareBytes]
  | x :: a, y :: b => by
    simp only [Lib.compareBytes]
    by_cases h : x < y
    · have h' : ¬ y < x := fun h2 => UInt8.lt_irrefl _ (UInt8.lt_trans h h2)
      simp [h, h']
    · by_cases h' : y < x
      · simp [h, h']
      · simp [h, h', cmpB_anti a b]
theorem cmpB_trans : ∀ a b c : List UInt8, Lib.compareBytes a b < 0 → Lib.compareBytes b c < 0 → Lib.compareBytes a c < 0
  | [], [], c, h, _ => by simp [Lib.compareBytes] at h
  | [], _ :: _, [], _, h => by simp [Lib.compareBytes] at h
  | [], _ :: _, _ :: _, _, _ => by simp [Lib.compareBytes]
  | _ :: _, [], c, h, _ => by simp [Lib.compareBytes] at h
  | _ :: _, _ :: _, [], _, h => by simp [Lib.compareBytes] at h
  | x :: a, y :: b, z :: c, h1, h2 => by
    simp only [Lib.compareBytes] at *
    by_cases hxy : x < y
    · by_cases hyz : y < z
      · have := UInt8.lt_trans hxy hyz; simp [this]
      · by_cases hzy : z < y
        · simp [hyz, hzy] at h2
        · have : y = z := UInt8.le_antisymm (UInt8.not_lt.1 hzy) (UInt8.not_lt.1 hyz)
          subst this; simp [hxy]
    · by_cases hyx : y < x
      · simp [hxy, hyx] at h1
      · have : x = y := UInt8.le_antisymm (UInt8.not_lt.1 hyx) (UInt8.not_lt.1 hxy)
        subst this
        simp only [UInt8.lt_irrefl, if_false] at h1
        by_cases hyz : x < z
        · simp [hyz]
        · by_cases hzy : z < x
          · simp [hyz, hzy] at h2
          · simp only [hyz, hzy, if_false] at h2 ⊢
            exact cmpB_trans a b c h1 h2
theorem cmpB_good : GoodCmp Lib.compareBytes := ⟨cmpB_eq, cmpB_anti, cmpB_trans⟩
def cmpBool (x y : Bool) : Int := cmpI (if x then 1 else 0) (if y then 1 else 0)
theorem cmpBool_good : GoodCmp cmpBool where
  eq x y := by cases x <;> cases y <;> decide
  anti x y := by cases x <;> cases y <;> decide
  trans x y z := by cases x <;> cases y <;> cases z <;> decide
theorem lt_dec {k n : Nat} (h : k < n) : decide (((k : Nat) : Int) < ((n : Nat) : Int)) = true := decide_eq_true (by omega)
end Go.Proofs.YtcaaiphgikpgjaaGreatDoor
end

section
namespace Go.Proofs.YtcaaiphgikpgjaaGreatDoor
open Go Go.E Go.Sort
theorem D5_ (x y : Int) : Cj_ x y = some (cmpI x y) := by
  unfold Cj_ Ex_ cmpI
  simp only [bnd, Option.bind_some, ne_eq, not_true_eq_false, decide_false, iteO_false]
  by_cases h : x < y
  · simp [h]
  · by_cases h' : y < x <;> simp [h, h']
theorem compareU_eq (x y : Nat) : compareU x y = some (cmpN x y) := by
  unfold compareU isNaNU cmpN
  simp only [bnd, Option.bind_some, ne_eq, not_true_eq_false, decide_false, iteO_false]
  by_cases h : x < y
  · simp [h]
  · by_cases h' : y < x <;> simp [h, h']
theorem Ew_ (x y : List UInt8) : C4_ x y = some (Lib.compareBytes x y) := rfl
def orL : List Int → Int
  | [] => 0
  | a :: l => corI a (orL l)
theorem Gp_ (l : List Int) : ∀ m k, l.length = k + m → iter (fun q : Nat => Dl_ l q) k = some (orL (l.drop k)) := by
  intro m
  induction m with
  | zero =>
    intro k hk
    refine iter_done ?_
    rw [List.drop_of_length_le (by omega)]
    simp only [Dl_, decide_eq_false (show ¬ ((k : Nat) : Int) < ((l.length : Nat) : Int) by omega), iteO_false]; rfl
  | succ m ih =>
    intro k hk
    have hlt : k < l.length := by omega
    have hd : l.drop k = nth l k 0 :: l.drop (k + 1) := by
      rw [List.drop_eq_getElem_cons hlt]
      have := getD_some l hlt 0
      rw [List.getElem?_eq_getElem hlt, Option.some.injEq] at this
      rw [this]
    rw [hd, orL, corI]
    by_cases h : nth l k 0 ≠ 0
    · rw [if_pos h]
      refine iter_done ?_
      simp only [Dl_, decide_eq_true (show ((k : Nat) : Int) < ((l.length : Nat) : Int) by omega), iteO_true, decide_eq_true h]; rfl
    · rw [if_neg h]
      refine iter_next (s' := k + 1) ?_ (ih (k + 1) (by omega))
      simp only [Dl_, decide_eq_true (show ((k : Nat) : Int) < ((l.length : Nat) : Int) by omega), iteO_true, decide_eq_false h]; rfl
theorem F6_ (l : List Int) : Ff_ l = some (orL l) := by
  unfold Ff_; rw [Gp_ l l.length 0 (by omega), List.drop_zero]
def cmpTip (x y : Tip) : Int := corI (cmpI x.state y.state) (corI (Lib.compareBytes x.out y.out) 0)
theorem compareTips_eq (x y : Tip) : Dw_ x y = some (cmpTip x y) := by
  unfold Dw_
  rw [bnd_some (D5_ _ _), bnd_some (Ew_ _ _), bnd_some (F6_ _)]; rfl
theorem corI_zero (a : Int) : corI a 0 = a := by unfold corI; split <;> omega
theorem cmpTip_good : GoodCmp cmpTip := by
  have := GoodCmp.lex cmpI_good cmpB_good Tip.state Tip.out (fun x y h1 h2 => by cases x; cases y; simp_all)
  have e : cmpTip = fun x y => corI (cmpI x.state y.state) (Lib.compareBytes x.out y.out) := by
    funext x y; unfold cmpTip; rw [corI_zero]
  rw [e]; exact this
def cmpSet (s t : BSet) : Int := corI (cmpN s.a t.a) (corI (cmpN s.b t.b) (corI (cmpN s.c t.c) (cmpN s.d t.d)))
theorem compareUs_four (a b c d a' b' c' d' : Nat) : compareUs [a, b, c, d] [a', b', c', d'] = some (corI (cmpN a a') (corI (cmpN b b') (corI (cmpN c c') (cmpN d d')))) := by
  have st : ∀ (k x y : Nat), k < 4 → nth [a, b, c, d] k 0 = x → nth [a', b', c', d'] k 0 = y → (cmpN x y ≠ 0 → iter (fun q : Nat => compareUs_b1 [a, b, c, d] [a', b', c', d'] q) k = some (cmpN x y)) ∧ (∀ r, cmpN x y = 0 → iter (fun q : Nat => compareUs_b1 [a, b, c, d] [a', b', c', d'] q) (k + 1) = some r → iter (fun q : Nat => compareUs_b1 [a, b, c, d] [a', b', c', d'] q) k = some r) := by
    intro k x y hk hx hy
    have e1 : ((k : Nat) : Int) < (([a, b, c, d].length : Nat) : Int) := by simp; omega
    have e2 : ¬ (([a', b', c', d'].length : Nat) : Int) ≤ ((k : Nat) : Int) := by simp; omega
    refine ⟨fun h => iter_done ?_, fun r h hr => iter_next (s' := k + 1) ?_ hr⟩
    · simp only [compareUs_b1, decide_eq_true e1, iteO_true, decide_eq_false e2, iteO_false]
      rw [grd_mk (by simp; omega), hx, hy, bnd_some (compareU_eq _ _), decide_eq_true h]; rfl
    · simp only [compareUs_b1, decide_eq_true e1, iteO_true, decide_eq_false e2, iteO_false]
      rw [grd_mk (by simp; omega), hx, hy, bnd_some (compareU_eq _ _), h]; rfl
  have fi : iter (fun q : Nat => compareUs_b1 [a, b, c, d] [a', b', c', d'] q) 4 = some 0 := iter_done (by simp [compareUs_b1])
  have go : ∀ (k x y : Nat) (r : Int), k < 4 → nth [a, b, c, d] k 0 = x → nth [a', b', c', d'] k 0 = y → iter (fun q : Nat => compareUs_b1 [a, b, c, d] [a', b', c', d'] q) (k + 1) = some r → iter (fun q : Nat => compareUs_b1 [a, b, c, d] [a', b', c', d'] q) k = some (corI (cmpN x y) r) := by
    intro k x y r hk hx hy hr
    obtain ⟨h1, h2⟩ := st k x y hk hx hy
    by_cases h : cmpN x y = 0
    · rw [show corI (cmpN x y) r = r from by simp [corI, h]]; exact h2 r h hr
    · rw [show corI (cmpN x y) r = cmpN x y from by simp [corI, h]]; exact h1 h
  have h3 := go 3 d d' 0 (by omega) rfl rfl fi
  rw [corI_zero] at h3
  exact go 0 a a' _ (by omega) rfl rfl (go 1 b b' _ (by omega) rfl rfl (go 2 c c' _ (by omega) rfl rfl h3))
theorem cmpSet_good : GoodCmp cmpSet := by
  have h1 := GoodCmp.lex (α := Nat × Nat) cmpN_good cmpN_good Prod.fst Prod.snd (fun x y h1 h2 => Prod.ext h1 h2)
  have h2 := GoodCmp.lex (α := Nat × Nat × Nat) cmpN_good h1 Prod.fst Prod.snd (fun x y h1 h2 => Prod.ext h1 h2)
  have h3 := GoodCmp.lex (α := BSet) cmpN_good h2 BSet.a (fun s => (s.b, s.c, s.d)) (fun x y h1 h2 => by
    cases x; cases y; simp_all)
  exact h3
def cmpArc (x y : Arc) : Int := corI (cmpI x.frm y.frm) (corI (cmpI x.to y.to) (corI (cmpSet x.set y.set) (corI (Lib.compareBytes x.out y.out) (corI (cmpBool x.copy y.copy) 0))))
theorem Fm_ (b : Bool) : Ee_ b = some (if b then 1 else 0) := by cases b <;> rfl
theorem compareArcs_eq (x y : Arc) : Dy_ x y = some (cmpArc x y) := by
  unfold Dy_
  rw [bnd_some (D5_ _ _), bnd_some (D5_ _ _), bnd_some (compareUs_four ..), bnd_some (Ew_ _ _), bnd_some (Fm_ _), bnd_some (Fm_ _), bnd_some (D5_ _ _), bnd_some (F6_ _)]; rfl
theorem cmpArc_good : GoodCmp cmpArc := by
  have h1 := GoodCmp.lex (α := List UInt8 × Bool) cmpB_good cmpBool_good Prod.fst Prod.snd (fun x y h1 h2 => Prod.ext h1 h2)
  have h2 := GoodCmp.lex (α := BSet × List UInt8 × Bool) cmpSet_good h1 Prod.fst Prod.snd (fun x y h1 h2 => Prod.ext h1 h2)
  have h3 := GoodCmp.lex (α := Int × BSet × List UInt8 × Bool) cmpI_good h2 Prod.fst Prod.snd (fun x y h1 h2 => Prod.ext h1 h2)
  have h4 := GoodCmp.lex (α := Arc) cmpI_good h3 Arc.frm (fun s => (s.to, s.set, s.out, s.copy)) (fun x y h1 h2 => by
    cases x; cases y; simp_all)
  have e : cmpArc = fun x y => corI (cmpI x.frm y.frm) (corI (cmpI x.to y.to) (corI (cmpSet x.set y.set) (corI (Lib.compareBytes x.out y.out) (cmpBool x.copy y.copy)))) := by
    funext x y; unfold cmpArc; rw [corI_zero]
  rw [e]; exact h4
end Go.Proofs.YtcaaiphgikpgjaaGreatDoor
end

section
namespace Go.Proofs.YtcaaiphgikpgjaaGreatDoor
open Go Go.E
instance : Inhabited Tip := ⟨Tip.zero⟩
instance : Inhabited Arc := ⟨Arc.zero⟩
theorem Gy_ {σ : Store} {a : Option Addr} {c : Nat} {l : List Tip} : Con Tryz.prog 83 #[.slice a l.length c, .func (.func 62) #[] #[]] σ [Res.rowS 41 2 encTip (.slice a l.length c) l] (SortP 41 2 encTip a c l (sortL cmpTip l) σ) :=
  Con.sortK (k := 2) layT0 rfl Tryz.isAgg41 Tryz.sizeOf41 encTip_len encTip_one cmpTip_good.total (fun args w => run_callFunc (by kernel_rfl) args w) (fun x y τ => Fr_ (compareTips_eq x y))
theorem Gx_ {σ : Store} {a : Option Addr} {c : Nat} {l : List Arc} : Con Tryz.prog 88 #[.slice a l.length c, .func (.func 64) #[] #[]] σ [Res.rowS 59 8 encArc (.slice a l.length c) l] (SortP 59 8 encArc a c l (sortL cmpArc l) σ) :=
  Con.sortK (k := 8) layA0 rfl Tryz.isAgg59 Tryz.sizeOf59 encArc_len encArc_one cmpArc_good.total (fun args w => run_callFunc (by kernel_rfl) args w) (fun x y τ => Fp_ (compareArcs_eq x y))
end Go.Proofs.YtcaaiphgikpgjaaGreatDoor
end

section
namespace Go.Proofs.YtcaaiphgikpgjaaGreatDoor
open Go Go.E Go.E.OpVal Go.E.OpOk Go.Proofs.Tryz
private theorem ag25 : Go.E.aggOf Tryz.prog 25 = some true := by kernel_rfl
private theorem by41 : Go.E.byOf Tryz.prog 41 = some 24 := by kernel_rfl
private theorem by59 : Go.E.byOf Tryz.prog 59 = some 72 := by kernel_rfl
private theorem eg41 : Tryz.prog.eqGuardType Tryz.prog.depth 41 = false := by kernel_rfl
private theorem eg59 : Tryz.prog.eqGuardType Tryz.prog.depth 59 = false := by kernel_rfl
private theorem es41 (x y : Tip) : Go.E.EqAt Tryz.prog 2 41 (.agg (Go.E.encTip x).toArray) (.agg (Go.E.encTip y).toArray) (decide (x = y)) :=
 (EqAt.struct (ts := [(false, 3, 0), (false, 9, 1)]) (by kernel_rfl) (by kernel_rfl) (by kernel_rfl) (EqC.one (by kernel_rfl) rfl rfl (EqAt.int underlying3 x.state y.state) (EqC.one (by kernel_rfl) rfl rfl (EqAt.str underlying9 x.out y.out) EqC.nil))).of (by rw [Bool.eq_iff_iff]; cases x; cases y; simp)
private theorem es59 (x y : Arc) : Go.E.EqAt Tryz.prog 3 59 (.agg (Go.E.encArc x).toArray) (.agg (Go.E.encArc y).toArray) (decide (x = y)) :=
 (EqAt.struct (ts := [(false, 3, 0), (false, 3, 1), (false, 57, 2), (false, 9, 6), (false, 4, 7)]) (by kernel_rfl) (by kernel_rfl) (by kernel_rfl) (EqC.one (by kernel_rfl) rfl rfl (EqAt.int underlying3 x.frm y.frm |>.up (by decide)) (EqC.one (by kernel_rfl) rfl rfl (EqAt.int underlying3 x.to y.to |>.up (by decide)) (EqC.agg (s := 4) (us := Go.E.setA x.set) (vs := Go.E.setA y.set) (by kernel_rfl) (by kernel_rfl) rfl rfl (EqAt.set underlying57 underlying55 (by kernel_rfl) (by kernel_rfl) x.set y.set) (EqC.one (by kernel_rfl) rfl rfl (EqAt.str underlying9 x.out y.out |>.up (by decide)) (EqC.one (by kernel_rfl) rfl rfl (EqAt.bool underlying4 x.copy y.copy |>.up (by decide)) EqC.nil)))))).of (by rw [Bool.eq_iff_iff]; cases x; cases y; simp)
private theorem pf24 : Go.E.plainF Tryz.prog 24 = true := by kernel_rfl
private theorem pf61 : Go.E.plainF Tryz.prog 61 = true := by kernel_rfl
private theorem pf63 : Go.E.plainF Tryz.prog 63 = true := by kernel_rfl
private theorem pf82 : Go.E.plainF Tryz.prog 82 = true := by kernel_rfl
private theorem pf83 : Go.E.plainF Tryz.prog 83 = true := by kernel_rfl
private theorem pf84 : Go.E.plainF Tryz.prog 84 = true := by kernel_rfl
private theorem pf87 : Go.E.plainF Tryz.prog 87 = true := by kernel_rfl
private theorem pf88 : Go.E.plainF Tryz.prog 88 = true := by kernel_rfl
private theorem pf89 : Go.E.plainF Tryz.prog 89 = true := by kernel_rfl
private theorem pl25 : Go.E.plOf Tryz.prog 25 = some #[(0, 1), (1, 1), (2, 1), (3, 1)] := by kernel_rfl
private theorem sz25 : Go.E.szOf Tryz.prog 25 = some 4 := by kernel_rfl
private theorem ze25 : Go.E.zeroOf Tryz.prog 25 = some (.agg #[.int .i64 0, .slice none 0 0, .slice none 0 0, .slice none 0 0]) := by kernel_rfl
theorem Gs_ {σ : Store} {a : Option Addr} {c : Nat} {l : List Tip} (hl : RS σ 2 encTip (.slice a l.length c) l) (hsz : l.length * 24 ≤ 140737488355328) :
  Con Tryz.prog 82 #[.slice a l.length c] σ [] (RowP 41 2 encTip l σ) := by
 have hb := hl.rv.big
 refine Con.mk (n := 8) Tryz.func82 z z z (fun w0 => ?_)
 refine TC.a (TL.s z z (TL.nilS 41 2 encTip (TL.en (TC.seq (TC.a (TL.s z z (TL.w z (eqlNilSl z underlying22 z z) (TL.en (TC.cond z (fun h2 => ?_) (fun h2 => ?_))))))))))
 ·refine TC.a (TL.s z z (TL.nilS 41 2 encTip (TL.en (TC.ret (S.r ?_)))))
  cases a with
  | some _ => simp at h2
  | none =>
   obtain rfl := hl.none_nil
   exact ret1R z z
 ·refine TC.skip (S.n (TC.a (TL.op z (lit0 (enc := encTip) z z underlying22 sz41 z z (fun a4 c5 => ?_)))))
  refine TL.s z z (TL.op z (appendS z z underlying22 sz41 by41 ze41 z z (by decide) z z z (.inl hl) (by simpa using hsz) (by decide) (fun a7 c8 => ?_)))
  exact TL.s z z (TL.en (TC.ret (ret1R z z)))
noncomputable def Ev_ (k125 : Nat) (l128 : List Tip) (k130 : Nat) : Option (((List Tip) × Nat × Nat) ⊕ ((Nat) ⊕ ((List Tip)))) :=
 nxt (l128, k130, (k125 + 1))
noncomputable def Et_ (x0 : List Tip) (k105 : Nat) (l122 : List Tip) (k124 : Nat) (k125 : Nat) : Option (((List Tip) × Nat × Nat) ⊕ ((Nat) ⊕ ((List Tip)))) :=
 iteO (decide (((k125 : Nat) : Int) < (((x0.length - k105) : Nat) : Int))) (grd (k125 < (x0.length - k105)) (grd (0 ≤ (IntKind.i64.wrap (((k125 : Nat) : Int) - 1)) ∧ (IntKind.i64.wrap (((k125 : Nat) : Int) - 1)) < ((x0.length - k105) : Nat)) (iteO (decide (¬ ((nth l122 (k105 + k125) Tip.zero) = (nth l122 (k105 + (IntKind.i64.wrap (((k125 : Nat) : Int) - 1)).toNat) Tip.zero)))) (grd (k125 < (x0.length - k105)) (grd (k124 < l122.length) (Ev_ k125 (l122.set k124 (nth l122 (k105 + k125) Tip.zero)) (k124 + 1)))) (Ev_ k125 l122 k124)))) (fin (grd (k124 ≤ x0.length) (grd (k124 ≤ (l122.take k124 ++ List.replicate (l122.length - k124) Tip.zero).length) (fin (some ((l122.take k124 ++ List.replicate (l122.length - k124) Tip.zero).take k124))))))
noncomputable def Eq_ (x0 : List Tip) (k105 : Nat) : Option ((Nat) ⊕ ((List Tip))) :=
 iteO (decide (((k105 : Nat) : Int) < ((x0.length : Nat) : Int))) (grd (0 ≤ (IntKind.i64.wrap (((k105 : Nat) : Int) - 1)) ∧ (IntKind.i64.wrap (((k105 : Nat) : Int) - 1)) < (x0.length : Int)) (iteO (decide ((nth x0 k105 Tip.zero) = (nth x0 ((IntKind.i64.wrap (((k105 : Nat) : Int) - 1)).toNat) Tip.zero))) (grd (k105 ≤ x0.length) (iter (fun q : (List Tip) × Nat × Nat => Et_ x0 k105 q.1 q.2.1 q.2.2) (x0, k105, 1))) (nxt (k105 + 1)))) (fin (some x0))
noncomputable def compactT (x0 : List Tip) : Option ((List Tip)) :=
 iteO (decide (((x0.length : Nat) : Int) < 2)) (some x0) (iter (fun q : Nat => Eq_ x0 q) 1)
theorem Gg_ {σ : Store} {x0 : List Tip} {a0_1 : Option Addr} {c0_2 : Nat}  {r : (List Tip)} (hh : compactT x0 = some r) :
  Con Tryz.prog 84 #[.slice a0_1 x0.length c0_2] σ [Res.rowS 41 2 encTip (.slice a0_1 x0.length c0_2) x0] (fun v σ' H' => ∃ (a1 : Option Addr), ∃ (c1 : Nat), v = .slice a1 r.length c1 ∧ σ = σ' ∧ H' = [Res.rowS 41 2 encTip (.slice a1 r.length c1) r]) := by
 dsimp only [compactT] at hh
 refine Con.mk (n := 61) Tryz.func84 z z z (fun w0 => ?_)
 refine TC.a (TL.s z z (TL.en (TC.seq (TC.a (TL.s z z (TL.w z (lenC z underlying22 z) (TL.w z (OpVal.lss z z z) (TL.en (TC.cD z hh (fun h102 hh => ?_) (fun h102 hh => ?_))))))))))
 ·refine TC.a (TL.s z z (TL.s z z (TL.en (TC.ret (S.r ?_)))))
  obtain rfl := so hh
  exact ro [Res.rowS 41 2 encTip (.slice a0_1 x0.length c0_2) x0] z (RVs.tmp z RVs.nil) ⟨a0_1, c0_2, z, z, z⟩
 ·refine TC.skip (S.n (TC.seq (TC.a (TL.i z z (TL.en (TC.block (TC.loopG (α := (Nat) × (Unit)) (rgs [(2, 4), (10, 50)]) (fun g => [(3, .int .i64 ((g.1 : Nat) : Int))]) (fun g => [Res.rowS 41 2 encTip (.slice a0_1 x0.length c0_2) x0]) (fun g => σ) (fun g => iter (fun q : Nat => Eq_ x0 q) g.1 = some r) (fun g => rounds (fun q : Nat => Eq_ x0 q) g.1) (1, ()) (Sub.pre 1 z) z (by repeat (first | exact trivial | refine ⟨z, ?_⟩)) hh (fun g1 j1 hg1 => ?_))))))))
  obtain ⟨k105, _⟩ := g1
  have hh := hg1; clear hg1
  try dsimp only
  obtain ⟨z1, hh, hR1⟩ := iter_e hh
  dsimp only [Eq_] at hh
  refine TC.isSl (i := 0) z (fun _ hb106 _ => ?_)
  refine TC.seq (TC.a (TL.i z z (TL.s z z (TL.w z (lenC z underlying22 z) (TL.w z (OpVal.lss z z z) (TL.en (TC.cD z hh (fun h107 hh => ?_) (fun h107 hh => ?_))))))))
  ·refine TC.skip (S.n (TC.seq (TC.block (TC.seq ?_))))
   have u19 := grd_c hh
   replace hh := grd_t hh
   refine TC.draw [] (by kernel_rfl) (TA.a 0 z (moveSl (.inl z) z) z (TA.a 1 z (moveI (.inl z) z) z (TA.isSl (i := 0) z (fun hs110 _ _ => ?_))))
   refine TA.b 2 z (indexN z underlying22 sz41 z z hs110 (by omega)) z (TA.b 3 z (loadOA Tip.zero z ag41 sz41 z (q := 0) z encTip_len (by omega) (by omega)) z (TA.a 4 z (moveSl (.inl z) z) z (TA.a 5 z (moveI (.inl z) z) z (TA.a 6 z (subW z z z) z (TA.isSl (i := 0) z (fun hs111 _ _ => ?_))))))
   refine TA.b 7 z (OpVal.index z underlying22 sz41 z z hs111 u19.1 u19.2) z (TA.b 8 z (loadOA Tip.zero z ag41 sz41 z (q := 0) z encTip_len (by omega) (by omega)) z (TA.a 9 z (eqlSt (p := (nth x0 k105 Tip.zero) = (nth x0 ((IntKind.i64.wrap (((k105 : Nat) : Int) - 1)).toNat) Tip.zero)) z z z eg41 (es41 (nth x0 k105 Tip.zero) (nth x0 ((IntKind.i64.wrap (((k105 : Nat) : Int) - 1)).toNat) Tip.zero)) z) z (TA.dn (S.n (TC.cD z hh (fun h112 hh => ?_) (fun h112 hh => ?_))))))
   ·refine TC.a (TL.s z z (TL.i z z ?_))
    have u24 := grd_c hh
    replace hh := grd_t hh
    refine TL.isSl (i := 0) z (fun hs113 _ _ => ?_)
    obtain ⟨a113, c113, hv113, ho113⟩ := vw_of (k := k105) (size := 2) hs113 (by omega)
    refine TL.w z (ho113 z underlying22 sz41 z z) (TL.s z z (TL.en (TC.seq (TC.a (TL.i z z (TL.en (TC.block (TC.loopG (α := ((List Tip) × Nat × Nat) × (Unit)) (rgs [(3, 1), (5, 1), (29, 25)]) (fun g => [(3, .int .i64 ((g.1.2.1 : Nat) : Int)), (5, .int .i64 ((g.1.2.2 : Nat) : Int))]) (fun g => [Res.rowS 41 2 encTip (.slice a0_1 x0.length c0_2) g.1.1]) (fun g => σ) (fun g => iter (fun q : (List Tip) × Nat × Nat => Et_ x0 k105 q.1 q.2.1 q.2.2) g.1 = some z1 ∧ g.1.1.length = x0.length) (fun g => rounds (fun q : (List Tip) × Nat × Nat => Et_ x0 k105 q.1 q.2.1 q.2.2) g.1) ((x0, k105, 1), ()) (Sub.pre 1 z) z (by repeat (first | exact trivial | refine ⟨z, ?_⟩)) ⟨hh, z⟩ (fun g2 j2 hg2 => ?_)))))))))
    obtain ⟨⟨l122, k124, k125⟩, _⟩ := g2
    obtain ⟨hh, hn123⟩ := hg2
    try dsimp only at hn123 ⊢
    obtain ⟨z2, hh, hR2⟩ := iter_e hh
    dsimp only [Et_] at hh
    have hn123b := hn123
    refine TC.isSl (i := 0) z (fun _ hb126 _ => ?_)
    refine TC.seq (TC.a (TL.i z z (TL.s z z (TL.w z (lenC z underlying22 z) (TL.w z (OpVal.lss z z z) (TL.en (TC.cD z hh (fun h127 hh => ?_) (fun h127 hh => ?_))))))))
    ·refine TC.skip (S.n (TC.cutG (α := ((List Tip) × Nat) × (Unit)) (rgs [(3, 1), (35, 19)]) (fun g => [(3, .int .i64 ((g.1.2 : Nat) : Int))]) (fun g => [Res.rowS 41 2 encTip (.slice a0_1 x0.length c0_2) g.1.1]) (fun g => σ) (fun g => Ev_ k125 g.1.1 g.1.2 = some z2 ∧ g.1.1.length = x0.length) ?_ (fun g j hg => ?_)))
     ·skip
      refine TC.block (TC.seq ?_)
      have u33 := grd_c hh
      replace hh := grd_t hh
      have u38 := grd_c hh
      replace hh := grd_t hh
      refine TC.draw [] (by kernel_rfl) (TA.a 0 z (moveSl (.inl z) z) z (TA.a 1 z (moveI (.inl z) z) z (TA.b 2 z (elVw hv113 (by omega) (indexN z underlying22 sz41 z z hv113.sl (by omega))) z (TA.b 3 z (loadOA Tip.zero z ag41 sz41 z (q := 0) z encTip_len (by omega) (by omega)) z (TA.a 4 z (moveSl (.inl z) z) z (TA.a 5 z (moveI (.inl z) z) z (TA.a 6 z (subW z z z) z (TA.b 7 z (elVw hv113 (by omega) (OpVal.index z underlying22 sz41 z z hv113.sl u38.1 u38.2)) z (TA.b 8 z (loadOA Tip.zero z ag41 sz41 z (q := 0) z encTip_len (by omega) (by omega)) z (TA.a 9 z (neqSt (p := (nth l122 (k105 + k125) Tip.zero) = (nth l122 (k105 + (IntKind.i64.wrap (((k125 : Nat) : Int) - 1)).toNat) Tip.zero)) z z z eg41 (es41 (nth l122 (k105 + k125) Tip.zero) (nth l122 (k105 + (IntKind.i64.wrap (((k125 : Nat) : Int) - 1)).toNat) Tip.zero)) z) z (TA.dn (S.n (TC.cD z hh (fun h131 hh => ?_) (fun h131 hh => ?_))))))))))))))
      ·refine TC.a (TL.s z z (TL.i z z (TL.s z z (TL.i z z ?_))))
       have u45 := grd_c hh
       replace hh := grd_t hh
       refine TL.w z (elVw hv113 (by omega) (indexN z underlying22 sz41 z z hv113.sl (by omega))) (TL.w z (loadOA Tip.zero z ag41 sz41 z (q := 0) z encTip_len (by omega) (by omega)) ?_)
       have u47 := grd_c hh
       replace hh := grd_t hh
       refine TL.isSl (i := 0) z (fun hs132 _ _ => ?_)
       refine TL.w z (indexN z underlying22 sz41 z z hs132 (by omega)) ?_
       have hn133 : (l122.set k124 (nth l122 (k105 + k125) Tip.zero)).length = x0.length := by rw [List.length_set]; exact hn123
       refine TL.op z (storeS (nth l122 (k105 + k125) Tip.zero) z sz41 z z z z encTip_len encTip_one (by omega) (by omega) ?_)
       exact TL.en (TC.region (TL.i z z (TL.w z (OpVal.succ z z z (by omega)) (TL.i z z (TL.nil (B.n (S.n (cf (((l122.set k124 (nth l122 (k105 + k125) Tip.zero)), (k124 + 1)), ()) ⟨hh, hn133⟩ (Sub.pre 1 z)))))))))
      ·exact TC.skip (B.n (S.n (cf ((l122, k124), ()) ⟨hh, hn123⟩ (Sub.pre 1 z))))
     ·skip
      obtain ⟨⟨l128, k130⟩, _⟩ := g
      obtain ⟨hh, hn129⟩ := hg
      try dsimp only at hn129 ⊢
      dsimp only [Ev_] at hh
      have hn129b := hn129
      refine TC.isSl (i := 0) z (fun _ hb134 _ => ?_)
      refine TC.region (TL.i z z (TL.w z (OpVal.succ z z z (by omega)) (TL.i z z (TL.en ?_))))
      obtain ⟨hh, hlt135⟩ := nxt_x hR2 hh
      exact lf ((l128, k130, (k125 + 1)), ()) hlt135 ⟨hh, hn129⟩ (Sub.pre 1 z)
    ·refine TC.exit (S.x (S.x ?_))
     replace hh := fin_x hR2 hh
     refine TC.exitHere (S.n (TC.a (TL.s z z (TL.i z z ?_))))
     have u57 := grd_c hh
     replace hh := grd_t hh
     refine TL.isSl (i := 0) z (fun hs136 _ _ => ?_)
     rw [hn123] at hs136
     obtain ⟨a136, c136, hv136, ho136⟩ := vw_of (k := k124) (size := 2) hs136 (by omega)
     refine TL.w z (ho136 z underlying22 sz41 z z) ?_
     have hn137 : (l122.take k124 ++ List.replicate (l122.length - k124) Tip.zero).length = x0.length := by simp only [List.length_append, List.length_take, List.length_replicate]; try simp only [List.length_replicate] at *; omega
     refine TL.op z (clearV (k := k124) Tip.zero z underlying22 ze41 z z hv136 (by omega) (by omega) encTip_len (by decide) z encTip_one ?_)
     refine TL.en (TC.a (TL.s z z (TL.i z z ?_)))
     rw [← hn137]
     have u61 := grd_c hh
     replace hh := grd_t hh
     refine TL.op z (cutS z underlying22 sz41 z z z z z (by omega) encTip_len ?_)
     refine TL.s z z (TL.en (TC.ret (B.r (S.r (S.r ?_)))))
     replace hh := fin_x hR1 hh
     refine B.r (S.r ?_)
     obtain rfl := so hh
     exact ro [Res.rowS 41 2 encTip (.slice a0_1 ((l122.take k124 ++ List.replicate (l122.length - k124) Tip.zero).take k124).length c0_2) ((l122.take k124 ++ List.replicate (l122.length - k124) Tip.zero).take k124)] z (RVs.tmp z RVs.nil) ⟨a0_1, c0_2, z, z, z⟩
   ·refine TC.skip (B.n (S.n (TC.region (TL.i z z (TL.w z (OpVal.succ z z z (by omega)) (TL.i z z (TL.en ?_)))))))
    obtain ⟨hh, hlt138⟩ := nxt_x hR1 hh
    exact lf ((k105 + 1), ()) hlt138 hh (Sub.pre 1 z)
  ·refine TC.exit (S.x (S.x ?_))
   replace hh := fin_x hR1 hh
   refine TC.exitHere (S.n (TC.a (TL.s z z (TL.s z z (TL.en (TC.ret ?_))))))
   obtain rfl := so hh
   exact ro [Res.rowS 41 2 encTip (.slice a0_1 x0.length c0_2) x0] z (RVs.tmp z RVs.nil) ⟨a0_1, c0_2, z, z, z⟩
theorem Gu_ {σ : Store} {a : Option Addr} {c : Nat} {l : List Arc} (hl : RS σ 8 encArc (.slice a l.length c) l) (hsz : l.length * 72 ≤ 140737488355328) :
  Con Tryz.prog 87 #[.slice a l.length c] σ [] (RowP 59 8 encArc l σ) := by
 have hb := hl.rv.big
 refine Con.mk (n := 8) Tryz.func87 z z z (fun w0 => ?_)
 refine TC.a (TL.s z z (TL.nilS 59 8 encArc (TL.en (TC.seq (TC.a (TL.s z z (TL.w z (eqlNilSl z underlying23 z z) (TL.en (TC.cond z (fun h2 => ?_) (fun h2 => ?_))))))))))
 ·refine TC.a (TL.s z z (TL.nilS 59 8 encArc (TL.en (TC.ret (S.r ?_)))))
  cases a with
  | some _ => simp at h2
  | none =>
   obtain rfl := hl.none_nil
   exact ret1R z z
 ·refine TC.skip (S.n (TC.a (TL.op z (lit0 (enc := encArc) z z underlying23 sz59 z z (fun a4 c5 => ?_)))))
  refine TL.s z z (TL.op z (appendS z z underlying23 sz59 by59 ze59 z z (by decide) z z z (.inl hl) (by simpa using hsz) (by decide) (fun a7 c8 => ?_)))
  exact TL.s z z (TL.en (TC.ret (ret1R z z)))
noncomputable def Es_ (k125 : Nat) (l128 : List Arc) (k130 : Nat) : Option (((List Arc) × Nat × Nat) ⊕ ((Nat) ⊕ ((List Arc)))) :=
 nxt (l128, k130, (k125 + 1))
noncomputable def Er_ (x0 : List Arc) (k105 : Nat) (l122 : List Arc) (k124 : Nat) (k125 : Nat) : Option (((List Arc) × Nat × Nat) ⊕ ((Nat) ⊕ ((List Arc)))) :=
 iteO (decide (((k125 : Nat) : Int) < (((x0.length - k105) : Nat) : Int))) (grd (k125 < (x0.length - k105)) (grd (0 ≤ (IntKind.i64.wrap (((k125 : Nat) : Int) - 1)) ∧ (IntKind.i64.wrap (((k125 : Nat) : Int) - 1)) < ((x0.length - k105) : Nat)) (iteO (decide (¬ ((nth l122 (k105 + k125) Arc.zero) = (nth l122 (k105 + (IntKind.i64.wrap (((k125 : Nat) : Int) - 1)).toNat) Arc.zero)))) (grd (k125 < (x0.length - k105)) (grd (k124 < l122.length) (Es_ k125 (l122.set k124 (nth l122 (k105 + k125) Arc.zero)) (k124 + 1)))) (Es_ k125 l122 k124)))) (fin (grd (k124 ≤ x0.length) (grd (k124 ≤ (l122.take k124 ++ List.replicate (l122.length - k124) Arc.zero).length) (fin (some ((l122.take k124 ++ List.replicate (l122.length - k124) Arc.zero).take k124))))))
noncomputable def Eu_ (x0 : List Arc) (k105 : Nat) : Option ((Nat) ⊕ ((List Arc))) :=
 iteO (decide (((k105 : Nat) : Int) < ((x0.length : Nat) : Int))) (grd (0 ≤ (IntKind.i64.wrap (((k105 : Nat) : Int) - 1)) ∧ (IntKind.i64.wrap (((k105 : Nat) : Int) - 1)) < (x0.length : Int)) (iteO (decide ((nth x0 k105 Arc.zero) = (nth x0 ((IntKind.i64.wrap (((k105 : Nat) : Int) - 1)).toNat) Arc.zero))) (grd (k105 ≤ x0.length) (iter (fun q : (List Arc) × Nat × Nat => Er_ x0 k105 q.1 q.2.1 q.2.2) (x0, k105, 1))) (nxt (k105 + 1)))) (fin (some x0))
noncomputable def compactA (x0 : List Arc) : Option ((List Arc)) :=
 iteO (decide (((x0.length : Nat) : Int) < 2)) (some x0) (iter (fun q : Nat => Eu_ x0 q) 1)
theorem Ge_ {σ : Store} {x0 : List Arc} {a0_1 : Option Addr} {c0_2 : Nat}  {r : (List Arc)} (hh : compactA x0 = some r) :
  Con Tryz.prog 89 #[.slice a0_1 x0.length c0_2] σ [Res.rowS 59 8 encArc (.slice a0_1 x0.length c0_2) x0] (fun v σ' H' => ∃ (a1 : Option Addr), ∃ (c1 : Nat), v = .slice a1 r.length c1 ∧ σ = σ' ∧ H' = [Res.rowS 59 8 encArc (.slice a1 r.length c1) r]) := by
 dsimp only [compactA] at hh
 refine Con.mk (n := 61) Tryz.func89 z z z (fun w0 => ?_)
 refine TC.a (TL.s z z (TL.en (TC.seq (TC.a (TL.s z z (TL.w z (lenC z underlying23 z) (TL.w z (OpVal.lss z z z) (TL.en (TC.cD z hh (fun h102 hh => ?_) (fun h102 hh => ?_))))))))))
 ·refine TC.a (TL.s z z (TL.s z z (TL.en (TC.ret (S.r ?_)))))
  obtain rfl := so hh
  exact ro [Res.rowS 59 8 encArc (.slice a0_1 x0.length c0_2) x0] z (RVs.tmp z RVs.nil) ⟨a0_1, c0_2, z, z, z⟩
 ·refine TC.skip (S.n (TC.seq (TC.a (TL.i z z (TL.en (TC.block (TC.loopG (α := (Nat) × (Unit)) (rgs [(2, 4), (10, 50)]) (fun g => [(3, .int .i64 ((g.1 : Nat) : Int))]) (fun g => [Res.rowS 59 8 encArc (.slice a0_1 x0.length c0_2) x0]) (fun g => σ) (fun g => iter (fun q : Nat => Eu_ x0 q) g.1 = some r) (fun g => rounds (fun q : Nat => Eu_ x0 q) g.1) (1, ()) (Sub.pre 1 z) z (by repeat (first | exact trivial | refine ⟨z, ?_⟩)) hh (fun g1 j1 hg1 => ?_))))))))
  obtain ⟨k105, _⟩ := g1
  have hh := hg1; clear hg1
  try dsimp only
  obtain ⟨z1, hh, hR1⟩ := iter_e hh
  dsimp only [Eu_] at hh
  refine TC.isSl (i := 0) z (fun _ hb106 _ => ?_)
  refine TC.seq (TC.a (TL.i z z (TL.s z z (TL.w z (lenC z underlying23 z) (TL.w z (OpVal.lss z z z) (TL.en (TC.cD z hh (fun h107 hh => ?_) (fun h107 hh => ?_))))))))
  ·refine TC.skip (S.n (TC.seq (TC.block (TC.seq ?_))))
   have u19 := grd_c hh
   replace hh := grd_t hh
   refine TC.draw [] (by kernel_rfl) (TA.a 0 z (moveSl (.inl z) z) z (TA.a 1 z (moveI (.inl z) z) z (TA.isSl (i := 0) z (fun hs110 _ _ => ?_))))
   refine TA.b 2 z (indexN z underlying23 sz59 z z hs110 (by omega)) z (TA.b 3 z (loadOA Arc.zero z ag59 sz59 z (q := 0) z encArc_len (by omega) (by omega)) z (TA.a 4 z (moveSl (.inl z) z) z (TA.a 5 z (moveI (.inl z) z) z (TA.a 6 z (subW z z z) z (TA.isSl (i := 0) z (fun hs111 _ _ => ?_))))))
   refine TA.b 7 z (OpVal.index z underlying23 sz59 z z hs111 u19.1 u19.2) z (TA.b 8 z (loadOA Arc.zero z ag59 sz59 z (q := 0) z encArc_len (by omega) (by omega)) z (TA.a 9 z (eqlSt (p := (nth x0 k105 Arc.zero) = (nth x0 ((IntKind.i64.wrap (((k105 : Nat) : Int) - 1)).toNat) Arc.zero)) z z z eg59 (es59 (nth x0 k105 Arc.zero) (nth x0 ((IntKind.i64.wrap (((k105 : Nat) : Int) - 1)).toNat) Arc.zero)) z) z (TA.dn (S.n (TC.cD z hh (fun h112 hh => ?_) (fun h112 hh => ?_))))))
   ·refine TC.a (TL.s z z (TL.i z z ?_))
    have u24 := grd_c hh
    replace hh := grd_t hh
    refine TL.isSl (i := 0) z (fun hs113 _ _ => ?_)
    obtain ⟨a113, c113, hv113, ho113⟩ := vw_of (k := k105) (size := 8) hs113 (by omega)
    refine TL.w z (ho113 z underlying23 sz59 z z) (TL.s z z (TL.en (TC.seq (TC.a (TL.i z z (TL.en (TC.block (TC.loopG (α := ((List Arc) × Nat × Nat) × (Unit)) (rgs [(3, 1), (5, 1), (29, 25)]) (fun g => [(3, .int .i64 ((g.1.2.1 : Nat) : Int)), (5, .int .i64 ((g.1.2.2 : Nat) : Int))]) (fun g => [Res.rowS 59 8 encArc (.slice a0_1 x0.length c0_2) g.1.1]) (fun g => σ) (fun g => iter (fun q : (List Arc) × Nat × Nat => Er_ x0 k105 q.1 q.2.1 q.2.2) g.1 = some z1 ∧ g.1.1.length = x0.length) (fun g => rounds (fun q : (List Arc) × Nat × Nat => Er_ x0 k105 q.1 q.2.1 q.2.2) g.1) ((x0, k105, 1), ()) (Sub.pre 1 z) z (by repeat (first | exact trivial | refine ⟨z, ?_⟩)) ⟨hh, z⟩ (fun g2 j2 hg2 => ?_)))))))))
    obtain ⟨⟨l122, k124, k125⟩, _⟩ := g2
    obtain ⟨hh, hn123⟩ := hg2
    try dsimp only at hn123 ⊢
    obtain ⟨z2, hh, hR2⟩ := iter_e hh
    dsimp only [Er_] at hh
    have hn123b := hn123
    refine TC.isSl (i := 0) z (fun _ hb126 _ => ?_)
    refine TC.seq (TC.a (TL.i z z (TL.s z z (TL.w z (lenC z underlying23 z) (TL.w z (OpVal.lss z z z) (TL.en (TC.cD z hh (fun h127 hh => ?_) (fun h127 hh => ?_))))))))
    ·refine TC.skip (S.n (TC.cutG (α := ((List Arc) × Nat) × (Unit)) (rgs [(3, 1), (35, 19)]) (fun g => [(3, .int .i64 ((g.1.2 : Nat) : Int))]) (fun g => [Res.rowS 59 8 encArc (.slice a0_1 x0.length c0_2) g.1.1]) (fun g => σ) (fun g => Es_ k125 g.1.1 g.1.2 = some z2 ∧ g.1.1.length = x0.length) ?_ (fun g j hg => ?_)))
     ·skip
      refine TC.block (TC.seq ?_)
      have u33 := grd_c hh
      replace hh := grd_t hh
      have u38 := grd_c hh
      replace hh := grd_t hh
      refine TC.draw [] (by kernel_rfl) (TA.a 0 z (moveSl (.inl z) z) z (TA.a 1 z (moveI (.inl z) z) z (TA.b 2 z (elVw hv113 (by omega) (indexN z underlying23 sz59 z z hv113.sl (by omega))) z (TA.b 3 z (loadOA Arc.zero z ag59 sz59 z (q := 0) z encArc_len (by omega) (by omega)) z (TA.a 4 z (moveSl (.inl z) z) z (TA.a 5 z (moveI (.inl z) z) z (TA.a 6 z (subW z z z) z (TA.b 7 z (elVw hv113 (by omega) (OpVal.index z underlying23 sz59 z z hv113.sl u38.1 u38.2)) z (TA.b 8 z (loadOA Arc.zero z ag59 sz59 z (q := 0) z encArc_len (by omega) (by omega)) z (TA.a 9 z (neqSt (p := (nth l122 (k105 + k125) Arc.zero) = (nth l122 (k105 + (IntKind.i64.wrap (((k125 : Nat) : Int) - 1)).toNat) Arc.zero)) z z z eg59 (es59 (nth l122 (k105 + k125) Arc.zero) (nth l122 (k105 + (IntKind.i64.wrap (((k125 : Nat) : Int) - 1)).toNat) Arc.zero)) z) z (TA.dn (S.n (TC.cD z hh (fun h131 hh => ?_) (fun h131 hh => ?_))))))))))))))
      ·refine TC.a (TL.s z z (TL.i z z (TL.s z z (TL.i z z ?_))))
       have u45 := grd_c hh
       replace hh := grd_t hh
       refine TL.w z (elVw hv113 (by omega) (indexN z underlying23 sz59 z z hv113.sl (by omega))) (TL.w z (loadOA Arc.zero z ag59 sz59 z (q := 0) z encArc_len (by omega) (by omega)) ?_)
       have u47 := grd_c hh
       replace hh := grd_t hh
       refine TL.isSl (i := 0) z (fun hs132 _ _ => ?_)
       refine TL.w z (indexN z underlying23 sz59 z z hs132 (by omega)) ?_
       have hn133 : (l122.set k124 (nth l122 (k105 + k125) Arc.zero)).length = x0.length := by rw [List.length_set]; exact hn123
       refine TL.op z (storeS (nth l122 (k105 + k125) Arc.zero) z sz59 z z z z encArc_len encArc_one (by omega) (by omega) ?_)
       exact TL.en (TC.region (TL.i z z (TL.w z (OpVal.succ z z z (by omega)) (TL.i z z (TL.nil (B.n (S.n (cf (((l122.set k124 (nth l122 (k105 + k125) Arc.zero)), (k124 + 1)), ()) ⟨hh, hn133⟩ (Sub.pre 1 z)))))))))
      ·exact TC.skip (B.n (S.n (cf ((l122, k124), ()) ⟨hh, hn123⟩ (Sub.pre 1 z))))
     ·skip
      obtain ⟨⟨l128, k130⟩, _⟩ := g
      obtain ⟨hh, hn129⟩ := hg
      try dsimp only at hn129 ⊢
      dsimp only [Es_] at hh
      have hn129b := hn129
      refine TC.isSl (i := 0) z (fun _ hb134 _ => ?_)
      refine TC.region (TL.i z z (TL.w z (OpVal.succ z z z (by omega)) (TL.i z z (TL.en ?_))))
      obtain ⟨hh, hlt135⟩ := nxt_x hR2 hh
      exact lf ((l128, k130, (k125 + 1)), ()) hlt135 ⟨hh, hn129⟩ (Sub.pre 1 z)
    ·refine TC.exit (S.x (S.x ?_))
     replace hh := fin_x hR2 hh
     refine TC.exitHere (S.n (TC.a (TL.s z z (TL.i z z ?_))))
     have u57 := grd_c hh
     replace hh := grd_t hh
     refine TL.isSl (i := 0) z (fun hs136 _ _ => ?_)
     rw [hn123] at hs136
     obtain ⟨a136, c136, hv136, ho136⟩ := vw_of (k := k124) (size := 8) hs136 (by omega)
     refine TL.w z (ho136 z underlying23 sz59 z z) ?_
     have hn137 : (l122.take k124 ++ List.replicate (l122.length - k124) Arc.zero).length = x0.length := by simp only [List.length_append, List.length_take, List.length_replicate]; try simp only [List.length_replicate] at *; omega
     refine TL.op z (clearV (k := k124) Arc.zero z underlying23 ze59 z z hv136 (by omega) (by omega) encArc_len (by decide) z encArc_one ?_)
     refine TL.en (TC.a (TL.s z z (TL.i z z ?_)))
     rw [← hn137]
     have u61 := grd_c hh
     replace hh := grd_t hh
     refine TL.op z (cutS z underlying23 sz59 z z z z z (by omega) encArc_len ?_)
     refine TL.s z z (TL.en (TC.ret (B.r (S.r (S.r ?_)))))
     replace hh := fin_x hR1 hh
     refine B.r (S.r ?_)
     obtain rfl := so hh
     exact ro [Res.rowS 59 8 encArc (.slice a0_1 ((l122.take k124 ++ List.replicate (l122.length - k124) Arc.zero).take k124).length c0_2) ((l122.take k124 ++ List.replicate (l122.length - k124) Arc.zero).take k124)] z (RVs.tmp z RVs.nil) ⟨a0_1, c0_2, z, z, z⟩
   ·refine TC.skip (B.n (S.n (TC.region (TL.i z z (TL.w z (OpVal.succ z z z (by omega)) (TL.i z z (TL.en ?_)))))))
    obtain ⟨hh, hlt138⟩ := nxt_x hR1 hh
    exact lf ((k105 + 1), ()) hlt138 hh (Sub.pre 1 z)
  ·refine TC.exit (S.x (S.x ?_))
   replace hh := fin_x hR1 hh
   refine TC.exitHere (S.n (TC.a (TL.s z z (TL.s z z (TL.en (TC.ret ?_))))))
   obtain rfl := so hh
   exact ro [Res.rowS 59 8 encArc (.slice a0_1 x0.length c0_2) x0] z (RVs.tmp z RVs.nil) ⟨a0_1, c0_2, z, z, z⟩
noncomputable def onceT (x0 : List Tip) : Option ((List Tip)) :=
 grd (x0.length * 24 ≤ 140737488355328) (bnd (compactT (sortL cmpTip x0)) (fun v9 => some v9))
def G2_ (σ : Store) (r : (List Tip)) : Value → Store → List Res → Prop := fun v σ' H' =>
 ∃ (a1 : Option Addr), ∃ (c1 : Nat),  v = .slice a1 r.length c1 ∧ σ = σ' ∧ H' = [Res.rowS 41 2 encTip (.slice a1 r.length c1) r]
theorem F7_ {σ : Store} {x0 : List Tip} {a0_0 : Option Addr} {c0_0 : Nat} (f0_0 : RS σ 2 encTip (.slice a0_0 x0.length c0_0) x0) {r : (List Tip)} (hh : onceT x0 = some r) :
  Con Tryz.prog 61 #[.slice a0_0 x0.length c0_0, .func (.func 62) #[] #[]] σ [] (G2_ σ r) := by
 dsimp only [onceT] at hh
 have f0_0b := f0_0.rv.big
 refine Con.mk (n := 13) Tryz.func61 z z z (fun w0 => ?_)
 refine TC.a (TL.s z z (TL.en (TC.a (TL.s z z ?_))))
 have u3 := grd_c hh
 replace hh := grd_t hh
 refine TL.op z (OpOk.call (Gs_ f0_0 u3) z z pf82 z z z z ?_)
 rintro _ _ _ _ ⟨⟨a101, c102, rfl⟩, rfl, rfl⟩
 refine TL.s z z (TL.en (TC.a (TL.s z z (TL.w z (moveFn (.inl z) z) ?_))))
 have hn104 : (sortL cmpTip x0).length = x0.length := List.length_mergeSort _
 refine TL.op z (OpOk.call (Gy_ (l := x0)) z z pf83 z z z z ?_)
 rintro _ _ _ _ ⟨rfl, rfl, rfl⟩
 refine TL.en (TC.a (TL.s z z ?_))
 rw [← hn104]
 obtain ⟨v9, u9, hh⟩ := bnd_e hh
 refine TL.op z (OpOk.call (Gg_ u9) z z pf84 z z z z ?_)
 rintro _ _ _ hle105 ⟨a105_1, c105_2, rfl, rfl, rfl⟩
 refine TL.s z z (TL.en (TC.ret ?_))
 obtain rfl := so hh
 exact ro [Res.rowS 41 2 encTip (.slice a105_1 v9.length c105_2) v9] z (RVs.tmp z RVs.nil) ⟨a105_1, c105_2, z, z, z⟩
noncomputable def onceA (x0 : List Arc) : Option ((List Arc)) :=
 grd (x0.length * 72 ≤ 140737488355328) (bnd (compactA (sortL cmpArc x0)) (fun v9 => some v9))
def G1_ (σ : Store) (r : (List Arc)) : Value → Store → List Res → Prop := fun v σ' H' =>
 ∃ (a1 : Option Addr), ∃ (c1 : Nat),  v = .slice a1 r.length c1 ∧ σ = σ' ∧ H' = [Res.rowS 59 8 encArc (.slice a1 r.length c1) r]
theorem Gz_ {σ : Store} {x0 : List Arc} {a0_0 : Option Addr} {c0_0 : Nat} (f0_0 : RS σ 8 encArc (.slice a0_0 x0.length c0_0) x0) {r : (List Arc)} (hh : onceA x0 = some r) :
  Con Tryz.prog 63 #[.slice a0_0 x0.length c0_0, .func (.func 64) #[] #[]] σ [] (G1_ σ r) := by
 dsimp only [onceA] at hh
 have f0_0b := f0_0.rv.big
 refine Con.mk (n := 13) Tryz.func63 z z z (fun w0 => ?_)
 refine TC.a (TL.s z z (TL.en (TC.a (TL.s z z ?_))))
 have u3 := grd_c hh
 replace hh := grd_t hh
 refine TL.op z (OpOk.call (Gu_ f0_0 u3) z z pf87 z z z z ?_)
 rintro _ _ _ _ ⟨⟨a101, c102, rfl⟩, rfl, rfl⟩
 refine TL.s z z (TL.en (TC.a (TL.s z z (TL.w z (moveFn (.inl z) z) ?_))))
 have hn104 : (sortL cmpArc x0).length = x0.length := List.length_mergeSort _
 refine TL.op z (OpOk.call (Gx_ (l := x0)) z z pf88 z z z z ?_)
 rintro _ _ _ _ ⟨rfl, rfl, rfl⟩
 refine TL.en (TC.a (TL.s z z ?_))
 rw [← hn104]
 obtain ⟨v9, u9, hh⟩ := bnd_e hh
 refine TL.op z (OpOk.call (Ge_ u9) z z pf89 z z z z ?_)
 rintro _ _ _ hle105 ⟨a105_1, c105_2, rfl, rfl, rfl⟩
 refine TL.s z z (TL.en (TC.ret ?_))
 obtain rfl := so hh
 exact ro [Res.rowS 59 8 encArc (.slice a105_1 v9.length c105_2) v9] z (RVs.tmp z RVs.nil) ⟨a105_1, c105_2, z, z, z⟩
noncomputable def Cv_ (x0 : Fst) : Option (Fst × Int) :=
 bnd (C6_ x0) (fun v5 => iteO (decide (v5 ≠ 0)) (some ((⟨0, ([] : List Tip), ([] : List Tip), ([] : List Arc)⟩ : Fst), 1)) (bnd (onceT x0.starts) (fun v14 => bnd (onceT x0.ends) (fun v17 => bnd (onceA x0.arcs) (fun v20 => some ((⟨x0.states, v14, v17, v20⟩ : Fst), 0))))))
def Gt_ (σ : Store) (r : Fst × Int) : Value → Store → List Res → Prop := fun v σ' H' =>
 ∃ (a1 : Option Addr), ∃ (c1 : Nat), ∃ (a2 : Option Addr), ∃ (c2 : Nat), ∃ (a3 : Option Addr), ∃ (c3 : Nat),  v = .tuple #[.agg #[.int .i64 r.1.states, .slice a1 r.1.starts.length c1, .slice a2 r.1.ends.length c2, .slice a3 r.1.arcs.length c3], .int .i64 r.2] ∧ RS σ' 2 encTip (.slice a1 r.1.starts.length c1) r.1.starts ∧ RS σ' 2 encTip (.slice a2 r.1.ends.length c2) r.1.ends ∧ RS σ' 8 encArc (.slice a3 r.1.arcs.length c3) r.1.arcs ∧ H' = []
theorem Gh_ {σ : Store} {x0 : Fst} {a0_0 : Option Addr} {c0_0 : Nat} {a0_1 : Option Addr} {c0_1 : Nat} {a0_2 : Option Addr} {c0_2 : Nat} (f0_0 : RS σ 2 encTip (.slice a0_0 x0.starts.length c0_0) x0.starts) (f0_1 : RS σ 2 encTip (.slice a0_1 x0.ends.length c0_1) x0.ends) (f0_2 : RS σ 8 encArc (.slice a0_2 x0.arcs.length c0_2) x0.arcs) {r : Fst × Int} (hh : Cv_ x0 = some r) :
  Con Tryz.prog 38 #[.agg #[.int .i64 x0.states, .slice a0_0 x0.starts.length c0_0, .slice a0_1 x0.ends.length c0_1, .slice a0_2 x0.arcs.length c0_2]] σ [] (Gt_ σ r) := by
 dsimp only [Cv_] at hh
 have f0_0b := f0_0.rv.big
 have f0_1b := f0_1.rv.big
 have f0_2b := f0_2.rv.big
 refine Con.mk (n := 20) Tryz.func38 z z z (fun w0 => ?_)
 refine TC.a (TL.op z (boxA z z z z (fun b101 => ?_)))
 refine TL.op z (OpOk.alloc z ze25 z z (fun b103 => ?_))
 refine TL.i z z (TL.en (TC.seq (TC.a (TL.w z (loadAll z ag25 sz25 z (i := 1) z z) ?_))))
 obtain ⟨v5, u5, hh⟩ := bnd_e hh
 refine TL.op z (callP (Dq_ (x0 := x0) f0_0 f0_1 f0_2 u5) z z pf24 z z z ?_)
 refine TL.w z (OpVal.neq z z z) (TL.en (TC.cD z hh (fun h105 hh => ?_) (fun h105 hh => ?_)))
 ·refine TC.a (TL.w z (buildL z pl25 ze25 z) (TL.op z (storeAll z sz25 z z z z z z ?_)))
  refine TL.i z z (TL.en (TC.rt 1 (S.r ?_)))
  obtain rfl := so hh
  exact ro [] z (RVs.agg ag25 sz25 z (i := 0) z z (RVs.tmp z RVs.nil)) ⟨none, 0, none, 0, none, 0, z, (RS.nilF _ encTip encTip_len), (RS.nilF _ encTip encTip_len), (RS.nilF _ encArc encArc_len), z⟩
 ·refine TC.skip (S.n (TC.seq ?_))
  obtain ⟨v14, u14, hh⟩ := bnd_e hh
  obtain ⟨v17, u17, hh⟩ := bnd_e hh
  obtain ⟨v20, u20, hh⟩ := bnd_e hh
  refine TC.draw [12, 13] (by kernel_rfl) (TA.a 0 z (fieldLoc z fo25_0 z) z (TA.b 1 z (loadLoc z ag3 z (i := 1) z z) z (TA.a 2 z (fieldLoc z fo25_1 z) z (TA.b 3 z (loadLoc z ag22 z (i := 1) z z) z (TA.a 5 z (fieldLoc z fo25_2 z) z (TA.b 6 z (loadLoc z ag22 z (i := 1) z z) z (TA.a 8 z (fieldLoc z fo25_3 z) z (TA.b 9 z (loadLoc z ag23 z (i := 1) z z) z (TA.ac 4 z (OpOk.call (F7_ f0_0 u14) z z pf61 z z z z ?_))))))))))
  rintro _ _ _ hle112 ⟨a112_1, c112_1, rfl, rfl, rfl⟩
  refine k1 (TA.ac 7 z (OpOk.call (F7_ f0_1 u17) z z pf61 z z z z ?_))
  rintro _ _ _ hle114 ⟨a114_1, c114_1, rfl, rfl, rfl⟩
  refine k2 (TA.ac 10 z (OpOk.call (Gz_ f0_2 u20) z z pf63 z z z z ?_))
  rintro _ _ _ hle116 ⟨a116_1, c116_1, rfl, rfl, rfl⟩
  refine k3 (TA.a 11 z (buildL z pl25 ze25 z) z (TA.front 3 z z (TA.last 12 (by kernel_rfl) z z z (storeAll z sz25 z z z z z z ?_))))
  refine TZ.v 13 (by kernel_rfl) z z z (moveI (.inr z) z) z z (TZ.done (by kernel_rfl) (S.n (TC.front 3 z z (TC.sealS encTip_len (fun τ120 hle119 hr118 => ?_)))))
  have hr118b := hr118.rv.big
  refine TC.front 2 z z (TC.sealS encTip_len (fun τ123 hle122 hr121 => ?_))
  replace hr118 := hr118.mono hle122
  have hr121b := hr121.rv.big
  refine TC.front 1 z z (TC.sealS encArc_len (fun τ126 hle125 hr124 => ?_))
  replace hr118 := hr118.mono hle125
  replace hr121 := hr121.mono hle125
  have hr124b := hr124.rv.big
  refine TC.rt 1 ?_
  obtain rfl := so hh
  exact ro [] z (RVs.agg ag25 sz25 z (i := 0) z z (RVs.tmp z RVs.nil)) ⟨a112_1, c112_1, a114_1, c114_1, a116_1, c116_1, z, hr118, hr121, hr124, z⟩
end Go.Proofs.YtcaaiphgikpgjaaGreatDoor
end

section
namespace Go.Proofs.YtcaaiphgikpgjaaGreatDoor
open Go Go.E Go.E.OpVal Go.E.OpOk Go.Proofs.Tryz
noncomputable def Bf_ (x0 : Fst) (i123 : Int) : Option (Bool) :=
 iteO (decide (i123 ≤ 60)) (iteO (decide (x0.states ≤ 20)) (some true) (some (decide (1024 < x0.states)))) (some false)
noncomputable def Af_ (x0 : Fst) (i128 : Int) (k129 : Nat) : Option ((Int × Nat) ⊕ (Bool)) :=
 iteO (decide (((k129 : Nat) : Int) < ((x0.arcs.length : Nat) : Int))) (iteO (decide (i128 ≤ 60)) (nxt ((IntKind.i64.wrap (i128 + (IntKind.i64.wrap (Int.tdiv ((((nth x0.arcs k129 Arc.zero).out).length : Nat) : Int) 40)))), (k129 + 1))) (fin (Bf_ x0 i128))) (fin (Bf_ x0 i128))
noncomputable def Bg_ (x0 : Fst) (i113 : Int) : Option (Bool) :=
 iter (fun q : Int × Nat => Af_ x0 q.1 q.2) (i113, 0)
noncomputable def Ai_ (x0 : Fst) (i118 : Int) (k119 : Nat) : Option ((Int × Nat) ⊕ (Bool)) :=
 iteO (decide (((k119 : Nat) : Int) < ((x0.ends.length : Nat) : Int))) (iteO (decide (i118 ≤ 60)) (nxt ((IntKind.i64.wrap (i118 + (IntKind.i64.wrap (Int.tdiv ((((nth x0.ends k119 Tip.zero).out).length : Nat) : Int) 40)))), (k119 + 1))) (fin (Bg_ x0 i118))) (fin (Bg_ x0 i118))
noncomputable def Bh_ (x0 : Fst) (i103 : Int) : Option (Bool) :=
 iter (fun q : Int × Nat => Ai_ x0 q.1 q.2) (i103, 0)
noncomputable def Ah_ (x0 : Fst) (i108 : Int) (k109 : Nat) : Option ((Int × Nat) ⊕ (Bool)) :=
 iteO (decide (((k109 : Nat) : Int) < ((x0.starts.length : Nat) : Int))) (iteO (decide (i108 ≤ 60)) (nxt ((IntKind.i64.wrap (i108 + (IntKind.i64.wrap (Int.tdiv ((((nth x0.starts k109 Tip.zero).out).length : Nat) : Int) 40)))), (k109 + 1))) (fin (Bh_ x0 i108))) (fin (Bh_ x0 i108))
noncomputable def Cr_ (x0 : Fst) : Option (Bool) :=
 iter (fun q : Int × Nat => Ah_ x0 q.1 q.2) ((IntKind.i64.wrap ((IntKind.i64.wrap (((x0.starts.length : Nat) : Int) + ((x0.ends.length : Nat) : Int))) + ((x0.arcs.length : Nat) : Int))), 0)
theorem Fl_ {σ : Store} {x0 : Fst} {a0_0 : Option Addr} {c0_0 : Nat} {a0_1 : Option Addr} {c0_1 : Nat} {a0_2 : Option Addr} {c0_2 : Nat} (f0_0 : RS σ 2 encTip (.slice a0_0 x0.starts.length c0_0) x0.starts) (f0_1 : RS σ 2 encTip (.slice a0_1 x0.ends.length c0_1) x0.ends) (f0_2 : RS σ 8 encArc (.slice a0_2 x0.arcs.length c0_2) x0.arcs) {r : Bool} (hh : Cr_ x0 = some r) :
  Con Tryz.prog 21 #[.agg #[.int .i64 x0.states, .slice a0_0 x0.starts.length c0_0, .slice a0_1 x0.ends.length c0_1, .slice a0_2 x0.arcs.length c0_2]] σ [] (PureP (.bool r) σ) := by
 dsimp only [Cr_] at hh
 have f0_0b := f0_0.rv.big
 have f0_1b := f0_1.rv.big
 have f0_2b := f0_2.rv.big
 refine Con.mk (n := 93) Tryz.func21 z z z (fun w0 => ?_)
 refine TC.a (TL.op z (boxA z z z z (fun b101 => ?_)))
 refine TL.j z z (TL.en (TC.a (TL.w z (fieldLoc z fo25_1 z) (TL.w z (loadLoc z ag22 z (i := 0) z z) (TL.w z (lenC z underlying22 z) (TL.w z (fieldLoc z fo25_2 z) (TL.w z (loadLoc z ag22 z (i := 0) z z) (TL.w z (lenC z underlying22 z) (TL.w z (addW z z z) (TL.w z (fieldLoc z fo25_3 z) (TL.w z (loadLoc z ag23 z (i := 0) z z) (TL.w z (lenC z underlying23 z) (TL.w z (addW z z z) (TL.i z z (TL.en (TC.cutG (α := (Int) × (Unit)) (rgs [(3, 2), (18, 21)]) (fun g => [(3, .int .i64 g.1)]) (fun g => [Res.cells b101 #[.int .i64 x0.states, .slice a0_0 x0.starts.length c0_0, .slice a0_1 x0.ends.length c0_1, .slice a0_2 x0.arcs.length c0_2] 25]) (fun g => σ) (fun g => Bh_ x0 g.1 = some r) ?_ (fun g j hg => ?_)))))))))))))))))
 ·skip
  refine TC.a (TL.i z z (TL.en (TC.block (TC.loopG (α := (Int × Nat) × (Unit)) (rgs [(3, 2), (18, 21)]) (fun g => [(3, .int .i64 g.1.1), (4, .int .i64 ((g.1.2 : Nat) : Int))]) (fun g => [Res.cells b101 #[.int .i64 x0.states, .slice a0_0 x0.starts.length c0_0, .slice a0_1 x0.ends.length c0_1, .slice a0_2 x0.arcs.length c0_2] 25]) (fun g => σ) (fun g => iter (fun q : Int × Nat => Ah_ x0 q.1 q.2) g.1 = some r) (fun g => rounds (fun q : Int × Nat => Ah_ x0 q.1 q.2) g.1) (((IntKind.i64.wrap ((IntKind.i64.wrap (((x0.starts.length : Nat) : Int) + ((x0.ends.length : Nat) : Int))) + ((x0.arcs.length : Nat) : Int))), 0), ()) (Sub.pre 1 z) z (by repeat (first | exact trivial | refine ⟨z, ?_⟩)) hh (fun g1 j1 hg1 => ?_)))))
  obtain ⟨⟨i108, k109⟩, _⟩ := g1
  have hh := hg1; clear hg1
  try dsimp only
  obtain ⟨z1, hh, hR1⟩ := iter_e hh
  dsimp only [Ah_] at hh
  refine TC.seq (TC.a (TL.i z z (TL.w z (fieldLoc z fo25_1 z) (TL.w z (loadLoc z ag22 z (i := 0) z z) (TL.w z (lenC z underlying22 z) (TL.w z (OpVal.lss z z z) (TL.j z z (TL.split 23 z (fun h110 => ?_) (fun h110 => ?_)))))))))
  ·replace hh := iteO_t h110 hh
   replace h110 := of_decide_eq_true h110
   refine TL.g z (moveI (.inl z) z) (TL.g z (OpVal.leq z z z) (TL.w z (pickTB z z z) (TL.en (TC.cD z hh (fun h111 hh => ?_) (fun h111 hh => ?_)))))
   ·refine TC.skip (S.n (TC.seq (TC.block (TC.region (TL.i z z (TL.w z (fieldLoc z fo25_1 z) (TL.w z (loadLoc z ag22 z (i := 0) z z) (TL.i z z (TL.w z (indexN z underlying22 sz41 z z f0_0.rv.sl (by omega)) (TL.w z (fieldElem z fo41_1 z f0_0.rv.sl (by omega)) (TL.w z (loadS Tip.zero z ag9 z f0_0 (by omega) (by omega) z) (TL.w z (lenBs z underlying9 z) (TL.w z (quoW z z z (by decide)) (TL.w z (addW z z z) (TL.i z z (TL.nil (B.n (S.n (TC.region (TL.i z z (TL.w z (OpVal.succ z z z (by omega)) (TL.i z z (TL.en ?_)))))))))))))))))))))))
    obtain ⟨hh, hlt112⟩ := nxt_x hR1 hh
    exact lf (((IntKind.i64.wrap (i108 + (IntKind.i64.wrap (Int.tdiv ((((nth x0.starts k109 Tip.zero).out).length : Nat) : Int) 40)))), (k109 + 1)), ()) hlt112 hh (Sub.pre 1 z)
   ·refine TC.exit (S.x (S.x ?_))
    replace hh := fin_x hR1 hh
    exact TC.exitHere (S.n (cf (i108, ()) hh (Sub.pre 1 z)))
  ·replace hh := iteO_f h110 hh
   replace h110 := of_decide_eq_false h110
   refine TL.f z (TL.f z (TL.w z (pickFB z z z) (TL.en (TC.f z (TC.exit (S.x (S.x ?_)))))))
   replace hh := fin_x hR1 hh
   exact TC.exitHere (S.n (cf (i108, ()) hh (Sub.pre 1 z)))
 ·skip
  obtain ⟨i103, _⟩ := g
  have hh := hg; clear hg
  try dsimp only
  dsimp only [Bh_] at hh
  refine TC.cutG (α := (Int) × (Unit)) (rgs [(3, 1), (5, 1), (39, 21)]) (fun g => [(3, .int .i64 g.1)]) (fun g => [Res.cells b101 #[.int .i64 x0.states, .slice a0_0 x0.starts.length c0_0, .slice a0_1 x0.ends.length c0_1, .slice a0_2 x0.arcs.length c0_2] 25]) (fun g => σ) (fun g => Bg_ x0 g.1 = some r) ?_ (fun g j hg => ?_)
  ·skip
   refine TC.a (TL.i z z (TL.en (TC.block (TC.loopG (α := (Int × Nat) × (Unit)) (rgs [(3, 1), (5, 1), (39, 21)]) (fun g => [(3, .int .i64 g.1.1), (5, .int .i64 ((g.1.2 : Nat) : Int))]) (fun g => [Res.cells b101 #[.int .i64 x0.states, .slice a0_0 x0.starts.length c0_0, .slice a0_1 x0.ends.length c0_1, .slice a0_2 x0.arcs.length c0_2] 25]) (fun g => σ) (fun g => iter (fun q : Int × Nat => Ai_ x0 q.1 q.2) g.1 = some r) (fun g => rounds (fun q : Int × Nat => Ai_ x0 q.1 q.2) g.1) ((i103, 0), ()) (Sub.pre 1 z) z (by repeat (first | exact trivial | refine ⟨z, ?_⟩)) hh (fun g2 j2 hg2 => ?_)))))
   obtain ⟨⟨i118, k119⟩, _⟩ := g2
   have hh := hg2; clear hg2
   try dsimp only
   obtain ⟨z1, hh, hR1⟩ := iter_e hh
   dsimp only [Ai_] at hh
   refine TC.seq (TC.a (TL.i z z (TL.w z (fieldLoc z fo25_2 z) (TL.w z (loadLoc z ag22 z (i := 0) z z) (TL.w z (lenC z underlying22 z) (TL.w z (OpVal.lss z z z) (TL.j z z (TL.split 44 z (fun h120 => ?_) (fun h120 => ?_)))))))))
   ·replace hh := iteO_t h120 hh
    replace h120 := of_decide_eq_true h120
    refine TL.g z (moveI (.inl z) z) (TL.g z (OpVal.leq z z z) (TL.w z (pickTB z z z) (TL.en (TC.cD z hh (fun h121 hh => ?_) (fun h121 hh => ?_)))))
    ·refine TC.skip (S.n (TC.seq (TC.block (TC.region (TL.i z z (TL.w z (fieldLoc z fo25_2 z) (TL.w z (loadLoc z ag22 z (i := 0) z z) (TL.i z z (TL.w z (indexN z underlying22 sz41 z z f0_1.rv.sl (by omega)) (TL.w z (fieldElem z fo41_1 z f0_1.rv.sl (by omega)) (TL.w z (loadS Tip.zero z ag9 z f0_1 (by omega) (by omega) z) (TL.w z (lenBs z underlying9 z) (TL.w z (quoW z z z (by decide)) (TL.w z (addW z z z) (TL.i z z (TL.nil (B.n (S.n (TC.region (TL.i z z (TL.w z (OpVal.succ z z z (by omega)) (TL.i z z (TL.en ?_)))))))))))))))))))))))
     obtain ⟨hh, hlt122⟩ := nxt_x hR1 hh
     exact lf (((IntKind.i64.wrap (i118 + (IntKind.i64.wrap (Int.tdiv ((((nth x0.ends k119 Tip.zero).out).length : Nat) : Int) 40)))), (k119 + 1)), ()) hlt122 hh (Sub.pre 1 z)
    ·refine TC.exit (S.x (S.x ?_))
     replace hh := fin_x hR1 hh
     exact TC.exitHere (S.n (cf (i118, ()) hh (Sub.pre 1 z)))
   ·replace hh := iteO_f h120 hh
    replace h120 := of_decide_eq_false h120
    refine TL.f z (TL.f z (TL.w z (pickFB z z z) (TL.en (TC.f z (TC.exit (S.x (S.x ?_)))))))
    replace hh := fin_x hR1 hh
    exact TC.exitHere (S.n (cf (i118, ()) hh (Sub.pre 1 z)))
  ·skip
   obtain ⟨i113, _⟩ := g
   have hh := hg; clear hg
   try dsimp only
   dsimp only [Bg_] at hh
   refine TC.cutG (α := (Int) × (Unit)) (rgs [(3, 1), (6, 1), (60, 21)]) (fun g => [(3, .int .i64 g.1)]) (fun g => [Res.cells b101 #[.int .i64 x0.states, .slice a0_0 x0.starts.length c0_0, .slice a0_1 x0.ends.length c0_1, .slice a0_2 x0.arcs.length c0_2] 25]) (fun g => σ) (fun g => Bf_ x0 g.1 = some r) ?_ (fun g j hg => ?_)
   ·skip
    refine TC.a (TL.i z z (TL.en (TC.block (TC.loopG (α := (Int × Nat) × (Unit)) (rgs [(3, 1), (6, 1), (60, 21)]) (fun g => [(3, .int .i64 g.1.1), (6, .int .i64 ((g.1.2 : Nat) : Int))]) (fun g => [Res.cells b101 #[.int .i64 x0.states, .slice a0_0 x0.starts.length c0_0, .slice a0_1 x0.ends.length c0_1, .slice a0_2 x0.arcs.length c0_2] 25]) (fun g => σ) (fun g => iter (fun q : Int × Nat => Af_ x0 q.1 q.2) g.1 = some r) (fun g => rounds (fun q : Int × Nat => Af_ x0 q.1 q.2) g.1) ((i113, 0), ()) (Sub.pre 1 z) z (by repeat (first | exact trivial | refine ⟨z, ?_⟩)) hh (fun g3 j3 hg3 => ?_)))))
    obtain ⟨⟨i128, k129⟩, _⟩ := g3
    have hh := hg3; clear hg3
    try dsimp only
    obtain ⟨z1, hh, hR1⟩ := iter_e hh
    dsimp only [Af_] at hh
    refine TC.seq (TC.a (TL.i z z (TL.w z (fieldLoc z fo25_3 z) (TL.w z (loadLoc z ag23 z (i := 0) z z) (TL.w z (lenC z underlying23 z) (TL.w z (OpVal.lss z z z) (TL.j z z (TL.split 65 z (fun h130 => ?_) (fun h130 => ?_)))))))))
    ·replace hh := iteO_t h130 hh
     replace h130 := of_decide_eq_true h130
     refine TL.g z (moveI (.inl z) z) (TL.g z (OpVal.leq z z z) (TL.w z (pickTB z z z) (TL.en (TC.cD z hh (fun h131 hh => ?_) (fun h131 hh => ?_)))))
     ·refine TC.skip (S.n (TC.seq (TC.block (TC.region (TL.i z z (TL.w z (fieldLoc z fo25_3 z) (TL.w z (loadLoc z ag23 z (i := 0) z z) (TL.i z z (TL.w z (indexN z underlying23 sz59 z z f0_2.rv.sl (by omega)) (TL.w z (fieldElem z fo59_3 z f0_2.rv.sl (by omega)) (TL.w z (loadS Arc.zero z ag9 z f0_2 (by omega) (by omega) z) (TL.w z (lenBs z underlying9 z) (TL.w z (quoW z z z (by decide)) (TL.w z (addW z z z) (TL.i z z (TL.nil (B.n (S.n (TC.region (TL.i z z (TL.w z (OpVal.succ z z z (by omega)) (TL.i z z (TL.en ?_)))))))))))))))))))))))
      obtain ⟨hh, hlt132⟩ := nxt_x hR1 hh
      exact lf (((IntKind.i64.wrap (i128 + (IntKind.i64.wrap (Int.tdiv ((((nth x0.arcs k129 Arc.zero).out).length : Nat) : Int) 40)))), (k129 + 1)), ()) hlt132 hh (Sub.pre 1 z)
     ·refine TC.exit (S.x (S.x ?_))
      replace hh := fin_x hR1 hh
      exact TC.exitHere (S.n (cf (i128, ()) hh (Sub.pre 1 z)))
    ·replace hh := iteO_f h130 hh
     replace h130 := of_decide_eq_false h130
     refine TL.f z (TL.f z (TL.w z (pickFB z z z) (TL.en (TC.f z (TC.exit (S.x (S.x ?_)))))))
     replace hh := fin_x hR1 hh
     exact TC.exitHere (S.n (cf (i128, ()) hh (Sub.pre 1 z)))
   ·skip
    obtain ⟨i123, _⟩ := g
    have hh := hg; clear hg
    try dsimp only
    dsimp only [Bf_] at hh
    refine TC.a (TL.i z z (TL.w z (OpVal.leq z z z) (TL.j z z (TL.split 83 z (fun h133 => ?_) (fun h133 => ?_)))))
    ·replace hh := iteO_t h133 hh
     replace h133 := of_decide_eq_true h133
     refine TL.g z (fieldLoc z fo25_0 z) (TL.g z (loadLoc z ag3 z (i := 0) z z) (TL.g z (OpVal.leq z z z) (TL.g z (moveB (.inl z) z) (TL.split 87 z (fun h134 => ?_) (fun h134 => ?_)))))
     ·replace hh := iteO_t h134 hh
      replace h134 := of_decide_eq_true h134
      refine TL.f z (TL.f z (TL.f z (TL.g z (pickTB z z z) (TL.w z (pickTB z z z) (TL.j z z (TL.en (TC.rt 0 ?_)))))))
      obtain rfl := so hh
      exact rq [2] ⟨z, z, z⟩
     ·replace hh := iteO_f h134 hh
      replace h134 := of_decide_eq_false h134
      refine TL.g z (fieldLoc z fo25_0 z) (TL.g z (loadLoc z ag3 z (i := 0) z z) (TL.g z (OpVal.gtr z z z) (TL.g z (pickFB z z z) (TL.w z (pickTB z z z) (TL.j z z (TL.en (TC.rt 0 ?_)))))))
      obtain rfl := so hh
      exact rq [2] ⟨z, z, z⟩
    ·replace hh := iteO_f h133 hh
     replace h133 := of_decide_eq_false h133
     refine TL.f z (TL.f z (TL.f z (TL.f z (TL.f z (TL.f z (TL.f z (TL.f z (TL.w z (pickFB z z z) (TL.j z z (TL.en (TC.rt 0 ?_)))))))))))
     obtain rfl := so hh
     exact rq [2] ⟨z, z, z⟩
end Go.Proofs.YtcaaiphgikpgjaaGreatDoor
end

section
namespace Go.Proofs.YtcaaiphgikpgjaaGreatDoor
open Go Go.E
section
variable {α : Type} [DecidableEq α] (d : α)
def ddN (l : List α) : Nat → List α
  | 0 => []
  | n + 1 => ddN l n ++ (if n = 0 ∨ nth l n d ≠ nth l (n - 1) d then [nth l n d] else [])
theorem mem_ddN (l : List α) : ∀ n, n ≤ l.length → ∀ x, x ∈ ddN d l n ↔ x ∈ l.take n
  | 0, _, x => by simp [ddN]
  | n + 1, h, x => by
    rw [ddN, take_snoc l (by omega) d, List.mem_append, List.mem_append, mem_ddN l n (by omega)]
    by_cases hc : n = 0 ∨ nth l n d ≠ nth l (n - 1) d
    · rw [if_pos hc]
    · rw [if_neg hc]
      simp only [not_or, ne_eq, Decidable.not_not] at hc
      have : nth l n d ∈ l.take n := by
        rw [hc.2]
        have h1 : (l.take n)[n - 1]? = some (nth l (n - 1) d) := by rw [List.getElem?_take, if_pos (by omega)]; exact getD_some l (by omega) d
        exact List.mem_of_getElem? h1
      constructor
      · rintro (h | h)
        · exact .inl h
        · cases h
      · rintro (h | h)
        · exact .inl h
        · rw [List.mem_singleton.1 h]; exact .inl this
theorem nth_set_ne {l : List α} {k i : Nat} {v : α} (h : i ≠ k) : nth (l.set k v) i d = nth l i d := by
  simp [nth, List.getD, List.getElem?_set, Ne.symm h]
include d in
theorem take_set_succ {l : List α} {k : Nat} {v : α} (h : k < l.length) : (l.set k v).take (k + 1) = l.take k ++ [v] := by
  rw [take_snoc (l.set k v) (by simpa using h) d]
  congr 1
  · rw [List.take_set_of_le (Nat.le_refl _)]
  · simp [nth, List.getD, h]
noncomputable def gC_j (k125 : Nat) (l128 : List α) (k130 : Nat) : Option ((List α × Nat × Nat) ⊕ (Nat ⊕ List α)) :=
  nxt (l128, k130, (k125 + 1))
noncomputable def gC_b2 (x0 : List α) (k105 : Nat) (l122 : List α) (k124 : Nat) (k125 : Nat) : Option ((List α × Nat × Nat) ⊕ (Nat ⊕ List α)) :=
  iteO (decide (((k125 : Nat) : Int) < (((x0.length - k105) : Nat) : Int))) (grd (k125 < (x0.length - k105)) (grd (0 ≤ (IntKind.i64.wrap (((k125 : Nat) : Int) - 1)) ∧ (IntKind.i64.wrap (((k125 : Nat) : Int) - 1)) < ((x0.length - k105) : Nat)) (iteO (decide (¬ ((nth l122 (k105 + k125) d) = (nth l122 (k105 + (IntKind.i64.wrap (((k125 : Nat) : Int) - 1)).toNat) d)))) (grd (k125 < (x0.length - k105)) (grd (k124 < l122.length) (gC_j k125 (l122.set k124 (nth l122 (k105 + k125) d)) (k124 + 1)))) (gC_j k125 l122 k124)))) (fin (grd (k124 ≤ x0.length) (grd (k124 ≤ (l122.take k124 ++ List.replicate (l122.length - k124) d).length) (fin (some ((l122.take k124 ++ List.replicate (l122.length - k124) d).take k124))))))
noncomputable def gC_b1 (x0 : List α) (k105 : Nat) : Option ((Nat) ⊕ (List α)) :=
  iteO (decide (((k105 : Nat) : Int) < ((x0.length : Nat) : Int))) (grd (0 ≤ (IntKind.i64.wrap (((k105 : Nat) : Int) - 1)) ∧ (IntKind.i64.wrap (((k105 : Nat) : Int) - 1)) < (x0.length : Int)) (iteO (decide ((nth x0 k105 d) = (nth x0 ((IntKind.i64.wrap (((k105 : Nat) : Int) - 1)).toNat) d))) (grd (k105 ≤ x0.length) (iter (fun q : (List α) × Nat × Nat => gC_b2 d x0 k105 q.1 q.2.1 q.2.2) (x0, k105, 1))) (nxt (k105 + 1)))) (fin (some x0))
noncomputable def gC (x0 : List α) : Option (List α) :=
  iteO (decide (((x0.length : Nat) : Int) < 2)) (some x0) (iter (fun q : Nat => gC_b1 d x0 q) 1)
theorem wrap_pred {k : Nat} (h1 : 1 ≤ k) (h2 : k ≤ 281474976710656) : IntKind.i64.wrap ((k : Int) - 1) = ((k - 1 : Nat) : Int) := by
  rw [wrap64_of (by omega) (by omega)]; omega
theorem gC_in {l : List α} (hl : l.length ≤ 281474976710656) {k0 : Nat} (h0 : 1 ≤ k0) (hk : k0 < l.length) (he : nth l k0 d = nth l (k0 - 1) d) (hd : ddN d l k0 = l.take k0) :
    iter (fun q : (List α) × Nat × Nat => gC_b2 d l k0 q.1 q.2.1 q.2.2) (l, k0, 1) = some (.inr (ddN d l l.length)) := by
  refine Exists.elim (iter_run (step := fun q : (List α) × Nat × Nat => gC_b2 d l k0 q.1 q.2.1 q.2.2)
    (fun q => 1 ≤ q.2.2 ∧ k0 + q.2.2 ≤ l.length ∧ q.1.length = l.length ∧ q.2.1 ≤ k0 + q.2.2 - 1 ∧ (∀ i, k0 + q.2.2 - 1 ≤ i → nth q.1 i d = nth l i d) ∧ q.1.take q.2.1 = ddN d l (k0 + q.2.2))
    (fun r => r = .inr (ddN d l l.length)) (fun q => l.length - q.2.2) ?_ (l, k0, 1) ⟨Nat.le_refl _, hk, rfl, by simp only; omega, fun _ _ => rfl, ?_⟩) (fun r hr => by rw [hr.1, hr.2])
  · rintro ⟨l2, k, j⟩ ⟨hj, hjl, hlen, hkj, hI, ht⟩
    simp only at hj hjl hlen hkj hI ht
    have hw : IntKind.i64.wrap ((j : Int) - 1) = ((j - 1 : Nat) : Int) := wrap_pred hj (by omega)
    by_cases hlt : k0 + j < l.length
    · left
      have e1 := hI (k0 + j) (by omega)
      have e2 := hI (k0 + (j - 1)) (by omega)
      simp only [gC_b2, hw, Int.toNat_natCast, decide_eq_true (show ((j : Nat) : Int) < ((l.length - k0 : Nat) : Int) by omega), iteO_true,
        grd_mk (show j < l.length - k0 by omega), grd_mk (show (0 : Int) ≤ ((j - 1 : Nat) : Int) ∧ ((j - 1 : Nat) : Int) < ((l.length - k0 : Nat) : Int) by omega), e1, e2]
      have e3 : k0 + (j - 1) = k0 + j - 1 := by omega
      by_cases hc : nth l (k0 + j) d = nth l (k0 + (j - 1)) d
      · simp only [hc, not_true_eq_false, decide_false, iteO_false, gC_j]
        refine ⟨_, rfl, ⟨by simp only; omega, by simp only; omega, hlen, by simp only; omega, fun i hi => hI i (by simp only at hi; omega), ?_⟩, by simp only; omega⟩
        simp only
        rw [ht, ← Nat.add_assoc, ddN, if_neg, List.append_nil]
        rw [hc, e3]; simp; omega
      · simp only [hc, not_false_eq_true, decide_true, iteO_true, grd_mk (show k < l2.length by omega), gC_j]
        refine ⟨_, rfl, ⟨by simp only; omega, by simp only; omega, by simp only [List.length_set]; exact hlen, by simp only; omega, fun i hi => ?_, ?_⟩, by simp only; omega⟩
        · simp only at hi ⊢
          rw [nth_set_ne d (by omega)]; exact hI i (by omega)
        · simp only
          rw [take_set_succ d (by omega), ht, ← Nat.add_assoc, ddN, if_pos]
          rw [e3] at hc; exact .inr hc
    · right
      have hjl' : k0 + j = l.length := by omega
      have hkl : (l2.take k).length = k := by rw [List.length_take]; omega
      refine ⟨.inr (ddN d l l.length), ?_, rfl⟩
      simp only [gC_b2, decide_eq_false (show ¬ ((j : Nat) : Int) < ((l.length - k0 : Nat) : Int) by omega), iteO_false, grd_mk (show k ≤ l.length by omega)]
      rw [grd_mk (by rw [List.length_append, hkl]; omega), List.take_append_of_le_length (by omega), List.take_of_length_le (by omega), ht, hjl']
      rfl
  · simp only
    rw [ddN, if_neg (by rw [he]; simp; omega), List.append_nil, hd]
theorem gC_eq {l : List α} (hl : l.length ≤ 281474976710656) : gC d l = some (ddN d l l.length) := by
  unfold gC
  by_cases h2 : l.length < 2
  · rw [decide_eq_true (by omega), iteO_true]
    match l, h2 with
    | [], _ => rfl
    | [x], _ => rfl
  · rw [decide_eq_false (by omega), iteO_false]
    refine Exists.elim (iter_run (step := fun q : Nat => gC_b1 d l q) (fun k => 1 ≤ k ∧ k ≤ l.length ∧ ddN d l k = l.take k) (fun r => r = ddN d l l.length) (fun k => l.length - k) ?_ 1 ⟨Nat.le_refl _, by omega, ?_⟩) (fun r hr => by rw [hr.1, hr.2])
    · rintro k ⟨h1, hk, hd⟩
      by_cases hlt : k < l.length
      · simp only [gC_b1, wrap_pred h1 (show k ≤ 281474976710656 by omega), Int.toNat_natCast, decide_eq_true (show ((k : Nat) : Int) < ((l.length : Nat) : Int) by omega), iteO_true,
          grd_mk (show (0 : Int) ≤ ((k - 1 : Nat) : Int) ∧ ((k - 1 : Nat) : Int) < (l.length : Int) by omega)]
        by_cases hc : nth l k d = nth l (k - 1) d
        · right
          simp only [hc, decide_true, iteO_true, grd_mk hk]
          exact ⟨_, gC_in d hl h1 hlt hc hd, rfl⟩
        · left
          simp only [hc, decide_false, iteO_false]
          refine ⟨k + 1, rfl, ⟨by omega, by omega, ?_⟩, by omega⟩
          rw [ddN, if_pos (.inr hc), hd, take_snoc l hlt d]
      · right
        have : k = l.length := by omega
        refine ⟨l, ?_, ?_⟩
        · simp only [gC_b1, decide_eq_false (show ¬ ((k : Nat) : Int) < ((l.length : Nat) : Int) by omega), iteO_false]; rfl
        · rw [← this, hd, List.take_of_length_le (by omega)]
    · rw [ddN, if_pos (.inl rfl), take_snoc l (by omega) d]; simp [ddN]
end
def onceL {α : Type} [DecidableEq α] (d : α) (cf : α → α → Int) (l : List α) : List α := ddN d (sortL cf l) l.length
section
variable {α : Type} [DecidableEq α] {d : α} {cf : α → α → Int}
theorem Eb_ (l : List α) : (sortL cf l).length = l.length := List.length_mergeSort _
theorem mem_onceL {l : List α} {x : α} : x ∈ onceL d cf l ↔ x ∈ l := by
  have h := Eb_ (cf := cf) l
  rw [onceL, mem_ddN d _ _ (by omega), List.take_of_length_le (by omega), sortL, List.mem_mergeSort]
theorem GoodCmp.le_trans (hc : GoodCmp cf) {x y z : α} (h1 : ¬ cf y x < 0) (h2 : ¬ cf z y < 0) : ¬ cf z x < 0 := fun h3 => by
  by_cases e : x = y
  · subst e; exact h2 h3
  · by_cases e' : y = z
    · subst e'; exact h1 h3
    · have a := hc.anti y x; have b := hc.anti z y; have a' := hc.eq y x; have b' := hc.eq z y
      have h4 : cf y z < 0 := by
        rw [hc.anti]
        have : cf z y ≠ 0 := fun h => e' ((b'.1 h).symm)
        omega
      exact h1 (hc.trans _ _ _ h4 h3)
theorem Gl_ (hc : GoodCmp cf) (l : List α) : (sortL cf l).Pairwise fun x y => ¬ cf y x < 0 := by
  have := List.pairwise_mergeSort (le := fun x y => !decide (cf y x < 0)) (fun a b c h1 h2 => by
    simp only [Bool.not_eq_true', decide_eq_false_iff_not] at *
    exact hc.le_trans h1 h2) (fun a b => by
    have := hc.anti a b
    simp only [Bool.or_eq_true, Bool.not_eq_true', decide_eq_false_iff_not]; omega) l
  exact this.imp fun h => by simpa using h
theorem sorted_onceL (hc : GoodCmp cf) (l : List α) : (onceL d cf l).Pairwise fun x y => cf x y < 0 := by
  have hs := Gl_ hc l
  have hlen := Eb_ (cf := cf) l
  unfold onceL
  generalize sortL cf l = s at hs hlen
  have key : ∀ n, n ≤ s.length → (ddN d s n).Pairwise fun x y => cf x y < 0 := by
    intro n
    induction n with
    | zero => intro _; exact List.Pairwise.nil
    | succ n ih =>
      intro h
      rw [ddN]
      split
      · rename_i hn
        rw [List.pairwise_append]
        refine ⟨ih (by omega), List.pairwise_singleton .., fun x hx y hy => ?_⟩
        rw [List.mem_singleton.1 hy]
        rw [mem_ddN d s n (by omega)] at hx
        have hn0 : n ≠ 0 := fun e => by subst e; simp at hx
        have hne : nth s n d ≠ nth s (n - 1) d := by rcases hn with h | h; exact absurd h hn0; exact h
        obtain ⟨i, hi, hxi⟩ := List.mem_iff_getElem.1 hx
        have hi' : i < n := by simp at hi; omega
        have hxi : s[i]'(by omega) = x := by rw [← hxi, List.getElem_take]
        have hp := List.pairwise_iff_getElem.1 hs
        have eN : ∀ {k : Nat} (hk : k < s.length), nth s k d = s[k] := fun hk => by simp [nth, List.getD, hk]
        rw [eN (by omega), eN (by omega)] at hne
        rw [eN (by omega)]
        have h1 : cf (s[n - 1]'(by omega)) (s[n]'(by omega)) < 0 := by
          have := hp (n - 1) n (by omega) (by omega) (by omega)
          have a := hc.anti (s[n - 1]'(by omega)) (s[n]'(by omega))
          have b := hc.eq (s[n]'(by omega)) (s[n - 1]'(by omega))
          have : cf (s[n]'(by omega)) (s[n - 1]'(by omega)) ≠ 0 := fun h => hne (b.1 h)
          omega
        by_cases hin : i = n - 1
        · subst hin; rw [← hxi]; exact h1
        · have h2 := hp i (n - 1) (by omega) (by omega) (by omega)
          rw [hxi] at h2
          by_cases e : x = s[n - 1]'(by omega)
          · rw [e]; exact h1
          · refine hc.trans _ _ _ ?_ h1
            have a := hc.anti x (s[n - 1]'(by omega))
            have b := hc.eq (s[n - 1]'(by omega)) x
            have : cf (s[n - 1]'(by omega)) x ≠ 0 := fun h => e (b.1 h).symm
            omega
      · rw [List.append_nil]; exact ih (by omega)
  exact key _ (by omega)
theorem rising_ext {R : α → α → Prop} (hi : ∀ x, ¬ R x x) (ht : ∀ x y z, R x y → R y z → R x z) : ∀ {l m : List α}, l.Pairwise R → m.Pairwise R → (∀ x, x ∈ l ↔ x ∈ m) → l = m
  | [], [], _, _, _ => rfl
  | [], y :: m, _, _, h => by have := (h y).2 (List.mem_cons_self ..); cases this
  | x :: l, [], _, _, h => by have := (h x).1 (List.mem_cons_self ..); cases this
  | x :: l, y :: m, hl, hm, h => by
    rw [List.pairwise_cons] at hl hm
    have e : x = y := by
      have h1 := (h x).1 (List.mem_cons_self ..)
      have h2 := (h y).2 (List.mem_cons_self ..)
      rw [List.mem_cons] at h1 h2
      rcases h1 with h1 | h1
      · exact h1
      · rcases h2 with h2 | h2
        · exact h2.symm
        · exact absurd (ht _ _ _ (hm.1 x h1) (hl.1 y h2)) (hi y)
    subst e
    rw [rising_ext hi ht hl.2 hm.2 fun z => ?_]
    have := h z
    simp only [List.mem_cons] at this
    constructor
    · intro hz
      rcases this.1 (.inr hz) with e | h'
      · subst e; exact absurd (hl.1 z hz) (hi z)
      · exact h'
    · intro hz
      rcases this.2 (.inr hz) with e | h'
      · subst e; exact absurd (hm.1 z hz) (hi z)
      · exact h'
theorem GoodCmp.irr (hc : GoodCmp cf) (x : α) : ¬ cf x x < 0 := by have := (hc.eq x x).2 rfl; omega
theorem rising_eq (hc : GoodCmp cf) {l m : List α} (hl : l.Pairwise fun x y => cf x y < 0) (hm : m.Pairwise fun x y => cf x y < 0) (h : ∀ x, x ∈ l ↔ x ∈ m) : l = m :=
  rising_ext (R := fun x y => cf x y < 0) hc.irr hc.trans hl hm h
theorem Ep_ (hc : GoodCmp cf) {l : List α} (h : l.Pairwise fun x y => cf x y < 0) : onceL d cf l = l := rising_eq hc (sorted_onceL hc l) h fun x => mem_onceL
theorem Fu_ (l : List α) : (onceL d cf l).length ≤ l.length := by
  have h : ∀ (s : List α) n, (ddN d s n).length ≤ n := fun s n => by
    induction n with
    | zero => exact Nat.le_refl _
    | succ n ih => rw [ddN, List.length_append]; split <;> simp <;> omega
  exact h _ _
end
end Go.Proofs.YtcaaiphgikpgjaaGreatDoor
end

section
namespace Go.Proofs.YtcaaiphgikpgjaaGreatDoor
open Go Go.E
theorem Gq_ : compactT = gC Tip.zero := rfl
theorem Gr_ : compactA = gC Arc.zero := rfl
theorem Gk_ {l : List Tip} (h : l.length * 24 ≤ 140737488355328) : onceT l = some (onceL Tip.zero cmpTip l) := by
  rw [onceT, grd_mk h, Gq_, gC_eq Tip.zero (by rw [Eb_]; omega), Eb_]; rfl
theorem G0_ {l : List Arc} (h : l.length * 72 ≤ 140737488355328) : onceA l = some (onceL Arc.zero cmpArc l) := by
  rw [onceA, grd_mk h, Gr_, gC_eq Arc.zero (by rw [Eb_]; omega), Eb_]; rfl
end Go.Proofs.YtcaaiphgikpgjaaGreatDoor
end

section
namespace Go.E
open Go
section
variable {K : Type} [DecidableEq K]
theorem len_of_sub : ∀ {l m : List K}, l.Nodup → (∀ x ∈ l, x ∈ m) → l.length ≤ m.length
  | [], m, _, _ => Nat.zero_le _
  | x :: l, m, hn, hs => by
    rw [List.nodup_cons] at hn
    have hx := hs x (List.mem_cons_self ..)
    have := len_of_sub (m := m.erase x) hn.2 fun y hy => by
      have h1 := hs y (List.mem_cons_of_mem _ hy)
      refine (List.mem_erase_of_ne ?_).2 h1
      intro e; subst e; exact hn.1 hy
    rw [List.length_erase_of_mem hx] at this
    have hp := List.length_pos_of_mem hx
    simp only [List.length_cons]; omega
theorem rev_ind {p : List K → Prop} (h0 : p []) (h1 : ∀ l x, p l → p (l ++ [x])) (l : List K) : p l := by
  have : ∀ m : List K, p m.reverse := fun m => by
    induction m with
    | nil => exact h0
    | cons x m ih => rw [List.reverse_cons]; exact h1 _ _ ih
  simpa using this l.reverse
end
section
variable {β γ : Type}
structure Grp (key : β → Int) (val : β → γ) (n : Nat) (l : List (List γ)) (xs : List β) : Prop where
  len : l.length = n
  row : ∀ i, i < n → nth l i [] = (xs.filter fun x => decide (key x = (i : Int))).map val
theorem Grp.nil (key : β → Int) (val : β → γ) (n : Nat) : Grp key val n (List.replicate n []) [] := ⟨List.length_replicate .., fun i hi => by simp [nth, List.getD, List.getElem?_replicate, hi]⟩
theorem Grp.snoc {key : β → Int} {val : β → γ} {n : Nat} {l : List (List γ)} {xs : List β} (h : Grp key val n l xs) {x : β} (h0 : 0 ≤ key x) (h1 : key x < n) :
    Grp key val n (l.set (key x).toNat (nth l (key x).toNat [] ++ [val x])) (xs ++ [x]) := by
  refine ⟨by rw [List.length_set]; exact h.len, fun i hi => ?_⟩
  rw [List.filter_append, List.map_append, ← h.row i hi]
  by_cases e : i = (key x).toNat
  · subst e
    have : key x = ((key x).toNat : Int) := by omega
    have hl := h.len
    rw [show nth (l.set (key x).toNat (nth l (key x).toNat [] ++ [val x])) (key x).toNat [] = nth l (key x).toNat [] ++ [val x] from by simp [nth, List.getD, hl, hi]]
    simp [this.symm]
  · have hne : ¬ key x = (i : Int) := by omega
    rw [show nth (l.set (key x).toNat (nth l (key x).toNat [] ++ [val x])) i [] = nth l i [] from by simp [nth, List.getD, List.getElem?_set, Ne.symm e]]
    simp [hne]
theorem Grp.at {key : β → Int} {val : β → γ} {n : Nat} {l : List (List γ)} {xs : List β} (h : Grp key val n l xs) {s : Int} (h0 : 0 ≤ s) (h1 : s < n) : nth l s.toNat [] = (xs.filter fun x => decide (key x = s)).map val := by
  rw [h.row _ (by omega)]
  have : ((s.toNat : Nat) : Int) = s := by omega
  simp only [this]
theorem iter_all {α R : Type} {step : Nat → Option (Nat ⊕ R)} {y no : R} (l : List α) (d : α) (p : α → Bool) (hs : ∀ k, k < l.length → p (nth l k d) = true → step k = some (.inl (k + 1)))
    (hn : ∀ k, k < l.length → p (nth l k d) = false → step k = some (.inr no)) (hd : step l.length = some (.inr y)) : iter step 0 = some (if l.all p then y else no) := by
  have h := iter_any0 (step := step) (y := no) (no := y) (fun k => k) (fun k => !p (nth l k d)) l.length (fun k hk hp => hs k hk (by simpa using hp)) (fun k hk hp => hn k hk (by simpa using hp)) hd
  rw [h, range_any l d (fun x => !p x)]
  by_cases ha : l.all p = true
  · have : (l.any fun x => !p x) = false := by rw [List.any_eq_false]; intro x hx; have := (List.all_eq_true.1 ha) x hx; simp [this]
    rw [this, ha]; rfl
  · have : (l.any fun x => !p x) = true := by
      rw [Bool.not_eq_true, List.all_eq_false] at ha
      obtain ⟨x, hx, h⟩ := ha
      exact List.any_eq_true.2 ⟨x, hx, by simpa using h⟩
    rw [this]; simp only [cond_true]; rw [if_neg ha]
theorem iter_fold {α S R : Type} {step : S × Nat → Option ((S × Nat) ⊕ R)} {r : R} (l : List α) (d : α) (f : Nat → S) (hs : ∀ k, k < l.length → step (f k, k) = some (.inl (f (k + 1), k + 1))) (hd : step (f l.length, l.length) = some (.inr r)) :
    iter step (f 0, 0) = some r := iter_seq0 (fun k => (f k, k)) l.length hs hd
end
end Go.E
end

section
namespace Go.Proofs.YtcaaiphgikpgjaaGreatDoor
open Go Go.E
def tipB (n : Int) (p : Tip) : Bool := decide (0 ≤ p.state) && decide (p.state < n) && decide ((p.out.length : Int) ≤ 1024)
def tipsB (l : List Tip) (n : Int) : Bool := decide ((l.length : Int) ≤ 1024) && l.all (tipB n)
def arcB (n : Int) (a : Arc) : Bool := decide (0 ≤ a.frm) && decide (a.frm < n) && decide (0 ≤ a.to) && decide (a.to < n) && decide (a.set ≠ BSet.zero) && decide ((a.out.length : Int) ≤ 1024)
def fstB (t : Fst) : Bool := decide (0 ≤ t.states) && decide (t.states ≤ 1024) && decide ((t.arcs.length : Int) ≤ 16384) && tipsB t.starts t.states && tipsB t.ends t.states && t.arcs.all (arcB t.states)
theorem Ef_ (s n : Int) : D1_ s n = some (decide (0 ≤ s) && decide (s < n)) := by
  unfold D1_
  by_cases h : 0 ≤ s <;> simp [h]
theorem rightTips_eq (l : List Tip) (n : Int) : C1_ l n = some (tipsB l n) := by
  unfold C1_ tipsB
  by_cases h : (l.length : Int) ≤ 1024
  · rw [decide_eq_false (by omega), iteO_false, iter_all (y := true) (no := false) l Tip.zero (tipB n)]
    · rw [decide_eq_true h, Bool.true_and]; cases l.all (tipB n) <;> rfl
    · intro k hk hp
      simp only [tipB, Bool.and_eq_true, decide_eq_true_eq] at hp
      simp only [Bw_, lt_dec hk, iteO_true, Ef_, bnd, Option.bind_some, hp.1.1, hp.1.2, decide_true, Bool.and_self, Bool.not_true, iteO_false, decide_eq_false (show ¬ (1024 : Int) < ((nth l k Tip.zero).out.length : Int) by omega)]; rfl
    · intro k hk hp
      simp only [Bw_, lt_dec hk, iteO_true, Ef_, bnd, Option.bind_some]
      by_cases hc : (decide (0 ≤ (nth l k Tip.zero).state) && decide ((nth l k Tip.zero).state < n)) = true
      · rw [hc]
        simp only [tipB, hc, Bool.true_and, decide_eq_false_iff_not] at hp
        simp only [Bool.not_true, iteO_false, decide_eq_true (show (1024 : Int) < ((nth l k Tip.zero).out.length : Int) by omega), iteO_true]; rfl
      · simp only [Bool.not_eq_true] at hc
        rw [hc]; rfl
    · simp only [Bw_, Int.lt_irrefl, decide_false, iteO_false]; rfl
  · rw [decide_eq_true (by omega), iteO_true]; simp [h]
theorem Co_ (t : Fst) : C6_ t = some (errB (fstB t)) := by
  unfold C6_
  by_cases h1 : t.states < 0
  · rw [decide_eq_true h1, iteO_true]; simp [fstB, errB, show ¬ 0 ≤ t.states by omega]
  rw [decide_eq_false h1, iteO_false]
  by_cases h2 : 1024 < t.states
  · rw [decide_eq_true h2, iteO_true]; simp [fstB, errB, show ¬ t.states ≤ 1024 by omega]
  rw [decide_eq_false h2, iteO_false]
  by_cases h3 : (16384 : Int) < (t.arcs.length : Int)
  · rw [decide_eq_true h3, iteO_true]; simp only [fstB, decide_eq_false (show ¬ (t.arcs.length : Int) ≤ 16384 by omega), Bool.and_false, Bool.false_and]; rfl
  rw [decide_eq_false h3, iteO_false, rightTips_eq, bnd, Option.bind_some]
  have e0 : fstB t = (tipsB t.starts t.states && tipsB t.ends t.states && t.arcs.all (arcB t.states)) := by
    simp only [fstB, decide_eq_true (show 0 ≤ t.states by omega), decide_eq_true (show t.states ≤ 1024 by omega), decide_eq_true (show (t.arcs.length : Int) ≤ 16384 by omega), Bool.true_and]
  rw [e0]
  cases h4 : tipsB t.starts t.states
  · rfl
  simp only [Bool.not_true, iteO_false, rightTips_eq, bnd, Option.bind_some]
  cases h5 : tipsB t.ends t.states
  · rfl
  simp only [Bool.not_true, iteO_false, Bool.and_self, Bool.true_and]
  rw [iter_all (y := 0) (no := 1) t.arcs Arc.zero (arcB t.states)]
  · rfl
  · intro k hk hp
    simp only [arcB, Bool.and_eq_true, decide_eq_true_eq] at hp
    obtain ⟨⟨⟨⟨⟨p1, p2⟩, p3⟩, p4⟩, p5⟩, p6⟩ := hp
    simp only [Cu_, lt_dec hk, iteO_true, Ef_, bnd, Option.bind_some, p1, p2, p3, p4, p5, decide_true, decide_false, Bool.and_self, Bool.not_true, iteO_false, decide_eq_false (show ¬ (1024 : Int) < ((nth t.arcs k Arc.zero).out.length : Int) by omega)]; rfl
  · intro k hk hp
    simp only [Cu_, lt_dec hk, iteO_true, Ef_, bnd, Option.bind_some]
    cases hc : (decide (0 ≤ (nth t.arcs k Arc.zero).frm) && decide ((nth t.arcs k Arc.zero).frm < t.states))
    · rfl
    cases hd : (decide (0 ≤ (nth t.arcs k Arc.zero).to) && decide ((nth t.arcs k Arc.zero).to < t.states))
    · rfl
    simp only [Bool.not_true, iteO_false]
    by_cases he : (nth t.arcs k Arc.zero).set = BSet.zero
    · rw [decide_eq_true he]; rfl
    rw [decide_eq_false he, iteO_false]
    have hd' : (decide (0 ≤ (nth t.arcs k Arc.zero).frm) && decide ((nth t.arcs k Arc.zero).frm < t.states) && decide (0 ≤ (nth t.arcs k Arc.zero).to) && decide ((nth t.arcs k Arc.zero).to < t.states)) = true := by rw [Bool.and_assoc, hc, hd]; rfl
    simp only [arcB, hd', Bool.true_and, ne_eq, he, not_false_eq_true, decide_true, decide_eq_false_iff_not] at hp
    rw [decide_eq_true (by omega)]; rfl
  · simp only [Cu_, Int.lt_irrefl, decide_false, iteO_false]; rfl
theorem errB_ne {b : Bool} : decide (errB b ≠ 0) = !b := by cases b <;> rfl
def outOf (p : FPair) (a : Arc) (b : UInt8) : List UInt8 := if a.copy then (p.out ++ a.out) ++ [b] else p.out ++ a.out
def aftA (g : List Arc) (p : FPair) (b : UInt8) : List FPair := (g.filter fun a => a.set.has b.toNat).map fun a => ⟨a.to, outOf p a b⟩
def aftP (t : Fst) (S : List FPair) (b : UInt8) : List FPair := S.flatMap fun p => aftA (t.arcs.filter fun a => decide (a.frm = p.state)) p b
def tp (x : Tip) : FPair := ⟨x.state, x.out⟩
def pairsL (t : Fst) (w : List UInt8) : List FPair := w.foldl (aftP t) (t.starts.map tp)
def endT (t : Fst) (S : List FPair) : List (List UInt8) := S.flatMap fun p => ((t.ends.filter fun e => decide (e.state = p.state)).map Tip.out).map fun o => p.out ++ o
def outsL (t : Fst) (w : List UInt8) : List (List UInt8) := onceL [] Lib.compareBytes (endT t (pairsL t w))
theorem mem_aftA {g : List Arc} {p q : FPair} {b : UInt8} : q ∈ aftA g p b ↔ ∃ a ∈ g, a.set.has b.toNat = true ∧ q = ⟨a.to, outOf p a b⟩ := by
  simp only [aftA, List.mem_map, List.mem_filter]
  constructor
  · rintro ⟨a, ⟨h1, h2⟩, h3⟩; exact ⟨a, h1, h2, h3.symm⟩
  · rintro ⟨a, h1, h2, h3⟩; exact ⟨a, ⟨h1, h2⟩, h3.symm⟩
theorem mem_aftP {t : Fst} {S : List FPair} {b : UInt8} {q : FPair} : q ∈ aftP t S b ↔ ∃ p ∈ S, ∃ a ∈ t.arcs, a.frm = p.state ∧ a.set.has b.toNat = true ∧ q = ⟨a.to, outOf p a b⟩ := by
  simp only [aftP, List.mem_flatMap, mem_aftA, List.mem_filter, decide_eq_true_eq]
  constructor
  · rintro ⟨p, h1, a, ⟨h2, h3⟩, h4, h5⟩; exact ⟨p, h1, a, h2, h3, h4, h5⟩
  · rintro ⟨p, h1, a, h2, h3, h4, h5⟩; exact ⟨p, h1, a, ⟨h2, h3⟩, h4, h5⟩
end Go.Proofs.YtcaaiphgikpgjaaGreatDoor
end

section
namespace Go.Proofs.YtcaaiphgikpgjaaGreatDoor
open Go Go.E
theorem tipB_ok {n : Int} {p : Tip} (h : tipB n p = true) : (0 ≤ p.state ∧ p.state < n) ∧ p.out.length ≤ 1024 := by
  simp only [tipB, Bool.and_eq_true, decide_eq_true_eq] at h; exact ⟨h.1, by omega⟩
theorem tipsB_ok {n : Int} {l : List Tip} (h : tipsB l n = true) : l.length ≤ 1024 ∧ ∀ p ∈ l, (0 ≤ p.state ∧ p.state < n) ∧ p.out.length ≤ 1024 := by
  simp only [tipsB, Bool.and_eq_true, decide_eq_true_eq, List.all_eq_true] at h
  exact ⟨by omega, fun p hp => tipB_ok (h.2 p hp)⟩
theorem arcB_ok {n : Int} {a : Arc} (h : arcB n a = true) : (0 ≤ a.frm ∧ a.frm < n) ∧ (0 ≤ a.to ∧ a.to < n) ∧ a.set ≠ BSet.zero ∧ a.out.length ≤ 1024 := by
  simp only [arcB, Bool.and_eq_true, decide_eq_true_eq] at h
  obtain ⟨⟨⟨⟨⟨p1, p2⟩, p3⟩, p4⟩, p5⟩, p6⟩ := h
  exact ⟨⟨p1, p2⟩, ⟨p3, p4⟩, p5, by omega⟩
structure FstOk (t : Fst) : Prop where
  st0 : 0 ≤ t.states
  st1 : t.states ≤ 1024
  arcsN : t.arcs.length ≤ 16384
  startsN : t.starts.length ≤ 1024
  endsN : t.ends.length ≤ 1024
  starts : ∀ p ∈ t.starts, (0 ≤ p.state ∧ p.state < t.states) ∧ p.out.length ≤ 1024
  ends : ∀ p ∈ t.ends, (0 ≤ p.state ∧ p.state < t.states) ∧ p.out.length ≤ 1024
  arcs : ∀ a ∈ t.arcs, (0 ≤ a.frm ∧ a.frm < t.states) ∧ (0 ≤ a.to ∧ a.to < t.states) ∧ a.set ≠ BSet.zero ∧ a.out.length ≤ 1024
theorem fstB_iff (t : Fst) : fstB t = true ↔ FstOk t := by
  constructor
  · intro h
    simp only [fstB, Bool.and_eq_true, decide_eq_true_eq, List.all_eq_true] at h
    obtain ⟨⟨⟨⟨⟨h1, h2⟩, h3⟩, h4⟩, h5⟩, h6⟩ := h
    exact ⟨h1, h2, by omega, (tipsB_ok h4).1, (tipsB_ok h5).1, (tipsB_ok h4).2, (tipsB_ok h5).2, fun a ha => arcB_ok (h6 a ha)⟩
  · rintro ⟨h1, h2, h3, h4, h5, h6, h7, h8⟩
    have hT : ∀ l : List Tip, l.length ≤ 1024 → (∀ p ∈ l, (0 ≤ p.state ∧ p.state < t.states) ∧ p.out.length ≤ 1024) → tipsB l t.states = true := fun l hl hp => by
      simp only [tipsB, Bool.and_eq_true, decide_eq_true_eq, List.all_eq_true]
      refine ⟨by omega, fun p hq => ?_⟩
      have := hp p hq
      simp only [tipB, Bool.and_eq_true, decide_eq_true_eq]; omega
    simp only [fstB, Bool.and_eq_true, decide_eq_true_eq, List.all_eq_true]
    refine ⟨⟨⟨⟨⟨h1, h2⟩, by omega⟩, hT _ h4 h6⟩, hT _ h5 h7⟩, fun a ha => ?_⟩
    obtain ⟨p1, p2, p3, p4⟩ := h8 a ha
    simp only [arcB, Bool.and_eq_true, decide_eq_true_eq]
    exact ⟨⟨⟨⟨p1, p2.1⟩, p2.2⟩, p3⟩, by omega⟩
theorem pairsL_snoc (t : Fst) (w : List UInt8) (b : UInt8) : pairsL t (w ++ [b]) = aftP t (pairsL t w) b := by simp [pairsL]
end Go.Proofs.YtcaaiphgikpgjaaGreatDoor
end

section
namespace Go.Proofs.YtcaaiphgikpgjaaGreatDoor
open Go Go.E
end Go.Proofs.YtcaaiphgikpgjaaGreatDoor
end

section
namespace Go.Proofs.YtcaaiphgikpgjaaGreatDoor
open Go Go.E
def srt (t : Fst) : Fst := ⟨t.states, onceL Tip.zero cmpTip t.starts, onceL Tip.zero cmpTip t.ends, onceL Arc.zero cmpArc t.arcs⟩
theorem sort_eq (t : Fst) : Cv_ t = some (if fstB t = true then (srt t, 0) else (⟨0, [], [], []⟩, 1)) := by
  unfold Cv_
  rw [Co_, bnd, Option.bind_some, errB_ne]
  by_cases h : fstB t = true
  · have ht := (fstB_iff t).1 h
    have h1 := ht.startsN
    have h2 := ht.endsN
    have h3 := ht.arcsN
    rw [h, if_pos rfl, Bool.not_true, iteO_false]
    simp only [Gk_ (l := t.starts) (by omega), Gk_ (l := t.ends) (by omega), G0_ (l := t.arcs) (by omega), bnd, Option.bind_some]
    rfl
  · simp only [Bool.not_eq_true] at h
    rw [h]; rfl
structure Alike (s t : Fst) : Prop where
  states : s.states = t.states
  starts : ∀ x, x ∈ s.starts ↔ x ∈ t.starts
  ends : ∀ x, x ∈ s.ends ↔ x ∈ t.ends
  arcs : ∀ x, x ∈ s.arcs ↔ x ∈ t.arcs
theorem srt_alike (t : Fst) : Alike (srt t) t := ⟨rfl, fun _ => mem_onceL, fun _ => mem_onceL, fun _ => mem_onceL⟩
theorem srt_ok {t : Fst} (ht : FstOk t) : FstOk (srt t) where
  st0 := ht.st0
  st1 := ht.st1
  arcsN := Nat.le_trans (Fu_ _) ht.arcsN
  startsN := Nat.le_trans (Fu_ _) ht.startsN
  endsN := Nat.le_trans (Fu_ _) ht.endsN
  starts p hp := ht.starts p (mem_onceL.1 hp)
  ends p hp := ht.ends p (mem_onceL.1 hp)
  arcs a ha := ht.arcs a (mem_onceL.1 ha)
structure Within (s t : Fst) : Prop where
  starts : ∀ x ∈ s.starts, x ∈ t.starts
  ends : ∀ x ∈ s.ends, x ∈ t.ends
  arcs : ∀ x ∈ s.arcs, x ∈ t.arcs
theorem Alike.within {s t : Fst} (h : Alike s t) : Within s t := ⟨fun x => (h.starts x).1, fun x => (h.ends x).1, fun x => (h.arcs x).1⟩
theorem Alike.symm {s t : Fst} (h : Alike s t) : Alike t s := ⟨h.states.symm, fun x => (h.starts x).symm, fun x => (h.ends x).symm, fun x => (h.arcs x).symm⟩
theorem Within.pairs {s t : Fst} (h : Within s t) (w : List UInt8) : ∀ p ∈ pairsL s w, p ∈ pairsL t w := by
  induction w using rev_ind with
  | h0 =>
    intro p hp
    obtain ⟨x, hx, rfl⟩ := List.mem_map.1 hp
    exact List.mem_map.2 ⟨x, h.starts x hx, rfl⟩
  | h1 w b ih =>
    intro q hq
    rw [pairsL_snoc, mem_aftP] at *
    obtain ⟨p, hp, a, ha, r⟩ := hq
    exact ⟨p, ih p hp, a, h.arcs a ha, r⟩
theorem mem_endT {t : Fst} {S : List FPair} {o : List UInt8} : o ∈ endT t S ↔ ∃ p ∈ S, ∃ e ∈ t.ends, e.state = p.state ∧ o = p.out ++ e.out := by
  simp only [endT, List.mem_flatMap, List.mem_map, List.mem_filter, decide_eq_true_eq]
  constructor
  · rintro ⟨p, hp, _, ⟨e, ⟨he, h1⟩, rfl⟩, h2⟩; exact ⟨p, hp, e, he, h1, h2.symm⟩
  · rintro ⟨p, hp, e, he, h1, h2⟩; exact ⟨p, hp, _, ⟨e, ⟨he, h1⟩, rfl⟩, h2.symm⟩
theorem mem_outsL {t : Fst} {w o : List UInt8} : o ∈ outsL t w ↔ ∃ p ∈ pairsL t w, ∃ e ∈ t.ends, e.state = p.state ∧ o = p.out ++ e.out := by rw [outsL, mem_onceL, mem_endT]
theorem Within.outs {s t : Fst} (h : Within s t) (w : List UInt8) : ∀ o ∈ outsL s w, o ∈ outsL t w := by
  intro o ho
  rw [mem_outsL] at *
  obtain ⟨p, hp, e, he, r⟩ := ho
  exact ⟨p, h.pairs w p hp, e, h.ends e he, r⟩
theorem outsL_rise (t : Fst) (w : List UInt8) : (outsL t w).Pairwise fun x y => Lib.compareBytes x y < 0 := sorted_onceL cmpB_good _
theorem Alike.outs {s t : Fst} (h : Alike s t) (w : List UInt8) : outsL s w = outsL t w := rising_eq cmpB_good (outsL_rise s w) (outsL_rise t w) fun x => ⟨h.within.outs w x, h.symm.within.outs w x⟩
end Go.Proofs.YtcaaiphgikpgjaaGreatDoor
end

section
namespace Go.Proofs.YtcaaiphgikpgjaaGreatDoor
open Go Go.E
def em (a : Arc) (b : UInt8) : List UInt8 := if a.copy then a.out ++ [b] else a.out
theorem outOf_em (p : FPair) (a : Arc) (b : UInt8) : outOf p a b = p.out ++ em a b := by
  unfold outOf em; split <;> simp
inductive Wy (t : Fst) : Int → List UInt8 → List UInt8 → Int → Prop
  | nil (s : Int) : Wy t s [] [] s
  | cons {w o : List UInt8} {q : Int} (a : Arc) (b : UInt8) : a ∈ t.arcs → a.set.has b.toNat = true → Wy t a.to w o q → Wy t a.frm (b :: w) (em a b ++ o) q
theorem Wy.nil_inv {t : Fst} {s q : Int} {o : List UInt8} (h : Wy t s [] o q) : o = [] ∧ q = s := by
  cases h; exact ⟨rfl, rfl⟩
theorem Wy.cons_inv {t : Fst} {s q : Int} {b : UInt8} {w o : List UInt8} (h : Wy t s (b :: w) o q) : ∃ a ∈ t.arcs, a.frm = s ∧ a.set.has b.toNat = true ∧ ∃ o', Wy t a.to w o' q ∧ o = em a b ++ o' := by
  cases h with
  | cons a b ha hb hw => exact ⟨a, ha, rfl, hb, _, hw, rfl⟩
theorem Wy.append {t : Fst} {s m q : Int} {u v o p : List UInt8} (h : Wy t s u o m) (k : Wy t m v p q) : Wy t s (u ++ v) (o ++ p) q := by
  induction h with
  | nil s => exact k
  | cons a b ha hb _ ih => rw [List.append_assoc]; exact .cons a b ha hb (ih k)
theorem Wy.split {t : Fst} : ∀ {u v o : List UInt8} {s q : Int}, Wy t s (u ++ v) o q → ∃ m o1 o2, Wy t s u o1 m ∧ Wy t m v o2 q ∧ o = o1 ++ o2
  | [], v, o, s, q, h => ⟨s, [], o, .nil s, h, rfl⟩
  | b :: u, v, o, s, q, h => by
    obtain ⟨a, ha, rfl, hb, o', hw, rfl⟩ := Wy.cons_inv h
    obtain ⟨m, o1, o2, h1, h2, rfl⟩ := Wy.split hw
    exact ⟨m, em a b ++ o1, o2, .cons a b ha hb h1, h2, by rw [List.append_assoc]⟩
theorem Wy.one {t : Fst} {a : Arc} {b : UInt8} (ha : a ∈ t.arcs) (hb : a.set.has b.toNat = true) : Wy t a.frm [b] (em a b) a.to := by
  have := Wy.cons a b ha hb (.nil a.to)
  rwa [List.append_nil] at this
theorem mem_pairs {t : Fst} (w : List UInt8) : ∀ q, q ∈ pairsL t w ↔ ∃ x ∈ t.starts, ∃ o, Wy t x.state w o q.state ∧ q.out = x.out ++ o := by
  induction w using rev_ind with
  | h0 =>
    intro q
    show q ∈ t.starts.map tp ↔ _
    rw [List.mem_map]
    constructor
    · rintro ⟨x, hx, rfl⟩; exact ⟨x, hx, [], .nil _, by simp [tp]⟩
    · rintro ⟨x, hx, o, hw, ho⟩
      obtain ⟨rfl, e⟩ := hw.nil_inv
      refine ⟨x, hx, ?_⟩
      obtain ⟨s, z⟩ := q
      rw [List.append_nil] at ho
      dsimp only at e ho
      subst e ho; rfl
  | h1 w b ih =>
    intro q
    rw [pairsL_snoc, mem_aftP]
    constructor
    · rintro ⟨p, hp, a, ha, h1, h2, rfl⟩
      obtain ⟨x, hx, o, hw, ho⟩ := (ih p).1 hp
      refine ⟨x, hx, o ++ em a b, ?_, ?_⟩
      · rw [← h1] at hw
        exact hw.append (Wy.one ha h2)
      · show outOf p a b = _
        rw [outOf_em, ho, List.append_assoc]
    · rintro ⟨x, hx, o, hw, ho⟩
      obtain ⟨m, o1, o2, h1, h2, rfl⟩ := hw.split
      obtain ⟨a, ha, e, hb, o', h3, rfl⟩ := h2.cons_inv
      obtain ⟨rfl, e2⟩ := h3.nil_inv
      refine ⟨⟨m, x.out ++ o1⟩, (ih _).2 ⟨x, hx, o1, h1, rfl⟩, a, ha, e, hb, ?_⟩
      obtain ⟨s, z⟩ := q
      dsimp only at e2 ho
      rw [outOf_em, e2, ho, List.append_nil]
      simp
def Rel (t : Fst) (w o : List UInt8) : Prop := ∃ x ∈ t.starts, ∃ e ∈ t.ends, ∃ m, Wy t x.state w m e.state ∧ o = x.out ++ (m ++ e.out)
theorem mem_outs_rel {t : Fst} {w o : List UInt8} : o ∈ outsL t w ↔ Rel t w o := by
  rw [mem_outsL]
  constructor
  · rintro ⟨p, hp, e, he, h1, rfl⟩
    obtain ⟨x, hx, m, hw, ho⟩ := (mem_pairs w p).1 hp
    exact ⟨x, hx, e, he, m, by rw [h1]; exact hw, by rw [ho, List.append_assoc]⟩
  · rintro ⟨x, hx, e, he, m, hw, rfl⟩
    exact ⟨⟨e.state, x.out ++ m⟩, (mem_pairs w _).2 ⟨x, hx, m, hw, rfl⟩, e, he, rfl, by rw [List.append_assoc]⟩
theorem Wy.len {t : Fst} {n : Nat} (h : ∀ a ∈ t.arcs, a.out.length ≤ n) {s q : Int} {w o : List UInt8} (k : Wy t s w o q) : o.length ≤ w.length * (n + 1) := by
  induction k with
  | nil => exact Nat.zero_le _
  | cons a b ha hb _ ih =>
    have := h a ha
    have he : (em a b).length ≤ n + 1 := by
      unfold em; split
      · rw [List.length_append, List.length_singleton]; omega
      · omega
    rw [List.length_append, List.length_cons, Nat.add_mul]; omega
theorem Wy.map {t T : Fst} (f : Int → Int) (h : ∀ a ∈ t.arcs, (⟨f a.frm, f a.to, a.set, a.out, a.copy⟩ : Arc) ∈ T.arcs) {s q : Int} {w o : List UInt8} (k : Wy t s w o q) : Wy T (f s) w o (f q) := by
  induction k with
  | nil s => exact .nil _
  | cons a b ha hb _ ih => exact Wy.cons (⟨f a.frm, f a.to, a.set, a.out, a.copy⟩ : Arc) b (h a ha) hb ih
theorem Wy.unmap {t T : Fst} (P : Int → Prop) (g : Int → Int) (h : ∀ a ∈ T.arcs, P a.frm → P a.to ∧ (⟨g a.frm, g a.to, a.set, a.out, a.copy⟩ : Arc) ∈ t.arcs) {s q : Int} {w o : List UInt8} (k : Wy T s w o q) (hs : P s) : P q ∧ Wy t (g s) w o (g q) := by
  induction k with
  | nil s => exact ⟨hs, .nil _⟩
  | cons a b ha hb _ ih =>
    obtain ⟨h1, h2⟩ := h a ha hs
    obtain ⟨h3, h4⟩ := ih h1
    exact ⟨h3, Wy.cons (⟨g a.frm, g a.to, a.set, a.out, a.copy⟩ : Arc) b h2 hb h4⟩
end Go.Proofs.YtcaaiphgikpgjaaGreatDoor
end

section
namespace Go.E
open Go
section
variable {α : Type} {σ : Store} {size m c : Nat} {enc : α → List Value} {a : Option Addr} {l : List α}
theorem RS.takeF (h : RS σ size enc (.slice a m c) l) (j : Nat) (hj : j ≤ l.length) : RS σ size enc (.slice a (l.take j).length c) (l.take j) := by
  have hlj : (l.take j).length = j := by rw [List.length_take]; omega
  obtain ⟨a1, c1, hv, hn, hc⟩ := h.rv.sl
  cases hv
  rw [hlj]
  refine ⟨⟨⟨a, c, by rw [hlj], fun ha => ?_, by omega⟩, by rw [flatMap_len h.len], ?_, fun u hu => h.rv.one u (by rw [take_flat h.len] at hu; exact List.mem_of_mem_take hu), by have := h.rv.big; omega⟩, h.len⟩
  · obtain ⟨h1, h2⟩ := hn ha; exact ⟨by omega, h2⟩
  · intro ad m' c' hv i u hi
    cases hv
    rw [take_flat h.len, List.getElem?_take] at hi
    split at hi
    · exact h.rv.cell ad _ c rfl i u hi
    · cases hi
theorem RS.dropF (h : RS σ size enc (.slice a m c) l) (i : Nat) (hi : i ≤ l.length) : RS σ size enc (.slice (if c = i then a else a.map (·.add (i * size))) (l.drop i).length (c - i)) (l.drop i) := by
  have hlj : (l.drop i).length = l.length - i := by rw [List.length_drop]
  obtain ⟨a1, c1, hv, hn, hc⟩ := h.rv.sl
  cases hv
  rw [hlj]
  refine ⟨⟨⟨_, _, by rw [hlj], fun ha => ?_, by omega⟩, by rw [flatMap_len h.len], ?_, fun u hu => h.rv.one u (by rw [drop_flat h.len] at hu; exact List.mem_of_mem_drop hu), by have := h.rv.big; omega⟩, h.len⟩
  · split at ha
    · obtain ⟨h1, h2⟩ := hn ha; omega
    · cases a with
      | none => obtain ⟨h1, h2⟩ := hn rfl; omega
      | some ad => simp at ha
  · intro ad m' c' hv j u hj
    rw [drop_flat h.len, List.getElem?_drop] at hj
    have hjl := (List.getElem?_eq_some_iff.1 hj).1
    rw [flatMap_len h.len] at hjl
    have hil : i < l.length := by
      rcases Nat.lt_or_ge i l.length with h1 | h1
      · exact h1
      · have := Nat.mul_le_mul_right size h1; omega
    have hci : ¬ c = i := by omega
    rw [if_neg hci] at hv
    cases a with
    | none => simp at hv
    | some a0 =>
      simp only [Option.map_some, Value.slice.injEq, Option.some.injEq] at hv
      obtain ⟨rfl, _⟩ := hv
      rw [add_add]
      exact h.rv.cell a0 _ c rfl _ u hj
theorem RS.sub (h : RS σ size enc (.slice a m c) l) (i j : Nat) (hij : i ≤ j ∧ j ≤ l.length) : ∃ (a' : Option Addr) (c' : Nat), RS σ size enc (.slice a' ((l.take j).drop i).length c') ((l.take j).drop i) ∧
    ∀ {P : Program} {n : Nat} {e : Env} {H : List Res} {o : Oper} {x y z : Operand} {T E : TypeId} {k k' : IntKind} (_ : o.op = .slice T x (some z) (some y) none) (_ : P.underlying T = some (.slice E)) (_ : szOf P E = some size) (_ : ev e x = .slice a m c) (_ : ev e z = .int k (i : Nat)) (_ : ev e y = .int k' (j : Nat)), OpVal P n o e σ H (.slice a' ((l.take j).drop i).length c') := by
  have hlj : (l.take j).length = j := by rw [List.length_take]; omega
  have hll : ((l.take j).drop i).length = j - i := by rw [List.length_drop, hlj]
  refine ⟨_, _, (h.takeF j hij.2).dropF i (by omega), ?_⟩
  obtain ⟨a1, c1, hv, hn, hc⟩ := h.rv.sl
  cases hv
  rw [hll]
  intro P n e H o x y z T E k k' ho hT hs hx hz hy w _
  have hsz := run_sizeOf (P := P) hs
  have hrun : (Instr.slice T (.slice a l.length c) (some (.int k i)) (some (.int k' j)) none).run P w = .ok (.slice (if c = i then a else a.map (·.add (i * size))) (j - i) (c - i)) w := by
    simp [Instr.slice, Instr.sliceBounds, Instr.sliceBound, asIntOf, run_underlying hT, hsz]
    rw [if_pos (show j ≤ c by omega), if_pos hij.1]
  simp [execOp, ho, hx, hz, hy, Instr.sliceAt, run_underlying hT, hrun]
end
end Go.E
end

section
namespace Go.E
open Go
theorem OpOk.storeFn {X : Ctx} {e : Env} {σ : Store} {F : List Res} {o : Oper} {x y : Operand} {K : Env → Store → List Res → Prop} {T b k : Nat} {E : TypeId} {cs cs' : Array Value} {f : Fn} {xs ys : Array Value} (ho : o.op = .store T x y) (hs : szOf X.P T = some 1) (hd : o.dst = none) (hx : ev e x = loc b k) (hfit : Nat.ble (k + 1) cs.size = true)
    (hv : ev e y = .func f xs ys) (hcs : (splice cs.toList k [.func f xs ys]).toArray = cs') (kk : K e σ (Res.cells b cs' E :: F)) : OpOk X o e σ (Res.cells b cs E :: F) K := OpOk.store1 ho hs hd hx hv rfl rfl hfit hcs kk
def SC (σ : Store) (b : Nat) (cs : Array Value) (E : TypeId) : Prop := σ b = some (.cells cs E (0, 0))
theorem SC.big {σ : Store} {b : Nat} {cs : Array Value} {E : TypeId} (_ : SC σ b cs E) : True := True.intro
end Go.E
end

section
namespace Go.E
open Go
structure YSpec (S : Type) where
  R : S → Store → Res → Prop
  mono : ∀ {s σ σ' r}, R s σ r → σ.le σ' → R s σ' r
def YR {S : Type} (Z : YSpec S) (s : S) (σ : Store) (r : Res) : Prop := Z.R s σ r
theorem YR.mono {S : Type} {Z : YSpec S} {s : S} {σ σ' : Store} {r : Res} (h : YR Z s σ r) (hle : σ.le σ') : YR Z s σ' r := Z.mono h hle
def YOk (P : Program) (l : Nat) {S α : Type} (A : α → Store → List Value → Prop) (Z : YSpec S) (Y : S → α → Option (S × Bool)) : Prop :=
  ∀ s x σ r args w s' b, Y s x = some (s', b) → A x σ args → YR Z s σ r → Reach w r.bl σ σ w [r] →
    YieldAt (fence none) 0 P l args.toArray w fun e w' => e = .returned (.bool b) ∧ ∃ σ' r', YR Z s' σ' r' ∧ Reach w r.bl σ σ' w' [r']
def IterOk (P : Program) (f : FuncId) (lb : List Value) {S α : Type} (A : α → Store → List Value → Prop) (Y : S → α → Option (S × Bool)) (σ : Store) (Hc : List Res) (s s' : S) (Post : Store → List Res → Prop) : Prop :=
  ∀ (l : Nat) (Z : YSpec S) (r : Res), YOk P l A Z Y → YR Z s σ r →
    Con P f (.func (.yield l) #[] #[] :: lb).toArray σ (r :: Hc) fun _ σ' H' => ∃ r' Hc', H' = r' :: Hc' ∧ YR Z s' σ' r' ∧ Post σ' Hc'
theorem OpOk.callY {X : Ctx} {e : Env} {σ : Store} {H F : List Res} {o : Oper} {x : Operand} {K : Env → Store → List Res → Prop} {l d : Nat} {opds : Array Operand} {ts : Array TypeId} {S α : Type} {A : α → Store → List Value → Prop} {Z : YSpec S} {Y : S → α → Option (S × Bool)} {s : S} {q : S × Bool} {v : α} {r : Res}
    (hY : YOk X.P l A Z Y) (hs : YR Z s σ r) (he : Y s v = some q) (ho : o.op = .call { callee := .value x, args := opds, argTypes := ts })
    (hx : ev e x = .func (.yield l) #[] #[]) (hA : A v σ (opds.toList.map (ev e))) (hd : o.dst = some d) (hn : Nat.blt d X.n = true) (hH : r :: F = H)
    (k : ∀ σ' r', σ.le σ' → YR Z q.1 σ' r' → K (upd e d (.bool q.2)) σ' (r' :: F)) : OpOk X o e σ H K := by
  subst hH
  obtain ⟨s', b⟩ := q
  intro u0 C0 τ0 w a hw ha K' Q hK
  have hbl : blks [r] = r.bl := by simp [blks]
  have hself : Reach w r.bl σ σ w [r] := by
    have := (hw.sub (H' := [r]) (by simp)).self
    rwa [hbl] at this
  obtain ⟨fn, tmps, assign, body, hrun, hround⟩ := hY s v σ r _ w s' b he hA hs hself
  have hr : (execOp a.eval o).run X.P w = .ok (.round l fn tmps assign body) w := by
    rw [ha.eval']
    have hl : (opds.toList.map (ev e)).toArray = opds.map (ev e) := by apply Array.ext'; simp
    rw [hl] at hrun
    simp [execOp, ho, resolve, hx, Deferred.ofValue, invoke, hrun]
  refine Oper.wp_run hr (fun _ => by simp) ?_
  rw [Oper.uponIn_round]
  refine ⟨fun h => (by cases h), RoundIn.mono (R := fun e w' => e = .returned (.bool b) ∧ ∃ σ' r', YR Z s' σ' r' ∧ Reach w r.bl σ σ' w' [r']) hround ?_⟩
  rintro ex w' ⟨rfl, σ', r', h1, h2⟩
  refine hK _ _ _ _ _ (k σ' r' h2.le h1) (Reach.call (H1 := [r]) (H1' := [r']) hw (by rw [hbl]; exact h2)) (put_dst ha hd hn _)
def Res.lrec (b : Nat) (o : Obj) : Res := ⟨[b], fun w => w.heap[b]? = some o, fun w k hk h => by simp at hk; subst hk; exact (Array.getElem?_eq_some_iff.1 h).1, fun w w' hb h => by rw [hb b (by simp)]; exact h⟩
theorem Reach.turnRec {w0 : World} {C : List Nat} {σ0 σ : Store} {w : World} {l : Nat} {o o' : Obj} {F : List Res} (h : Reach w0 C σ0 σ w (Res.lrec l o :: F)) : Reach w0 C σ0 σ (w.putObj l o') (Res.lrec l o' :: F) := by
  have hl : w.heap[l]? = some o := h.holds _ (List.mem_cons_self ..)
  refine h.turn rfl rfl rfl (by simp [World.putObj]) (Nat.le_refl _) (fun k _ hk => World.putObj_heap_other (fun e => hk (by simp [Res.lrec, e]))) (World.putObj_heap_same (Array.getElem?_eq_some_iff.1 hl).1) (fun b hb => .inl hb) (by simp [Res.lrec])
theorem Reach.tail {w0 : World} {C : List Nat} {σ0 σ : Store} {w : World} {r : Res} {F : List Res} (h : Reach w0 C σ0 σ w (r :: F)) : Reach w (blks F) σ σ w F := (h.sub (List.sublist_cons_self ..)).self
theorem Reach.callT {w0 : World} {C : List Nat} {σ0 σ σ' : Store} {w w' : World} {r : Res} {F F' : List Res} (h : Reach w0 C σ0 σ w (r :: F)) (k : Reach w (blks F) σ σ' w' F') : Reach w0 C σ0 σ' w' (r :: F') := by
  have h1 : Reach w0 C σ0 σ w (F ++ [r]) := h.perm (List.perm_append_singleton r F)
  exact (h1.call k).perm (List.perm_append_singleton r F').symm
def bindE (e : Env) (ps : List Tmp) (vs : List Value) : Env := (ps.zip vs).foldl (fun e p => upd e p.1 p.2) e
theorem St.binds {n : Nat} : ∀ (ps : List Tmp) (vs : List Value) {e : Env} {t : Array Value}, (∀ p ∈ ps, p < n) → St n e { tmps := t, defers := [] } → St n (bindE e ps vs) { tmps := (ps.zip vs).foldl (fun t p => t.setIfInBounds p.1 p.2) t, defers := [] }
  | [], _, _, _, _, h => h
  | _ :: _, [], _, _, _, h => h
  | p :: ps, v :: vs, e, t, hp, h => by
    have h1 := h.put (hp p (List.mem_cons_self ..)) v
    exact St.binds ps vs (fun q hq => hp q (List.mem_cons_of_mem _ hq)) h1
@[reducible] def asgQ (K : Env → Store → List Res → Prop) : QP := fun ex => match ex with
  | .normal => K
  | _ => fun _ _ _ => False
@[reducible] def rndQ (J : List Code) (K : Nat → Store → List Res → Prop) : QP := fun ex _ σ H => match ex with
  | .normal => K 0 σ H
  | .ret => ∃ j, J[j]? = some .ret ∧ K (j + 1) σ H
  | .exit i => ∃ j, J[j]? = some (.exit i) ∧ K (j + 1) σ H
  | .goto i => ∃ j, J[j]? = some (.goto i) ∧ K (j + 1) σ H
  | _ => False
def stepY {S α : Type} (B : S → α → Option (Nat × S)) (p : Nat × S) (x : α) : Option ((Nat × S) × Bool) :=
  if p.1 = 0 then (B p.2 x).bind fun q => some (q, q.1 == 0) else none
theorem stepY_some {S α : Type} {B : S → α → Option (Nat × S)} {p p' : Nat × S} {x : α} {b : Bool} (h : stepY B p x = some (p', b)) : p.1 = 0 ∧ B p.2 x = some p' ∧ b = (p'.1 == 0) := by
  unfold stepY at h
  split at h
  · rename_i h0
    cases hb : B p.2 x with
    | none => simp [hb] at h
    | some q => simp [hb] at h; exact ⟨h0, by rw [h.1], by rw [← h.2, h.1]⟩
  · cases h
abbrev mkRec (fn : FuncId) (tmps : Array Value) (ps : Array Tmp) (assign body : Code) (D : Nat) (st : LoopState) (pe : Option Code) : Loop := { state := st, pending := pe, fn, tmps, params := ps, assign, body, defers := D }
def recOf (rec : LoopState → Option Code → Loop) (J : List Code) (j : Nat) : Obj := .loop (if j = 0 then rec .ready none else rec .done (J[j - 1]?))
def rndZ {S : Type} (l : Nat) (rec : LoopState → Option Code → Loop) (J : List Code) (σs : Store) (G : S → Store → List Res → Prop) (hG : ∀ {s σ σ' H}, G s σ H → σ.le σ' → G s σ' H) : YSpec (Nat × S) where
  R p σ r := ∃ Hs, r = Res.star (Res.lrec l (recOf rec J p.1) :: Hs) ∧ G p.2 σ Hs ∧ σs.le σ ∧ (p.1 ≠ 0 → ∃ c, J[p.1 - 1]? = some c)
  mono := fun ⟨Hs, h1, h2, h3, h4⟩ hle => ⟨Hs, h1, hG h2 hle, h3.trans hle, h4⟩
theorem rec_far {w0 : World} {C : List Nat} {σ0 σ : Store} {w : World} {l : Nat} {o : Obj} {F : List Res} (h : Reach w0 C σ0 σ w (Res.lrec l o :: F)) : l ∉ blks F ∧ σ l = none := by
  have hn := h.nodup
  simp only [blks, List.flatMap_cons, Res.lrec, List.cons_append, List.nil_append, List.nodup_cons] at hn
  exact ⟨hn.1, h.apart _ (List.mem_cons_self ..) l (by simp [Res.lrec])⟩
theorem yOk_of {P : Program} {n l : Nat} {S α : Type} {A : α → Store → List Value → Prop} {J : List Code} {B : S → α → Option (Nat × S)} {σs : Store} {G : S → Store → List Res → Prop} {hG : ∀ {s σ σ' H}, G s σ H → σ.le σ' → G s σ' H} {fn : FuncId} {ps : Array Tmp} {assign body : Code} {e : Env} {tmps : Array Value} {D : Nat}
    (hst : St n e { tmps := tmps, defers := [] }) (hps : ∀ p ∈ ps.toList, p < n) (hA : ∀ x σ vs, A x σ vs → vs.length = ps.size)
    (hbody : ∀ (w0 : World) (C : List Nat) (τ σ : Store) (s : S) (x : α) (q : Nat × S) (vs : List Value) (Hs : List Res), B s x = some q → σs.le σ → A x σ vs → G s σ Hs →
      TC ⟨P, w0, C, τ, n, some l, none⟩ (asgQ fun e σ H => ∀ w0 C τ, TC ⟨P, w0, C, τ, n, some l, none⟩ (rndQ J fun j σ H => q.1 = j ∧ G q.2 σ H) body e σ H) assign (bindE e ps.toList vs) σ Hs) :
    YOk P l A (rndZ l (mkRec fn tmps ps assign body D) J σs G hG) (stepY B) := by
  rintro p x σ r args w p' b hy hax ⟨Hs, rfl, hg, hle, -⟩ hw
  obtain ⟨hp0, hB, rfl⟩ := stepY_some hy
  rw [hp0] at hw
  have hw1 : Reach w (Res.star (Res.lrec l (recOf (mkRec fn tmps ps assign body D) J 0) :: Hs)).bl σ σ w (Res.lrec l (.loop (mkRec fn tmps ps assign body D .ready none)) :: Hs) := by
    have := hw.unstar
    rw [List.append_nil] at this
    exact this
  have hlen := hA x σ args hax
  have hl1 : w.heap[l]? = some (.loop (mkRec fn tmps ps assign body D .ready none)) := hw1.holds _ (List.mem_cons_self ..)
  have hy := run_yield (P := P) (args := args.toArray) hl1 (by simpa using hlen)
  refine ⟨fn, _, assign, body, hy, roundIn_of_wpIn trivial ?_⟩
  have hz : (ps.zip args.toArray).foldl (fun t (p, v) => t.setIfInBounds p v) tmps = (ps.toList.zip args).foldl (fun t p => t.setIfInBounds p.1 p.2) tmps := by
    rw [← Array.foldl_toList, Array.toList_zip]
  have hS : St n (bindE e ps.toList args) { tmps := (ps.zip args.toArray).foldl (fun t (p, v) => t.setIfInBounds p v) tmps, defers := [] } := by
    rw [hz]; exact St.binds _ _ hps hst
  refine wpIn_mono (hbody w (blks Hs) σ σ p.2 x p' args Hs hB hle hax hg w _ ⟨hw1.tail, ⟨fun _ => ⟨[], rfl, List.nodup_nil, by simp⟩, (fun _ h => by cases h), fun l' hl' => ?_⟩⟩ hS) ?_
  · cases hl'; exact ⟨rfl, ⟨_, hl1⟩, (rec_far hw1).1, (rec_far hw1).2⟩
  rintro ex a2 w2 ⟨e2, σ2, H2, hS2, hw2, hq2⟩
  cases ex with
  | normal =>
    have hw2' := hw1.callT hw2.toReach
    have hl2 : w2.heap[l]? = some (.loop (mkRec fn tmps ps assign body D .ready none)) := hw2'.holds _ (List.mem_cons_self ..)
    have hw3 := hw2'.turnRec (o' := .loop (mkRec fn tmps ps assign body D .busy none))
    have hl3 : (w2.putObj l (.loop (mkRec fn tmps ps assign body D .busy none))).heap[l]? = some (.loop (mkRec fn tmps ps assign body D .busy none)) := hw3.holds _ (List.mem_cons_self ..)
    have hd2 : a2.defers = [] := (hw2.marks.rc l rfl).1
    refine ⟨_, run_beginRound hl2 rfl, ?_⟩
    refine wpIn_mono (hq2 _ (blks H2) σ2 _ a2 ⟨hw3.tail, ⟨fun _ => ⟨[], by rw [hd2]; rfl, List.nodup_nil, by simp⟩, (fun _ h => by cases h), fun l' hl' => ?_⟩⟩ hS2) ?_
    · cases hl'; exact ⟨hd2, ⟨_, hl3⟩, (rec_far hw3).1, (rec_far hw3).2⟩
    rintro ex a4 w4 ⟨e4, σ4, H4, hS4, hw4, hq4⟩
    have hw4' := hw3.callT hw4.toReach
    have hl4 : w4.heap[l]? = some (.loop (mkRec fn tmps ps assign body D .busy none)) := hw4'.holds _ (List.mem_cons_self ..)
    have fin : ∀ (jump : Option Code) (j : Nat), p'.1 = j → (j = 0 → jump = none) → (j ≠ 0 → jump = J[j - 1]? ∧ ∃ c, jump = some c) → G p'.2 σ4 H4 → ∃ v w', (Instr.endRound l jump).run P w4 = .ok v w' ∧ (Ending.returned v = .returned (.bool (p'.1 == 0)) ∧ ∃ σ' r', YR (rndZ l (mkRec fn tmps ps assign body D) J σs G hG) p' σ' r' ∧ Reach w (Res.star (Res.lrec l (recOf (mkRec fn tmps ps assign body D) J p.1) :: Hs)).bl σ σ' w' [r']) := fun jump j h1 h2 h3 h4 => by
      have h6 : Obj.loop (mkRec fn tmps ps assign body D (if jump.isNone then .ready else .done) jump) = recOf (mkRec fn tmps ps assign body D) J p'.1 := by
        unfold recOf
        rw [h1]
        by_cases h0 : j = 0
        · rw [if_pos h0, h2 h0]; rfl
        · obtain ⟨h7, c, h8⟩ := h3 h0
          rw [if_neg h0, ← h7, h8]; rfl
      refine ⟨_, _, run_endRound jump hl4, ?_, σ4, Res.star (Res.lrec l (recOf (mkRec fn tmps ps assign body D) J p'.1) :: H4), ⟨H4, rfl, h4, hle.trans hw4'.le, fun h => ?_⟩, ?_⟩
      · rw [h1]
        by_cases h0 : j = 0
        · rw [h2 h0, h0]; rfl
        · obtain ⟨_, c, hc⟩ := h3 h0
          rw [hc]; simp [h0]
      · rw [h1] at h ⊢
        obtain ⟨h5, c, h6⟩ := h3 h
        exact ⟨c, by rw [← h5, h6]⟩
      · have h5 := hw4'.turnRec (o' := .loop (mkRec fn tmps ps assign body D (if jump.isNone then .ready else .done) jump))
        show Reach w _ σ σ4 (w4.putObj l (.loop (mkRec fn tmps ps assign body D (if jump.isNone then .ready else .done) jump))) _
        rw [h6] at h5 ⊢
        rw [hp0]
        exact Reach.star (G := Res.lrec l (recOf (mkRec fn tmps ps assign body D) J p'.1) :: H4) (F := []) (by rw [List.append_nil]; exact h5)
    cases ex with
    | normal => exact fin none 0 hq4.1 (fun _ => rfl) (fun h => absurd rfl h) hq4.2
    | ret => obtain ⟨j, hj, h1, h2⟩ := hq4; exact fin (some .ret) (j + 1) h1 (fun h => by cases h) (fun _ => ⟨by simpa using hj.symm, _, rfl⟩) h2
    | exit i => obtain ⟨j, hj, h1, h2⟩ := hq4; exact fin (some (.exit i)) (j + 1) h1 (fun h => by cases h) (fun _ => ⟨by simpa using hj.symm, _, rfl⟩) h2
    | goto i => obtain ⟨j, hj, h1, h2⟩ := hq4; exact fin (some (.goto i)) (j + 1) h1 (fun h => by cases h) (fun _ => ⟨by simpa using hj.symm, _, rfl⟩) h2
    | panic c => exact hq4.elim
    | outgrown => exact hq4.elim
  | exit i => exact hq2.elim
  | goto i => exact hq2.elim
  | ret => exact hq2.elim
  | panic c => exact hq2.elim
  | outgrown => exact hq2.elim
@[reducible] def jmpQ (X : Ctx) (Q : QP) (J : List Code) : Nat → Env → Store → List Res → Prop
  | 0 => Q .normal
  | j + 1 => fun e σ H => ∀ c, J[j]? = some c → TC X Q c e σ H
theorem TC.rangeFunc {X : Ctx} {Q : QP} {e : Env} {σ : Store} {H Hs Hc : List Res} {S α : Type} {g : Operand} {ps : Array Tmp} {assign body : Code} {f : Nat} {lb : List Value} {A : α → Store → List Value → Prop}
    (J : List Code) (B : S → α → Option (Nat × S)) (G : S → Store → List Res → Prop) {s : S} {q : Nat × S} {PostC : Store → List Res → Prop}
    (hg : ev e g = .func (.func f) #[] lb.toArray) (hp : plainF X.P f = true) (hH : Hs ++ Hc = H) (hps : ps.toList.all (fun p => Nat.blt p X.n) = true)
    (hG : ∀ {s σ σ' H}, G s σ H → σ.le σ' → G s σ' H) (h0 : G s σ Hs) (hA : ∀ x σ vs, A x σ vs → vs.length = ps.size)
    (hit : IterOk X.P f lb A (stepY B) σ Hc (0, s) q PostC)
    (hbody : ∀ (l : Nat) (w0 : World) (C : List Nat) (τ σ' : Store) (s : S) (x : α) (q : Nat × S) (vs : List Value) (Hs : List Res), B s x = some q → σ.le σ' → A x σ' vs → G s σ' Hs →
      TC ⟨X.P, w0, C, τ, X.n, some l, none⟩ (asgQ fun e σ H => ∀ w0 C τ, TC ⟨X.P, w0, C, τ, X.n, some l, none⟩ (rndQ J fun j σ H => q.1 = j ∧ G q.2 σ H) body e σ H) assign (bindE e ps.toList vs) σ' Hs)
    (hdone : ∀ σ' Hs' Hc', σ.le σ' → G q.2 σ' Hs' → PostC σ' Hc' → jmpQ X Q J q.1 e σ' (Hs' ++ Hc')) (hown : X.own = none := by rfl) : TC X Q (.rangeFunc g ps assign body) e σ H := by
  subst hH
  intro w a hw ha
  have hps' : ∀ p ∈ ps.toList, p < X.n := fun p hp => by
    have := List.all_eq_true.1 hps p hp
    simpa [Nat.blt_eq] using this
  refine wpIn_rangeFunc fun fn _ => ?_
  have key : ∀ (l D : Nat) (w1 : World) (a1 : Act), a1.tmps = a.tmps → RM X a1 σ w1 (Res.lrec l (.loop (mkRec fn a.tmps ps assign body D .ready none)) :: (Hs ++ Hc)) →
      CallsIn (fence X.rnd) 0 X.P f (#[.func (.yield l) #[] #[]] ++ lb.toArray) w1 (rangePost (fence X.rnd) 0 X.P l (low X Q) a1) := by
    intro l D w1 a1 ht hw1
    have hcon := hit l (rndZ l (mkRec fn a.tmps ps assign body D) J σ G hG) (Res.star (Res.lrec l (recOf (mkRec fn a.tmps ps assign body D) J 0) :: Hs))
      (yOk_of ⟨ha.size, ha.get⟩ hps' hA (hbody l)) ⟨Hs, rfl, h0, Store.le.refl _, fun h => absurd rfl h⟩
    have hst : RM X a1 σ w1 (Res.star (Res.lrec l (recOf (mkRec fn a.tmps ps assign body D) J 0) :: Hs) :: Hc) := hw1.by fun _ k => Reach.star (G := Res.lrec l (recOf (mkRec fn a.tmps ps assign body D) J 0) :: Hs) (F := Hc) k
    have hcall := hcon w1 hst.self
    have hargs : (Value.func (.yield l) #[] #[] :: lb).toArray = #[.func (.yield l) #[] #[]] ++ lb.toArray := by apply Array.ext'; simp
    rw [hargs] at hcall
    refine calls_fence.2 (hcall.mono ?_)
    rintro ex w2 ⟨v, σ2, H2, rfl, ⟨r', Hc', rfl, ⟨Hs', rfl, hg2, hle, hJ⟩, hpc⟩, hw2⟩
    have hw3 : RM X a1 σ2 w2 (Res.lrec l (recOf (mkRec fn a.tmps ps assign body D) J q.1) :: (Hs' ++ Hc')) := (hst.step hw2 rfl).by fun _ k => k.unstar
    have hl : w2.heap[l]? = some (recOf (mkRec fn a.tmps ps assign body D) J q.1) := hw3.holds _ (List.mem_cons_self ..)
    have hS1 : St X.n e a1 := ⟨by rw [ht]; exact ha.size, fun t => by rw [ht]; exact ha.get t⟩
    have hw5 : ∀ o', RM X a1 σ2 (w2.putObj l o') (Hs' ++ Hc') := fun o' => hw3.step ((hw3.self.turnRec (o' := o')).sub (List.sublist_cons_self ..)) rfl
    have hfin := hdone σ2 Hs' Hc' hle hg2 hpc
    unfold recOf at hl
    cases hq : q.1 with
    | zero =>
      rw [hq] at hl hfin
      exact ⟨none, _, run_endLoop hl (by simp), e, σ2, _, hS1, hw5 _, hfin⟩
    | succ j =>
      rw [hq] at hl hfin hJ
      obtain ⟨c, hc⟩ := hJ (by simp)
      simp only [Nat.add_sub_cancel, Nat.succ_ne_zero, if_false] at hl hc
      rw [hc] at hl
      exact ⟨some c, _, run_endLoop hl (by simp), hfin c hc _ a1 (hw5 _) hS1⟩
  have hnew : ∀ k, k < w.heap.size ∨ True := fun _ => .inr trivial
  have hres : ∀ l w1, (resolve a.eval (rangeCall g l) 0).run X.P w1 = .ok { target := .fn (.func f) lb.toArray, args := #[.func (.yield l) #[] #[]] } w1 := fun l w1 => by
    rw [ha.eval']
    simp only [resolve, hg]
    simp [go_sem, Deferred.ofValue, ev]
  have hinv : ∀ l w1, (invoke (.fn (.func f) lb.toArray) #[.func (.yield l) #[] #[]]).run X.P w1 = .ok (.enter f (#[.func (.yield l) #[] #[]] ++ lb.toArray)) w1 := fun l w1 => by
    simp [invoke, run_callFunc hp]
  cases hr : X.rnd with
  | none =>
    refine ⟨w.heap.size + 1, _, _, _, _, f, _, _, run_enterLoop_outer _ _ _ _ _, hres _ _, fun _ _ => trivial, hinv _ _, (fun h => by cases h), hr ▸ key (w.heap.size + 1) w.heap.size _ _ rfl ?_⟩
    have hsz : ((w.alloc (.deferred (some []))).heap.size) = w.heap.size + 1 := by simp
    have hold : ∀ k, k < w.heap.size → ((w.alloc (.deferred (some []))).alloc (.loop (mkRec fn a.tmps ps assign body w.heap.size .ready none))).heap[k]? = w.heap[k]? := fun k hk => by
      rw [alloc_old _ _ _ (by omega), alloc_old _ _ _ hk]
    have hR : Reach w (blks (Hs ++ Hc)) σ σ ((w.alloc (.deferred (some []))).alloc (.loop (mkRec fn a.tmps ps assign body w.heap.size .ready none))) (Res.lrec (w.heap.size + 1) (.loop (mkRec fn a.tmps ps assign body w.heap.size .ready none)) :: (Hs ++ Hc)) :=
      hw.self.gain rfl rfl rfl (by simp; omega) (Nat.le_refl _) hold (by
        have := World.alloc_heap_new (w.alloc (.deferred (some []))) (.loop (mkRec fn a.tmps ps assign body w.heap.size .ready none))
        rw [hsz] at this; exact this) (fun b hb => by simp [Res.lrec] at hb; omega) (by simp [Res.lrec])
    have h1 := hw.step hR (a' := a) rfl
    refine ⟨h1.toReach, ⟨fun _ => ?_, (fun _ h => by rw [hown] at h; cases h), fun l hl => by rw [hr] at hl; cases hl⟩⟩
    obtain ⟨Ds, g1, g2, g3⟩ := h1.marks.ex hown
    obtain ⟨Ds0, g10, g20, g30⟩ := hw.marks.ex hown
    have hDs : Ds = Ds0 := by
      have := g1.symm.trans g10
      have h2 : ∀ (A B : List Nat), A.map (fun D => ({ target := .collected D, args := #[] } : Deferred)) = B.map (fun D => ({ target := .collected D, args := #[] } : Deferred)) → A = B := fun A => by
        induction A with
        | nil => intro B h; cases B with
          | nil => rfl
          | cons b B => simp at h
        | cons a A ih => intro B h; cases B with
          | nil => simp at h
          | cons b B => simp only [List.map_cons, List.cons.injEq, Deferred.mk.injEq, Target.collected.injEq, and_true] at h; rw [h.1, ih B h.2]
      exact h2 _ _ this
    subst hDs
    refine ⟨w.heap.size :: Ds, by simp [g1], List.nodup_cons.2 ⟨fun hx => ?_, g2⟩, fun D hD => ?_⟩
    · have := (Array.getElem?_eq_some_iff.1 (g30 _ hx).1).1; omega
    · rcases List.mem_cons.1 hD with rfl | hD
      · refine ⟨?_, hw.size, fun hx => ?_, ?_⟩
        · rw [alloc_old _ _ _ (by omega)]; exact World.alloc_heap_new w _
        · simp only [blks, List.flatMap_cons, Res.lrec, List.cons_append, List.nil_append, List.mem_cons] at hx
          rcases hx with hx | hx
          · omega
          · obtain ⟨r, hr', hb⟩ := mem_blks.1 hx
            have := hw.block_lt hr' hb; omega
        · cases hs : σ w.heap.size with
          | none => rfl
          | some o => have := (Array.getElem?_eq_some_iff.1 (hw.fit _ _ hs)).1; omega
      · exact g3 D hD
  | some l0 =>
    obtain ⟨hd0, ⟨r0, h1⟩, h2, h3⟩ := hw.marks.rc l0 hr
    refine ⟨w.heap.size, _, _, _, _, f, _, _, run_enterLoop_inner h1 _ _ _ _ _, hres _ _, fun _ _ => trivial, hinv _ _, (fun h => by cases h), hr ▸ key w.heap.size r0.defers _ a rfl ?_⟩
    refine hw.step (hw.self.gain rfl rfl rfl (by simp) (Nat.le_refl _) (fun k hk => alloc_old _ _ _ hk) (World.alloc_heap_new w _) (fun b hb => by simp [Res.lrec] at hb; omega) (by simp [Res.lrec])) rfl
end Go.E
end

section
namespace Go.E
open Go
theorem TC.rangeG {X : Ctx} {Q : QP} {e : Env} {σ : Store} {H Hs Hc : List Res} {S α : Type} {g : Operand} {ps : Array Tmp} {assign body : Code} {f : Nat} {lb : List Value} {A : α → Store → List Value → Prop}
    (J : List Code) (B : S → α → Option (Nat × S)) (G : S → Store → List Res → Prop) {s : S} {q : Nat × S} {PostC : Store → List Res → Prop}
    (hg : ev e g = .func (.func f) #[] lb.toArray) (hp : plainF X.P f = true) (hH : Hs ++ Hc = H) (hps : ps.toList.all (fun p => Nat.blt p X.n) = true)
    (hG : ∀ {s σ σ' H}, G s σ H → σ.le σ' → G s σ' H) (h0 : G s σ Hs) (hA : ∀ x σ vs, A x σ vs → vs.length = ps.size)
    (hit : IterOk X.P f lb A (stepY B) σ Hc (0, s) q PostC)
    (hbody : ∀ (l : Nat) (w0 : World) (C : List Nat) (τ σ' : Store) (s : S) (x : α) (q : Nat × S) (vs : List Value) (Hs : List Res), B s x = some q → σ.le σ' → A x σ' vs → G s σ' Hs →
      TC ⟨X.P, w0, C, τ, X.n, some l, none⟩ (asgQ fun e σ H => ∀ w0 C τ, TC ⟨X.P, w0, C, τ, X.n, some l, none⟩ (rndQ J fun j σ H => q.1 = j ∧ ∃ F, Sub F H ∧ G q.2 σ F) body e σ H) assign (bindE e ps.toList vs) σ' Hs)
    (hdone : ∀ σ' Hs' Hc', σ.le σ' → G q.2 σ' Hs' → PostC σ' Hc' → jmpQ X Q J q.1 e σ' (Hs' ++ Hc')) (hown : X.own = none := by rfl) : TC X Q (.rangeFunc g ps assign body) e σ H := by
  refine TC.rangeFunc J B G hg hp hH hps hG h0 hA hit (fun l w0 C τ σ' s x q vs Hs h1 h2 h3 h4 => (hbody l w0 C τ σ' s x q vs Hs h1 h2 h3 h4).weak fun ex e σ H h => ?_) hdone hown
  cases ex with
  | normal =>
    refine fun w0 C τ => TC.weakR ((h w0 C τ).weak fun ex e σ H h => ?_)
    cases ex with
    | normal => obtain ⟨h1, F, hs, hg⟩ := h; exact ⟨F, hs, h1, hg⟩
    | ret => obtain ⟨j, hj, h1, F, hs, hg⟩ := h; exact ⟨F, hs, j, hj, h1, hg⟩
    | exit i => obtain ⟨j, hj, h1, F, hs, hg⟩ := h; exact ⟨F, hs, j, hj, h1, hg⟩
    | goto i => obtain ⟨j, hj, h1, F, hs, hg⟩ := h; exact ⟨F, hs, j, hj, h1, hg⟩
    | panic c => exact h.elim
    | outgrown => exact h.elim
  | exit i => exact h
  | goto i => exact h
  | ret => exact h
  | panic c => exact h
  | outgrown => exact h
theorem asg_n {K : Env → Store → List Res → Prop} {e : Env} {σ : Store} {H : List Res} (h : K e σ H) : asgQ K .normal e σ H := h
theorem rnd_n {J : List Code} {K : Nat → Store → List Res → Prop} {e : Env} {σ : Store} {H : List Res} (h : K 0 σ H) : rndQ J K .normal e σ H := h
def jsel {α : Type} : Nat → Option α → (Nat → Option α) → Option α
  | 0, a, _ => a
  | n + 1, _, b => b n
theorem jmp_split {X : Ctx} {Q : QP} {J : List Code} {n : Nat} {e : Env} {σ : Store} {H : List Res} {α : Type} {a : Option α} {b : Nat → Option α} {r : α} (hh : jsel n a b = some r)
    (h0 : a = some r → Q .normal e σ H) (h1 : ∀ m c, b m = some r → J[m]? = some c → TC X Q c e σ H) : jmpQ X Q J n e σ H := by
  cases n with
  | zero => exact h0 hh
  | succ m => exact fun c hc => h1 m c hh hc
theorem jl_nil {X : Ctx} {Q : QP} {c : Code} {m : Nat} {e : Env} {σ : Store} {H : List Res} (hc : ([] : List Code)[m]? = some c) : TC X Q c e σ H := by simp at hc
end Go.E
end
