/- Parts of a proof, one behind the other: what a machine reaches, functions decompiled, plain lemmas. Conditions stand with each lemma. -/
import Derived.Test.YtcidppnlhhkhhaaBd9b75922b6
import Derived.Test.YtcidppnlhhkhhaaB4c46cdccbb
import Derived.Lib.AppendZerosOnto
import Derived.Maps.RangeRun
import Derived.Laws.StructEq
import Derived.Laws.BytesArg
import Derived.Lib.Bytealg
import Derived.Shelf.SlSortCmp.NoneTotal
import Derived.Laws.Append

/- Dec4 -/
section
/- More words: a row cut, what make appends, parts of slices that are only read. Plain lemmas over any program; no condition. -/
set_option linter.unusedVariables false
set_option linter.unusedSimpArgs false
namespace Go.E
open Go
section
variable {P : Program} {n : Nat} {e : Env} {σ : Store} {H : List Res} {o : Oper} {x y z : Operand} {α : Type}
theorem OpVal.capC {t E m c : Nat} {a : Option Addr} (ho : o.op = .call { callee := .builtin .cap, args := #[x], argTypes := #[t] }) (ht : P.underlying t = some (.slice E)) (hx : ev e x = .slice a m c) :
    OpVal P n o e σ H (.int .i64 (c : Nat)) := fun w _ => by
  simp [execOp, ho, resolve, invoke, builtin, hx, Builtin.cap_, run_underlying ht, goInt]
theorem OpVal.sliceNil {t E s : TypeId} {k : IntKind} (ho : o.op = .slice t x none (some z) none) (ht : P.underlying t = some (.slice E)) (hs : szOf P E = some s) (hx : ev e x = .slice none 0 0) (hz : ev e z = .int k 0) : OpVal P n o e σ H (.slice none 0 0) := fun w _ => by
  simp [execOp, ho, hx, hz, Instr.sliceAt, Instr.slice, Instr.sliceBounds, Instr.sliceBound, asIntOf, run_underlying ht, run_sizeOf hs]
end
section
variable {X : Ctx} {e : Env} {σ : Store} {H F : List Res} {o : Oper} {x y z : Operand} {K : Env → Store → List Res → Prop} {α : Type}
/-- append(nil, make(..)...) -/
theorem OpOk.appendMake {T I E size by_ d m : Nat} {enc : α → List Value} {kn : IntKind} {zv : Value} (x0 : α) (ho : o.op = .call { callee := .builtin .append, args := #[x, y], argTypes := #[T, I] }) (ht : X.P.underlying T = some (.slice E)) (hI : X.P.underlying I = some (.int kn)) (hs : szOf X.P E = some size) (hby : byOf X.P E = some by_) (hz : zeroOf X.P E = some zv)
    (hd : o.dst = some d) (hn : Nat.blt d X.n = true) (hx : ev e x = .slice none 0 0) {kq : IntKind} (hy : ev e y = .int kq (m : Nat)) (hm : 0 < m ∧ m * by_ ≤ 140737488355328) (hby0 : 0 < by_) (hl : ∀ x, (enc x).length = size) (h0 : 0 < size)
    (hz0 : zv.cells.toList = enc x0) (h1 : ∀ x, ∀ u ∈ enc x, u.oneCell' = true) (k : ∀ a c, K (upd e d (.slice a (List.replicate m x0).length c)) σ (Res.rowS E size enc (.slice a (List.replicate m x0).length c) (List.replicate m x0) :: H)) : OpOk X o e σ H K := by
  obtain ⟨i, hi, hsz⟩ := szOf_info hs
  have hiz : i.zero = some zv := by simpa [zeroOf, hi] using hz
  have hib : i.bytes = by_ := by simpa [byOf, hi] using hby
  have hm0 : m ≤ 140737488355328 := Nat.le_trans (Nat.le_mul_of_pos_right m hby0) hm.2
  intro u0 C0 τ0 w a hw ha K' Q hK
  have hrun := Lib.run_append_grow_zeros (P := X.P) w T I o.type E i zv kq kn ht hI hi hiz none 0 0 [] (by rw [hsz]; exact run_firstCells_none w.drew size 0 0 0) m hm.1 (by omega) (by omega) (by omega) (by rw [hib]; omega) (by rw [Nat.zero_add, nextslicecap_zero hm.1, hib]; omega)
  generalize hcap : grownCap w (0 + m) 0 E = cap at hrun
  have hge : 0 + m ≤ cap := hcap ▸ grownCap_ge w (0 + m) 0 E
  rw [Nat.zero_add] at hrun hge
  have hcs : (Builtin.zeroCells zv.cells m).toList = (List.replicate m x0).flatMap enc := by
    have := madeCells_flat zv x0 hz0 m (by rw [hl]; exact h0)
    rw [hl] at this
    rw [← this]
    have hzs : zv.cells.size = size := by rw [← Array.length_toList, hz0, hl]
    simp [Builtin.zeroCells, madeCells, hzs]
  have hzn : ∀ q, (Builtin.zeroCells zv.cells q).size = q * size := fun q => by
    have hzs : zv.cells.size = size := by rw [← Array.length_toList, hz0, hl]
    simp [Builtin.zeroCells, hzs]
  have hown : (w.drew.alloc (.cells (#[] ++ Builtin.zeroCells zv.cells m ++ Builtin.zeroCells zv.cells (cap - m)) E)).ownsRow 0 E size (.slice (some ⟨w.heap.size, 0, none⟩) m cap) m ((List.replicate m x0).flatMap enc) := by
    refine ⟨by rw [flatMap_len hl, List.length_replicate], .inr ⟨w.heap.size, cap, _, rfl, Nat.zero_le _, heap_alloc_new w.drew _, hge, ?_, ?_, ?_⟩⟩
    · rw [← hcap]; exact grownCap_le_maxLen w (0 + m) 0 E (by unfold maxLen; omega)
    · rw [Array.size_append, Array.size_append, hzn, hzn, Array.size_empty, Nat.zero_add, ← Nat.add_mul]; congr 1; omega
    · rw [Array.toList_append, Array.toList_append, Array.toList_empty, List.nil_append, hcs, List.take_append_of_le_length (by rw [flatMap_len hl, List.length_replicate]; exact Nat.le_refl _), List.take_of_length_le (by rw [flatMap_len hl, List.length_replicate]; exact Nat.le_refl _)]
  have hR := (hw.drew).gain1 (some w.heap.size) (r' := Res.rowS E size enc (.slice (some ⟨w.heap.size, 0, none⟩) m cap) (List.replicate m x0)) (w' := w.drew.alloc (.cells (#[] ++ Builtin.zeroCells zv.cells m ++ Builtin.zeroCells zv.cells (cap - m)) E)) rfl rfl rfl rfl (by simp) (Nat.le_refl _) (fun k hk => alloc_old w.drew _ k hk)
    ⟨by rw [List.length_replicate]; exact hown, fun u hu => by
      rw [List.mem_flatMap] at hu
      obtain ⟨q, _, hq⟩ := hu
      exact h1 q u hq, by rw [List.length_replicate]; omega⟩ (fun b hb => by cases hb; exact Nat.le_refl _)
  have hk := k (some ⟨w.heap.size, 0, none⟩) cap
  rw [List.length_replicate] at hk
  refine Oper.wp_of_run (v := .slice (some ⟨w.heap.size, 0, none⟩) m cap) ?_ (hK _ _ _ _ _ hk hR (put_dst ha hd hn _))
  rw [ha.eval']
  have e0 : (([] : List Value).toArray) = #[] := rfl
  rw [e0] at hrun
  simp [execOp, ho, resolve, invoke, builtin, hx, hy, hrun]
theorem take_flat {enc : α → List Value} {size : Nat} (hl : ∀ x, (enc x).length = size) : ∀ (l : List α) (i : Nat), (l.take i).flatMap enc = (l.flatMap enc).take (i * size)
  | [], i => by simp
  | u :: l, 0 => by simp
  | u :: l, i + 1 => by
    rw [List.take_succ_cons, List.flatMap_cons, List.flatMap_cons, take_flat hl l i]
    have h1 : (i + 1) * size = (enc u).length + i * size := by rw [hl, Nat.add_mul]; omega
    rw [h1, List.take_append, Nat.add_sub_cancel_left, List.take_of_length_le (Nat.le_add_right _ _)]
/-- A row cut: fewer elements, the same room. -/
theorem OpOk.cutS {T E size d i : Nat} {k : IntKind} {enc : α → List Value} {a : Option Addr} {m c : Nat} {l : List α} (ho : o.op = .slice T x none (some z) none) (ht : X.P.underlying T = some (.slice E)) (hs : szOf X.P E = some size) (hd : o.dst = some d) (hn : Nat.blt d X.n = true) (hx : ev e x = .slice a m c) (hm : l.length = m) (hz : ev e z = .int k (i : Nat)) (hi : i ≤ l.length) (hl : ∀ x, (enc x).length = size)
    (kk : K (upd e d (.slice a (l.take i).length c)) σ (Res.rowS E size enc (.slice a (l.take i).length c) (l.take i) :: F)) : OpOk X o e σ (Res.rowS E size enc (.slice a m c) l :: F) K := by
  subst hm
  intro u0 C0 τ0 w ac hw ha K' Q hK
  obtain ⟨hown, hone, hbg⟩ := hw.holds _ (List.mem_cons_self ..)
  have hli : (l.take i).length = i := by rw [List.length_take]; omega
  rw [hli] at kk
  have hflat : (l.take i).flatMap enc = (l.flatMap enc).take (i * size) := take_flat hl l i
  have hone' : ∀ u ∈ (l.take i).flatMap enc, u.oneCell' = true := fun u hu => hone u (by rw [hflat] at hu; exact List.mem_of_mem_take hu)
  have hsl := isSl_row hown
  obtain ⟨a', c', hv, hnone, hcap⟩ := hsl
  cases hv
  have hsz := run_sizeOf (P := X.P) hs
  have hrun : (Instr.slice T (.slice a l.length c) none (some (.int k i)) none).run X.P w = .ok (.slice a i c) w := by
    cases a with
    | none =>
      obtain ⟨h1, h2⟩ := hnone rfl
      have : i = 0 := by omega
      subst this; subst h2
      simp [Instr.slice, Instr.sliceBounds, Instr.sliceBound, asIntOf, run_underlying ht, hsz]
    | some ad =>
      have h2 : (i : Int) ≤ (c : Int) := by omega
      simp [Instr.slice, Instr.sliceBounds, Instr.sliceBound, asIntOf, run_underlying ht, hsz, Addr.add]
      intro hlt; omega
  have hown' : w.ownsRow 0 E size (.slice a i c) i ((l.take i).flatMap enc) := by
    refine ⟨by rw [flatMap_len hl, hli], ?_⟩
    rcases hown.2 with ⟨h1, h2⟩ | ⟨g, cap, cur, h1, h2, h3, h4, h5, h6, h7⟩
    · refine .inl ⟨?_, by omega⟩
      simp only [Value.slice.injEq] at h1 ⊢
      exact ⟨h1.1, by omega, h1.2.2⟩
    · simp only [Value.slice.injEq] at h1
      refine .inr ⟨g, cap, cur, ?_, h2, h3, by omega, h5, h6, ?_⟩
      · simp only [Value.slice.injEq]; exact ⟨h1.1, trivial, h1.2.2⟩
      · rw [hflat, ← h7, List.take_take, Nat.min_eq_left (Nat.mul_le_mul_right _ hi)]
  have hR : Reach u0 C0 τ0 σ w (Res.rowS E size enc (.slice a i c) (l.take i) :: F) :=
    hw.turn1 (Value.ownBlock (.slice a l.length c)) (Value.ownBlock (.slice a i c)) rfl rfl rfl rfl rfl (Nat.le_refl _) (Nat.le_refl _) (fun _ _ _ => rfl) ⟨by rw [hli]; exact hown', hone', by rw [hli]; omega⟩ (fun q hq => .inl (by cases a <;> exact hq))
  refine Oper.wp_of_run (v := .slice a i c) ?_ (hK _ _ _ _ _ kk hR (put_dst ha hd hn _))
  rw [ha.eval']
  simp [execOp, ho, hx, hz, Instr.sliceAt, run_underlying ht, hrun]
end
end Go.E
namespace Go.E
open Go
/-! ### Parts of slices that are only read -/
section
variable {α : Type} {σ : Store} {size m c : Nat} {enc : α → List Value} {a : Option Addr} {l : List α}
end
end Go.E
end

/- Dec5 -/
section
/- Rows in a row, all of one's own; what the resources tell. Plain lemmas over any program; no condition. -/
set_option linter.unusedVariables false
set_option linter.unusedSimpArgs false
namespace Go.E
open Go

/-! ### What the resources tell, at every place of a walk -/
section
variable {X : Ctx} {ops : Array Oper} {Q : QP} {e : Env} {σ σr : Store} {H H' Hr F : List Res} {late : List Nat} {fuel : Nat} {listed : Array Bool} {c : Code} {l : List Oper}
theorem TC.by (h : ∀ {u0 C0 τ0} w, Reach u0 C0 τ0 σ w H → Reach u0 C0 τ0 σ w H') (k : TC X Q c e σ H') : TC X Q c e σ H := fun w a hw ha => k w a (hw.by h) ha
theorem TL.by (h : ∀ {u0 C0 τ0} w, Reach u0 C0 τ0 σ w H → Reach u0 C0 τ0 σ w H') (k : TL X ops Q l e σ H') : TL X ops Q l e σ H := fun w a hw ha => k w a (hw.by h) ha
theorem TA.by (h : ∀ {u0 C0 τ0} w, Reach u0 C0 τ0 σ w H → Reach u0 C0 τ0 σ w H') (k : TA X ops Q σr Hr late fuel listed e σ H') : TA X ops Q σr Hr late fuel listed e σ H := fun hnd w a hw hS hc ha => k hnd w a (hw.by h) hS hc ha
theorem TZ.by (h : ∀ {u0 C0 τ0} w, Reach u0 C0 τ0 σ w H → Reach u0 C0 τ0 σ w H') (k : TZ X ops Q σr Hr late fuel listed e σ H') : TZ X ops Q σr Hr late fuel listed e σ H := fun hnd w a hw ha => k hnd w a (hw.by h) ha
theorem TC.know {p : Prop} (h : ∀ w, Sees σ H w → p) (k : p → TC X Q c e σ H) : TC X Q c e σ H := fun w a hw ha => k (h w hw.sees) w a hw ha
theorem TL.know {p : Prop} (h : ∀ w, Sees σ H w → p) (k : p → TL X ops Q l e σ H) : TL X ops Q l e σ H := fun w a hw ha => k (h w hw.sees) w a hw ha
theorem TL.seals {p : Store → Prop} (h : ∀ {u0 C0 τ0} w, Reach u0 C0 τ0 σ w H → ∃ σ', Reach u0 C0 τ0 σ' w H' ∧ σ.le σ' ∧ p σ') (k : ∀ σ', σ.le σ' → p σ' → TL X ops Q l e σ' H') : TL X ops Q l e σ H := fun w a hw ha => by
  obtain ⟨σ', h1, h2, h3⟩ := h w hw.self
  exact k σ' h2 h3 w a (hw.step h1 rfl) ha
theorem OpOk.by {o : Oper} {K : Env → Store → List Res → Prop} (h : ∀ {u0 C0 τ0} w, Reach u0 C0 τ0 σ w H → Reach u0 C0 τ0 σ w H') (k : OpOk X o e σ H' K) : OpOk X o e σ H K := fun u0 C0 τ0 w a hw ha => k u0 C0 τ0 w a (h w hw) ha
/-- Resources change behind an operation. -/
theorem OpOk.then {o : Oper} {K K' : Env → Store → List Res → Prop} (k : OpOk X o e σ H K') (h : ∀ e' σ' G, K' e' σ' G → ∃ G', (∀ {u0 C0 τ0} w, Reach u0 C0 τ0 σ' w G → Reach u0 C0 τ0 σ' w G') ∧ K e' σ' G') : OpOk X o e σ H K := fun u0 C0 τ0 w a hw ha K2 Q2 hK =>
  k u0 C0 τ0 w a hw ha K2 Q2 fun e' σ' G a' w' hk hw' ha' => by
    obtain ⟨G', h1, h2⟩ := h e' σ' G hk
    exact hK e' σ' G' a' w' h2 (h1 w' hw') ha'
end
theorem OpVal.seen {P : Program} {n : Nat} {o : Oper} {e : Env} {σ : Store} {H G : List Res} {v : Value} (h : ∀ w, Sees σ H w → Sees σ G w) (k : OpVal P n o e σ G v) : OpVal P n o e σ H v := fun w hw => k w (h w hw)
/-! ### Rows in a row -/
section
variable {β : Type} {E' E size : Nat} {enc : β → List Value} {v : Value}
abbrev NP (β : Type) := List β × (Option Addr × Nat)
def encN (m : NP β) : List Value := [.slice m.2.1 m.1.length m.2.2]
theorem encN_len (m : NP β) : (encN m).length = 1 := rfl
theorem encN_one : ∀ m : NP β, ∀ u ∈ encN m, u.oneCell' = true := fun m u hu => by simp [encN] at hu; subst hu; rfl
def innerR (E size : Nat) (enc : β → List Value) (m : NP β) : Res := Res.rowS E size enc (.slice m.2.1 m.1.length m.2.2) m.1
def inner (E size : Nat) (enc : β → List Value) (z : List (NP β)) : List Res := z.map (innerR E size enc)
def Res.nest (E' E size : Nat) (enc : β → List Value) (v : Value) (z : List (NP β)) : Res := Res.star (Res.rowS E' 1 encN v z :: inner E size enc z)
def Res.nestX (E' E size : Nat) (enc : β → List Value) (v : Value) (z : List (NP β)) (i : Nat) : Res := Res.star (Res.rowS E' 1 encN v z :: (inner E size enc z).eraseIdx i)
def nilN : NP β := ([], (none, 0))
/-- A list with its addresses. -/
def Zn (z : List (NP β)) (l : List (List β)) : Prop := z.map Prod.fst = l
theorem Zn.len {z : List (NP β)} {l : List (List β)} (h : Zn z l) : z.length = l.length := by rw [← h, List.length_map]
theorem Zn.at {z : List (NP β)} {l : List (List β)} (h : Zn z l) {i : Nat} (hi : i < l.length) : ∃ p : Option Addr × Nat, i < z.length ∧ nth z i nilN = (nth l i [], p) := by
  have hz : i < z.length := by rw [h.len]; exact hi
  refine ⟨(nth z i nilN).2, hz, ?_⟩
  have h1 := getD_some z hz nilN
  have h3 := getD_some l hi []
  rw [← h, List.getElem?_map, h1] at h3
  simp only [Option.map_some, Option.some.injEq] at h3
  rw [← h, ← h3]
theorem Zn.set {z : List (NP β)} {l : List (List β)} (h : Zn z l) (i : Nat) (x : List β) (p : Option Addr × Nat) : Zn (z.set i (x, p)) (l.set i x) := by
  unfold Zn at *; rw [List.map_set, h]
theorem Zn.rep (n : Nat) : Zn (List.replicate n (nilN : NP β)) (List.replicate n []) := by simp [Zn, nilN]
theorem inner_get {z : List (NP β)} {i : Nat} {m : NP β} (hi : i < z.length) (hm : nth z i nilN = m) : (inner E size enc z)[i]? = some (innerR E size enc m) := by
  rw [inner, List.getElem?_map, getD_some z hi nilN, hm]; rfl
theorem sees_nest {σ : Store} {H : List Res} {q : Nat} {z : List (NP β)} (hq : H[q]? = some (Res.nest E' E size enc v z)) (w : World) (h : Sees σ H w) : Sees σ [Res.rowS E' 1 encN v z] w :=
  ⟨h.1, fun r hr => by
    simp at hr; subst hr
    exact h.2 _ (List.mem_of_getElem? hq) _ (List.mem_cons_self ..)⟩
theorem sees_inner {σ : Store} {H : List Res} {q i : Nat} {z : List (NP β)} {l : List β} {p : Option Addr × Nat} (hq : H[q]? = some (Res.nest E' E size enc v z)) (hi : i < z.length) (hm : nth z i nilN = (l, p)) (w : World) (h : Sees σ H w) :
    Sees σ [Res.rowS E size enc (.slice p.1 l.length p.2) l] w :=
  ⟨h.1, fun r hr => by
    simp at hr; subst hr
    exact h.2 _ (List.mem_of_getElem? hq) _ (List.mem_cons_of_mem _ (List.mem_of_getElem? (inner_get hi hm)))⟩
theorem isSl_seen {σ : Store} {H : List Res} {w : World} {l : List β} {u : Value} (h : Sees σ [Res.rowS E size enc u l] w) : IsSl u l.length ∧ l.length ≤ 281474976710656 := by
  have h := h.2 _ (List.mem_singleton.2 rfl)
  exact ⟨isSl_row h.1, h.2.2⟩
theorem isSl_nest {σ : Store} {H : List Res} {q : Nat} {z : List (NP β)} {l : List (List β)} (hq : H[q]? = some (Res.nest E' E size enc v z)) (hZ : Zn z l) (w : World) (h : Sees σ H w) : IsSl v l.length ∧ l.length ≤ 281474976710656 := by
  have := isSl_seen (H := H) (sees_nest hq w h)
  rw [hZ.len] at this; exact this
theorem isSl_inner {σ : Store} {H : List Res} {q i : Nat} {z : List (NP β)} {l : List β} {p : Option Addr × Nat} (hq : H[q]? = some (Res.nest E' E size enc v z)) (hi : i < z.length) (hm : nth z i nilN = (l, p)) (w : World) (h : Sees σ H w) :
    IsSl (.slice p.1 l.length p.2) l.length ∧ l.length ≤ 281474976710656 := isSl_seen (H := H) (sees_inner hq hi hm w h)

section
variable {w0 : World} {C : List Nat} {σ0 σ : Store} {w : World} {F : List Res} {z : List (NP β)}
theorem Reach.takeN {i : Nat} {l : List β} {p : Option Addr × Nat} (hi : i < z.length) (hm : nth z i nilN = (l, p)) (h : Reach w0 C σ0 σ w (Res.nest E' E size enc v z :: F)) :
    Reach w0 C σ0 σ w (Res.rowS E size enc (.slice p.1 l.length p.2) l :: Res.nestX E' E size enc v z i :: F) := by
  have h1 := h.unstar
  have hg := inner_get (E := E) (size := size) (enc := enc) hi hm
  have hp : (innerR E size enc (l, p) :: (Res.rowS E' 1 encN v z :: (inner E size enc z).eraseIdx i ++ F)).Perm (Res.rowS E' 1 encN v z :: inner E size enc z ++ F) := by
    refine (List.Perm.swap _ _ _).trans (List.Perm.cons _ ?_)
    exact (front_perm hg rfl).append_right F
  have h2 := h1.perm hp
  have h3 : Reach w0 C σ0 σ w (([innerR E size enc (l, p)] : List Res) ++ (Res.rowS E' 1 encN v z :: (inner E size enc z).eraseIdx i ++ F)) := h2
  have h4 : Reach w0 C σ0 σ w ((Res.rowS E' 1 encN v z :: (inner E size enc z).eraseIdx i) ++ (innerR E size enc (l, p) :: F)) := h2.perm (by
    refine (List.perm_middle).trans ?_
    simp only [List.cons_append]
    exact List.Perm.refl _)
  have h5 := h4.star
  exact h5.perm (List.Perm.swap _ _ _)
/-- An inner row is put back, at its old place in memory or at a new one, behind the outer cell is written. -/
theorem inner_set {i : Nat} (hi : i < z.length) (m : NP β) : (innerR E size enc m :: (inner E size enc z).eraseIdx i).Perm (inner E size enc (z.set i m)) := by
  refine front_perm (i := i) ?_ ?_
  · rw [inner, List.getElem?_map, List.getElem?_set]; simp [hi]
  · rw [inner, inner, List.map_set, List.eraseIdx_set_eq]
theorem encN_same {i : Nat} {l l' : List β} {p : Option Addr × Nat} (hi : i < z.length) (hm : nth z i nilN = (l, p)) (hl : l'.length = l.length) : (z.set i (l', p)).flatMap encN = z.flatMap encN := by
  have h1 := getD_some z hi nilN
  rw [hm] at h1
  have h2 : (z.set i (l', p)).map encN = z.map encN := by
    rw [List.map_set]
    apply List.ext_getElem?
    intro j
    by_cases hj : i = j
    · subst hj
      rw [List.getElem?_set, List.getElem?_map, h1]
      simp [encN, hl, hi]
    · rw [List.getElem?_set, if_neg hj]
  rw [List.flatMap_def, List.flatMap_def, h2]
theorem Reach.putN {i : Nat} {l l' : List β} {p : Option Addr × Nat} (hi : i < z.length) (hm : nth z i nilN = (l, p)) (hl : l'.length = l.length) (h : Reach w0 C σ0 σ w (Res.rowS E size enc (.slice p.1 l.length p.2) l' :: Res.nestX E' E size enc v z i :: F)) :
    Reach w0 C σ0 σ w (Res.nest E' E size enc v (z.set i (l', p)) :: F) := by
  have h1 := (h.perm (List.Perm.swap _ _ _)).unstar
  refine Reach.star ?_
  have e : Res.rowS E' 1 encN v (z.set i (l', p)) = Res.rowS E' 1 encN v z := by
    unfold Res.rowS; rw [encN_same hi hm hl, List.length_set]
  rw [e]
  refine h1.perm ?_
  rw [← hl]
  refine List.Perm.trans ?_ (List.perm_middle.symm)
  simp only [List.cons_append]
  refine List.Perm.trans (List.Perm.cons _ (((inner_set hi (l', p)).symm).append_right F)) ?_
  exact List.Perm.swap _ _ _
/-- A row of nothing but nil rows. -/
theorem Reach.nils (n : Nat) (h : Reach w0 C σ0 σ w F) : Reach w0 C σ0 σ w (inner E size enc (List.replicate n nilN) ++ F) := by
  induction n with
  | zero => exact h
  | succ n ih => exact ih.nilRow E size
theorem Reach.toNest (n : Nat) (h : Reach w0 C σ0 σ w (Res.rowS E' 1 encN v (List.replicate n (nilN : NP β)) :: F)) : Reach w0 C σ0 σ w (Res.nest E' E size enc v (List.replicate n nilN) :: F) := by
  refine Reach.star ?_
  have := h.nils (E := E) (size := size) (enc := enc) n
  exact this.perm (by simp only [List.cons_append]; exact List.perm_middle.symm)
theorem Reach.sealAll (hl : ∀ x, (enc x).length = size) : ∀ (z : List (NP β)) {σ : Store}, Reach w0 C σ0 σ w (inner E size enc z ++ F) → ∃ σ', Reach w0 C σ0 σ' w F ∧ σ.le σ' ∧ ∀ m ∈ z, RS σ' size enc (.slice m.2.1 m.1.length m.2.2) m.1
  | [], σ, h => ⟨σ, h, Store.le.refl _, by simp⟩
  | m :: z, σ, h => by
    obtain ⟨τ, h1, h2, h3⟩ := Reach.sealRow (h := h)
    obtain ⟨τ', k1, k2, k3⟩ := Reach.sealAll hl z h1
    refine ⟨τ', k1, h2.trans k2, fun u hu => ?_⟩
    rcases List.mem_cons.1 hu with rfl | hu
    · exact RS.mono ⟨h3, hl⟩ k2
    · exact k3 u hu
theorem Reach.sealNest {l : List (List β)} (hl : ∀ x, (enc x).length = size) (hZ : Zn z l) (h : Reach w0 C σ0 σ w (Res.nest E' E size enc v z :: F)) : ∃ σ', Reach w0 C σ0 σ' w F ∧ σ.le σ' ∧ RZ σ' (pkSl size enc hl) v l := by
  have h1 := h.unstar
  simp only [List.cons_append] at h1
  obtain ⟨τ, h2, h3, h4⟩ := Reach.sealRow (h := h1)
  obtain ⟨τ', k1, k2, k3⟩ := Reach.sealAll hl z h2
  exact ⟨τ', k1, h3.trans k2, z, ⟨hZ, k3⟩, RS.mono (σ := τ) (enc := encN) ⟨h4, encN_len⟩ k2⟩
end

/-! ### Operations on rows in a row -/
section
variable {X : Ctx} {e : Env} {σ : Store} {H F : List Res} {o : Oper} {x y : Operand} {K : Env → Store → List Res → Prop} {z : List (NP β)} {l : List (List β)}
theorem OpOk.makeN {T E' E size by_ d q : Nat} {enc : β → List Value} {kl kc : IntKind} {zv : Value} (ho : o.op = .makeSlice T x y) (ht : X.P.underlying T = some (.slice E')) (hs : szOf X.P E' = some 1) (hby : byOf X.P E' = some by_) (hz : zeroOf X.P E' = some zv)
    (hd : o.dst = some d) (hn : Nat.blt d X.n = true) (hx : ev e x = .int kl (q : Nat)) (hy : ev e y = .int kc (q : Nat)) (hb : by_ * q ≤ 281474976710656) (hby0 : 0 < by_)
    (hz0 : zv.cells.toList = [.slice none 0 0]) (kk : ∀ a c, Zn (List.replicate q (nilN : NP β)) (List.replicate q []) → K (upd e d (.slice a (List.replicate q ([] : List β)).length c)) σ (Res.nest E' E size enc (.slice a (List.replicate q ([] : List β)).length c) (List.replicate q nilN) :: H)) : OpOk X o e σ H K := by
  refine OpOk.then (OpOk.makeS2 (enc := (encN : NP β → List Value)) (K := fun e' σ' G => ∃ a c, e' = upd e d (.slice a (List.replicate q ([] : List β)).length c) ∧ σ' = σ ∧ G = Res.rowS E' 1 encN (.slice a (List.replicate q ([] : List β)).length c) (List.replicate q (nilN : NP β)) :: H) nilN ho ht hs hby hz hd hn hx hy hb hby0 encN_len (by decide) hz0 encN_one fun a c => ⟨a, c, by simp⟩) ?_
  rintro e' σ' G ⟨a, c, rfl, rfl, rfl⟩
  exact ⟨_, fun w h => h.toNest q, kk a c (Zn.rep q)⟩
/-- The inner slice at a place. -/
theorem OpVal.loadN {P : Program} {n T q i : Nat} {lk : List β} {p : Option Addr × Nat} (ho : o.op = .load T x) (hA : aggOf P T = some false) (hx : ev e x = elem v (i * 1)) (hq : H[q]? = some (Res.nest E' E size enc v z)) (hi : i < z.length) (hm : nth z i nilN = (lk, p)) :
    OpVal P n o e σ H (.slice p.1 lk.length p.2) := by
  refine OpVal.seen (sees_nest hq) (OpVal.loadO1 (q := 0) nilN ho hA hx rfl encN_len hi ?_)
  rw [hm]; rfl
theorem OpOk.storeX {T i : Nat} {a : Option Addr} {m c : Nat} {u : Value} {l' : List β} (ho : o.op = .store T x y) (hs : szOf X.P T = some 1) (hd : o.dst = none) (hx : ev e x = elem v (i * 1)) (hv : ev e y = u) (hu : u = .slice a m c) (hm : l'.length = m) (hi : i < z.length) (hZ : Zn z l)
    (kk : Zn (z.set i (l', (a, c))) (l.set i l') → K e σ (Res.nest E' E size enc v (z.set i (l', (a, c))) :: F)) : OpOk X o e σ (Res.rowS E size enc (.slice a m c) l' :: Res.nestX E' E size enc v z i :: F) K := by
  subst hm hu
  refine OpOk.by (H' := Res.rowS E' 1 encN v z :: ((inner E size enc z).eraseIdx i ++ (innerR E size enc (l', (a, c)) :: F))) (fun w h => ?_) ?_
  · have h1 := (h.perm (List.Perm.swap _ _ _)).unstar
    exact h1
  · refine OpOk.then (OpOk.storeS (enc := (encN : NP β → List Value)) (K := fun e' σ' G => e' = e ∧ σ' = σ ∧ G = Res.rowS E' 1 encN v (z.set i (l', (a, c))) :: ((inner E size enc z).eraseIdx i ++ (innerR E size enc (l', (a, c)) :: F))) (l', (a, c)) ho hs hd hx hv rfl encN_len encN_one (by decide) hi ⟨rfl, rfl, rfl⟩) ?_
    rintro e' σ' G ⟨rfl, rfl, rfl⟩
    refine ⟨_, fun w h => Reach.star (h.perm ?_), kk (hZ.set i l' (a, c))⟩
    simp only [List.cons_append]
    refine List.Perm.cons _ ?_
    refine List.Perm.trans ((inner_set hi (l', (a, c))).symm.append_right F) ?_
    simp only [List.cons_append]
    exact List.perm_middle.symm
end
end

/-! ### Any order -/
open Classical in
/-- What comes out whatever is taken first. -/
noncomputable def allP {α β : Type} (S : α → Prop) (f : α → Option β) : Option β := if h : ∃ r, (∃ x, S x) ∧ ∀ x, S x → f x = some r then some h.choose else none
section
variable {S R E : Type}
/-- Rounds over a list's elements, in order; the end is a round without one. -/
def runL (step : S → Option E → Option (S ⊕ R)) : List E → S → Option R
  | [], s => match step s none with
    | some (.inr r) => some r
    | _ => none
  | x :: q, s => match step s (some x) with
    | some (.inl s') => runL step q s'
    | some (.inr r) => some r
    | none => none
/-- Rounds in any order. -/
noncomputable def runA (step : S → Option E → Option (S ⊕ R)) (l : List E) (s : S) : Option R := allP (fun q => q.Perm l) (fun q => runL step q s)
structure RdA (step : S → Option E → Option (S ⊕ R)) (r : R) (l : List E) (z : S ⊕ R) : Prop where
  next : ∀ s', z = .inl s' → runA step l s' = some r
  done : ∀ r', z = .inr r' → r' = r
def optE {α β : Type} (o : Option α) (t : Option β) (f : α → Option β) : Option β := match o with | none => t | some x => f x
@[simp] theorem optE_none {α β : Type} (t : Option β) (f : α → Option β) : optE none t f = t := rfl
@[simp] theorem optE_some {α β : Type} (x : α) (t : Option β) (f : α → Option β) : optE (some x) t f = f x := rfl
end
end Go.E
end

/- Dec6 -/
section
/- Maps, and ranges over them; equality of structs; unsigned numbers. Plain lemmas over any program; no condition. -/
set_option linter.unusedVariables false
set_option linter.unusedSimpArgs false
namespace Go.E
open Go

/-! ### Finite maps -/
structure FM (K V : Type) where
  f : K → Option V
  n : Nat
section
variable {K V : Type}
def FM.get (m : FM K V) (k : K) (d : V) : V := (m.f k).getD d
/-- A list of a map's entries. -/
structure Rep (l : List (K × V)) (m : FM K V) : Prop where
  mem : ∀ k v, (k, v) ∈ l ↔ m.f k = some v
  len : l.length = m.n
  nodup : (l.map Prod.fst).Nodup
theorem Rep.not {l : List (K × V)} {m : FM K V} (h : Rep l m) {k : K} : k ∉ l.map Prod.fst ↔ m.f k = none := by
  constructor
  · intro hn
    cases hk : m.f k with
    | none => rfl
    | some v => exact absurd (List.mem_map.2 ⟨_, (h.mem k v).2 hk, rfl⟩) hn
  · intro hk hm
    obtain ⟨⟨k', v⟩, h1, rfl⟩ := List.mem_map.1 hm
    have := (h.mem k' v).1 h1
    simp only at hk; rw [hk] at this; cases this
end
/-- What the map at a block holds. -/
structure MapAt {K V : Type} (enc : K → Value) (encV : V → Value) (w : World) (b : Nat) (zs : List (MapEntry × (K × V))) (clock : Nat) : Prop where
  at_ : ∃ es, w.heap[b]? = some (.map es clock) ∧ es.toList = zs.map Prod.fst
  key : ∀ z ∈ zs, z.1.key = enc z.2.1
  val : ∀ z ∈ zs, z.1.val = encV z.2.2
  born : ∀ z ∈ zs, z.1.born < clock
  nodup : (zs.map (·.1.born)).Nodup
def MapIs {K V : Type} (enc : K → Value) (encV : V → Value) (b : Nat) (m : FM K V) (w : World) : Prop := ∃ zs clock, Rep (zs.map Prod.snd) m ∧ MapAt enc encV w b zs clock
theorem MapIs.keep {K V : Type} {enc : K → Value} {encV : V → Value} {b : Nat} {m : FM K V} {w w' : World} (h : MapIs enc encV b m w) (hb : w'.heap[b]? = w.heap[b]?) : MapIs enc encV b m w' := by
  obtain ⟨zs, c, h1, ⟨es, h2, h3⟩, h4, h5, h6, h7⟩ := h
  exact ⟨zs, c, h1, ⟨es, by rw [hb]; exact h2, h3⟩, h4, h5, h6, h7⟩
structure KeyL {K : Type} [DecidableEq K] (P : Program) (T : TypeId) (enc : K → Value) : Prop where
  check : ∀ x c w, (Instr.checkKey c 10000 T (enc x)).run P w = .ok () w
  find : ∀ x (l : List K) (es : List MapEntry) w, es.map (·.key) = l.map enc → ∃ r, (Instr.findKey T (enc x) es).run P w = .ok r w ∧
    (x ∉ l → r = none) ∧ (x ∈ l → ∃ i m, r = some (i, m.val) ∧ es[i]? = some m ∧ l[i]? = some x)
  stays : ∀ x w, (Instr.keyThatStays (enc x) (enc x)).run P w = .ok (enc x) w
section
variable {X : Ctx} {e : Env} {σ : Store} {H F : List Res} {o : Oper} {x y z : Operand} {C : Env → Store → List Res → Prop} {K V : Type} {enc : K → Value} {encV : V → Value}
/-! ### Ranges -/
end
end Go.E
end

/- Dec7 -/
section
/- Equality of structs, structs as keys, unsigned numbers. Plain lemmas over any program; no condition. -/
set_option linter.unusedVariables false
set_option linter.unusedSimpArgs false
namespace Go.E
open Go

/-! ### Structs compared -/
abbrev FT := Bool × TypeId × Nat
/-- Equality told type by type. -/
def EqAt (P : Program) (n : Nat) (T : TypeId) (u v : Value) (b : Bool) : Prop := ∀ d w, (Op.equalIn (d + n) T u v).run P w = .ok b w
inductive EqC (P : Program) (n : Nat) (xs ys : Array Value) : List FT → Bool → Prop
  | nil : EqC P n xs ys [] true
  | one {t o : Nat} {ts : List FT} {u v : Value} {b q : Bool} (hA : aggOf P t = some false) (hu : xs[o]? = some u) (hv : ys[o]? = some v) (he : EqAt P n t u v b) (k : EqC P n xs ys ts q) : EqC P n xs ys ((false, t, o) :: ts) (b && q)
  | agg {t o s : Nat} {ts : List FT} {us vs : Array Value} {b q : Bool} (hA : aggOf P t = some true) (hz : szOf P t = some s) (hu : xs.extract o (o + s) = us) (hv : ys.extract o (o + s) = vs) (he : EqAt P n t (.agg us) (.agg vs) b) (k : EqC P n xs ys ts q) : EqC P n xs ys ((false, t, o) :: ts) (b && q)
theorem EqC.run {P : Program} {n : Nat} {xs ys : Array Value} {ts : List FT} {q : Bool} (h : EqC P n xs ys ts q) : ∀ (fs : List Field), (fs.map fun f => (f.name == "_", f.type, f.offset)) = ts → ∀ d w, (Op.eqFields (d + n) xs ys fs).run P w = .ok q w := by
  induction h with
  | nil => intro fs hf d w; have : fs = [] := by simpa using hf
           subst this; simp [Op.eqFields]
  | @one t o ts u v b q hA hu hv he k ih =>
    intro fs hf d w
    cases fs with
    | nil => simp at hf
    | cons f fs =>
      simp only [List.map_cons, List.cons.injEq, Prod.mk.injEq] at hf
      obtain ⟨⟨h1, h2, h3⟩, h4⟩ := hf
      have h1 : f.name ≠ "_" := by simpa using h1
      simp only [Op.eqFields, h1, h2, h3, ne_eq, not_false_eq_true, if_true, Sem.run_bind, run_part_one hA hu, run_part_one hA hv, Result.andThen_ok, he d w]
      cases b
      · simp
      · simp [ih fs h4 d w]
  | @agg t o s ts us vs b q hA hz hu hv he k ih =>
    intro fs hf d w
    cases fs with
    | nil => simp at hf
    | cons f fs =>
      simp only [List.map_cons, List.cons.injEq, Prod.mk.injEq] at hf
      obtain ⟨⟨h1, h2, h3⟩, h4⟩ := hf
      have h1 : f.name ≠ "_" := by simpa using h1
      simp only [Op.eqFields, h1, h2, h3, ne_eq, not_false_eq_true, if_true, Sem.run_bind, run_part_agg hA hz, hu, hv, Result.andThen_ok, he d w]
      cases b
      · simp
      · simp [ih fs h4 d w]
theorem EqAt.int {P : Program} {T : TypeId} {k : IntKind} (hT : P.underlying T = some (.int k)) (a b : Int) : EqAt P 1 T (.int k a) (.int k b) (decide (a = b)) := fun d w => by
  rw [run_equalIn_int w d T k k a b hT]; rfl
theorem EqAt.set {P : Program} {T E : TypeId} (hT : P.underlying T = some (.array 4 E)) (hE : P.underlying E = some (.int .u64)) (hA : aggOf P E = some false) (hz : szOf P E = some 1) (a b : BSet) : EqAt P 2 T (.agg (setA a)) (.agg (setA b)) (decide (a = b)) := fun d w => by
  have h := run_eqArr4 (P := P) (k := .u64) d hT hE hA hz (a.a : Nat) (a.b : Nat) (a.c : Nat) (a.d : Nat) (b.a : Nat) (b.b : Nat) (b.c : Nat) (b.d : Nat) w
  rw [show decide (a = b) = decide (((a.a : Nat) : Int) = (b.a : Nat) ∧ ((a.b : Nat) : Int) = (b.b : Nat) ∧ ((a.c : Nat) : Int) = (b.c : Nat) ∧ ((a.d : Nat) : Int) = (b.d : Nat)) from by rw [decide_eq_decide]; exact BSet.eq_iff a b]
  exact h
section
variable {P : Program} {n m : Nat} {e : Env} {σ : Store} {H : List Res} {o : Oper} {x y : Operand} {T T' : TypeId} {xs ys : Array Value} {p : Prop} [Decidable p]
end
/-! ### Structs as keys -/
def CkAt (P : Program) (n : Nat) (T : TypeId) (v : Value) : Prop := ∀ d c w, (Instr.checkKey c (d + n) T v).run P w = .ok () w
inductive CkC (P : Program) (n : Nat) (xs : Array Value) : List FT → Prop
  | nil : CkC P n xs []
  | one {t o : Nat} {ts : List FT} {u : Value} (hA : aggOf P t = some false) (hu : xs[o]? = some u) (he : CkAt P n t u) (k : CkC P n xs ts) : CkC P n xs ((false, t, o) :: ts)
  | agg {t o s : Nat} {ts : List FT} {us : Array Value} (hA : aggOf P t = some true) (hz : szOf P t = some s) (hu : xs.extract o (o + s) = us) (he : CkAt P n t (.agg us)) (k : CkC P n xs ts) : CkC P n xs ((false, t, o) :: ts)
theorem CkAt.int {P : Program} {T : TypeId} {k : IntKind} (hT : P.underlying T = some (.int k)) (a : Int) : CkAt P 1 T (.int k a) := fun d c w => by simp [Instr.checkKey, run_underlying hT]
theorem run_forIn_unit {P : Program} {α : Type} {w : World} (f : α → PUnit → Sem (ForInStep PUnit)) : ∀ (l : List α), (∀ a ∈ l, (f a PUnit.unit).run P w = .ok (.yield PUnit.unit) w) → (forIn l PUnit.unit f).run P w = .ok PUnit.unit w
  | [], _ => by simp
  | a :: l, h => by
    rw [List.forIn_cons, Sem.run_bind, h a (List.mem_cons_self ..), Result.andThen_ok]
    exact run_forIn_unit f l fun b hb => h b (List.mem_cons_of_mem _ hb)
theorem CkAt.set {P : Program} {T E : TypeId} (hT : P.underlying T = some (.array 4 E)) (hE : P.underlying E = some (.int .u64)) (hA : aggOf P E = some false) (hz : szOf P E = some 1) (s : BSet) : CkAt P 2 T (.agg (setA s)) := fun d c w => by
  have h0 : ∀ a, (Instr.checkKey c (d + 1) E (.int .u64 a)).run P w = .ok () w := fun a => CkAt.int hE a d c w
  rw [Instr.checkKey]
  simp only [Sem.run_bind, run_underlying hT, Result.andThen_ok, Std.Legacy.Range.forIn_eq_forIn_range', Std.Legacy.Range.size, Nat.sub_zero, Nat.add_sub_cancel, Nat.div_one]
  rw [run_forIn_unit]
  · rfl
  intro i hi
  have hi4 : i < 4 := by
    have := List.mem_range'.1 hi
    omega
  have hp : (part E (setA s) i).run P w = .ok (.int .u64 (s.word i : Nat)) w := run_part_one hA (setA_get s hi4) w
  simp only [Sem.run_bind, run_sizeOf hz, Result.andThen_ok, Nat.mul_one, hp, h0, Sem.run_pure]
def Bits (v : Value) : Prop := ∀ n, Instr.sameBits n v v = true
theorem Bits.int (k : IntKind) (a : Int) : Bits (.int k a) := fun n => by cases n <;> (rw [Instr.sameBits]; simp)
/-! ### Unsigned numbers of 64 bits -/
def u64add (a b : Nat) : Nat := (a + b) % 18446744073709551616
def u64mul (a b : Nat) : Nat := a * b % 18446744073709551616
def u64and (a b : Nat) : Nat := (BitVec.ofNat 64 a &&& BitVec.ofNat 64 b).toNat
def u64shl (a b : Nat) : Nat := a * 2 ^ (min b 64) % 18446744073709551616
def u64shr (a b : Nat) : Nat := a / 2 ^ (min b 64)
def u64of (a : Int) : Nat := (a % 18446744073709551616).toNat
theorem wrap_u64 (a : Int) : IntKind.u64.wrap a = a % 18446744073709551616 := by simp [IntKind.wrap, IntKind.bits, IntKind.signed]
theorem u64of_val (a : Int) : ((u64of a : Nat) : Int) = IntKind.u64.wrap a := by rw [wrap_u64, u64of]; omega
theorem bv_of (a : Nat) : BitVec.ofInt IntKind.u64.bits (a : Int) = BitVec.ofNat 64 a := by simp [IntKind.bits, BitVec.ofInt_natCast]
theorem wrap_bv (b : BitVec 64) : IntKind.u64.wrap (b.toNat : Int) = (b.toNat : Int) := by rw [wrap_u64]; have := b.isLt; omega
section
variable {P : Program} {n : Nat} {e : Env} {σ : Store} {H : List Res} {o : Oper} {x y : Operand} {T T' : TypeId} {a b : Nat}
theorem OpVal.addU (ho : o.op = .binOp .add T x y T') (hx : ev e x = .int .u64 (a : Nat)) (hy : ev e y = .int .u64 (b : Nat)) : OpVal P n o e σ H (.int .u64 ((u64add a b : Nat) : Int)) := by
  have := OpVal.addW (P := P) (n := n) (σ := σ) (H := H) ho hx hy
  rw [wrap_u64] at this
  rw [show ((u64add a b : Nat) : Int) = ((a : Int) + (b : Int)) % 18446744073709551616 from by unfold u64add; omega]; exact this
theorem OpVal.mulU (ho : o.op = .binOp .mul T x y T') (hx : ev e x = .int .u64 (a : Nat)) (hy : ev e y = .int .u64 (b : Nat)) : OpVal P n o e σ H (.int .u64 ((u64mul a b : Nat) : Int)) := by
  have := OpVal.mulW (P := P) (n := n) (σ := σ) (H := H) ho hx hy
  rw [wrap_u64] at this
  rw [show ((u64mul a b : Nat) : Int) = ((a : Int) * (b : Int)) % 18446744073709551616 from by unfold u64mul; rw [Int.natCast_emod, Int.natCast_mul]; rfl]; exact this
theorem OpVal.andU (ho : o.op = .binOp .and T x y T') (hx : ev e x = .int .u64 (a : Nat)) (hy : ev e y = .int .u64 (b : Nat)) : OpVal P n o e σ H (.int .u64 ((u64and a b : Nat) : Int)) := .bin ho hx hy fun w => by
  simp only [binOp, ne_eq, not_true_eq_false, if_false, Op.intBits, bv_of]
  exact congrArg (fun z => Result.ok (Value.int .u64 z) w) (wrap_bv (BitVec.ofNat 64 a &&& BitVec.ofNat 64 b))
theorem OpVal.shlU {k : IntKind} (ho : o.op = .binOp .shl T x y T') (hx : ev e x = .int .u64 (a : Nat)) (hy : ev e y = .int k (b : Nat)) : OpVal P n o e σ H (.int .u64 ((u64shl a b : Nat) : Int)) := fun w _ => by
  have h0 : ¬ (b : Int) < 0 := by omega
  simp only [execOp, ho, hx, hy, Sem.run_bind, run_eqGuard_int, Result.andThen_ok, binOp, Op.shift, h0, if_false, Int.toNat_natCast, wrap_u64, u64shl, IntKind.bits]
  rw [show (a : Int) * 2 ^ min b 64 % 18446744073709551616 = ((a * 2 ^ min b 64 % 18446744073709551616 : Nat) : Int) from by rw [Int.natCast_emod, Int.natCast_mul, Int.natCast_pow]; rfl]; rfl
theorem OpVal.shrU {k : IntKind} (ho : o.op = .binOp .shr T x y T') (hx : ev e x = .int .u64 (a : Nat)) (hy : ev e y = .int k (b : Nat)) : OpVal P n o e σ H (.int .u64 ((u64shr a b : Nat) : Int)) := fun w _ => by
  have h0 : ¬ (b : Int) < 0 := by omega
  have h2 : (a : Int).fdiv (2 ^ min b 64) = ((a / 2 ^ min b 64 : Nat) : Int) := by
    rw [Int.fdiv_eq_ediv_of_nonneg _ (by exact_mod_cast Nat.zero_le _)]; exact_mod_cast rfl
  simp only [execOp, ho, hx, hy, Sem.run_bind, run_eqGuard_int, Result.andThen_ok, binOp, Op.shift, h0, if_false, Int.toNat_natCast, u64shr, IntKind.bits, h2]; rfl
theorem OpVal.convU {k : IntKind} {i : Int} {d : TypeDesc} {S : TypeId} (ho : o.op = .convert S T x) (hs : P.underlying S = some d) (ht : P.underlying T = some (.int .u64)) (hx : ev e x = .int k i) : OpVal P n o e σ H (.int .u64 ((u64of i : Nat) : Int)) := by
  rw [u64of_val]; exact OpVal.convInt ho hs ht hx
theorem OpVal.gtrU {k : IntKind} (ho : o.op = .binOp .gtr T x y T') (hx : ev e x = .int k (a : Nat)) (hy : ev e y = .int k (b : Nat)) : OpVal P n o e σ H (.bool (decide (b < a))) := by
  have := OpVal.gtr (P := P) (n := n) (σ := σ) (H := H) ho hx hy
  rwa [show decide ((b : Int) < (a : Int)) = decide (b < a) from by rw [decide_eq_decide]; omega] at this
end
end Go.E
end

/- Dec8 -/
section
/- More words: rounds in any order, copies, bytes made a text, parts of rows. Plain lemmas over any program; no condition. -/
set_option linter.unusedVariables false
set_option linter.unusedSimpArgs false
namespace Go.E
open Go
/-! ### Cells of a slice, whoever owns it -/
/-! ### Strings compared by the library -/
/-! ### A part of a row of one's own, looked at through a slice of its own -/
structure VwOk (v u : Value) (size k n : Nat) : Prop where
  sl : IsSl u n
  el : ∀ j, j < n → elem u (j * size) = elem v ((k + j) * size)
theorem VwOk.self {v : Value} {size n : Nat} (h : IsSl v n) : VwOk v v size 0 n := ⟨h, fun j _ => by rw [Nat.zero_add]⟩
theorem vw_of {a : Option Addr} {m c size k : Nat} (h : IsSl (.slice a m c) m) (hk : k ≤ m) : ∃ (a' : Option Addr) (c' : Nat), VwOk (.slice a m c) (.slice a' (m - k) c') size k (m - k) ∧
    ∀ {P : Program} {n : Nat} {e : Env} {σ : Store} {H : List Res} {o : Oper} {x z : Operand} {T E : TypeId} {kk : IntKind} (_ : o.op = .slice T x (some z) none none) (_ : P.underlying T = some (.slice E)) (_ : szOf P E = some size) (_ : ev e x = .slice a m c) (_ : ev e z = .int kk (k : Nat)), OpVal P n o e σ H (.slice a' (m - k) c') := by
  obtain ⟨a1, c1, hv, hn, hc⟩ := h
  cases hv
  refine ⟨if c = k then a else a.map (·.add (k * size)), c - k, ⟨⟨_, _, rfl, fun ha => ?_, by omega⟩, fun j hj => ?_⟩, ?_⟩
  · split at ha
    · obtain ⟨h1, h2⟩ := hn ha; omega
    · cases a with
      | none => obtain ⟨h1, h2⟩ := hn rfl; omega
      | some ad => simp at ha
  · have hck : ¬ c = k := by omega
    rw [if_neg hck]
    cases a with
    | none => obtain ⟨h1, h2⟩ := hn rfl; omega
    | some ad => simp only [elem, Option.map_some]; rw [add_add, Nat.add_mul]
  · intro P n e σ H o x z T E kk ho hT hs hx hz w _
    have hsz := run_sizeOf (P := P) hs
    have hrun : (Instr.slice T (.slice a m c) (some (.int kk k)) none none).run P w = .ok (.slice (if c = k then a else a.map (·.add (k * size))) (m - k) (c - k)) w := by
      simp [Instr.slice, Instr.sliceBounds, Instr.sliceBound, asIntOf, run_underlying hT, hsz]
      intro hlt; omega
    simp [execOp, ho, hx, hz, Instr.sliceAt, run_underlying hT, hrun]
/-! ### A part of an array variable, lent -/
end Go.E
end

/- Dec9 -/
section
/- The library's sort, by the kit's contract, in the engine's words. Plain lemmas over any program; no condition. -/
set_option linter.unusedVariables false
set_option linter.unusedSimpArgs false
namespace Go.E
open Go Go.Sort Go.Proofs Go.Shelf

section
variable {α : Type} [Inhabited α] {P : Program}
end

/-- An order that tells apart whatever is not the same. -/
structure TotalCmp {α : Type} (cf : α → α → Int) : Prop where
  swo : SWO (ltOf cf)
  tot : ∀ x y, ltOf cf x y = false → ltOf cf y x = false → x = y
section
variable {α : Type} [Inhabited α] {P : Program} {ρ : Ren}
end
end Go.E
end

/- Dec10 -/
section
/- More of rows in a row. Plain lemmas over any program; no condition. -/
set_option linter.unusedVariables false
set_option linter.unusedSimpArgs false
namespace Go.E
open Go
section
variable {β : Type} {E' E size : Nat} {enc : β → List Value} {v : Value}
end
section
variable {P : Program} {n : Nat} {e : Env} {σ : Store} {H : List Res} {o : Oper} {x y : Operand} {T T' : TypeId} {k : IntKind} {a b : Int}
end
end Go.E
end

/- N1 -/
section
/- Decompiled: what an automaton takes; the reference's text. -/
set_option linter.unusedVariables false
set_option linter.unusedSimpArgs false
namespace Go.Proofs.Ytcidppnlhhkhhaa
open Go Go.E
set_option maxRecDepth 100000
end Go.Proofs.Ytcidppnlhhkhhaa
end

/- N2 -/
section
/- Decompiled: the laws on what is made, and on what is taken. -/
set_option linter.unusedVariables false
set_option linter.unusedSimpArgs false
namespace Go.Proofs.Ytcidppnlhhkhhaa
open Go Go.E
set_option maxRecDepth 100000
private theorem pf15 : Go.E.plainF Try.prog 15 = true := by kernel_rfl
private theorem pf21 : Go.E.plainF Try.prog 21 = true := by kernel_rfl
private theorem pf23 : Go.E.plainF Try.prog 23 = true := by kernel_rfl
private theorem pf27 : Go.E.plainF Try.prog 27 = true := by kernel_rfl
private theorem pf31 : Go.E.plainF Try.prog 31 = true := by kernel_rfl

noncomputable def whittlelaw10_awake : Option (Bool) :=
  grd (([97, 98] : List UInt8).length ≤ 1000000000000) (grd ([(99 : UInt8)].length ≤ 1000000000000) (bnd (nfa_Takes (catR (textR ([97, 98] : List UInt8)) (starR (setN (BSet.ofL [(99 : UInt8)])))) ([97, 98, 99, 99] : List UInt8)) (fun v29 => bnd (nfa_Takes (catR (textR ([97, 98] : List UInt8)) (starR (setN (BSet.ofL [(99 : UInt8)])))) ([97, 99] : List UInt8)) (fun v36 => iteO (decide ((textX ([97, 98] : List UInt8)) = 0)) (iteO (decide ((starX (setN (BSet.ofL [(99 : UInt8)]))) = (textX ([97, 98] : List UInt8)))) (iteO (decide ((catX (textR ([97, 98] : List UInt8)) (starR (setN (BSet.ofL [(99 : UInt8)])))) = (textX ([97, 98] : List UInt8)))) (iteO v29.1 (iteO (decide (v29.2 = (textX ([97, 98] : List UInt8)))) (iteO (!v36.1) (some (decide (v36.2 = (textX ([97, 98] : List UInt8))))) (some false)) (some false)) (some false)) (some false)) (some false)) (some false)))))
theorem whittlelaw10_awake_con {σ : Store}   {r : Bool} (hh : whittlelaw10_awake = some r) :
    Con Try.prog 17 #[] σ [] (PureP (.bool r) σ) := by
  dsimp only [whittlelaw10_awake] at hh
  refine Con.mk (n := 67) Try.func17 rfl rfl rfl (fun w0 => ?_)
  refine TC.seq ?_
  refine TC.region ?_
  refine TL.v rfl (OpVal.moveB (.inr rfl) rfl) rfl rfl ?_
  refine TL.nil ?_
  refine S.n ?_
  refine TC.seq ?_
  refine TC.region ?_
  have u2a := grd_c hh
  replace hh := grd_t hh
  refine TL.op rfl (OpOk.call (text_con _ (bs ([97, 98] : List UInt8)) u2a) rfl rfl pf15 rfl rfl rfl rfl ?_)
  rintro _ τ101 _ hle101 ⟨p101, rfl, hn101, rfl⟩
  have hn101sb := hn101.s.rv.big
  have hn101eb := hn101.e.rv.big
  have hn101db := hn101.d.rv.big
  refine TL.v rfl (OpVal.moveT (.inl rfl) rfl) rfl rfl ?_
  refine TL.v rfl (OpVal.extract rfl rfl rfl) rfl rfl ?_
  refine TL.v rfl (OpVal.extract rfl rfl rfl) rfl rfl ?_
  refine TL.op rfl (OpOk.alloc rfl ze25 rfl rfl (fun b102 => ?_))
  refine TL.op rfl (OpOk.storeAll rfl sz25 rfl rfl rfl rfl rfl rfl ?_)
  refine TL.v rfl (OpVal.moveI (.inr rfl) rfl) rfl rfl ?_
  refine TL.nil ?_
  refine S.n ?_
  refine TC.seq ?_
  refine TC.region ?_
  refine TL.op rfl (OpOk.lit (enc := encU8) [(99 : UInt8)] rfl Try.underlying78 sz5 ze5 rfl rfl rfl encU8_len (by decide) (by decide) (0 : UInt8) rfl (by decide) rfl (by decide) encU8_one (fun a104 c105 => ?_))
  have u10 := grd_c hh
  replace hh := grd_t hh
  refine TL.op rfl (OpOk.callT (of_con _ _ _ [(99 : UInt8)] u10) rfl rfl pf53 rfl rfl rfl rfl ?_)
  refine TL.op rfl (OpOk.call (set_con _ (BSet.ofL [(99 : UInt8)]) (BSet.isOk _)) rfl rfl pf21 rfl rfl rfl rfl ?_)
  rintro _ τ107 _ hle107 ⟨p107, rfl, hn107, rfl⟩
  replace hn101 := hn101.mono hle107
  have hn107sb := hn107.s.rv.big
  have hn107eb := hn107.e.rv.big
  have hn107db := hn107.d.rv.big
  refine TL.op rfl (OpOk.call (star_con _ (setN (BSet.ofL [(99 : UInt8)])) ⟨p107.a1, p107.c1, p107.a2, p107.c2, p107.a3, p107.c3⟩ ⟨hn107.s, hn107.e, hn107.d, fun x _ => x.set.isOk⟩) rfl rfl pf31 rfl rfl rfl rfl ?_)
  rintro _ τ108 _ hle108 ⟨p108, rfl, hn108, rfl⟩
  replace hn101 := hn101.mono hle108
  replace hn107 := hn107.mono hle108
  have hn108sb := hn108.s.rv.big
  have hn108eb := hn108.e.rv.big
  have hn108db := hn108.d.rv.big
  refine TL.v rfl (OpVal.moveT (.inl rfl) rfl) rfl rfl ?_
  refine TL.v rfl (OpVal.extract rfl rfl rfl) rfl rfl ?_
  refine TL.v rfl (OpVal.extract rfl rfl rfl) rfl rfl ?_
  refine TL.op rfl (OpOk.alloc rfl ze25 rfl rfl (fun b109 => ?_))
  refine TL.op rfl (OpOk.storeAll rfl sz25 rfl rfl rfl rfl rfl rfl ?_)
  refine TL.v rfl (OpVal.moveI (.inr rfl) rfl) rfl rfl ?_
  refine TL.nil ?_
  refine S.n ?_
  refine TC.seq ?_
  refine TC.region ?_
  refine TL.v rfl (OpVal.loadAll rfl ag25 sz25 rfl (i := 1) rfl rfl) rfl rfl ?_
  refine TL.v rfl (OpVal.loadAll rfl ag25 sz25 rfl (i := 0) rfl rfl) rfl rfl ?_
  refine TL.op rfl (OpOk.call (cat_con _ (textR ([97, 98] : List UInt8)) (starR (setN (BSet.ofL [(99 : UInt8)]))) ⟨p101.a1, p101.c1, p101.a2, p101.c2, p101.a3, p101.c3⟩ ⟨p108.a1, p108.c1, p108.a2, p108.c2, p108.a3, p108.c3⟩ ⟨hn101.s, hn101.e, hn101.d, fun x _ => x.set.isOk⟩ ⟨hn108.s, hn108.e, hn108.d, fun x _ => x.set.isOk⟩) rfl rfl pf27 rfl rfl rfl rfl ?_)
  rintro _ τ111 _ hle111 ⟨p111, rfl, hn111, rfl⟩
  replace hn101 := hn101.mono hle111
  replace hn107 := hn107.mono hle111
  replace hn108 := hn108.mono hle111
  have hn111sb := hn111.s.rv.big
  have hn111eb := hn111.e.rv.big
  have hn111db := hn111.d.rv.big
  refine TL.v rfl (OpVal.moveT (.inl rfl) rfl) rfl rfl ?_
  refine TL.v rfl (OpVal.extract rfl rfl rfl) rfl rfl ?_
  refine TL.v rfl (OpVal.extract rfl rfl rfl) rfl rfl ?_
  refine TL.op rfl (OpOk.alloc rfl ze25 rfl rfl (fun b112 => ?_))
  refine TL.op rfl (OpOk.storeAll rfl sz25 rfl rfl rfl rfl rfl rfl ?_)
  refine TL.v rfl (OpVal.moveI (.inr rfl) rfl) rfl rfl ?_
  refine TL.nil ?_
  refine S.n ?_
  refine TC.seq ?_
  refine TC.region ?_
  refine TL.v rfl (OpVal.loadAll rfl ag25 sz25 rfl (i := 0) rfl rfl) rfl rfl ?_
  obtain ⟨v29, u29, hh⟩ := bnd_e hh
  refine TL.op rfl (OpOk.callP (nfa_Takes_con (x0 := (catR (textR ([97, 98] : List UInt8)) (starR (setN (BSet.ofL [(99 : UInt8)]))))) hn111.s hn111.e hn111.d u29) rfl rfl pf23 rfl rfl rfl ?_)
  refine TL.v rfl (OpVal.moveT (.inl rfl) rfl) rfl rfl ?_
  refine TL.v rfl (OpVal.extract rfl rfl rfl) rfl rfl ?_
  refine TL.v rfl (OpVal.extract rfl rfl rfl) rfl rfl ?_
  refine TL.v rfl (OpVal.moveB (.inr rfl) rfl) rfl rfl ?_
  refine TL.v rfl (OpVal.moveI (.inr rfl) rfl) rfl rfl ?_
  refine TL.nil ?_
  refine S.n ?_
  refine TC.seq ?_
  refine TC.region ?_
  refine TL.v rfl (OpVal.loadAll rfl ag25 sz25 rfl (i := 0) rfl rfl) rfl rfl ?_
  obtain ⟨v36, u36, hh⟩ := bnd_e hh
  refine TL.op rfl (OpOk.callP (nfa_Takes_con (x0 := (catR (textR ([97, 98] : List UInt8)) (starR (setN (BSet.ofL [(99 : UInt8)]))))) hn111.s hn111.e hn111.d u36) rfl rfl pf23 rfl rfl rfl ?_)
  refine TL.v rfl (OpVal.moveT (.inl rfl) rfl) rfl rfl ?_
  refine TL.v rfl (OpVal.extract rfl rfl rfl) rfl rfl ?_
  refine TL.v rfl (OpVal.extract rfl rfl rfl) rfl rfl ?_
  refine TL.v rfl (OpVal.moveB (.inr rfl) rfl) rfl rfl ?_
  refine TL.v rfl (OpVal.moveI (.inr rfl) rfl) rfl rfl ?_
  refine TL.nil ?_
  refine S.n ?_
  refine TC.seq ?_
  refine TC.region ?_
  refine TL.v rfl (OpVal.moveI (.inl rfl) rfl) rfl rfl ?_
  refine TL.v rfl (OpVal.eql rfl rfl rfl) rfl rfl ?_
  refine TL.v rfl (OpVal.moveB (.inl rfl) rfl) rfl rfl ?_
  refine TL.split 40 rfl (fun h114 => ?_) (fun h114 => ?_)
  · replace hh := iteO_t h114 hh
    replace h114 := of_decide_eq_true h114
    refine TL.gv rfl rfl rfl rfl rfl (OpVal.moveI (.inl rfl) rfl) rfl rfl ?_
    refine TL.gv rfl rfl rfl rfl rfl (OpVal.moveI (.inl rfl) rfl) rfl rfl ?_
    refine TL.gv rfl rfl rfl rfl rfl (OpVal.eql rfl rfl rfl) rfl rfl ?_
    refine TL.v rfl (OpVal.pickTB rfl rfl rfl) rfl rfl ?_
    refine TL.v rfl (OpVal.moveB (.inl rfl) rfl) rfl rfl ?_
    refine TL.split 45 rfl (fun h115 => ?_) (fun h115 => ?_)
    · replace hh := iteO_t h115 hh
      replace h115 := of_decide_eq_true h115
      refine TL.gv rfl rfl rfl rfl rfl (OpVal.moveI (.inl rfl) rfl) rfl rfl ?_
      refine TL.gv rfl rfl rfl rfl rfl (OpVal.moveI (.inl rfl) rfl) rfl rfl ?_
      refine TL.gv rfl rfl rfl rfl rfl (OpVal.eql rfl rfl rfl) rfl rfl ?_
      refine TL.v rfl (OpVal.pickTB rfl rfl rfl) rfl rfl ?_
      refine TL.v rfl (OpVal.moveB (.inl rfl) rfl) rfl rfl ?_
      refine TL.split 50 rfl (fun h116 => ?_) (fun h116 => ?_)
      · replace hh := iteO_t h116 hh
        replace h116 := of_decide_eq_true h116
        refine TL.gv rfl rfl rfl rfl rfl (OpVal.moveB (.inl rfl) rfl) rfl rfl ?_
        refine TL.v rfl (OpVal.pickTB rfl rfl rfl) rfl rfl ?_
        refine TL.v rfl (OpVal.moveB (.inl rfl) rfl) rfl rfl ?_
        refine TL.split 53 rfl (fun h117 => ?_) (fun h117 => ?_)
        · replace hh := iteO_t h117 hh
          refine TL.gv rfl rfl rfl rfl rfl (OpVal.moveI (.inl rfl) rfl) rfl rfl ?_
          refine TL.gv rfl rfl rfl rfl rfl (OpVal.moveI (.inl rfl) rfl) rfl rfl ?_
          refine TL.gv rfl rfl rfl rfl rfl (OpVal.eql rfl rfl rfl) rfl rfl ?_
          refine TL.v rfl (OpVal.pickTB rfl rfl rfl) rfl rfl ?_
          refine TL.v rfl (OpVal.moveB (.inl rfl) rfl) rfl rfl ?_
          refine TL.split 58 rfl (fun h118 => ?_) (fun h118 => ?_)
          · replace hh := iteO_t h118 hh
            replace h118 := of_decide_eq_true h118
            refine TL.gv rfl rfl rfl rfl rfl (OpVal.moveB (.inl rfl) rfl) rfl rfl ?_
            refine TL.gv rfl rfl rfl rfl rfl (OpVal.not rfl rfl) rfl rfl ?_
            refine TL.v rfl (OpVal.pickTB rfl rfl rfl) rfl rfl ?_
            refine TL.v rfl (OpVal.moveB (.inl rfl) rfl) rfl rfl ?_
            refine TL.split 62 rfl (fun h119 => ?_) (fun h119 => ?_)
            · replace hh := iteO_t h119 hh
              refine TL.gv rfl rfl rfl rfl rfl (OpVal.moveI (.inl rfl) rfl) rfl rfl ?_
              refine TL.gv rfl rfl rfl rfl rfl (OpVal.moveI (.inl rfl) rfl) rfl rfl ?_
              refine TL.gv rfl rfl rfl rfl rfl (OpVal.eql rfl rfl rfl) rfl rfl ?_
              refine TL.v rfl (OpVal.pickTB rfl rfl rfl) rfl rfl ?_
              refine TL.v rfl (OpVal.moveB (.inr rfl) rfl) rfl rfl ?_
              refine TL.nil ?_
              refine S.n ?_
              refine TC.ofSub (Sub.pre 0 rfl) ?_
              refine TC.back ?_
              refine TC.ret ?_
              obtain rfl := Option.some.inj hh
              exact RetOk.mk' (rs := [.tmp 0]) [] rfl (.inl rfl) (RVs.tmp rfl RVs.nil) (List.sublist_append_left _ _) ⟨rfl, rfl, rfl⟩
            · replace hh := iteO_f h119 hh
              refine TL.goff rfl rfl rfl rfl rfl rfl rfl rfl ?_
              refine TL.goff rfl rfl rfl rfl rfl rfl rfl rfl ?_
              refine TL.goff rfl rfl rfl rfl rfl rfl rfl rfl ?_
              refine TL.v rfl (OpVal.pickFB rfl rfl rfl) rfl rfl ?_
              refine TL.v rfl (OpVal.moveB (.inr rfl) rfl) rfl rfl ?_
              refine TL.nil ?_
              refine S.n ?_
              refine TC.ofSub (Sub.pre 0 rfl) ?_
              refine TC.back ?_
              refine TC.ret ?_
              obtain rfl := Option.some.inj hh
              exact RetOk.mk' (rs := [.tmp 0]) [] rfl (.inl rfl) (RVs.tmp rfl RVs.nil) (List.sublist_append_left _ _) ⟨rfl, rfl, rfl⟩
          · replace hh := iteO_f h118 hh
            replace h118 := of_decide_eq_false h118
            refine TL.goff rfl rfl rfl rfl rfl rfl rfl rfl ?_
            refine TL.goff rfl rfl rfl rfl rfl rfl rfl rfl ?_
            refine TL.v rfl (OpVal.pickFB rfl rfl rfl) rfl rfl ?_
            refine TL.v rfl (OpVal.moveB (.inl rfl) rfl) rfl rfl ?_
            refine TL.goff rfl rfl rfl rfl rfl rfl rfl rfl ?_
            refine TL.goff rfl rfl rfl rfl rfl rfl rfl rfl ?_
            refine TL.goff rfl rfl rfl rfl rfl rfl rfl rfl ?_
            refine TL.v rfl (OpVal.pickFB rfl rfl rfl) rfl rfl ?_
            refine TL.v rfl (OpVal.moveB (.inr rfl) rfl) rfl rfl ?_
            refine TL.nil ?_
            refine S.n ?_
            refine TC.ofSub (Sub.pre 0 rfl) ?_
            refine TC.back ?_
            refine TC.ret ?_
            obtain rfl := Option.some.inj hh
            exact RetOk.mk' (rs := [.tmp 0]) [] rfl (.inl rfl) (RVs.tmp rfl RVs.nil) (List.sublist_append_left _ _) ⟨rfl, rfl, rfl⟩
        · replace hh := iteO_f h117 hh
          refine TL.goff rfl rfl rfl rfl rfl rfl rfl rfl ?_
          refine TL.goff rfl rfl rfl rfl rfl rfl rfl rfl ?_
          refine TL.goff rfl rfl rfl rfl rfl rfl rfl rfl ?_
          refine TL.v rfl (OpVal.pickFB rfl rfl rfl) rfl rfl ?_
          refine TL.v rfl (OpVal.moveB (.inl rfl) rfl) rfl rfl ?_
          refine TL.goff rfl rfl rfl rfl rfl rfl rfl rfl ?_
          refine TL.goff rfl rfl rfl rfl rfl rfl rfl rfl ?_
          refine TL.v rfl (OpVal.pickFB rfl rfl rfl) rfl rfl ?_
          refine TL.v rfl (OpVal.moveB (.inl rfl) rfl) rfl rfl ?_
          refine TL.goff rfl rfl rfl rfl rfl rfl rfl rfl ?_
          refine TL.goff rfl rfl rfl rfl rfl rfl rfl rfl ?_
          refine TL.goff rfl rfl rfl rfl rfl rfl rfl rfl ?_
          refine TL.v rfl (OpVal.pickFB rfl rfl rfl) rfl rfl ?_
          refine TL.v rfl (OpVal.moveB (.inr rfl) rfl) rfl rfl ?_
          refine TL.nil ?_
          refine S.n ?_
          refine TC.ofSub (Sub.pre 0 rfl) ?_
          refine TC.back ?_
          refine TC.ret ?_
          obtain rfl := Option.some.inj hh
          exact RetOk.mk' (rs := [.tmp 0]) [] rfl (.inl rfl) (RVs.tmp rfl RVs.nil) (List.sublist_append_left _ _) ⟨rfl, rfl, rfl⟩
      · replace hh := iteO_f h116 hh
        replace h116 := of_decide_eq_false h116
        refine TL.goff rfl rfl rfl rfl rfl rfl rfl rfl ?_
        refine TL.v rfl (OpVal.pickFB rfl rfl rfl) rfl rfl ?_
        refine TL.v rfl (OpVal.moveB (.inl rfl) rfl) rfl rfl ?_
        refine TL.goff rfl rfl rfl rfl rfl rfl rfl rfl ?_
        refine TL.goff rfl rfl rfl rfl rfl rfl rfl rfl ?_
        refine TL.goff rfl rfl rfl rfl rfl rfl rfl rfl ?_
        refine TL.v rfl (OpVal.pickFB rfl rfl rfl) rfl rfl ?_
        refine TL.v rfl (OpVal.moveB (.inl rfl) rfl) rfl rfl ?_
        refine TL.goff rfl rfl rfl rfl rfl rfl rfl rfl ?_
        refine TL.goff rfl rfl rfl rfl rfl rfl rfl rfl ?_
        refine TL.v rfl (OpVal.pickFB rfl rfl rfl) rfl rfl ?_
        refine TL.v rfl (OpVal.moveB (.inl rfl) rfl) rfl rfl ?_
        refine TL.goff rfl rfl rfl rfl rfl rfl rfl rfl ?_
        refine TL.goff rfl rfl rfl rfl rfl rfl rfl rfl ?_
        refine TL.goff rfl rfl rfl rfl rfl rfl rfl rfl ?_
        refine TL.v rfl (OpVal.pickFB rfl rfl rfl) rfl rfl ?_
        refine TL.v rfl (OpVal.moveB (.inr rfl) rfl) rfl rfl ?_
        refine TL.nil ?_
        refine S.n ?_
        refine TC.ofSub (Sub.pre 0 rfl) ?_
        refine TC.back ?_
        refine TC.ret ?_
        obtain rfl := Option.some.inj hh
        exact RetOk.mk' (rs := [.tmp 0]) [] rfl (.inl rfl) (RVs.tmp rfl RVs.nil) (List.sublist_append_left _ _) ⟨rfl, rfl, rfl⟩
    · replace hh := iteO_f h115 hh
      replace h115 := of_decide_eq_false h115
      refine TL.goff rfl rfl rfl rfl rfl rfl rfl rfl ?_
      refine TL.goff rfl rfl rfl rfl rfl rfl rfl rfl ?_
      refine TL.goff rfl rfl rfl rfl rfl rfl rfl rfl ?_
      refine TL.v rfl (OpVal.pickFB rfl rfl rfl) rfl rfl ?_
      refine TL.v rfl (OpVal.moveB (.inl rfl) rfl) rfl rfl ?_
      refine TL.goff rfl rfl rfl rfl rfl rfl rfl rfl ?_
      refine TL.v rfl (OpVal.pickFB rfl rfl rfl) rfl rfl ?_
      refine TL.v rfl (OpVal.moveB (.inl rfl) rfl) rfl rfl ?_
      refine TL.goff rfl rfl rfl rfl rfl rfl rfl rfl ?_
      refine TL.goff rfl rfl rfl rfl rfl rfl rfl rfl ?_
      refine TL.goff rfl rfl rfl rfl rfl rfl rfl rfl ?_
      refine TL.v rfl (OpVal.pickFB rfl rfl rfl) rfl rfl ?_
      refine TL.v rfl (OpVal.moveB (.inl rfl) rfl) rfl rfl ?_
      refine TL.goff rfl rfl rfl rfl rfl rfl rfl rfl ?_
      refine TL.goff rfl rfl rfl rfl rfl rfl rfl rfl ?_
      refine TL.v rfl (OpVal.pickFB rfl rfl rfl) rfl rfl ?_
      refine TL.v rfl (OpVal.moveB (.inl rfl) rfl) rfl rfl ?_
      refine TL.goff rfl rfl rfl rfl rfl rfl rfl rfl ?_
      refine TL.goff rfl rfl rfl rfl rfl rfl rfl rfl ?_
      refine TL.goff rfl rfl rfl rfl rfl rfl rfl rfl ?_
      refine TL.v rfl (OpVal.pickFB rfl rfl rfl) rfl rfl ?_
      refine TL.v rfl (OpVal.moveB (.inr rfl) rfl) rfl rfl ?_
      refine TL.nil ?_
      refine S.n ?_
      refine TC.ofSub (Sub.pre 0 rfl) ?_
      refine TC.back ?_
      refine TC.ret ?_
      obtain rfl := Option.some.inj hh
      exact RetOk.mk' (rs := [.tmp 0]) [] rfl (.inl rfl) (RVs.tmp rfl RVs.nil) (List.sublist_append_left _ _) ⟨rfl, rfl, rfl⟩
  · replace hh := iteO_f h114 hh
    replace h114 := of_decide_eq_false h114
    refine TL.goff rfl rfl rfl rfl rfl rfl rfl rfl ?_
    refine TL.goff rfl rfl rfl rfl rfl rfl rfl rfl ?_
    refine TL.goff rfl rfl rfl rfl rfl rfl rfl rfl ?_
    refine TL.v rfl (OpVal.pickFB rfl rfl rfl) rfl rfl ?_
    refine TL.v rfl (OpVal.moveB (.inl rfl) rfl) rfl rfl ?_
    refine TL.goff rfl rfl rfl rfl rfl rfl rfl rfl ?_
    refine TL.goff rfl rfl rfl rfl rfl rfl rfl rfl ?_
    refine TL.goff rfl rfl rfl rfl rfl rfl rfl rfl ?_
    refine TL.v rfl (OpVal.pickFB rfl rfl rfl) rfl rfl ?_
    refine TL.v rfl (OpVal.moveB (.inl rfl) rfl) rfl rfl ?_
    refine TL.goff rfl rfl rfl rfl rfl rfl rfl rfl ?_
    refine TL.v rfl (OpVal.pickFB rfl rfl rfl) rfl rfl ?_
    refine TL.v rfl (OpVal.moveB (.inl rfl) rfl) rfl rfl ?_
    refine TL.goff rfl rfl rfl rfl rfl rfl rfl rfl ?_
    refine TL.goff rfl rfl rfl rfl rfl rfl rfl rfl ?_
    refine TL.goff rfl rfl rfl rfl rfl rfl rfl rfl ?_
    refine TL.v rfl (OpVal.pickFB rfl rfl rfl) rfl rfl ?_
    refine TL.v rfl (OpVal.moveB (.inl rfl) rfl) rfl rfl ?_
    refine TL.goff rfl rfl rfl rfl rfl rfl rfl rfl ?_
    refine TL.goff rfl rfl rfl rfl rfl rfl rfl rfl ?_
    refine TL.v rfl (OpVal.pickFB rfl rfl rfl) rfl rfl ?_
    refine TL.v rfl (OpVal.moveB (.inl rfl) rfl) rfl rfl ?_
    refine TL.goff rfl rfl rfl rfl rfl rfl rfl rfl ?_
    refine TL.goff rfl rfl rfl rfl rfl rfl rfl rfl ?_
    refine TL.goff rfl rfl rfl rfl rfl rfl rfl rfl ?_
    refine TL.v rfl (OpVal.pickFB rfl rfl rfl) rfl rfl ?_
    refine TL.v rfl (OpVal.moveB (.inr rfl) rfl) rfl rfl ?_
    refine TL.nil ?_
    refine S.n ?_
    refine TC.ofSub (Sub.pre 0 rfl) ?_
    refine TC.back ?_
    refine TC.ret ?_
    obtain rfl := Option.some.inj hh
    exact RetOk.mk' (rs := [.tmp 0]) [] rfl (.inl rfl) (RVs.tmp rfl RVs.nil) (List.sublist_append_left _ _) ⟨rfl, rfl, rfl⟩

noncomputable def whittlelaw10_takes (x0 : Nfa) (x1 : List UInt8) : Option (Bool) :=
  grd (x1.length ≤ 281474976710656) (bnd (nfa_Takes x0 x1) (fun v5 => iteO v5.1 (some (decide (v5.2 = 0))) (some false)))
theorem whittlelaw10_takes_con {σ : Store} {x0 : Nfa} {a0_0 : Option Addr} {c0_0 : Nat} {a0_1 : Option Addr} {c0_1 : Nat} {a0_2 : Option Addr} {c0_2 : Nat} {x1 : List UInt8} (f0_0 : RS σ 1 Go.E.encI (.slice a0_0 x0.starts.length c0_0) x0.starts) (f0_1 : RS σ 1 Go.E.encI (.slice a0_1 x0.ends.length c0_1) x0.ends) (f0_2 : RS σ 6 encE (.slice a0_2 x0.edges.length c0_2) x0.edges) {r : Bool} (hh : whittlelaw10_takes x0 x1 = some r) :
    Con Try.prog 25 #[.agg #[.int .i64 x0.states, .slice a0_0 x0.starts.length c0_0, .slice a0_1 x0.ends.length c0_1, .slice a0_2 x0.edges.length c0_2], .string (bs x1)] σ [] (PureP (.bool r) σ) := by
  dsimp only [whittlelaw10_takes] at hh
  have f0_0b := f0_0.rv.big
  have f0_1b := f0_1.rv.big
  have f0_2b := f0_2.rv.big
  refine Con.mk (n := 18) Try.func25 rfl rfl rfl (fun w0 => ?_)
  have x1b := grd_c hh
  replace hh := grd_t hh
  refine TC.seq ?_
  refine TC.region ?_
  refine TL.op rfl (OpOk.boxA rfl rfl rfl rfl (fun b101 => ?_))
  refine TL.v rfl (OpVal.moveB (.inr rfl) rfl) rfl rfl ?_
  refine TL.nil ?_
  refine S.n ?_
  refine TC.seq ?_
  refine TC.region ?_
  refine TL.v rfl (OpVal.loadAll rfl ag25 sz25 rfl (i := 0) rfl rfl) rfl rfl ?_
  refine TL.v rfl (OpVal.moveStr (.inl rfl) rfl) rfl rfl ?_
  obtain ⟨v5, u5, hh⟩ := bnd_e hh
  refine TL.op rfl (OpOk.callP (nfa_Takes_con (x0 := x0) f0_0 f0_1 f0_2 u5) rfl rfl pf23 rfl rfl rfl ?_)
  refine TL.v rfl (OpVal.moveT (.inl rfl) rfl) rfl rfl ?_
  refine TL.v rfl (OpVal.extract rfl rfl rfl) rfl rfl ?_
  refine TL.v rfl (OpVal.extract rfl rfl rfl) rfl rfl ?_
  refine TL.v rfl (OpVal.moveB (.inr rfl) rfl) rfl rfl ?_
  refine TL.v rfl (OpVal.moveI (.inr rfl) rfl) rfl rfl ?_
  refine TL.nil ?_
  refine S.n ?_
  refine TC.seq ?_
  refine TC.region ?_
  refine TL.v rfl (OpVal.moveB (.inl rfl) rfl) rfl rfl ?_
  refine TL.v rfl (OpVal.moveB (.inl rfl) rfl) rfl rfl ?_
  refine TL.split 14 rfl (fun h103 => ?_) (fun h103 => ?_)
  · replace hh := iteO_t h103 hh
    refine TL.gv rfl rfl rfl rfl rfl (OpVal.moveI (.inl rfl) rfl) rfl rfl ?_
    refine TL.gv rfl rfl rfl rfl rfl (OpVal.eql rfl rfl rfl) rfl rfl ?_
    refine TL.v rfl (OpVal.pickTB rfl rfl rfl) rfl rfl ?_
    refine TL.v rfl (OpVal.moveB (.inr rfl) rfl) rfl rfl ?_
    refine TL.nil ?_
    refine S.n ?_
    refine TC.ofSub (Sub.pre 0 rfl) ?_
    refine TC.ret ?_
    obtain rfl := Option.some.inj hh
    exact RetOk.mk' (rs := [.tmp 4]) [] rfl (.inl rfl) (RVs.tmp rfl RVs.nil) (List.sublist_append_left _ _) ⟨rfl, rfl, rfl⟩
  · replace hh := iteO_f h103 hh
    refine TL.goff rfl rfl rfl rfl rfl rfl rfl rfl ?_
    refine TL.goff rfl rfl rfl rfl rfl rfl rfl rfl ?_
    refine TL.v rfl (OpVal.pickFB rfl rfl rfl) rfl rfl ?_
    refine TL.v rfl (OpVal.moveB (.inr rfl) rfl) rfl rfl ?_
    refine TL.nil ?_
    refine S.n ?_
    refine TC.ofSub (Sub.pre 0 rfl) ?_
    refine TC.ret ?_
    obtain rfl := Option.some.inj hh
    exact RetOk.mk' (rs := [.tmp 4]) [] rfl (.inl rfl) (RVs.tmp rfl RVs.nil) (List.sublist_append_left _ _) ⟨rfl, rfl, rfl⟩

end Go.Proofs.Ytcidppnlhhkhhaa
end

/- N3 -/
section
/- Decompiled: one or the other. -/
set_option linter.unusedVariables false
set_option linter.unusedSimpArgs false
namespace Go.Proofs.Ytcidppnlhhkhhaa
open Go Go.E
set_option maxRecDepth 100000
private theorem pf66 : Go.E.plainF Try.prog 66 = true := by kernel_rfl
private theorem pf87 : Go.E.plainF Try.prog 87 = true := by kernel_rfl
private theorem ze22 : Go.E.zeroOf Try.prog 22 = some (.slice none 0 0) := by kernel_rfl

noncomputable def growI_j1 (l103 : List Int) : Option ((List Int)) :=
  some l103
noncomputable def growI (x1 : Int) : Option ((List Int)) :=
  iteO (decide (x1 < 0)) (none) (iteO (decide (0 < (IntKind.i64.wrap (x1 - (IntKind.i64.wrap (((0 : Nat) : Int) - ((0 : Nat) : Int))))))) (grd (0 < IntKind.i64.wrap (x1 - (IntKind.i64.wrap (((0 : Nat) : Int) - ((0 : Nat) : Int)))) ∧ (IntKind.i64.wrap (x1 - (IntKind.i64.wrap (((0 : Nat) : Int) - ((0 : Nat) : Int))))).toNat * 8 ≤ 140737488355328) (grd (0 ≤ (List.replicate ((IntKind.i64.wrap (x1 - (IntKind.i64.wrap (((0 : Nat) : Int) - ((0 : Nat) : Int))))).toNat) (0 : Int)).length) (growI_j1 ((List.replicate ((IntKind.i64.wrap (x1 - (IntKind.i64.wrap (((0 : Nat) : Int) - ((0 : Nat) : Int))))).toNat) (0 : Int)).take 0)))) (growI_j1 ([] : List Int)))
def growI_P (σ : Store) (r : (List Int)) : Value → Store → List Res → Prop := fun v σ' H' =>
  ∃ (a1 : Option Addr), ∃ (c1 : Nat),  v = .slice a1 r.length c1 ∧ σ = σ' ∧ H' = [Res.rowS 3 1 Go.E.encI (.slice a1 r.length c1) r]
theorem growI_con {σ : Store} {x1 : Int}  {r : (List Int)} (hh : growI x1 = some r) :
    Con Try.prog 87 #[.slice none 0 0, .int .i64 x1] σ [] (growI_P σ r) := by
  dsimp only [growI] at hh
  refine Con.mk (n := 27) Try.func87 rfl rfl rfl (fun w0 => ?_)
  refine TC.seq ?_
  refine TC.region ?_
  refine TL.v rfl (OpVal.moveSl (.inr rfl) rfl) rfl rfl ?_
  refine TL.nil ?_
  refine S.n ?_
  refine TC.seq ?_
  refine TC.seq ?_
  refine TC.region ?_
  refine TL.v rfl (OpVal.moveI (.inl rfl) rfl) rfl rfl ?_
  refine TL.v rfl (OpVal.lss rfl rfl rfl) rfl rfl ?_
  refine TL.nil ?_
  refine S.n ?_
  refine TC.cond rfl (fun h101 => ?_) (fun h101 => ?_)
  · replace hh := iteO_t h101 hh
    replace h101 := of_decide_eq_true h101
    cases hh
  · replace hh := iteO_f h101 hh
    replace h101 := of_decide_eq_false h101
    refine TC.skip ?_
    refine S.n ?_
    refine TC.cutG (α := ((List Int)) × ((Option Addr) × Nat)) [0, 1, 8, 9, 10, 11, 12, 13, 14, 15, 16, 17, 18, 19, 20, 21, 22, 23, 24, 25] (fun g => [(0, .slice g.2.1 g.1.length g.2.2)]) (fun g => [Res.rowS 3 1 Go.E.encI (.slice g.2.1 g.1.length g.2.2) g.1]) (fun g => σ) (fun g => growI_j1 g.1 = some r) ?_ (fun g j hg => ?_)
    · skip
      refine TC.seq ?_
      refine TC.region ?_
      refine TL.v rfl (OpVal.moveI (.inl rfl) rfl) rfl rfl ?_
      refine TL.v rfl (OpVal.moveSl (.inl rfl) rfl) rfl rfl ?_
      refine TL.v rfl (OpVal.capC rfl Try.underlying22 rfl) rfl rfl ?_
      refine TL.v rfl (OpVal.moveSl (.inl rfl) rfl) rfl rfl ?_
      refine TL.v rfl (OpVal.lenC rfl Try.underlying22 rfl) rfl rfl ?_
      refine TL.v rfl (OpVal.subW rfl rfl rfl) rfl rfl ?_
      refine TL.v rfl (OpVal.subW rfl rfl rfl) rfl rfl ?_
      refine TL.v rfl (OpVal.moveI (.inr rfl) rfl) rfl rfl ?_
      refine TL.nil ?_
      refine S.n ?_
      refine TC.seq ?_
      refine TC.region ?_
      refine TL.v rfl (OpVal.moveI (.inl rfl) rfl) rfl rfl ?_
      refine TL.v rfl (OpVal.gtr rfl rfl rfl) rfl rfl ?_
      refine TL.nil ?_
      refine S.n ?_
      refine TC.cond rfl (fun h106 => ?_) (fun h106 => ?_)
      · replace hh := iteO_t h106 hh
        replace h106 := of_decide_eq_true h106
        refine TC.region ?_
        refine TL.v rfl (OpVal.moveSl (.inl rfl) rfl) rfl rfl ?_
        refine TL.v rfl (OpVal.moveSl (.inl rfl) rfl) rfl rfl ?_
        refine TL.v rfl (OpVal.capC rfl Try.underlying22 rfl) rfl rfl ?_
        refine TL.v rfl (OpVal.sliceNil rfl Try.underlying22 sz3 rfl rfl) rfl rfl ?_
        refine TL.v rfl (OpVal.moveI (.inl rfl) rfl) rfl rfl ?_
        have u21 := grd_c hh
        replace hh := grd_t hh
        refine TL.op rfl (OpOk.appendMake (m := (IntKind.i64.wrap (x1 - (IntKind.i64.wrap (((0 : Nat) : Int) - ((0 : Nat) : Int))))).toNat) (enc := Go.E.encI) (0 : Int) rfl Try.underlying22 Try.underlying3 sz3 by3 ze3 rfl rfl rfl (by show Value.int _ _ = _; rw [Int.toNat_of_nonneg (by omega)]) (by omega) (by decide) Go.E.encI_len (by decide) rfl Go.E.encI_one (fun a107 c108 => ?_))
        refine TL.v rfl (OpVal.moveSl (.inl rfl) rfl) rfl rfl ?_
        refine TL.v rfl (OpVal.lenC rfl Try.underlying22 rfl) rfl rfl ?_
        have u24 := grd_c hh
        replace hh := grd_t hh
        refine TL.op rfl (OpOk.cutS rfl Try.underlying22 sz3 rfl rfl rfl rfl rfl (by omega) Go.E.encI_len ?_)
        refine TL.v rfl (OpVal.moveSl (.inr rfl) rfl) rfl rfl ?_
        refine TL.nil ?_
        refine S.n ?_
        refine ⟨by repeat (first | exact Agr.refl _ _ | exact Agr.mask | refine Agr.upd rfl ?_ | refine Agr.maskIn rfl ?_ | refine Agr.upds rfl ?_), (((List.replicate ((IntKind.i64.wrap (x1 - (IntKind.i64.wrap (((0 : Nat) : Int) - ((0 : Nat) : Int))))).toNat) (0 : Int)).take 0), (a107, c108)), hh, by repeat (first | exact trivial | refine ⟨rfl, ?_⟩), Sub.pre 1 rfl, rfl⟩
      · replace hh := iteO_f h106 hh
        replace h106 := of_decide_eq_false h106
        refine TC.nilS 3 1 Go.E.encI ?_
        refine TC.skip ?_
        refine S.n ?_
        refine ⟨by repeat (first | exact Agr.refl _ _ | exact Agr.mask | refine Agr.upd rfl ?_ | refine Agr.maskIn rfl ?_ | refine Agr.upds rfl ?_), (([] : List Int), (none, 0)), hh, by repeat (first | exact trivial | refine ⟨rfl, ?_⟩), Sub.pre 1 rfl, rfl⟩
    · skip
      obtain ⟨l103, ⟨a104, c105⟩⟩ := g
      have hh := hg; clear hg
      show TC _ _ _ (upds (mask _ j _) [(0, .slice a104 l103.length c105)]) _ [Res.rowS 3 1 Go.E.encI (.slice a104 l103.length c105) l103]
      dsimp only [growI_j1] at hh
      refine TC.isSl (i := 0) rfl (fun _ hb111 _ => ?_)
      refine TC.seq ?_
      refine TC.region ?_
      refine TL.v rfl (OpVal.moveSl (.inl rfl) rfl) rfl rfl ?_
      refine TL.v rfl (OpVal.moveSl (.inr rfl) rfl) rfl rfl ?_
      refine TL.nil ?_
      refine S.n ?_
      refine TC.ret ?_
      obtain rfl := Option.some.inj hh
      exact RetOk.mk' (rs := [.tmp 4]) [Res.rowS 3 1 Go.E.encI (.slice a104 l103.length c105) l103] rfl (.inl rfl) (RVs.tmp rfl RVs.nil) (List.sublist_append_left _ _) ⟨a104, c105, rfl, rfl, rfl⟩

noncomputable def concatI_b2 (x0 : List (List Int)) (l121 : List Int) (k124 : Nat) : Option (((List Int) × Nat) ⊕ ((List Int))) :=
  iteO (decide (((k124 : Nat) : Int) < ((x0.length : Nat) : Int))) (grd ((l121.length + (nth x0 k124 ([] : List Int)).length) * 8 ≤ 140737488355328) (nxt ((l121 ++ (nth x0 k124 ([] : List Int))), (k124 + 1)))) (fin (some l121))
noncomputable def concatI_b1 (x0 : List (List Int)) (i105 : Int) (k106 : Nat) : Option ((Int × Nat) ⊕ ((List Int))) :=
  iteO (decide (((k106 : Nat) : Int) < ((x0.length : Nat) : Int))) (iteO (decide ((IntKind.i64.wrap (i105 + (((nth x0 k106 ([] : List Int)).length : Nat) : Int))) < 0)) (none) (nxt ((IntKind.i64.wrap (i105 + (((nth x0 k106 ([] : List Int)).length : Nat) : Int))), (k106 + 1)))) (fin (bnd (growI i105) (fun v22 => iter (fun q : (List Int) × Nat => concatI_b2 x0 q.1 q.2) (v22, 0))))
noncomputable def concatI (x0 : List (List Int)) : Option ((List Int)) :=
  iter (fun q : Int × Nat => concatI_b1 x0 q.1 q.2) (0, 0)
def concatI_P (σ : Store) (r : (List Int)) : Value → Store → List Res → Prop := fun v σ' H' =>
  ∃ (a1 : Option Addr), ∃ (c1 : Nat),  v = .slice a1 r.length c1 ∧ σ = σ' ∧ H' = [Res.rowS 3 1 Go.E.encI (.slice a1 r.length c1) r]
theorem concatI_con {σ : Store} {x0 : List (List Int)} {a0_0 : Option Addr} {c0_0 : Nat} (f0_0 : RZ σ (pkSl 1 Go.E.encI Go.E.encI_len) (.slice a0_0 x0.length c0_0) x0) {r : (List Int)} (hh : concatI x0 = some r) :
    Con Try.prog 66 #[.slice a0_0 x0.length c0_0] σ [] (concatI_P σ r) := by
  dsimp only [concatI] at hh
  have f0_0b := f0_0.big
  refine Con.mk (n := 36) Try.func66 rfl rfl rfl (fun w0 => ?_)
  refine TC.seq ?_
  refine TC.region ?_
  refine TL.v rfl (OpVal.moveSl (.inr rfl) rfl) rfl rfl ?_
  refine TL.nil ?_
  refine S.n ?_
  refine TC.seq ?_
  refine TC.region ?_
  refine TL.v rfl (OpVal.moveI (.inr rfl) rfl) rfl rfl ?_
  refine TL.nil ?_
  refine S.n ?_
  refine TC.seq ?_
  refine TC.seq ?_
  refine TC.region ?_
  refine TL.v rfl (OpVal.moveSl (.inl rfl) rfl) rfl rfl ?_
  refine TL.v rfl (OpVal.lenC rfl Try.underlying56 rfl) rfl rfl ?_
  refine TL.v rfl (OpVal.moveI (.inl rfl) rfl) rfl rfl ?_
  refine TL.nil ?_
  refine S.n ?_
  refine TC.block ?_
  refine TC.loopG (α := (Int × Nat) × (Unit)) [3, 5, 11, 12, 13, 14, 15, 16, 17, 18, 19, 20, 21, 22] (fun g => [(3, .int .i64 g.1.1), (11, .int .i64 ((g.1.2 : Nat) : Int))]) (fun g => []) (fun g => σ) (fun g => iter (fun q : Int × Nat => concatI_b1 x0 q.1 q.2) g.1 = some r) (fun g => rounds (fun q : Int × Nat => concatI_b1 x0 q.1 q.2) g.1) ((0, 0), ()) (Sub.pre 0 rfl) rfl (by repeat (first | exact trivial | refine ⟨rfl, ?_⟩)) hh (fun g1 j1 hg1 => ?_)
  obtain ⟨⟨i105, k106⟩, _⟩ := g1
  have hh := hg1; clear hg1
  show TC _ _ _ (upds (mask _ j1 _) [(3, .int .i64 i105), (11, .int .i64 ((k106 : Nat) : Int))]) _ []
  obtain ⟨z1, hh, hR1⟩ := iter_e hh
  dsimp only [concatI_b1] at hh
  refine TC.seq ?_
  refine TC.region ?_
  refine TL.v rfl (OpVal.lss rfl rfl rfl) rfl rfl ?_
  refine TL.nil ?_
  refine S.n ?_
  refine TC.seq ?_
  refine TC.cond rfl (fun h107 => ?_) (fun h107 => ?_)
  · replace hh := iteO_t h107 hh
    replace h107 := of_decide_eq_true h107
    refine TC.skip ?_
    refine S.n ?_
    refine TC.seq ?_
    refine TC.block ?_
    refine TC.seq ?_
    refine TC.region ?_
    refine TL.v rfl (OpVal.indexN rfl Try.underlying56 sz22 rfl rfl f0_0.isSl (by omega)) rfl rfl ?_
    obtain ⟨p108, hk108, hg108⟩ := RZ.seg f0_0 k106 (by omega)
    replace hk108 : RS _ 1 Go.E.encI (.slice p108.1 (nth x0 k106 ([] : List Int)).length p108.2) (nth x0 k106 ([] : List Int)) := hk108
    have hk108b := hk108.rv.big
    refine TL.v rfl (OpVal.of (OpVal.loadSeg0 rfl ag22 rfl hg108 rfl) (v' := .slice p108.1 ((nth x0 k106 ([] : List Int)).length) p108.2) rfl) rfl rfl ?_
    refine TL.v rfl (OpVal.moveSl (.inr rfl) rfl) rfl rfl ?_
    refine TL.nil ?_
    refine S.n ?_
    refine TC.seq ?_
    refine TC.region ?_
    refine TL.v rfl (OpVal.moveI (.inl rfl) rfl) rfl rfl ?_
    refine TL.v rfl (OpVal.moveSl (.inl rfl) rfl) rfl rfl ?_
    refine TL.v rfl (OpVal.lenC rfl Try.underlying22 rfl) rfl rfl ?_
    refine TL.v rfl (OpVal.addW rfl rfl rfl) rfl rfl ?_
    refine TL.v rfl (OpVal.moveI (.inr rfl) rfl) rfl rfl ?_
    refine TL.nil ?_
    refine S.n ?_
    refine TC.seq ?_
    refine TC.region ?_
    refine TL.v rfl (OpVal.moveI (.inl rfl) rfl) rfl rfl ?_
    refine TL.v rfl (OpVal.lss rfl rfl rfl) rfl rfl ?_
    refine TL.nil ?_
    refine S.n ?_
    refine TC.cond rfl (fun h109 => ?_) (fun h109 => ?_)
    · replace hh := iteO_t h109 hh
      replace h109 := of_decide_eq_true h109
      cases hh
    · replace hh := iteO_f h109 hh
      replace h109 := of_decide_eq_false h109
      refine TC.skip ?_
      refine B.n ?_
      refine S.n ?_
      refine TC.region ?_
      refine TL.v rfl (OpVal.succ rfl rfl rfl (by omega)) rfl rfl ?_
      refine TL.v rfl (OpVal.moveI (.inl rfl) rfl) rfl rfl ?_
      refine TL.nil ?_
      refine S.n ?_
      obtain ⟨hh, hlt110⟩ := nxt_x hR1 hh
      refine ⟨by repeat (first | exact Agr.refl _ _ | exact Agr.mask | refine Agr.upd rfl ?_ | refine Agr.maskIn rfl ?_ | refine Agr.upds rfl ?_), (((IntKind.i64.wrap (i105 + (((nth x0 k106 ([] : List Int)).length : Nat) : Int))), (k106 + 1)), ()), hlt110, hh, by repeat (first | exact trivial | refine ⟨rfl, ?_⟩), Sub.pre 0 rfl, rfl⟩
  · replace hh := iteO_f h107 hh
    replace h107 := of_decide_eq_false h107
    refine TC.exit ?_
    refine S.x ?_
    refine S.x ?_
    replace hh := fin_x hR1 hh
    refine TC.exitHere ?_
    refine S.n ?_
    refine TC.seq ?_
    refine TC.region ?_
    refine TL.v rfl (OpVal.moveI (.inl rfl) rfl) rfl rfl ?_
    obtain ⟨v22, u22, hh⟩ := bnd_e hh
    refine TL.op rfl (OpOk.call (growI_con u22) rfl rfl pf87 rfl rfl rfl rfl ?_)
    rintro _ _ _ hle111 ⟨a111_1, c111_1, rfl, rfl, rfl⟩
    refine TL.v rfl (OpVal.moveSl (.inr rfl) rfl) rfl rfl ?_
    refine TL.nil ?_
    refine S.n ?_
    refine TC.seq ?_
    refine TC.seq ?_
    refine TC.region ?_
    refine TL.v rfl (OpVal.moveSl (.inl rfl) rfl) rfl rfl ?_
    refine TL.v rfl (OpVal.lenC rfl Try.underlying56 rfl) rfl rfl ?_
    refine TL.v rfl (OpVal.moveI (.inl rfl) rfl) rfl rfl ?_
    refine TL.nil ?_
    refine S.n ?_
    refine TC.block ?_
    refine TC.loopG (α := ((List Int) × Nat) × ((Option Addr) × Nat)) [6, 8, 27, 28, 29, 30, 31, 32, 33, 34] (fun g => [(6, .slice g.2.1 g.1.1.length g.2.2), (27, .int .i64 ((g.1.2 : Nat) : Int))]) (fun g => [Res.rowS 3 1 Go.E.encI (.slice g.2.1 g.1.1.length g.2.2) g.1.1]) (fun g => σ) (fun g => iter (fun q : (List Int) × Nat => concatI_b2 x0 q.1 q.2) g.1 = some r) (fun g => rounds (fun q : (List Int) × Nat => concatI_b2 x0 q.1 q.2) g.1) ((v22, 0), (a111_1, c111_1)) (Sub.pre 1 rfl) rfl (by repeat (first | exact trivial | refine ⟨rfl, ?_⟩)) hh (fun g2 j2 hg2 => ?_)
    obtain ⟨⟨l121, k124⟩, ⟨a122, c123⟩⟩ := g2
    have hh := hg2; clear hg2
    show TC _ _ _ (upds (mask _ j2 _) [(6, .slice a122 l121.length c123), (27, .int .i64 ((k124 : Nat) : Int))]) _ [Res.rowS 3 1 Go.E.encI (.slice a122 l121.length c123) l121]
    obtain ⟨z1, hh, hR1⟩ := iter_e hh
    dsimp only [concatI_b2] at hh
    refine TC.isSl (i := 0) rfl (fun _ hb125 _ => ?_)
    refine TC.seq ?_
    refine TC.region ?_
    refine TL.v rfl (OpVal.lss rfl rfl rfl) rfl rfl ?_
    refine TL.nil ?_
    refine S.n ?_
    refine TC.seq ?_
    refine TC.cond rfl (fun h126 => ?_) (fun h126 => ?_)
    · replace hh := iteO_t h126 hh
      replace h126 := of_decide_eq_true h126
      refine TC.skip ?_
      refine S.n ?_
      refine TC.seq ?_
      refine TC.block ?_
      refine TC.seq ?_
      refine TC.region ?_
      refine TL.v rfl (OpVal.indexN rfl Try.underlying56 sz22 rfl rfl f0_0.isSl (by omega)) rfl rfl ?_
      obtain ⟨p127, hk127, hg127⟩ := RZ.seg f0_0 k124 (by omega)
      replace hk127 : RS _ 1 Go.E.encI (.slice p127.1 (nth x0 k124 ([] : List Int)).length p127.2) (nth x0 k124 ([] : List Int)) := hk127
      have hk127b := hk127.rv.big
      refine TL.v rfl (OpVal.of (OpVal.loadSeg0 rfl ag22 rfl hg127 rfl) (v' := .slice p127.1 ((nth x0 k124 ([] : List Int)).length) p127.2) rfl) rfl rfl ?_
      refine TL.v rfl (OpVal.moveSl (.inr rfl) rfl) rfl rfl ?_
      refine TL.nil ?_
      refine S.n ?_
      refine TC.region ?_
      refine TL.v rfl (OpVal.moveSl (.inl rfl) rfl) rfl rfl ?_
      refine TL.v rfl (OpVal.moveSl (.inl rfl) rfl) rfl rfl ?_
      have u33 := grd_c hh
      replace hh := grd_t hh
      refine TL.op rfl (OpOk.appendS rfl rfl Try.underlying22 sz3 by3 ze3 rfl rfl (by decide) rfl rfl rfl (.inl hk127) (by simpa using u33) (by decide) (fun a128 c129 => ?_))
      refine TL.v rfl (OpVal.moveSl (.inr rfl) rfl) rfl rfl ?_
      refine TL.nil ?_
      refine B.n ?_
      refine S.n ?_
      refine TC.region ?_
      refine TL.v rfl (OpVal.succ rfl rfl rfl (by omega)) rfl rfl ?_
      refine TL.v rfl (OpVal.moveI (.inl rfl) rfl) rfl rfl ?_
      refine TL.nil ?_
      refine S.n ?_
      obtain ⟨hh, hlt130⟩ := nxt_x hR1 hh
      refine ⟨by repeat (first | exact Agr.refl _ _ | exact Agr.mask | refine Agr.upd rfl ?_ | refine Agr.maskIn rfl ?_ | refine Agr.upds rfl ?_), (((l121 ++ (nth x0 k124 ([] : List Int))), (k124 + 1)), (a128, c129)), hlt130, hh, by repeat (first | exact trivial | refine ⟨rfl, ?_⟩), Sub.pre 1 rfl, rfl⟩
    · replace hh := iteO_f h126 hh
      replace h126 := of_decide_eq_false h126
      refine TC.exit ?_
      refine S.x ?_
      refine S.x ?_
      replace hh := fin_x hR1 hh
      refine TC.exitHere ?_
      refine S.n ?_
      refine TC.seq ?_
      refine TC.region ?_
      refine TL.v rfl (OpVal.moveSl (.inl rfl) rfl) rfl rfl ?_
      refine TL.v rfl (OpVal.moveSl (.inr rfl) rfl) rfl rfl ?_
      refine TL.nil ?_
      refine S.n ?_
      refine TC.ret ?_
      obtain rfl := Option.some.inj hh
      exact RetOk.mk' (rs := [.tmp 2]) [Res.rowS 3 1 Go.E.encI (.slice a122 l121.length c123) l121] rfl (.inl rfl) (RVs.tmp rfl RVs.nil) (List.sublist_append_left _ _) ⟨a122, c123, rfl, rfl, rfl⟩

noncomputable def nfa_shift_b1 (x0 : List Int) (x1 : Int) (l110 : List Int) (k112 : Nat) : Option (((List Int) × Nat) ⊕ ((List Int))) :=
  iteO (decide (((k112 : Nat) : Int) < ((x0.length : Nat) : Int))) (grd (k112 < l110.length) (nxt ((l110.set k112 (IntKind.i64.wrap ((nth x0 k112 (0 : Int)) + x1))), (k112 + 1)))) (fin (some l110))
noncomputable def nfa_shift (x0 : List Int) (x1 : Int) : Option ((List Int)) :=
  grd (8 * x0.length ≤ 281474976710656) (iter (fun q : (List Int) × Nat => nfa_shift_b1 x0 x1 q.1 q.2) ((List.replicate x0.length (0 : Int)), 0))
def nfa_shift_P (σ : Store) (r : (List Int)) : Value → Store → List Res → Prop := fun v σ' H' =>
  ∃ (a1 : Option Addr), ∃ (c1 : Nat),  v = .slice a1 r.length c1 ∧ σ = σ' ∧ H' = [Res.rowS 3 1 Go.E.encI (.slice a1 r.length c1) r]
theorem nfa_shift_con {σ : Store} {x0 : List Int} {a0_0 : Option Addr} {c0_0 : Nat} {x1 : Int} (f0_0 : RS σ 1 Go.E.encI (.slice a0_0 x0.length c0_0) x0) {r : (List Int)} (hh : nfa_shift x0 x1 = some r) :
    Con Try.prog 63 #[.slice a0_0 x0.length c0_0, .int .i64 x1] σ [] (nfa_shift_P σ r) := by
  dsimp only [nfa_shift] at hh
  have f0_0b := f0_0.rv.big
  refine Con.mk (n := 26) Try.func63 rfl rfl rfl (fun w0 => ?_)
  refine TC.seq ?_
  refine TC.region ?_
  refine TL.v rfl (OpVal.moveSl (.inr rfl) rfl) rfl rfl ?_
  refine TL.nil ?_
  refine S.n ?_
  refine TC.seq ?_
  refine TC.region ?_
  refine TL.v rfl (OpVal.moveSl (.inl rfl) rfl) rfl rfl ?_
  refine TL.v rfl (OpVal.lenC rfl Try.underlying22 rfl) rfl rfl ?_
  have u4 := grd_c hh
  replace hh := grd_t hh
  refine TL.op rfl (OpOk.makeS2 (enc := Go.E.encI) (0 : Int) rfl Try.underlying22 sz3 by3 ze3 rfl rfl rfl rfl (by omega) (by decide) Go.E.encI_len (by decide) rfl Go.E.encI_one (fun a101 c102 => ?_))
  refine TL.v rfl (OpVal.moveSl (.inr rfl) rfl) rfl rfl ?_
  refine TL.nil ?_
  refine S.n ?_
  refine TC.seq ?_
  refine TC.seq ?_
  refine TC.region ?_
  refine TL.v rfl (OpVal.moveSl (.inl rfl) rfl) rfl rfl ?_
  refine TL.v rfl (OpVal.lenC rfl Try.underlying22 rfl) rfl rfl ?_
  refine TL.v rfl (OpVal.moveI (.inl rfl) rfl) rfl rfl ?_
  refine TL.nil ?_
  refine S.n ?_
  refine TC.block ?_
  refine TC.loopG (α := ((List Int) × Nat) × (Unit)) [6, 7, 13, 14, 15, 16, 17, 18, 19, 20, 21, 22, 23, 24] (fun g => [(13, .int .i64 ((g.1.2 : Nat) : Int))]) (fun g => [Res.rowS 3 1 Go.E.encI (.slice a101 (List.replicate x0.length (0 : Int)).length c102) g.1.1]) (fun g => σ) (fun g => iter (fun q : (List Int) × Nat => nfa_shift_b1 x0 x1 q.1 q.2) g.1 = some r ∧ g.1.1.length = (List.replicate x0.length (0 : Int)).length) (fun g => rounds (fun q : (List Int) × Nat => nfa_shift_b1 x0 x1 q.1 q.2) g.1) (((List.replicate x0.length (0 : Int)), 0), ()) (Sub.pre 1 rfl) rfl (by repeat (first | exact trivial | refine ⟨rfl, ?_⟩)) ⟨hh, rfl⟩ (fun g1 j1 hg1 => ?_)
  obtain ⟨⟨l110, k112⟩, _⟩ := g1
  obtain ⟨hh, hn111⟩ := hg1
  try dsimp only at hn111
  show TC _ _ _ (upds (mask _ j1 _) [(13, .int .i64 ((k112 : Nat) : Int))]) _ [Res.rowS 3 1 Go.E.encI (.slice a101 (List.replicate x0.length (0 : Int)).length c102) l110]
  obtain ⟨z1, hh, hR1⟩ := iter_e hh
  dsimp only [nfa_shift_b1] at hh
  have hn111b := hn111
  refine TC.isSl (i := 0) rfl (fun _ hb113 _ => ?_)
  refine TC.seq ?_
  refine TC.region ?_
  refine TL.v rfl (OpVal.lss rfl rfl rfl) rfl rfl ?_
  refine TL.nil ?_
  refine S.n ?_
  refine TC.seq ?_
  refine TC.cond rfl (fun h114 => ?_) (fun h114 => ?_)
  · replace hh := iteO_t h114 hh
    replace h114 := of_decide_eq_true h114
    refine TC.skip ?_
    refine S.n ?_
    refine TC.seq ?_
    refine TC.block ?_
    refine TC.seq ?_
    refine TC.region ?_
    refine TL.v rfl (OpVal.moveI (.inl rfl) rfl) rfl rfl ?_
    refine TL.v rfl (OpVal.indexN rfl Try.underlying22 sz3 rfl rfl f0_0.rv.sl (by omega)) rfl rfl ?_
    refine TL.v rfl (OpVal.loadS1 (0 : Int) rfl ag3 rfl f0_0 (by omega) rfl) rfl rfl ?_
    refine TL.v rfl (OpVal.moveI (.inr rfl) rfl) rfl rfl ?_
    refine TL.v rfl (OpVal.moveI (.inr rfl) rfl) rfl rfl ?_
    refine TL.nil ?_
    refine S.n ?_
    refine TC.region ?_
    refine TL.v rfl (OpVal.moveSl (.inl rfl) rfl) rfl rfl ?_
    refine TL.v rfl (OpVal.moveI (.inl rfl) rfl) rfl rfl ?_
    refine TL.v rfl (OpVal.moveI (.inl rfl) rfl) rfl rfl ?_
    refine TL.v rfl (OpVal.moveI (.inl rfl) rfl) rfl rfl ?_
    refine TL.v rfl (OpVal.addW rfl rfl rfl) rfl rfl ?_
    have u20 := grd_c hh
    replace hh := grd_t hh
    refine TL.isSl (i := 0) rfl (fun hs115 _ _ => ?_)
    refine TL.v rfl (OpVal.indexN rfl Try.underlying22 sz3 rfl rfl hs115 (by omega)) rfl rfl ?_
    have hn116 : (l110.set k112 (IntKind.i64.wrap ((nth x0 k112 (0 : Int)) + x1))).length = (List.replicate x0.length (0 : Int)).length := by rw [List.length_set]; exact hn111
    refine TL.op rfl (OpOk.storeS (IntKind.i64.wrap ((nth x0 k112 (0 : Int)) + x1)) rfl sz3 rfl rfl rfl rfl Go.E.encI_len Go.E.encI_one (by omega) (by omega) ?_)
    refine TL.nil ?_
    refine B.n ?_
    refine S.n ?_
    refine TC.region ?_
    refine TL.v rfl (OpVal.succ rfl rfl rfl (by omega)) rfl rfl ?_
    refine TL.v rfl (OpVal.moveI (.inl rfl) rfl) rfl rfl ?_
    refine TL.nil ?_
    refine S.n ?_
    obtain ⟨hh, hlt117⟩ := nxt_x hR1 hh
    refine ⟨by repeat (first | exact Agr.refl _ _ | exact Agr.mask | refine Agr.upd rfl ?_ | refine Agr.maskIn rfl ?_ | refine Agr.upds rfl ?_), (((l110.set k112 (IntKind.i64.wrap ((nth x0 k112 (0 : Int)) + x1))), (k112 + 1)), ()), hlt117, ⟨hh, hn116⟩, by repeat (first | exact trivial | refine ⟨rfl, ?_⟩), Sub.pre 1 rfl, rfl⟩
  · replace hh := iteO_f h114 hh
    replace h114 := of_decide_eq_false h114
    refine TC.exit ?_
    refine S.x ?_
    refine S.x ?_
    replace hh := fin_x hR1 hh
    refine TC.exitHere ?_
    refine S.n ?_
    refine TC.seq ?_
    refine TC.region ?_
    refine TL.v rfl (OpVal.moveSl (.inl rfl) rfl) rfl rfl ?_
    refine TL.v rfl (OpVal.moveSl (.inr rfl) rfl) rfl rfl ?_
    refine TL.nil ?_
    refine S.n ?_
    rw [← hn111]
    refine TC.ret ?_
    obtain rfl := Option.some.inj hh
    exact RetOk.mk' (rs := [.tmp 4]) [Res.rowS 3 1 Go.E.encI (.slice a101 l110.length c102) l110] rfl (.inl rfl) (RVs.tmp rfl RVs.nil) (List.sublist_append_left _ _) ⟨a101, c102, rfl, rfl, rfl⟩

noncomputable def nfa_Alt (x0 : Nfa) (x1 : Nfa) : Option (Nfa × Int) :=
  iteO (decide ((errB (checkB x0)) ≠ 0)) (some ((⟨0, ([] : List Int), ([] : List Int), ([] : List Arrow)⟩ : Nfa), 1)) (iteO (decide ((errB (checkB x1)) ≠ 0)) (some ((⟨0, ([] : List Int), ([] : List Int), ([] : List Arrow)⟩ : Nfa), 1)) (iteO (!(fitB (IntKind.i64.wrap (x0.states + x1.states)) (IntKind.i64.wrap (((x0.edges.length : Nat) : Int) + ((x1.edges.length : Nat) : Int))))) (some ((⟨0, ([] : List Int), ([] : List Int), ([] : List Arrow)⟩ : Nfa), 2)) (bnd (nfa_shift x1.starts x0.states) (fun v42 => bnd (concatI [x0.starts, v42]) (fun v44 => bnd (nfa_shift x1.ends x0.states) (fun v51 => bnd (concatI [x0.ends, v51]) (fun v53 => grd (0 ≤ x0.states ∧ x0.states ≤ 1000000) (grd (∀ u ∈ x1.edges, 0 ≤ u.frm ∧ u.frm ≤ 1000000 ∧ 0 ≤ u.to ∧ u.to ≤ 1000000) (grd (x0.edges.length ≤ 100000000) (grd (x1.edges.length ≤ 100000000) (some ((⟨IntKind.i64.wrap (x0.states + x1.states), v44, v53, (x0.edges ++ shiftE x1.edges x0.states)⟩ : Nfa), 0))))))))))))
def nfa_Alt_P (σ : Store) (r : Nfa × Int) : Value → Store → List Res → Prop := fun v σ' H' =>
  ∃ (a1 : Option Addr), ∃ (c1 : Nat), ∃ (a2 : Option Addr), ∃ (c2 : Nat), ∃ (a3 : Option Addr), ∃ (c3 : Nat),  v = .tuple #[.agg #[.int .i64 r.1.states, .slice a1 r.1.starts.length c1, .slice a2 r.1.ends.length c2, .slice a3 r.1.edges.length c3], .int .i64 r.2] ∧ RS σ' 1 Go.E.encI (.slice a1 r.1.starts.length c1) r.1.starts ∧ RS σ' 1 Go.E.encI (.slice a2 r.1.ends.length c2) r.1.ends ∧ RS σ' 6 encE (.slice a3 r.1.edges.length c3) r.1.edges ∧ H' = []
theorem nfa_Alt_con {σ : Store} {x0 : Nfa} {a0_0 : Option Addr} {c0_0 : Nat} {a0_1 : Option Addr} {c0_1 : Nat} {a0_2 : Option Addr} {c0_2 : Nat} {x1 : Nfa} {a1_0 : Option Addr} {c1_0 : Nat} {a1_1 : Option Addr} {c1_1 : Nat} {a1_2 : Option Addr} {c1_2 : Nat} (f0_0 : RS σ 1 Go.E.encI (.slice a0_0 x0.starts.length c0_0) x0.starts) (f0_1 : RS σ 1 Go.E.encI (.slice a0_1 x0.ends.length c0_1) x0.ends) (f0_2 : RS σ 6 encE (.slice a0_2 x0.edges.length c0_2) x0.edges) (f1_0 : RS σ 1 Go.E.encI (.slice a1_0 x1.starts.length c1_0) x1.starts) (f1_1 : RS σ 1 Go.E.encI (.slice a1_1 x1.ends.length c1_1) x1.ends) (f1_2 : RS σ 6 encE (.slice a1_2 x1.edges.length c1_2) x1.edges) {r : Nfa × Int} (hh : nfa_Alt x0 x1 = some r) :
    Con Try.prog 28 #[.agg #[.int .i64 x0.states, .slice a0_0 x0.starts.length c0_0, .slice a0_1 x0.ends.length c0_1, .slice a0_2 x0.edges.length c0_2], .agg #[.int .i64 x1.states, .slice a1_0 x1.starts.length c1_0, .slice a1_1 x1.ends.length c1_1, .slice a1_2 x1.edges.length c1_2]] σ [] (nfa_Alt_P σ r) := by
  dsimp only [nfa_Alt] at hh
  have f0_0b := f0_0.rv.big
  have f0_1b := f0_1.rv.big
  have f0_2b := f0_2.rv.big
  have f1_0b := f1_0.rv.big
  have f1_1b := f1_1.rv.big
  have f1_2b := f1_2.rv.big
  refine Con.mk (n := 58) Try.func28 rfl rfl rfl (fun w0 => ?_)
  refine TC.seq ?_
  refine TC.region ?_
  refine TL.op rfl (OpOk.boxA rfl rfl rfl rfl (fun b101 => ?_))
  refine TL.op rfl (OpOk.boxA rfl rfl rfl rfl (fun b103 => ?_))
  refine TL.op rfl (OpOk.alloc rfl ze25 rfl rfl (fun b105 => ?_))
  refine TL.v rfl (OpVal.moveI (.inr rfl) rfl) rfl rfl ?_
  refine TL.nil ?_
  refine S.n ?_
  refine TC.seq ?_
  refine TC.seq ?_
  refine TC.region ?_
  refine TL.v rfl (OpVal.loadAll rfl ag25 sz25 rfl (i := 2) rfl rfl) rfl rfl ?_
  refine TL.op rfl (OpOk.callP (check_con _ x0 ⟨a0_0, c0_0, a0_1, c0_1, a0_2, c0_2⟩ ⟨f0_0, f0_1, f0_2, fun x _ => x.set.isOk⟩) rfl rfl pf18 rfl rfl rfl ?_)
  refine TL.v rfl (OpVal.neq rfl rfl rfl) rfl rfl ?_
  refine TL.v rfl (OpVal.moveB (.inl rfl) rfl) rfl rfl ?_
  refine TL.split 10 rfl (fun h107 => ?_) (fun h107 => ?_)
  · replace hh := iteO_t h107 hh
    replace h107 := of_decide_eq_true h107
    refine TL.goff rfl rfl rfl rfl rfl rfl rfl rfl ?_
    refine TL.goff rfl rfl rfl rfl rfl rfl rfl rfl ?_
    refine TL.goff rfl rfl rfl rfl rfl rfl rfl rfl ?_
    refine TL.v rfl (OpVal.pickTB rfl rfl rfl) rfl rfl ?_
    refine TL.nil ?_
    refine S.n ?_
    refine TC.cond rfl (fun _ => ?_) (fun h => Bool.noConfusion h)
    refine TC.seq ?_
    refine TC.region ?_
    refine TL.v rfl (OpVal.buildL rfl pl25 ze25 rfl) rfl rfl ?_
    refine TL.op rfl (OpOk.storeAll rfl sz25 rfl rfl rfl rfl rfl rfl ?_)
    refine TL.v rfl (OpVal.moveI (.inr rfl) rfl) rfl rfl ?_
    refine TL.nil ?_
    refine S.n ?_
    refine TC.ofSub (Sub.pre 1 rfl) ?_
    refine TC.ret ?_
    refine S.r ?_
    obtain rfl := Option.some.inj hh
    exact RetOk.mk' (rs := [.cell 4 25, .tmp 5]) [] rfl (.inl rfl) (RVs.agg ag25 sz25 rfl (i := 0) rfl rfl (RVs.tmp rfl RVs.nil)) (List.sublist_append_left _ _) ⟨none, 0, none, 0, none, 0, rfl, (RS.nilF _ Go.E.encI Go.E.encI_len), (RS.nilF _ Go.E.encI Go.E.encI_len), (RS.nilF _ encE encE_len), rfl⟩
  · replace hh := iteO_f h107 hh
    replace h107 := of_decide_eq_false h107
    refine TL.gv rfl rfl rfl rfl rfl (OpVal.loadAll rfl ag25 sz25 rfl (i := 1) rfl rfl) rfl rfl ?_
    refine TL.gon rfl rfl rfl rfl rfl (OpOk.callP (check_con _ x1 ⟨a1_0, c1_0, a1_1, c1_1, a1_2, c1_2⟩ ⟨f1_0, f1_1, f1_2, fun x _ => x.set.isOk⟩) rfl rfl pf18 rfl rfl rfl ?_)
    refine TL.gv rfl rfl rfl rfl rfl (OpVal.neq rfl rfl rfl) rfl rfl ?_
    refine TL.v rfl (OpVal.pickFB rfl rfl rfl) rfl rfl ?_
    refine TL.nil ?_
    refine S.n ?_
    refine TC.cond rfl (fun h108 => ?_) (fun h108 => ?_)
    · replace hh := iteO_t h108 hh
      replace h108 := of_decide_eq_true h108
      refine TC.seq ?_
      refine TC.region ?_
      refine TL.v rfl (OpVal.buildL rfl pl25 ze25 rfl) rfl rfl ?_
      refine TL.op rfl (OpOk.storeAll rfl sz25 rfl rfl rfl rfl rfl rfl ?_)
      refine TL.v rfl (OpVal.moveI (.inr rfl) rfl) rfl rfl ?_
      refine TL.nil ?_
      refine S.n ?_
      refine TC.ofSub (Sub.pre 1 rfl) ?_
      refine TC.ret ?_
      refine S.r ?_
      obtain rfl := Option.some.inj hh
      exact RetOk.mk' (rs := [.cell 4 25, .tmp 5]) [] rfl (.inl rfl) (RVs.agg ag25 sz25 rfl (i := 0) rfl rfl (RVs.tmp rfl RVs.nil)) (List.sublist_append_left _ _) ⟨none, 0, none, 0, none, 0, rfl, (RS.nilF _ Go.E.encI Go.E.encI_len), (RS.nilF _ Go.E.encI Go.E.encI_len), (RS.nilF _ encE encE_len), rfl⟩
    · replace hh := iteO_f h108 hh
      replace h108 := of_decide_eq_false h108
      refine TC.skip ?_
      refine S.n ?_
      refine TC.seq ?_
      refine TC.region ?_
      refine TL.v rfl (OpVal.fieldLoc rfl fo25_0 rfl) rfl rfl ?_
      refine TL.v rfl (OpVal.loadLoc rfl ag3 rfl (i := 2) rfl rfl) rfl rfl ?_
      refine TL.v rfl (OpVal.fieldLoc rfl fo25_0 rfl) rfl rfl ?_
      refine TL.v rfl (OpVal.loadLoc rfl ag3 rfl (i := 1) rfl rfl) rfl rfl ?_
      refine TL.v rfl (OpVal.addW rfl rfl rfl) rfl rfl ?_
      refine TL.v rfl (OpVal.moveI (.inr rfl) rfl) rfl rfl ?_
      refine TL.nil ?_
      refine S.n ?_
      refine TC.seq ?_
      refine TC.seq ?_
      refine TC.region ?_
      refine TL.v rfl (OpVal.moveI (.inl rfl) rfl) rfl rfl ?_
      refine TL.v rfl (OpVal.fieldLoc rfl fo25_3 rfl) rfl rfl ?_
      refine TL.v rfl (OpVal.loadLoc rfl ag23 rfl (i := 2) rfl rfl) rfl rfl ?_
      refine TL.v rfl (OpVal.lenC rfl Try.underlying23 rfl) rfl rfl ?_
      refine TL.v rfl (OpVal.fieldLoc rfl fo25_3 rfl) rfl rfl ?_
      refine TL.v rfl (OpVal.loadLoc rfl ag23 rfl (i := 1) rfl rfl) rfl rfl ?_
      refine TL.v rfl (OpVal.lenC rfl Try.underlying23 rfl) rfl rfl ?_
      refine TL.v rfl (OpVal.addW rfl rfl rfl) rfl rfl ?_
      refine TL.op rfl (OpOk.callP (fits_con _ (IntKind.i64.wrap (x0.states + x1.states)) (IntKind.i64.wrap (((x0.edges.length : Nat) : Int) + ((x1.edges.length : Nat) : Int)))) rfl rfl pf61 rfl rfl rfl ?_)
      refine TL.v rfl (OpVal.not rfl rfl) rfl rfl ?_
      refine TL.nil ?_
      refine S.n ?_
      refine TC.cond rfl (fun h109 => ?_) (fun h109 => ?_)
      · replace hh := iteO_t h109 hh
        refine TC.seq ?_
        refine TC.region ?_
        refine TL.v rfl (OpVal.buildL rfl pl25 ze25 rfl) rfl rfl ?_
        refine TL.op rfl (OpOk.storeAll rfl sz25 rfl rfl rfl rfl rfl rfl ?_)
        refine TL.v rfl (OpVal.moveI (.inr rfl) rfl) rfl rfl ?_
        refine TL.nil ?_
        refine S.n ?_
        refine TC.ofSub (Sub.pre 1 rfl) ?_
        refine TC.ret ?_
        refine S.r ?_
        obtain rfl := Option.some.inj hh
        exact RetOk.mk' (rs := [.cell 4 25, .tmp 5]) [] rfl (.inl rfl) (RVs.agg ag25 sz25 rfl (i := 0) rfl rfl (RVs.tmp rfl RVs.nil)) (List.sublist_append_left _ _) ⟨none, 0, none, 0, none, 0, rfl, (RS.nilF _ Go.E.encI Go.E.encI_len), (RS.nilF _ Go.E.encI Go.E.encI_len), (RS.nilF _ encE encE_len), rfl⟩
      · replace hh := iteO_f h109 hh
        refine TC.skip ?_
        refine S.n ?_
        refine TC.seq ?_
        obtain ⟨v42, u42, hh⟩ := bnd_e hh
        obtain ⟨v44, u44, hh⟩ := bnd_e hh
        obtain ⟨v51, u51, hh⟩ := bnd_e hh
        obtain ⟨v53, u53, hh⟩ := bnd_e hh
        have u56a := grd_c hh
        replace hh := grd_t hh
        have u56b := grd_c hh
        replace hh := grd_t hh
        have u56c := grd_c hh
        replace hh := grd_t hh
        have u56d := grd_c hh
        replace hh := grd_t hh
        refine TC.draw [26, 27] (by kernel_rfl) ?_
        refine TA.takeP 0 rfl (by kernel_rfl) (by kernel_rfl) (by kernel_rfl) rfl (OpVal.moveI (.inl rfl) rfl) rfl rfl ?_
        refine TA.takeP 1 rfl (by kernel_rfl) (by kernel_rfl) (by kernel_rfl) rfl (OpVal.fieldLoc rfl fo25_1 rfl) rfl rfl ?_
        refine TA.take 2 rfl (by kernel_rfl) (by kernel_rfl) (by kernel_rfl) (by kernel_rfl) rfl (OpVal.loadLoc rfl ag22 rfl (i := 2) rfl rfl) rfl rfl ?_
        refine TA.takeP 3 rfl (by kernel_rfl) (by kernel_rfl) (by kernel_rfl) rfl (OpVal.fieldLoc rfl fo25_1 rfl) rfl rfl ?_
        refine TA.take 4 rfl (by kernel_rfl) (by kernel_rfl) (by kernel_rfl) (by kernel_rfl) rfl (OpVal.loadLoc rfl ag22 rfl (i := 1) rfl rfl) rfl rfl ?_
        refine TA.takeP 5 rfl (by kernel_rfl) (by kernel_rfl) (by kernel_rfl) rfl (OpVal.fieldLoc rfl fo25_0 rfl) rfl rfl ?_
        refine TA.take 6 rfl (by kernel_rfl) (by kernel_rfl) (by kernel_rfl) (by kernel_rfl) rfl (OpVal.loadLoc rfl ag3 rfl (i := 2) rfl rfl) rfl rfl ?_
        refine TA.takeP 10 rfl (by kernel_rfl) (by kernel_rfl) (by kernel_rfl) rfl (OpVal.fieldLoc rfl fo25_2 rfl) rfl rfl ?_
        refine TA.take 11 rfl (by kernel_rfl) (by kernel_rfl) (by kernel_rfl) (by kernel_rfl) rfl (OpVal.loadLoc rfl ag22 rfl (i := 2) rfl rfl) rfl rfl ?_
        refine TA.takeP 12 rfl (by kernel_rfl) (by kernel_rfl) (by kernel_rfl) rfl (OpVal.fieldLoc rfl fo25_2 rfl) rfl rfl ?_
        refine TA.take 13 rfl (by kernel_rfl) (by kernel_rfl) (by kernel_rfl) (by kernel_rfl) rfl (OpVal.loadLoc rfl ag22 rfl (i := 1) rfl rfl) rfl rfl ?_
        refine TA.takeP 14 rfl (by kernel_rfl) (by kernel_rfl) (by kernel_rfl) rfl (OpVal.fieldLoc rfl fo25_0 rfl) rfl rfl ?_
        refine TA.take 15 rfl (by kernel_rfl) (by kernel_rfl) (by kernel_rfl) (by kernel_rfl) rfl (OpVal.loadLoc rfl ag3 rfl (i := 2) rfl rfl) rfl rfl ?_
        refine TA.take 19 rfl (by kernel_rfl) (by kernel_rfl) (by kernel_rfl) (by kernel_rfl) rfl (OpVal.loadAll rfl ag25 sz25 rfl (i := 2) rfl rfl) rfl rfl ?_
        refine TA.take 20 rfl (by kernel_rfl) (by kernel_rfl) (by kernel_rfl) (by kernel_rfl) rfl (OpVal.loadAll rfl ag25 sz25 rfl (i := 1) rfl rfl) rfl rfl ?_
        refine TA.act 7 (by kernel_rfl) rfl rfl (OpOk.call (nfa_shift_con f1_0 u42) rfl rfl pf63 rfl rfl rfl rfl ?_)
        rintro _ _ _ hle141 ⟨a141_1, c141_1, rfl, rfl, rfl⟩
        refine ⟨(fun w h => sees_of (Store.le.refl _) (fun r hr => (List.mem_cons_of_mem _ hr)) w h), ?_⟩
        refine TA.sealS Go.E.encI_len (fun τ147 hle146 hr145 => ?_)
        replace f0_0 := f0_0.mono hle146
        replace f0_1 := f0_1.mono hle146
        replace f0_2 := f0_2.mono hle146
        replace f1_0 := f1_0.mono hle146
        replace f1_1 := f1_1.mono hle146
        replace f1_2 := f1_2.mono hle146
        have hr145b := hr145.rv.big
        have zf148 : ZOk _ (pkSl 1 Go.E.encI Go.E.encI_len) ([(x0.starts, (a0_0, c0_0)), (v42, (a141_1, c141_1))] : List (List Int × (pkSl 1 Go.E.encI Go.E.encI_len).P)) [x0.starts, v42] := ZOk.cons (f0_0) (ZOk.cons (hr145) (ZOk.nil _ _))
        refine TA.act 8 (by kernel_rfl) rfl rfl (OpOk.litZ zf148 rfl Try.underlying56 sz22 rfl ze22 rfl rfl rfl (by decide) (by decide) rfl (by decide) rfl (by decide) (fun a143 c144 => ⟨(fun w h => sees_of hle146 (fun r hr => (List.mem_cons_of_mem _ hr)) w h), ?_⟩))
        refine TA.sealZ zf148 (fun τ152 hle151 hr150 => ?_)
        replace f0_0 := f0_0.mono hle151
        replace f0_1 := f0_1.mono hle151
        replace f0_2 := f0_2.mono hle151
        replace f1_0 := f1_0.mono hle151
        replace f1_1 := f1_1.mono hle151
        replace f1_2 := f1_2.mono hle151
        replace hr145 := hr145.mono hle151
        replace zf148 := zf148.mono hle151
        have hr150b := hr150.big
        refine TA.act 9 (by kernel_rfl) rfl rfl (OpOk.call (concatI_con hr150 u44) rfl rfl pf66 rfl rfl rfl rfl ?_)
        rintro _ _ _ hle153 ⟨a153_1, c153_1, rfl, rfl, rfl⟩
        refine ⟨(fun w h => sees_of (hle146.trans hle151) (fun r hr => (List.mem_cons_of_mem _ hr)) w h), ?_⟩
        refine TA.act 16 (by kernel_rfl) rfl rfl (OpOk.call (nfa_shift_con f1_1 u51) rfl rfl pf63 rfl rfl rfl rfl ?_)
        rintro _ _ _ hle155 ⟨a155_1, c155_1, rfl, rfl, rfl⟩
        refine ⟨(fun w h => sees_of (hle146.trans hle151) (fun r hr => (List.mem_cons_of_mem _ (List.mem_cons_of_mem _ hr))) w h), ?_⟩
        refine TA.sealS Go.E.encI_len (fun τ161 hle160 hr159 => ?_)
        replace f0_0 := f0_0.mono hle160
        replace f0_1 := f0_1.mono hle160
        replace f0_2 := f0_2.mono hle160
        replace f1_0 := f1_0.mono hle160
        replace f1_1 := f1_1.mono hle160
        replace f1_2 := f1_2.mono hle160
        replace hr145 := hr145.mono hle160
        replace zf148 := zf148.mono hle160
        replace hr150 := hr150.mono hle160
        have hr159b := hr159.rv.big
        have zf162 : ZOk _ (pkSl 1 Go.E.encI Go.E.encI_len) ([(x0.ends, (a0_1, c0_1)), (v51, (a155_1, c155_1))] : List (List Int × (pkSl 1 Go.E.encI Go.E.encI_len).P)) [x0.ends, v51] := ZOk.cons (f0_1) (ZOk.cons (hr159) (ZOk.nil _ _))
        refine TA.act 17 (by kernel_rfl) rfl rfl (OpOk.litZ zf162 rfl Try.underlying56 sz22 rfl ze22 rfl rfl rfl (by decide) (by decide) rfl (by decide) rfl (by decide) (fun a157 c158 => ⟨(fun w h => sees_of ((hle146.trans hle151).trans hle160) (fun r hr => (List.mem_cons_of_mem _ (List.mem_cons_of_mem _ hr))) w h), ?_⟩))
        refine TA.sealZ zf162 (fun τ166 hle165 hr164 => ?_)
        replace f0_0 := f0_0.mono hle165
        replace f0_1 := f0_1.mono hle165
        replace f0_2 := f0_2.mono hle165
        replace f1_0 := f1_0.mono hle165
        replace f1_1 := f1_1.mono hle165
        replace f1_2 := f1_2.mono hle165
        replace hr145 := hr145.mono hle165
        replace zf148 := zf148.mono hle165
        replace hr150 := hr150.mono hle165
        replace hr159 := hr159.mono hle165
        replace zf162 := zf162.mono hle165
        have hr164b := hr164.big
        refine TA.act 18 (by kernel_rfl) rfl rfl (OpOk.call (concatI_con hr164 u53) rfl rfl pf66 rfl rfl rfl rfl ?_)
        rintro _ _ _ hle167 ⟨a167_1, c167_1, rfl, rfl, rfl⟩
        refine ⟨(fun w h => sees_of (((hle146.trans hle151).trans hle160).trans hle165) (fun r hr => (List.mem_cons_of_mem _ (List.mem_cons_of_mem _ hr))) w h), ?_⟩
        refine TA.act 21 (by kernel_rfl) rfl rfl (OpOk.callM (both_con _ x0 x1 ⟨a0_0, c0_0, a0_1, c0_1, a0_2, c0_2⟩ ⟨a1_0, c1_0, a1_1, c1_1, a1_2, c1_2⟩ ⟨f0_0, f0_1, f0_2, fun x _ => x.set.isOk⟩ ⟨f1_0, f1_1, f1_2, fun x _ => x.set.isOk⟩ u56a u56b u56c u56d) rfl rfl pf62 rfl rfl rfl (fun b169 a169 c169 => ⟨(fun w h => sees_of (((hle146.trans hle151).trans hle160).trans hle165) (fun r hr => (List.mem_cons_of_mem _ (List.mem_cons_of_mem _ (List.mem_cons_of_mem _ (List.mem_cons_of_mem _ hr))))) w h), ?_⟩))
        refine TA.takeP 22 rfl (by kernel_rfl) (by kernel_rfl) (by kernel_rfl) rfl (OpVal.nilCheckLoc rfl rfl) rfl rfl ?_
        refine TA.takeP 23 rfl (by kernel_rfl) (by kernel_rfl) (by kernel_rfl) rfl (OpVal.fieldLoc rfl fo74_0 rfl) rfl rfl ?_
        refine TA.act 24 (by kernel_rfl) rfl rfl (OpVal.ok (OpVal.loadLoc rfl ag23 rfl (i := 0) rfl rfl) rfl rfl ⟨(fun w h => sees_of (((hle146.trans hle151).trans hle160).trans hle165) (fun r hr => (List.mem_cons_of_mem _ (List.mem_cons_of_mem _ (List.mem_cons_of_mem _ (List.mem_cons_of_mem _ hr))))) w h), ?_⟩)
        refine TA.takeP 25 rfl (by kernel_rfl) (by kernel_rfl) (by kernel_rfl) rfl (OpVal.buildL rfl pl25 ze25 rfl) rfl rfl ?_
        refine TA.front 4 rfl rfl ?_
        refine TA.last 26 (by kernel_rfl) rfl rfl rfl (OpOk.storeAll rfl sz25 rfl rfl rfl rfl rfl rfl ?_)
        refine TZ.v 27 (by kernel_rfl) rfl rfl rfl (OpVal.moveI (.inr rfl) rfl) rfl rfl ?_
        refine TZ.done (by kernel_rfl) ?_
        refine S.n ?_
        refine TC.front 4 rfl rfl ?_
        refine TC.sealS Go.E.encI_len (fun τ174 hle173 hr172 => ?_)
        replace f0_0 := f0_0.mono hle173
        replace f0_1 := f0_1.mono hle173
        replace f0_2 := f0_2.mono hle173
        replace f1_0 := f1_0.mono hle173
        replace f1_1 := f1_1.mono hle173
        replace f1_2 := f1_2.mono hle173
        replace hr145 := hr145.mono hle173
        replace zf148 := zf148.mono hle173
        replace hr150 := hr150.mono hle173
        replace hr159 := hr159.mono hle173
        replace zf162 := zf162.mono hle173
        replace hr164 := hr164.mono hle173
        have hr172b := hr172.rv.big
        refine TC.front 3 rfl rfl ?_
        refine TC.sealS Go.E.encI_len (fun τ177 hle176 hr175 => ?_)
        replace f0_0 := f0_0.mono hle176
        replace f0_1 := f0_1.mono hle176
        replace f0_2 := f0_2.mono hle176
        replace f1_0 := f1_0.mono hle176
        replace f1_1 := f1_1.mono hle176
        replace f1_2 := f1_2.mono hle176
        replace hr145 := hr145.mono hle176
        replace zf148 := zf148.mono hle176
        replace hr150 := hr150.mono hle176
        replace hr159 := hr159.mono hle176
        replace zf162 := zf162.mono hle176
        replace hr164 := hr164.mono hle176
        replace hr172 := hr172.mono hle176
        have hr175b := hr175.rv.big
        refine TC.front 2 rfl rfl ?_
        refine TC.sealS encE_len (fun τ180 hle179 hr178 => ?_)
        replace f0_0 := f0_0.mono hle179
        replace f0_1 := f0_1.mono hle179
        replace f0_2 := f0_2.mono hle179
        replace f1_0 := f1_0.mono hle179
        replace f1_1 := f1_1.mono hle179
        replace f1_2 := f1_2.mono hle179
        replace hr145 := hr145.mono hle179
        replace zf148 := zf148.mono hle179
        replace hr150 := hr150.mono hle179
        replace hr159 := hr159.mono hle179
        replace zf162 := zf162.mono hle179
        replace hr164 := hr164.mono hle179
        replace hr172 := hr172.mono hle179
        replace hr175 := hr175.mono hle179
        have hr178b := hr178.rv.big
        refine TC.ofSub (Sub.pre 1 rfl) ?_
        refine TC.ret ?_
        obtain rfl := Option.some.inj hh
        exact RetOk.mk' (rs := [.cell 4 25, .tmp 5]) [] rfl (.inl rfl) (RVs.agg ag25 sz25 rfl (i := 0) rfl rfl (RVs.tmp rfl RVs.nil)) (List.sublist_append_left _ _) ⟨a153_1, c153_1, a167_1, c167_1, a169, c169, rfl, hr172, hr175, hr178, rfl⟩

end Go.Proofs.Ytcidppnlhhkhhaa
end

/- Dec12 -/
section
/- copy into a row of one's own. Plain lemmas over any program; no condition. -/
set_option linter.unusedVariables false
set_option linter.unusedSimpArgs false
namespace Go.E
open Go

/-- A slice that can be read, whatever the world, as long as that is as it should be. -/
def SrcC {α : Type} (σ : Store) (H : List Res) (size : Nat) (enc : α → List Value) (s : Value) (ls : List α) : Prop :=
  ∃ a c, s = .slice a ls.length c ∧ ∀ (P : Program) (w : World), Sees σ H w → ∀ n, n ≤ ls.length → (Builtin.firstCells size n s).run P w = .ok ((ls.take n).flatMap enc).toArray w
theorem flat_take {α : Type} {enc : α → List Value} {size : Nat} (hl : ∀ x, (enc x).length = size) (l : List α) (n : Nat) : (l.take n).flatMap enc = (l.flatMap enc).take (n * size) := take_flat hl l n
theorem SrcC.sealed {α : Type} {σ : Store} {H : List Res} {size : Nat} {enc : α → List Value} {s : Value} {ls : List α} (h : RS σ size enc s ls) (hl : ∀ x, (enc x).length = size) : SrcC σ H size enc s ls := by
  obtain ⟨a, c, rfl, hn, hc⟩ := h.rv.sl
  refine ⟨a, c, rfl, fun P w hw n hle => ?_⟩
  cases a with
  | none =>
    obtain ⟨h1, _⟩ := hn rfl
    have : ls = [] := List.eq_nil_of_length_eq_zero h1
    subst this
    simp [Builtin.firstCells]
  | some ad =>
    refine run_firstCells_some w size n ad _ _ _ (by rw [flatMap_len hl, List.length_take]; congr 1; omega) fun j v hj => ?_
    rw [flat_take hl, List.getElem?_take] at hj
    split at hj
    · exact hw.cell (h.rv.cell ad _ c rfl j v hj)
    · cases hj
/-- The beginning of a row of one's own. -/
theorem SrcC.self {α : Type} {σ : Store} {F : List Res} {E size j : Nat} {enc : α → List Value} {a : Option Addr} {c : Nat} {l : List α} (hl : ∀ x, (enc x).length = size) (hj : j ≤ l.length) : SrcC σ (Res.rowS E size enc (.slice a l.length c) l :: F) size enc (.slice a j c) (l.take j) := by
  have hlen : (l.take j).length = j := by rw [List.length_take]; omega
  refine ⟨a, c, by rw [hlen], fun P w hw n hle => ?_⟩
  obtain ⟨hown, hone, _⟩ := hw.2 _ (List.mem_cons_self ..)
  rw [List.take_take, Nat.min_eq_left (by omega)]
  rcases id hown.2 with ⟨hv, h1⟩ | ⟨g, cap, cur, hv, _⟩
  · injection hv with e1 e2 e3
    subst e1
    have : l = [] := List.eq_nil_of_length_eq_zero h1
    subst this
    simp [Builtin.firstCells]
  · cases hv
    refine run_firstCells_some w size n _ _ _ _ (by rw [flatMap_len hl, List.length_take]; congr 1; omega) fun j' v hj' => ?_
    rw [flat_take hl, List.getElem?_take] at hj'
    split at hj'
    · exact hown.cells (g := g) rfl j' v hj'
    · cases hj'
theorem splice_mid {α : Type} {enc : α → List Value} {size : Nat} (hl : ∀ x, (enc x).length = size) (l m : List α) (k : Nat) (hk : k + m.length ≤ l.length) :
    splice (l.flatMap enc) (k * size) (m.flatMap enc) = (l.take k ++ (m ++ l.drop (k + m.length))).flatMap enc := by
  rw [List.flatMap_append, List.flatMap_append, splice, flat_take hl l k, flatMap_len hl m, ← Nat.add_mul]
  have h1 : l.flatMap enc = (l.take (k + m.length)).flatMap enc ++ (l.drop (k + m.length)).flatMap enc := by rw [← List.flatMap_append, List.take_append_drop]
  have h2 : (l.flatMap enc).drop ((k + m.length) * size) = (l.drop (k + m.length)).flatMap enc := by
    rw [h1, List.drop_append_of_le_length (by rw [flatMap_len hl, List.length_take, Nat.min_eq_left hk]; exact Nat.le_refl _), List.drop_of_length_le (by rw [flatMap_len hl, List.length_take, Nat.min_eq_left hk]; exact Nat.le_refl _), List.nil_append]
  rw [h2]; try rw [List.append_assoc]
/-- copy into a row of one's own, from some place on. -/
theorem OpOk.copyV {X : Ctx} {e : Env} {σ : Store} {F : List Res} {o : Oper} {x y : Operand} {K : Env → Store → List Res → Prop} {α : Type} {T ty E size k m' d : Nat} {enc : α → List Value} {v u s : Value} {l ls : List α}
    (ho : o.op = .call { callee := .builtin .copy, args := #[x, y], argTypes := #[T, ty] }) (ht : X.P.underlying T = some (.slice E)) (hs : szOf X.P E = some size) (hd : o.dst = some d) (hn : Nat.blt d X.n = true)
    (hx : ev e x = u) (hv : VwOk v u size k m') (hm : l.length - k = m') (hk : k ≤ l.length) (hy : ev e y = s) (hsrc : SrcC σ (Res.rowS E size enc v l :: F) size enc s ls) (hl : ∀ x, (enc x).length = size) (h0 : 0 < size) (h1 : ∀ x, ∀ u ∈ enc x, u.oneCell' = true)
    (kk : K (upd e d (.int .i64 ((min ls.length (l.length - k) : Nat) : Int))) σ (Res.rowS E size enc v (l.take k ++ (ls.take (min ls.length (l.length - k)) ++ l.drop (k + min ls.length (l.length - k)))) :: F)) : OpOk X o e σ (Res.rowS E size enc v l :: F) K := by
  subst hm
  intro u0 C0 τ0 w a hw ha K' Q hK
  obtain ⟨hown, hone, hbg⟩ := hw.holds _ (List.mem_cons_self ..)
  have hsees : Sees σ (Res.rowS E size enc v l :: F) w := ⟨hw.fit, hw.holds⟩
  obtain ⟨as', cs', rfl, hfirst⟩ := hsrc
  obtain ⟨a', c', rfl, hnn, hc⟩ := hv.sl
  have hmin : ∀ p q : Nat, Nat.min p q = min p q := fun _ _ => rfl
  generalize hN : min ls.length (l.length - k) = N at kk
  have hN1 : N ≤ ls.length := by omega
  have hN2 : N ≤ l.length - k := by omega
  have hlenN : (ls.take N).length = N := by rw [List.length_take]; omega
  have hlen : (l.take k ++ (ls.take N ++ l.drop (k + N))).length = l.length := by simp only [List.length_append, List.length_take, List.length_drop]; omega
  have hf := hfirst X.P w hsees N hN1
  have hsz := run_sizeOf (P := X.P) hs
  have hgo : goInt N = .int .i64 ((N : Nat) : Int) := rfl
  cases a' with
  | none =>
    obtain ⟨h2, _⟩ := hnn rfl
    have hN0 : N = 0 := by omega
    subst hN0
    have e1 : l.take k ++ (ls.take 0 ++ l.drop (k + 0)) = l := by rw [List.take_zero, List.nil_append, Nat.add_zero, List.take_append_drop]
    rw [e1] at kk
    have hrun : (Builtin.copy_ #[T, ty] o.type #[.slice none (l.length - k) c', .slice as' ls.length cs']).run X.P w = .ok (.int .i64 ((0 : Nat) : Int)) w := by
      simp [Builtin.copy_, run_underlying ht, Builtin.lenOf, hsz, hmin, hN, hf, goInt]
    refine Oper.wp_of_run (v := .int .i64 ((0 : Nat) : Int)) (w' := w) ?_ (hK _ _ _ _ _ kk hw (put_dst ha hd hn _))
    rw [ha.eval']
    simp [execOp, ho, resolve, invoke, builtin, hx, hy, hrun]
  | some ad =>
    by_cases hj : 0 < l.length - k
    · have hel := hv.el 0 hj
      rcases id hown.2 with ⟨hvn, hmn⟩ | ⟨g, cap, cur, rfl, _⟩
      · omega
      · simp only [elem, Nat.zero_mul, Nat.add_zero] at hel
        have had : ad = ⟨g, k * size, none⟩ := by
          have h3 : (ad.add 0) = (⟨g, 0, none⟩ : Addr).add (k * size) := by injection hel with h; injection h
          rw [loc_add] at h3
          simpa [Addr.add] using h3
        subst had
        obtain ⟨w', hst, hown', hgr, hdr⟩ := World.ownsRow.spliced X.P hown (k := k * size) (vs := (ls.take N).flatMap enc) (by rw [flatMap_len hl, flatMap_len hl, hlenN, ← Nat.add_mul]; exact Nat.mul_le_mul_right _ (by omega)) (fun u hu => by
          obtain ⟨q, _, hq⟩ := List.mem_flatMap.1 hu
          exact h1 q u hq)
        have hsp := splice_mid hl l (ls.take N) k (by rw [hlenN]; omega)
        rw [hlenN] at hsp
        rw [hsp] at hown'
        have hrun : (Builtin.copy_ #[T, ty] o.type #[.slice (some ⟨g, k * size, none⟩) (l.length - k) c', .slice as' ls.length cs']).run X.P w = .ok (.int .i64 ((N : Nat) : Int)) w' := by
          simp [Builtin.copy_, run_underlying ht, Builtin.lenOf, hsz, hmin, hN, hf, hst, goInt]
        have hR : Reach u0 C0 τ0 σ w' (Res.rowS E size enc (.slice (some ⟨g, 0, none⟩) l.length cap) (l.take k ++ (ls.take N ++ l.drop (k + N))) :: F) := by
          refine hw.turn1 (some g) (some g) rfl rfl hgr.os hgr.tape hgr.output hgr.size hdr (fun q hq hne => hgr.block q hq (fun hx => hne (by cases hx; rfl))) ?_ (fun q hq => .inl hq)
          show _ ∧ _ ∧ _
          rw [hlen]
          refine ⟨hown', fun u hu => ?_, hbg⟩
          obtain ⟨q, _, hq⟩ := List.mem_flatMap.1 hu
          exact h1 q u hq
        refine Oper.wp_of_run (v := .int .i64 ((N : Nat) : Int)) (w' := w') ?_ (hK _ _ _ _ _ kk hR (put_dst ha hd hn _))
        rw [ha.eval']
        simp [execOp, ho, resolve, invoke, builtin, hx, hy, hrun]
    · have hN0 : N = 0 := by omega
      subst hN0
      have e1 : l.take k ++ (ls.take 0 ++ l.drop (k + 0)) = l := by rw [List.take_zero, List.nil_append, Nat.add_zero, List.take_append_drop]
      rw [e1] at kk
      have hrun : (Builtin.copy_ #[T, ty] o.type #[.slice (some ad) (l.length - k) c', .slice as' ls.length cs']).run X.P w = .ok (.int .i64 ((0 : Nat) : Int)) w := by
        simp [Builtin.copy_, run_underlying ht, Builtin.lenOf, hsz, hmin, hN, hf, goInt, storeCells]
      refine Oper.wp_of_run (v := .int .i64 ((0 : Nat) : Int)) (w' := w) ?_ (hK _ _ _ _ _ kk hw (put_dst ha hd hn _))
      rw [ha.eval']
      simp [execOp, ho, resolve, invoke, builtin, hx, hy, hrun]
theorem IsSl.cap {a : Option Addr} {m n c : Nat} (h : IsSl (.slice a m c) n) : n = m ∧ m ≤ c := by
  obtain ⟨a', c', e, _, h2⟩ := h
  injection e with e1 e2 e3
  subst e2; subst e3
  exact ⟨rfl, h2⟩
theorem OpVal.addM {P : Program} {n : Nat} {e : Env} {σ : Store} {H : List Res} {o : Oper} {x y : Operand} {T T' : TypeId} {a b : Nat} (ho : o.op = .binOp .add T x y T') (hx : ev e x = .int .i64 (a : Nat)) (hy : ev e y = .int .i64 (b : Nat)) (h : a + b ≤ 9223372036854775807) : OpVal P n o e σ H (.int .i64 ((a + b : Nat) : Int)) := by
  have := OpVal.addW (P := P) (n := n) (σ := σ) (H := H) ho hx hy
  rw [wrap64_of (by omega) (by omega)] at this
  rw [Int.natCast_add]; exact this
/-- The beginning of a slice. -/
theorem OpVal.preV {P : Program} {n : Nat} {e : Env} {σ : Store} {H : List Res} {o : Oper} {x z : Operand} {T E : TypeId} {kk : IntKind} {a : Option Addr} {m c j size : Nat} (ho : o.op = .slice T x none (some z) none) (hT : P.underlying T = some (.slice E)) (hs : szOf P E = some size)
    (hx : ev e x = .slice a m c) (hz : ev e z = .int kk (j : Nat)) (hj : j ≤ c) : OpVal P n o e σ H (.slice a j c) := fun w _ => by
  have hsz := run_sizeOf (P := P) hs
  have hadd : a.map (·.add 0) = a := by cases a <;> simp [Addr.add]
  have hrun : (Instr.slice T (.slice a m c) none (some (.int kk j)) none).run P w = .ok (.slice a j c) w := by
    simp [Instr.slice, Instr.sliceBounds, Instr.sliceBound, asIntOf, run_underlying hT, hsz, hadd]
    omega
  simp [execOp, ho, hx, hz, Instr.sliceAt, run_underlying hT, hrun]

section
variable {α : Type} {σ : Store} {k : Pk α} {z w : List (α × k.P)} {l m : List α}
theorem ZOk.take (h : ZOk σ k z l) (n : Nat) : ZOk σ k (z.take n) (l.take n) := ⟨by rw [List.map_take, h.eq], fun u hu => h.ok u (List.mem_of_mem_take hu)⟩
theorem ZOk.drop (h : ZOk σ k z l) (n : Nat) : ZOk σ k (z.drop n) (l.drop n) := ⟨by rw [List.map_drop, h.eq], fun u hu => h.ok u (List.mem_of_mem_drop hu)⟩
theorem OpOk.copyZ {X : Ctx} {e : Env} {F : List Res} {o : Oper} {x y : Operand} {K : Env → Store → List Res → Prop} {T ty E size p m' d : Nat} {v u s : Value} (hZ : ZOk σ k z l) (hW : ZOk σ k w m)
    (ho : o.op = .call { callee := .builtin .copy, args := #[x, y], argTypes := #[T, ty] }) (ht : X.P.underlying T = some (.slice E)) (hs : szOf X.P E = some size) (hks : k.size = size) (hd : o.dst = some d) (hn : Nat.blt d X.n = true)
    (hx : ev e x = u) (hv : VwOk v u size p m') (hm : l.length - p = m') (hk : p ≤ l.length) (hy : ev e y = s) (hsrc : SrcC σ (Res.rowS E k.size k.en v z :: F) k.size k.en s w) (h0 : 0 < size)
    (kk : ZOk σ k (z.take p ++ (w.take (min m.length (l.length - p)) ++ z.drop (p + min m.length (l.length - p)))) (l.take p ++ (m.take (min m.length (l.length - p)) ++ l.drop (p + min m.length (l.length - p)))) →
      K (upd e d (.int .i64 ((min m.length (l.length - p) : Nat) : Int))) σ (Res.rowS E k.size k.en v (z.take p ++ (w.take (min m.length (l.length - p)) ++ z.drop (p + min m.length (l.length - p)))) :: F)) : OpOk X o e σ (Res.rowS E k.size k.en v z :: F) K := by
  subst hks
  refine OpOk.copyV ho ht hs hd hn hx hv (by rw [hZ.length]; exact hm) (by rw [hZ.length]; exact hk) hy hsrc k.en_len h0 k.en_one ?_
  rw [hZ.length, hW.length]
  exact kk ((hZ.take _).app ((hW.take _).app (hZ.drop _)))
/-- The lengths by their own names. -/
theorem OpOk.copyZ2 {X : Ctx} {e : Env} {F : List Res} {o : Oper} {x y : Operand} {K : Env → Store → List Res → Prop} {T ty E size p m' d N q : Nat} {v u s : Value} (hZ : ZOk σ k z l) (hW : ZOk σ k w m)
    (ho : o.op = .call { callee := .builtin .copy, args := #[x, y], argTypes := #[T, ty] }) (ht : X.P.underlying T = some (.slice E)) (hs : szOf X.P E = some size) (hks : k.size = size) (hd : o.dst = some d) (hn : Nat.blt d X.n = true)
    (hx : ev e x = u) (hv : VwOk v u size p m') (hq : l.length = q) (hm : q - p = m') (hk : p ≤ q) (hy : ev e y = s) (hsrc : SrcC σ (Res.rowS E k.size k.en v z :: F) k.size k.en s w) (h0 : 0 < size) (hN : min m.length (q - p) = N)
    (kk : ZOk σ k (z.take p ++ (w.take N ++ z.drop (p + N))) (l.take p ++ (m.take N ++ l.drop (p + N))) →
      K (upd e d (.int .i64 ((N : Nat) : Int))) σ (Res.rowS E k.size k.en v (z.take p ++ (w.take N ++ z.drop (p + N))) :: F)) : OpOk X o e σ (Res.rowS E k.size k.en v z :: F) K := by
  subst hq; subst hN
  exact OpOk.copyZ hZ hW ho ht hs hks hd hn hx hv hm hk hy hsrc h0 kk
theorem SrcC.selfZ {F : List Res} {E j q c : Nat} {a : Option Addr} (hZ : ZOk σ k z l) (hj : j ≤ l.length) (hq : l.length = q) : SrcC σ (Res.rowS E k.size k.en (.slice a q c) z :: F) k.size k.en (.slice a j c) (z.take j) := by
  subst hq
  have := SrcC.self (σ := σ) (F := F) (E := E) (a := a) (c := c) (l := z) (j := j) k.en_len (by rw [hZ.length]; exact hj)
  rw [hZ.length] at this; exact this
end
end Go.E
end

/- N5 -/
section
/- Decompiled: a row again and again. -/
set_option linter.unusedVariables false
set_option linter.unusedSimpArgs false
namespace Go.Proofs.Ytcidppnlhhkhhaa
open Go Go.E
set_option maxRecDepth 100000
private theorem by25 : Go.E.byOf Try.prog 25 = some 80 := by kernel_rfl
private theorem pf88 : Go.E.plainF Try.prog 88 = true := by kernel_rfl
private theorem pf94 : Go.E.plainF Try.prog 94 = true := by kernel_rfl

noncomputable def math_bits_Mul64 (x0 : Nat) (x1 : Nat) : Option (Nat × Nat) :=
  some ((u64add (u64add (u64mul (u64shr x0 32) (u64shr x1 32)) (u64shr (u64add (u64mul (u64shr x0 32) (u64and x1 4294967295)) (u64shr (u64mul (u64and x0 4294967295) (u64and x1 4294967295)) 32)) 32)) (u64shr (u64add (u64and (u64add (u64mul (u64shr x0 32) (u64and x1 4294967295)) (u64shr (u64mul (u64and x0 4294967295) (u64and x1 4294967295)) 32)) 4294967295) (u64mul (u64and x0 4294967295) (u64shr x1 32))) 32)), (u64mul x0 x1))
theorem math_bits_Mul64_con {σ : Store} {x0 : Nat} {x1 : Nat}  {r : Nat × Nat} (hh : math_bits_Mul64 x0 x1 = some r) :
    Con Try.prog 94 #[.int .u64 ((x0 : Nat) : Int), .int .u64 ((x1 : Nat) : Int)] σ [] (PureP (.tuple #[.int .u64 ((r.1 : Nat) : Int), .int .u64 ((r.2 : Nat) : Int)]) σ) := by
  dsimp only [math_bits_Mul64] at hh
  refine Con.mk (n := 51) Try.func94 rfl rfl rfl (fun w0 => ?_)
  refine TC.seq ?_
  refine TC.region ?_
  refine TL.v rfl (OpVal.moveI (.inr rfl) rfl) rfl rfl ?_
  refine TL.v rfl (OpVal.moveI (.inr rfl) rfl) rfl rfl ?_
  refine TL.nil ?_
  refine S.n ?_
  refine TC.seq ?_
  refine TC.region ?_
  refine TL.v rfl (OpVal.moveI (.inl rfl) rfl) rfl rfl ?_
  refine TL.v rfl (OpVal.andU (b := 4294967295) rfl rfl rfl) rfl rfl ?_
  refine TL.v rfl (OpVal.moveI (.inr rfl) rfl) rfl rfl ?_
  refine TL.nil ?_
  refine S.n ?_
  refine TC.seq ?_
  refine TC.region ?_
  refine TL.v rfl (OpVal.moveI (.inl rfl) rfl) rfl rfl ?_
  refine TL.v rfl (OpVal.shrU (b := 32) rfl rfl rfl) rfl rfl ?_
  refine TL.v rfl (OpVal.moveI (.inr rfl) rfl) rfl rfl ?_
  refine TL.nil ?_
  refine S.n ?_
  refine TC.seq ?_
  refine TC.region ?_
  refine TL.v rfl (OpVal.moveI (.inl rfl) rfl) rfl rfl ?_
  refine TL.v rfl (OpVal.andU (b := 4294967295) rfl rfl rfl) rfl rfl ?_
  refine TL.v rfl (OpVal.moveI (.inr rfl) rfl) rfl rfl ?_
  refine TL.nil ?_
  refine S.n ?_
  refine TC.seq ?_
  refine TC.region ?_
  refine TL.v rfl (OpVal.moveI (.inl rfl) rfl) rfl rfl ?_
  refine TL.v rfl (OpVal.shrU (b := 32) rfl rfl rfl) rfl rfl ?_
  refine TL.v rfl (OpVal.moveI (.inr rfl) rfl) rfl rfl ?_
  refine TL.nil ?_
  refine S.n ?_
  refine TC.seq ?_
  refine TC.region ?_
  refine TL.v rfl (OpVal.moveI (.inl rfl) rfl) rfl rfl ?_
  refine TL.v rfl (OpVal.moveI (.inl rfl) rfl) rfl rfl ?_
  refine TL.v rfl (OpVal.mulU rfl rfl rfl) rfl rfl ?_
  refine TL.v rfl (OpVal.moveI (.inr rfl) rfl) rfl rfl ?_
  refine TL.nil ?_
  refine S.n ?_
  refine TC.seq ?_
  refine TC.region ?_
  refine TL.v rfl (OpVal.moveI (.inl rfl) rfl) rfl rfl ?_
  refine TL.v rfl (OpVal.moveI (.inl rfl) rfl) rfl rfl ?_
  refine TL.v rfl (OpVal.mulU rfl rfl rfl) rfl rfl ?_
  refine TL.v rfl (OpVal.moveI (.inl rfl) rfl) rfl rfl ?_
  refine TL.v rfl (OpVal.shrU (b := 32) rfl rfl rfl) rfl rfl ?_
  refine TL.v rfl (OpVal.addU rfl rfl rfl) rfl rfl ?_
  refine TL.v rfl (OpVal.moveI (.inr rfl) rfl) rfl rfl ?_
  refine TL.nil ?_
  refine S.n ?_
  refine TC.seq ?_
  refine TC.region ?_
  refine TL.v rfl (OpVal.moveI (.inl rfl) rfl) rfl rfl ?_
  refine TL.v rfl (OpVal.andU (b := 4294967295) rfl rfl rfl) rfl rfl ?_
  refine TL.v rfl (OpVal.moveI (.inr rfl) rfl) rfl rfl ?_
  refine TL.nil ?_
  refine S.n ?_
  refine TC.seq ?_
  refine TC.region ?_
  refine TL.v rfl (OpVal.moveI (.inl rfl) rfl) rfl rfl ?_
  refine TL.v rfl (OpVal.shrU (b := 32) rfl rfl rfl) rfl rfl ?_
  refine TL.v rfl (OpVal.moveI (.inr rfl) rfl) rfl rfl ?_
  refine TL.nil ?_
  refine S.n ?_
  refine TC.seq ?_
  refine TC.region ?_
  refine TL.v rfl (OpVal.moveI (.inl rfl) rfl) rfl rfl ?_
  refine TL.v rfl (OpVal.moveI (.inl rfl) rfl) rfl rfl ?_
  refine TL.v rfl (OpVal.moveI (.inl rfl) rfl) rfl rfl ?_
  refine TL.v rfl (OpVal.mulU rfl rfl rfl) rfl rfl ?_
  refine TL.v rfl (OpVal.addU rfl rfl rfl) rfl rfl ?_
  refine TL.v rfl (OpVal.moveI (.inr rfl) rfl) rfl rfl ?_
  refine TL.nil ?_
  refine S.n ?_
  refine TC.seq ?_
  refine TC.region ?_
  refine TL.v rfl (OpVal.moveI (.inl rfl) rfl) rfl rfl ?_
  refine TL.v rfl (OpVal.moveI (.inl rfl) rfl) rfl rfl ?_
  refine TL.v rfl (OpVal.mulU rfl rfl rfl) rfl rfl ?_
  refine TL.v rfl (OpVal.moveI (.inl rfl) rfl) rfl rfl ?_
  refine TL.v rfl (OpVal.addU rfl rfl rfl) rfl rfl ?_
  refine TL.v rfl (OpVal.moveI (.inl rfl) rfl) rfl rfl ?_
  refine TL.v rfl (OpVal.shrU (b := 32) rfl rfl rfl) rfl rfl ?_
  refine TL.v rfl (OpVal.addU rfl rfl rfl) rfl rfl ?_
  refine TL.v rfl (OpVal.moveI (.inr rfl) rfl) rfl rfl ?_
  refine TL.nil ?_
  refine S.n ?_
  refine TC.seq ?_
  refine TC.region ?_
  refine TL.v rfl (OpVal.moveI (.inl rfl) rfl) rfl rfl ?_
  refine TL.v rfl (OpVal.moveI (.inl rfl) rfl) rfl rfl ?_
  refine TL.v rfl (OpVal.mulU rfl rfl rfl) rfl rfl ?_
  refine TL.v rfl (OpVal.moveI (.inr rfl) rfl) rfl rfl ?_
  refine TL.nil ?_
  refine S.n ?_
  refine TC.ret ?_
  obtain rfl := Option.some.inj hh
  exact RetOk.mk' (rs := [.tmp 4, .tmp 5]) [] rfl (.inl rfl) (RVs.tmp rfl (RVs.tmp rfl RVs.nil)) (List.sublist_append_left _ _) ⟨rfl, rfl, rfl⟩

noncomputable def math_bits_Mul (x0 : Nat) (x1 : Nat) : Option (Nat × Nat) :=
  bnd (math_bits_Mul64 x0 x1) (fun v21 => some (v21.1, v21.2))
theorem math_bits_Mul_con {σ : Store} {x0 : Nat} {x1 : Nat}  {r : Nat × Nat} (hh : math_bits_Mul x0 x1 = some r) :
    Con Try.prog 88 #[.int .u64 ((x0 : Nat) : Int), .int .u64 ((x1 : Nat) : Int)] σ [] (PureP (.tuple #[.int .u64 ((r.1 : Nat) : Int), .int .u64 ((r.2 : Nat) : Int)]) σ) := by
  dsimp only [math_bits_Mul] at hh
  refine Con.mk (n := 30) Try.func88 rfl rfl rfl (fun w0 => ?_)
  refine TC.seq ?_
  refine TC.region ?_
  refine TL.v rfl (OpVal.moveI (.inr rfl) rfl) rfl rfl ?_
  refine TL.v rfl (OpVal.moveI (.inr rfl) rfl) rfl rfl ?_
  refine TL.nil ?_
  refine S.n ?_
  refine TC.seq ?_
  refine TC.cond rfl (fun h => Bool.noConfusion h) (fun _ => ?_)
  refine TC.skip ?_
  refine S.n ?_
  refine TC.seq ?_
  refine TC.region ?_
  refine TL.v rfl (OpVal.moveI (.inl rfl) rfl) rfl rfl ?_
  refine TL.v rfl (OpVal.moveI (.inl rfl) rfl) rfl rfl ?_
  obtain ⟨v21, u21, hh⟩ := bnd_e hh
  refine TL.op rfl (OpOk.callP (math_bits_Mul64_con u21) rfl rfl pf94 rfl rfl rfl ?_)
  refine TL.v rfl (OpVal.moveT (.inl rfl) rfl) rfl rfl ?_
  refine TL.v rfl (OpVal.extract rfl rfl rfl) rfl rfl ?_
  refine TL.v rfl (OpVal.extract rfl rfl rfl) rfl rfl ?_
  refine TL.v rfl (OpVal.moveI (.inr rfl) rfl) rfl rfl ?_
  refine TL.v rfl (OpVal.moveI (.inr rfl) rfl) rfl rfl ?_
  refine TL.nil ?_
  refine S.n ?_
  refine TC.seq ?_
  refine TC.region ?_
  refine TL.v rfl (OpVal.moveI (.inl rfl) rfl) rfl rfl ?_
  refine TL.v rfl (OpVal.moveI (.inl rfl) rfl) rfl rfl ?_
  refine TL.v rfl (OpVal.moveI (.inr rfl) rfl) rfl rfl ?_
  refine TL.v rfl (OpVal.moveI (.inr rfl) rfl) rfl rfl ?_
  refine TL.nil ?_
  refine S.n ?_
  refine TC.ret ?_
  obtain rfl := Option.some.inj hh
  exact RetOk.mk' (rs := [.tmp 4, .tmp 5]) [] rfl (.inl rfl) (RVs.tmp rfl (RVs.tmp rfl RVs.nil)) (List.sublist_append_left _ _) ⟨rfl, rfl, rfl⟩

noncomputable def repeatN_b1 (v11 : Nat × Nat) (l124 : List Nfa) (k128 : Nat) : Option (((List Nfa) × Nat) ⊕ ((List Nfa))) :=
  iteO (decide (((k128 : Nat) : Int) < (((List.replicate ((IntKind.i64.wrap ((v11.2 : Nat) : Int)).toNat) pkNfa.d).length : Nat) : Int))) (grd (k128 ≤ (List.replicate ((IntKind.i64.wrap ((v11.2 : Nat) : Int)).toNat) pkNfa.d).length) (grd (k128 ≤ (List.replicate ((IntKind.i64.wrap ((v11.2 : Nat) : Int)).toNat) pkNfa.d).length) (grd (k128 + (min k128 ((List.replicate ((IntKind.i64.wrap ((v11.2 : Nat) : Int)).toNat) pkNfa.d).length - k128)) ≤ 9223372036854775807) (nxt ((l124.take k128 ++ ((l124.take k128).take (min k128 ((List.replicate ((IntKind.i64.wrap ((v11.2 : Nat) : Int)).toNat) pkNfa.d).length - k128)) ++ l124.drop (k128 + (min k128 ((List.replicate ((IntKind.i64.wrap ((v11.2 : Nat) : Int)).toNat) pkNfa.d).length - k128))))), (k128 + (min k128 ((List.replicate ((IntKind.i64.wrap ((v11.2 : Nat) : Int)).toNat) pkNfa.d).length - k128)))))))) (fin (some l124))
noncomputable def repeatN (x0 : List Nfa) (x1 : Int) : Option ((List Nfa)) :=
  iteO (decide (x1 < 0)) (none) (bnd (math_bits_Mul (u64of ((x0.length : Nat) : Int)) (u64of x1)) (fun v11 => iteO (decide (0 < v11.1)) (none) (iteO (decide (9223372036854775807 < v11.2)) (none) (grd (0 ≤ (IntKind.i64.wrap ((v11.2 : Nat) : Int)) ∧ 80 * (IntKind.i64.wrap ((v11.2 : Nat) : Int)).toNat ≤ 281474976710656) (iter (fun q : (List Nfa) × Nat => repeatN_b1 v11 q.1 q.2) (((List.replicate ((IntKind.i64.wrap ((v11.2 : Nat) : Int)).toNat) pkNfa.d).take 0 ++ (x0.take (min x0.length (List.replicate ((IntKind.i64.wrap ((v11.2 : Nat) : Int)).toNat) pkNfa.d).length) ++ (List.replicate ((IntKind.i64.wrap ((v11.2 : Nat) : Int)).toNat) pkNfa.d).drop (0 + (min x0.length (List.replicate ((IntKind.i64.wrap ((v11.2 : Nat) : Int)).toNat) pkNfa.d).length)))), (min x0.length (List.replicate ((IntKind.i64.wrap ((v11.2 : Nat) : Int)).toNat) pkNfa.d).length)))))))
def repeatN_P (σ : Store) (r : (List Nfa)) : Value → Store → List Res → Prop := fun v σ' H' =>
  ∃ (a1 : Option Addr), ∃ (c1 : Nat), ∃ (zr1 : List (Nfa × pkNfa.P)),  v = .slice a1 r.length c1 ∧ ZOk σ' pkNfa zr1 r ∧ H' = [Res.rowS 25 4 pkNfa.en (.slice a1 r.length c1) zr1]
theorem repeatN_con {σ : Store} {x0 : List Nfa} {a0_0 : Option Addr} {c0_0 : Nat} {x1 : Int} (f0_0 : RZ σ pkNfa (.slice a0_0 x0.length c0_0) x0) {r : (List Nfa)} (hh : repeatN x0 x1 = some r) :
    Con Try.prog 74 #[.slice a0_0 x0.length c0_0, .int .i64 x1] σ [] (repeatN_P σ r) := by
  dsimp only [repeatN] at hh
  have f0_0b := f0_0.big
  refine Con.mk (n := 48) Try.func74 rfl rfl rfl (fun w0 => ?_)
  refine TC.seq ?_
  refine TC.region ?_
  refine TL.v rfl (OpVal.moveSl (.inr rfl) rfl) rfl rfl ?_
  refine TL.nil ?_
  refine S.n ?_
  refine TC.seq ?_
  refine TC.seq ?_
  refine TC.region ?_
  refine TL.v rfl (OpVal.moveI (.inl rfl) rfl) rfl rfl ?_
  refine TL.v rfl (OpVal.lss rfl rfl rfl) rfl rfl ?_
  refine TL.nil ?_
  refine S.n ?_
  refine TC.cond rfl (fun h101 => ?_) (fun h101 => ?_)
  · replace hh := iteO_t h101 hh
    replace h101 := of_decide_eq_true h101
    cases hh
  · replace hh := iteO_f h101 hh
    replace h101 := of_decide_eq_false h101
    refine TC.skip ?_
    refine S.n ?_
    refine TC.seq ?_
    refine TC.region ?_
    refine TL.v rfl (OpVal.moveSl (.inl rfl) rfl) rfl rfl ?_
    refine TL.v rfl (OpVal.lenC rfl Try.underlying94 rfl) rfl rfl ?_
    refine TL.v rfl (OpVal.convU rfl Try.underlying3 Try.underlying109 rfl) rfl rfl ?_
    refine TL.v rfl (OpVal.moveI (.inl rfl) rfl) rfl rfl ?_
    refine TL.v rfl (OpVal.convU rfl Try.underlying3 Try.underlying109 rfl) rfl rfl ?_
    obtain ⟨v11, u11, hh⟩ := bnd_e hh
    refine TL.op rfl (OpOk.callP (math_bits_Mul_con u11) rfl rfl pf88 rfl rfl rfl ?_)
    refine TL.v rfl (OpVal.moveT (.inl rfl) rfl) rfl rfl ?_
    refine TL.v rfl (OpVal.extract rfl rfl rfl) rfl rfl ?_
    refine TL.v rfl (OpVal.extract rfl rfl rfl) rfl rfl ?_
    refine TL.v rfl (OpVal.moveI (.inr rfl) rfl) rfl rfl ?_
    refine TL.v rfl (OpVal.moveI (.inr rfl) rfl) rfl rfl ?_
    refine TL.nil ?_
    refine S.n ?_
    refine TC.seq ?_
    refine TC.seq ?_
    refine TC.region ?_
    refine TL.v rfl (OpVal.moveI (.inl rfl) rfl) rfl rfl ?_
    refine TL.v rfl (OpVal.gtrU rfl rfl rfl) rfl rfl ?_
    refine TL.v rfl (OpVal.moveB (.inl rfl) rfl) rfl rfl ?_
    refine TL.split 23 rfl (fun h102 => ?_) (fun h102 => ?_)
    · replace hh := iteO_t h102 hh
      replace h102 := of_decide_eq_true h102
      refine TL.goff rfl rfl rfl rfl rfl rfl rfl rfl ?_
      refine TL.goff rfl rfl rfl rfl rfl rfl rfl rfl ?_
      refine TL.v rfl (OpVal.pickTB rfl rfl rfl) rfl rfl ?_
      refine TL.nil ?_
      refine S.n ?_
      refine TC.cond rfl (fun _ => ?_) (fun h => Bool.noConfusion h)
      cases hh
    · replace hh := iteO_f h102 hh
      replace h102 := of_decide_eq_false h102
      refine TL.gv rfl rfl rfl rfl rfl (OpVal.moveI (.inl rfl) rfl) rfl rfl ?_
      refine TL.gv rfl rfl rfl rfl rfl (OpVal.gtrU rfl rfl rfl) rfl rfl ?_
      refine TL.v rfl (OpVal.pickFB rfl rfl rfl) rfl rfl ?_
      refine TL.nil ?_
      refine S.n ?_
      refine TC.cond rfl (fun h103 => ?_) (fun h103 => ?_)
      · replace hh := iteO_t h103 hh
        replace h103 := of_decide_eq_true h103
        cases hh
      · replace hh := iteO_f h103 hh
        replace h103 := of_decide_eq_false h103
        refine TC.skip ?_
        refine S.n ?_
        refine TC.seq ?_
        refine TC.region ?_
        refine TL.v rfl (OpVal.moveI (.inl rfl) rfl) rfl rfl ?_
        refine TL.v rfl (OpVal.convInt rfl Try.underlying109 Try.underlying3 rfl) rfl rfl ?_
        have u27 := grd_c hh
        replace hh := grd_t hh
        refine TL.op rfl (OpOk.makeZ (q := (IntKind.i64.wrap ((v11.2 : Nat) : Int)).toNat) (k := pkNfa) rfl Try.underlying94 sz25 rfl by25 ze25 rfl rfl (by show Value.int _ _ = _; rw [Int.toNat_of_nonneg u27.1]) (by show Value.int _ _ = _; rw [Int.toNat_of_nonneg u27.1]) (by omega) (by decide) (by decide) rfl (fun a104 c105 zf106 => ?_))
        refine TL.v rfl (OpVal.moveSl (.inr rfl) rfl) rfl rfl ?_
        refine TL.nil ?_
        refine S.n ?_
        refine TC.seq ?_
        refine TC.region ?_
        refine TL.v rfl (OpVal.moveSl (.inl rfl) rfl) rfl rfl ?_
        refine TL.v rfl (OpVal.moveSl (.inl rfl) rfl) rfl rfl ?_
        refine TL.isSl (i := 0) rfl (fun hs108 _ _ => ?_)
        have hs108 := zf106.isSl hs108
        obtain ⟨zz109, zg109, hs109⟩ := id f0_0
        have hn110 : ((List.replicate ((IntKind.i64.wrap ((v11.2 : Nat) : Int)).toNat) pkNfa.d).take 0 ++ (x0.take (min x0.length (List.replicate ((IntKind.i64.wrap ((v11.2 : Nat) : Int)).toNat) pkNfa.d).length) ++ (List.replicate ((IntKind.i64.wrap ((v11.2 : Nat) : Int)).toNat) pkNfa.d).drop (0 + (min x0.length (List.replicate ((IntKind.i64.wrap ((v11.2 : Nat) : Int)).toNat) pkNfa.d).length)))).length = (List.replicate ((IntKind.i64.wrap ((v11.2 : Nat) : Int)).toNat) pkNfa.d).length := by simp only [List.length_append, List.length_take, List.length_drop]; omega
        refine TL.op rfl (OpOk.copyZ2 (p := 0) (N := (min x0.length (List.replicate ((IntKind.i64.wrap ((v11.2 : Nat) : Int)).toNat) pkNfa.d).length)) zf106 zg109 rfl Try.underlying94 sz25 rfl rfl rfl rfl (VwOk.self hs108) rfl rfl (by omega) rfl (SrcC.sealed hs109 (Pk.en_len _)) (by decide) (by first | rfl | ((try simp only [List.length_take]); omega)) (fun zf111 => ?_))
        refine TL.v rfl (OpVal.moveI (.inr rfl) rfl) rfl rfl ?_
        refine TL.nil ?_
        refine S.n ?_
        refine TC.seq ?_
        refine TC.block ?_
        refine TC.loopG (α := ((List Nfa) × Nat) × ((List (Nfa × pkNfa.P)) × Store)) [8, 34, 35, 36, 37, 38, 39, 40, 41, 42, 43, 44, 45, 46] (fun g => [(8, .int .i64 ((g.1.2 : Nat) : Int))]) (fun g => [Res.rowS 25 4 pkNfa.en (.slice a104 (List.replicate ((IntKind.i64.wrap ((v11.2 : Nat) : Int)).toNat) pkNfa.d).length c105) g.2.1]) (fun g => g.2.2) (fun g => iter (fun q : (List Nfa) × Nat => repeatN_b1 v11 q.1 q.2) g.1 = some r ∧ g.1.1.length = (List.replicate ((IntKind.i64.wrap ((v11.2 : Nat) : Int)).toNat) pkNfa.d).length ∧ ZOk g.2.2 pkNfa g.2.1 g.1.1 ∧ Store.le σ g.2.2) (fun g => rounds (fun q : (List Nfa) × Nat => repeatN_b1 v11 q.1 q.2) g.1) ((((List.replicate ((IntKind.i64.wrap ((v11.2 : Nat) : Int)).toNat) pkNfa.d).take 0 ++ (x0.take (min x0.length (List.replicate ((IntKind.i64.wrap ((v11.2 : Nat) : Int)).toNat) pkNfa.d).length) ++ (List.replicate ((IntKind.i64.wrap ((v11.2 : Nat) : Int)).toNat) pkNfa.d).drop (0 + (min x0.length (List.replicate ((IntKind.i64.wrap ((v11.2 : Nat) : Int)).toNat) pkNfa.d).length)))), (min x0.length (List.replicate ((IntKind.i64.wrap ((v11.2 : Nat) : Int)).toNat) pkNfa.d).length)), (((List.replicate ((IntKind.i64.wrap ((v11.2 : Nat) : Int)).toNat) (pkNfa.d, pkNfa.dp)).take 0 ++ (zz109.take (min x0.length (List.replicate ((IntKind.i64.wrap ((v11.2 : Nat) : Int)).toNat) pkNfa.d).length) ++ (List.replicate ((IntKind.i64.wrap ((v11.2 : Nat) : Int)).toNat) (pkNfa.d, pkNfa.dp)).drop (0 + (min x0.length (List.replicate ((IntKind.i64.wrap ((v11.2 : Nat) : Int)).toNat) pkNfa.d).length)))), σ)) (Sub.pre 1 rfl) rfl (by repeat (first | exact trivial | refine ⟨rfl, ?_⟩)) ⟨hh, hn110, zf111, (Store.le.refl _)⟩ (fun g1 j1 hg1 => ?_)
        obtain ⟨⟨l124, k128⟩, ⟨z126, τ129⟩⟩ := g1
        obtain ⟨hh, hn125, zf127, hle130⟩ := hg1
        try dsimp only at hn125
        try dsimp only at zf127
        dsimp only at hle130
        replace f0_0 := f0_0.mono hle130
        replace zf106 := zf106.mono hle130
        replace zf111 := zf111.mono hle130
        show TC _ _ _ (upds (mask _ j1 _) [(8, .int .i64 ((k128 : Nat) : Int))]) τ129 [Res.rowS 25 4 pkNfa.en (.slice a104 (List.replicate ((IntKind.i64.wrap ((v11.2 : Nat) : Int)).toNat) pkNfa.d).length c105) z126]
        obtain ⟨z1, hh, hR1⟩ := iter_e hh
        dsimp only [repeatN_b1] at hh
        have hn125b := hn125
        have zf127b := zf127.length
        refine TC.isSl (i := 0) rfl (fun _ hb131 _ => ?_)
        refine TC.seq ?_
        refine TC.seq ?_
        refine TC.region ?_
        refine TL.v rfl (OpVal.moveI (.inl rfl) rfl) rfl rfl ?_
        refine TL.v rfl (OpVal.moveSl (.inl rfl) rfl) rfl rfl ?_
        refine TL.v rfl (OpVal.lenC rfl Try.underlying94 rfl) rfl rfl ?_
        refine TL.v rfl (OpVal.lss rfl rfl rfl) rfl rfl ?_
        refine TL.nil ?_
        refine S.n ?_
        refine TC.cond rfl (fun h132 => ?_) (fun h132 => ?_)
        · replace hh := iteO_t h132 hh
          replace h132 := of_decide_eq_true h132
          refine TC.skip ?_
          refine S.n ?_
          refine TC.block ?_
          have u40 := grd_c hh
          replace hh := grd_t hh
          have u43 := grd_c hh
          replace hh := grd_t hh
          have u45 := grd_c hh
          replace hh := grd_t hh
          refine TC.draw [7, 8, 9] (by kernel_rfl) ?_
          refine TA.takeP 0 rfl (by kernel_rfl) (by kernel_rfl) (by kernel_rfl) rfl (OpVal.moveI (.inl rfl) rfl) rfl rfl ?_
          refine TA.takeP 1 rfl (by kernel_rfl) (by kernel_rfl) (by kernel_rfl) rfl (OpVal.moveSl (.inl rfl) rfl) rfl rfl ?_
          refine TA.takeP 2 rfl (by kernel_rfl) (by kernel_rfl) (by kernel_rfl) rfl (OpVal.moveI (.inl rfl) rfl) rfl rfl ?_
          refine TA.isSl (i := 0) rfl (fun hs138 _ _ => ?_)
          have hs138 := zf127.isSl hs138
          rw [hn125] at hs138
          obtain ⟨a138, c138, hv138, ho138⟩ := vw_of (k := k128) (size := 4) hs138 (by omega)
          refine TA.take 3 rfl (by kernel_rfl) (by kernel_rfl) (by kernel_rfl) (by kernel_rfl) rfl (ho138 rfl Try.underlying94 sz25 rfl rfl) rfl rfl ?_
          refine TA.takeP 4 rfl (by kernel_rfl) (by kernel_rfl) (by kernel_rfl) rfl (OpVal.moveSl (.inl rfl) rfl) rfl rfl ?_
          refine TA.takeP 5 rfl (by kernel_rfl) (by kernel_rfl) (by kernel_rfl) rfl (OpVal.moveI (.inl rfl) rfl) rfl rfl ?_
          refine TA.isSl (i := 0) rfl (fun hs139 _ _ => ?_)
          have hs139 := zf127.isSl hs139
          rw [hn125] at hs139
          have hs139 := hs139.cap.2
          refine TA.take 6 rfl (by kernel_rfl) (by kernel_rfl) (by kernel_rfl) (by kernel_rfl) rfl (OpVal.preV rfl Try.underlying94 sz25 rfl rfl (by omega)) rfl rfl ?_
          have hn141 : (l124.take k128 ++ ((l124.take k128).take (min k128 ((List.replicate ((IntKind.i64.wrap ((v11.2 : Nat) : Int)).toNat) pkNfa.d).length - k128)) ++ l124.drop (k128 + (min k128 ((List.replicate ((IntKind.i64.wrap ((v11.2 : Nat) : Int)).toNat) pkNfa.d).length - k128))))).length = (List.replicate ((IntKind.i64.wrap ((v11.2 : Nat) : Int)).toNat) pkNfa.d).length := by simp only [List.length_append, List.length_take, List.length_drop]; have := hn125; omega
          refine TA.last 7 (by kernel_rfl) rfl rfl rfl (OpOk.copyZ2 (p := k128) (N := (min k128 ((List.replicate ((IntKind.i64.wrap ((v11.2 : Nat) : Int)).toNat) pkNfa.d).length - k128))) zf127 (zf127.take k128) rfl Try.underlying94 sz25 rfl rfl rfl rfl hv138 hn125 rfl (by have := hn125; omega) rfl (SrcC.selfZ zf127 (by have := hn125; omega) hn125) (by decide) (by first | rfl | (have := hn125; (try simp only [List.length_take]); omega)) (fun zf142 => ?_))
          refine TZ.v 8 (by kernel_rfl) rfl rfl rfl (OpVal.addM (a := k128) (b := (min k128 ((List.replicate ((IntKind.i64.wrap ((v11.2 : Nat) : Int)).toNat) pkNfa.d).length - k128))) rfl rfl rfl (by omega)) rfl rfl ?_
          refine TZ.v 9 (by kernel_rfl) rfl rfl rfl (OpVal.moveI (.inr rfl) rfl) rfl rfl ?_
          refine TZ.done (by kernel_rfl) ?_
          refine B.n ?_
          refine S.n ?_
          obtain ⟨hh, hlt143⟩ := nxt_x hR1 hh
          refine ⟨by repeat (first | exact Agr.refl _ _ | exact Agr.mask | refine Agr.upd rfl ?_ | refine Agr.maskIn rfl ?_ | refine Agr.upds rfl ?_), (((l124.take k128 ++ ((l124.take k128).take (min k128 ((List.replicate ((IntKind.i64.wrap ((v11.2 : Nat) : Int)).toNat) pkNfa.d).length - k128)) ++ l124.drop (k128 + (min k128 ((List.replicate ((IntKind.i64.wrap ((v11.2 : Nat) : Int)).toNat) pkNfa.d).length - k128))))), (k128 + (min k128 ((List.replicate ((IntKind.i64.wrap ((v11.2 : Nat) : Int)).toNat) pkNfa.d).length - k128)))), ((z126.take k128 ++ ((z126.take k128).take (min k128 ((List.replicate ((IntKind.i64.wrap ((v11.2 : Nat) : Int)).toNat) pkNfa.d).length - k128)) ++ z126.drop (k128 + (min k128 ((List.replicate ((IntKind.i64.wrap ((v11.2 : Nat) : Int)).toNat) pkNfa.d).length - k128))))), τ129)), hlt143, ⟨hh, hn141, zf142, hle130⟩, by repeat (first | exact trivial | refine ⟨rfl, ?_⟩), Sub.pre 1 rfl, rfl⟩
        · replace hh := iteO_f h132 hh
          replace h132 := of_decide_eq_false h132
          refine TC.exit ?_
          refine S.x ?_
          refine S.x ?_
          replace hh := fin_x hR1 hh
          refine TC.exitHere ?_
          refine S.n ?_
          refine TC.seq ?_
          refine TC.region ?_
          refine TL.v rfl (OpVal.moveSl (.inl rfl) rfl) rfl rfl ?_
          refine TL.v rfl (OpVal.moveSl (.inr rfl) rfl) rfl rfl ?_
          refine TL.nil ?_
          refine S.n ?_
          rw [← hn125]
          refine TC.ret ?_
          obtain rfl := Option.some.inj hh
          exact RetOk.mk' (rs := [.tmp 4]) [Res.rowS 25 4 pkNfa.en (.slice a104 l124.length c105) z126] rfl (.inl rfl) (RVs.tmp rfl RVs.nil) (List.sublist_append_left _ _) ⟨a104, c105, z126, rfl, zf127, rfl⟩

end Go.Proofs.Ytcidppnlhhkhhaa
end

/- N6 -/
section
/- Decompiled: an automaton, repeated; the law on what is joined. -/
set_option linter.unusedVariables false
set_option linter.unusedSimpArgs false
namespace Go.Proofs.Ytcidppnlhhkhhaa
open Go Go.E
set_option maxRecDepth 100000
private theorem pf28 : Go.E.plainF Try.prog 28 = true := by kernel_rfl
private theorem pf73 : Go.E.plainF Try.prog 73 = true := by kernel_rfl
private theorem pf74 : Go.E.plainF Try.prog 74 = true := by kernel_rfl
noncomputable def nfa_Rep_b2 (l153 : List Nfa) (i208 : Int) (l209 : List Int) (l213 : List Int) (l217 : List Arrow) (k222 : Nat) : Option ((Int × (List Int) × (List Int) × (List Arrow) × Nat) ⊕ (Nfa × Int)) :=
  iteO (decide (((k222 : Nat) : Int) < ((l153.length : Nat) : Int))) (iteO (decide ((catX (⟨i208, l209, l213, l217⟩ : Nfa) (nth l153 k222 Nfa.zero)) ≠ 0)) (fin (some ((⟨0, ([] : List Int), ([] : List Int), ([] : List Arrow)⟩ : Nfa), (catX (⟨i208, l209, l213, l217⟩ : Nfa) (nth l153 k222 Nfa.zero))))) (nxt (((catR (⟨i208, l209, l213, l217⟩ : Nfa) (nth l153 k222 Nfa.zero)).states), (catR (⟨i208, l209, l213, l217⟩ : Nfa) (nth l153 k222 Nfa.zero)).starts, (catR (⟨i208, l209, l213, l217⟩ : Nfa) (nth l153 k222 Nfa.zero)).ends, (catR (⟨i208, l209, l213, l217⟩ : Nfa) (nth l153 k222 Nfa.zero)).edges, (k222 + 1)))) (fin (some ((⟨i208, l209, l213, l217⟩ : Nfa), 0)))
noncomputable def nfa_Rep_b1 (x2 : Int) (x1 : Int) (x0 : Nfa) (l153 : List Nfa) (k158 : Nat) : Option (((List Nfa) × Nat) ⊕ (Nfa × Int)) :=
  iteO (decide (((k158 : Nat) : Int) < (IntKind.i64.wrap (x2 - x1)))) (bnd (nfa_Alt x0 (textR ([] : List UInt8))) (fun v62 => iteO (decide (v62.2 ≠ 0)) (fin (some ((⟨0, ([] : List Int), ([] : List Int), ([] : List Arrow)⟩ : Nfa), v62.2))) (grd ((l153.length + [v62.1].length) * 80 ≤ 140737488355328) (grd (k158 + 1 ≤ 9223372036854775807) (nxt ((l153 ++ [v62.1]), (k158 + 1))))))) (fin (iter (fun q : Int × (List Int) × (List Int) × (List Arrow) × Nat => nfa_Rep_b2 l153 q.1 q.2.1 q.2.2.1 q.2.2.2.1 q.2.2.2.2) (((textR ([] : List UInt8)).states), (textR ([] : List UInt8)).starts, (textR ([] : List UInt8)).ends, (textR ([] : List UInt8)).edges, 0)))
noncomputable def nfa_Rep_j1 (x2 : Int) (x1 : Int) (x0 : Nfa) (l120 : List Nfa) : Option (Nfa × Int) :=
  iter (fun q : (List Nfa) × Nat => nfa_Rep_b1 x2 x1 x0 q.1 q.2) (l120, 0)
noncomputable def nfa_Rep (x0 : Nfa) (x1 : Int) (x2 : Int) : Option (Nfa × Int) :=
  iteO (decide ((errB (checkB x0)) ≠ 0)) (some ((⟨0, ([] : List Int), ([] : List Int), ([] : List Arrow)⟩ : Nfa), 1)) (iteO (!(oftB x1 x2)) (some ((⟨0, ([] : List Int), ([] : List Int), ([] : List Arrow)⟩ : Nfa), 1)) (grd (([] : List UInt8).length ≤ 1000000000000) (iteO (decide ((textX ([] : List UInt8)) ≠ 0)) (some ((⟨0, ([] : List Int), ([] : List Int), ([] : List Arrow)⟩ : Nfa), (textX ([] : List UInt8)))) (bnd (repeatN [x0] x1) (fun v32 => iteO (decide (x2 = (-1))) (iteO (decide ((starX x0) ≠ 0)) (some ((⟨0, ([] : List Int), ([] : List Int), ([] : List Arrow)⟩ : Nfa), (starX x0))) (grd ((v32.length + [(starR x0)].length) * 80 ≤ 140737488355328) (nfa_Rep_j1 x2 x1 x0 (v32 ++ [(starR x0)])))) (nfa_Rep_j1 x2 x1 x0 v32))))))
def nfa_Rep_P (σ : Store) (r : Nfa × Int) : Value → Store → List Res → Prop := fun v σ' H' =>
  ∃ (a1 : Option Addr), ∃ (c1 : Nat), ∃ (a2 : Option Addr), ∃ (c2 : Nat), ∃ (a3 : Option Addr), ∃ (c3 : Nat),  v = .tuple #[.agg #[.int .i64 r.1.states, .slice a1 r.1.starts.length c1, .slice a2 r.1.ends.length c2, .slice a3 r.1.edges.length c3], .int .i64 r.2] ∧ RS σ' 1 Go.E.encI (.slice a1 r.1.starts.length c1) r.1.starts ∧ RS σ' 1 Go.E.encI (.slice a2 r.1.ends.length c2) r.1.ends ∧ RS σ' 6 encE (.slice a3 r.1.edges.length c3) r.1.edges ∧ H' = []
theorem nfa_Rep_con {σ : Store} {x0 : Nfa} {a0_0 : Option Addr} {c0_0 : Nat} {a0_1 : Option Addr} {c0_1 : Nat} {a0_2 : Option Addr} {c0_2 : Nat} {x1 : Int} {x2 : Int} (f0_0 : RS σ 1 Go.E.encI (.slice a0_0 x0.starts.length c0_0) x0.starts) (f0_1 : RS σ 1 Go.E.encI (.slice a0_1 x0.ends.length c0_1) x0.ends) (f0_2 : RS σ 6 encE (.slice a0_2 x0.edges.length c0_2) x0.edges) {r : Nfa × Int} (hh : nfa_Rep x0 x1 x2 = some r) :
    Con Try.prog 33 #[.agg #[.int .i64 x0.states, .slice a0_0 x0.starts.length c0_0, .slice a0_1 x0.ends.length c0_1, .slice a0_2 x0.edges.length c0_2], .int .i64 x1, .int .i64 x2] σ [] (nfa_Rep_P σ r) := by
  dsimp only [nfa_Rep] at hh
  have f0_0b := f0_0.rv.big
  have f0_1b := f0_1.rv.big
  have f0_2b := f0_2.rv.big
  refine Con.mk (n := 94) Try.func33 rfl rfl rfl (fun w0 => ?_)
  refine TC.seq ?_
  refine TC.region ?_
  refine TL.op rfl (OpOk.boxA rfl rfl rfl rfl (fun b101 => ?_))
  refine TL.op rfl (OpOk.alloc rfl ze25 rfl rfl (fun b103 => ?_))
  refine TL.v rfl (OpVal.moveI (.inr rfl) rfl) rfl rfl ?_
  refine TL.nil ?_
  refine S.n ?_
  refine TC.seq ?_
  refine TC.seq ?_
  refine TC.region ?_
  refine TL.v rfl (OpVal.loadAll rfl ag25 sz25 rfl (i := 1) rfl rfl) rfl rfl ?_
  refine TL.op rfl (OpOk.callP (check_con _ x0 ⟨a0_0, c0_0, a0_1, c0_1, a0_2, c0_2⟩ ⟨f0_0, f0_1, f0_2, fun x _ => x.set.isOk⟩) rfl rfl pf18 rfl rfl rfl ?_)
  refine TL.v rfl (OpVal.neq rfl rfl rfl) rfl rfl ?_
  refine TL.v rfl (OpVal.moveB (.inl rfl) rfl) rfl rfl ?_
  refine TL.split 21 rfl (fun h105 => ?_) (fun h105 => ?_)
  · replace hh := iteO_t h105 hh
    replace h105 := of_decide_eq_true h105
    refine TL.goff rfl rfl rfl rfl rfl rfl rfl rfl ?_
    refine TL.goff rfl rfl rfl rfl rfl rfl rfl rfl ?_
    refine TL.goff rfl rfl rfl rfl rfl rfl rfl rfl ?_
    refine TL.goff rfl rfl rfl rfl rfl rfl rfl rfl ?_
    refine TL.v rfl (OpVal.pickTB rfl rfl rfl) rfl rfl ?_
    refine TL.nil ?_
    refine S.n ?_
    refine TC.cond rfl (fun _ => ?_) (fun h => Bool.noConfusion h)
    refine TC.seq ?_
    refine TC.region ?_
    refine TL.v rfl (OpVal.buildL rfl pl25 ze25 rfl) rfl rfl ?_
    refine TL.op rfl (OpOk.storeAll rfl sz25 rfl rfl rfl rfl rfl rfl ?_)
    refine TL.v rfl (OpVal.moveI (.inr rfl) rfl) rfl rfl ?_
    refine TL.nil ?_
    refine S.n ?_
    refine TC.ofSub (Sub.pre 1 rfl) ?_
    refine TC.ret ?_
    refine S.r ?_
    obtain rfl := Option.some.inj hh
    exact RetOk.mk' (rs := [.cell 6 25, .tmp 7]) [] rfl (.inl rfl) (RVs.agg ag25 sz25 rfl (i := 0) rfl rfl (RVs.tmp rfl RVs.nil)) (List.sublist_append_left _ _) ⟨none, 0, none, 0, none, 0, rfl, (RS.nilF _ Go.E.encI Go.E.encI_len), (RS.nilF _ Go.E.encI Go.E.encI_len), (RS.nilF _ encE encE_len), rfl⟩
  · replace hh := iteO_f h105 hh
    replace h105 := of_decide_eq_false h105
    refine TL.gv rfl rfl rfl rfl rfl (OpVal.moveI (.inl rfl) rfl) rfl rfl ?_
    refine TL.gv rfl rfl rfl rfl rfl (OpVal.moveI (.inl rfl) rfl) rfl rfl ?_
    refine TL.gon rfl rfl rfl rfl rfl (OpOk.callP (often_con _ x1 x2) rfl rfl pf73 rfl rfl rfl ?_)
    refine TL.gv rfl rfl rfl rfl rfl (OpVal.not rfl rfl) rfl rfl ?_
    refine TL.v rfl (OpVal.pickFB rfl rfl rfl) rfl rfl ?_
    refine TL.nil ?_
    refine S.n ?_
    refine TC.cond rfl (fun h106 => ?_) (fun h106 => ?_)
    · replace hh := iteO_t h106 hh
      refine TC.seq ?_
      refine TC.region ?_
      refine TL.v rfl (OpVal.buildL rfl pl25 ze25 rfl) rfl rfl ?_
      refine TL.op rfl (OpOk.storeAll rfl sz25 rfl rfl rfl rfl rfl rfl ?_)
      refine TL.v rfl (OpVal.moveI (.inr rfl) rfl) rfl rfl ?_
      refine TL.nil ?_
      refine S.n ?_
      refine TC.ofSub (Sub.pre 1 rfl) ?_
      refine TC.ret ?_
      refine S.r ?_
      obtain rfl := Option.some.inj hh
      exact RetOk.mk' (rs := [.cell 6 25, .tmp 7]) [] rfl (.inl rfl) (RVs.agg ag25 sz25 rfl (i := 0) rfl rfl (RVs.tmp rfl RVs.nil)) (List.sublist_append_left _ _) ⟨none, 0, none, 0, none, 0, rfl, (RS.nilF _ Go.E.encI Go.E.encI_len), (RS.nilF _ Go.E.encI Go.E.encI_len), (RS.nilF _ encE encE_len), rfl⟩
    · replace hh := iteO_f h106 hh
      refine TC.skip ?_
      refine S.n ?_
      refine TC.seq ?_
      refine TC.region ?_
      have u16a := grd_c hh
      replace hh := grd_t hh
      refine TL.op rfl (OpOk.call (text_con _ (bs ([] : List UInt8)) u16a) rfl rfl pf15 rfl rfl rfl rfl ?_)
      rintro _ τ107 _ hle107 ⟨p107, rfl, hn107, rfl⟩
      replace f0_0 := f0_0.mono hle107
      replace f0_1 := f0_1.mono hle107
      replace f0_2 := f0_2.mono hle107
      have hn107sb := hn107.s.rv.big
      have hn107eb := hn107.e.rv.big
      have hn107db := hn107.d.rv.big
      refine TL.v rfl (OpVal.moveT (.inl rfl) rfl) rfl rfl ?_
      refine TL.v rfl (OpVal.extract rfl rfl rfl) rfl rfl ?_
      refine TL.v rfl (OpVal.extract rfl rfl rfl) rfl rfl ?_
      refine TL.op rfl (OpOk.alloc rfl ze25 rfl rfl (fun b108 => ?_))
      refine TL.op rfl (OpOk.storeAll rfl sz25 rfl rfl rfl rfl rfl rfl ?_)
      refine TL.v rfl (OpVal.moveI (.inr rfl) rfl) rfl rfl ?_
      refine TL.nil ?_
      refine S.n ?_
      refine TC.seq ?_
      refine TC.seq ?_
      refine TC.region ?_
      refine TL.v rfl (OpVal.moveI (.inl rfl) rfl) rfl rfl ?_
      refine TL.v rfl (OpVal.neq rfl rfl rfl) rfl rfl ?_
      refine TL.nil ?_
      refine S.n ?_
      refine TC.cond rfl (fun h110 => ?_) (fun h110 => ?_)
      · replace hh := iteO_t h110 hh
        replace h110 := of_decide_eq_true h110
        refine TC.seq ?_
        refine TC.region ?_
        refine TL.v rfl (OpVal.buildL rfl pl25 ze25 rfl) rfl rfl ?_
        refine TL.v rfl (OpVal.moveI (.inl rfl) rfl) rfl rfl ?_
        refine TL.front 1 rfl rfl ?_
        refine TL.op rfl (OpOk.storeAll rfl sz25 rfl rfl rfl rfl rfl rfl ?_)
        refine TL.v rfl (OpVal.moveI (.inr rfl) rfl) rfl rfl ?_
        refine TL.nil ?_
        refine S.n ?_
        refine TC.ofSub (Sub.pre 1 rfl) ?_
        refine TC.ret ?_
        refine S.r ?_
        obtain rfl := Option.some.inj hh
        exact RetOk.mk' (rs := [.cell 6 25, .tmp 7]) [] rfl (.inl rfl) (RVs.agg ag25 sz25 rfl (i := 0) rfl rfl (RVs.tmp rfl RVs.nil)) (List.sublist_append_left _ _) ⟨none, 0, none, 0, none, 0, rfl, (RS.nilF _ Go.E.encI Go.E.encI_len), (RS.nilF _ Go.E.encI Go.E.encI_len), (RS.nilF _ encE encE_len), rfl⟩
      · replace hh := iteO_f h110 hh
        replace h110 := of_decide_eq_false h110
        refine TC.skip ?_
        refine S.n ?_
        refine TC.seq ?_
        refine TC.region ?_
        refine TL.v rfl (OpVal.loadAll rfl ag25 sz25 rfl (i := 2) rfl rfl) rfl rfl ?_
        have zf113 : ZOk _ pkNfa ([(x0, ⟨a0_0, c0_0, a0_1, c0_1, a0_2, c0_2⟩)] : List (Nfa × pkNfa.P)) [x0] := ZOk.cons (⟨f0_0, f0_1, f0_2, fun x _ => x.set.isOk⟩) (ZOk.nil _ _)
        refine TL.op rfl (OpOk.litZ zf113 rfl Try.underlying94 sz25 rfl ze25 rfl rfl rfl (by decide) (by decide) rfl (by decide) rfl (by decide) (fun a111 c112 => ?_))
        refine TL.v rfl (OpVal.moveI (.inl rfl) rfl) rfl rfl ?_
        refine TL.sealZ zf113 (fun τ117 hle116 hr115 => ?_)
        replace f0_0 := f0_0.mono hle116
        replace f0_1 := f0_1.mono hle116
        replace f0_2 := f0_2.mono hle116
        replace hn107 := hn107.mono hle116
        replace zf113 := zf113.mono hle116
        have hr115b := hr115.big
        obtain ⟨v32, u32, hh⟩ := bnd_e hh
        refine TL.op rfl (OpOk.call (repeatN_con hr115 u32) rfl rfl pf74 rfl rfl rfl rfl ?_)
        rintro _ τ118 _ hle118 ⟨a118_1, c118_1, zr118_0, rfl, hr118_0, rfl⟩
        replace f0_0 := f0_0.mono hle118
        replace f0_1 := f0_1.mono hle118
        replace f0_2 := f0_2.mono hle118
        replace hn107 := hn107.mono hle118
        replace zf113 := zf113.mono hle118
        replace hr115 := hr115.mono hle118
        have hr118_0b := hr118_0.length
        refine TL.v rfl (OpVal.moveSl (.inr rfl) rfl) rfl rfl ?_
        refine TL.nil ?_
        refine S.n ?_
        refine TC.cutG (α := ((List Nfa)) × ((Option Addr) × Nat × (List (Nfa × pkNfa.P)) × Store)) [7, 10, 11, 12, 40, 41, 42, 43, 44, 45, 46, 47, 48, 49, 50, 51, 52, 53, 54] (fun g => [(10, .slice g.2.1 g.1.length g.2.2.1)]) (fun g => [Res.cells b101 #[.int .i64 x0.states, .slice a0_0 x0.starts.length c0_0, .slice a0_1 x0.ends.length c0_1, .slice a0_2 x0.edges.length c0_2] 25, Res.cells b103 #[.int .i64 0, .slice none 0 0, .slice none 0 0, .slice none 0 0] 25, Res.cells b108 #[.int .i64 ((textR ([] : List UInt8)).states), .slice p107.a1 (((textR ([] : List UInt8)).starts).length) p107.c1, .slice p107.a2 (((textR ([] : List UInt8)).ends).length) p107.c2, .slice p107.a3 (((textR ([] : List UInt8)).edges).length) p107.c3] 25, Res.rowS 25 4 pkNfa.en (.slice g.2.1 g.1.length g.2.2.1) g.2.2.2.1]) (fun g => g.2.2.2.2) (fun g => nfa_Rep_j1 x2 x1 x0 g.1 = some r ∧ ZOk g.2.2.2.2 pkNfa g.2.2.2.1 g.1 ∧ Store.le τ118 g.2.2.2.2) ?_ (fun g j hg => ?_)
        · skip
          refine TC.seq ?_
          refine TC.region ?_
          refine TL.v rfl (OpVal.moveI (.inl rfl) rfl) rfl rfl ?_
          refine TL.v rfl (OpVal.eql rfl rfl rfl) rfl rfl ?_
          refine TL.nil ?_
          refine S.n ?_
          refine TC.cond rfl (fun h125 => ?_) (fun h125 => ?_)
          · replace hh := iteO_t h125 hh
            replace h125 := of_decide_eq_true h125
            refine TC.seq ?_
            refine TC.region ?_
            refine TL.v rfl (OpVal.loadAll rfl ag25 sz25 rfl (i := 3) rfl rfl) rfl rfl ?_
            refine TL.op rfl (OpOk.call (star_con _ x0 ⟨a0_0, c0_0, a0_1, c0_1, a0_2, c0_2⟩ ⟨f0_0, f0_1, f0_2, fun x _ => x.set.isOk⟩) rfl rfl pf31 rfl rfl rfl rfl ?_)
            rintro _ τ126 _ hle126 ⟨p126, rfl, hn126, rfl⟩
            replace f0_0 := f0_0.mono hle126
            replace f0_1 := f0_1.mono hle126
            replace f0_2 := f0_2.mono hle126
            replace hn107 := hn107.mono hle126
            replace zf113 := zf113.mono hle126
            replace hr115 := hr115.mono hle126
            replace hr118_0 := hr118_0.mono hle126
            have hn126sb := hn126.s.rv.big
            have hn126eb := hn126.e.rv.big
            have hn126db := hn126.d.rv.big
            refine TL.v rfl (OpVal.moveT (.inl rfl) rfl) rfl rfl ?_
            refine TL.v rfl (OpVal.extract rfl rfl rfl) rfl rfl ?_
            refine TL.v rfl (OpVal.extract rfl rfl rfl) rfl rfl ?_
            refine TL.op rfl (OpOk.alloc rfl ze25 rfl rfl (fun b127 => ?_))
            refine TL.op rfl (OpOk.storeAll rfl sz25 rfl rfl rfl rfl rfl rfl ?_)
            refine TL.v rfl (OpVal.moveI (.inr rfl) rfl) rfl rfl ?_
            refine TL.nil ?_
            refine S.n ?_
            refine TC.seq ?_
            refine TC.seq ?_
            refine TC.region ?_
            refine TL.v rfl (OpVal.moveI (.inl rfl) rfl) rfl rfl ?_
            refine TL.v rfl (OpVal.neq rfl rfl rfl) rfl rfl ?_
            refine TL.nil ?_
            refine S.n ?_
            refine TC.cond rfl (fun h129 => ?_) (fun h129 => ?_)
            · replace hh := iteO_t h129 hh
              replace h129 := of_decide_eq_true h129
              refine TC.seq ?_
              refine TC.region ?_
              refine TL.v rfl (OpVal.buildL rfl pl25 ze25 rfl) rfl rfl ?_
              refine TL.v rfl (OpVal.moveI (.inl rfl) rfl) rfl rfl ?_
              refine TL.front 3 rfl rfl ?_
              refine TL.op rfl (OpOk.storeAll rfl sz25 rfl rfl rfl rfl rfl rfl ?_)
              refine TL.v rfl (OpVal.moveI (.inr rfl) rfl) rfl rfl ?_
              refine TL.nil ?_
              refine S.n ?_
              refine TC.ofSub (Sub.pre 1 rfl) ?_
              refine TC.ret ?_
              refine S.r ?_
              refine S.r ?_
              obtain rfl := Option.some.inj hh
              exact RetOk.mk' (rs := [.cell 6 25, .tmp 7]) [] rfl (.inl rfl) (RVs.agg ag25 sz25 rfl (i := 0) rfl rfl (RVs.tmp rfl RVs.nil)) (List.sublist_append_left _ _) ⟨none, 0, none, 0, none, 0, rfl, (RS.nilF _ Go.E.encI Go.E.encI_len), (RS.nilF _ Go.E.encI Go.E.encI_len), (RS.nilF _ encE encE_len), rfl⟩
            · replace hh := iteO_f h129 hh
              replace h129 := of_decide_eq_false h129
              refine TC.skip ?_
              refine S.n ?_
              refine TC.region ?_
              refine TL.v rfl (OpVal.moveSl (.inl rfl) rfl) rfl rfl ?_
              refine TL.v rfl (OpVal.loadAll rfl ag25 sz25 rfl (i := 0) rfl rfl) rfl rfl ?_
              have zf132 : ZOk _ pkNfa ([((starR x0), ⟨p126.a1, p126.c1, p126.a2, p126.c2, p126.a3, p126.c3⟩)] : List (Nfa × pkNfa.P)) [(starR x0)] := ZOk.cons (⟨hn126.s, hn126.e, hn126.d, fun x _ => x.set.isOk⟩) (ZOk.nil _ _)
              refine TL.op rfl (OpOk.litZ zf132 rfl Try.underlying94 sz25 rfl ze25 rfl rfl rfl (by decide) (by decide) rfl (by decide) rfl (by decide) (fun a130 c131 => ?_))
              refine TL.front 2 rfl rfl ?_
              have u53 := grd_c hh
              replace hh := grd_t hh
              refine TL.op rfl (OpOk.appendZ (k := pkNfa) hr118_0 zf132 rfl rfl Try.underlying94 sz25 by25 ze25 rfl rfl (by decide) rfl rfl rfl (.inr ⟨_, 0, rfl⟩) (by simpa using u53) (by decide) (fun a134 c135 zf136 => ?_))
              refine TL.v rfl (OpVal.moveSl (.inr rfl) rfl) rfl rfl ?_
              refine TL.nil ?_
              refine S.n ?_
              refine ⟨by repeat (first | exact Agr.refl _ _ | exact Agr.mask | refine Agr.upd rfl ?_ | refine Agr.maskIn rfl ?_ | refine Agr.upds rfl ?_), ((v32 ++ [(starR x0)]), (a134, c135, (zr118_0 ++ ([((starR x0), ⟨p126.a1, p126.c1, p126.a2, p126.c2, p126.a3, p126.c3⟩)] : List (Nfa × pkNfa.P))), τ126)), ⟨hh, zf136, hle126⟩, by repeat (first | exact trivial | refine ⟨rfl, ?_⟩), Sub.front 3 rfl rfl (Sub.front 4 rfl rfl (Sub.front 5 rfl rfl (Sub.pre 4 rfl))), rfl⟩
          · replace hh := iteO_f h125 hh
            replace h125 := of_decide_eq_false h125
            refine TC.skip ?_
            refine S.n ?_
            refine ⟨by repeat (first | exact Agr.refl _ _ | exact Agr.mask | refine Agr.upd rfl ?_ | refine Agr.maskIn rfl ?_ | refine Agr.upds rfl ?_), (v32, (a118_1, c118_1, zr118_0, τ118)), ⟨hh, hr118_0, (Store.le.refl _)⟩, by repeat (first | exact trivial | refine ⟨rfl, ?_⟩), Sub.front 1 rfl rfl (Sub.front 2 rfl rfl (Sub.front 3 rfl rfl (Sub.pre 4 rfl))), rfl⟩
        · skip
          obtain ⟨l120, ⟨a121, c122, z123, τ137⟩⟩ := g
          obtain ⟨hh, zf124, hle138⟩ := hg
          try dsimp only at zf124
          dsimp only at hle138
          replace f0_0 := f0_0.mono hle138
          replace f0_1 := f0_1.mono hle138
          replace f0_2 := f0_2.mono hle138
          replace hn107 := hn107.mono hle138
          replace zf113 := zf113.mono hle138
          replace hr115 := hr115.mono hle138
          replace hr118_0 := hr118_0.mono hle138
          show TC _ _ _ (upds (mask _ j _) [(10, .slice a121 l120.length c122)]) τ137 [Res.cells b101 #[.int .i64 x0.states, .slice a0_0 x0.starts.length c0_0, .slice a0_1 x0.ends.length c0_1, .slice a0_2 x0.edges.length c0_2] 25, Res.cells b103 #[.int .i64 0, .slice none 0 0, .slice none 0 0, .slice none 0 0] 25, Res.cells b108 #[.int .i64 ((textR ([] : List UInt8)).states), .slice p107.a1 (((textR ([] : List UInt8)).starts).length) p107.c1, .slice p107.a2 (((textR ([] : List UInt8)).ends).length) p107.c2, .slice p107.a3 (((textR ([] : List UInt8)).edges).length) p107.c3] 25, Res.rowS 25 4 pkNfa.en (.slice a121 l120.length c122) z123]
          dsimp only [nfa_Rep_j1] at hh
          have zf124b := zf124.length
          refine TC.isSl (i := 3) rfl (fun _ hb139 _ => ?_)
          refine TC.seq ?_
          refine TC.seq ?_
          refine TC.region ?_
          refine TL.v rfl (OpVal.moveI (.inl rfl) rfl) rfl rfl ?_
          refine TL.v rfl (OpVal.moveI (.inl rfl) rfl) rfl rfl ?_
          refine TL.v rfl (OpVal.subW rfl rfl rfl) rfl rfl ?_
          refine TL.v rfl (OpVal.moveI (.inl rfl) rfl) rfl rfl ?_
          refine TL.nil ?_
          refine S.n ?_
          refine TC.block ?_
          refine TC.loopG (α := ((List Nfa) × Nat) × ((Option Addr) × Nat × (List (Nfa × pkNfa.P)) × Store)) [7, 10, 13, 14, 58, 59, 60, 61, 62, 63, 64, 65, 66, 67, 68, 69, 70, 71, 72, 73, 74] (fun g => [(10, .slice g.2.1 g.1.1.length g.2.2.1), (58, .int .i64 ((g.1.2 : Nat) : Int))]) (fun g => [Res.cells b101 #[.int .i64 x0.states, .slice a0_0 x0.starts.length c0_0, .slice a0_1 x0.ends.length c0_1, .slice a0_2 x0.edges.length c0_2] 25, Res.cells b103 #[.int .i64 0, .slice none 0 0, .slice none 0 0, .slice none 0 0] 25, Res.cells b108 #[.int .i64 ((textR ([] : List UInt8)).states), .slice p107.a1 (((textR ([] : List UInt8)).starts).length) p107.c1, .slice p107.a2 (((textR ([] : List UInt8)).ends).length) p107.c2, .slice p107.a3 (((textR ([] : List UInt8)).edges).length) p107.c3] 25, Res.rowS 25 4 pkNfa.en (.slice g.2.1 g.1.1.length g.2.2.1) g.2.2.2.1]) (fun g => g.2.2.2.2) (fun g => iter (fun q : (List Nfa) × Nat => nfa_Rep_b1 x2 x1 x0 q.1 q.2) g.1 = some r ∧ ZOk g.2.2.2.2 pkNfa g.2.2.2.1 g.1.1 ∧ Store.le τ137 g.2.2.2.2) (fun g => rounds (fun q : (List Nfa) × Nat => nfa_Rep_b1 x2 x1 x0 q.1 q.2) g.1) ((l120, 0), (a121, c122, z123, τ137)) (Sub.front 3 rfl rfl (Sub.front 3 rfl rfl (Sub.front 3 rfl rfl (Sub.front 3 rfl rfl (Sub.pre 4 rfl))))) rfl (by repeat (first | exact trivial | refine ⟨rfl, ?_⟩)) ⟨hh, zf124, (Store.le.refl _)⟩ (fun g1 j1 hg1 => ?_)
          obtain ⟨⟨l153, k158⟩, ⟨a154, c155, z156, τ159⟩⟩ := g1
          obtain ⟨hh, zf157, hle160⟩ := hg1
          try dsimp only at zf157
          dsimp only at hle160
          replace f0_0 := f0_0.mono hle160
          replace f0_1 := f0_1.mono hle160
          replace f0_2 := f0_2.mono hle160
          replace hn107 := hn107.mono hle160
          replace zf113 := zf113.mono hle160
          replace hr115 := hr115.mono hle160
          replace hr118_0 := hr118_0.mono hle160
          replace zf124 := zf124.mono hle160
          show TC _ _ _ (upds (mask _ j1 _) [(10, .slice a154 l153.length c155), (58, .int .i64 ((k158 : Nat) : Int))]) τ159 [Res.cells b101 #[.int .i64 x0.states, .slice a0_0 x0.starts.length c0_0, .slice a0_1 x0.ends.length c0_1, .slice a0_2 x0.edges.length c0_2] 25, Res.cells b103 #[.int .i64 0, .slice none 0 0, .slice none 0 0, .slice none 0 0] 25, Res.cells b108 #[.int .i64 ((textR ([] : List UInt8)).states), .slice p107.a1 (((textR ([] : List UInt8)).starts).length) p107.c1, .slice p107.a2 (((textR ([] : List UInt8)).ends).length) p107.c2, .slice p107.a3 (((textR ([] : List UInt8)).edges).length) p107.c3] 25, Res.rowS 25 4 pkNfa.en (.slice a154 l153.length c155) z156]
          obtain ⟨z1, hh, hR1⟩ := iter_e hh
          dsimp only [nfa_Rep_b1] at hh
          have zf157b := zf157.length
          refine TC.isSl (i := 3) rfl (fun _ hb161 _ => ?_)
          refine TC.seq ?_
          refine TC.region ?_
          refine TL.v rfl (OpVal.lss rfl rfl rfl) rfl rfl ?_
          refine TL.nil ?_
          refine S.n ?_
          refine TC.seq ?_
          refine TC.cond rfl (fun h162 => ?_) (fun h162 => ?_)
          · replace hh := iteO_t h162 hh
            replace h162 := of_decide_eq_true h162
            refine TC.skip ?_
            refine S.n ?_
            refine TC.seq ?_
            refine TC.block ?_
            refine TC.seq ?_
            refine TC.region ?_
            refine TL.v rfl (OpVal.loadAll rfl ag25 sz25 rfl (i := 0) rfl rfl) rfl rfl ?_
            refine TL.v rfl (OpVal.loadAll rfl ag25 sz25 rfl (i := 2) rfl rfl) rfl rfl ?_
            obtain ⟨v62, u62, hh⟩ := bnd_e hh
            refine TL.op rfl (OpOk.call (nfa_Alt_con (x0 := x0) (x1 := (textR ([] : List UInt8))) f0_0 f0_1 f0_2 hn107.s hn107.e hn107.d u62) rfl rfl pf28 rfl rfl rfl rfl ?_)
            rintro _ τ163 _ hle163 ⟨a163_1, c163_1, a163_2, c163_2, a163_3, c163_3, rfl, hr163_0, hr163_1, hr163_2, rfl⟩
            replace f0_0 := f0_0.mono hle163
            replace f0_1 := f0_1.mono hle163
            replace f0_2 := f0_2.mono hle163
            replace hn107 := hn107.mono hle163
            replace zf113 := zf113.mono hle163
            replace hr115 := hr115.mono hle163
            replace hr118_0 := hr118_0.mono hle163
            replace zf124 := zf124.mono hle163
            replace zf157 := zf157.mono hle163
            have hr163_0b := hr163_0.rv.big
            have hr163_1b := hr163_1.rv.big
            have hr163_2b := hr163_2.rv.big
            refine TL.v rfl (OpVal.moveT (.inl rfl) rfl) rfl rfl ?_
            refine TL.v rfl (OpVal.extract rfl rfl rfl) rfl rfl ?_
            refine TL.v rfl (OpVal.extract rfl rfl rfl) rfl rfl ?_
            refine TL.op rfl (OpOk.alloc rfl ze25 rfl rfl (fun b164 => ?_))
            refine TL.op rfl (OpOk.storeAll rfl sz25 rfl rfl rfl rfl rfl rfl ?_)
            refine TL.v rfl (OpVal.moveI (.inr rfl) rfl) rfl rfl ?_
            refine TL.nil ?_
            refine S.n ?_
            refine TC.seq ?_
            refine TC.seq ?_
            refine TC.region ?_
            refine TL.v rfl (OpVal.moveI (.inl rfl) rfl) rfl rfl ?_
            refine TL.v rfl (OpVal.neq rfl rfl rfl) rfl rfl ?_
            refine TL.nil ?_
            refine S.n ?_
            refine TC.cond rfl (fun h166 => ?_) (fun h166 => ?_)
            · replace hh := iteO_t h166 hh
              replace h166 := of_decide_eq_true h166
              refine TC.seq ?_
              refine TC.region ?_
              refine TL.v rfl (OpVal.buildL rfl pl25 ze25 rfl) rfl rfl ?_
              refine TL.v rfl (OpVal.moveI (.inl rfl) rfl) rfl rfl ?_
              refine TL.front 2 rfl rfl ?_
              refine TL.op rfl (OpOk.storeAll rfl sz25 rfl rfl rfl rfl rfl rfl ?_)
              refine TL.v rfl (OpVal.moveI (.inr rfl) rfl) rfl rfl ?_
              refine TL.nil ?_
              refine S.n ?_
              refine TC.ofSub (Sub.pre 1 rfl) ?_
              refine TC.ret ?_
              refine S.r ?_
              refine B.r ?_
              refine S.r ?_
              refine S.r ?_
              replace hh := fin_x hR1 hh
              refine B.r ?_
              refine S.r ?_
              obtain rfl := Option.some.inj hh
              exact RetOk.mk' (rs := [.cell 6 25, .tmp 7]) [] rfl (.inl rfl) (RVs.agg ag25 sz25 rfl (i := 0) rfl rfl (RVs.tmp rfl RVs.nil)) (List.sublist_append_left _ _) ⟨none, 0, none, 0, none, 0, rfl, (RS.nilF _ Go.E.encI Go.E.encI_len), (RS.nilF _ Go.E.encI Go.E.encI_len), (RS.nilF _ encE encE_len), rfl⟩
            · replace hh := iteO_f h166 hh
              replace h166 := of_decide_eq_false h166
              refine TC.skip ?_
              refine S.n ?_
              refine TC.region ?_
              refine TL.v rfl (OpVal.moveSl (.inl rfl) rfl) rfl rfl ?_
              refine TL.v rfl (OpVal.loadAll rfl ag25 sz25 rfl (i := 0) rfl rfl) rfl rfl ?_
              have zf169 : ZOk _ pkNfa ([(v62.1, ⟨a163_1, c163_1, a163_2, c163_2, a163_3, c163_3⟩)] : List (Nfa × pkNfa.P)) [v62.1] := ZOk.cons (⟨hr163_0, hr163_1, hr163_2, fun x _ => x.set.isOk⟩) (ZOk.nil _ _)
              refine TL.op rfl (OpOk.litZ zf169 rfl Try.underlying94 sz25 rfl ze25 rfl rfl rfl (by decide) (by decide) rfl (by decide) rfl (by decide) (fun a167 c168 => ?_))
              refine TL.front 5 rfl rfl ?_
              have u78 := grd_c hh
              replace hh := grd_t hh
              refine TL.op rfl (OpOk.appendZ (k := pkNfa) zf157 zf169 rfl rfl Try.underlying94 sz25 by25 ze25 rfl rfl (by decide) rfl rfl rfl (.inr ⟨_, 0, rfl⟩) (by simpa using u78) (by decide) (fun a171 c172 zf173 => ?_))
              refine TL.v rfl (OpVal.moveSl (.inr rfl) rfl) rfl rfl ?_
              refine TL.nil ?_
              refine B.n ?_
              refine S.n ?_
              refine TC.region ?_
              have u80 := grd_c hh
              replace hh := grd_t hh
              refine TL.v rfl (OpVal.succ rfl rfl rfl (by omega)) rfl rfl ?_
              refine TL.v rfl (OpVal.moveI (.inl rfl) rfl) rfl rfl ?_
              refine TL.nil ?_
              refine S.n ?_
              obtain ⟨hh, hlt174⟩ := nxt_x hR1 hh
              refine ⟨by repeat (first | exact Agr.refl _ _ | exact Agr.mask | refine Agr.upd rfl ?_ | refine Agr.maskIn rfl ?_ | refine Agr.upds rfl ?_), (((l153 ++ [v62.1]), (k158 + 1)), (a171, c172, (z156 ++ ([(v62.1, ⟨a163_1, c163_1, a163_2, c163_2, a163_3, c163_3⟩)] : List (Nfa × pkNfa.P))), τ163)), hlt174, ⟨hh, zf173, (hle160.trans hle163)⟩, by repeat (first | exact trivial | refine ⟨rfl, ?_⟩), Sub.front 5 rfl rfl (Sub.front 5 rfl rfl (Sub.front 5 rfl rfl (Sub.pre 4 rfl))), rfl⟩
          · replace hh := iteO_f h162 hh
            replace h162 := of_decide_eq_false h162
            refine TC.exit ?_
            refine S.x ?_
            refine S.x ?_
            replace hh := fin_x hR1 hh
            refine TC.exitHere ?_
            refine S.n ?_
            refine TC.seq ?_
            refine TC.region ?_
            refine TL.v rfl (OpVal.loadAll rfl ag25 sz25 rfl (i := 2) rfl rfl) rfl rfl ?_
            refine TL.op rfl (OpOk.alloc rfl ze25 rfl rfl (fun b175 => ?_))
            refine TL.op rfl (OpOk.storeAll rfl sz25 rfl rfl rfl rfl rfl rfl ?_)
            refine TL.nil ?_
            refine S.n ?_
            refine TC.seq ?_
            refine TC.seq ?_
            refine TC.region ?_
            refine TL.v rfl (OpVal.moveSl (.inl rfl) rfl) rfl rfl ?_
            refine TL.v rfl (OpVal.lenC rfl Try.underlying94 rfl) rfl rfl ?_
            refine TL.v rfl (OpVal.moveI (.inl rfl) rfl) rfl rfl ?_
            refine TL.nil ?_
            refine S.n ?_
            refine TC.block ?_
            refine TC.loopG (α := (Int × (List Int) × (List Int) × (List Arrow) × Nat) × ((Option Addr) × Nat × (Option Addr) × Nat × (Option Addr) × Nat × Store)) [7, 9, 17, 78, 79, 80, 81, 82, 83, 84, 85, 86, 87, 88, 89, 90, 91, 92] (fun g => [(78, .int .i64 ((g.1.2.2.2.2 : Nat) : Int))]) (fun g => [Res.cells b103 #[.int .i64 0, .slice none 0 0, .slice none 0 0, .slice none 0 0] 25, Res.cells b175 #[.int .i64 g.1.1, .slice g.2.1 g.1.2.1.length g.2.2.1, .slice g.2.2.2.1 g.1.2.2.1.length g.2.2.2.2.1, .slice g.2.2.2.2.2.1 g.1.2.2.2.1.length g.2.2.2.2.2.2.1] 25, Res.rowS 25 4 pkNfa.en (.slice a154 l153.length c155) z156]) (fun g => g.2.2.2.2.2.2.2) (fun g => iter (fun q : Int × (List Int) × (List Int) × (List Arrow) × Nat => nfa_Rep_b2 l153 q.1 q.2.1 q.2.2.1 q.2.2.2.1 q.2.2.2.2) g.1 = some r ∧ RS g.2.2.2.2.2.2.2 1 Go.E.encI (.slice g.2.1 g.1.2.1.length g.2.2.1) g.1.2.1 ∧ RS g.2.2.2.2.2.2.2 1 Go.E.encI (.slice g.2.2.2.1 g.1.2.2.1.length g.2.2.2.2.1) g.1.2.2.1 ∧ RS g.2.2.2.2.2.2.2 6 encE (.slice g.2.2.2.2.2.1 g.1.2.2.2.1.length g.2.2.2.2.2.2.1) g.1.2.2.2.1 ∧ ZOk g.2.2.2.2.2.2.2 pkNfa z156 l153 ∧ Store.le τ159 g.2.2.2.2.2.2.2) (fun g => rounds (fun q : Int × (List Int) × (List Int) × (List Arrow) × Nat => nfa_Rep_b2 l153 q.1 q.2.1 q.2.2.1 q.2.2.2.1 q.2.2.2.2) g.1) ((((textR ([] : List UInt8)).states), (textR ([] : List UInt8)).starts, (textR ([] : List UInt8)).ends, (textR ([] : List UInt8)).edges, 0), (p107.a1, p107.c1, p107.a2, p107.c2, p107.a3, p107.c3, τ159)) (Sub.front 4 rfl rfl (Sub.front 1 rfl rfl (Sub.front 3 rfl rfl (Sub.pre 3 rfl)))) rfl (by repeat (first | exact trivial | refine ⟨rfl, ?_⟩)) ⟨hh, hn107.s, hn107.e, hn107.d, zf157, (Store.le.refl _)⟩ (fun g2 j2 hg2 => ?_)
            obtain ⟨⟨i208, l209, l213, l217, k222⟩, ⟨a210, c211, a214, c215, a218, c219, τ223⟩⟩ := g2
            obtain ⟨hh, hr212, hr216, hr220, zf221, hle224⟩ := hg2
            try dsimp only at hr212
            try dsimp only at hr216
            try dsimp only at hr220
            try dsimp only at zf221
            dsimp only at hle224
            replace f0_0 := f0_0.mono hle224
            replace f0_1 := f0_1.mono hle224
            replace f0_2 := f0_2.mono hle224
            replace hn107 := hn107.mono hle224
            replace zf113 := zf113.mono hle224
            replace hr115 := hr115.mono hle224
            replace hr118_0 := hr118_0.mono hle224
            replace zf124 := zf124.mono hle224
            replace zf157 := zf157.mono hle224
            show TC _ _ _ (upds (mask _ j2 _) [(78, .int .i64 ((k222 : Nat) : Int))]) τ223 [Res.cells b103 #[.int .i64 0, .slice none 0 0, .slice none 0 0, .slice none 0 0] 25, Res.cells b175 #[.int .i64 i208, .slice a210 l209.length c211, .slice a214 l213.length c215, .slice a218 l217.length c219] 25, Res.rowS 25 4 pkNfa.en (.slice a154 l153.length c155) z156]
            obtain ⟨z1, hh, hR1⟩ := iter_e hh
            dsimp only [nfa_Rep_b2] at hh
            have hr212b := hr212.rv.big
            have hr216b := hr216.rv.big
            have hr220b := hr220.rv.big
            have zf221b := zf221.length
            refine TC.isSl (i := 2) rfl (fun _ hb225 _ => ?_)
            refine TC.seq ?_
            refine TC.region ?_
            refine TL.v rfl (OpVal.lss rfl rfl rfl) rfl rfl ?_
            refine TL.nil ?_
            refine S.n ?_
            refine TC.seq ?_
            refine TC.cond rfl (fun h226 => ?_) (fun h226 => ?_)
            · replace hh := iteO_t h226 hh
              replace h226 := of_decide_eq_true h226
              refine TC.skip ?_
              refine S.n ?_
              refine TC.seq ?_
              refine TC.block ?_
              refine TC.seq ?_
              refine TC.region ?_
              refine TL.isSl (i := 2) rfl (fun hs227 _ _ => ?_)
              refine TL.v rfl (OpVal.indexN rfl Try.underlying94 sz25 rfl rfl (zf221.isSl hs227) (by omega)) rfl rfl ?_
              obtain ⟨p228, hp228⟩ : ∃ p, p = (nth z156 k222 (pkNfa.d, pkNfa.dp)).2 := ⟨_, rfl⟩
              have hk228 : RNfa τ223 (nth l153 k222 Nfa.zero) p228 := by rw [hp228]; exact (zf221.at (by omega)).2
              refine TL.v rfl ((hp228 ▸ OpVal.loadOZA zf221 rfl ag25 sz25 rfl (by decide) rfl (q := 2) rfl (by omega))) rfl rfl ?_
              refine TL.op rfl (OpOk.alloc rfl ze25 rfl rfl (fun b229 => ?_))
              refine TL.op rfl (OpOk.storeAll rfl sz25 rfl rfl rfl rfl rfl rfl ?_)
              refine TL.nil ?_
              refine S.n ?_
              refine TC.seq ?_
              refine TC.region ?_
              refine TL.v rfl (OpVal.loadAll rfl ag25 sz25 rfl (i := 2) rfl rfl) rfl rfl ?_
              refine TL.v rfl (OpVal.loadAll rfl ag25 sz25 rfl (i := 0) rfl rfl) rfl rfl ?_
              refine TL.op rfl (OpOk.call (cat_con _ (⟨i208, l209, l213, l217⟩ : Nfa) (nth l153 k222 Nfa.zero) ⟨a210, c211, a214, c215, a218, c219⟩ ⟨p228.a1, p228.c1, p228.a2, p228.c2, p228.a3, p228.c3⟩ ⟨hr212, hr216, hr220, fun x _ => x.set.isOk⟩ ⟨hk228.s, hk228.e, hk228.d, fun x _ => x.set.isOk⟩) rfl rfl pf27 rfl rfl rfl rfl ?_)
              rintro _ τ231 _ hle231 ⟨p231, rfl, hn231, rfl⟩
              replace f0_0 := f0_0.mono hle231
              replace f0_1 := f0_1.mono hle231
              replace f0_2 := f0_2.mono hle231
              replace hn107 := hn107.mono hle231
              replace zf113 := zf113.mono hle231
              replace hr115 := hr115.mono hle231
              replace hr118_0 := hr118_0.mono hle231
              replace zf124 := zf124.mono hle231
              replace zf157 := zf157.mono hle231
              replace hr212 := hr212.mono hle231
              replace hr216 := hr216.mono hle231
              replace hr220 := hr220.mono hle231
              replace zf221 := zf221.mono hle231
              replace hk228 := hk228.mono hle231
              have hn231sb := hn231.s.rv.big
              have hn231eb := hn231.e.rv.big
              have hn231db := hn231.d.rv.big
              refine TL.v rfl (OpVal.moveT (.inl rfl) rfl) rfl rfl ?_
              refine TL.v rfl (OpVal.extract rfl rfl rfl) rfl rfl ?_
              refine TL.v rfl (OpVal.extract rfl rfl rfl) rfl rfl ?_
              refine TL.front 2 rfl rfl ?_
              refine TL.op rfl (OpOk.storeAll rfl sz25 rfl rfl rfl rfl rfl rfl ?_)
              refine TL.v rfl (OpVal.moveI (.inr rfl) rfl) rfl rfl ?_
              refine TL.nil ?_
              refine S.n ?_
              refine TC.seq ?_
              refine TC.region ?_
              refine TL.v rfl (OpVal.moveI (.inl rfl) rfl) rfl rfl ?_
              refine TL.v rfl (OpVal.neq rfl rfl rfl) rfl rfl ?_
              refine TL.nil ?_
              refine S.n ?_
              refine TC.cond rfl (fun h232 => ?_) (fun h232 => ?_)
              · replace hh := iteO_t h232 hh
                replace h232 := of_decide_eq_true h232
                refine TC.seq ?_
                refine TC.region ?_
                refine TL.v rfl (OpVal.buildL rfl pl25 ze25 rfl) rfl rfl ?_
                refine TL.v rfl (OpVal.moveI (.inl rfl) rfl) rfl rfl ?_
                refine TL.front 2 rfl rfl ?_
                refine TL.op rfl (OpOk.storeAll rfl sz25 rfl rfl rfl rfl rfl rfl ?_)
                refine TL.v rfl (OpVal.moveI (.inr rfl) rfl) rfl rfl ?_
                refine TL.nil ?_
                refine S.n ?_
                refine TC.ofSub (Sub.pre 1 rfl) ?_
                refine TC.ret ?_
                refine B.r ?_
                refine S.r ?_
                refine S.r ?_
                replace hh := fin_x hR1 hh
                refine B.r ?_
                refine S.r ?_
                obtain rfl := Option.some.inj hh
                exact RetOk.mk' (rs := [.cell 6 25, .tmp 7]) [] rfl (.inl rfl) (RVs.agg ag25 sz25 rfl (i := 0) rfl rfl (RVs.tmp rfl RVs.nil)) (List.sublist_append_left _ _) ⟨none, 0, none, 0, none, 0, rfl, (RS.nilF _ Go.E.encI Go.E.encI_len), (RS.nilF _ Go.E.encI Go.E.encI_len), (RS.nilF _ encE encE_len), rfl⟩
              · replace hh := iteO_f h232 hh
                replace h232 := of_decide_eq_false h232
                refine TC.skip ?_
                refine B.n ?_
                refine S.n ?_
                refine TC.region ?_
                refine TL.v rfl (OpVal.succ rfl rfl rfl (by omega)) rfl rfl ?_
                refine TL.v rfl (OpVal.moveI (.inl rfl) rfl) rfl rfl ?_
                refine TL.nil ?_
                refine S.n ?_
                obtain ⟨hh, hlt233⟩ := nxt_x hR1 hh
                refine ⟨by repeat (first | exact Agr.refl _ _ | exact Agr.mask | refine Agr.upd rfl ?_ | refine Agr.maskIn rfl ?_ | refine Agr.upds rfl ?_), ((((catR (⟨i208, l209, l213, l217⟩ : Nfa) (nth l153 k222 Nfa.zero)).states), (catR (⟨i208, l209, l213, l217⟩ : Nfa) (nth l153 k222 Nfa.zero)).starts, (catR (⟨i208, l209, l213, l217⟩ : Nfa) (nth l153 k222 Nfa.zero)).ends, (catR (⟨i208, l209, l213, l217⟩ : Nfa) (nth l153 k222 Nfa.zero)).edges, (k222 + 1)), (p231.a1, p231.c1, p231.a2, p231.c2, p231.a3, p231.c3, τ231)), hlt233, ⟨hh, hn231.s, hn231.e, hn231.d, zf221, (hle224.trans hle231)⟩, by repeat (first | exact trivial | refine ⟨rfl, ?_⟩), Sub.front 3 rfl rfl (Sub.front 1 rfl rfl (Sub.front 3 rfl rfl (Sub.pre 3 rfl))), rfl⟩
            · replace hh := iteO_f h226 hh
              replace h226 := of_decide_eq_false h226
              refine TC.exit ?_
              refine S.x ?_
              refine S.x ?_
              replace hh := fin_x hR1 hh
              refine TC.exitHere ?_
              refine S.n ?_
              refine TC.seq ?_
              refine TC.region ?_
              refine TL.v rfl (OpVal.loadAll rfl ag25 sz25 rfl (i := 1) rfl rfl) rfl rfl ?_
              refine TL.op rfl (OpOk.storeAll rfl sz25 rfl rfl rfl rfl rfl rfl ?_)
              refine TL.v rfl (OpVal.moveI (.inr rfl) rfl) rfl rfl ?_
              refine TL.nil ?_
              refine S.n ?_
              refine TC.ofSub (Sub.pre 1 rfl) ?_
              refine TC.ret ?_
              obtain rfl := Option.some.inj hh
              exact RetOk.mk' (rs := [.cell 6 25, .tmp 7]) [] rfl (.inl rfl) (RVs.agg ag25 sz25 rfl (i := 0) rfl rfl (RVs.tmp rfl RVs.nil)) (List.sublist_append_left _ _) ⟨a210, c211, a214, c215, a218, c219, rfl, hr212, hr216, hr220, rfl⟩

end Go.Proofs.Ytcidppnlhhkhhaa
end

/- N7 -/
section
/- Decompiled: the law on how often. -/
set_option linter.unusedVariables false
set_option linter.unusedSimpArgs false
namespace Go.Proofs.Ytcidppnlhhkhhaa
open Go Go.E
set_option maxRecDepth 100000
private theorem by47 : Go.E.byOf Try.prog 47 = some 24 := by kernel_rfl
private theorem pf14 : Go.E.plainF Try.prog 14 = true := by kernel_rfl
private theorem pf17 : Go.E.plainF Try.prog 17 = true := by kernel_rfl
private theorem pf25 : Go.E.plainF Try.prog 25 = true := by kernel_rfl
private theorem pf33 : Go.E.plainF Try.prog 33 = true := by kernel_rfl
private theorem pf35 : Go.E.plainF Try.prog 35 = true := by kernel_rfl

noncomputable def whittlelaw10_often_j2 (k198 : Nat) (l205 : List (List Bool)) : Option (((List (List Bool)) × Nat) ⊕ (((List (List Bool)) × Nat) ⊕ (((List (List Bool)) × Nat) ⊕ ((List Bool))))) :=
  nxt (l205, (k198 + 1))
noncomputable def whittlelaw10_often_j1 (k175 : Nat) (l178 : List (List Bool)) : Option (((List (List Bool)) × Nat) ⊕ (((List (List Bool)) × Nat) ⊕ ((List Bool)))) :=
  nxt (l178, (k175 + 1))
noncomputable def whittlelaw10_often_b4 (x1 : List UInt8) (k175 : Nat) (k156 : Nat) (x0 : Nfa) (l194 : List (List Bool)) (k198 : Nat) : Option (((List (List Bool)) × Nat) ⊕ (((List (List Bool)) × Nat) ⊕ (((List (List Bool)) × Nat) ⊕ ((List Bool))))) :=
  iteO (decide (((k198 : Nat) : Int) ≤ ((x1.length : Nat) : Int))) (grd (k175 < l194.length) (grd (k156 < (nth l194 k175 ([] : List Bool)).length) (iteO (nth (nth l194 k175 ([] : List Bool)) k156 false) (grd (k175 ≤ k198 ∧ k198 ≤ x1.length) (bnd (whittlelaw10_takes x0 ((x1.take k198).drop k175)) (fun v54 => iteO v54 (grd (k198 < l194.length) (grd ((k156 + 1) < (nth l194 k198 ([] : List Bool)).length) (whittlelaw10_often_j2 k198 (l194.set k198 ((nth l194 k198 ([] : List Bool)).set (k156 + 1) true))))) (whittlelaw10_often_j2 k198 l194)))) (fin (whittlelaw10_often_j1 k175 l194))))) (fin (whittlelaw10_often_j1 k175 l194))
noncomputable def whittlelaw10_often_b3 (x1 : List UInt8) (k156 : Nat) (x0 : Nfa) (l171 : List (List Bool)) (k175 : Nat) : Option (((List (List Bool)) × Nat) ⊕ (((List (List Bool)) × Nat) ⊕ ((List Bool)))) :=
  iteO (decide (((k175 : Nat) : Int) ≤ ((x1.length : Nat) : Int))) (iter (fun q : (List (List Bool)) × Nat => whittlelaw10_often_b4 x1 k175 k156 x0 q.1 q.2) (l171, k175)) (fin (nxt (l171, (k156 + 1))))
noncomputable def whittlelaw10_often_b2 (x1 : List UInt8) (x0 : Nfa) (l152 : List (List Bool)) (k156 : Nat) : Option (((List (List Bool)) × Nat) ⊕ ((List Bool))) :=
  iteO (decide (((k156 : Nat) : Int) < 8)) (iter (fun q : (List (List Bool)) × Nat => whittlelaw10_often_b3 x1 k156 x0 q.1 q.2) (l152, 0)) (fin (grd (x1.length < l152.length) (some (nth l152 x1.length ([] : List Bool)))))
noncomputable def whittlelaw10_often_b1 (x1 : List UInt8) (x0 : Nfa) (l118 : List (List Bool)) (k122 : Nat) : Option (((List (List Bool)) × Nat) ⊕ ((List Bool))) :=
  iteO (decide (((k122 : Nat) : Int) ≤ ((x1.length : Nat) : Int))) (grd (k122 < l118.length) (nxt ((l118.set k122 (List.replicate 9 false)), (k122 + 1)))) (fin (grd (0 < l118.length) (grd (0 < (nth l118 0 ([] : List Bool)).length) (iter (fun q : (List (List Bool)) × Nat => whittlelaw10_often_b2 x1 x0 q.1 q.2) ((l118.set 0 ((nth l118 0 ([] : List Bool)).set 0 true)), 0)))))
noncomputable def whittlelaw10_often (x0 : Nfa) (x1 : List UInt8) : Option ((List Bool)) :=
  grd (x1.length ≤ 281474976710656) (grd (24 * (x1.length + 1) ≤ 281474976710656) (iter (fun q : (List (List Bool)) × Nat => whittlelaw10_often_b1 x1 x0 q.1 q.2) ((List.replicate (x1.length + 1) ([] : List Bool)), 0)))
def whittlelaw10_often_P (σ : Store) (r : (List Bool)) : Value → Store → List Res → Prop := fun v σ' H' =>
  ∃ (a1 : Option Addr), ∃ (c1 : Nat),  v = .slice a1 r.length c1 ∧ RS σ' 1 encB (.slice a1 r.length c1) r ∧ H' = []
theorem whittlelaw10_often_con {σ : Store} {x0 : Nfa} {a0_0 : Option Addr} {c0_0 : Nat} {a0_1 : Option Addr} {c0_1 : Nat} {a0_2 : Option Addr} {c0_2 : Nat} {x1 : List UInt8} (f0_0 : RS σ 1 Go.E.encI (.slice a0_0 x0.starts.length c0_0) x0.starts) (f0_1 : RS σ 1 Go.E.encI (.slice a0_1 x0.ends.length c0_1) x0.ends) (f0_2 : RS σ 6 encE (.slice a0_2 x0.edges.length c0_2) x0.edges) {r : (List Bool)} (hh : whittlelaw10_often x0 x1 = some r) :
    Con Try.prog 35 #[.agg #[.int .i64 x0.states, .slice a0_0 x0.starts.length c0_0, .slice a0_1 x0.ends.length c0_1, .slice a0_2 x0.edges.length c0_2], .string (bs x1)] σ [] (whittlelaw10_often_P σ r) := by
  dsimp only [whittlelaw10_often] at hh
  have f0_0b := f0_0.rv.big
  have f0_1b := f0_1.rv.big
  have f0_2b := f0_2.rv.big
  refine Con.mk (n := 72) Try.func35 rfl rfl rfl (fun w0 => ?_)
  have x1b := grd_c hh
  replace hh := grd_t hh
  refine TC.seq ?_
  refine TC.region ?_
  refine TL.op rfl (OpOk.boxA rfl rfl rfl rfl (fun b101 => ?_))
  refine TL.v rfl (OpVal.moveSl (.inr rfl) rfl) rfl rfl ?_
  refine TL.nil ?_
  refine S.n ?_
  refine TC.seq ?_
  refine TC.region ?_
  refine TL.v rfl (OpVal.moveStr (.inl rfl) rfl) rfl rfl ?_
  refine TL.v rfl (OpVal.lenBs rfl Try.underlying9 rfl) rfl rfl ?_
  refine TL.v rfl (OpVal.succ rfl rfl rfl (by omega)) rfl rfl ?_
  have u6 := grd_c hh
  replace hh := grd_t hh
  refine TL.op rfl (OpOk.makeN (E := 4) (size := 1) (enc := encB) rfl Try.underlying96 sz47 by47 ze47 rfl rfl rfl rfl (by omega) (by decide) rfl (fun a103 c104 zf105 => ?_))
  refine TL.v rfl (OpVal.moveSl (.inr rfl) rfl) rfl rfl ?_
  refine TL.nil ?_
  refine S.n ?_
  refine TC.seq ?_
  refine TC.seq ?_
  refine TC.region ?_
  refine TL.v rfl (OpVal.moveI (.inr rfl) rfl) rfl rfl ?_
  refine TL.nil ?_
  refine S.n ?_
  refine TC.block ?_
  refine TC.loopG (α := ((List (List Bool)) × Nat) × ((List (NP Bool)))) [6, 14, 15, 16, 17, 18, 19, 20, 21, 22, 23] (fun g => [(6, .int .i64 ((g.1.2 : Nat) : Int))]) (fun g => [Res.cells b101 #[.int .i64 x0.states, .slice a0_0 x0.starts.length c0_0, .slice a0_1 x0.ends.length c0_1, .slice a0_2 x0.edges.length c0_2] 25, Res.nest 47 4 1 encB (.slice a103 (List.replicate (x1.length + 1) ([] : List Bool)).length c104) g.2]) (fun g => σ) (fun g => iter (fun q : (List (List Bool)) × Nat => whittlelaw10_often_b1 x1 x0 q.1 q.2) g.1 = some r ∧ g.1.1.length = (List.replicate (x1.length + 1) ([] : List Bool)).length ∧ Zn g.2 g.1.1) (fun g => rounds (fun q : (List (List Bool)) × Nat => whittlelaw10_often_b1 x1 x0 q.1 q.2) g.1) (((List.replicate (x1.length + 1) ([] : List Bool)), 0), (List.replicate (x1.length + 1) (nilN : NP Bool))) (Sub.front 1 rfl rfl (Sub.pre 2 rfl)) rfl (by repeat (first | exact trivial | refine ⟨rfl, ?_⟩)) ⟨hh, rfl, zf105⟩ (fun g1 j1 hg1 => ?_)
  obtain ⟨⟨l118, k122⟩, z120⟩ := g1
  obtain ⟨hh, hn119, zf121⟩ := hg1
  try dsimp only at hn119
  try dsimp only at zf121
  show TC _ _ _ (upds (mask _ j1 _) [(6, .int .i64 ((k122 : Nat) : Int))]) _ [Res.cells b101 #[.int .i64 x0.states, .slice a0_0 x0.starts.length c0_0, .slice a0_1 x0.ends.length c0_1, .slice a0_2 x0.edges.length c0_2] 25, Res.nest 47 4 1 encB (.slice a103 (List.replicate (x1.length + 1) ([] : List Bool)).length c104) z120]
  obtain ⟨z1, hh, hR1⟩ := iter_e hh
  dsimp only [whittlelaw10_often_b1] at hh
  have hn119b := hn119
  have zf121b := zf121.len
  refine TC.know (isSl_nest (q := 1) rfl zf121) (fun ⟨_, hb123⟩ => ?_)
  refine TC.seq ?_
  refine TC.seq ?_
  refine TC.region ?_
  refine TL.v rfl (OpVal.moveI (.inl rfl) rfl) rfl rfl ?_
  refine TL.v rfl (OpVal.moveStr (.inl rfl) rfl) rfl rfl ?_
  refine TL.v rfl (OpVal.lenBs rfl Try.underlying9 rfl) rfl rfl ?_
  refine TL.v rfl (OpVal.leq rfl rfl rfl) rfl rfl ?_
  refine TL.nil ?_
  refine S.n ?_
  refine TC.cond rfl (fun h124 => ?_) (fun h124 => ?_)
  · replace hh := iteO_t h124 hh
    replace h124 := of_decide_eq_true h124
    refine TC.skip ?_
    refine S.n ?_
    refine TC.seq ?_
    refine TC.block ?_
    refine TC.region ?_
    refine TL.v rfl (OpVal.moveSl (.inl rfl) rfl) rfl rfl ?_
    refine TL.v rfl (OpVal.moveI (.inl rfl) rfl) rfl rfl ?_
    refine TL.op rfl (OpOk.makeS2 (m := 9) (enc := encB) false rfl Try.underlying47 sz4 by4 ze4 rfl rfl rfl rfl (by omega) (by decide) encB_len (by decide) rfl encB_one (fun a125 c126 => ?_))
    have u16 := grd_c hh
    replace hh := grd_t hh
    refine TL.know (isSl_nest (q := 2) rfl zf121) (fun ⟨hs128, hs128b⟩ => ?_)
    refine TL.v rfl (OpVal.indexN rfl Try.underlying96 sz47 rfl rfl hs128 (by omega)) rfl rfl ?_
    obtain ⟨p129, hz129, hm129⟩ := Zn.at zf121 (i := k122) (by omega)
    refine TL.front 2 rfl rfl ?_
    refine TL.by (fun w h => Reach.takeN hz129 hm129 h) ?_
    refine TL.by (fun w h => h.sub (List.sublist_cons_self _ _)) ?_
    refine TL.front 1 rfl rfl ?_
    have hn132 : (l118.set k122 (List.replicate 9 false)).length = (List.replicate (x1.length + 1) ([] : List Bool)).length := (List.length_set ..).trans hn119
    refine TL.op rfl (OpOk.storeX (l' := (List.replicate 9 false)) rfl sz47 rfl rfl rfl rfl rfl hz129 zf121 (fun zf131 => ?_))
    refine TL.nil ?_
    refine B.n ?_
    refine S.n ?_
    refine TC.region ?_
    refine TL.v rfl (OpVal.moveI (.inl rfl) rfl) rfl rfl ?_
    refine TL.v rfl (OpVal.succ rfl rfl rfl (by omega)) rfl rfl ?_
    refine TL.v rfl (OpVal.moveI (.inr rfl) rfl) rfl rfl ?_
    refine TL.nil ?_
    refine S.n ?_
    obtain ⟨hh, hlt133⟩ := nxt_x hR1 hh
    refine ⟨by repeat (first | exact Agr.refl _ _ | exact Agr.mask | refine Agr.upd rfl ?_ | refine Agr.maskIn rfl ?_ | refine Agr.upds rfl ?_), (((l118.set k122 (List.replicate 9 false)), (k122 + 1)), (z120.set k122 ((List.replicate 9 false), (a125, c126)))), hlt133, ⟨hh, hn132, zf131⟩, by repeat (first | exact trivial | refine ⟨rfl, ?_⟩), Sub.front 1 rfl rfl (Sub.pre 2 rfl), rfl⟩
  · replace hh := iteO_f h124 hh
    replace h124 := of_decide_eq_false h124
    refine TC.exit ?_
    refine S.x ?_
    refine S.x ?_
    replace hh := fin_x hR1 hh
    refine TC.exitHere ?_
    refine S.n ?_
    refine TC.seq ?_
    refine TC.region ?_
    refine TL.v rfl (OpVal.moveSl (.inl rfl) rfl) rfl rfl ?_
    have u22 := grd_c hh
    replace hh := grd_t hh
    refine TL.know (isSl_nest (q := 1) rfl zf121) (fun ⟨hs134, hs134b⟩ => ?_)
    refine TL.v rfl (OpVal.indexN (i := 0) rfl Try.underlying96 sz47 rfl rfl hs134 (by omega)) rfl rfl ?_
    obtain ⟨p135, hz135, hm135⟩ := Zn.at zf121 (i := 0) (by omega)
    refine TL.v rfl (OpVal.loadN rfl ag47 rfl (q := 1) rfl hz135 hm135) rfl rfl ?_
    have u24 := grd_c hh
    replace hh := grd_t hh
    refine TL.know (isSl_inner (q := 1) rfl hz135 hm135) (fun ⟨hs136, hs136b⟩ => ?_)
    refine TL.v rfl (OpVal.indexN (i := 0) rfl Try.underlying47 sz4 rfl rfl hs136 (by omega)) rfl rfl ?_
    refine TL.front 1 rfl rfl ?_
    refine TL.by (fun w h => Reach.takeN hz135 hm135 h) ?_
    have hn139 : (l118.set 0 ((nth l118 0 ([] : List Bool)).set 0 true)).length = (List.replicate (x1.length + 1) ([] : List Bool)).length := (List.length_set ..).trans hn119
    refine TL.op rfl (OpOk.storeS true rfl sz4 rfl rfl rfl rfl encB_len encB_one (by decide) (by omega) ?_)
    refine TL.by (fun w h => Reach.putN hz135 hm135 (by rw [List.length_set]) h) ?_
    have zf138 := Zn.set zf121 0 ((nth l118 0 ([] : List Bool)).set 0 true) p135
    refine TL.nil ?_
    refine S.n ?_
    refine TC.seq ?_
    refine TC.seq ?_
    refine TC.region ?_
    refine TL.v rfl (OpVal.moveI (.inr rfl) rfl) rfl rfl ?_
    refine TL.nil ?_
    refine S.n ?_
    refine TC.block ?_
    refine TC.loopG (α := ((List (List Bool)) × Nat) × ((List (NP Bool)))) [7, 8, 9, 28, 29, 30, 31, 32, 33, 34, 35, 36, 37, 38, 39, 40, 41, 42, 43, 44, 45, 46, 47, 48, 49, 50, 51, 52, 53, 54, 55, 56, 57, 58, 59, 60, 61, 62, 63, 64, 65, 66] (fun g => [(7, .int .i64 ((g.1.2 : Nat) : Int))]) (fun g => [Res.cells b101 #[.int .i64 x0.states, .slice a0_0 x0.starts.length c0_0, .slice a0_1 x0.ends.length c0_1, .slice a0_2 x0.edges.length c0_2] 25, Res.nest 47 4 1 encB (.slice a103 (List.replicate (x1.length + 1) ([] : List Bool)).length c104) g.2]) (fun g => σ) (fun g => iter (fun q : (List (List Bool)) × Nat => whittlelaw10_often_b2 x1 x0 q.1 q.2) g.1 = some r ∧ g.1.1.length = (List.replicate (x1.length + 1) ([] : List Bool)).length ∧ Zn g.2 g.1.1) (fun g => rounds (fun q : (List (List Bool)) × Nat => whittlelaw10_often_b2 x1 x0 q.1 q.2) g.1) (((l118.set 0 ((nth l118 0 ([] : List Bool)).set 0 true)), 0), (z120.set 0 (((nth l118 0 ([] : List Bool)).set 0 true), p135))) (Sub.front 1 rfl rfl (Sub.pre 2 rfl)) rfl (by repeat (first | exact trivial | refine ⟨rfl, ?_⟩)) ⟨hh, hn139, zf138⟩ (fun g2 j2 hg2 => ?_)
    obtain ⟨⟨l152, k156⟩, z154⟩ := g2
    obtain ⟨hh, hn153, zf155⟩ := hg2
    try dsimp only at hn153
    try dsimp only at zf155
    show TC _ _ _ (upds (mask _ j2 _) [(7, .int .i64 ((k156 : Nat) : Int))]) _ [Res.cells b101 #[.int .i64 x0.states, .slice a0_0 x0.starts.length c0_0, .slice a0_1 x0.ends.length c0_1, .slice a0_2 x0.edges.length c0_2] 25, Res.nest 47 4 1 encB (.slice a103 (List.replicate (x1.length + 1) ([] : List Bool)).length c104) z154]
    obtain ⟨z1, hh, hR1⟩ := iter_e hh
    dsimp only [whittlelaw10_often_b2] at hh
    have hn153b := hn153
    have zf155b := zf155.len
    refine TC.know (isSl_nest (q := 1) rfl zf155) (fun ⟨_, hb157⟩ => ?_)
    refine TC.seq ?_
    refine TC.seq ?_
    refine TC.region ?_
    refine TL.v rfl (OpVal.moveI (.inl rfl) rfl) rfl rfl ?_
    refine TL.v rfl (OpVal.lss rfl rfl rfl) rfl rfl ?_
    refine TL.nil ?_
    refine S.n ?_
    refine TC.cond rfl (fun h158 => ?_) (fun h158 => ?_)
    · replace hh := iteO_t h158 hh
      replace h158 := of_decide_eq_true h158
      refine TC.skip ?_
      refine S.n ?_
      refine TC.seq ?_
      refine TC.block ?_
      refine TC.seq ?_
      refine TC.region ?_
      refine TL.v rfl (OpVal.moveI (.inr rfl) rfl) rfl rfl ?_
      refine TL.nil ?_
      refine S.n ?_
      refine TC.block ?_
      refine TC.loopG (α := ((List (List Bool)) × Nat) × ((List (NP Bool)))) [8, 9, 32, 33, 34, 35, 36, 37, 38, 39, 40, 41, 42, 43, 44, 45, 46, 47, 48, 49, 50, 51, 52, 53, 54, 55, 56, 57, 58, 59, 60, 61, 62, 63, 64, 65, 66] (fun g => [(8, .int .i64 ((g.1.2 : Nat) : Int))]) (fun g => [Res.cells b101 #[.int .i64 x0.states, .slice a0_0 x0.starts.length c0_0, .slice a0_1 x0.ends.length c0_1, .slice a0_2 x0.edges.length c0_2] 25, Res.nest 47 4 1 encB (.slice a103 (List.replicate (x1.length + 1) ([] : List Bool)).length c104) g.2]) (fun g => σ) (fun g => iter (fun q : (List (List Bool)) × Nat => whittlelaw10_often_b3 x1 k156 x0 q.1 q.2) g.1 = some z1 ∧ g.1.1.length = (List.replicate (x1.length + 1) ([] : List Bool)).length ∧ Zn g.2 g.1.1) (fun g => rounds (fun q : (List (List Bool)) × Nat => whittlelaw10_often_b3 x1 k156 x0 q.1 q.2) g.1) ((l152, 0), z154) (Sub.front 1 rfl rfl (Sub.front 1 rfl rfl (Sub.pre 2 rfl))) rfl (by repeat (first | exact trivial | refine ⟨rfl, ?_⟩)) ⟨hh, hn153, zf155⟩ (fun g3 j3 hg3 => ?_)
      obtain ⟨⟨l171, k175⟩, z173⟩ := g3
      obtain ⟨hh, hn172, zf174⟩ := hg3
      try dsimp only at hn172
      try dsimp only at zf174
      show TC _ _ _ (upds (mask _ j3 _) [(8, .int .i64 ((k175 : Nat) : Int))]) _ [Res.cells b101 #[.int .i64 x0.states, .slice a0_0 x0.starts.length c0_0, .slice a0_1 x0.ends.length c0_1, .slice a0_2 x0.edges.length c0_2] 25, Res.nest 47 4 1 encB (.slice a103 (List.replicate (x1.length + 1) ([] : List Bool)).length c104) z173]
      obtain ⟨z2, hh, hR2⟩ := iter_e hh
      dsimp only [whittlelaw10_often_b3] at hh
      have hn172b := hn172
      have zf174b := zf174.len
      refine TC.know (isSl_nest (q := 1) rfl zf174) (fun ⟨_, hb176⟩ => ?_)
      refine TC.seq ?_
      refine TC.seq ?_
      refine TC.region ?_
      refine TL.v rfl (OpVal.moveI (.inl rfl) rfl) rfl rfl ?_
      refine TL.v rfl (OpVal.moveStr (.inl rfl) rfl) rfl rfl ?_
      refine TL.v rfl (OpVal.lenBs rfl Try.underlying9 rfl) rfl rfl ?_
      refine TL.v rfl (OpVal.leq rfl rfl rfl) rfl rfl ?_
      refine TL.nil ?_
      refine S.n ?_
      refine TC.cond rfl (fun h177 => ?_) (fun h177 => ?_)
      · replace hh := iteO_t h177 hh
        replace h177 := of_decide_eq_true h177
        refine TC.skip ?_
        refine S.n ?_
        refine TC.cutG (α := ((List (List Bool))) × ((List (NP Bool)))) [9, 38, 39, 40, 41, 42, 43, 44, 45, 46, 47, 48, 49, 50, 51, 52, 53, 54, 55, 56, 57, 58, 59, 60, 61, 62, 63, 64, 65, 66] (fun g => []) (fun g => [Res.cells b101 #[.int .i64 x0.states, .slice a0_0 x0.starts.length c0_0, .slice a0_1 x0.ends.length c0_1, .slice a0_2 x0.edges.length c0_2] 25, Res.nest 47 4 1 encB (.slice a103 (List.replicate (x1.length + 1) ([] : List Bool)).length c104) g.2]) (fun g => σ) (fun g => whittlelaw10_often_j1 k175 g.1 = some z2 ∧ g.1.length = (List.replicate (x1.length + 1) ([] : List Bool)).length ∧ Zn g.2 g.1) ?_ (fun g j hg => ?_)
        · skip
          refine TC.block ?_
          refine TC.seq ?_
          refine TC.region ?_
          refine TL.v rfl (OpVal.moveI (.inl rfl) rfl) rfl rfl ?_
          refine TL.v rfl (OpVal.moveI (.inr rfl) rfl) rfl rfl ?_
          refine TL.nil ?_
          refine S.n ?_
          refine TC.block ?_
          refine TC.loopG (α := ((List (List Bool)) × Nat) × ((List (NP Bool)))) [9, 39, 40, 41, 42, 43, 44, 45, 46, 47, 48, 49, 50, 51, 52, 53, 54, 55, 56, 57, 58, 59, 60, 61, 62, 63, 64, 65, 66] (fun g => [(9, .int .i64 ((g.1.2 : Nat) : Int))]) (fun g => [Res.cells b101 #[.int .i64 x0.states, .slice a0_0 x0.starts.length c0_0, .slice a0_1 x0.ends.length c0_1, .slice a0_2 x0.edges.length c0_2] 25, Res.nest 47 4 1 encB (.slice a103 (List.replicate (x1.length + 1) ([] : List Bool)).length c104) g.2]) (fun g => σ) (fun g => iter (fun q : (List (List Bool)) × Nat => whittlelaw10_often_b4 x1 k175 k156 x0 q.1 q.2) g.1 = some z2 ∧ g.1.1.length = (List.replicate (x1.length + 1) ([] : List Bool)).length ∧ Zn g.2 g.1.1) (fun g => rounds (fun q : (List (List Bool)) × Nat => whittlelaw10_often_b4 x1 k175 k156 x0 q.1 q.2) g.1) ((l171, k175), z173) (Sub.front 1 rfl rfl (Sub.front 1 rfl rfl (Sub.pre 2 rfl))) rfl (by repeat (first | exact trivial | refine ⟨rfl, ?_⟩)) ⟨hh, hn172, zf174⟩ (fun g4 j4 hg4 => ?_)
          obtain ⟨⟨l194, k198⟩, z196⟩ := g4
          obtain ⟨hh, hn195, zf197⟩ := hg4
          try dsimp only at hn195
          try dsimp only at zf197
          show TC _ _ _ (upds (mask _ j4 _) [(9, .int .i64 ((k198 : Nat) : Int))]) _ [Res.cells b101 #[.int .i64 x0.states, .slice a0_0 x0.starts.length c0_0, .slice a0_1 x0.ends.length c0_1, .slice a0_2 x0.edges.length c0_2] 25, Res.nest 47 4 1 encB (.slice a103 (List.replicate (x1.length + 1) ([] : List Bool)).length c104) z196]
          obtain ⟨z3, hh, hR3⟩ := iter_e hh
          dsimp only [whittlelaw10_often_b4] at hh
          have hn195b := hn195
          have zf197b := zf197.len
          refine TC.know (isSl_nest (q := 1) rfl zf197) (fun ⟨_, hb199⟩ => ?_)
          refine TC.seq ?_
          refine TC.seq ?_
          refine TC.region ?_
          refine TL.v rfl (OpVal.moveI (.inl rfl) rfl) rfl rfl ?_
          refine TL.v rfl (OpVal.moveStr (.inl rfl) rfl) rfl rfl ?_
          refine TL.v rfl (OpVal.lenBs rfl Try.underlying9 rfl) rfl rfl ?_
          refine TL.v rfl (OpVal.leq rfl rfl rfl) rfl rfl ?_
          refine TL.v rfl (OpVal.moveB (.inl rfl) rfl) rfl rfl ?_
          refine TL.split 43 rfl (fun h200 => ?_) (fun h200 => ?_)
          · replace hh := iteO_t h200 hh
            replace h200 := of_decide_eq_true h200
            refine TL.gv rfl rfl rfl rfl rfl (OpVal.moveSl (.inl rfl) rfl) rfl rfl ?_
            refine TL.gv rfl rfl rfl rfl rfl (OpVal.moveI (.inl rfl) rfl) rfl rfl ?_
            have u43 := grd_c hh
            replace hh := grd_t hh
            refine TL.know (isSl_nest (q := 1) rfl zf197) (fun ⟨hs201, hs201b⟩ => ?_)
            refine TL.gv rfl rfl rfl rfl rfl (OpVal.indexN rfl Try.underlying96 sz47 rfl rfl hs201 (by omega)) rfl rfl ?_
            obtain ⟨p202, hz202, hm202⟩ := Zn.at zf197 (i := k175) (by omega)
            refine TL.gv rfl rfl rfl rfl rfl (OpVal.loadN rfl ag47 rfl (q := 1) rfl hz202 hm202) rfl rfl ?_
            refine TL.gv rfl rfl rfl rfl rfl (OpVal.moveI (.inl rfl) rfl) rfl rfl ?_
            have u46 := grd_c hh
            replace hh := grd_t hh
            refine TL.know (isSl_inner (q := 1) rfl hz202 hm202) (fun ⟨hs203, hs203b⟩ => ?_)
            refine TL.gv rfl rfl rfl rfl rfl (OpVal.indexN rfl Try.underlying47 sz4 rfl rfl hs203 (by omega)) rfl rfl ?_
            refine TL.gv rfl rfl rfl rfl rfl (OpVal.seen (sees_inner (q := 1) rfl hz202 hm202) (OpVal.loadO1 false rfl ag4 rfl (q := 0) rfl encB_len (by omega) rfl)) rfl rfl ?_
            refine TL.v rfl (OpVal.pickTB rfl rfl rfl) rfl rfl ?_
            refine TL.nil ?_
            refine S.n ?_
            refine TC.cond rfl (fun h204 => ?_) (fun h204 => ?_)
            · replace hh := iteO_t h204 hh
              refine TC.skip ?_
              refine S.n ?_
              refine TC.cutG (α := ((List (List Bool))) × ((List (NP Bool)))) [54, 55, 56, 57, 58, 59, 60, 61, 62, 63, 64, 65, 66] (fun g => []) (fun g => [Res.cells b101 #[.int .i64 x0.states, .slice a0_0 x0.starts.length c0_0, .slice a0_1 x0.ends.length c0_1, .slice a0_2 x0.edges.length c0_2] 25, Res.nest 47 4 1 encB (.slice a103 (List.replicate (x1.length + 1) ([] : List Bool)).length c104) g.2]) (fun g => σ) (fun g => whittlelaw10_often_j2 k198 g.1 = some z3 ∧ g.1.length = (List.replicate (x1.length + 1) ([] : List Bool)).length ∧ Zn g.2 g.1) ?_ (fun g j hg => ?_)
              · skip
                refine TC.block ?_
                refine TC.seq ?_
                have u53 := grd_c hh
                replace hh := grd_t hh
                obtain ⟨v54, u54, hh⟩ := bnd_e hh
                refine TC.draw [] (by kernel_rfl) ?_
                refine TA.take 0 rfl (by kernel_rfl) (by kernel_rfl) (by kernel_rfl) (by kernel_rfl) rfl (OpVal.loadAll rfl ag25 sz25 rfl (i := 0) rfl rfl) rfl rfl ?_
                refine TA.takeP 1 rfl (by kernel_rfl) (by kernel_rfl) (by kernel_rfl) rfl (OpVal.moveStr (.inl rfl) rfl) rfl rfl ?_
                refine TA.takeP 2 rfl (by kernel_rfl) (by kernel_rfl) (by kernel_rfl) rfl (OpVal.moveI (.inl rfl) rfl) rfl rfl ?_
                refine TA.takeP 3 rfl (by kernel_rfl) (by kernel_rfl) (by kernel_rfl) rfl (OpVal.moveI (.inl rfl) rfl) rfl rfl ?_
                refine TA.take 4 rfl (by kernel_rfl) (by kernel_rfl) (by kernel_rfl) (by kernel_rfl) rfl (OpVal.sliceBs (l := x1) (i := k175) (j := k198) rfl Try.underlying9 rfl rfl rfl (by omega) (by omega)) rfl rfl ?_
                refine TA.act 5 (by kernel_rfl) rfl rfl (OpOk.callP (whittlelaw10_takes_con (x0 := x0) f0_0 f0_1 f0_2 u54) rfl rfl pf25 rfl rfl rfl ⟨(fun w h => sees_of (Store.le.refl _) (fun r hr => hr) w h), ?_⟩)
                refine TA.done (by kernel_rfl) ?_
                refine S.n ?_
                refine TC.cond rfl (fun h209 => ?_) (fun h209 => ?_)
                · replace hh := iteO_t h209 hh
                  refine TC.region ?_
                  refine TL.v rfl (OpVal.moveSl (.inl rfl) rfl) rfl rfl ?_
                  refine TL.v rfl (OpVal.moveI (.inl rfl) rfl) rfl rfl ?_
                  have u57 := grd_c hh
                  replace hh := grd_t hh
                  refine TL.know (isSl_nest (q := 1) rfl zf197) (fun ⟨hs210, hs210b⟩ => ?_)
                  refine TL.v rfl (OpVal.indexN rfl Try.underlying96 sz47 rfl rfl hs210 (by omega)) rfl rfl ?_
                  obtain ⟨p211, hz211, hm211⟩ := Zn.at zf197 (i := k198) (by omega)
                  refine TL.v rfl (OpVal.loadN rfl ag47 rfl (q := 1) rfl hz211 hm211) rfl rfl ?_
                  refine TL.v rfl (OpVal.moveI (.inl rfl) rfl) rfl rfl ?_
                  refine TL.v rfl (OpVal.succ rfl rfl rfl (by omega)) rfl rfl ?_
                  have u61 := grd_c hh
                  replace hh := grd_t hh
                  refine TL.know (isSl_inner (q := 1) rfl hz211 hm211) (fun ⟨hs212, hs212b⟩ => ?_)
                  refine TL.v rfl (OpVal.indexN rfl Try.underlying47 sz4 rfl rfl hs212 (by omega)) rfl rfl ?_
                  refine TL.front 1 rfl rfl ?_
                  refine TL.by (fun w h => Reach.takeN hz211 hm211 h) ?_
                  have hn215 : (l194.set k198 ((nth l194 k198 ([] : List Bool)).set (k156 + 1) true)).length = (List.replicate (x1.length + 1) ([] : List Bool)).length := (List.length_set ..).trans hn195
                  refine TL.op rfl (OpOk.storeS true rfl sz4 rfl rfl rfl rfl encB_len encB_one (by decide) (by omega) ?_)
                  refine TL.by (fun w h => Reach.putN hz211 hm211 (by rw [List.length_set]) h) ?_
                  have zf214 := Zn.set zf197 k198 ((nth l194 k198 ([] : List Bool)).set (k156 + 1) true) p211
                  refine TL.nil ?_
                  refine B.n ?_
                  refine S.n ?_
                  refine ⟨by repeat (first | exact Agr.refl _ _ | exact Agr.mask | refine Agr.upd rfl ?_ | refine Agr.maskIn rfl ?_ | refine Agr.upds rfl ?_), ((l194.set k198 ((nth l194 k198 ([] : List Bool)).set (k156 + 1) true)), (z196.set k198 (((nth l194 k198 ([] : List Bool)).set (k156 + 1) true), p211))), ⟨hh, hn215, zf214⟩, by repeat (first | exact trivial | refine ⟨rfl, ?_⟩), Sub.front 1 rfl rfl (Sub.pre 2 rfl), rfl⟩
                · replace hh := iteO_f h209 hh
                  refine TC.skip ?_
                  refine B.n ?_
                  refine S.n ?_
                  refine ⟨by repeat (first | exact Agr.refl _ _ | exact Agr.mask | refine Agr.upd rfl ?_ | refine Agr.maskIn rfl ?_ | refine Agr.upds rfl ?_), (l194, z196), ⟨hh, hn195, zf197⟩, by repeat (first | exact trivial | refine ⟨rfl, ?_⟩), Sub.front 1 rfl rfl (Sub.front 1 rfl rfl (Sub.pre 2 rfl)), rfl⟩
              · skip
                obtain ⟨l205, z207⟩ := g
                obtain ⟨hh, hn206, zf208⟩ := hg
                try dsimp only at hn206
                try dsimp only at zf208
                show TC _ _ _ (upds (mask _ j _) []) _ [Res.cells b101 #[.int .i64 x0.states, .slice a0_0 x0.starts.length c0_0, .slice a0_1 x0.ends.length c0_1, .slice a0_2 x0.edges.length c0_2] 25, Res.nest 47 4 1 encB (.slice a103 (List.replicate (x1.length + 1) ([] : List Bool)).length c104) z207]
                dsimp only [whittlelaw10_often_j2] at hh
                have hn206b := hn206
                have zf208b := zf208.len
                refine TC.know (isSl_nest (q := 1) rfl zf208) (fun ⟨_, hb216⟩ => ?_)
                refine TC.region ?_
                refine TL.v rfl (OpVal.moveI (.inl rfl) rfl) rfl rfl ?_
                refine TL.v rfl (OpVal.succ rfl rfl rfl (by omega)) rfl rfl ?_
                refine TL.v rfl (OpVal.moveI (.inr rfl) rfl) rfl rfl ?_
                refine TL.nil ?_
                refine S.n ?_
                obtain ⟨hh, hlt217⟩ := nxt_x hR3 hh
                refine ⟨by repeat (first | exact Agr.refl _ _ | exact Agr.mask | refine Agr.upd rfl ?_ | refine Agr.maskIn rfl ?_ | refine Agr.upds rfl ?_), ((l205, (k198 + 1)), z207), hlt217, ⟨hh, hn206, zf208⟩, by repeat (first | exact trivial | refine ⟨rfl, ?_⟩), Sub.front 1 rfl rfl (Sub.front 1 rfl rfl (Sub.pre 2 rfl)), rfl⟩
            · replace hh := iteO_f h204 hh
              refine TC.exit ?_
              refine S.x ?_
              refine S.x ?_
              replace hh := fin_x hR3 hh
              refine TC.exitHere ?_
              refine B.n ?_
              refine S.n ?_
              refine ⟨by repeat (first | exact Agr.refl _ _ | exact Agr.mask | refine Agr.upd rfl ?_ | refine Agr.maskIn rfl ?_ | refine Agr.upds rfl ?_), (l194, z196), ⟨hh, hn195, zf197⟩, by repeat (first | exact trivial | refine ⟨rfl, ?_⟩), Sub.front 1 rfl rfl (Sub.front 1 rfl rfl (Sub.pre 2 rfl)), rfl⟩
          · replace hh := iteO_f h200 hh
            replace h200 := of_decide_eq_false h200
            refine TL.goff rfl rfl rfl rfl rfl rfl rfl rfl ?_
            refine TL.goff rfl rfl rfl rfl rfl rfl rfl rfl ?_
            refine TL.goff rfl rfl rfl rfl rfl rfl rfl rfl ?_
            refine TL.goff rfl rfl rfl rfl rfl rfl rfl rfl ?_
            refine TL.goff rfl rfl rfl rfl rfl rfl rfl rfl ?_
            refine TL.goff rfl rfl rfl rfl rfl rfl rfl rfl ?_
            refine TL.goff rfl rfl rfl rfl rfl rfl rfl rfl ?_
            refine TL.v rfl (OpVal.pickFB rfl rfl rfl) rfl rfl ?_
            refine TL.nil ?_
            refine S.n ?_
            refine TC.cond rfl (fun h => Bool.noConfusion h) (fun _ => ?_)
            refine TC.exit ?_
            refine S.x ?_
            refine S.x ?_
            replace hh := fin_x hR3 hh
            refine TC.exitHere ?_
            refine B.n ?_
            refine S.n ?_
            refine ⟨by repeat (first | exact Agr.refl _ _ | exact Agr.mask | refine Agr.upd rfl ?_ | refine Agr.maskIn rfl ?_ | refine Agr.upds rfl ?_), (l194, z196), ⟨hh, hn195, zf197⟩, by repeat (first | exact trivial | refine ⟨rfl, ?_⟩), Sub.front 1 rfl rfl (Sub.front 1 rfl rfl (Sub.pre 2 rfl)), rfl⟩
        · skip
          obtain ⟨l178, z180⟩ := g
          obtain ⟨hh, hn179, zf181⟩ := hg
          try dsimp only at hn179
          try dsimp only at zf181
          show TC _ _ _ (upds (mask _ j _) []) _ [Res.cells b101 #[.int .i64 x0.states, .slice a0_0 x0.starts.length c0_0, .slice a0_1 x0.ends.length c0_1, .slice a0_2 x0.edges.length c0_2] 25, Res.nest 47 4 1 encB (.slice a103 (List.replicate (x1.length + 1) ([] : List Bool)).length c104) z180]
          dsimp only [whittlelaw10_often_j1] at hh
          have hn179b := hn179
          have zf181b := zf181.len
          refine TC.know (isSl_nest (q := 1) rfl zf181) (fun ⟨_, hb218⟩ => ?_)
          refine TC.region ?_
          refine TL.v rfl (OpVal.moveI (.inl rfl) rfl) rfl rfl ?_
          refine TL.v rfl (OpVal.succ rfl rfl rfl (by omega)) rfl rfl ?_
          refine TL.v rfl (OpVal.moveI (.inr rfl) rfl) rfl rfl ?_
          refine TL.nil ?_
          refine S.n ?_
          obtain ⟨hh, hlt219⟩ := nxt_x hR2 hh
          refine ⟨by repeat (first | exact Agr.refl _ _ | exact Agr.mask | refine Agr.upd rfl ?_ | refine Agr.maskIn rfl ?_ | refine Agr.upds rfl ?_), ((l178, (k175 + 1)), z180), hlt219, ⟨hh, hn179, zf181⟩, by repeat (first | exact trivial | refine ⟨rfl, ?_⟩), Sub.front 1 rfl rfl (Sub.front 1 rfl rfl (Sub.pre 2 rfl)), rfl⟩
      · replace hh := iteO_f h177 hh
        replace h177 := of_decide_eq_false h177
        refine TC.exit ?_
        refine S.x ?_
        refine S.x ?_
        replace hh := fin_x hR2 hh
        refine TC.exitHere ?_
        refine B.n ?_
        refine S.n ?_
        refine TC.region ?_
        refine TL.v rfl (OpVal.moveI (.inl rfl) rfl) rfl rfl ?_
        refine TL.v rfl (OpVal.succ rfl rfl rfl (by omega)) rfl rfl ?_
        refine TL.v rfl (OpVal.moveI (.inr rfl) rfl) rfl rfl ?_
        refine TL.nil ?_
        refine S.n ?_
        obtain ⟨hh, hlt220⟩ := nxt_x hR1 hh
        refine ⟨by repeat (first | exact Agr.refl _ _ | exact Agr.mask | refine Agr.upd rfl ?_ | refine Agr.maskIn rfl ?_ | refine Agr.upds rfl ?_), ((l171, (k156 + 1)), z173), hlt220, ⟨hh, hn172, zf174⟩, by repeat (first | exact trivial | refine ⟨rfl, ?_⟩), Sub.front 1 rfl rfl (Sub.front 1 rfl rfl (Sub.pre 2 rfl)), rfl⟩
    · replace hh := iteO_f h158 hh
      replace h158 := of_decide_eq_false h158
      refine TC.exit ?_
      refine S.x ?_
      refine S.x ?_
      replace hh := fin_x hR1 hh
      refine TC.exitHere ?_
      refine S.n ?_
      refine TC.seq ?_
      refine TC.region ?_
      refine TL.v rfl (OpVal.moveSl (.inl rfl) rfl) rfl rfl ?_
      rw [← hn153]
      refine TL.front 1 rfl rfl ?_
      refine TL.seals (fun w h => Reach.sealNest encB_len zf155 h) (fun τ223 hle222 hr221 => ?_)
      replace f0_0 := f0_0.mono hle222
      replace f0_1 := f0_1.mono hle222
      replace f0_2 := f0_2.mono hle222
      have hr221b := hr221.big
      refine TL.v rfl (OpVal.moveStr (.inl rfl) rfl) rfl rfl ?_
      refine TL.v rfl (OpVal.lenBs rfl Try.underlying9 rfl) rfl rfl ?_
      have u75 := grd_c hh
      replace hh := grd_t hh
      refine TL.v rfl (OpVal.indexN rfl Try.underlying96 sz47 rfl rfl hr221.isSl (by omega)) rfl rfl ?_
      obtain ⟨p224, hk224, hg224⟩ := RZ.seg hr221 x1.length (by omega)
      replace hk224 : RS _ 1 encB (.slice p224.1 (nth l152 x1.length ([] : List Bool)).length p224.2) (nth l152 x1.length ([] : List Bool)) := hk224
      have hk224b := hk224.rv.big
      refine TL.v rfl (OpVal.of (OpVal.loadSeg0 rfl ag47 rfl hg224 rfl) (v' := .slice p224.1 ((nth l152 x1.length ([] : List Bool)).length) p224.2) rfl) rfl rfl ?_
      refine TL.v rfl (OpVal.moveSl (.inr rfl) rfl) rfl rfl ?_
      refine TL.nil ?_
      refine S.n ?_
      refine TC.ofSub (Sub.pre 0 rfl) ?_
      refine TC.ret ?_
      obtain rfl := Option.some.inj hh
      exact RetOk.mk' (rs := [.tmp 4]) [] rfl (.inl rfl) (RVs.tmp rfl RVs.nil) (List.sublist_append_left _ _) ⟨p224.1, p224.2, rfl, hk224, rfl⟩

noncomputable def whittlelaw10_NfaTimes_j1 (k124 : Nat) (t126 : Bool) (t127 : Bool) : Option ((Bool × Bool × Nat) ⊕ (Bool)) :=
  nxt (t126, t127, (k124 + 1))
noncomputable def whittlelaw10_NfaTimes_j2 (t123 : Bool) (k124 : Nat) (v48 : (List Bool)) (x1 : Int) (x2 : Int) (t128 : Bool) : Option ((Bool × Bool × Nat) ⊕ (Bool)) :=
  iteO t123 (whittlelaw10_NfaTimes_j1 k124 t128 true) (iteO (nth v48 k124 false) (iteO (decide (x1 ≤ ((k124 : Nat) : Int))) (iteO (decide (x2 = (-1))) (whittlelaw10_NfaTimes_j1 k124 t128 true) (whittlelaw10_NfaTimes_j1 k124 t128 (decide (((k124 : Nat) : Int) ≤ x2)))) (whittlelaw10_NfaTimes_j1 k124 t128 false)) (whittlelaw10_NfaTimes_j1 k124 t128 false))
noncomputable def whittlelaw10_NfaTimes_b1 (v48 : (List Bool)) (x1 : Int) (x2 : Int) (x0 : Nfa) (x3 : List UInt8) (v31 : Nfa × Int) (t122 : Bool) (t123 : Bool) (k124 : Nat) : Option ((Bool × Bool × Nat) ⊕ (Bool)) :=
  iteO (decide (((k124 : Nat) : Int) < ((v48.length : Nat) : Int))) (iteO t122 (whittlelaw10_NfaTimes_j2 t123 k124 v48 x1 x2 true) (whittlelaw10_NfaTimes_j2 t123 k124 v48 x1 x2 (nth v48 k124 false))) (fin (bnd (whittlelaw10_awake) (fun v90 => iteO v90 (bnd (whittlelaw10_takes (starR x0) x3) (fun v94 => iteO (v94 == t122) (bnd (whittlelaw10_takes v31.1 x3) (fun v101 => some (v101 == t123))) (some false))) (some false))))
noncomputable def whittlelaw10_NfaTimes (x0 : Nfa) (x1 : Int) (x2 : Int) (x3 : List UInt8) : Option (Bool) :=
  grd (x3.length ≤ 281474976710656) (iteO (!(fewB x0)) (some true) (iteO (decide (6 < x1)) (some true) (iteO (decide (6 < x2)) (some true) (iteO (decide (6 < ((x3.length : Nat) : Int))) (some true) (bnd (nfa_Rep x0 x1 x2) (fun v31 => iteO (decide ((starX x0) ≠ 0)) (bnd (whittlelaw10_awake) (fun v44 => some v44)) (iteO (decide (v31.2 ≠ 0)) (bnd (whittlelaw10_awake) (fun v44 => some v44)) (bnd (whittlelaw10_often x0 x3) (fun v48 => iter (fun q : Bool × Bool × Nat => whittlelaw10_NfaTimes_b1 v48 x1 x2 x0 x3 v31 q.1 q.2.1 q.2.2) (false, false, 0))))))))))
theorem whittlelaw10_NfaTimes_con {σ : Store} {x0 : Nfa} {a0_0 : Option Addr} {c0_0 : Nat} {a0_1 : Option Addr} {c0_1 : Nat} {a0_2 : Option Addr} {c0_2 : Nat} {x1 : Int} {x2 : Int} {x3 : List UInt8} (f0_0 : RS σ 1 Go.E.encI (.slice a0_0 x0.starts.length c0_0) x0.starts) (f0_1 : RS σ 1 Go.E.encI (.slice a0_1 x0.ends.length c0_1) x0.ends) (f0_2 : RS σ 6 encE (.slice a0_2 x0.edges.length c0_2) x0.edges) {r : Bool} (hh : whittlelaw10_NfaTimes x0 x1 x2 x3 = some r) :
    Con Try.prog 7 #[.agg #[.int .i64 x0.states, .slice a0_0 x0.starts.length c0_0, .slice a0_1 x0.ends.length c0_1, .slice a0_2 x0.edges.length c0_2], .int .i64 x1, .int .i64 x2, .string (bs x3)] σ [] (PureP (.bool r) σ) := by
  dsimp only [whittlelaw10_NfaTimes] at hh
  have f0_0b := f0_0.rv.big
  have f0_1b := f0_1.rv.big
  have f0_2b := f0_2.rv.big
  refine Con.mk (n := 104) Try.func7 rfl rfl rfl (fun w0 => ?_)
  have x3b := grd_c hh
  replace hh := grd_t hh
  refine TC.seq ?_
  refine TC.region ?_
  refine TL.op rfl (OpOk.boxA rfl rfl rfl rfl (fun b101 => ?_))
  refine TL.v rfl (OpVal.moveB (.inr rfl) rfl) rfl rfl ?_
  refine TL.nil ?_
  refine S.n ?_
  refine TC.seq ?_
  refine TC.seq ?_
  refine TC.region ?_
  refine TL.v rfl (OpVal.loadAll rfl ag25 sz25 rfl (i := 0) rfl rfl) rfl rfl ?_
  refine TL.op rfl (OpOk.callP (few_con _ x0 ⟨a0_0, c0_0, a0_1, c0_1, a0_2, c0_2⟩ ⟨f0_0, f0_1, f0_2, fun x _ => x.set.isOk⟩) rfl rfl pf14 rfl rfl rfl ?_)
  refine TL.v rfl (OpVal.not rfl rfl) rfl rfl ?_
  refine TL.v rfl (OpVal.moveB (.inl rfl) rfl) rfl rfl ?_
  refine TL.split 20 rfl (fun h103 => ?_) (fun h103 => ?_)
  · replace hh := iteO_t h103 hh
    refine TL.goff rfl rfl rfl rfl rfl rfl rfl rfl ?_
    refine TL.goff rfl rfl rfl rfl rfl rfl rfl rfl ?_
    refine TL.v rfl (OpVal.pickTB rfl rfl rfl) rfl rfl ?_
    refine TL.v rfl (OpVal.moveB (.inl rfl) rfl) rfl rfl ?_
    refine TL.goff rfl rfl rfl rfl rfl rfl rfl rfl ?_
    refine TL.goff rfl rfl rfl rfl rfl rfl rfl rfl ?_
    refine TL.v rfl (OpVal.pickTB rfl rfl rfl) rfl rfl ?_
    refine TL.v rfl (OpVal.moveB (.inl rfl) rfl) rfl rfl ?_
    refine TL.goff rfl rfl rfl rfl rfl rfl rfl rfl ?_
    refine TL.goff rfl rfl rfl rfl rfl rfl rfl rfl ?_
    refine TL.goff rfl rfl rfl rfl rfl rfl rfl rfl ?_
    refine TL.v rfl (OpVal.pickTB rfl rfl rfl) rfl rfl ?_
    refine TL.nil ?_
    refine S.n ?_
    refine TC.cond rfl (fun _ => ?_) (fun h => Bool.noConfusion h)
    refine TC.seq ?_
    refine TC.region ?_
    refine TL.v rfl (OpVal.moveB (.inr rfl) rfl) rfl rfl ?_
    refine TL.nil ?_
    refine S.n ?_
    refine TC.ofSub (Sub.pre 0 rfl) ?_
    refine TC.ret ?_
    refine S.r ?_
    obtain rfl := Option.some.inj hh
    exact RetOk.mk' (rs := [.tmp 8]) [] rfl (.inl rfl) (RVs.tmp rfl RVs.nil) (List.sublist_append_left _ _) ⟨rfl, rfl, rfl⟩
  · replace hh := iteO_f h103 hh
    refine TL.gv rfl rfl rfl rfl rfl (OpVal.moveI (.inl rfl) rfl) rfl rfl ?_
    refine TL.gv rfl rfl rfl rfl rfl (OpVal.gtr rfl rfl rfl) rfl rfl ?_
    refine TL.v rfl (OpVal.pickFB rfl rfl rfl) rfl rfl ?_
    refine TL.v rfl (OpVal.moveB (.inl rfl) rfl) rfl rfl ?_
    refine TL.split 24 rfl (fun h104 => ?_) (fun h104 => ?_)
    · replace hh := iteO_t h104 hh
      replace h104 := of_decide_eq_true h104
      refine TL.goff rfl rfl rfl rfl rfl rfl rfl rfl ?_
      refine TL.goff rfl rfl rfl rfl rfl rfl rfl rfl ?_
      refine TL.v rfl (OpVal.pickTB rfl rfl rfl) rfl rfl ?_
      refine TL.v rfl (OpVal.moveB (.inl rfl) rfl) rfl rfl ?_
      refine TL.goff rfl rfl rfl rfl rfl rfl rfl rfl ?_
      refine TL.goff rfl rfl rfl rfl rfl rfl rfl rfl ?_
      refine TL.goff rfl rfl rfl rfl rfl rfl rfl rfl ?_
      refine TL.v rfl (OpVal.pickTB rfl rfl rfl) rfl rfl ?_
      refine TL.nil ?_
      refine S.n ?_
      refine TC.cond rfl (fun _ => ?_) (fun h => Bool.noConfusion h)
      refine TC.seq ?_
      refine TC.region ?_
      refine TL.v rfl (OpVal.moveB (.inr rfl) rfl) rfl rfl ?_
      refine TL.nil ?_
      refine S.n ?_
      refine TC.ofSub (Sub.pre 0 rfl) ?_
      refine TC.ret ?_
      refine S.r ?_
      obtain rfl := Option.some.inj hh
      exact RetOk.mk' (rs := [.tmp 8]) [] rfl (.inl rfl) (RVs.tmp rfl RVs.nil) (List.sublist_append_left _ _) ⟨rfl, rfl, rfl⟩
    · replace hh := iteO_f h104 hh
      replace h104 := of_decide_eq_false h104
      refine TL.gv rfl rfl rfl rfl rfl (OpVal.moveI (.inl rfl) rfl) rfl rfl ?_
      refine TL.gv rfl rfl rfl rfl rfl (OpVal.gtr rfl rfl rfl) rfl rfl ?_
      refine TL.v rfl (OpVal.pickFB rfl rfl rfl) rfl rfl ?_
      refine TL.v rfl (OpVal.moveB (.inl rfl) rfl) rfl rfl ?_
      refine TL.split 28 rfl (fun h105 => ?_) (fun h105 => ?_)
      · replace hh := iteO_t h105 hh
        replace h105 := of_decide_eq_true h105
        refine TL.goff rfl rfl rfl rfl rfl rfl rfl rfl ?_
        refine TL.goff rfl rfl rfl rfl rfl rfl rfl rfl ?_
        refine TL.goff rfl rfl rfl rfl rfl rfl rfl rfl ?_
        refine TL.v rfl (OpVal.pickTB rfl rfl rfl) rfl rfl ?_
        refine TL.nil ?_
        refine S.n ?_
        refine TC.cond rfl (fun _ => ?_) (fun h => Bool.noConfusion h)
        refine TC.seq ?_
        refine TC.region ?_
        refine TL.v rfl (OpVal.moveB (.inr rfl) rfl) rfl rfl ?_
        refine TL.nil ?_
        refine S.n ?_
        refine TC.ofSub (Sub.pre 0 rfl) ?_
        refine TC.ret ?_
        refine S.r ?_
        obtain rfl := Option.some.inj hh
        exact RetOk.mk' (rs := [.tmp 8]) [] rfl (.inl rfl) (RVs.tmp rfl RVs.nil) (List.sublist_append_left _ _) ⟨rfl, rfl, rfl⟩
      · replace hh := iteO_f h105 hh
        replace h105 := of_decide_eq_false h105
        refine TL.gv rfl rfl rfl rfl rfl (OpVal.moveStr (.inl rfl) rfl) rfl rfl ?_
        refine TL.gv rfl rfl rfl rfl rfl (OpVal.lenBs rfl Try.underlying9 rfl) rfl rfl ?_
        refine TL.gv rfl rfl rfl rfl rfl (OpVal.gtr rfl rfl rfl) rfl rfl ?_
        refine TL.v rfl (OpVal.pickFB rfl rfl rfl) rfl rfl ?_
        refine TL.nil ?_
        refine S.n ?_
        refine TC.cond rfl (fun h106 => ?_) (fun h106 => ?_)
        · replace hh := iteO_t h106 hh
          replace h106 := of_decide_eq_true h106
          refine TC.seq ?_
          refine TC.region ?_
          refine TL.v rfl (OpVal.moveB (.inr rfl) rfl) rfl rfl ?_
          refine TL.nil ?_
          refine S.n ?_
          refine TC.ofSub (Sub.pre 0 rfl) ?_
          refine TC.ret ?_
          refine S.r ?_
          obtain rfl := Option.some.inj hh
          exact RetOk.mk' (rs := [.tmp 8]) [] rfl (.inl rfl) (RVs.tmp rfl RVs.nil) (List.sublist_append_left _ _) ⟨rfl, rfl, rfl⟩
        · replace hh := iteO_f h106 hh
          replace h106 := of_decide_eq_false h106
          refine TC.skip ?_
          refine S.n ?_
          refine TC.seq ?_
          refine TC.region ?_
          refine TL.v rfl (OpVal.loadAll rfl ag25 sz25 rfl (i := 0) rfl rfl) rfl rfl ?_
          refine TL.op rfl (OpOk.call (star_con _ x0 ⟨a0_0, c0_0, a0_1, c0_1, a0_2, c0_2⟩ ⟨f0_0, f0_1, f0_2, fun x _ => x.set.isOk⟩) rfl rfl pf31 rfl rfl rfl rfl ?_)
          rintro _ τ107 _ hle107 ⟨p107, rfl, hn107, rfl⟩
          replace f0_0 := f0_0.mono hle107
          replace f0_1 := f0_1.mono hle107
          replace f0_2 := f0_2.mono hle107
          have hn107sb := hn107.s.rv.big
          have hn107eb := hn107.e.rv.big
          have hn107db := hn107.d.rv.big
          refine TL.v rfl (OpVal.moveT (.inl rfl) rfl) rfl rfl ?_
          refine TL.v rfl (OpVal.extract rfl rfl rfl) rfl rfl ?_
          refine TL.v rfl (OpVal.extract rfl rfl rfl) rfl rfl ?_
          refine TL.op rfl (OpOk.alloc rfl ze25 rfl rfl (fun b108 => ?_))
          refine TL.op rfl (OpOk.storeAll rfl sz25 rfl rfl rfl rfl rfl rfl ?_)
          refine TL.v rfl (OpVal.moveI (.inr rfl) rfl) rfl rfl ?_
          refine TL.nil ?_
          refine S.n ?_
          refine TC.seq ?_
          refine TC.region ?_
          refine TL.v rfl (OpVal.loadAll rfl ag25 sz25 rfl (i := 1) rfl rfl) rfl rfl ?_
          refine TL.v rfl (OpVal.moveI (.inl rfl) rfl) rfl rfl ?_
          refine TL.v rfl (OpVal.moveI (.inl rfl) rfl) rfl rfl ?_
          obtain ⟨v31, u31, hh⟩ := bnd_e hh
          refine TL.op rfl (OpOk.call (nfa_Rep_con (x0 := x0) f0_0 f0_1 f0_2 u31) rfl rfl pf33 rfl rfl rfl rfl ?_)
          rintro _ τ110 _ hle110 ⟨a110_1, c110_1, a110_2, c110_2, a110_3, c110_3, rfl, hr110_0, hr110_1, hr110_2, rfl⟩
          replace f0_0 := f0_0.mono hle110
          replace f0_1 := f0_1.mono hle110
          replace f0_2 := f0_2.mono hle110
          replace hn107 := hn107.mono hle110
          have hr110_0b := hr110_0.rv.big
          have hr110_1b := hr110_1.rv.big
          have hr110_2b := hr110_2.rv.big
          refine TL.v rfl (OpVal.moveT (.inl rfl) rfl) rfl rfl ?_
          refine TL.v rfl (OpVal.extract rfl rfl rfl) rfl rfl ?_
          refine TL.v rfl (OpVal.extract rfl rfl rfl) rfl rfl ?_
          refine TL.op rfl (OpOk.alloc rfl ze25 rfl rfl (fun b111 => ?_))
          refine TL.op rfl (OpOk.storeAll rfl sz25 rfl rfl rfl rfl rfl rfl ?_)
          refine TL.v rfl (OpVal.moveI (.inr rfl) rfl) rfl rfl ?_
          refine TL.nil ?_
          refine S.n ?_
          refine TC.seq ?_
          refine TC.seq ?_
          refine TC.region ?_
          refine TL.v rfl (OpVal.moveI (.inl rfl) rfl) rfl rfl ?_
          refine TL.v rfl (OpVal.neq rfl rfl rfl) rfl rfl ?_
          refine TL.v rfl (OpVal.moveB (.inl rfl) rfl) rfl rfl ?_
          refine TL.split 47 rfl (fun h113 => ?_) (fun h113 => ?_)
          · replace hh := iteO_t h113 hh
            replace h113 := of_decide_eq_true h113
            refine TL.goff rfl rfl rfl rfl rfl rfl rfl rfl ?_
            refine TL.goff rfl rfl rfl rfl rfl rfl rfl rfl ?_
            refine TL.v rfl (OpVal.pickTB rfl rfl rfl) rfl rfl ?_
            refine TL.nil ?_
            refine S.n ?_
            refine TC.cond rfl (fun _ => ?_) (fun h => Bool.noConfusion h)
            refine TC.seq ?_
            refine TC.region ?_
            obtain ⟨v44, u44, hh⟩ := bnd_e hh
            refine TL.op rfl (OpOk.callP (whittlelaw10_awake_con u44) rfl rfl pf17 rfl rfl rfl ?_)
            refine TL.v rfl (OpVal.moveB (.inr rfl) rfl) rfl rfl ?_
            refine TL.nil ?_
            refine S.n ?_
            refine TC.ofSub (Sub.pre 0 rfl) ?_
            refine TC.back ?_
            refine TC.ret ?_
            refine S.r ?_
            obtain rfl := Option.some.inj hh
            exact RetOk.mk' (rs := [.tmp 8]) [] rfl (.inl rfl) (RVs.tmp rfl RVs.nil) (List.sublist_append_left _ _) ⟨rfl, rfl, rfl⟩
          · replace hh := iteO_f h113 hh
            replace h113 := of_decide_eq_false h113
            refine TL.gv rfl rfl rfl rfl rfl (OpVal.moveI (.inl rfl) rfl) rfl rfl ?_
            refine TL.gv rfl rfl rfl rfl rfl (OpVal.neq rfl rfl rfl) rfl rfl ?_
            refine TL.v rfl (OpVal.pickFB rfl rfl rfl) rfl rfl ?_
            refine TL.nil ?_
            refine S.n ?_
            refine TC.cond rfl (fun h114 => ?_) (fun h114 => ?_)
            · replace hh := iteO_t h114 hh
              replace h114 := of_decide_eq_true h114
              refine TC.seq ?_
              refine TC.region ?_
              obtain ⟨v44, u44, hh⟩ := bnd_e hh
              refine TL.op rfl (OpOk.callP (whittlelaw10_awake_con u44) rfl rfl pf17 rfl rfl rfl ?_)
              refine TL.v rfl (OpVal.moveB (.inr rfl) rfl) rfl rfl ?_
              refine TL.nil ?_
              refine S.n ?_
              refine TC.ofSub (Sub.pre 0 rfl) ?_
              refine TC.back ?_
              refine TC.ret ?_
              refine S.r ?_
              obtain rfl := Option.some.inj hh
              exact RetOk.mk' (rs := [.tmp 8]) [] rfl (.inl rfl) (RVs.tmp rfl RVs.nil) (List.sublist_append_left _ _) ⟨rfl, rfl, rfl⟩
            · replace hh := iteO_f h114 hh
              replace h114 := of_decide_eq_false h114
              refine TC.skip ?_
              refine S.n ?_
              refine TC.seq ?_
              refine TC.region ?_
              refine TL.v rfl (OpVal.loadAll rfl ag25 sz25 rfl (i := 2) rfl rfl) rfl rfl ?_
              refine TL.v rfl (OpVal.moveStr (.inl rfl) rfl) rfl rfl ?_
              obtain ⟨v48, u48, hh⟩ := bnd_e hh
              refine TL.op rfl (OpOk.call (whittlelaw10_often_con (x0 := x0) f0_0 f0_1 f0_2 u48) rfl rfl pf35 rfl rfl rfl rfl ?_)
              rintro _ τ115 _ hle115 ⟨a115_1, c115_1, rfl, hr115_0, rfl⟩
              replace f0_0 := f0_0.mono hle115
              replace f0_1 := f0_1.mono hle115
              replace f0_2 := f0_2.mono hle115
              replace hn107 := hn107.mono hle115
              replace hr110_0 := hr110_0.mono hle115
              replace hr110_1 := hr110_1.mono hle115
              replace hr110_2 := hr110_2.mono hle115
              have hr115_0b := hr115_0.rv.big
              refine TL.v rfl (OpVal.moveSl (.inr rfl) rfl) rfl rfl ?_
              refine TL.nil ?_
              refine S.n ?_
              refine TC.seq ?_
              refine TC.region ?_
              refine TL.v rfl (OpVal.moveB (.inr rfl) rfl) rfl rfl ?_
              refine TL.nil ?_
              refine S.n ?_
              refine TC.seq ?_
              refine TC.region ?_
              refine TL.v rfl (OpVal.moveB (.inr rfl) rfl) rfl rfl ?_
              refine TL.nil ?_
              refine S.n ?_
              refine TC.seq ?_
              refine TC.seq ?_
              refine TC.region ?_
              refine TL.v rfl (OpVal.moveI (.inr rfl) rfl) rfl rfl ?_
              refine TL.nil ?_
              refine S.n ?_
              refine TC.block ?_
              refine TC.loopG (α := (Bool × Bool × Nat) × (Unit)) [14, 15, 16, 55, 56, 57, 58, 59, 60, 61, 62, 63, 64, 65, 66, 67, 68, 69, 70, 71, 72, 73, 74, 75, 76, 77, 78, 79, 80, 81, 82, 83, 84, 85, 86, 87, 88] (fun g => [(14, .bool g.1.1), (15, .bool g.1.2.1), (16, .int .i64 ((g.1.2.2 : Nat) : Int))]) (fun g => [Res.cells b108 #[.int .i64 ((starR x0).states), .slice p107.a1 (((starR x0).starts).length) p107.c1, .slice p107.a2 (((starR x0).ends).length) p107.c2, .slice p107.a3 (((starR x0).edges).length) p107.c3] 25, Res.cells b111 #[.int .i64 v31.1.states, .slice a110_1 v31.1.starts.length c110_1, .slice a110_2 v31.1.ends.length c110_2, .slice a110_3 v31.1.edges.length c110_3] 25]) (fun g => τ115) (fun g => iter (fun q : Bool × Bool × Nat => whittlelaw10_NfaTimes_b1 v48 x1 x2 x0 x3 v31 q.1 q.2.1 q.2.2) g.1 = some r) (fun g => rounds (fun q : Bool × Bool × Nat => whittlelaw10_NfaTimes_b1 v48 x1 x2 x0 x3 v31 q.1 q.2.1 q.2.2) g.1) ((false, false, 0), ()) (Sub.front 1 rfl rfl (Sub.pre 2 rfl)) rfl (by repeat (first | exact trivial | refine ⟨rfl, ?_⟩)) hh (fun g1 j1 hg1 => ?_)
              obtain ⟨⟨t122, t123, k124⟩, _⟩ := g1
              have hh := hg1; clear hg1
              show TC _ _ _ (upds (mask _ j1 _) [(14, .bool t122), (15, .bool t123), (16, .int .i64 ((k124 : Nat) : Int))]) _ [Res.cells b108 #[.int .i64 ((starR x0).states), .slice p107.a1 (((starR x0).starts).length) p107.c1, .slice p107.a2 (((starR x0).ends).length) p107.c2, .slice p107.a3 (((starR x0).edges).length) p107.c3] 25, Res.cells b111 #[.int .i64 v31.1.states, .slice a110_1 v31.1.starts.length c110_1, .slice a110_2 v31.1.ends.length c110_2, .slice a110_3 v31.1.edges.length c110_3] 25]
              obtain ⟨z1, hh, hR1⟩ := iter_e hh
              dsimp only [whittlelaw10_NfaTimes_b1] at hh
              refine TC.seq ?_
              refine TC.seq ?_
              refine TC.region ?_
              refine TL.v rfl (OpVal.moveI (.inl rfl) rfl) rfl rfl ?_
              refine TL.v rfl (OpVal.moveSl (.inl rfl) rfl) rfl rfl ?_
              refine TL.v rfl (OpVal.lenC rfl Try.underlying47 rfl) rfl rfl ?_
              refine TL.v rfl (OpVal.lss rfl rfl rfl) rfl rfl ?_
              refine TL.nil ?_
              refine S.n ?_
              refine TC.cond rfl (fun h125 => ?_) (fun h125 => ?_)
              · replace hh := iteO_t h125 hh
                replace h125 := of_decide_eq_true h125
                refine TC.skip ?_
                refine S.n ?_
                refine TC.cutG (α := (Bool × Bool) × (Unit)) [14, 15, 61, 62, 63, 64, 65, 66, 67, 68, 69, 70, 71, 72, 73, 74, 75, 76, 77, 78, 79, 80, 81, 82, 83, 84, 85, 86, 87, 88] (fun g => [(14, .bool g.1.1), (15, .bool g.1.2)]) (fun g => [Res.cells b108 #[.int .i64 ((starR x0).states), .slice p107.a1 (((starR x0).starts).length) p107.c1, .slice p107.a2 (((starR x0).ends).length) p107.c2, .slice p107.a3 (((starR x0).edges).length) p107.c3] 25, Res.cells b111 #[.int .i64 v31.1.states, .slice a110_1 v31.1.starts.length c110_1, .slice a110_2 v31.1.ends.length c110_2, .slice a110_3 v31.1.edges.length c110_3] 25]) (fun g => τ115) (fun g => whittlelaw10_NfaTimes_j1 k124 g.1.1 g.1.2 = some z1) ?_ (fun g j hg => ?_)
                · skip
                  refine TC.block ?_
                  refine TC.cutG (α := (Bool) × (Unit)) [14, 61, 62, 63, 64, 65, 66, 67] (fun g => [(14, .bool g.1)]) (fun g => [Res.cells b108 #[.int .i64 ((starR x0).states), .slice p107.a1 (((starR x0).starts).length) p107.c1, .slice p107.a2 (((starR x0).ends).length) p107.c2, .slice p107.a3 (((starR x0).edges).length) p107.c3] 25, Res.cells b111 #[.int .i64 v31.1.states, .slice a110_1 v31.1.starts.length c110_1, .slice a110_2 v31.1.ends.length c110_2, .slice a110_3 v31.1.edges.length c110_3] 25]) (fun g => τ115) (fun g => whittlelaw10_NfaTimes_j2 t123 k124 v48 x1 x2 g.1 = some z1) ?_ (fun g j hg => ?_)
                  · skip
                    refine TC.region ?_
                    refine TL.v rfl (OpVal.moveB (.inl rfl) rfl) rfl rfl ?_
                    refine TL.v rfl (OpVal.moveB (.inl rfl) rfl) rfl rfl ?_
                    refine TL.split 62 rfl (fun h129 => ?_) (fun h129 => ?_)
                    · replace hh := iteO_t h129 hh
                      refine TL.goff rfl rfl rfl rfl rfl rfl rfl rfl ?_
                      refine TL.goff rfl rfl rfl rfl rfl rfl rfl rfl ?_
                      refine TL.goff rfl rfl rfl rfl rfl rfl rfl rfl ?_
                      refine TL.goff rfl rfl rfl rfl rfl rfl rfl rfl ?_
                      refine TL.v rfl (OpVal.pickTB rfl rfl rfl) rfl rfl ?_
                      refine TL.v rfl (OpVal.moveB (.inr rfl) rfl) rfl rfl ?_
                      refine TL.nil ?_
                      refine S.n ?_
                      refine ⟨by repeat (first | exact Agr.refl _ _ | exact Agr.mask | refine Agr.upd rfl ?_ | refine Agr.maskIn rfl ?_ | refine Agr.upds rfl ?_), (true, ()), hh, by repeat (first | exact trivial | refine ⟨rfl, ?_⟩), Sub.front 1 rfl rfl (Sub.front 1 rfl rfl (Sub.pre 2 rfl)), rfl⟩
                    · replace hh := iteO_f h129 hh
                      refine TL.gv rfl rfl rfl rfl rfl (OpVal.moveSl (.inl rfl) rfl) rfl rfl ?_
                      refine TL.gv rfl rfl rfl rfl rfl (OpVal.moveI (.inl rfl) rfl) rfl rfl ?_
                      refine TL.gv rfl rfl rfl rfl rfl (OpVal.indexN rfl Try.underlying47 sz4 rfl rfl hr115_0.rv.sl (by omega)) rfl rfl ?_
                      refine TL.gv rfl rfl rfl rfl rfl (OpVal.loadS1 false rfl ag4 rfl hr115_0 (by omega) rfl) rfl rfl ?_
                      refine TL.v rfl (OpVal.pickFB rfl rfl rfl) rfl rfl ?_
                      refine TL.v rfl (OpVal.moveB (.inr rfl) rfl) rfl rfl ?_
                      refine TL.nil ?_
                      refine S.n ?_
                      refine ⟨by repeat (first | exact Agr.refl _ _ | exact Agr.mask | refine Agr.upd rfl ?_ | refine Agr.maskIn rfl ?_ | refine Agr.upds rfl ?_), ((nth v48 k124 false), ()), hh, by repeat (first | exact trivial | refine ⟨rfl, ?_⟩), Sub.front 1 rfl rfl (Sub.front 1 rfl rfl (Sub.pre 2 rfl)), rfl⟩
                  · skip
                    obtain ⟨t128, _⟩ := g
                    have hh := hg; clear hg
                    show TC _ _ _ (upds (mask _ j _) [(14, .bool t128)]) _ [Res.cells b108 #[.int .i64 ((starR x0).states), .slice p107.a1 (((starR x0).starts).length) p107.c1, .slice p107.a2 (((starR x0).ends).length) p107.c2, .slice p107.a3 (((starR x0).edges).length) p107.c3] 25, Res.cells b111 #[.int .i64 v31.1.states, .slice a110_1 v31.1.starts.length c110_1, .slice a110_2 v31.1.ends.length c110_2, .slice a110_3 v31.1.edges.length c110_3] 25]
                    dsimp only [whittlelaw10_NfaTimes_j2] at hh
                    refine TC.region ?_
                    refine TL.v rfl (OpVal.moveB (.inl rfl) rfl) rfl rfl ?_
                    refine TL.v rfl (OpVal.moveB (.inl rfl) rfl) rfl rfl ?_
                    refine TL.split 69 rfl (fun h130 => ?_) (fun h130 => ?_)
                    · replace hh := iteO_t h130 hh
                      refine TL.goff rfl rfl rfl rfl rfl rfl rfl rfl ?_
                      refine TL.goff rfl rfl rfl rfl rfl rfl rfl rfl ?_
                      refine TL.goff rfl rfl rfl rfl rfl rfl rfl rfl ?_
                      refine TL.goff rfl rfl rfl rfl rfl rfl rfl rfl ?_
                      refine TL.goff rfl rfl rfl rfl rfl rfl rfl rfl ?_
                      refine TL.goff' rfl rfl rfl rfl rfl rfl rfl ?_
                      refine TL.goff' rfl rfl rfl rfl rfl rfl rfl ?_
                      refine TL.goff' rfl rfl rfl rfl rfl rfl rfl ?_
                      refine TL.goff rfl rfl rfl rfl rfl rfl rfl rfl ?_
                      refine TL.goff rfl rfl rfl rfl rfl rfl rfl rfl ?_
                      refine TL.goff' rfl rfl rfl rfl rfl rfl rfl ?_
                      refine TL.goff' rfl rfl rfl rfl rfl rfl rfl ?_
                      refine TL.goff' rfl rfl rfl rfl rfl rfl rfl ?_
                      refine TL.goff' rfl rfl rfl rfl rfl rfl rfl ?_
                      refine TL.goff' rfl rfl rfl rfl rfl rfl rfl ?_
                      refine TL.goff' rfl rfl rfl rfl rfl rfl rfl ?_
                      refine TL.goff' rfl rfl rfl rfl rfl rfl rfl ?_
                      refine TL.goff rfl rfl rfl rfl rfl rfl rfl rfl ?_
                      refine TL.v rfl (OpVal.pickTB rfl rfl rfl) rfl rfl ?_
                      refine TL.v rfl (OpVal.moveB (.inr rfl) rfl) rfl rfl ?_
                      refine TL.nil ?_
                      refine B.n ?_
                      refine S.n ?_
                      refine ⟨by repeat (first | exact Agr.refl _ _ | exact Agr.mask | refine Agr.upd rfl ?_ | refine Agr.maskIn rfl ?_ | refine Agr.upds rfl ?_), ((t128, true), ()), hh, by repeat (first | exact trivial | refine ⟨rfl, ?_⟩), Sub.front 1 rfl rfl (Sub.front 1 rfl rfl (Sub.pre 2 rfl)), rfl⟩
                    · replace hh := iteO_f h130 hh
                      refine TL.gv rfl rfl rfl rfl rfl (OpVal.moveSl (.inl rfl) rfl) rfl rfl ?_
                      refine TL.gv rfl rfl rfl rfl rfl (OpVal.moveI (.inl rfl) rfl) rfl rfl ?_
                      refine TL.gv rfl rfl rfl rfl rfl (OpVal.indexN rfl Try.underlying47 sz4 rfl rfl hr115_0.rv.sl (by omega)) rfl rfl ?_
                      refine TL.gv rfl rfl rfl rfl rfl (OpVal.loadS1 false rfl ag4 rfl hr115_0 (by omega) rfl) rfl rfl ?_
                      refine TL.gv rfl rfl rfl rfl rfl (OpVal.moveB (.inl rfl) rfl) rfl rfl ?_
                      refine TL.split 74 rfl (fun h131 => ?_) (fun h131 => ?_)
                      · replace hh := iteO_t h131 hh
                        refine TL.gv rfl rfl rfl rfl rfl (OpVal.moveI (.inl rfl) rfl) rfl rfl ?_
                        refine TL.gv rfl rfl rfl rfl rfl (OpVal.moveI (.inl rfl) rfl) rfl rfl ?_
                        refine TL.gv rfl rfl rfl rfl rfl (OpVal.geq rfl rfl rfl) rfl rfl ?_
                        refine TL.gv rfl rfl rfl rfl rfl (OpVal.pickTB rfl rfl rfl) rfl rfl ?_
                        refine TL.gv rfl rfl rfl rfl rfl (OpVal.moveB (.inl rfl) rfl) rfl rfl ?_
                        refine TL.split 79 rfl (fun h132 => ?_) (fun h132 => ?_)
                        · replace hh := iteO_t h132 hh
                          replace h132 := of_decide_eq_true h132
                          refine TL.gv rfl rfl rfl rfl rfl (OpVal.moveI (.inl rfl) rfl) rfl rfl ?_
                          refine TL.gv rfl rfl rfl rfl rfl (OpVal.eql rfl rfl rfl) rfl rfl ?_
                          refine TL.gv rfl rfl rfl rfl rfl (OpVal.moveB (.inl rfl) rfl) rfl rfl ?_
                          refine TL.split 82 rfl (fun h133 => ?_) (fun h133 => ?_)
                          · replace hh := iteO_t h133 hh
                            replace h133 := of_decide_eq_true h133
                            refine TL.goff rfl rfl rfl rfl rfl rfl rfl rfl ?_
                            refine TL.goff rfl rfl rfl rfl rfl rfl rfl rfl ?_
                            refine TL.goff rfl rfl rfl rfl rfl rfl rfl rfl ?_
                            refine TL.gv rfl rfl rfl rfl rfl (OpVal.pickTB rfl rfl rfl) rfl rfl ?_
                            refine TL.gv rfl rfl rfl rfl rfl (OpVal.pickTB rfl rfl rfl) rfl rfl ?_
                            refine TL.v rfl (OpVal.pickFB rfl rfl rfl) rfl rfl ?_
                            refine TL.v rfl (OpVal.moveB (.inr rfl) rfl) rfl rfl ?_
                            refine TL.nil ?_
                            refine B.n ?_
                            refine S.n ?_
                            refine ⟨by repeat (first | exact Agr.refl _ _ | exact Agr.mask | refine Agr.upd rfl ?_ | refine Agr.maskIn rfl ?_ | refine Agr.upds rfl ?_), ((t128, true), ()), hh, by repeat (first | exact trivial | refine ⟨rfl, ?_⟩), Sub.front 1 rfl rfl (Sub.front 1 rfl rfl (Sub.pre 2 rfl)), rfl⟩
                          · replace hh := iteO_f h133 hh
                            replace h133 := of_decide_eq_false h133
                            refine TL.gv rfl rfl rfl rfl rfl (OpVal.moveI (.inl rfl) rfl) rfl rfl ?_
                            refine TL.gv rfl rfl rfl rfl rfl (OpVal.moveI (.inl rfl) rfl) rfl rfl ?_
                            refine TL.gv rfl rfl rfl rfl rfl (OpVal.leq rfl rfl rfl) rfl rfl ?_
                            refine TL.gv rfl rfl rfl rfl rfl (OpVal.pickFB rfl rfl rfl) rfl rfl ?_
                            refine TL.gv rfl rfl rfl rfl rfl (OpVal.pickTB rfl rfl rfl) rfl rfl ?_
                            refine TL.v rfl (OpVal.pickFB rfl rfl rfl) rfl rfl ?_
                            refine TL.v rfl (OpVal.moveB (.inr rfl) rfl) rfl rfl ?_
                            refine TL.nil ?_
                            refine B.n ?_
                            refine S.n ?_
                            refine ⟨by repeat (first | exact Agr.refl _ _ | exact Agr.mask | refine Agr.upd rfl ?_ | refine Agr.maskIn rfl ?_ | refine Agr.upds rfl ?_), ((t128, decide (((k124 : Nat) : Int) ≤ x2)), ()), hh, by repeat (first | exact trivial | refine ⟨rfl, ?_⟩), Sub.front 1 rfl rfl (Sub.front 1 rfl rfl (Sub.pre 2 rfl)), rfl⟩
                        · replace hh := iteO_f h132 hh
                          replace h132 := of_decide_eq_false h132
                          refine TL.goff rfl rfl rfl rfl rfl rfl rfl rfl ?_
                          refine TL.goff rfl rfl rfl rfl rfl rfl rfl rfl ?_
                          refine TL.goff rfl rfl rfl rfl rfl rfl rfl rfl ?_
                          refine TL.goff' rfl rfl rfl rfl rfl rfl rfl ?_
                          refine TL.goff' rfl rfl rfl rfl rfl rfl rfl ?_
                          refine TL.goff' rfl rfl rfl rfl rfl rfl rfl ?_
                          refine TL.goff rfl rfl rfl rfl rfl rfl rfl rfl ?_
                          refine TL.gv rfl rfl rfl rfl rfl (OpVal.pickFB rfl rfl rfl) rfl rfl ?_
                          refine TL.v rfl (OpVal.pickFB rfl rfl rfl) rfl rfl ?_
                          refine TL.v rfl (OpVal.moveB (.inr rfl) rfl) rfl rfl ?_
                          refine TL.nil ?_
                          refine B.n ?_
                          refine S.n ?_
                          refine ⟨by repeat (first | exact Agr.refl _ _ | exact Agr.mask | refine Agr.upd rfl ?_ | refine Agr.maskIn rfl ?_ | refine Agr.upds rfl ?_), ((t128, false), ()), hh, by repeat (first | exact trivial | refine ⟨rfl, ?_⟩), Sub.front 1 rfl rfl (Sub.front 1 rfl rfl (Sub.pre 2 rfl)), rfl⟩
                      · replace hh := iteO_f h131 hh
                        refine TL.goff rfl rfl rfl rfl rfl rfl rfl rfl ?_
                        refine TL.goff rfl rfl rfl rfl rfl rfl rfl rfl ?_
                        refine TL.goff rfl rfl rfl rfl rfl rfl rfl rfl ?_
                        refine TL.gv rfl rfl rfl rfl rfl (OpVal.pickFB rfl rfl rfl) rfl rfl ?_
                        refine TL.gv rfl rfl rfl rfl rfl (OpVal.moveB (.inl rfl) rfl) rfl rfl ?_
                        refine TL.goff rfl rfl rfl rfl rfl rfl rfl rfl ?_
                        refine TL.goff rfl rfl rfl rfl rfl rfl rfl rfl ?_
                        refine TL.goff rfl rfl rfl rfl rfl rfl rfl rfl ?_
                        refine TL.goff' rfl rfl rfl rfl rfl rfl rfl ?_
                        refine TL.goff' rfl rfl rfl rfl rfl rfl rfl ?_
                        refine TL.goff' rfl rfl rfl rfl rfl rfl rfl ?_
                        refine TL.goff rfl rfl rfl rfl rfl rfl rfl rfl ?_
                        refine TL.gv rfl rfl rfl rfl rfl (OpVal.pickFB rfl rfl rfl) rfl rfl ?_
                        refine TL.v rfl (OpVal.pickFB rfl rfl rfl) rfl rfl ?_
                        refine TL.v rfl (OpVal.moveB (.inr rfl) rfl) rfl rfl ?_
                        refine TL.nil ?_
                        refine B.n ?_
                        refine S.n ?_
                        refine ⟨by repeat (first | exact Agr.refl _ _ | exact Agr.mask | refine Agr.upd rfl ?_ | refine Agr.maskIn rfl ?_ | refine Agr.upds rfl ?_), ((t128, false), ()), hh, by repeat (first | exact trivial | refine ⟨rfl, ?_⟩), Sub.front 1 rfl rfl (Sub.front 1 rfl rfl (Sub.pre 2 rfl)), rfl⟩
                · skip
                  obtain ⟨⟨t126, t127⟩, _⟩ := g
                  have hh := hg; clear hg
                  show TC _ _ _ (upds (mask _ j _) [(14, .bool t126), (15, .bool t127)]) _ [Res.cells b108 #[.int .i64 ((starR x0).states), .slice p107.a1 (((starR x0).starts).length) p107.c1, .slice p107.a2 (((starR x0).ends).length) p107.c2, .slice p107.a3 (((starR x0).edges).length) p107.c3] 25, Res.cells b111 #[.int .i64 v31.1.states, .slice a110_1 v31.1.starts.length c110_1, .slice a110_2 v31.1.ends.length c110_2, .slice a110_3 v31.1.edges.length c110_3] 25]
                  dsimp only [whittlelaw10_NfaTimes_j1] at hh
                  refine TC.region ?_
                  refine TL.v rfl (OpVal.moveI (.inl rfl) rfl) rfl rfl ?_
                  refine TL.v rfl (OpVal.succ rfl rfl rfl (by omega)) rfl rfl ?_
                  refine TL.v rfl (OpVal.moveI (.inr rfl) rfl) rfl rfl ?_
                  refine TL.nil ?_
                  refine S.n ?_
                  obtain ⟨hh, hlt134⟩ := nxt_x hR1 hh
                  refine ⟨by repeat (first | exact Agr.refl _ _ | exact Agr.mask | refine Agr.upd rfl ?_ | refine Agr.maskIn rfl ?_ | refine Agr.upds rfl ?_), ((t126, t127, (k124 + 1)), ()), hlt134, hh, by repeat (first | exact trivial | refine ⟨rfl, ?_⟩), Sub.front 1 rfl rfl (Sub.front 1 rfl rfl (Sub.pre 2 rfl)), rfl⟩
              · replace hh := iteO_f h125 hh
                replace h125 := of_decide_eq_false h125
                refine TC.exit ?_
                refine S.x ?_
                refine S.x ?_
                replace hh := fin_x hR1 hh
                refine TC.exitHere ?_
                refine S.n ?_
                refine TC.seq ?_
                refine TC.region ?_
                obtain ⟨v90, u90, hh⟩ := bnd_e hh
                refine TL.op rfl (OpOk.callP (whittlelaw10_awake_con u90) rfl rfl pf17 rfl rfl rfl ?_)
                refine TL.v rfl (OpVal.moveB (.inl rfl) rfl) rfl rfl ?_
                refine TL.split 90 rfl (fun h135 => ?_) (fun h135 => ?_)
                · replace hh := iteO_t h135 hh
                  refine TL.gv rfl rfl rfl rfl rfl (OpVal.loadAll rfl ag25 sz25 rfl (i := 0) rfl rfl) rfl rfl ?_
                  refine TL.gv rfl rfl rfl rfl rfl (OpVal.moveStr (.inl rfl) rfl) rfl rfl ?_
                  obtain ⟨v94, u94, hh⟩ := bnd_e hh
                  refine TL.gon rfl rfl rfl rfl rfl (OpOk.callP (whittlelaw10_takes_con (x0 := (starR x0)) hn107.s hn107.e hn107.d u94) rfl rfl pf25 rfl rfl rfl ?_)
                  refine TL.gv rfl rfl rfl rfl rfl (OpVal.moveB (.inl rfl) rfl) rfl rfl ?_
                  refine TL.gv rfl rfl rfl rfl rfl (OpVal.eqlB rfl rfl rfl Try.underlying4) rfl rfl ?_
                  refine TL.v rfl (OpVal.pickTB rfl rfl rfl) rfl rfl ?_
                  refine TL.v rfl (OpVal.moveB (.inl rfl) rfl) rfl rfl ?_
                  refine TL.split 97 rfl (fun h136 => ?_) (fun h136 => ?_)
                  · replace hh := iteO_t h136 hh
                    refine TL.gv rfl rfl rfl rfl rfl (OpVal.loadAll rfl ag25 sz25 rfl (i := 1) rfl rfl) rfl rfl ?_
                    refine TL.gv rfl rfl rfl rfl rfl (OpVal.moveStr (.inl rfl) rfl) rfl rfl ?_
                    obtain ⟨v101, u101, hh⟩ := bnd_e hh
                    refine TL.gon rfl rfl rfl rfl rfl (OpOk.callP (whittlelaw10_takes_con (x0 := v31.1) hr110_0 hr110_1 hr110_2 u101) rfl rfl pf25 rfl rfl rfl ?_)
                    refine TL.gv rfl rfl rfl rfl rfl (OpVal.moveB (.inl rfl) rfl) rfl rfl ?_
                    refine TL.gv rfl rfl rfl rfl rfl (OpVal.eqlB rfl rfl rfl Try.underlying4) rfl rfl ?_
                    refine TL.v rfl (OpVal.pickTB rfl rfl rfl) rfl rfl ?_
                    refine TL.v rfl (OpVal.moveB (.inr rfl) rfl) rfl rfl ?_
                    refine TL.nil ?_
                    refine S.n ?_
                    refine TC.ofSub (Sub.pre 0 rfl) ?_
                    refine TC.back ?_
                    refine TC.ret ?_
                    obtain rfl := Option.some.inj hh
                    exact RetOk.mk' (rs := [.tmp 8]) [] rfl (.inl rfl) (RVs.tmp rfl RVs.nil) (List.sublist_append_left _ _) ⟨rfl, rfl, rfl⟩
                  · replace hh := iteO_f h136 hh
                    refine TL.goff rfl rfl rfl rfl rfl rfl rfl rfl ?_
                    refine TL.goff rfl rfl rfl rfl rfl rfl rfl rfl ?_
                    refine TL.goff rfl rfl rfl rfl rfl rfl rfl rfl ?_
                    refine TL.goff rfl rfl rfl rfl rfl rfl rfl rfl ?_
                    refine TL.goff rfl rfl rfl rfl rfl rfl rfl rfl ?_
                    refine TL.v rfl (OpVal.pickFB rfl rfl rfl) rfl rfl ?_
                    refine TL.v rfl (OpVal.moveB (.inr rfl) rfl) rfl rfl ?_
                    refine TL.nil ?_
                    refine S.n ?_
                    refine TC.ofSub (Sub.pre 0 rfl) ?_
                    refine TC.back ?_
                    refine TC.ret ?_
                    obtain rfl := Option.some.inj hh
                    exact RetOk.mk' (rs := [.tmp 8]) [] rfl (.inl rfl) (RVs.tmp rfl RVs.nil) (List.sublist_append_left _ _) ⟨rfl, rfl, rfl⟩
                · replace hh := iteO_f h135 hh
                  refine TL.goff rfl rfl rfl rfl rfl rfl rfl rfl ?_
                  refine TL.goff rfl rfl rfl rfl rfl rfl rfl rfl ?_
                  refine TL.goff rfl rfl rfl rfl rfl rfl rfl rfl ?_
                  refine TL.goff rfl rfl rfl rfl rfl rfl rfl rfl ?_
                  refine TL.goff rfl rfl rfl rfl rfl rfl rfl rfl ?_
                  refine TL.v rfl (OpVal.pickFB rfl rfl rfl) rfl rfl ?_
                  refine TL.v rfl (OpVal.moveB (.inl rfl) rfl) rfl rfl ?_
                  refine TL.goff rfl rfl rfl rfl rfl rfl rfl rfl ?_
                  refine TL.goff rfl rfl rfl rfl rfl rfl rfl rfl ?_
                  refine TL.goff rfl rfl rfl rfl rfl rfl rfl rfl ?_
                  refine TL.goff rfl rfl rfl rfl rfl rfl rfl rfl ?_
                  refine TL.goff rfl rfl rfl rfl rfl rfl rfl rfl ?_
                  refine TL.v rfl (OpVal.pickFB rfl rfl rfl) rfl rfl ?_
                  refine TL.v rfl (OpVal.moveB (.inr rfl) rfl) rfl rfl ?_
                  refine TL.nil ?_
                  refine S.n ?_
                  refine TC.ofSub (Sub.pre 0 rfl) ?_
                  refine TC.back ?_
                  refine TC.ret ?_
                  obtain rfl := Option.some.inj hh
                  exact RetOk.mk' (rs := [.tmp 8]) [] rfl (.inl rfl) (RVs.tmp rfl RVs.nil) (List.sublist_append_left _ _) ⟨rfl, rfl, rfl⟩

end Go.Proofs.Ytcidppnlhhkhhaa
end

/- N4 -/
section
/- Decompiled: parted texts. -/
set_option linter.unusedVariables false
set_option linter.unusedSimpArgs false
namespace Go.Proofs.Ytcidppnlhhkhhaa
open Go Go.E
set_option maxRecDepth 100000
end Go.Proofs.Ytcidppnlhhkhhaa
end

/- Pl -/
section
/- Plain lemmas on rounds. No program, no condition. -/
set_option linter.unusedVariables false
set_option linter.unusedSimpArgs false
namespace Go.E
open Go

section
variable {S R : Type} {step : S → Option (S ⊕ R)}
/-- Rounds that count, and may stop at the first that tells. -/
theorem iter_any {y no : R} (f : Nat → S) (p : Nat → Bool) (n : Nat) (hs : ∀ k, k < n → p k = false → step (f k) = some (.inl (f (k + 1)))) (hy : ∀ k, k < n → p k = true → step (f k) = some (.inr y))
    (hd : step (f n) = some (.inr no)) : ∀ k, k ≤ n → iter step (f k) = some (bif (List.range n).any (fun i => decide (k ≤ i) && p i) then y else no) := by
  intro k hk
  obtain ⟨m, rfl⟩ : ∃ m, k = n - m := ⟨n - k, by omega⟩
  induction m with
  | zero =>
    have : (List.range n).any (fun i => decide (n - 0 ≤ i) && p i) = false := by
      rw [List.any_eq_false]; intro i hi; have := List.mem_range.1 hi; simp; omega
    rw [this]; exact iter_done hd
  | succ m ih =>
    by_cases h : m < n
    · have e : n - (m + 1) + 1 = n - m := by omega
      cases hp : p (n - (m + 1)) with
      | true =>
        have : (List.range n).any (fun i => decide (n - (m + 1) ≤ i) && p i) = true := by
          rw [List.any_eq_true]; exact ⟨n - (m + 1), List.mem_range.2 (by omega), by simp [hp]⟩
        rw [this]; exact iter_done (hy _ (by omega) hp)
      | false =>
        have h1 := hs (n - (m + 1)) (by omega) hp
        rw [e] at h1
        have : (List.range n).any (fun i => decide (n - (m + 1) ≤ i) && p i) = (List.range n).any (fun i => decide (n - m ≤ i) && p i) := by
          rw [Bool.eq_iff_iff, List.any_eq_true, List.any_eq_true]
          constructor
          · rintro ⟨i, hi, hx⟩
            simp only [Bool.and_eq_true, decide_eq_true_eq] at hx
            refine ⟨i, hi, ?_⟩
            have : i ≠ n - (m + 1) := fun h => by rw [h, hp] at hx; exact absurd hx.2 Bool.false_ne_true
            simp [hx.2]; omega
          · rintro ⟨i, hi, hx⟩
            simp only [Bool.and_eq_true, decide_eq_true_eq] at hx
            exact ⟨i, hi, by simp [hx.2]; omega⟩
        rw [this]
        exact iter_next h1 (ih (by omega))
    · have e : n - (m + 1) = n - m := by omega
      rw [e]; exact ih (by omega)
theorem iter_any0 {y no : R} (f : Nat → S) (p : Nat → Bool) (n : Nat) (hs : ∀ k, k < n → p k = false → step (f k) = some (.inl (f (k + 1)))) (hy : ∀ k, k < n → p k = true → step (f k) = some (.inr y))
    (hd : step (f n) = some (.inr no)) : iter step (f 0) = some (bif (List.range n).any p then y else no) := by
  have := iter_any f p n hs hy hd 0 (by omega)
  simpa using this
theorem iter_seq0 {r : R} (f : Nat → S) (n : Nat) (hs : ∀ k, k < n → step (f k) = some (.inl (f (k + 1)))) (hd : step (f n) = some (.inr r)) : iter step (f 0) = some r := iter_seq f n hs hd 0 (by omega)
end

/-- What a list's elements tell, asked by place. -/
theorem range_any {α : Type} (l : List α) (d : α) (p : α → Bool) : (List.range l.length).any (fun i => p (nth l i d)) = l.any p := by
  rw [Bool.eq_iff_iff, List.any_eq_true, List.any_eq_true]
  constructor
  · rintro ⟨i, hi, h⟩
    have hi := List.mem_range.1 hi
    exact ⟨nth l i d, List.mem_of_getElem? (getD_some l hi d), h⟩
  · rintro ⟨x, hx, h⟩
    obtain ⟨i, hi, rfl⟩ := List.getElem_of_mem hx
    refine ⟨i, List.mem_range.2 hi, ?_⟩
    have : nth l i d = l[i] := by have := getD_some l hi d; rw [List.getElem?_eq_getElem hi] at this; exact (Option.some.inj this).symm
    rw [this]; exact h
theorem take_snoc {α : Type} (l : List α) {k : Nat} (h : k < l.length) (d : α) : l.take (k + 1) = l.take k ++ [nth l k d] := by
  rw [List.take_add_one, getD_some l h d]; rfl
theorem mem_insK {α : Type} [BEq α] [LawfulBEq α] {l : List α} {k x : α} : x ∈ insK l k ↔ x ∈ l ∨ x = k := by
  unfold insK
  split
  · rename_i h
    have h : k ∈ l := by simpa using h
    constructor
    · exact .inl
    · rintro (h1 | rfl)
      · exact h1
      · exact h
  · simp
end Go.E
end

/- N1t -/
section
/- What an automaton takes: the program's answer. Plain lemmas, no condition. -/
set_option linter.unusedVariables false
set_option linter.unusedSimpArgs false
namespace Go.Proofs.Ytcidppnlhhkhhaa
open Go Go.E
set_option maxRecDepth 100000

/-- The states behind a byte. -/
def aftL (n : Nfa) (at_ : List Int) (b : UInt8) : List Int := (n.edges.filter fun e => e.set.has b.toNat && at_.contains e.frm).map (·.to)
def reachL (n : Nfa) (w : List UInt8) : List Int := w.foldl (aftL n) n.starts
def takesL (n : Nfa) (w : List UInt8) : Bool := n.ends.any fun s => (reachL n w).contains s
theorem mem_aftL {n : Nfa} {l : List Int} {b : UInt8} {s : Int} : s ∈ aftL n l b ↔ ∃ e ∈ n.edges, e.set.has b.toNat = true ∧ e.frm ∈ l ∧ e.to = s := by
  simp only [aftL, List.mem_map, List.mem_filter, Bool.and_eq_true, List.contains_iff_mem]
  constructor
  · rintro ⟨e, ⟨h1, h2, h3⟩, h4⟩; exact ⟨e, h1, h2, h3, h4⟩
  · rintro ⟨e, h1, h2, h3, h4⟩; exact ⟨e, ⟨h1, h2, h3⟩, h4⟩
theorem aftL_nil (n : Nfa) (b : UInt8) : aftL n [] b = [] := by simp [aftL]
theorem fold_nil (n : Nfa) (w : List UInt8) : w.foldl (aftL n) [] = [] := by
  induction w with
  | nil => rfl
  | cons b w ih => rw [List.foldl_cons, aftL_nil, ih]
theorem contains_congr {l m : List Int} (h : ∀ s, s ∈ l ↔ s ∈ m) (s : Int) : l.contains s = m.contains s := by
  rw [Bool.eq_iff_iff, List.contains_iff_mem, List.contains_iff_mem]; exact h s

/-- One byte on, the program's way. -/
def insE (m26 : List Int) (b : UInt8) (m : List Int) (e : Arrow) : List Int := if m26.contains e.frm = true ∧ e.set.has b.toNat = true then insK m e.to else m
theorem mem_insE_fold (m26 : List Int) (b : UInt8) (l : List Arrow) : ∀ (m : List Int) (s : Int), s ∈ l.foldl (insE m26 b) m ↔ s ∈ m ∨ ∃ e ∈ l, e.set.has b.toNat = true ∧ e.frm ∈ m26 ∧ e.to = s := by
  induction l with
  | nil => intro m s; simp
  | cons e l ih =>
    intro m s
    rw [List.foldl_cons, ih]
    unfold insE
    by_cases h : m26.contains e.frm = true ∧ e.set.has b.toNat = true
    · rw [if_pos h, mem_insK]
      have h1 : e.frm ∈ m26 := by simpa using h.1
      constructor
      · rintro ((h2 | rfl) | ⟨u, h2, h3⟩)
        · exact .inl h2
        · exact .inr ⟨e, List.mem_cons_self .., h.2, h1, rfl⟩
        · exact .inr ⟨u, List.mem_cons_of_mem _ h2, h3⟩
      · rintro (h2 | ⟨u, h2, h3⟩)
        · exact .inl (.inl h2)
        · rcases List.mem_cons.1 h2 with rfl | h2
          · exact .inl (.inr h3.2.2.symm)
          · exact .inr ⟨u, h2, h3⟩
    · rw [if_neg h]
      constructor
      · rintro (h2 | ⟨u, h2, h3⟩)
        · exact .inl h2
        · exact .inr ⟨u, List.mem_cons_of_mem _ h2, h3⟩
      · rintro (h2 | ⟨u, h2, h3⟩)
        · exact .inl h2
        · rcases List.mem_cons.1 h2 with rfl | h2
          · exact absurd ⟨by simpa using h3.2.1, h3.1⟩ h
          · exact .inr ⟨u, h2, h3⟩

theorem b3_run (n : Nfa) (m26 : List Int) (w : List UInt8) (i : Nat) :
    iter (fun q : (List Int) × Nat => nfa_Takes_b3 n m26 w i q.1 q.2) ([], 0) = some (.inl (n.edges.foldl (insE m26 (nth w i 0)) [], i + 1)) := by
  refine iter_seq0 (fun k => ((n.edges.take k).foldl (insE m26 (nth w i 0)) [], k)) n.edges.length (fun k hk => ?_) ?_
  · simp only [nfa_Takes_b3]
    have h0 : decide (((k : Nat) : Int) < ((n.edges.length : Nat) : Int)) = true := by simpa using hk
    rw [h0, iteO_true, take_snoc _ hk Arrow.zero, List.foldl_append, List.foldl_cons, List.foldl_nil]
    generalize List.foldl (insE m26 (nth w i 0)) [] (List.take k n.edges) = m
    generalize nth n.edges k Arrow.zero = e
    unfold insE nfa_Takes_j2
    cases h1 : m26.contains e.frm <;> cases h2 : e.set.has (nth w i 0).toNat <;> simp [iteO, nxt]
  · simp only [nfa_Takes_b3, List.take_length]
    simp [iteO, nxt]

theorem b4_run (n : Nfa) (m26 : List Int) : nfa_Takes_j1 n m26 = some (n.ends.any fun s => m26.contains s, 0) := by
  unfold nfa_Takes_j1
  have h := iter_any0 (step := fun q : Nat => nfa_Takes_b4 n m26 q) (y := (true, 0)) (no := (false, 0)) (fun k => k) (fun k => m26.contains (nth n.ends k 0)) n.ends.length ?_ ?_ ?_
  · rw [h, range_any n.ends 0 (fun s => m26.contains s)]
    cases n.ends.any fun s => m26.contains s <;> rfl
  · intro k hk hp
    simp only [nfa_Takes_b4, hp, decide_eq_true (show ((k : Nat) : Int) < ((n.ends.length : Nat) : Int) by omega)]; rfl
  · intro k hk hp
    simp only [nfa_Takes_b4, hp, decide_eq_true (show ((k : Nat) : Int) < ((n.ends.length : Nat) : Int) by omega)]; rfl
  · simp only [nfa_Takes_b4, Int.lt_irrefl, decide_false]; rfl

theorem any_congr {l m : List Int} (h : ∀ s, s ∈ l ↔ s ∈ m) (e : List Int) : (e.any fun s => l.contains s) = e.any fun s => m.contains s := by
  have e : (fun s => l.contains s) = fun s => m.contains s := funext fun s => contains_congr h s
  rw [e]
theorem foldl_take_succ (n : Nfa) (w : List UInt8) {k : Nat} (h : k < w.length) (l : List Int) : (w.take (k + 1)).foldl (aftL n) l = aftL n ((w.take k).foldl (aftL n) l) (nth w k 0) := by
  rw [take_snoc w h 0, List.foldl_append]; rfl
theorem foldl_split (n : Nfa) (w : List UInt8) (k : Nat) (l : List Int) : w.foldl (aftL n) l = (w.drop k).foldl (aftL n) ((w.take k).foldl (aftL n) l) := by
  rw [← List.foldl_append, List.take_append_drop]

theorem b2_run (n : Nfa) (w : List UInt8) (m : List Int) (hm : ∀ s, s ∈ m ↔ s ∈ n.starts) : iter (fun q : (List Int) × Nat => nfa_Takes_b2 w n q.1 q.2) (m, 0) = some (takesL n w, 0) := by
  have key := iter_run (step := fun q : (List Int) × Nat => nfa_Takes_b2 w n q.1 q.2) (fun q => q.2 ≤ w.length ∧ ∀ s, s ∈ q.1 ↔ s ∈ (w.take q.2).foldl (aftL n) n.starts) (fun r => r = (takesL n w, 0)) (fun q => w.length - q.2)
  refine Exists.elim (key ?_ (m, 0) ⟨Nat.zero_le _, by simpa using hm⟩) (fun r hr => by rw [hr.1, hr.2])
  · rintro ⟨m, k⟩ ⟨hk, hI⟩
    simp only at hk hI
    have hend : ∀ l : List Int, (∀ s, s ∈ l ↔ s ∈ reachL n w) → fin (nfa_Takes_j1 n l) = (some (.inr (takesL n w, 0)) : Option (((List Int) × Nat) ⊕ (Bool × Int))) := fun l hl => by
      rw [b4_run, any_congr hl]; rfl
    by_cases hlt : k < w.length
    · by_cases h0 : 0 < m.length
      · refine .inl ⟨(n.edges.foldl (insE m (nth w k 0)) [], k + 1), ?_, ?_, ?_⟩
        · simp only [nfa_Takes_b2, decide_eq_true (show ((k : Nat) : Int) < ((w.length : Nat) : Int) by omega), decide_eq_true (show (0 : Int) < ((m.length : Nat) : Int) by omega), iteO_true]
          exact b3_run n m w k
        · refine ⟨by simp only; omega, fun s => ?_⟩
          simp only
          rw [mem_insE_fold, foldl_take_succ n w hlt, mem_aftL]
          simp only [List.not_mem_nil, false_or, hI]
        · simp only; omega
      · refine .inr ⟨(takesL n w, 0), ?_, rfl⟩
        simp only [nfa_Takes_b2, decide_eq_true (show ((k : Nat) : Int) < ((w.length : Nat) : Int) by omega), decide_eq_false (show ¬ (0 : Int) < ((m.length : Nat) : Int) by omega), iteO_true, iteO_false]
        refine hend m fun s => ?_
        have hm0 : m = [] := List.eq_nil_of_length_eq_zero (by omega)
        have hz : (w.take k).foldl (aftL n) n.starts = [] := List.eq_nil_iff_forall_not_mem.2 fun s hs => by have := (hI s).2 hs; rw [hm0] at this; cases this
        rw [reachL, foldl_split n w k, hz, fold_nil, hm0]
    · refine .inr ⟨(takesL n w, 0), ?_, rfl⟩
      simp only [nfa_Takes_b2, decide_eq_false (show ¬ ((k : Nat) : Int) < ((w.length : Nat) : Int) by omega), iteO_false]
      refine hend m fun s => ?_
      rw [hI, List.take_of_length_le (by omega)]; rfl

theorem mem_foldl_insK (l : List Int) : ∀ (m : List Int) (s : Int), s ∈ l.foldl insK m ↔ s ∈ m ∨ s ∈ l := by
  induction l with
  | nil => intro m s; simp
  | cons x l ih =>
    intro m s
    rw [List.foldl_cons, ih, mem_insK, List.mem_cons, or_assoc]
/-- The program's answer. -/
theorem takes_eq (n : Nfa) (w : List UInt8) (hw : w.length ≤ 281474976710656) : nfa_Takes n w = some (if checkB n = true then (takesL n w, 0) else (false, 1)) := by
  unfold nfa_Takes
  rw [grd_mk hw]
  by_cases hc : checkB n = true
  · have h1 : decide (errB (checkB n) ≠ 0) = false := by rw [hc]; rfl
    rw [h1, iteO_false, if_pos hc]
    have := iter_seq0 (step := fun q : (List Int) × Nat => nfa_Takes_b1 n w q.1 q.2) (r := (takesL n w, 0)) (fun k => ((n.starts.take k).foldl insK [], k)) n.starts.length (fun k hk => ?_) ?_
    · exact this
    · simp only [nfa_Takes_b1, decide_eq_true (show ((k : Nat) : Int) < ((n.starts.length : Nat) : Int) by omega), iteO_true]
      rw [take_snoc _ hk (0 : Int), List.foldl_append]; rfl
    · simp only [nfa_Takes_b1, Int.lt_irrefl, decide_false, iteO_false, List.take_length]
      rw [b2_run n w _ (fun s => by rw [mem_foldl_insK]; simp)]; rfl
  · have h1 : decide (errB (checkB n) ≠ 0) = true := by
      have : checkB n = false := by simpa using hc
      rw [this]; rfl
    rw [h1, iteO_true, if_neg hc]
end Go.Proofs.Ytcidppnlhhkhhaa
end

/- N1p -/
section
/- What an automaton takes: the program's and the reference's answer. Plain lemmas, no condition. -/
set_option linter.unusedVariables false
set_option linter.unusedSimpArgs false
namespace Go.Proofs.Ytcidppnlhhkhhaa
open Go Go.E
set_option maxRecDepth 100000
/-! ### The reference -/
/-- The document's example. -/
theorem awake_eq : whittlelaw10_awake = some true := by
  unfold whittlelaw10_awake
  rw [grd_mk (by decide), grd_mk (by decide), takes_eq _ _ (by decide), takes_eq _ _ (by decide)]
  decide

end Go.Proofs.Ytcidppnlhhkhhaa
end

/- N3p -/
section
/- One or the other: what the program's function answers. Plain. -/
set_option linter.unusedVariables false
set_option linter.unusedSimpArgs false
namespace Go.Proofs.Ytcidppnlhhkhhaa
open Go Go.E
set_option maxRecDepth 100000

theorem wr64 {a : Int} (h : -9223372036854775808 ≤ a ∧ a < 9223372036854775808) : IntKind.i64.wrap a = a := by
  simp only [IntKind.wrap, IntKind.bits, IntKind.signed]; simp; omega

theorem growI_eq (k : Nat) (h : k ≤ 1000000000000) : growI (k : Int) = some [] := by
  unfold growI
  rw [decide_eq_false (by omega), iteO_false]
  have e : IntKind.i64.wrap ((k : Int) - IntKind.i64.wrap (((0 : Nat) : Int) - ((0 : Nat) : Int))) = k := by
    have e0 : IntKind.i64.wrap (((0 : Nat) : Int) - ((0 : Nat) : Int)) = 0 := wr64 (by omega)
    rw [e0, wr64 (by omega)]; omega
  rw [e]
  by_cases hk : k = 0
  · subst hk; rw [decide_eq_false (by omega), iteO_false]; rfl
  · rw [decide_eq_true (by omega), iteO_true, grd_mk (by omega), grd_mk (Nat.zero_le _)]; rfl

theorem concatI_two (a b : List Int) (ha : a.length ≤ 1000000000) (hb : b.length ≤ 1000000000) : concatI [a, b] = some (a ++ b) := by
  unfold concatI
  have hb2 : iter (fun q : (List Int) × Nat => concatI_b2 [a, b] q.1 q.2) ([], 0) = some (a ++ b) := by
    refine iter_next (s' := (a, 1)) ?_ (iter_next (s' := (a ++ b, 2)) ?_ (iter_done ?_))
    · simp only [concatI_b2]
      rw [decide_eq_true (by simp), iteO_true, grd_mk (by simp [nth]; omega)]; simp [nth, nxt]
    · simp only [concatI_b2]
      rw [decide_eq_true (by simp), iteO_true, grd_mk (by simp [nth]; omega)]; simp [nth, nxt]
    · simp only [concatI_b2]
      rw [decide_eq_false (by simp), iteO_false]; rfl
  refine iter_next (s' := ((a.length : Int), 1)) ?_ (iter_next (s' := ((a.length : Int) + b.length, 2)) ?_ (iter_done ?_))
  · simp only [concatI_b1]
    have e : IntKind.i64.wrap (0 + (((nth [a, b] 0 ([] : List Int)).length : Nat) : Int)) = a.length := by simp [nth]; exact wr64 (by omega)
    rw [e, decide_eq_true (by simp), iteO_true, decide_eq_false (by omega), iteO_false]; rfl
  · simp only [concatI_b1]
    have e : IntKind.i64.wrap ((a.length : Int) + (((nth [a, b] 1 ([] : List Int)).length : Nat) : Int)) = a.length + b.length := by simp [nth]; exact wr64 (by omega)
    rw [e, decide_eq_true (by simp), iteO_true, decide_eq_false (by omega), iteO_false]; rfl
  · simp only [concatI_b1]
    have e : ((a.length : Int) + (b.length : Int)) = ((a.length + b.length : Nat) : Int) := by omega
    rw [decide_eq_false (by simp), iteO_false, e, bnd_some (growI_eq _ (by omega)), hb2]; rfl

theorem nfa_shift_eq (l : List Int) (k : Int) (hl : l.length ≤ 1000000000) (hk : 0 ≤ k ∧ k ≤ 1000000) (h : ∀ x ∈ l, 0 ≤ x ∧ x ≤ 1000000) : nfa_shift l k = some (shiftL l k) := by
  unfold nfa_shift
  rw [grd_mk (by omega)]
  refine iter_seq0 (step := fun q : (List Int) × Nat => nfa_shift_b1 l k q.1 q.2) (fun i => (shiftTo l i k, i)) l.length (fun i hi => ?_) ?_ |> Eq.trans (by simp [shiftTo, shiftL])
  · simp only [nfa_shift_b1, decide_eq_true (show ((i : Nat) : Int) < ((l.length : Nat) : Int) by omega), iteO_true]
    have := h _ (nth_mem hi 0)
    rw [grd_mk (by rw [shiftTo_len _ _ _ (by omega)]; exact hi), wr64 (by omega), shiftTo_succ hi]; rfl
  · simp only [nfa_shift_b1, Int.lt_irrefl, decide_false, iteO_false]
    simp [shiftTo, fin]

/-- The program's answer. -/
theorem nfa_Alt_eq (x y : Nfa) : nfa_Alt x y = some (altR x y, altX x y) := by
  unfold nfa_Alt altR altX
  by_cases hx : checkB x = true
  · by_cases hy : checkB y = true
    · obtain ⟨k1, k2, k3, k4, k5, k6⟩ := checkB_spec hx
      obtain ⟨l1, l2, l3, l4, l5, l6⟩ := checkB_spec hy
      have lx := checkB_len hx
      have ly := checkB_len hy
      have hxy : checkB x = true ∧ checkB y = true := ⟨hx, hy⟩
      simp only [if_pos hxy]
      rw [hx, hy]
      have e1 : IntKind.i64.wrap (x.states + y.states) = x.states + y.states := wr64 (by omega)
      have e2 : IntKind.i64.wrap (((x.edges.length : Nat) : Int) + ((y.edges.length : Nat) : Int)) = (x.edges.length : Int) + y.edges.length := wr64 (by omega)
      rw [e1, e2, decide_eq_false (by simp [errB]), iteO_false, iteO_false]
      change iteO (!(altF x y)) _ _ = _
      cases altF x y
      · rfl
      · have s1 := nfa_shift_eq y.starts x.states (by omega) (by omega) (fun u hu => by have := l4 u hu; omega)
        have s2 := nfa_shift_eq y.ends x.states (by omega) (by omega) (fun u hu => by have := l5 u hu; omega)
        rw [Bool.not_true, iteO_false, bnd_some s1, bnd_some (concatI_two _ _ (by omega) (by rw [shiftL_len]; omega)), bnd_some s2, bnd_some (concatI_two _ _ (by omega) (by rw [shiftL_len]; omega)),
          grd_mk (by omega), grd_mk (fun u hu => by have := l6 u hu; omega), grd_mk (by omega), grd_mk (by omega)]; rfl
    · have hy' : checkB y = false := by simpa using hy
      have hxy : ¬ (checkB x = true ∧ checkB y = true) := fun h => hy h.2
      simp only [if_neg hxy]
      rw [hx, hy']; rfl
  · have hx' : checkB x = false := by simpa using hx
    have hxy : ¬ (checkB x = true ∧ checkB y = true) := fun h => hx h.1
    simp only [if_neg hxy]
    rw [hx']; rfl
end Go.Proofs.Ytcidppnlhhkhhaa
end

/- Runs -/
section
/- What automatons take: rows of edges. Plain. -/
set_option linter.unusedVariables false
set_option linter.unusedSimpArgs false
namespace Go.Proofs.Ytcidppnlhhkhhaa
open Go Go.E
set_option maxRecDepth 100000

/-- A row of edges by a text, from a state to a state. -/
def Run (n : Nfa) : Int → List UInt8 → Int → Prop
  | s, [], t => s = t
  | s, b :: w, t => ∃ e ∈ n.edges, e.set.has b.toNat = true ∧ e.frm = s ∧ Run n e.to w t

theorem mem_fold (n : Nfa) (w : List UInt8) : ∀ (l : List Int) (t : Int), t ∈ w.foldl (aftL n) l ↔ ∃ s ∈ l, Run n s w t := by
  induction w with
  | nil => intro l t; simp [Run]
  | cons b w ih =>
    intro l t
    rw [List.foldl_cons, ih]
    constructor
    · rintro ⟨s, hs, hr⟩
      obtain ⟨e, h1, h2, h3, rfl⟩ := mem_aftL.1 hs
      exact ⟨_, h3, e, h1, h2, rfl, hr⟩
    · rintro ⟨s, hs, e, h1, h2, rfl, hr⟩
      exact ⟨_, mem_aftL.2 ⟨e, h1, h2, hs, rfl⟩, hr⟩
theorem takesL_iff {n : Nfa} {w : List UInt8} : takesL n w = true ↔ ∃ s ∈ n.starts, ∃ t ∈ n.ends, Run n s w t := by
  simp only [takesL, List.any_eq_true, List.contains_iff_mem, reachL, mem_fold]
  constructor
  · rintro ⟨t, ht, s, hs, h⟩; exact ⟨s, hs, t, ht, h⟩
  · rintro ⟨s, hs, t, ht, h⟩; exact ⟨t, ht, s, hs, h⟩
theorem emptyB_iff {n : Nfa} : emptyB n = true ↔ ∃ s ∈ n.starts, s ∈ n.ends := by
  simp only [emptyB, List.any_eq_true, List.contains_iff_mem]
theorem takesL_nil {n : Nfa} : takesL n [] = true ↔ emptyB n = true := by
  rw [takesL_iff, emptyB_iff]
  constructor
  · rintro ⟨s, hs, t, ht, rfl⟩; exact ⟨s, hs, ht⟩
  · rintro ⟨s, hs, ht⟩; exact ⟨s, hs, s, ht, rfl⟩
theorem Run.ge {n : Nfa} (h : ∀ e ∈ n.edges, 0 ≤ e.to) : ∀ {w : List UInt8} {s t : Int}, Run n s w t → 0 ≤ s → 0 ≤ t
  | [], s, t, hr, hs => by cases hr; exact hs
  | b :: w, s, t, ⟨e, h1, _, _, h4⟩, _ => Run.ge h h4 (h e h1)
theorem Run.lt {n : Nfa} {k : Int} (h : ∀ e ∈ n.edges, e.to < k) : ∀ {w : List UInt8} {s t : Int}, Run n s w t → s < k → t < k
  | [], s, t, hr, hs => by cases hr; exact hs
  | b :: w, s, t, ⟨e, h1, _, _, h4⟩, _ => Run.lt h h4 (h e h1)
theorem Run.app {n : Nfa} : ∀ {w v : List UInt8} {s t : Int}, Run n s (w ++ v) t ↔ ∃ m, Run n s w m ∧ Run n m v t
  | [], v, s, t => ⟨fun h => ⟨s, rfl, h⟩, fun ⟨m, h1, h2⟩ => by cases h1; exact h2⟩
  | b :: w, v, s, t => by
    constructor
    · rintro ⟨e, h1, h2, h3, h4⟩
      obtain ⟨m, h5, h6⟩ := Run.app.1 h4
      exact ⟨m, ⟨e, h1, h2, h3, h5⟩, h6⟩
    · rintro ⟨m, ⟨e, h1, h2, h3, h5⟩, h6⟩
      exact ⟨e, h1, h2, h3, Run.app.2 ⟨m, h5, h6⟩⟩

theorem mem_shiftL {l : List Int} {k x : Int} : x ∈ shiftL l k ↔ x - k ∈ l := by
  simp only [shiftL, List.mem_map]
  constructor
  · rintro ⟨a, h, rfl⟩; rwa [show a + k - k = a by omega]
  · intro h; exact ⟨_, h, by omega⟩
theorem mem_shiftE {l : List Arrow} {k : Int} {x : Arrow} : x ∈ shiftE l k ↔ ∃ e ∈ l, x = ⟨e.frm + k, e.to + k, e.set⟩ := by
  simp only [shiftE, List.mem_map]
  constructor
  · rintro ⟨a, h, rfl⟩; exact ⟨a, h, rfl⟩
  · rintro ⟨a, h, rfl⟩; exact ⟨a, h, rfl⟩

/-- The second part, put behind the first one's states. -/
theorem run_right {n y : Nfa} {k : Int} (H : ∀ e, k ≤ e.frm → (e ∈ n.edges ↔ e ∈ shiftE y.edges k)) (hy : ∀ e ∈ y.edges, 0 ≤ e.frm ∧ 0 ≤ e.to) :
    ∀ (w : List UInt8) (s t : Int), k ≤ s → (Run n s w t ↔ Run y (s - k) w (t - k))
  | [], s, t, _ => by simp only [Run]; omega
  | b :: w, s, t, hs => by
    simp only [Run]
    constructor
    · rintro ⟨e, h1, h2, rfl, h4⟩
      obtain ⟨u, hu, he⟩ := mem_shiftE.1 ((H e hs).1 h1)
      subst he
      have := hy u hu
      refine ⟨u, hu, h2, by simp, ?_⟩
      have := (run_right H hy w _ t (by simp only; omega)).1 h4
      simpa using this
    · rintro ⟨u, hu, h2, h3, h4⟩
      have := hy u hu
      refine ⟨⟨u.frm + k, u.to + k, u.set⟩, (H _ (by simp only; omega)).2 (mem_shiftE.2 ⟨u, hu, rfl⟩), h2, by simp only; omega, ?_⟩
      refine (run_right H hy w _ t (by simp only; omega)).2 ?_
      simpa using h4

/-! ### One or the other -/
theorem alt_right {x y : Nfa} (hx : checkB x = true) : ∀ e : Arrow, x.states ≤ e.frm → (e ∈ (altN x y).edges ↔ e ∈ shiftE y.edges x.states) := by
  obtain ⟨k1, k2, k3, k4, k5, k6⟩ := checkB_spec hx
  intro e he
  simp only [altN, altE, List.mem_append]
  refine ⟨fun h => h.resolve_left fun h => ?_, .inr⟩
  have := k6 e h; omega
theorem alt_left {x y : Nfa} (hx : checkB x = true) (hy : checkB y = true) : ∀ (w : List UInt8) (s t : Int), s < x.states → (Run (altN x y) s w t ↔ Run x s w t)
  | [], s, t, _ => Iff.rfl
  | b :: w, s, t, hs => by
    obtain ⟨k1, k2, k3, k4, k5, k6⟩ := checkB_spec hx
    obtain ⟨l1, l2, l3, l4, l5, l6⟩ := checkB_spec hy
    simp only [Run]
    constructor
    · rintro ⟨e, h1, h2, rfl, h4⟩
      simp only [altN, altE, List.mem_append] at h1
      rcases h1 with h1 | h1
      · exact ⟨e, h1, h2, rfl, (alt_left hx hy w _ t (k6 e h1).2.2.2).1 h4⟩
      · obtain ⟨u, hu, rfl⟩ := mem_shiftE.1 h1
        have := l6 u hu
        simp only at hs; omega
    · rintro ⟨e, h1, h2, rfl, h4⟩
      exact ⟨e, by simp only [altN, altE, List.mem_append]; exact .inl h1, h2, rfl, (alt_left hx hy w _ t (k6 e h1).2.2.2).2 h4⟩
theorem takesL_alt {x y : Nfa} (hx : checkB x = true) (hy : checkB y = true) (w : List UInt8) : takesL (altN x y) w = (takesL x w || takesL y w) := by
  obtain ⟨k1, k2, k3, k4, k5, k6⟩ := checkB_spec hx
  obtain ⟨l1, l2, l3, l4, l5, l6⟩ := checkB_spec hy
  rw [Bool.eq_iff_iff, Bool.or_eq_true, takesL_iff, takesL_iff, takesL_iff]
  have R := run_right (alt_right (y := y) hx) (fun e he => ⟨(l6 e he).1, (l6 e he).2.2.1⟩) w
  have L := alt_left hx hy w
  simp only [altN, List.mem_append, mem_shiftL] at *
  constructor
  · rintro ⟨s, hs | hs, t, ht, h⟩
    · have h' := (L s t (k4 s hs).2).1 h
      refine .inl ⟨s, hs, t, ht.resolve_right fun ht => ?_, h'⟩
      have := h'.lt (fun e he => (k6 e he).2.2.2) (k4 s hs).2
      have := l5 _ ht; omega
    · have hs' := l4 _ hs
      have h' := (R s t (by omega)).1 h
      refine .inr ⟨s - x.states, hs, t - x.states, ht.resolve_left fun ht => ?_, h'⟩
      have := h'.ge (fun e he => (l6 e he).2.2.1) (by omega)
      have := k5 _ ht; omega
  · rintro (⟨s, hs, t, ht, h⟩ | ⟨s, hs, t, ht, h⟩)
    · exact ⟨s, .inl hs, t, .inl ht, (L s t (k4 s hs).2).2 h⟩
    · have := l4 _ hs
      refine ⟨s + x.states, .inr (by rwa [show s + x.states - x.states = s by omega]), t + x.states, .inr (by rwa [show t + x.states - x.states = t by omega]), (R _ _ (by omega)).2 ?_⟩
      rwa [show s + x.states - x.states = s by omega, show t + x.states - x.states = t by omega]

/-! ### One behind the other -/
theorem mem_catE {x y : Nfa} {e : Arrow} : e ∈ (catN x y).edges ↔ e ∈ x.edges ∨ e ∈ shiftE y.edges x.states ∨ ∃ u ∈ x.edges, u.to ∈ x.ends ∧ ∃ s ∈ y.starts, e = ⟨u.frm, s + x.states, u.set⟩ := by
  simp only [catN, catTo, List.take_length, List.mem_append, List.mem_flatMap, catOf, or_assoc]
  refine or_congr Iff.rfl (or_congr Iff.rfl ?_)
  constructor
  · rintro ⟨u, hu, h⟩
    split at h
    · rename_i hc
      simp only [catPut, List.mem_map, mem_shiftL] at h
      obtain ⟨s, hs, rfl⟩ := h
      exact ⟨u, hu, by simpa using hc, s - x.states, hs, by simp⟩
    · simp at h
  · rintro ⟨u, hu, hc, s, hs, rfl⟩
    refine ⟨u, hu, ?_⟩
    rw [if_pos (by simpa using hc)]
    simp only [catPut, List.mem_map, mem_shiftL]
    exact ⟨s + x.states, by rwa [show s + x.states - x.states = s by omega], rfl⟩
theorem cat_right {x y : Nfa} (hx : checkB x = true) : ∀ e : Arrow, x.states ≤ e.frm → (e ∈ (catN x y).edges ↔ e ∈ shiftE y.edges x.states) := by
  obtain ⟨k1, k2, k3, k4, k5, k6⟩ := checkB_spec hx
  intro e he
  rw [mem_catE]
  refine ⟨fun h => ?_, fun h => .inr (.inl h)⟩
  rcases h with h | h | ⟨u, hu, _, s, _, rfl⟩
  · have := k6 e h; omega
  · exact h
  · have := k6 u hu; simp only at he; omega
theorem cat_left {x y : Nfa} (hx : checkB x = true) (hy : checkB y = true) : ∀ (w : List UInt8) (s t : Int), s < x.states →
    (Run (catN x y) s w t ↔ (t < x.states ∧ Run x s w t) ∨ (x.states ≤ t ∧ ∃ v u, w = v ++ u ∧ v ≠ [] ∧ ∃ m ∈ x.ends, Run x s v m ∧ ∃ r ∈ y.starts, Run y r u (t - x.states)))
  | [], s, t, hs => by
    simp only [Run]
    constructor
    · rintro rfl; exact .inl ⟨hs, rfl⟩
    · rintro (⟨_, h⟩ | ⟨_, v, u, h, hv, _⟩)
      · exact h
      · have := congrArg List.length h; rw [List.length_append] at this
        exact absurd (List.eq_nil_of_length_eq_zero (by simp only [List.length_nil] at this; omega)) hv
  | b :: w, s, t, hs => by
    obtain ⟨k1, k2, k3, k4, k5, k6⟩ := checkB_spec hx
    obtain ⟨l1, l2, l3, l4, l5, l6⟩ := checkB_spec hy
    have R := run_right (cat_right (y := y) hx) (fun e he => ⟨(l6 e he).1, (l6 e he).2.2.1⟩) w
    constructor
    · rintro ⟨e, h1, h2, rfl, h4⟩
      rcases mem_catE.1 h1 with h1 | h1 | ⟨u, hu, hc, r, hr, rfl⟩
      · rcases (cat_left hx hy w _ t (k6 e h1).2.2.2).1 h4 with ⟨h5, h6⟩ | ⟨h5, v, u, rfl, hv, m, hm, h6, h7⟩
        · exact .inl ⟨h5, e, h1, h2, rfl, h6⟩
        · exact .inr ⟨h5, b :: v, u, rfl, by simp, m, hm, ⟨e, h1, h2, rfl, h6⟩, h7⟩
      · obtain ⟨u, hu, rfl⟩ := mem_shiftE.1 h1
        have := l6 u hu
        simp only at hs; omega
      · have := l4 r hr
        have h5 := (R _ t (by simp only; omega)).1 h4
        simp only [show r + x.states - x.states = r by omega] at h5
        have := h5.ge (fun e he => (l6 e he).2.2.1) (by omega)
        exact .inr ⟨by omega, [b], w, rfl, by simp, u.to, hc, ⟨u, hu, h2, rfl, rfl⟩, r, hr, h5⟩
    · rintro (⟨h5, e, h1, h2, rfl, h6⟩ | ⟨h5, v, u, h, hv, m, hm, h6, r, hr, h7⟩)
      · exact ⟨e, mem_catE.2 (.inl h1), h2, rfl, (cat_left hx hy w _ t (k6 e h1).2.2.2).2 (.inl ⟨h5, h6⟩)⟩
      · cases v with
        | nil => exact absurd rfl hv
        | cons c v =>
          rw [List.cons_append] at h
          injection h with hb hw
          subst hb hw
          obtain ⟨e, h1, h2, rfl, h8⟩ := h6
          by_cases hv0 : v = []
          · subst hv0
            cases h8
            have := l4 r hr
            refine ⟨⟨e.frm, r + x.states, e.set⟩, mem_catE.2 (.inr (.inr ⟨e, h1, hm, r, hr, rfl⟩)), h2, rfl, (R _ t (by simp only; omega)).2 ?_⟩
            simp only [show r + x.states - x.states = r by omega]
            exact h7
          · exact ⟨e, mem_catE.2 (.inl h1), h2, rfl, (cat_left hx hy _ _ t (k6 e h1).2.2.2).2 (.inr ⟨h5, v, u, rfl, hv0, m, hm, h8, r, hr, h7⟩)⟩
theorem mem_catS {x y : Nfa} {s : Int} : s ∈ (catN x y).starts ↔ s ∈ x.starts ∨ (emptyB x = true ∧ s - x.states ∈ y.starts) := by
  simp only [catN, catS]
  split
  · rename_i h; simp only [List.mem_append, mem_shiftL, h, true_and]
  · rename_i h; simp only [h, Bool.false_eq_true, false_and, or_false]
theorem mem_catD {x y : Nfa} {s : Int} : s ∈ (catN x y).ends ↔ s - x.states ∈ y.ends ∨ (emptyB y = true ∧ s ∈ x.ends) := by
  simp only [catN, catD]
  split
  · rename_i h; simp only [List.mem_append, mem_shiftL, h, true_and]; exact or_comm
  · rename_i h; simp only [List.nil_append, mem_shiftL, h, Bool.false_eq_true, false_and, or_false]
theorem takesL_cat {x y : Nfa} (hx : checkB x = true) (hy : checkB y = true) (w : List UInt8) : takesL (catN x y) w = true ↔ ∃ v u, w = v ++ u ∧ takesL x v = true ∧ takesL y u = true := by
  obtain ⟨k1, k2, k3, k4, k5, k6⟩ := checkB_spec hx
  obtain ⟨l1, l2, l3, l4, l5, l6⟩ := checkB_spec hy
  have R := run_right (cat_right (y := y) hx) (fun e he => ⟨(l6 e he).1, (l6 e he).2.2.1⟩) w
  have L := cat_left hx hy w
  rw [takesL_iff]
  constructor
  · rintro ⟨s, hs, t, ht, h⟩
    rcases mem_catS.1 hs with hs | ⟨hx0, hs⟩
    · have hs' := k4 s hs
      rcases (L s t hs'.2).1 h with ⟨h5, h6⟩ | ⟨h5, v, u, rfl, hv, m, hm, h6, r, hr, h7⟩
      · rcases mem_catD.1 ht with ht | ⟨hy0, ht⟩
        · have := l5 _ ht; omega
        · exact ⟨w, [], by simp, takesL_iff.2 ⟨s, hs, t, ht, h6⟩, takesL_nil.2 hy0⟩
      · rcases mem_catD.1 ht with ht | ⟨hy0, ht⟩
        · exact ⟨v, u, rfl, takesL_iff.2 ⟨s, hs, m, hm, h6⟩, takesL_iff.2 ⟨r, hr, _, ht, h7⟩⟩
        · have := k5 _ ht; omega
    · have hs' := l4 _ hs
      have h' := (R s t (by omega)).1 h
      rcases mem_catD.1 ht with ht | ⟨hy0, ht⟩
      · exact ⟨[], w, rfl, takesL_nil.2 hx0, takesL_iff.2 ⟨_, hs, _, ht, h'⟩⟩
      · have := h'.ge (fun e he => (l6 e he).2.2.1) (by omega)
        have := k5 _ ht; omega
  · rintro ⟨v, u, rfl, hv, hu⟩
    obtain ⟨r, hr, t, ht, h7⟩ := takesL_iff.1 hu
    have hr' := l4 _ hr
    have ht' := l5 _ ht
    have et : t + x.states - x.states = t := by omega
    have er : r + x.states - x.states = r := by omega
    by_cases hv0 : v = []
    · subst hv0
      exact ⟨r + x.states, mem_catS.2 (.inr ⟨takesL_nil.1 hv, by rwa [er]⟩), t + x.states, mem_catD.2 (.inl (by rwa [et])), (R _ _ (by omega)).2 (by rw [er, et]; exact h7)⟩
    · obtain ⟨s, hs, m, hm, h6⟩ := takesL_iff.1 hv
      exact ⟨s, mem_catS.2 (.inl hs), t + x.states, mem_catD.2 (.inl (by rwa [et])), (L s _ (k4 s hs).2).2 (.inr ⟨by omega, v, u, rfl, hv0, m, hm, h6, r, hr, by rw [et]; exact h7⟩)⟩

/-! ### A text, a set -/
theorem has_zero (b : Nat) : BSet.zero.has b = false := by
  simp only [BSet.has, BSet.zero, BSet.word]
  split <;> simp
theorem has_one (c b : UInt8) : (BSet.ofL [c]).has b.toNat = true ↔ b = c := by
  rw [BSet.ofL, BSet.make_has _ b.toNat_lt]
  simp only [List.any_cons, List.any_nil, Bool.or_false, decide_eq_true_eq]
  exact UInt8.toNat_inj
theorem mem_textE {s : List UInt8} {k : Nat} {e : Arrow} : e ∈ textE s k ↔ ∃ i < k, e = ⟨(i : Int), ((i + 1 : Nat) : Int), BSet.ofL [nth s i 0]⟩ := by
  simp only [textE, List.mem_map, List.mem_range]
  constructor
  · rintro ⟨i, h, rfl⟩; exact ⟨i, h, rfl⟩
  · rintro ⟨i, h, rfl⟩; exact ⟨i, h, rfl⟩
theorem run_text (s : List UInt8) : ∀ (w : List UInt8) (i : Nat), i ≤ s.length → (Run (textN s) (i : Int) w (s.length : Int) ↔ w = s.drop i)
  | [], i, hi => by
    simp only [Run]
    constructor
    · intro h; rw [List.drop_of_length_le (by omega)]
    · intro h
      have := congrArg List.length h
      rw [List.length_drop] at this
      simp at this; omega
  | b :: w, i, hi => by
    simp only [Run]
    constructor
    · rintro ⟨e, h1, h2, h3, h4⟩
      obtain ⟨j, hj, rfl⟩ := mem_textE.1 h1
      simp only at h2 h3 h4
      obtain rfl : j = i := by omega
      have := (run_text s w (j + 1) (by omega)).1 h4
      rw [has_one] at h2
      rw [List.drop_eq_getElem_cons hj, ← this, h2]
      have h5 := getD_some s hj 0
      rw [List.getElem?_eq_getElem hj, Option.some.injEq] at h5
      rw [h5]
    · intro h
      have hi' : i < s.length := by
        have := congrArg List.length h
        rw [List.length_drop] at this
        simp at this; omega
      rw [List.drop_eq_getElem_cons hi'] at h
      injection h with hb hw
      have h5 := getD_some s hi' 0
      rw [List.getElem?_eq_getElem hi', Option.some.injEq] at h5
      exact ⟨⟨(i : Int), ((i + 1 : Nat) : Int), BSet.ofL [nth s i 0]⟩, mem_textE.2 ⟨i, hi', rfl⟩, by rw [has_one, hb, h5], rfl, (run_text s w (i + 1) (by omega)).2 hw⟩
theorem takesL_text (s w : List UInt8) : takesL (textN s) w = decide (w = s) := by
  rw [Bool.eq_iff_iff, takesL_iff, decide_eq_true_eq]
  have h := run_text s w 0 (Nat.zero_le _)
  rw [List.drop_zero] at h
  rw [← h]
  simp [textN]
end Go.Proofs.Ytcidppnlhhkhhaa
end
