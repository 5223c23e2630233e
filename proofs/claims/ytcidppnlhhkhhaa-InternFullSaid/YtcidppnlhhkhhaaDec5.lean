/- Rows in a row, all of one's own; what the resources tell. Plain lemmas over any program; no condition. -/
import Derived.Test.YtcidppnlhhkhhaaDec4
set_option linter.unusedVariables false
set_option linter.unusedSimpArgs false
namespace Go.E
open Go

/-! ### What the resources tell, at every place of a walk -/
section
variable {X : Ctx} {ops : Array Oper} {Q : QP} {e : Env} {σ σr : Store} {H H' Hr F : List Res} {late : List Nat} {fuel : Nat} {listed : Array Bool} {c : Code} {l : List Oper}
theorem TC.by (h : ∀ w, Reach X.w0 X.C X.σ0 σ w H → Reach X.w0 X.C X.σ0 σ w H') (k : TC X Q c e σ H') : TC X Q c e σ H := fun w a hw ha => k w a (h w hw) ha
theorem TL.by (h : ∀ w, Reach X.w0 X.C X.σ0 σ w H → Reach X.w0 X.C X.σ0 σ w H') (k : TL X ops Q l e σ H') : TL X ops Q l e σ H := fun w a hw ha => k w a (h w hw) ha
theorem TA.by (h : ∀ w, Reach X.w0 X.C X.σ0 σ w H → Reach X.w0 X.C X.σ0 σ w H') (k : TA X ops Q σr Hr late fuel listed e σ H') : TA X ops Q σr Hr late fuel listed e σ H := fun w a hw hS hc ha => k w a (h w hw) hS hc ha
theorem TZ.by (h : ∀ w, Reach X.w0 X.C X.σ0 σ w H → Reach X.w0 X.C X.σ0 σ w H') (k : TZ X ops Q σr Hr late fuel listed e σ H') : TZ X ops Q σr Hr late fuel listed e σ H := fun w a hw ha => k w a (h w hw) ha
theorem TC.know {p : Prop} (h : ∀ w, Sees σ H w → p) (k : p → TC X Q c e σ H) : TC X Q c e σ H := fun w a hw ha => k (h w hw.sees) w a hw ha
theorem TL.know {p : Prop} (h : ∀ w, Sees σ H w → p) (k : p → TL X ops Q l e σ H) : TL X ops Q l e σ H := fun w a hw ha => k (h w hw.sees) w a hw ha
theorem TA.know {p : Prop} (h : ∀ w, Sees σ H w → p) (k : p → TA X ops Q σr Hr late fuel listed e σ H) : TA X ops Q σr Hr late fuel listed e σ H := fun w a hw hS hc ha => k (h w hw.sees) w a hw hS hc ha
theorem TZ.know {p : Prop} (h : ∀ w, Sees σ H w → p) (k : p → TZ X ops Q σr Hr late fuel listed e σ H) : TZ X ops Q σr Hr late fuel listed e σ H := fun w a hw ha => k (h w hw.sees) w a hw ha
/-- The sealed store grows, and the resources change. -/
theorem TC.seals {p : Store → Prop} (h : ∀ w, Reach X.w0 X.C X.σ0 σ w H → ∃ σ', Reach X.w0 X.C X.σ0 σ' w H' ∧ σ.le σ' ∧ p σ') (k : ∀ σ', σ.le σ' → p σ' → TC X Q c e σ' H') : TC X Q c e σ H := fun w a hw ha => by
  obtain ⟨σ', h1, h2, h3⟩ := h w hw
  exact k σ' h2 h3 w a h1 ha
theorem TL.seals {p : Store → Prop} (h : ∀ w, Reach X.w0 X.C X.σ0 σ w H → ∃ σ', Reach X.w0 X.C X.σ0 σ' w H' ∧ σ.le σ' ∧ p σ') (k : ∀ σ', σ.le σ' → p σ' → TL X ops Q l e σ' H') : TL X ops Q l e σ H := fun w a hw ha => by
  obtain ⟨σ', h1, h2, h3⟩ := h w hw
  exact k σ' h2 h3 w a h1 ha
theorem TA.seals {p : Store → Prop} (h : ∀ w, Reach X.w0 X.C X.σ0 σ w H → ∃ σ', Reach X.w0 X.C X.σ0 σ' w H' ∧ σ.le σ' ∧ p σ') (k : ∀ σ', σ.le σ' → p σ' → TA X ops Q σr Hr late fuel listed e σ' H') : TA X ops Q σr Hr late fuel listed e σ H := fun w a hw hS hc ha => by
  obtain ⟨σ', h1, h2, h3⟩ := h w hw
  exact k σ' h2 h3 w a h1 hS hc ha
theorem TZ.seals {p : Store → Prop} (h : ∀ w, Reach X.w0 X.C X.σ0 σ w H → ∃ σ', Reach X.w0 X.C X.σ0 σ' w H' ∧ σ.le σ' ∧ p σ') (k : ∀ σ', σ.le σ' → p σ' → TZ X ops Q σr Hr late fuel listed e σ' H') : TZ X ops Q σr Hr late fuel listed e σ H := fun w a hw ha => by
  obtain ⟨σ', h1, h2, h3⟩ := h w hw
  exact k σ' h2 h3 w a h1 ha
theorem OpOk.by {o : Oper} {K : Env → Store → List Res → Prop} (h : ∀ w, Reach X.w0 X.C X.σ0 σ w H → Reach X.w0 X.C X.σ0 σ w H') (k : OpOk X o e σ H' K) : OpOk X o e σ H K := fun w a hw ha => k w a (h w hw) ha
/-- Resources change behind an operation. -/
theorem OpOk.then {o : Oper} {K K' : Env → Store → List Res → Prop} (k : OpOk X o e σ H K') (h : ∀ e' σ' G, K' e' σ' G → ∃ G', (∀ w, Reach X.w0 X.C X.σ0 σ' w G → Reach X.w0 X.C X.σ0 σ' w G') ∧ K e' σ' G') : OpOk X o e σ H K := fun w a hw ha K2 Q2 hK =>
  k w a hw ha K2 Q2 fun e' σ' G a' w' hk hw' ha' => by
    obtain ⟨G', h1, h2⟩ := h e' σ' G hk
    exact hK e' σ' G' a' w' h2 (h1 w' hw') ha'
end
theorem OpVal.seen {P : Program} {n : Nat} {o : Oper} {e : Env} {σ : Store} {H G : List Res} {v : Value} (h : ∀ w, Sees σ H w → Sees σ G w) (k : OpVal P n o e σ G v) : OpVal P n o e σ H v := fun w hw => k w (h w hw)
theorem Sees.one {σ : Store} {H : List Res} {w : World} {r : Res} {i : Nat} (hi : H[i]? = some r) (h : Sees σ H w) : Sees σ [r] w := ⟨h.1, fun r' hr => by simp at hr; subst hr; exact h.2 _ (List.mem_of_getElem? hi)⟩

/-! ### Rows in a row -/
section
variable {β : Type} {E' E size : Nat} {enc : β → List Value} {v : Value}
abbrev NP (β : Type) := List β × (Option Addr × Nat)
def encN (m : NP β) : List Value := [.slice m.2.1 m.1.length m.2.2]
theorem encN_len (m : NP β) : (encN m).length = 1 := rfl
theorem encN_one : ∀ m : NP β, ∀ u ∈ encN m, u.oneCell' = true := fun m u hu => by simp [encN] at hu; subst hu; rfl
def innerR (E size : Nat) (enc : β → List Value) (m : NP β) : Res := Res.rowS E size enc (.slice m.2.1 m.1.length m.2.2) m.1
def inner (E size : Nat) (enc : β → List Value) (z : List (NP β)) : List Res := z.map (innerR E size enc)
def Res.nest (E' E size : Nat) (enc : β → List Value) (v : Value) (z : List (NP β)) : Res := Res.star (Res.rowS E' 1 encN v z :: inner E size enc z)
def Res.nestX (E' E size : Nat) (enc : β → List Value) (v : Value) (z : List (NP β)) (i : Nat) : Res := Res.star (Res.rowS E' 1 encN v z :: (inner E size enc z).eraseIdx i)
def nilN : NP β := ([], (none, 0))
/-- A list with its addresses. -/
def Zn (z : List (NP β)) (l : List (List β)) : Prop := z.map Prod.fst = l
theorem Zn.len {z : List (NP β)} {l : List (List β)} (h : Zn z l) : z.length = l.length := by rw [← h, List.length_map]
theorem Zn.at {z : List (NP β)} {l : List (List β)} (h : Zn z l) {i : Nat} (hi : i < l.length) : ∃ p : Option Addr × Nat, i < z.length ∧ nth z i nilN = (nth l i [], p) := by
  have hz : i < z.length := by rw [h.len]; exact hi
  refine ⟨(nth z i nilN).2, hz, ?_⟩
  have h1 := getD_some z hz nilN
  have h3 := getD_some l hi []
  rw [← h, List.getElem?_map, h1] at h3
  simp only [Option.map_some, Option.some.injEq] at h3
  rw [← h, ← h3]
theorem Zn.set {z : List (NP β)} {l : List (List β)} (h : Zn z l) (i : Nat) (x : List β) (p : Option Addr × Nat) : Zn (z.set i (x, p)) (l.set i x) := by
  unfold Zn at *; rw [List.map_set, h]
theorem Zn.rep (n : Nat) : Zn (List.replicate n (nilN : NP β)) (List.replicate n []) := by simp [Zn, nilN]
theorem Zn.nil : Zn ([] : List (NP β)) [] := rfl

theorem inner_get {z : List (NP β)} {i : Nat} {m : NP β} (hi : i < z.length) (hm : nth z i nilN = m) : (inner E size enc z)[i]? = some (innerR E size enc m) := by
  rw [inner, List.getElem?_map, getD_some z hi nilN, hm]; rfl
theorem sees_nest {σ : Store} {H : List Res} {q : Nat} {z : List (NP β)} (hq : H[q]? = some (Res.nest E' E size enc v z)) (w : World) (h : Sees σ H w) : Sees σ [Res.rowS E' 1 encN v z] w :=
  ⟨h.1, fun r hr => by
    simp at hr; subst hr
    exact h.2 _ (List.mem_of_getElem? hq) _ (List.mem_cons_self ..)⟩
theorem sees_inner {σ : Store} {H : List Res} {q i : Nat} {z : List (NP β)} {l : List β} {p : Option Addr × Nat} (hq : H[q]? = some (Res.nest E' E size enc v z)) (hi : i < z.length) (hm : nth z i nilN = (l, p)) (w : World) (h : Sees σ H w) :
    Sees σ [Res.rowS E size enc (.slice p.1 l.length p.2) l] w :=
  ⟨h.1, fun r hr => by
    simp at hr; subst hr
    exact h.2 _ (List.mem_of_getElem? hq) _ (List.mem_cons_of_mem _ (List.mem_of_getElem? (inner_get hi hm)))⟩
theorem isSl_seen {σ : Store} {H : List Res} {w : World} {l : List β} {u : Value} (h : Sees σ [Res.rowS E size enc u l] w) : IsSl u l.length ∧ l.length ≤ 281474976710656 := by
  have h := h.2 _ (List.mem_singleton.2 rfl)
  exact ⟨isSl_row h.1, h.2.2⟩
theorem isSl_nest {σ : Store} {H : List Res} {q : Nat} {z : List (NP β)} {l : List (List β)} (hq : H[q]? = some (Res.nest E' E size enc v z)) (hZ : Zn z l) (w : World) (h : Sees σ H w) : IsSl v l.length ∧ l.length ≤ 281474976710656 := by
  have := isSl_seen (H := H) (sees_nest hq w h)
  rw [hZ.len] at this; exact this
theorem isSl_inner {σ : Store} {H : List Res} {q i : Nat} {z : List (NP β)} {l : List β} {p : Option Addr × Nat} (hq : H[q]? = some (Res.nest E' E size enc v z)) (hi : i < z.length) (hm : nth z i nilN = (l, p)) (w : World) (h : Sees σ H w) :
    IsSl (.slice p.1 l.length p.2) l.length ∧ l.length ≤ 281474976710656 := isSl_seen (H := H) (sees_inner hq hi hm w h)

section
variable {w0 : World} {C : List Nat} {σ0 σ : Store} {w : World} {F : List Res} {z : List (NP β)}
theorem Reach.takeN {i : Nat} {l : List β} {p : Option Addr × Nat} (hi : i < z.length) (hm : nth z i nilN = (l, p)) (h : Reach w0 C σ0 σ w (Res.nest E' E size enc v z :: F)) :
    Reach w0 C σ0 σ w (Res.rowS E size enc (.slice p.1 l.length p.2) l :: Res.nestX E' E size enc v z i :: F) := by
  have h1 := h.unstar
  have hg := inner_get (E := E) (size := size) (enc := enc) hi hm
  have hp : (innerR E size enc (l, p) :: (Res.rowS E' 1 encN v z :: (inner E size enc z).eraseIdx i ++ F)).Perm (Res.rowS E' 1 encN v z :: inner E size enc z ++ F) := by
    refine (List.Perm.swap _ _ _).trans (List.Perm.cons _ ?_)
    exact (front_perm hg rfl).append_right F
  have h2 := h1.perm hp
  have h3 : Reach w0 C σ0 σ w (([innerR E size enc (l, p)] : List Res) ++ (Res.rowS E' 1 encN v z :: (inner E size enc z).eraseIdx i ++ F)) := h2
  have h4 : Reach w0 C σ0 σ w ((Res.rowS E' 1 encN v z :: (inner E size enc z).eraseIdx i) ++ (innerR E size enc (l, p) :: F)) := h2.perm (by
    refine (List.perm_middle).trans ?_
    simp only [List.cons_append]
    exact List.Perm.refl _)
  have h5 := h4.star
  exact h5.perm (List.Perm.swap _ _ _)
/-- An inner row is put back, at its old place in memory or at a new one, behind the outer cell is written. -/
theorem inner_set {i : Nat} (hi : i < z.length) (m : NP β) : (innerR E size enc m :: (inner E size enc z).eraseIdx i).Perm (inner E size enc (z.set i m)) := by
  refine front_perm (i := i) ?_ ?_
  · rw [inner, List.getElem?_map, List.getElem?_set]; simp [hi]
  · rw [inner, inner, List.map_set, List.eraseIdx_set_eq]
theorem encN_same {i : Nat} {l l' : List β} {p : Option Addr × Nat} (hi : i < z.length) (hm : nth z i nilN = (l, p)) (hl : l'.length = l.length) : (z.set i (l', p)).flatMap encN = z.flatMap encN := by
  have h1 := getD_some z hi nilN
  rw [hm] at h1
  have h2 : (z.set i (l', p)).map encN = z.map encN := by
    rw [List.map_set]
    apply List.ext_getElem?
    intro j
    by_cases hj : i = j
    · subst hj
      rw [List.getElem?_set, List.getElem?_map, h1]
      simp [encN, hl, hi]
    · rw [List.getElem?_set, if_neg hj]
  rw [List.flatMap_def, List.flatMap_def, h2]
theorem Reach.putN {i : Nat} {l l' : List β} {p : Option Addr × Nat} (hi : i < z.length) (hm : nth z i nilN = (l, p)) (hl : l'.length = l.length) (h : Reach w0 C σ0 σ w (Res.rowS E size enc (.slice p.1 l.length p.2) l' :: Res.nestX E' E size enc v z i :: F)) :
    Reach w0 C σ0 σ w (Res.nest E' E size enc v (z.set i (l', p)) :: F) := by
  have h1 := (h.perm (List.Perm.swap _ _ _)).unstar
  refine Reach.star ?_
  have e : Res.rowS E' 1 encN v (z.set i (l', p)) = Res.rowS E' 1 encN v z := by
    unfold Res.rowS; rw [encN_same hi hm hl, List.length_set]
  rw [e]
  refine h1.perm ?_
  rw [← hl]
  refine List.Perm.trans ?_ (List.perm_middle.symm)
  simp only [List.cons_append]
  refine List.Perm.trans (List.Perm.cons _ (((inner_set hi (l', p)).symm).append_right F)) ?_
  exact List.Perm.swap _ _ _
/-- A row of nothing but nil rows. -/
theorem Reach.nils (n : Nat) (h : Reach w0 C σ0 σ w F) : Reach w0 C σ0 σ w (inner E size enc (List.replicate n nilN) ++ F) := by
  induction n with
  | zero => exact h
  | succ n ih => exact ih.nilRow E size
theorem Reach.toNest (n : Nat) (h : Reach w0 C σ0 σ w (Res.rowS E' 1 encN v (List.replicate n (nilN : NP β)) :: F)) : Reach w0 C σ0 σ w (Res.nest E' E size enc v (List.replicate n nilN) :: F) := by
  refine Reach.star ?_
  have := h.nils (E := E) (size := size) (enc := enc) n
  exact this.perm (by simp only [List.cons_append]; exact List.perm_middle.symm)
theorem Reach.sealAll (hl : ∀ x, (enc x).length = size) : ∀ (z : List (NP β)) {σ : Store}, Reach w0 C σ0 σ w (inner E size enc z ++ F) → ∃ σ', Reach w0 C σ0 σ' w F ∧ σ.le σ' ∧ ∀ m ∈ z, RS σ' size enc (.slice m.2.1 m.1.length m.2.2) m.1
  | [], σ, h => ⟨σ, h, Store.le.refl _, by simp⟩
  | m :: z, σ, h => by
    obtain ⟨τ, h1, h2, h3⟩ := Reach.sealRow (h := h)
    obtain ⟨τ', k1, k2, k3⟩ := Reach.sealAll hl z h1
    refine ⟨τ', k1, h2.trans k2, fun u hu => ?_⟩
    rcases List.mem_cons.1 hu with rfl | hu
    · exact RS.mono ⟨h3, hl⟩ k2
    · exact k3 u hu
theorem Reach.sealNest {l : List (List β)} (hl : ∀ x, (enc x).length = size) (hZ : Zn z l) (h : Reach w0 C σ0 σ w (Res.nest E' E size enc v z :: F)) : ∃ σ', Reach w0 C σ0 σ' w F ∧ σ.le σ' ∧ RZ σ' (pkSl size enc hl) v l := by
  have h1 := h.unstar
  simp only [List.cons_append] at h1
  obtain ⟨τ, h2, h3, h4⟩ := Reach.sealRow (h := h1)
  obtain ⟨τ', k1, k2, k3⟩ := Reach.sealAll hl z h2
  exact ⟨τ', k1, h3.trans k2, z, ⟨hZ, k3⟩, RS.mono (σ := τ) (enc := encN) ⟨h4, encN_len⟩ k2⟩
end

/-! ### Operations on rows in a row -/
section
variable {X : Ctx} {e : Env} {σ : Store} {H F : List Res} {o : Oper} {x y : Operand} {K : Env → Store → List Res → Prop} {z : List (NP β)} {l : List (List β)}
theorem OpOk.makeN {T E' E size by_ d q : Nat} {enc : β → List Value} {kl kc : IntKind} {zv : Value} (ho : o.op = .makeSlice T x y) (ht : X.P.underlying T = some (.slice E')) (hs : szOf X.P E' = some 1) (hby : byOf X.P E' = some by_) (hz : zeroOf X.P E' = some zv)
    (hd : o.dst = some d) (hn : Nat.blt d X.n = true) (hx : ev e x = .int kl (q : Nat)) (hy : ev e y = .int kc (q : Nat)) (hb : by_ * q ≤ 281474976710656) (hby0 : 0 < by_)
    (hz0 : zv.cells.toList = [.slice none 0 0]) (kk : ∀ a c, Zn (List.replicate q (nilN : NP β)) (List.replicate q []) → K (upd e d (.slice a (List.replicate q ([] : List β)).length c)) σ (Res.nest E' E size enc (.slice a (List.replicate q ([] : List β)).length c) (List.replicate q nilN) :: H)) : OpOk X o e σ H K := by
  refine OpOk.then (OpOk.makeS2 (enc := (encN : NP β → List Value)) (K := fun e' σ' G => ∃ a c, e' = upd e d (.slice a (List.replicate q ([] : List β)).length c) ∧ σ' = σ ∧ G = Res.rowS E' 1 encN (.slice a (List.replicate q ([] : List β)).length c) (List.replicate q (nilN : NP β)) :: H) nilN ho ht hs hby hz hd hn hx hy hb hby0 encN_len (by decide) hz0 encN_one fun a c => ⟨a, c, by simp⟩) ?_
  rintro e' σ' G ⟨a, c, rfl, rfl, rfl⟩
  exact ⟨_, fun w h => h.toNest q, kk a c (Zn.rep q)⟩
/-- The inner slice at a place. -/
theorem OpVal.loadN {P : Program} {n T q i : Nat} {lk : List β} {p : Option Addr × Nat} (ho : o.op = .load T x) (hA : aggOf P T = some false) (hx : ev e x = elem v (i * 1)) (hq : H[q]? = some (Res.nest E' E size enc v z)) (hi : i < z.length) (hm : nth z i nilN = (lk, p)) :
    OpVal P n o e σ H (.slice p.1 lk.length p.2) := by
  refine OpVal.seen (sees_nest hq) (OpVal.loadO1 (q := 0) nilN ho hA hx rfl encN_len hi ?_)
  rw [hm]; rfl
theorem OpOk.storeX {T i : Nat} {a : Option Addr} {m c : Nat} {u : Value} {l' : List β} (ho : o.op = .store T x y) (hs : szOf X.P T = some 1) (hd : o.dst = none) (hx : ev e x = elem v (i * 1)) (hv : ev e y = u) (hu : u = .slice a m c) (hm : l'.length = m) (hi : i < z.length) (hZ : Zn z l)
    (kk : Zn (z.set i (l', (a, c))) (l.set i l') → K e σ (Res.nest E' E size enc v (z.set i (l', (a, c))) :: F)) : OpOk X o e σ (Res.rowS E size enc (.slice a m c) l' :: Res.nestX E' E size enc v z i :: F) K := by
  subst hm hu
  refine OpOk.by (H' := Res.rowS E' 1 encN v z :: ((inner E size enc z).eraseIdx i ++ (innerR E size enc (l', (a, c)) :: F))) (fun w h => ?_) ?_
  · have h1 := (h.perm (List.Perm.swap _ _ _)).unstar
    exact h1
  · refine OpOk.then (OpOk.storeS (enc := (encN : NP β → List Value)) (K := fun e' σ' G => e' = e ∧ σ' = σ ∧ G = Res.rowS E' 1 encN v (z.set i (l', (a, c))) :: ((inner E size enc z).eraseIdx i ++ (innerR E size enc (l', (a, c)) :: F))) (l', (a, c)) ho hs hd hx hv rfl encN_len encN_one (by decide) hi ⟨rfl, rfl, rfl⟩) ?_
    rintro e' σ' G ⟨rfl, rfl, rfl⟩
    refine ⟨_, fun w h => Reach.star (h.perm ?_), kk (hZ.set i l' (a, c))⟩
    simp only [List.cons_append]
    refine List.Perm.cons _ ?_
    refine List.Perm.trans ((inner_set hi (l', (a, c))).symm.append_right F) ?_
    simp only [List.cons_append]
    exact List.perm_middle.symm
end
end

/-! ### Any order -/
open Classical in
/-- What comes out whatever is taken first. -/
noncomputable def allP {α β : Type} (S : α → Prop) (f : α → Option β) : Option β := if h : ∃ r, (∃ x, S x) ∧ ∀ x, S x → f x = some r then some h.choose else none
theorem allP_e {α β : Type} {S : α → Prop} {f : α → Option β} {r : β} (h : allP S f = some r) : ∀ x, S x → f x = some r := by
  unfold allP at h
  split at h
  · rename_i hx
    cases h
    exact hx.choose_spec.2
  · cases h
theorem allP_i {α β : Type} {S : α → Prop} {f : α → Option β} {r : β} (x0 : α) (h0 : S x0) (h : ∀ x, S x → f x = some r) : allP S f = some r := by
  have hx : ∃ r, (∃ x, S x) ∧ ∀ x, S x → f x = some r := ⟨r, ⟨x0, h0⟩, h⟩
  unfold allP
  rw [dif_pos hx]
  have h1 := hx.choose_spec.2 x0 h0
  rw [h x0 h0] at h1
  exact h1.symm

section
variable {S R E : Type}
/-- Rounds over a list's elements, in order; the end is a round without one. -/
def runL (step : S → Option E → Option (S ⊕ R)) : List E → S → Option R
  | [], s => match step s none with
    | some (.inr r) => some r
    | _ => none
  | x :: q, s => match step s (some x) with
    | some (.inl s') => runL step q s'
    | some (.inr r) => some r
    | none => none
/-- Rounds in any order. -/
noncomputable def runA (step : S → Option E → Option (S ⊕ R)) (l : List E) (s : S) : Option R := allP (fun q => q.Perm l) (fun q => runL step q s)
structure RdA (step : S → Option E → Option (S ⊕ R)) (r : R) (l : List E) (z : S ⊕ R) : Prop where
  next : ∀ s', z = .inl s' → runA step l s' = some r
  done : ∀ r', z = .inr r' → r' = r
theorem runA_end {step : S → Option E → Option (S ⊕ R)} {s : S} {r : R} (h : runA step [] s = some r) : ∃ z, step s none = some z ∧ ∀ r', z = .inr r' → r' = r := by
  have h1 := allP_e h [] (List.Perm.refl _)
  simp only [runL] at h1
  split at h1
  · rename_i r' hs
    cases h1
    exact ⟨_, hs, fun r' h => by cases h; rfl⟩
  · cases h1
theorem runA_nx {step : S → Option E → Option (S ⊕ R)} {s : S} {r : R} (h : runA step [] s = some r) {z : S ⊕ R} (hz : step s none = some z) : ∃ r', z = .inr r' := by
  have h1 := allP_e h [] (List.Perm.refl _)
  simp only [runL, hz] at h1
  cases z with
  | inl s => cases h1
  | inr r => exact ⟨r, rfl⟩
theorem runA_step {step : S → Option E → Option (S ⊕ R)} {s : S} {r : R} {a b : List E} {x : E} (h : runA step (a ++ x :: b) s = some r) : ∃ z, step s (some x) = some z ∧ RdA step r (a ++ b) z := by
  have key : ∀ q : List E, q.Perm (a ++ b) → runL step (x :: q) s = some r := fun q hq => allP_e h _ ((List.Perm.cons x hq).trans List.perm_middle.symm)
  have h1 := key (a ++ b) (List.Perm.refl _)
  simp only [runL] at h1
  split at h1
  · rename_i s' hs
    refine ⟨_, hs, ⟨fun s'' he => ?_, fun r' he => (by cases he)⟩⟩
    cases he
    refine allP_i (a ++ b) (List.Perm.refl _) fun q hq => ?_
    have := key q hq
    simp only [runL, hs] at this
    exact this
  · rename_i r' hs
    cases h1
    exact ⟨_, hs, ⟨fun s'' he => (by cases he), fun r' he => (by cases he; rfl)⟩⟩
  · cases h1
theorem finA_x {step : S → Option E → Option (S ⊕ R)} {r : R} {l : List E} {z : S ⊕ R} {t : Option R} (hR : RdA step r l z) (h : fin t = some z) : t = some r := by
  cases t with
  | none => cases h
  | some r' => simp only [fin] at h; cases h; rw [hR.done r' rfl]
theorem nxtA_x {step : S → Option E → Option (S ⊕ R)} {r : R} {l : List E} {z : S ⊕ R} {s : S} (hR : RdA step r l z) (h : nxt s = some z) : runA step l s = some r := by
  simp only [nxt] at h; cases h; exact hR.next s rfl
theorem finE_x {z : S ⊕ R} {r : R} {t : Option R} (hR : ∀ r', z = .inr r' → r' = r) (h : fin t = some z) : t = some r := by
  cases t with
  | none => cases h
  | some r' => simp only [fin] at h; cases h; rw [hR r' rfl]
def optE {α β : Type} (o : Option α) (t : Option β) (f : α → Option β) : Option β := match o with | none => t | some x => f x
@[simp] theorem optE_none {α β : Type} (t : Option β) (f : α → Option β) : optE none t f = t := rfl
@[simp] theorem optE_some {α β : Type} (x : α) (t : Option β) (f : α → Option β) : optE (some x) t f = f x := rfl
end
end Go.E
