/- Slices whose elements hold slices: read only, and of one's own. Plain lemmas over any program; no condition. -/
import Derived.Test.YtcidppnlhhkhhaaDec2
set_option linter.unusedVariables false
set_option linter.unusedSimpArgs false
namespace Go.E
open Go

/-- How something that holds addresses lies in cells. -/
structure Pk (α : Type) where
  P : Type
  d : α
  dp : P
  size : Nat
  enc : α → P → List Value
  ok : Store → α → P → Prop
  len : ∀ x p, (enc x p).length = size
  one : ∀ x p, ∀ u ∈ enc x p, u.oneCell' = true
  mono : ∀ {σ τ x p}, Store.le σ τ → ok σ x p → ok τ x p
  zok : ∀ σ, ok σ d dp

section
variable {α : Type}
def Pk.en (K : Pk α) (m : α × K.P) : List Value := K.enc m.1 m.2
theorem Pk.en_len (K : Pk α) (m : α × K.P) : (K.en m).length = K.size := K.len _ _
theorem Pk.en_one (K : Pk α) : ∀ m, ∀ u ∈ K.en m, u.oneCell' = true := fun m => K.one _ _

/-- A list with its addresses. -/
structure ZOk (σ : Store) (K : Pk α) (z : List (α × K.P)) (l : List α) : Prop where
  eq : z.map Prod.fst = l
  ok : ∀ m ∈ z, K.ok σ m.1 m.2
theorem ZOk.mono {σ τ : Store} {K : Pk α} {z : List (α × K.P)} {l : List α} (h : ZOk σ K z l) (hle : σ.le τ) : ZOk τ K z l := ⟨h.eq, fun m hm => K.mono hle (h.ok m hm)⟩
theorem ZOk.nil (σ : Store) (K : Pk α) : ZOk σ K [] [] := ⟨rfl, by simp⟩
theorem ZOk.one {σ : Store} {K : Pk α} {x : α} {p : K.P} (h : K.ok σ x p) : ZOk σ K [(x, p)] [x] := ⟨rfl, fun m hm => by simp at hm; subst hm; exact h⟩
theorem ZOk.cons {σ : Store} {K : Pk α} {x : α} {p : K.P} {z : List (α × K.P)} {l : List α} (h : K.ok σ x p) (k : ZOk σ K z l) : ZOk σ K ((x, p) :: z) (x :: l) := ⟨by simp [k.eq], fun m hm => by
  rcases List.mem_cons.1 hm with rfl | hm
  · exact h
  · exact k.ok m hm⟩
theorem ZOk.app {σ : Store} {K : Pk α} {z y : List (α × K.P)} {l m : List α} (h : ZOk σ K z l) (k : ZOk σ K y m) : ZOk σ K (z ++ y) (l ++ m) := ⟨by rw [List.map_append, h.eq, k.eq], fun u hu => by
  rcases List.mem_append.1 hu with hu | hu
  · exact h.ok u hu
  · exact k.ok u hu⟩
theorem ZOk.set {σ : Store} {K : Pk α} {z : List (α × K.P)} {l : List α} {i : Nat} {x : α} {p : K.P} (h : ZOk σ K z l) (k : K.ok σ x p) : ZOk σ K (z.set i (x, p)) (l.set i x) := ⟨by rw [List.map_set, h.eq], fun u hu => by
  rcases List.mem_or_eq_of_mem_set hu with hu | rfl
  · exact h.ok u hu
  · exact k⟩
theorem ZOk.rep (σ : Store) (K : Pk α) (n : Nat) : ZOk σ K (List.replicate n (K.d, K.dp)) (List.replicate n K.d) := ⟨by simp, fun u hu => by
  rw [List.mem_replicate] at hu; rw [hu.2]; exact K.zok σ⟩
theorem ZOk.length {σ : Store} {K : Pk α} {z : List (α × K.P)} {l : List α} (h : ZOk σ K z l) : z.length = l.length := by rw [← h.eq, List.length_map]
theorem ZOk.at {σ : Store} {K : Pk α} {z : List (α × K.P)} {l : List α} (h : ZOk σ K z l) {i : Nat} (hi : i < l.length) : nth z i (K.d, K.dp) = (nth l i K.d, (nth z i (K.d, K.dp)).2) ∧ K.ok σ (nth l i K.d) (nth z i (K.d, K.dp)).2 := by
  have hz : i < z.length := by rw [h.length]; exact hi
  have h1 := getD_some z hz (K.d, K.dp)
  have h2 : (nth z i (K.d, K.dp)).1 = nth l i K.d := by
    have h3 := getD_some l hi K.d
    rw [← h.eq, List.getElem?_map, h1] at h3
    simp only [Option.map_some, Option.some.injEq] at h3
    rw [h3, h.eq]
  refine ⟨by rw [← h2], ?_⟩
  rw [← h2]
  exact h.ok _ (List.mem_of_getElem? h1)

/-- A sealed slice of such. -/
def RZ (σ : Store) (K : Pk α) (v : Value) (l : List α) : Prop := ∃ z : List (α × K.P), ZOk σ K z l ∧ RS σ K.size K.en v z
theorem RZ.mono {σ τ : Store} {K : Pk α} {v : Value} {l : List α} (h : RZ σ K v l) (hle : σ.le τ) : RZ τ K v l := let ⟨z, h1, h2⟩ := h; ⟨z, h1.mono hle, h2.mono hle⟩
theorem RZ.nilF (σ : Store) (K : Pk α) : RZ σ K (.slice none 0 0) [] := ⟨[], ZOk.nil σ K, RS.nilF σ K.en K.en_len⟩
theorem RZ.isSl {σ : Store} {K : Pk α} {v : Value} {l : List α} (h : RZ σ K v l) : IsSl v l.length := by
  obtain ⟨z, h1, h2⟩ := h; rw [← h1.length]; exact h2.rv.sl
theorem RZ.big {σ : Store} {K : Pk α} {v : Value} {l : List α} (h : RZ σ K v l) : l.length ≤ 281474976710656 := by
  obtain ⟨z, h1, h2⟩ := h; rw [← h1.length]; exact h2.rv.big
theorem RZ.mk {σ : Store} {K : Pk α} {v : Value} {z : List (α × K.P)} {l : List α} (h1 : RS σ K.size K.en v z) (h : ZOk σ K z l) : RZ σ K v l := ⟨z, h, h1⟩

/-- Some cells of a sealed slice. -/
def Seg (σ : Store) (v : Value) (k : Nat) (cs : List Value) : Prop := ∃ a m c, v = .slice (some a) m c ∧ ∀ j u, cs[j]? = some u → σ.cell (a.add (k + j)) = some u
theorem Seg.mono {σ τ : Store} {v : Value} {k : Nat} {cs : List Value} (h : Seg σ v k cs) (hle : σ.le τ) : Seg τ v k cs := let ⟨a, m, c, h1, h2⟩ := h; ⟨a, m, c, h1, fun j u hj => hle.cell (h2 j u hj)⟩
theorem RZ.seg {σ : Store} {K : Pk α} {v : Value} {l : List α} (h : RZ σ K v l) (i : Nat) (hi : i < l.length) : ∃ p : K.P, K.ok σ (nth l i K.d) p ∧ Seg σ v (i * K.size) (K.enc (nth l i K.d) p) := by
  obtain ⟨z, h1, h2⟩ := h
  obtain ⟨e, hok⟩ := h1.at hi
  refine ⟨_, hok, ?_⟩
  have hz : i < z.length := by rw [h1.length]; exact hi
  obtain ⟨a, c, rfl, _⟩ := h2.rv.sl.some hz
  refine ⟨a, _, c, rfl, fun j u hj => ?_⟩
  have hj2 : j < K.size := by have := (List.getElem?_eq_some_iff.1 hj).1; rwa [K.len] at this
  refine h2.rv.cell a _ c rfl _ u ?_
  rw [flatMap_get K.en_len z i j _ (getD_some z hz (K.d, K.dp)) hj2, Pk.en, e]
  exact hj
end

section
variable {P : Program} {n : Nat} {e : Env} {σ : Store} {H : List Res} {o : Oper} {x y : Operand} {α : Type}
theorem OpVal.loadSeg {T k j : Nat} {v u : Value} {cs : List Value} (ho : o.op = .load T x) (hA : aggOf P T = some false) (hx : ev e x = elem v (k + j)) (hS : Seg σ v k cs) (hu : cs[j]? = some u) : OpVal P n o e σ H u := fun w hw => by
  obtain ⟨a, m, c, rfl, h⟩ := hS
  have hc := hw.cell (h j u hu)
  simp [execOp, ho, hx, Instr.loadAt, Instr.sureAddr, elem, run_loadVar_one hA hc]
theorem OpVal.loadSeg0 {T k : Nat} {v u : Value} {cs : List Value} (ho : o.op = .load T x) (hA : aggOf P T = some false) (hx : ev e x = elem v k) (hS : Seg σ v k cs) (hu : cs[0]? = some u) : OpVal P n o e σ H u :=
  OpVal.loadSeg (j := 0) ho hA hx hS hu
theorem OpVal.loadSegA {T k s : Nat} {v : Value} {cs : List Value} (ho : o.op = .load T x) (hA : aggOf P T = some true) (hz : szOf P T = some s) (hx : ev e x = elem v k) (hS : Seg σ v k cs) (hl : cs.length = s) : OpVal P n o e σ H (.agg cs.toArray) := fun w hw => by
  obtain ⟨a, m, c, rfl, h⟩ := hS
  have hc : ∀ j u, cs[j]? = some u → w.cell? ((a.add k).add j) = some u := fun j u hj => by rw [add_add]; exact hw.cell (h j u hj)
  simp [execOp, ho, hx, Instr.loadAt, Instr.sureAddr, elem, run_loadVar_agg hA hz hl hc]
theorem OpVal.loadSegS {T k j s : Nat} {v : Value} {cs us : List Value} (ho : o.op = .load T x) (hA : aggOf P T = some true) (hz : szOf P T = some s) (hx : ev e x = elem v (k + j)) (hS : Seg σ v k cs) (hu : (cs.drop j).take s = us) (hl : us.length = s) : OpVal P n o e σ H (.agg us.toArray) := fun w hw => by
  obtain ⟨a, m, c, rfl, h⟩ := hS
  have hc : ∀ i u, us[i]? = some u → w.cell? ((a.add (k + j)).add i) = some u := fun i u hi => by
    rw [add_add, Nat.add_assoc]
    refine hw.cell (h (j + i) u ?_)
    rw [← hu, List.getElem?_take] at hi
    split at hi
    · simpa [List.getElem?_drop] using hi
    · cases hi
  simp [execOp, ho, hx, Instr.loadAt, Instr.sureAddr, elem, run_loadVar_agg hA hz hl hc]
/-- Out of a row of one's own. -/
theorem OpVal.loadOZ1 {T E i q : Nat} {K : Pk α} {v u : Value} {z : List (α × K.P)} {l : List α} (hZ : ZOk σ K z l) (ho : o.op = .load T x) (hA : aggOf P T = some false) (hx : ev e x = elem v (i * K.size)) (hq : H[q]? = some (Res.rowS E K.size K.en v z)) (hi : i < l.length)
    (hu : (K.enc (nth l i K.d) (nth z i (K.d, K.dp)).2)[0]? = some u) : OpVal P n o e σ H u := by
  have hz : i < z.length := by rw [hZ.length]; exact hi
  obtain ⟨e1, _⟩ := hZ.at hi
  have h0 : 0 < K.size := by have := (List.getElem?_eq_some_iff.1 hu).1; rwa [K.len] at this
  refine OpVal.loadO (j := 0) (K.d, K.dp) ho hA hx hq K.en_len hz h0 ?_
  rw [Pk.en, e1]; exact hu
theorem OpVal.loadOZA {T E i q s : Nat} {K : Pk α} {v : Value} {z : List (α × K.P)} {l : List α} (hZ : ZOk σ K z l) (ho : o.op = .load T x) (hA : aggOf P T = some true) (hs : szOf P T = some s) (hK : K.size = s) (h0 : 0 < s) (hx : ev e x = elem v (i * K.size)) (hq : H[q]? = some (Res.rowS E K.size K.en v z)) (hi : i < l.length) :
    OpVal P n o e σ H (.agg (K.enc (nth l i K.d) (nth z i (K.d, K.dp)).2).toArray) := by
  subst hK
  have hz : i < z.length := by rw [hZ.length]; exact hi
  obtain ⟨e1, _⟩ := hZ.at hi
  have := OpVal.loadOA (P := P) (n := n) (σ := σ) (K.d, K.dp) ho hA hs hx hq K.en_len hz h0
  rw [Pk.en, e1] at this; exact this
theorem OpVal.lenZ {t E c : Nat} {a : Option Addr} {K : Pk α} {z : List (α × K.P)} {l : List α} (hZ : ZOk σ K z l) (ho : o.op = .call { callee := .builtin .len, args := #[x], argTypes := #[t] }) (ht : P.underlying t = some (.slice E)) (hx : ev e x = .slice a z.length c) :
    OpVal P n o e σ H (.int .i64 (l.length : Nat)) := by rw [← hZ.length]; exact OpVal.lenC ho ht hx
end

/-! ### Slices in a slice -/
def pkSl {α : Type} (size : Nat) (enc : α → List Value) (hl : ∀ x, (enc x).length = size) : Pk (List α) where
  P := Option Addr × Nat
  d := []
  dp := (none, 0)
  size := 1
  enc l p := [.slice p.1 l.length p.2]
  ok σ l p := RS σ size enc (.slice p.1 l.length p.2) l
  len _ _ := rfl
  one _ _ u hu := by simp at hu; subst hu; rfl
  mono hle h := h.mono hle
  zok σ := RS.nilF σ enc hl
def pkNfa : Pk Nfa where
  P := NfaP
  d := Nfa.zero
  dp := NfaP.zero
  size := 4
  enc n p := (nfaA n p).toList
  ok σ n p := RNfa σ n p
  len _ _ := rfl
  one n p u hu := nfaA_one n p u hu
  mono hle h := h.mono hle
  zok σ := RNfa.zero σ

/-! ### Concatenation's steps -/
section
variable {X : Ctx} {e : Env} {σ : Store} {H F : List Res} {o : Oper} {x y : Operand} {K : Env → Store → List Res → Prop} {α : Type}
theorem TC.sealZ {Q : QP} {c : Code} {E : Nat} {k : Pk α} {v : Value} {z : List (α × k.P)} {l : List α} (hZ : ZOk σ k z l) (h : ∀ σ', σ.le σ' → RZ σ' k v l → TC X Q c e σ' F) : TC X Q c e σ (Res.rowS E k.size k.en v z :: F) :=
  TC.sealS k.en_len fun σ' h1 h2 => h σ' h1 ⟨z, hZ.mono h1, h2⟩
theorem TL.sealZ {Q : QP} {ops : Array Oper} {ol : List Oper} {E : Nat} {k : Pk α} {v : Value} {z : List (α × k.P)} {l : List α} (hZ : ZOk σ k z l) (h : ∀ σ', σ.le σ' → RZ σ' k v l → TL X ops Q ol e σ' F) : TL X ops Q ol e σ (Res.rowS E k.size k.en v z :: F) :=
  TL.sealS k.en_len fun σ' h1 h2 => h σ' h1 ⟨z, hZ.mono h1, h2⟩
theorem TA.sealZ {Q : QP} {ops : Array Oper} {σr : Store} {Hr : List Res} {late : List Nat} {fuel : Nat} {listed : Array Bool} {E : Nat} {k : Pk α} {v : Value} {z : List (α × k.P)} {l : List α} (hZ : ZOk σ k z l) (h : ∀ σ', σ.le σ' → RZ σ' k v l → TA X ops Q σr Hr late fuel listed e σ' F) : TA X ops Q σr Hr late fuel listed e σ (Res.rowS E k.size k.en v z :: F) :=
  TA.sealS k.en_len fun σ' h1 h2 => h σ' h1 ⟨z, hZ.mono h1, h2⟩
theorem TZ.sealZ {Q : QP} {ops : Array Oper} {σr : Store} {Hr : List Res} {late : List Nat} {fuel : Nat} {listed : Array Bool} {E : Nat} {k : Pk α} {v : Value} {z : List (α × k.P)} {l : List α} (hZ : ZOk σ k z l) (h : ∀ σ', σ.le σ' → RZ σ' k v l → TZ X ops Q σr Hr late fuel listed e σ' F) : TZ X ops Q σr Hr late fuel listed e σ (Res.rowS E k.size k.en v z :: F) :=
  TZ.sealS k.en_len fun σ' h1 h2 => h σ' h1 ⟨z, hZ.mono h1, h2⟩
end
end Go.E
namespace Go.E
open Go
section
variable {X : Ctx} {e : Env} {σ : Store} {H F : List Res} {o : Oper} {x y : Operand} {K : Env → Store → List Res → Prop} {α : Type} {k : Pk α} {z w : List (α × k.P)} {l m : List α}
theorem OpOk.appendZ {T E by_ d : Nat} {zv v u : Value} {ty : TypeId} (hZ : ZOk σ k z l) (hY : ZOk σ k w m) (ho : o.op = .call { callee := .builtin .append, args := #[x, y], argTypes := #[T, ty] }) (hty : ty = T) (ht : X.P.underlying T = some (.slice E)) (hs : szOf X.P E = some k.size) (hby : byOf X.P E = some by_) (hz : zeroOf X.P E = some zv)
    (hd : o.dst = some d) (hn : Nat.blt d X.n = true) (hsz : 0 < k.size) (hzs : zv.cells.size = k.size) (hx : ev e x = v) (hy : ev e y = u) (hsrc : SourceS σ F k.size k.en u w) (hb0 : (l.length + m.length) * by_ ≤ 140737488355328) (hby0 : 0 < by_)
    (kk : ∀ a c, ZOk σ k (z ++ w) (l ++ m) → K (upd e d (.slice a (l ++ m).length c)) σ (Res.rowS E k.size k.en (.slice a (l ++ m).length c) (z ++ w) :: F)) : OpOk X o e σ (Res.rowS E k.size k.en v z :: F) K := by
  have hA := hZ.app hY
  refine OpOk.appendS ho hty ht hs hby hz hd hn hsz hzs hx hy hsrc (by rw [hZ.length, hY.length]; exact hb0) hby0 fun a c => ?_
  have := kk a c hA
  rw [← hA.length] at this; exact this
theorem OpOk.litZ {T E size d q : Nat} {parts : Array (Nat × Operand)} {zv : Value} (hZ : ZOk σ k z l) (ho : o.op = .buildSlice T q parts) (ht : X.P.underlying T = some (.slice E)) (hs : szOf X.P E = some size) (hk : k.size = size) (hz : zeroOf X.P E = some zv)
    (hd : o.dst = some d) (hn : Nat.blt d X.n = true) (hm : z.length = q) (h0 : q * size ≠ 0) (hbig : q * size ≤ 16777216)
    (hx0 : zv.cells.toList = k.en (k.d, k.dp)) (h00 : 0 < size)
    (hf : fillL (fun i => some (i * size, size)) ((List.replicate q (k.d, k.dp)).flatMap k.en) (parts.toList.map fun x => (x.1, ev e x.2)) = some (z.flatMap k.en)) (hmax : q ≤ 281474976710656)
    (kk : ∀ a c, K (upd e d (.slice a l.length c)) σ (Res.rowS E k.size k.en (.slice a l.length c) z :: H)) : OpOk X o e σ H K := by
  subst hk
  refine OpOk.lit (enc := k.en) z ho ht hs hz hd hn hm k.en_len h0 hbig (k.d, k.dp) hx0 h00 hf hmax k.en_one fun a c => ?_
  have := kk a c
  rw [← hZ.length] at this; exact this
theorem OpOk.makeZ {T E size by_ d q : Nat} {kl kc : IntKind} {zv : Value} (ho : o.op = .makeSlice T x y) (ht : X.P.underlying T = some (.slice E)) (hs : szOf X.P E = some size) (hk : k.size = size) (hby : byOf X.P E = some by_) (hz : zeroOf X.P E = some zv)
    (hd : o.dst = some d) (hn : Nat.blt d X.n = true) (hx : ev e x = .int kl (q : Nat)) (hy : ev e y = .int kc (q : Nat)) (hb : by_ * q ≤ 281474976710656) (hby0 : 0 < by_) (h0 : 0 < size)
    (hz0 : zv.cells.toList = k.en (k.d, k.dp)) (kk : ∀ a c, ZOk σ k (List.replicate q (k.d, k.dp)) (List.replicate q k.d) → K (upd e d (.slice a (List.replicate q k.d).length c)) σ (Res.rowS E k.size k.en (.slice a (List.replicate q k.d).length c) (List.replicate q (k.d, k.dp)) :: H)) : OpOk X o e σ H K := by
  subst hk
  have hZ := ZOk.rep σ k q
  refine OpOk.makeS2 (enc := k.en) (k.d, k.dp) ho ht hs hby hz hd hn hx hy hb hby0 k.en_len h0 hz0 k.en_one fun a c => ?_
  have := kk a c hZ
  rw [← hZ.length] at this; exact this
theorem OpOk.storeZ {T E size i : Nat} {v u : Value} {q : α} {p : k.P} (hZ : ZOk σ k z l) (hq : k.ok σ q p) (ho : o.op = .store T x y) (hs : szOf X.P T = some size) (hk : k.size = size) (hd : o.dst = none) (hx : ev e x = elem v (i * size)) (hv : ev e y = u) (hu : u.cells.toList = k.enc q p)
    (h0 : 0 < size) (hi : i < l.length) (kk : ZOk σ k (z.set i (q, p)) (l.set i q) → K e σ (Res.rowS E k.size k.en v (z.set i (q, p)) :: F)) : OpOk X o e σ (Res.rowS E k.size k.en v z :: F) K := by
  subst hk
  exact OpOk.storeS (enc := k.en) (q, p) ho hs hd hx hv hu k.en_len k.en_one h0 (by rw [hZ.length]; exact hi) (kk (hZ.set hq))
end
theorem ZOk.isSl {α : Type} {σ : Store} {k : Pk α} {z : List (α × k.P)} {l : List α} {v : Value} (h : ZOk σ k z l) (hs : IsSl v z.length) : IsSl v l.length := h.length ▸ hs
end Go.E
