/- The engine, part five: typed forms. Plain lemmas over any program; no condition. -/
import Derived.Test.YtcidppnlhhkhhaaEng4
set_option linter.unusedVariables false
set_option linter.unusedSimpArgs false
namespace Go.E
open Go

section
variable {P : Program} {n : Nat} {e : Env} {σ : Store} {H : List Res} {o : Oper} {x y : Operand}

theorem TL.v {X : Ctx} {ops : Array Oper} {Q : QP} {rest : List Oper} {v : Value} {d : Nat} (hg : o.guard = none) (h : OpVal X.P X.n o e σ H v) (hd : o.dst = some d) (hn : Nat.blt d X.n = true) (k : TL X ops Q rest (upd e d v) σ H) :
    TL X ops Q (o :: rest) e σ H := TL.op hg (h.ok hd hn k)

theorem TL.gv {X : Ctx} {ops : Array Oper} {Q : QP} {rest : List Oper} {v : Value} {d j dj : Nat} {b : Bool} {oj : Oper} (hg : o.guard = some (j, b)) (hj : ops[j]? = some oj) (hdj : oj.dst = some dj) (hnj : Nat.blt dj X.n = true) (hb : e dj = .bool b)
    (h : OpVal X.P X.n o e σ H v) (hd : o.dst = some d) (hn : Nat.blt d X.n = true) (k : TL X ops Q rest (upd e d v) σ H) :
    TL X ops Q (o :: rest) e σ H := TL.gon hg hj hdj hnj hb (h.ok hd hn k)

/-- A guard's two ways. -/
theorem TL.split {X : Ctx} {ops : Array Oper} {Q : QP} {l : List Oper} {t : Bool} (dj : Nat) (hb : e dj = .bool t) (ht : t = true → TL X ops Q l (upd e dj (.bool true)) σ H) (hf : t = false → TL X ops Q l (upd e dj (.bool false)) σ H) : TL X ops Q l e σ H := by
  have he : ∀ b, t = b → upd e dj (.bool b) = e := fun b h => by
    funext i; unfold upd; split
    · subst_vars; rw [hb]
    · rfl
  cases t
  · have := hf rfl; rwa [he _ rfl] at this
  · have := ht rfl; rwa [he _ rfl] at this

theorem OpVal.of {v v' : Value} (h : OpVal P n o e σ H v) (hv : v = v') : OpVal P n o e σ H v' := hv ▸ h

def isMove (op : Op) (x : Operand) : Prop := op = .move x ∨ op = .assign x
theorem OpVal.mv (ho : isMove o.op x) : OpVal P n o e σ H (ev e x) := by
  rcases ho with h | h
  · exact .move h
  · exact .assign h

theorem OpVal.moveI {k : IntKind} {a : Int} (ho : isMove o.op x) (hx : ev e x = .int k a) : OpVal P n o e σ H (.int k a) := hx ▸ .mv ho
theorem OpVal.moveB {b : Bool} (ho : isMove o.op x) (hx : ev e x = .bool b) : OpVal P n o e σ H (.bool b) := hx ▸ .mv ho
theorem OpVal.moveSl {a : Option Addr} {m c : Nat} (ho : isMove o.op x) (hx : ev e x = .slice a m c) : OpVal P n o e σ H (.slice a m c) := hx ▸ .mv ho
theorem OpVal.moveLoc {b k : Nat} (ho : isMove o.op x) (hx : ev e x = loc b k) : OpVal P n o e σ H (loc b k) := hx ▸ .mv ho
theorem OpVal.movePtr {a : Option Addr} (ho : isMove o.op x) (hx : ev e x = .pointer a) : OpVal P n o e σ H (.pointer a) := hx ▸ .mv ho
theorem OpVal.moveStr {s : ByteArray} (ho : isMove o.op x) (hx : ev e x = .string s) : OpVal P n o e σ H (.string s) := hx ▸ .mv ho
theorem OpVal.moveMap {r : Option Nat} (ho : isMove o.op x) (hx : ev e x = .map r) : OpVal P n o e σ H (.map r) := hx ▸ .mv ho
theorem OpVal.moveFn {f : Fn} {a b : Array Value} (ho : isMove o.op x) (hx : ev e x = .func f a b) : OpVal P n o e σ H (.func f a b) := hx ▸ .mv ho
theorem OpVal.moveA {cs : Array Value} (ho : isMove o.op x) (hx : ev e x = .agg cs) : OpVal P n o e σ H (.agg cs) := hx ▸ .mv ho
theorem OpVal.moveT {cs : Array Value} (ho : isMove o.op x) (hx : ev e x = .tuple cs) : OpVal P n o e σ H (.tuple cs) := hx ▸ .mv ho

theorem OpVal.lenC {t E m c : Nat} {a : Option Addr} (ho : o.op = .call { callee := .builtin .len, args := #[x], argTypes := #[t] }) (ht : P.underlying t = some (.slice E)) (hx : ev e x = .slice a m c) :
    OpVal P n o e σ H (.int .i64 (m : Nat)) := fun w _ => by
  simp [execOp, ho, resolve, invoke, builtin, hx, Builtin.len_, run_underlying ht, goInt]

theorem OpVal.nilCheckLoc {b k : Nat} (ho : o.op = .nilCheck x) (hx : ev e x = loc b k) : OpVal P n o e σ H (loc b k) := OpVal.nilCheck (a := ⟨b, k, none⟩) ho hx

/-- '||' and '&&'. -/
theorem OpVal.orB {c b : Operand} {t q : Bool} (ho : o.op = .pick c (.const (.bool true)) b) (hc : ev e c = .bool t) (hb : ev e b = .bool q) : OpVal P n o e σ H (.bool (t || q)) := by
  have := OpVal.pickB (P := P) (n := n) (σ := σ) (H := H) ho hc (show ev e (.const (.bool true)) = .bool true from rfl) hb
  cases t <;> simpa using this
theorem OpVal.pickTB {c a b : Operand} {p : Bool} (ho : o.op = .pick c a b) (hc : ev e c = .bool true) (ha : ev e a = .bool p) : OpVal P n o e σ H (.bool p) := .pickT ho hc rfl ha
theorem OpVal.pickFB {c a b : Operand} {p : Bool} (ho : o.op = .pick c a b) (hc : ev e c = .bool false) (ha : ev e b = .bool p) : OpVal P n o e σ H (.bool p) := .pickF ho hc rfl ha

/-! ### Typed slices -/
/-- A sealed slice of elements that are written out by `enc` as `size` cells each. -/
structure RS {α : Type} (σ : Store) (size : Nat) (enc : α → List Value) (v : Value) (l : List α) : Prop where
  rv : RV σ size v l.length (l.flatMap enc)
  len : ∀ x, (enc x).length = size

theorem RS.mono {α : Type} {σ τ : Store} {size : Nat} {enc : α → List Value} {v : Value} {l : List α} (h : RS σ size enc v l) (hle : σ.le τ) : RS τ size enc v l := ⟨h.rv.mono hle, h.len⟩

theorem flatMap_len {α : Type} {enc : α → List Value} {size : Nat} (h : ∀ x, (enc x).length = size) : ∀ l : List α, (l.flatMap enc).length = l.length * size
  | [] => by simp
  | x :: l => by rw [List.flatMap_cons, List.length_append, h x, flatMap_len h l, List.length_cons, Nat.add_mul]; omega

theorem flatMap_get {α : Type} {enc : α → List Value} {size : Nat} (h : ∀ x, (enc x).length = size) : ∀ (l : List α) (i j : Nat) (x : α), l[i]? = some x → j < size → (l.flatMap enc)[i * size + j]? = (enc x)[j]?
  | [], i, j, x, hi, _ => by simp at hi
  | y :: l, 0, j, x, hi, hj => by
    simp at hi; subst hi
    rw [List.flatMap_cons, Nat.zero_mul, Nat.zero_add, List.getElem?_append_left (by rw [h y]; exact hj)]
  | y :: l, i + 1, j, x, hi, hj => by
    simp at hi
    rw [List.flatMap_cons, List.getElem?_append_right (by rw [h y, Nat.add_mul]; omega), h y]
    have : (i + 1) * size + j - size = i * size + j := by rw [Nat.add_mul]; omega
    rw [this]
    exact flatMap_get h l i j x hi hj

theorem flatMap_seg {α : Type} {enc : α → List Value} {size : Nat} (h : ∀ x, (enc x).length = size) : ∀ (l : List α) (i : Nat) (x : α), l[i]? = some x → ((l.flatMap enc).drop (i * size)).take size = enc x
  | [], i, x, hi => by simp at hi
  | y :: l, 0, x, hi => by
    simp at hi; subst hi
    rw [List.flatMap_cons, Nat.zero_mul, List.drop_zero, List.take_append_of_le_length (by rw [h y]; exact Nat.le_refl _), List.take_of_length_le (by rw [h y]; exact Nat.le_refl _)]
  | y :: l, i + 1, x, hi => by
    simp at hi
    rw [List.flatMap_cons, Nat.add_mul, Nat.one_mul, Nat.add_comm, ← List.drop_drop, List.drop_left' (h y)]
    exact flatMap_seg h l i x hi

/-- The element at a place. -/
def nth {α : Type} (l : List α) (i : Nat) (d : α) : α := l.getD i d
theorem getD_some {α : Type} (l : List α) {i : Nat} (hi : i < l.length) (d : α) : l[i]? = some (nth l i d) := by
  simp [nth, hi]

/-- A field of an element, or a plain element. -/
theorem OpVal.loadS {α : Type} {T size i j : Nat} {enc : α → List Value} {v u : Value} {l : List α} (d : α) (ho : o.op = .load T x) (hA : aggOf P T = some false) (hx : ev e x = elem v (i * size + j)) (hR : RS σ size enc v l) (hi : i < l.length)
    (hj : j < size) (hu : (enc (nth l i d))[j]? = some u) : OpVal P n o e σ H u :=
  OpVal.loadEl ho hA hx hR.rv (by rw [flatMap_get hR.len l i j _ (getD_some l hi d) hj]; exact hu)

theorem OpVal.loadS1 {α : Type} {T i : Nat} {enc : α → List Value} {v u : Value} {l : List α} (d : α) (ho : o.op = .load T x) (hA : aggOf P T = some false) (hx : ev e x = elem v (i * 1)) (hR : RS σ 1 enc v l) (hi : i < l.length)
    (hu : (enc (nth l i d))[0]? = some u) : OpVal P n o e σ H u :=
  OpVal.loadS (j := 0) d ho hA hx hR hi (by omega) hu

/-- A whole element. -/
theorem OpVal.loadSA {α : Type} {T size i : Nat} {enc : α → List Value} {v : Value} {l : List α} (d : α) (ho : o.op = .load T x) (hA : aggOf P T = some true) (hz : szOf P T = some size) (hx : ev e x = elem v (i * size)) (hR : RS σ size enc v l) (hi : i < l.length) (h0 : 0 < size) :
    OpVal P n o e σ H (.agg (enc (nth l i d)).toArray) :=
  OpVal.loadElA ho hA hz hx hR.rv h0 (hR.len _) (flatMap_seg hR.len l i _ (getD_some l hi d))

theorem sub_seg {α : Type} {enc : α → List Value} {size : Nat} (h : ∀ x, (enc x).length = size) (l : List α) (i j s : Nat) (x : α) (hi : l[i]? = some x) (hj : j + s ≤ size) : ((l.flatMap enc).drop (i * size + j)).take s = ((enc x).drop j).take s := by
  rw [← flatMap_seg h l i x hi, ← List.drop_drop, List.drop_take, List.take_take, Nat.min_eq_left (by omega)]
/-- A part of an element. -/
theorem OpVal.loadSub {α : Type} {T size i j s : Nat} {enc : α → List Value} {v : Value} {l : List α} {us : List Value} (d : α) (ho : o.op = .load T x) (hA : aggOf P T = some true) (hz : szOf P T = some s) (hx : ev e x = elem v (i * size + j)) (hR : RS σ size enc v l) (hi : i < l.length) (h0 : 0 < s) (hj : j + s ≤ size)
    (hu : ((enc (nth l i d)).drop j).take s = us) (hl : us.length = s) : OpVal P n o e σ H (.agg us.toArray) :=
  OpVal.loadElA ho hA hz hx hR.rv h0 hl (by rw [sub_seg hR.len l i j s _ (getD_some l hi d) hj]; exact hu)
theorem OpVal.loadOSub {α : Type} {T E size i j s q : Nat} {enc : α → List Value} {v : Value} {l : List α} {us : List Value} (d : α) (ho : o.op = .load T x) (hA : aggOf P T = some true) (hz : szOf P T = some s) (hx : ev e x = elem v (i * size + j)) (hq : H[q]? = some (Res.row E size v l.length (l.flatMap enc))) (hen : ∀ x, (enc x).length = size) (hi : i < l.length) (h0 : 0 < s) (hj : j + s ≤ size)
    (hu : ((enc (nth l i d)).drop j).take s = us) (hl : us.length = s) : OpVal P n o e σ H (.agg us.toArray) :=
  OpVal.loadRowA ho hA hz hx hq h0 hl (by rw [sub_seg hen l i j s _ (getD_some l hi d) hj]; exact hu)

/-- Out of an owned row. -/
theorem OpVal.loadO {α : Type} {T E size i j q : Nat} {enc : α → List Value} {v u : Value} {l : List α} (d : α) (ho : o.op = .load T x) (hA : aggOf P T = some false) (hx : ev e x = elem v (i * size + j)) (hq : H[q]? = some (Res.row E size v l.length (l.flatMap enc))) (hl : ∀ x, (enc x).length = size) (hi : i < l.length)
    (hj : j < size) (hu : (enc (nth l i d))[j]? = some u) : OpVal P n o e σ H u :=
  OpVal.loadRow ho hA hx hq (by rw [flatMap_get hl l i j _ (getD_some l hi d) hj]; exact hu)

theorem OpVal.loadO1 {α : Type} {T E i q : Nat} {enc : α → List Value} {v u : Value} {l : List α} (d : α) (ho : o.op = .load T x) (hA : aggOf P T = some false) (hx : ev e x = elem v (i * 1)) (hq : H[q]? = some (Res.row E 1 v l.length (l.flatMap enc))) (hl : ∀ x, (enc x).length = 1) (hi : i < l.length)
    (hu : (enc (nth l i d))[0]? = some u) : OpVal P n o e σ H u :=
  OpVal.loadO (j := 0) d ho hA hx hq hl hi (by omega) hu

theorem OpVal.loadOA {α : Type} {T E size i q : Nat} {enc : α → List Value} {v : Value} {l : List α} (d : α) (ho : o.op = .load T x) (hA : aggOf P T = some true) (hz : szOf P T = some size) (hx : ev e x = elem v (i * size)) (hq : H[q]? = some (Res.row E size v l.length (l.flatMap enc))) (hl : ∀ x, (enc x).length = size) (hi : i < l.length) (h0 : 0 < size) :
    OpVal P n o e σ H (.agg (enc (nth l i d)).toArray) :=
  OpVal.loadRowA ho hA hz hx hq h0 (hl _) (flatMap_seg hl l i _ (getD_some l hi d))

theorem RS.none_nil {α : Type} {size m c : Nat} {enc : α → List Value} {l : List α} (h : RS σ size enc (.slice none m c) l) : l = [] := by
  obtain ⟨a, c', hv, h0, _⟩ := h.rv.sl
  cases hv
  exact List.eq_nil_of_length_eq_zero (h0 rfl).1
theorem RS.of_rv {α : Type} {size m : Nat} {enc : α → List Value} {v : Value} {l : List α} (h : RV σ size v m (l.flatMap enc)) (hl : ∀ x, (enc x).length = size) (h0 : 0 < size) : RS σ size enc v l := by
  have h1 := h.len
  rw [flatMap_len hl] at h1
  have h2 : l.length = m := Nat.eq_of_mul_eq_mul_right h0 h1
  subst h2
  exact ⟨h, hl⟩
end

/-! ### Environments at the head of a loop or behind a cut -/
def Agr (M : List Nat) (e' e : Env) : Prop := ∀ t, M.contains t = false → e' t = e t
theorem Agr.refl (M : List Nat) (e : Env) : Agr M e e := fun _ _ => rfl
theorem Agr.upd {M : List Nat} {e' e : Env} {d : Nat} {v : Value} (hd : M.contains d = true) (h : Agr M e' e) : Agr M (Go.E.upd e' d v) e := fun t ht => by
  unfold Go.E.upd
  split
  · subst_vars; rw [hd] at ht; cases ht
  · exact h t ht
theorem Agr.mask {M : List Nat} {j e : Env} : Agr M (Go.E.mask M j e) e := fun t ht => by unfold Go.E.mask; rw [ht]; rfl
theorem Agr.trans {M : List Nat} {a b c : Env} (h : Agr M a b) (k : Agr M b c) : Agr M a c := fun t ht => (h t ht).trans (k t ht)
theorem Agr.weak {M M' : List Nat} {a b : Env} (h : Agr M' a b) (hs : M'.all (fun t => M.contains t) = true) : Agr M a b := fun t ht => h t (by
  cases hc : M'.contains t with
  | false => rfl
  | true => have := List.all_eq_true.1 hs t (by simpa using hc); rw [ht] at this; cases this)

/-- Slots that hold what is written. -/
def Has (e : Env) : List (Nat × Value) → Prop
  | [] => True
  | (t, v) :: r => e t = v ∧ Has e r

def upds (e : Env) : List (Nat × Value) → Env
  | [] => e
  | (t, v) :: r => upd (upds e r) t v

theorem upds_of_has {e : Env} : ∀ {l : List (Nat × Value)}, Has e l → upds e l = e
  | [], _ => rfl
  | (t, v) :: r, h => by
    unfold upds
    rw [upds_of_has h.2]
    funext i; unfold upd; split
    · subst_vars; exact h.1.symm
    · rfl

/-- The environment's form. -/
theorem env_form {M : List Nat} {e' e : Env} {l : List (Nat × Value)} (h : Agr M e' e) (hl : Has e' l) : e' = upds (mask M e' e) l := by
  have hm : mask M e' e = e' := by
    funext t; unfold mask; split
    · rfl
    · rename_i hc; exact (h t (by simpa using hc)).symm
  rw [hm, upds_of_has hl]

/-! ### Owned rows of typed elements -/
def Res.rowS {α : Type} (E size : Nat) (enc : α → List Value) (v : Value) (l : List α) : Res := Res.row E size v l.length (l.flatMap enc)

/-- A call that only computes. -/
def PureP (v : Value) (σ : Store) : Value → Store → List Res → Prop := fun r σ' H' => r = v ∧ σ' = σ ∧ H' = []
/-- A call that hands back a new row. -/
def RowP {α : Type} (E size : Nat) (enc : α → List Value) (l : List α) (σ : Store) : Value → Store → List Res → Prop := fun r σ' H' => (∃ a c, r = .slice a l.length c) ∧ σ' = σ ∧ H' = [Res.rowS E size enc r l]

/-- A call that only computes, and gives back what it was lent. -/
def KeepP (v : Value) (σ : Store) (H1 : List Res) : Value → Store → List Res → Prop := fun r σ' H' => r = v ∧ σ' = σ ∧ H' = H1
section rets
variable {P : Program} {fn : Func} {n : Nat} {e : Env} {σ : Store} {H : List Res} {ex : Exit}
theorem ret1P {t : Nat} {v : Value} (hr : fn.results = #[.tmp t]) (h : e t = v) : RetOk P fn n (PureP v σ) .ret e σ H :=
  RetOk.of [] (.inl rfl) ((RetVal.one hr).eq h) (List.nil_sublist _) ⟨rfl, rfl, rfl⟩
theorem ret2P {t u : Nat} {v v' : Value} (hr : fn.results = #[.tmp t, .tmp u]) (h : e t = v) (h' : e u = v') : RetOk P fn n (PureP (.tuple #[v, v']) σ) .ret e σ H :=
  RetOk.of [] (.inl rfl) ((RetVal.two hr).eq (by rw [h, h'])) (List.nil_sublist _) ⟨rfl, rfl, rfl⟩
theorem ret3P {t u q : Nat} {v v' v'' : Value} (hr : fn.results = #[.tmp t, .tmp u, .tmp q]) (h : e t = v) (h' : e u = v') (h'' : e q = v'') : RetOk P fn n (PureP (.tuple #[v, v', v'']) σ) .ret e σ H :=
  RetOk.of [] (.inl rfl) ((RetVal.three hr).eq (by rw [h, h', h''])) (List.nil_sublist _) ⟨rfl, rfl, rfl⟩
theorem ret1K {t : Nat} {v : Value} (hr : fn.results = #[.tmp t]) (h : e t = v) : RetOk P fn n (KeepP v σ H) .ret e σ H :=
  RetOk.of H (.inl rfl) ((RetVal.one hr).eq h) (List.Sublist.refl _) ⟨rfl, rfl, rfl⟩
/-- A row handed back: it stands in front. -/
theorem ret1R {α : Type} {E size t c : Nat} {a : Option Addr} {enc : α → List Value} {l : List α} (hr : fn.results = #[.tmp t]) (h : e t = .slice a l.length c) : RetOk P fn n (RowP E size enc l σ) .ret e σ (Res.rowS E size enc (.slice a l.length c) l :: H) :=
  RetOk.of [Res.rowS E size enc (.slice a l.length c) l] (.inl rfl) ((RetVal.one hr).eq h) (List.Sublist.cons_cons _ (List.nil_sublist _)) ⟨⟨a, c, rfl⟩, rfl, rfl⟩
end rets

section calls
variable {X : Ctx} {e : Env} {σ : Store} {H F : List Res} {o : Oper} {x y : Operand} {K : Env → Store → List Res → Prop}

theorem OpOk.callP {f d : Nat} {as : Array Operand} {ts : Array TypeId} {first cap : Array Value} {args : List Value} {v : Value} (hc : Con X.P f args.toArray σ [] (PureP v σ)) (ho : o.op = .call { callee := .value x, args := as, argTypes := ts })
    (hx : ev e x = .func (.func f) first cap) (hp : plainF X.P f = true) (hargs : first.toList ++ (as.toList.map (ev e) ++ cap.toList) = args) (hd : o.dst = some d) (hn : Nat.blt d X.n = true)
    (k : K (upd e d v) σ H) : OpOk X o e σ H K :=
  OpOk.call (H1 := []) hc ho hx hp hargs hd hn rfl fun r σ' H' _ ⟨h1, h2, h3⟩ => by subst h1 h2 h3; exact k

/-- A call that gives back what it was lent. -/
theorem OpOk.callK {f d : Nat} {as : Array Operand} {ts : Array TypeId} {first cap : Array Value} {args : List Value} {v : Value} {H1 : List Res} (hc : Con X.P f args.toArray σ H1 (KeepP v σ H1)) (ho : o.op = .call { callee := .value x, args := as, argTypes := ts })
    (hx : ev e x = .func (.func f) first cap) (hp : plainF X.P f = true) (hargs : first.toList ++ (as.toList.map (ev e) ++ cap.toList) = args) (hd : o.dst = some d) (hn : Nat.blt d X.n = true) (hH : H1 ++ F = H)
    (k : K (upd e d v) σ (H1 ++ F)) : OpOk X o e σ H K :=
  OpOk.call (H1 := H1) hc ho hx hp hargs hd hn hH fun r σ' H' _ ⟨h1, h2, h3⟩ => by subst h1 h2 h3; exact k

theorem OpOk.callK0 {f d : Nat} {as : Array Operand} {ts : Array TypeId} {first cap : Array Value} {args : List Value} {v : Value} (hc : Con X.P f args.toArray σ H (KeepP v σ H)) (ho : o.op = .call { callee := .value x, args := as, argTypes := ts })
    (hx : ev e x = .func (.func f) first cap) (hp : plainF X.P f = true) (hargs : first.toList ++ (as.toList.map (ev e) ++ cap.toList) = args) (hd : o.dst = some d) (hn : Nat.blt d X.n = true)
    (k : K (upd e d v) σ H) : OpOk X o e σ H K :=
  OpOk.call (H1 := H) hc ho hx hp hargs hd hn (List.append_nil H) fun r σ' H' _ ⟨h1, h2, h3⟩ => by subst h1 h2 h3; rw [List.append_nil]; exact k

/-- A call that only computes, and takes some resources with it. -/
theorem OpOk.callT {f d : Nat} {as : Array Operand} {ts : Array TypeId} {first cap : Array Value} {args : List Value} {v : Value} {H1 : List Res} (hc : Con X.P f args.toArray σ H1 (PureP v σ)) (ho : o.op = .call { callee := .value x, args := as, argTypes := ts })
    (hx : ev e x = .func (.func f) first cap) (hp : plainF X.P f = true) (hargs : first.toList ++ (as.toList.map (ev e) ++ cap.toList) = args) (hd : o.dst = some d) (hn : Nat.blt d X.n = true) (hH : H1 ++ F = H)
    (k : K (upd e d v) σ F) : OpOk X o e σ H K :=
  OpOk.call (H1 := H1) hc ho hx hp hargs hd hn hH fun r σ' H' _ ⟨h1, h2, h3⟩ => by subst h1 h2 h3; exact k

theorem OpOk.callR {α : Type} {E size f d : Nat} {enc : α → List Value} {l : List α} {as : Array Operand} {ts : Array TypeId} {first cap : Array Value} {args : List Value} (hc : Con X.P f args.toArray σ [] (RowP E size enc l σ)) (ho : o.op = .call { callee := .value x, args := as, argTypes := ts })
    (hx : ev e x = .func (.func f) first cap) (hp : plainF X.P f = true) (hargs : first.toList ++ (as.toList.map (ev e) ++ cap.toList) = args) (hd : o.dst = some d) (hn : Nat.blt d X.n = true)
    (k : ∀ a c, K (upd e d (.slice a l.length c)) σ (Res.rowS E size enc (.slice a l.length c) l :: H)) : OpOk X o e σ H K :=
  OpOk.call (H1 := []) hc ho hx hp hargs hd hn rfl fun r σ' H' _ ⟨⟨a, c, h1⟩, h2, h3⟩ => by subst h1 h2 h3; exact k a c

/-- Where typed elements come from. -/
def SourceS {α : Type} (σ : Store) (H : List Res) (size : Nat) (enc : α → List Value) (u : Value) (l : List α) : Prop :=
  RS σ size enc u l ∨ ∃ (E : TypeId) (i : Nat), H[i]? = some (Res.rowS E size enc u l)

theorem OpOk.appendS {α : Type} {T E size by_ d : Nat} {enc : α → List Value} {z v u : Value} {l l2 : List α} {ty : TypeId} (ho : o.op = .call { callee := .builtin .append, args := #[x, y], argTypes := #[T, ty] }) (hty : ty = T) (ht : X.P.underlying T = some (.slice E)) (hs : szOf X.P E = some size) (hby : byOf X.P E = some by_) (hz : zeroOf X.P E = some z)
    (hd : o.dst = some d) (hn : Nat.blt d X.n = true) (hsz : 0 < size) (hzs : z.cells.size = size) (hx : ev e x = v) (hy : ev e y = u) (hsrc : SourceS σ F size enc u l2) (hb0 : (l.length + l2.length) * by_ ≤ 140737488355328) (hby0 : 0 < by_)
    (k : ∀ a c, K (upd e d (.slice a (l ++ l2).length c)) σ (Res.rowS E size enc (.slice a (l ++ l2).length c) (l ++ l2) :: F)) : OpOk X o e σ (Res.rowS E size enc v l :: F) K := by
  refine OpOk.append ho hty ht hs hby hz hd hn hsz hzs hx hy (m := l2.length) (ys := l2.flatMap enc) ?_ hb0 hby0 fun a c => ?_
  · rcases hsrc with h | ⟨E', i, h⟩
    · exact .inl h.rv
    · exact .inr ⟨E', i, h⟩
  · have h := k a c
    rw [List.length_append] at h
    have e1 : ∀ v', Res.row E size v' (l.length + l2.length) (l.flatMap enc ++ l2.flatMap enc) = Res.rowS E size enc v' (l ++ l2) := fun v' => by
      simp only [Res.rowS, List.flatMap_append, List.length_append]
    rw [e1]; exact h

theorem TC.sealS {α : Type} {Q : QP} {c : Code} {E size : Nat} {enc : α → List Value} {v : Value} {l : List α} (hl : ∀ x, (enc x).length = size) (k : ∀ σ', σ.le σ' → RS σ' size enc v l → TC X Q c e σ' F) : TC X Q c e σ (Res.rowS E size enc v l :: F) :=
  TC.sealRow fun σ' h1 h2 => k σ' h1 ⟨h2, hl⟩
theorem TL.sealS {α : Type} {Q : QP} {ops : Array Oper} {ol : List Oper} {E size : Nat} {enc : α → List Value} {v : Value} {l : List α} (hl : ∀ x, (enc x).length = size) (k : ∀ σ', σ.le σ' → RS σ' size enc v l → TL X ops Q ol e σ' F) : TL X ops Q ol e σ (Res.rowS E size enc v l :: F) :=
  TL.sealRow fun σ' h1 h2 => k σ' h1 ⟨h2, hl⟩
theorem TC.nilS {α : Type} {Q : QP} {c : Code} (E size : Nat) (enc : α → List Value) (k : TC X Q c e σ (Res.rowS E size enc (.slice none 0 0) [] :: H)) : TC X Q c e σ H := TC.nilRow E size k
theorem TL.nilS {α : Type} {Q : QP} {ops : Array Oper} {ol : List Oper} (E size : Nat) (enc : α → List Value) (k : TL X ops Q ol e σ (Res.rowS E size enc (.slice none 0 0) [] :: H)) : TL X ops Q ol e σ H := TL.nilRow E size k

theorem madeCells_flat {α : Type} {enc : α → List Value} (z : Value) (d : α) (hz : z.cells.toList = enc d) (m : Nat) (h0 : 0 < (enc d).length) : (madeCells z.cells (m * (enc d).length)).toList = (List.replicate m d).flatMap enc := by
  have hsz : z.cells.size = (enc d).length := by rw [← hz]; simp
  induction m with
  | zero => simp [madeCells]
  | succ m ih =>
    rw [List.replicate_succ', List.flatMap_append, ← ih]
    apply List.ext_getElem?
    intro i
    simp only [madeCells, Array.toList_map, Array.toList_range, List.getElem?_map, List.getElem?_append, List.length_map, List.length_range, List.flatMap_cons, List.flatMap_nil, List.append_nil]
    by_cases h1 : i < m * (enc d).length
    · have h2 : i < (m + 1) * (enc d).length := by rw [Nat.add_mul]; omega
      simp [h1, h2]
    · by_cases h2 : i < (m + 1) * (enc d).length
      · have h3 : i - m * (enc d).length < (enc d).length := by rw [Nat.add_mul] at h2; omega
        have h4 : i % z.cells.size = i - m * (enc d).length := by
          rw [hsz]
          have : i = (i - m * (enc d).length) + (enc d).length * m := by rw [Nat.mul_comm (enc d).length m]; omega
          rw [this, Nat.add_mul_mod_self_left, Nat.mod_eq_of_lt h3, Nat.mul_comm (enc d).length m]; omega
        rw [if_neg h1, List.getElem?_range h2, Option.map_some, h4]
        have h5 : i - m * (enc d).length < z.cells.size := by rw [hsz]; exact h3
        generalize i - m * (enc d).length = k at *
        rw [getElem!_pos z.cells _ h5, ← hz]
        simp [h5]
      · have h3 : (enc d).length ≤ i - m * (enc d).length := by rw [Nat.add_mul] at h2; omega
        rw [if_neg h1, List.getElem?_eq_none h3, List.getElem?_eq_none (by simp; omega)]; rfl

/-- A slice of literal elements. -/
theorem OpOk.lit {α : Type} {T E size d m : Nat} {enc : α → List Value} {parts : Array (Nat × Operand)} {z : Value} (l : List α) (ho : o.op = .buildSlice T m parts) (ht : X.P.underlying T = some (.slice E)) (hs : szOf X.P E = some size) (hz : zeroOf X.P E = some z)
    (hd : o.dst = some d) (hn : Nat.blt d X.n = true) (hm : l.length = m) (hl : ∀ x, (enc x).length = size) (h0 : m * size ≠ 0) (hbig : m * size ≤ 16777216)
    (x0 : α) (hx0 : z.cells.toList = enc x0) (h00 : 0 < size)
    (hf : fillL (fun i => some (i * size, size)) ((List.replicate m x0).flatMap enc) (parts.toList.map fun x => (x.1, ev e x.2)) = some (l.flatMap enc)) (hmax : m ≤ 281474976710656) (h1 : ∀ x, ∀ u ∈ enc x, u.oneCell' = true)
    (k : ∀ a c, K (upd e d (.slice a l.length c)) σ (Res.rowS E size enc (.slice a l.length c) l :: H)) : OpOk X o e σ H K := by
  subst hm
  have hmade : ((Array.range (l.length * size)).map (z.cells[· % z.cells.size]!)).toList = (List.replicate l.length x0).flatMap enc := by
    have := madeCells_flat z x0 hx0 l.length (by rw [hl]; exact h00)
    rw [hl] at this; exact this
  refine OpOk.buildSlice (cs := (l.flatMap enc).toArray) ho ht hs hz hd hn h0 hbig ?_ (by simp [flatMap_len hl]) hmax (fun u hu => ?_) fun a c => ?_
  · rw [fill_eq, hmade, hf]; rfl
  · rw [List.mem_flatMap] at hu
    obtain ⟨q, _, hq⟩ := hu
    exact h1 q u hq
  · exact k a c

/-- A slice without elements, but not nil. -/
theorem OpOk.lit0 {α : Type} {T E size d : Nat} {enc : α → List Value} {parts : Array (Nat × Operand)} (ho : o.op = .buildSlice T 0 parts) (hp : parts = #[]) (ht : X.P.underlying T = some (.slice E)) (hs : szOf X.P E = some size)
    (hd : o.dst = some d) (hn : Nat.blt d X.n = true) (k : ∀ a c, K (upd e d (.slice a 0 c)) σ (Res.rowS E size enc (.slice a 0 c) [] :: H)) : OpOk X o e σ H K := by
  subst hp
  intro w a hw ha K' Q hK
  have hR : Reach X.w0 X.C X.σ0 σ (w.alloc (.cells #[] E)) (Res.rowS E size enc (.slice (some ⟨w.heap.size, 0, none⟩) 0 0) [] :: H) :=
    hw.gain1 (some _) rfl rfl rfl rfl (by simp) (Nat.le_refl _) (fun k hk => heap_alloc_old w _ k hk)
      ⟨⟨by simp, .inr ⟨w.heap.size, 0, #[], rfl, Nat.zero_le _, heap_alloc_new w _, Nat.le_refl _, Nat.zero_le _, by simp, by simp⟩⟩, by simp, Nat.zero_le _⟩ (fun b hb => by cases hb; exact Nat.le_refl _)
  refine Oper.wp_of_run (w' := w.alloc (.cells #[] E)) (v := .slice (some ⟨w.heap.size, 0, none⟩) 0 0) ?_ (hK _ _ _ _ _ (k _ _) hR (put_dst ha hd hn _))
  rw [ha.eval']
  simp [execOp, ho, Instr.buildSlice, run_underlying ht, run_sizeOf hs, Instr.fill, newRow, Array.range_zero']

theorem OpOk.makeS {α : Type} {T E size by_ d m : Nat} {enc : α → List Value} {kl kc : IntKind} {z : Value} (x0 : α) (ho : o.op = .makeSlice T x y) (ht : X.P.underlying T = some (.slice E)) (hs : szOf X.P E = some size) (hby : byOf X.P E = some by_) (hz : zeroOf X.P E = some z)
    (hd : o.dst = some d) (hn : Nat.blt d X.n = true) (hx : ev e x = .int kl (m : Nat)) (hy : ev e y = .int kc (m : Nat)) (hb : by_ * m ≤ 281474976710656) (hby0 : 0 < by_) (hl : ∀ x, (enc x).length = size) (h0 : 0 < size)
    (hz0 : z.cells.toList = enc x0) (h1 : ∀ x, ∀ u ∈ enc x, u.oneCell' = true) (k : ∀ a c, K (upd e d (.slice a m c)) σ (Res.rowS E size enc (.slice a m c) (List.replicate m x0) :: H)) : OpOk X o e σ H K := by
  refine OpOk.make (zs := (List.replicate m x0).flatMap enc) ho ht hs hby hz hd hn hx hy hb hby0 ?_ (fun u hu => ?_) fun a c => ?_
  · rw [← hl x0]; exact madeCells_flat z x0 hz0 m (by rw [hl]; exact h0)
  · rw [List.mem_flatMap] at hu
    obtain ⟨q, _, hq⟩ := hu
    exact h1 q u hq
  · have := k a c
    simpa only [Res.rowS, List.length_replicate] using this

theorem splice_flat {α : Type} {enc : α → List Value} {size : Nat} (hl : ∀ x, (enc x).length = size) (x : α) : ∀ (l : List α) (i : Nat), i < l.length → splice (l.flatMap enc) (i * size) (enc x) = (l.set i x).flatMap enc
  | [], i, h => by simp at h
  | y :: l, 0, _ => by
    simp only [splice, Nat.zero_mul, List.take_zero, List.nil_append, List.flatMap_cons, List.set_cons_zero, Nat.zero_add]
    rw [hl x, List.drop_left' (hl y)]
  | y :: l, i + 1, h => by
    have ih := splice_flat hl x l i (by simpa using h)
    simp only [splice] at ih
    simp only [splice, List.flatMap_cons, List.set_cons_succ, ← ih]
    have h1 : (i + 1) * size = size + i * size := by rw [Nat.add_mul]; omega
    rw [h1, List.take_append, hl y, Nat.add_sub_cancel_left, List.take_of_length_le (by rw [hl y]; omega)]
    have h2 : size + i * size + (enc x).length = size + (i * size + (enc x).length) := by omega
    rw [h2, ← List.drop_drop, List.drop_left' (hl y)]
    simp

theorem OpOk.storeS {α : Type} {T E size i : Nat} {enc : α → List Value} {v u : Value} {l : List α} (q : α) (ho : o.op = .store T x y) (hs : szOf X.P T = some size) (hd : o.dst = none) (hx : ev e x = elem v (i * size)) (hv : ev e y = u) (hu : u.cells.toList = enc q) (hl : ∀ x, (enc x).length = size)
    (h1 : ∀ x, ∀ u ∈ enc x, u.oneCell' = true) (h0 : 0 < size) (hi : i < l.length) (kk : K e σ (Res.rowS E size enc v (l.set i q) :: F)) : OpOk X o e σ (Res.rowS E size enc v l :: F) K := by
  have hus : u.cells.size = size := by rw [← Array.length_toList, hu, hl]
  refine OpOk.storeRow ho hs hd hx hv hus (by rw [hu]; exact h1 q) h0 ?_ ?_
  · rw [flatMap_len hl]
    have h1 : (i + 1) * size ≤ l.length * size := Nat.mul_le_mul_right _ hi
    rw [Nat.add_mul] at h1; omega
  · rw [hu, splice_flat hl q l i hi]
    simpa only [Res.rowS, List.length_set] using kk
end calls

/-- A loop over a ghost state. -/
theorem TC.loopF {X : Ctx} {Q : QP} {c : Code} {e : Env} {σ : Store} {H : List Res} {α : Type} (M : List Nat) (S : α → List (Nat × Value)) (Hf : α → List Res) (σf : α → Store) (I : α → Prop) (μ : α → Nat) (a0 : α)
    (h0 : I a0) (hS : Has e (S a0)) (hH : H = Hf a0) (hσ : σ = σf a0)
    (round : ∀ (a : α) (j : Env), I a → TC X (seqQ (fun e' σ' H' => Agr M e' e ∧ ∃ a', μ a' < μ a ∧ I a' ∧ Has e' (S a') ∧ H' = Hf a' ∧ σ' = σf a') Q) c (upds (mask M j e) (S a)) (σf a) (Hf a)) : TC X Q (.loop c) e σ H := by
  refine TC.loop (fun k e' σ' H' => ∃ a, μ a = k ∧ I a ∧ Agr M e' e ∧ Has e' (S a) ∧ H' = Hf a ∧ σ' = σf a) (μ a0) ⟨a0, rfl, h0, Agr.refl _ _, hS, hH, hσ⟩ ?_
  rintro k e' σ' H' ⟨a, rfl, hI, hA, hs, rfl, rfl⟩
  have he := env_form hA hs
  rw [he]
  exact (round a e' hI).weak fun ex e'' σ'' H'' hq => by
    cases ex <;> first | exact hq | (obtain ⟨h1, a', h2, h3, h4, h5, h6⟩ := hq; exact ⟨_, h2, a', rfl, h3, h1, h4, h5, h6⟩)

/-- A cut over a ghost state. -/
theorem TC.cutF {X : Ctx} {Q : QP} {c1 c2 : Code} {e : Env} {σ : Store} {H : List Res} {α : Type} (M : List Nat) (S : α → List (Nat × Value)) (Hf : α → List Res) (σf : α → Store) (I : α → Prop)
    (h : TC X (seqQ (fun e' σ' H' => Agr M e' e ∧ ∃ a, I a ∧ Has e' (S a) ∧ H' = Hf a ∧ σ' = σf a) Q) c1 e σ H)
    (k : ∀ (a : α) (j : Env), I a → TC X Q c2 (upds (mask M j e) (S a)) (σf a) (Hf a)) : TC X Q (.seq c1 c2) e σ H := by
  refine TC.cut _ h ?_
  rintro e' σ' H' ⟨hA, a, hI, hs, rfl, rfl⟩
  rw [env_form hA hs]
  exact k a e' hI

theorem Agr.upds {M : List Nat} {e' e : Env} : ∀ {l : List (Nat × Value)}, (l.all fun p => M.contains p.1) = true → Agr M e' e → Agr M (Go.E.upds e' l) e
  | [], _, h => h
  | (t, v) :: r, hl, h => by
    simp only [List.all_cons, Bool.and_eq_true] at hl
    exact Agr.upd hl.1 (Agr.upds hl.2 h)

/-! ### The continuations' ways -/
section ways
variable {K : Env → Store → List Res → Prop} {Q : QP} {e : Env} {σ : Store} {H : List Res} {i : Nat}
theorem S.n (h : K e σ H) : seqQ K Q .normal e σ H := h
theorem S.x (h : Q (.exit i) e σ H) : seqQ K Q (.exit i) e σ H := h
theorem S.r (h : Q .ret e σ H) : seqQ K Q .ret e σ H := h
theorem B.n {id : Nat} (h : Q .normal e σ H) : blkQ id Q .normal e σ H := h
theorem B.r {id : Nat} (h : Q .ret e σ H) : blkQ id Q .ret e σ H := h
end ways

end Go.E
