/- The engine, part three: resources and the rules of the operations. Plain lemmas over any program; no condition. -/
import Derived.Test.YtcidppnlhhkhhaaEng2
set_option linter.unusedVariables false
set_option linter.unusedSimpArgs false
namespace Go.E
open Go

/-! ### Facts on types, computed -/
def szOf (P : Program) (E : TypeId) : Option Nat := (P.info? E).map (·.size)
def byOf (P : Program) (E : TypeId) : Option Nat := (P.info? E).map (·.bytes)
def zeroOf (P : Program) (E : TypeId) : Option Value := (P.info? E).bind (·.zero)
def aggOf (P : Program) (E : TypeId) : Option Bool := (P.underlying E).map fun | .struct _ => true | .array _ _ => true | _ => false
def foOf (P : Program) (T i : Nat) : Option Nat := match P.underlying T with
  | some (.struct fs) => (fs[i]?).bind fun f => (szOf P f.type).bind fun s => if s = 0 then none else some f.offset
  | _ => none
def plOf (P : Program) (T : TypeId) : Option (Array (Nat × Nat)) := match P.underlying T with
  | some (.struct fs) => fs.toList.mapM (fun f => (szOf P f.type).map fun s => (f.offset, s)) |>.map List.toArray
  | _ => none
def plainF (P : Program) (f : FuncId) : Bool := match P.funcs[f]? with
  | some fn => !(fn.name == "runtime.NumGoroutine") && !fn.body.isNone
  | none => false

theorem szOf_info {P : Program} {E s : Nat} (h : szOf P E = some s) : ∃ i, P.info? E = some i ∧ i.size = s := by
  simpa [szOf] using h
theorem run_sizeOf {P : Program} {E s : Nat} (h : szOf P E = some s) (w : World) : (sizeOf E).run P w = .ok s w := by
  obtain ⟨i, hi, rfl⟩ := szOf_info h
  simp [sizeOf, typeInfo, hi]
theorem run_zeroValue {P : Program} {E : Nat} {z : Value} (h : zeroOf P E = some z) (w : World) : (zeroValue E).run P w = .ok z w := by
  unfold zeroOf at h
  cases hi : P.info? E with
  | none => simp [hi] at h
  | some i => simp [hi] at h; simp [zeroValue, typeInfo, hi, h]
theorem run_isAgg {P : Program} {E : Nat} {b : Bool} (h : aggOf P E = some b) (w : World) : (isAgg E).run P w = .ok b w := by
  unfold aggOf at h
  cases hu : P.underlying E with
  | none => simp [hu] at h
  | some d =>
    simp [hu] at h
    subst h
    simp only [isAgg, Sem.run_bind, run_underlying hu, Result.andThen_ok]
    cases d <;> rfl
theorem run_callFunc {P : Program} {f : FuncId} (h : plainF P f = true) (args : Array Value) (w : World) : (callFunc f args).run P w = .ok (.enter f args) w := by
  unfold plainF at h
  cases hf : P.funcs[f]? with
  | none => simp [hf] at h
  | some fn =>
    simp only [hf, Bool.and_eq_true, Bool.not_eq_true'] at h
    have h1 : ¬ fn.name = "runtime.NumGoroutine" := by simpa using h.1
    have h2 : ¬ fn.body = none := fun hx => by have := h.2; simp [hx] at this
    simp [callFunc, hf, h1, h2]

/-! ### Addresses -/
def loc (b k : Nat) : Value := .pointer (some ⟨b, k, none⟩)
/-- The address k cells behind the beginning of a slice. -/
def elem (v : Value) (k : Nat) : Value := match v with
  | .slice (some a) _ _ => .pointer (some (a.add k))
  | _ => undef
/-- A slice of n elements. -/
def IsSl (v : Value) (n : Nat) : Prop := ∃ a c, v = .slice a n c ∧ (a = none → n = 0 ∧ c = 0) ∧ n ≤ c

theorem IsSl.some {v : Value} {n : Nat} (h : IsSl v n) {i : Nat} (hi : i < n) : ∃ a c, v = .slice (some a) n c ∧ n ≤ c := by
  obtain ⟨a, c, rfl, h0, hc⟩ := h
  cases a with
  | none => have := (h0 rfl).1; omega
  | some a => exact ⟨a, c, rfl, hc⟩

theorem add_add (a : Addr) (m n : Nat) : (a.add m).add n = a.add (m + n) := by
  unfold Addr.add
  by_cases hm : m = 0 <;> by_cases hn : n = 0 <;> simp [hm, hn, Nat.add_assoc]

theorem loc_add (b k n : Nat) : (⟨b, k, none⟩ : Addr).add n = ⟨b, k + n, none⟩ := by
  unfold Addr.add; split <;> simp_all

/-! ### Resources -/
def Res.cells (b : Nat) (cs : Array Value) (E : TypeId) : Res where
  bl := [b]
  holds w := w.heap[b]? = some (.cells cs E (0, 0))
  lt w k hk h := by rw [List.mem_singleton.1 hk]; exact (Array.getElem?_eq_some_iff.1 h).1
  keep w w' hb h := by rw [hb b (List.mem_singleton.2 rfl)]; exact h

def Res.row (E size : Nat) (v : Value) (n : Nat) (xs : List Value) : Res where
  bl := v.ownBlock.toList
  holds w := w.ownsRow 0 E size v n xs ∧ (∀ u ∈ xs, u.oneCell' = true) ∧ n ≤ 281474976710656
  lt w k hk h := (h.1.lt k (Option.mem_toList.1 hk)).2
  keep w w' hb h := by
    obtain ⟨h, ho⟩ := h
    refine ⟨⟨h.1, ?_⟩, ho⟩
    rcases h.2 with hn | ⟨g, cap, cur, rfl, h0, hg, rest⟩
    · exact .inl hn
    · exact .inr ⟨g, cap, cur, rfl, h0, by rw [hb g (Option.mem_toList.2 rfl)]; exact hg, rest⟩

/-- A sealed slice: n elements of some size; xs: all its cells. -/
def Store.cell (σ : Store) (a : Addr) : Option Value := match σ a.block with
  | some (.cells c _ _) => if a.spot.isSome then none else c[a.off]?
  | _ => none

theorem Sees.cell {σ : Store} {H : List Res} {w : World} (h : Sees σ H w) {a : Addr} {v : Value} (hc : σ.cell a = some v) : w.cell? a = some v := by
  unfold Store.cell at hc
  unfold World.cell?
  cases hb : σ a.block with
  | none => simp [hb] at hc
  | some o => rw [h.1 _ _ hb]; rw [hb] at hc; exact hc

theorem Store.le.cell {σ τ : Store} (h : σ.le τ) {a : Addr} {v : Value} (hc : σ.cell a = some v) : τ.cell a = some v := by
  unfold Store.cell at *
  cases hb : σ a.block with
  | none => simp [hb] at hc
  | some o => rw [h _ _ hb]; rw [hb] at hc; exact hc

structure RV (σ : Store) (size : Nat) (v : Value) (n : Nat) (xs : List Value) : Prop where
  sl : IsSl v n
  len : xs.length = n * size
  cell : ∀ a m c, v = .slice (some a) m c → ∀ j u, xs[j]? = some u → σ.cell (a.add j) = some u
  one : ∀ u ∈ xs, u.oneCell' = true
  big : n ≤ 281474976710656

theorem RV.mono {σ τ : Store} {size : Nat} {v : Value} {n : Nat} {xs : List Value} (h : RV σ size v n xs) (hle : σ.le τ) : RV τ size v n xs :=
  ⟨h.sl, h.len, fun a m c hv j u hj => hle.cell (h.cell a m c hv j u hj), h.one, h.big⟩

theorem RV.nil (σ : Store) (size : Nat) : RV σ size (.slice none 0 0) 0 [] := ⟨⟨none, 0, rfl, fun _ => ⟨rfl, rfl⟩, Nat.le_refl _⟩, by simp, (fun _ _ _ h => by cases h), by simp, Nat.zero_le _⟩

/-- An owned row is a slice. -/
theorem isSl_row {w : World} {E size : Nat} {v : Value} {n : Nat} {xs : List Value} (h : w.ownsRow 0 E size v n xs) : IsSl v n := by
  rcases h.2 with ⟨rfl, rfl⟩ | ⟨g, cap, cur, rfl, _, _, h1, h2, _⟩
  · exact ⟨none, 0, rfl, fun _ => ⟨rfl, rfl⟩, Nat.le_refl _⟩
  · exact ⟨some _, cap, rfl, by simp, h1⟩

/-! ### Operations that only read -/
section opval
variable {P : Program} {n : Nat} {e : Env} {σ : Store} {H : List Res} {o : Oper} {x y : Operand}

theorem OpVal.move (ho : o.op = .move x) : OpVal P n o e σ H (ev e x) := fun w _ => by simp [execOp, ho]
theorem OpVal.assign (ho : o.op = .assign x) : OpVal P n o e σ H (ev e x) := fun w _ => by simp [execOp, ho]

theorem OpVal.pickT {c a b : Operand} {t : Bool} {v : Value} (ho : o.op = .pick c a b) (hc : ev e c = .bool t) (ht : t = true) (hv : ev e a = v) : OpVal P n o e σ H v := fun w _ => by
  subst ht hv; simp [execOp, ho, hc, asBool]
theorem OpVal.pickF {c a b : Operand} {t : Bool} {v : Value} (ho : o.op = .pick c a b) (hc : ev e c = .bool t) (ht : t = false) (hv : ev e b = v) : OpVal P n o e σ H v := fun w _ => by
  subst ht hv; simp [execOp, ho, hc, asBool]
theorem OpVal.pickB {c a b : Operand} {t p q : Bool} (ho : o.op = .pick c a b) (hc : ev e c = .bool t) (ha : ev e a = .bool p) (hb : ev e b = .bool q) : OpVal P n o e σ H (.bool (bif t then p else q)) := fun w _ => by
  cases t <;> simp [execOp, ho, hc, asBool, ha, hb]

theorem run_eqGuard_int (op : BinOp) (t : TypeId) (x y : Operand) (k k' : IntKind) (a b : Int) (w : World) : (eqGuard op t x y (.int k a) (.int k' b)).run P w = .ok () w := by
  cases op <;> simp [eqGuard]

theorem OpVal.bin {op : BinOp} {T T' : TypeId} {k : IntKind} {a b : Int} {v : Value} (ho : o.op = .binOp op T x y T') (hx : ev e x = .int k a) (hy : ev e y = .int k b)
    (hr : ∀ w, (binOp op T (.int k a) (.int k b)).run P w = .ok v w) : OpVal P n o e σ H v := fun w _ => by
  simp [execOp, ho, hx, hy, run_eqGuard_int, hr]

section
variable {T T' : TypeId} {k : IntKind} {a b : Int}
theorem OpVal.addW (ho : o.op = .binOp .add T x y T') (hx : ev e x = .int k a) (hy : ev e y = .int k b) : OpVal P n o e σ H (.int k (k.wrap (a + b))) := .bin ho hx hy fun w => by simp [binOp, Op.intArith]
theorem OpVal.subW (ho : o.op = .binOp .sub T x y T') (hx : ev e x = .int k a) (hy : ev e y = .int k b) : OpVal P n o e σ H (.int k (k.wrap (a - b))) := .bin ho hx hy fun w => by simp [binOp, Op.intArith]
theorem OpVal.mulW (ho : o.op = .binOp .mul T x y T') (hx : ev e x = .int k a) (hy : ev e y = .int k b) : OpVal P n o e σ H (.int k (k.wrap (a * b))) := .bin ho hx hy fun w => by simp [binOp, Op.intArith]
theorem OpVal.lss (ho : o.op = .binOp .lss T x y T') (hx : ev e x = .int k a) (hy : ev e y = .int k b) : OpVal P n o e σ H (.bool (decide (a < b))) := .bin ho hx hy fun w => by simp [binOp, Op.intCmp]
theorem OpVal.leq (ho : o.op = .binOp .leq T x y T') (hx : ev e x = .int k a) (hy : ev e y = .int k b) : OpVal P n o e σ H (.bool (decide (a ≤ b))) := .bin ho hx hy fun w => by simp [binOp, Op.intCmp]
theorem OpVal.gtr (ho : o.op = .binOp .gtr T x y T') (hx : ev e x = .int k a) (hy : ev e y = .int k b) : OpVal P n o e σ H (.bool (decide (b < a))) := .bin ho hx hy fun w => by simp [binOp, Op.intCmp]
theorem OpVal.geq (ho : o.op = .binOp .geq T x y T') (hx : ev e x = .int k a) (hy : ev e y = .int k b) : OpVal P n o e σ H (.bool (decide (b ≤ a))) := .bin ho hx hy fun w => by simp [binOp, Op.intCmp]
theorem OpVal.eql (ho : o.op = .binOp .eql T x y T') (hx : ev e x = .int k a) (hy : ev e y = .int k b) : OpVal P n o e σ H (.bool (decide (a = b))) := .bin ho hx hy fun w => by
  simp [binOp, Op.intCmp, BEq.beq]
theorem OpVal.neq (ho : o.op = .binOp .neq T x y T') (hx : ev e x = .int k a) (hy : ev e y = .int k b) : OpVal P n o e σ H (.bool (decide (a ≠ b))) := .bin ho hx hy fun w => by
  simp [binOp, Op.intCmp, bne, BEq.beq]
end

theorem wrap64_of {a : Int} (h0 : -9223372036854775808 ≤ a) (h1 : a ≤ 9223372036854775807) : IntKind.i64.wrap a = a := by rw [IntKind.wrap_i64]; omega

section
variable {T T' : TypeId} {a b : Int}
theorem OpVal.add (ho : o.op = .binOp .add T x y T') (hx : ev e x = .int .i64 a) (hy : ev e y = .int .i64 b) (h0 : -9223372036854775808 ≤ a + b) (h1 : a + b ≤ 9223372036854775807) : OpVal P n o e σ H (.int .i64 (a + b)) := by
  have := OpVal.addW (P := P) (n := n) (σ := σ) (H := H) ho hx hy; rwa [wrap64_of h0 h1] at this
theorem OpVal.sub (ho : o.op = .binOp .sub T x y T') (hx : ev e x = .int .i64 a) (hy : ev e y = .int .i64 b) (h0 : -9223372036854775808 ≤ a - b) (h1 : a - b ≤ 9223372036854775807) : OpVal P n o e σ H (.int .i64 (a - b)) := by
  have := OpVal.subW (P := P) (n := n) (σ := σ) (H := H) ho hx hy; rwa [wrap64_of h0 h1] at this
theorem OpVal.mul (ho : o.op = .binOp .mul T x y T') (hx : ev e x = .int .i64 a) (hy : ev e y = .int .i64 b) (h0 : -9223372036854775808 ≤ a * b) (h1 : a * b ≤ 9223372036854775807) : OpVal P n o e σ H (.int .i64 (a * b)) := by
  have := OpVal.mulW (P := P) (n := n) (σ := σ) (H := H) ho hx hy; rwa [wrap64_of h0 h1] at this
/-- The counter: one more. -/
theorem OpVal.succ {k : Nat} (ho : o.op = .binOp .add T x y T') (hx : ev e x = .int .i64 (k : Nat)) (hy : ev e y = .int .i64 1) (h1 : k < 9223372036854775807) : OpVal P n o e σ H (.int .i64 ((k + 1 : Nat) : Int)) := by
  have := OpVal.add (P := P) (n := n) (σ := σ) (H := H) ho hx hy (by omega) (by omega)
  simpa using this
end

theorem OpVal.not {T : TypeId} {b : Bool} (ho : o.op = .unOp .not T x) (hx : ev e x = .bool b) : OpVal P n o e σ H (.bool (!b)) := fun w _ => by
  simp [execOp, ho, hx, Op.unary]
theorem OpVal.notD {T : TypeId} {p : Prop} [Decidable p] (ho : o.op = .unOp .not T x) (hx : ev e x = .bool (decide p)) : OpVal P n o e σ H (.bool (decide (¬ p))) := by
  have := OpVal.not (P := P) (n := n) (σ := σ) (H := H) ho hx
  simpa using this

theorem OpVal.extract {i : Nat} {vs : Array Value} {v : Value} (ho : o.op = .extract x i) (hx : ev e x = .tuple vs) (hv : vs[i]? = some v) : OpVal P n o e σ H v := fun w _ => by
  simp [execOp, ho, hx, Instr.extract, hv]

theorem OpVal.nilCheck {a : Addr} (ho : o.op = .nilCheck x) (hx : ev e x = .pointer (some a)) : OpVal P n o e σ H (.pointer (some a)) := fun w _ => by
  simp [execOp, ho, hx]

theorem OpVal.makeFunc {f : FuncId} {first cap : Array Operand} (ho : o.op = .makeFunc (.func f) first cap) : OpVal P n o e σ H (.func (.func f) (first.map (ev e)) (cap.map (ev e))) := fun w _ => by
  simp [execOp, ho, Instr.makeFunc]

theorem OpVal.lenSl {t E : TypeId} {v : Value} {m : Nat} (ho : o.op = .call { callee := .builtin .len, args := #[x], argTypes := #[t] }) (ht : P.underlying t = some (.slice E)) (hx : ev e x = v) (hs : IsSl v m) :
    OpVal P n o e σ H (.int .i64 (m : Nat)) := fun w _ => by
  obtain ⟨a, c, rfl, _⟩ := hs
  simp [execOp, ho, resolve, invoke, builtin, hx, Builtin.len_, run_underlying ht, goInt]

theorem OpVal.lenStr {t : TypeId} {s : ByteArray} (ho : o.op = .call { callee := .builtin .len, args := #[x], argTypes := #[t] }) (ht : P.underlying t = some .string) (hx : ev e x = .string s) :
    OpVal P n o e σ H (.int .i64 (s.size : Nat)) := fun w _ => by
  simp [execOp, ho, resolve, invoke, builtin, hx, Builtin.len_, run_underlying ht, goInt]

theorem foOf_spec {T i off : Nat} (h : foOf P T i = some off) : ∃ fs f s, P.underlying T = some (.struct fs) ∧ fs[i]? = some f ∧ szOf P f.type = some s ∧ s ≠ 0 ∧ f.offset = off := by
  unfold foOf at h
  split at h
  · rename_i fs hu
    cases hf : fs[i]? with
    | none => simp [hf] at h
    | some f =>
      cases hs : szOf P f.type with
      | none => simp [hf, hs] at h
      | some s => simp [hf, hs] at h; exact ⟨fs, f, s, hu, hf, hs, h.1, h.2⟩
  · cases h

theorem OpVal.fieldAddr {T i off : Nat} {a : Addr} (ho : o.op = .fieldAddr T x i) (hf : foOf P T i = some off) (hx : ev e x = .pointer (some a)) : OpVal P n o e σ H (.pointer (some (a.add off))) := fun w _ => by
  obtain ⟨fs, f, s, hu, hfi, hs, h0, rfl⟩ := foOf_spec hf
  simp [execOp, ho, hx, Instr.fieldAt, run_underlying hu, hfi, Instr.sureAddr, fieldPlace, run_sizeOf hs, h0]

theorem OpVal.fieldLoc {T i off b k : Nat} (ho : o.op = .fieldAddr T x i) (hf : foOf P T i = some off) (hx : ev e x = loc b k) : OpVal P n o e σ H (loc b (k + off)) := by
  have := OpVal.fieldAddr (P := P) (n := n) (σ := σ) (H := H) ho hf hx
  rwa [loc_add] at this

theorem elem_some {v : Value} {n k i : Nat} (h : IsSl v n) (hi : i < n) : ∃ a, elem v k = .pointer (some a) ∧ (∃ b c, v = .slice (some b) n c ∧ a = b.add k) := by
  obtain ⟨a, c, rfl, _⟩ := h.some hi
  exact ⟨_, rfl, a, c, rfl, rfl⟩

theorem OpVal.fieldElem {T i off m k : Nat} {v : Value} (ho : o.op = .fieldAddr T x i) (hf : foOf P T i = some off) (hx : ev e x = elem v k) (hs : IsSl v m) (hj : 0 < m) : OpVal P n o e σ H (elem v (k + off)) := by
  obtain ⟨a, c, rfl, _⟩ := hs.some hj
  have := OpVal.fieldAddr (P := P) (n := n) (σ := σ) (H := H) ho hf hx
  rwa [add_add] at this

/-- The address of a slice's element. -/
theorem OpVal.index {T E size m : Nat} {k : IntKind} {i : Int} {v : Value} (ho : o.op = .indexAddr T x y) (ht : P.underlying T = some (.slice E)) (hz : szOf P E = some size) (hx : ev e x = v) (hy : ev e y = .int k i)
    (hs : IsSl v m) (h0 : 0 ≤ i) (h1 : i < m) : OpVal P n o e σ H (elem v (i.toNat * size)) := fun w _ => by
  obtain ⟨a, c, rfl, _⟩ := hs.some (i := i.toNat) (by omega)
  simp [execOp, ho, hx, hy, Instr.indexAt, asIntOf, run_underlying ht, run_sizeOf hz, h0, h1, elem]

theorem OpVal.indexN {T E size m : Nat} {k : IntKind} {i : Nat} {v : Value} (ho : o.op = .indexAddr T x y) (ht : P.underlying T = some (.slice E)) (hz : szOf P E = some size) (hx : ev e x = v) (hy : ev e y = .int k (i : Nat))
    (hs : IsSl v m) (h1 : i < m) : OpVal P n o e σ H (elem v (i * size)) := by
  have := OpVal.index (P := P) (n := n) (σ := σ) (H := H) ho ht hz hx hy hs (by omega) (by omega)
  simpa using this

/-- The address of an array's element. -/
theorem OpVal.indexArr {T E size m b q : Nat} {k : IntKind} {i : Int} (ho : o.op = .indexAddr T x y) (ht : P.underlying T = some (.array m E)) (hz : szOf P E = some size) (hx : ev e x = loc b q) (hy : ev e y = .int k i)
    (h0 : 0 ≤ i) (h1 : i < m) : OpVal P n o e σ H (loc b (q + i.toNat * size)) := fun w _ => by
  simp [execOp, ho, hx, hy, Instr.indexAt, asIntOf, run_underlying ht, run_sizeOf hz, h0, h1, loc, Instr.sureAddr, loc_add]

/-- A byte of a string. -/
theorem OpVal.indexStr {T : Nat} {k : IntKind} {i : Int} {s : ByteArray} {u : UInt8} (ho : o.op = .index T x y) (ht : P.underlying T = some .string) (hx : ev e x = .string s) (hy : ev e y = .int k i)
    (h0 : 0 ≤ i) (hu : s.data.toList[i.toNat]? = some u) : OpVal P n o e σ H (.int .u8 (u.toNat : Nat)) := fun w _ => by
  have hs : s[i.toNat]? = some u := by
    obtain ⟨h, hu'⟩ := List.getElem?_eq_some_iff.1 hu
    have hlt : i.toNat < s.size := h
    rw [getElem?_pos s i.toNat hlt]
    rw [← hu']; rfl
  simp [execOp, ho, hx, hy, Instr.index, asIntOf, run_underlying ht, h0, hs]

theorem OpVal.indexStrN {T : Nat} {k : IntKind} {i : Nat} {s : ByteArray} {u : UInt8} (ho : o.op = .index T x y) (ht : P.underlying T = some .string) (hx : ev e x = .string s) (hy : ev e y = .int k (i : Nat))
    (hu : s.data.toList[i]? = some u) : OpVal P n o e σ H (.int .u8 (u.toNat : Nat)) :=
  OpVal.indexStr ho ht hx hy (by omega) (by simpa using hu)

/-- Loads. -/
theorem run_loadVar_one {T : TypeId} (hA : aggOf P T = some false) {a : Addr} {u : Value} {w : World} (hc : w.cell? a = some u) : (loadVar T a).run P w = .ok u w := by
  simp [loadVar, run_isAgg hA, hc]
theorem run_loadVar_agg {T s : TypeId} (hA : aggOf P T = some true) (hz : szOf P T = some s) {a : Addr} {us : List Value} {w : World} (hl : us.length = s) (hc : ∀ j u, us[j]? = some u → w.cell? (a.add j) = some u) :
    (loadVar T a).run P w = .ok (.agg us.toArray) w := by
  have := run_loadCells_list (P := P) w a us hc
  subst hl
  simp [loadVar, run_isAgg hA, run_sizeOf hz, this]

theorem cell_of_cells {w : World} {b : Nat} {cs : Array Value} {E k : Nat} {u : Value} (h : w.heap[b]? = some (.cells cs E (0, 0))) (hk : cs[k]? = some u) : w.cell? ⟨b, k, none⟩ = some u := by
  simp [World.cell?, h, hk]

theorem OpVal.loadLoc {T b k E i : Nat} {cs : Array Value} {u : Value} (ho : o.op = .load T x) (hA : aggOf P T = some false) (hx : ev e x = loc b k) (hi : H[i]? = some (Res.cells b cs E)) (hk : cs[k]? = some u) : OpVal P n o e σ H u := fun w hw => by
  have hm : Res.cells b cs E ∈ H := List.mem_of_getElem? hi
  have hc := cell_of_cells (hw.2 _ hm) hk
  simp [execOp, ho, hx, Instr.loadAt, Instr.sureAddr, loc, run_loadVar_one hA hc]

theorem OpVal.loadLocA {T b k E i s : Nat} {cs : Array Value} {us : List Value} (ho : o.op = .load T x) (hA : aggOf P T = some true) (hz : szOf P T = some s) (hx : ev e x = loc b k) (hi : H[i]? = some (Res.cells b cs E))
    (hl : us.length = s) (hk : (cs.toList.drop k).take s = us) : OpVal P n o e σ H (.agg us.toArray) := fun w hw => by
  have hm : Res.cells b cs E ∈ H := List.mem_of_getElem? hi
  have hh := hw.2 _ hm
  have hc : ∀ j u, us[j]? = some u → w.cell? ((⟨b, k, none⟩ : Addr).add j) = some u := fun j u hj => by
    rw [loc_add]
    refine cell_of_cells hh ?_
    rw [← hk, List.getElem?_take] at hj
    split at hj
    · simpa [List.getElem?_drop] using hj
    · cases hj
  simp [execOp, ho, hx, Instr.loadAt, Instr.sureAddr, loc, run_loadVar_agg hA hz hl hc]

theorem OpVal.loadEl {T k size m : Nat} {v u : Value} {xs : List Value} (ho : o.op = .load T x) (hA : aggOf P T = some false) (hx : ev e x = elem v k) (hR : RV σ size v m xs) (hk : xs[k]? = some u) : OpVal P n o e σ H u := fun w hw => by
  have hlt : k < xs.length := (List.getElem?_eq_some_iff.1 hk).1
  have hm : 0 < m := by rw [hR.len] at hlt; exact Nat.pos_of_ne_zero fun h => by simp [h] at hlt
  obtain ⟨a, c, rfl, _⟩ := hR.sl.some hm
  have hc := hw.cell (hR.cell a m c rfl k u hk)
  simp [execOp, ho, hx, Instr.loadAt, Instr.sureAddr, elem, run_loadVar_one hA hc]

theorem OpVal.loadElA {T k size m s : Nat} {v : Value} {xs us : List Value} (ho : o.op = .load T x) (hA : aggOf P T = some true) (hz : szOf P T = some s) (hx : ev e x = elem v k) (hR : RV σ size v m xs) (hs : 0 < s)
    (hl : us.length = s) (hk : (xs.drop k).take s = us) : OpVal P n o e σ H (.agg us.toArray) := fun w hw => by
  have hlt : k < xs.length := by
    rcases Nat.lt_or_ge k xs.length with h | h
    · exact h
    · rw [List.drop_eq_nil_of_le h] at hk; simp at hk; subst hk; simp at hl; omega
  have hm : 0 < m := by rw [hR.len] at hlt; exact Nat.pos_of_ne_zero fun h => by simp [h] at hlt
  obtain ⟨a, c, rfl, _⟩ := hR.sl.some hm
  have hc : ∀ j u, us[j]? = some u → w.cell? ((a.add k).add j) = some u := fun j u hj => by
    rw [add_add]
    refine hw.cell (hR.cell a m c rfl (k + j) u ?_)
    rw [← hk, List.getElem?_take] at hj
    split at hj
    · simpa [List.getElem?_drop] using hj
    · cases hj
  simp [execOp, ho, hx, Instr.loadAt, Instr.sureAddr, elem, run_loadVar_agg hA hz hl hc]

theorem OpVal.loadRow {T k E size m i : Nat} {v u : Value} {xs : List Value} (ho : o.op = .load T x) (hA : aggOf P T = some false) (hx : ev e x = elem v k) (hi : H[i]? = some (Res.row E size v m xs)) (hk : xs[k]? = some u) : OpVal P n o e σ H u := fun w hw => by
  have hm' : Res.row E size v m xs ∈ H := List.mem_of_getElem? hi
  have hR : w.ownsRow 0 E size v m xs := (hw.2 _ hm').1
  have hlt : k < xs.length := (List.getElem?_eq_some_iff.1 hk).1
  have hm : 0 < m := by rw [hR.1] at hlt; exact Nat.pos_of_ne_zero fun h => by simp [h] at hlt
  rcases hR.2 with ⟨_, h0⟩ | ⟨g, cap, cur, rfl, _⟩
  · omega
  · have hc := hR.cells (g := g) rfl k u hk
    simp [execOp, ho, hx, Instr.loadAt, Instr.sureAddr, elem, run_loadVar_one hA hc]

theorem OpVal.loadRowA {T k E size m i s : Nat} {v : Value} {xs us : List Value} (ho : o.op = .load T x) (hA : aggOf P T = some true) (hz : szOf P T = some s) (hx : ev e x = elem v k) (hi : H[i]? = some (Res.row E size v m xs)) (hs : 0 < s)
    (hl : us.length = s) (hk : (xs.drop k).take s = us) : OpVal P n o e σ H (.agg us.toArray) := fun w hw => by
  have hm' : Res.row E size v m xs ∈ H := List.mem_of_getElem? hi
  have hR : w.ownsRow 0 E size v m xs := (hw.2 _ hm').1
  have hlt : k < xs.length := by
    rcases Nat.lt_or_ge k xs.length with h | h
    · exact h
    · rw [List.drop_eq_nil_of_le h] at hk; simp at hk; subst hk; simp at hl; omega
  have hm : 0 < m := by rw [hR.1] at hlt; exact Nat.pos_of_ne_zero fun h => by simp [h] at hlt
  rcases hR.2 with ⟨_, h0⟩ | ⟨g, cap, cur, rfl, _⟩
  · omega
  · have hc : ∀ j u, us[j]? = some u → w.cell? (((⟨g, 0, none⟩ : Addr).add k).add j) = some u := fun j u hj => by
      rw [add_add]
      refine hR.cells (g := g) rfl (k + j) u ?_
      rw [← hk, List.getElem?_take] at hj
      split at hj
      · simpa [List.getElem?_drop] using hj
      · cases hj
    simp [execOp, ho, hx, Instr.loadAt, Instr.sureAddr, elem, run_loadVar_agg hA hz hl hc]

/-- A struct out of its parts. -/
theorem run_mapM_places {fs : List Field} {pl : List (Nat × Nat)} (h : fs.mapM (fun f => (szOf P f.type).map fun s => (f.offset, s)) = some pl) (w : World) :
    (fs.mapM (m := Sem) fun f => Prod.mk f.offset <$> sizeOf f.type).run P w = .ok pl w := by
  induction fs generalizing pl with
  | nil => simp at h; subst h; simp
  | cons f fs ih =>
    simp only [List.mapM_cons] at h ⊢
    cases hs : szOf P f.type with
    | none => simp [hs] at h
    | some s =>
      simp [hs] at h
      cases ht : fs.mapM (fun f => (szOf P f.type).map fun s => (f.offset, s)) with
      | none => rw [ht] at h; simp at h
      | some q =>
        rw [ht] at h; simp at h; subst h
        simp [run_sizeOf hs, ih ht]

theorem OpVal.build {T : TypeId} {parts : Array (Nat × Operand)} {pl : Array (Nat × Nat)} {z : Value} {cs : Array Value} (ho : o.op = .build T parts) (hp : plOf P T = some pl) (hz : zeroOf P T = some z)
    (hf : Instr.fill (pl[·]?) z.cells (parts.toList.map fun x => (x.1, ev e x.2)) = some cs) : OpVal P n o e σ H (.agg cs) := fun w _ => by
  unfold plOf at hp
  split at hp
  · rename_i fs hu
    cases hm : fs.toList.mapM (fun f => (szOf P f.type).map fun s => (f.offset, s)) with
    | none => simp [hm] at hp
    | some q =>
      simp [hm] at hp; subst hp
      have hr := run_mapM_places (P := P) hm w
      simp only [execOp, ho, Sem.run_bind, Instr.build, run_zeroValue hz, Result.andThen_ok, run_underlying hu]
      rw [Array.mapM_eq_mapM_toList]
      simp only [List.getElem?_toArray] at hf
      simp [hr, hf]
  · cases hp

theorem OpVal.buildArr {T E s m : TypeId} {parts : Array (Nat × Operand)} {z : Value} {cs : Array Value} (ho : o.op = .build T parts) (hu : P.underlying T = some (.array m E)) (hs : szOf P E = some s) (hz : zeroOf P T = some z)
    (hf : Instr.fill (fun i => some (i * s, s)) z.cells (parts.toList.map fun x => (x.1, ev e x.2)) = some cs) : OpVal P n o e σ H (.agg cs) := fun w _ => by
  simp [execOp, ho, Instr.build, run_zeroValue hz, run_underlying hu, run_sizeOf hs, hf]

/-- A part of a struct value. -/
theorem OpVal.convInt {S T : TypeId} {k k' : IntKind} {a : Int} {d : TypeDesc} (ho : o.op = .convert S T x) (hs : P.underlying S = some d) (ht : P.underlying T = some (.int k')) (hx : ev e x = .int k a) : OpVal P n o e σ H (.int k' (k'.wrap a)) := fun w _ => by
  simp [execOp, ho, hx, convert, run_underlying hs, run_underlying ht, Conv.intToInt]

end opval
end Go.E
