/- Equality of structs, structs as keys, unsigned numbers. Plain lemmas over any program; no condition. -/
import Derived.Test.YtcidppnlhhkhhaaDec6
set_option linter.unusedVariables false
set_option linter.unusedSimpArgs false
namespace Go.E
open Go

/-! ### Structs compared -/
abbrev FT := Bool × TypeId × Nat
def fieldsB (P : Program) (T : TypeId) : List FT := (P.fieldsOf T).toList.map fun f => (f.name == "_", f.type, f.offset)
/-- Equality told type by type. -/
def EqAt (P : Program) (n : Nat) (T : TypeId) (u v : Value) (b : Bool) : Prop := ∀ d w, (Op.equalIn (d + n) T u v).run P w = .ok b w
inductive EqC (P : Program) (n : Nat) (xs ys : Array Value) : List FT → Bool → Prop
  | nil : EqC P n xs ys [] true
  | one {t o : Nat} {ts : List FT} {u v : Value} {b q : Bool} (hA : aggOf P t = some false) (hu : xs[o]? = some u) (hv : ys[o]? = some v) (he : EqAt P n t u v b) (k : EqC P n xs ys ts q) : EqC P n xs ys ((false, t, o) :: ts) (b && q)
  | agg {t o s : Nat} {ts : List FT} {us vs : Array Value} {b q : Bool} (hA : aggOf P t = some true) (hz : szOf P t = some s) (hu : xs.extract o (o + s) = us) (hv : ys.extract o (o + s) = vs) (he : EqAt P n t (.agg us) (.agg vs) b) (k : EqC P n xs ys ts q) : EqC P n xs ys ((false, t, o) :: ts) (b && q)
theorem EqAt.up {P : Program} {n m : Nat} {T : TypeId} {u v : Value} {b : Bool} (h : EqAt P n T u v b) (hm : n ≤ m) : EqAt P m T u v b := fun d w => by
  have := h (d + (m - n)) w
  rwa [show d + (m - n) + n = d + m by omega] at this
theorem EqC.run {P : Program} {n : Nat} {xs ys : Array Value} {ts : List FT} {q : Bool} (h : EqC P n xs ys ts q) : ∀ (fs : List Field), (fs.map fun f => (f.name == "_", f.type, f.offset)) = ts → ∀ d w, (Op.eqFields (d + n) xs ys fs).run P w = .ok q w := by
  induction h with
  | nil => intro fs hf d w; have : fs = [] := by simpa using hf
           subst this; simp [Op.eqFields]
  | @one t o ts u v b q hA hu hv he k ih =>
    intro fs hf d w
    cases fs with
    | nil => simp at hf
    | cons f fs =>
      simp only [List.map_cons, List.cons.injEq, Prod.mk.injEq] at hf
      obtain ⟨⟨h1, h2, h3⟩, h4⟩ := hf
      have h1 : f.name ≠ "_" := by simpa using h1
      simp only [Op.eqFields, h1, h2, h3, ne_eq, not_false_eq_true, if_true, Sem.run_bind, run_part_one hA hu, run_part_one hA hv, Result.andThen_ok, he d w]
      cases b
      · simp
      · simp [ih fs h4 d w]
  | @agg t o s ts us vs b q hA hz hu hv he k ih =>
    intro fs hf d w
    cases fs with
    | nil => simp at hf
    | cons f fs =>
      simp only [List.map_cons, List.cons.injEq, Prod.mk.injEq] at hf
      obtain ⟨⟨h1, h2, h3⟩, h4⟩ := hf
      have h1 : f.name ≠ "_" := by simpa using h1
      simp only [Op.eqFields, h1, h2, h3, ne_eq, not_false_eq_true, if_true, Sem.run_bind, run_part_agg hA hz, hu, hv, Result.andThen_ok, he d w]
      cases b
      · simp
      · simp [ih fs h4 d w]
theorem EqAt.struct {P : Program} {n : Nat} {T : TypeId} {xs ys : Array Value} {ts : List FT} {q : Bool} (hu : P.underlying T = some (.struct (P.fieldsOf T))) (hp : P.stoodInHeld T = false) (hf : fieldsB P T = ts) (h : EqC P n xs ys ts q) : EqAt P (n + 1) T (.agg xs) (.agg ys) q := fun d w => by
  rw [← Nat.add_assoc, run_equalIn_struct w (d + n) T xs ys hu hp]
  exact h.run _ hf d w
theorem EqAt.of {P : Program} {n : Nat} {T : TypeId} {u v : Value} {b b' : Bool} (h : EqAt P n T u v b) (e : b = b') : EqAt P n T u v b' := e ▸ h
theorem EqAt.int {P : Program} {T : TypeId} {k : IntKind} (hT : P.underlying T = some (.int k)) (a b : Int) : EqAt P 1 T (.int k a) (.int k b) (decide (a = b)) := fun d w => by
  rw [run_equalIn_int w d T k k a b hT]; rfl
theorem EqAt.u8 {P : Program} {T : TypeId} (hT : P.underlying T = some (.int .u8)) (a b : UInt8) : EqAt P 1 T (.int .u8 (a.toNat : Nat)) (.int .u8 (b.toNat : Nat)) (decide (a = b)) := (EqAt.int hT _ _).of (by
  rw [decide_eq_decide]
  constructor
  · intro h; exact UInt8.toNat_inj.1 (by omega)
  · rintro rfl; rfl)
theorem EqAt.bool {P : Program} {T : TypeId} (hT : P.underlying T = some .bool) (a b : Bool) : EqAt P 1 T (.bool a) (.bool b) (decide (a = b)) := fun d w => by
  rw [run_equalIn_bool w d T a b hT]; cases a <;> cases b <;> rfl
theorem EqAt.str {P : Program} {T : TypeId} (hT : P.underlying T = some .string) (a b : List UInt8) : EqAt P 1 T (.string (bs a)) (.string (bs b)) (decide (a = b)) := fun d w => by
  rw [run_equalIn_string w d T (bs a) (bs b) hT, bs_beq]
theorem EqAt.set {P : Program} {T E : TypeId} (hT : P.underlying T = some (.array 4 E)) (hE : P.underlying E = some (.int .u64)) (hA : aggOf P E = some false) (hz : szOf P E = some 1) (a b : BSet) : EqAt P 2 T (.agg (setA a)) (.agg (setA b)) (decide (a = b)) := fun d w => by
  have h := run_eqArr4 (P := P) (k := .u64) d hT hE hA hz (a.a : Nat) (a.b : Nat) (a.c : Nat) (a.d : Nat) (b.a : Nat) (b.b : Nat) (b.c : Nat) (b.d : Nat) w
  rw [show decide (a = b) = decide (((a.a : Nat) : Int) = (b.a : Nat) ∧ ((a.b : Nat) : Int) = (b.b : Nat) ∧ ((a.c : Nat) : Int) = (b.c : Nat) ∧ ((a.d : Nat) : Int) = (b.d : Nat)) from by rw [decide_eq_decide]; exact BSet.eq_iff a b]
  exact h
section
variable {P : Program} {n m : Nat} {e : Env} {σ : Store} {H : List Res} {o : Oper} {x y : Operand} {T T' : TypeId} {xs ys : Array Value} {p : Prop} [Decidable p]
theorem OpVal.eqlSt (ho : o.op = .binOp .eql T x y T') (hx : ev e x = .agg xs) (hy : ev e y = .agg ys) (hg : P.eqGuardType P.depth T = false) (h : EqAt P m T (.agg xs) (.agg ys) (decide p)) (hm : Nat.ble m 10000 = true) : OpVal P n o e σ H (.bool (decide p)) := fun w _ => by
  have hm := Nat.le_of_ble_eq_true hm
  have h1 := h (10000 - m) w
  rw [Nat.sub_add_cancel hm] at h1
  simp only [execOp, ho, hx, hy, Sem.run_bind, run_eqGuard_agg _ _ _ _ _ _ _ hg, Result.andThen_ok]
  rw [run_eql_agg' (by simp) h1 rfl]; rfl
theorem OpVal.neqSt (ho : o.op = .binOp .neq T x y T') (hx : ev e x = .agg xs) (hy : ev e y = .agg ys) (hg : P.eqGuardType P.depth T = false) (h : EqAt P m T (.agg xs) (.agg ys) (decide p)) (hm : Nat.ble m 10000 = true) : OpVal P n o e σ H (.bool (decide (¬ p))) := fun w _ => by
  have hm := Nat.le_of_ble_eq_true hm
  have h1 := h (10000 - m) w
  rw [Nat.sub_add_cancel hm] at h1
  simp only [execOp, ho, hx, hy, Sem.run_bind, run_eqGuard_agg _ _ _ _ _ _ _ hg, Result.andThen_ok, decide_not]
  rw [run_neq_agg' (by simp) h1 rfl]; rfl
end
/-! ### Structs as keys -/
def CkAt (P : Program) (n : Nat) (T : TypeId) (v : Value) : Prop := ∀ d c w, (Instr.checkKey c (d + n) T v).run P w = .ok () w
inductive CkC (P : Program) (n : Nat) (xs : Array Value) : List FT → Prop
  | nil : CkC P n xs []
  | one {t o : Nat} {ts : List FT} {u : Value} (hA : aggOf P t = some false) (hu : xs[o]? = some u) (he : CkAt P n t u) (k : CkC P n xs ts) : CkC P n xs ((false, t, o) :: ts)
  | agg {t o s : Nat} {ts : List FT} {us : Array Value} (hA : aggOf P t = some true) (hz : szOf P t = some s) (hu : xs.extract o (o + s) = us) (he : CkAt P n t (.agg us)) (k : CkC P n xs ts) : CkC P n xs ((false, t, o) :: ts)
theorem CkAt.up {P : Program} {n m : Nat} {T : TypeId} {u : Value} (h : CkAt P n T u) (hm : n ≤ m) : CkAt P m T u := fun d c w => by
  have := h (d + (m - n)) c w
  rwa [show d + (m - n) + n = d + m by omega] at this
theorem CkAt.int {P : Program} {T : TypeId} {k : IntKind} (hT : P.underlying T = some (.int k)) (a : Int) : CkAt P 1 T (.int k a) := fun d c w => by simp [Instr.checkKey, run_underlying hT]
theorem CkAt.bool {P : Program} {T : TypeId} (hT : P.underlying T = some .bool) (a : Bool) : CkAt P 1 T (.bool a) := fun d c w => by simp [Instr.checkKey, run_underlying hT]
theorem CkAt.str {P : Program} {T : TypeId} (hT : P.underlying T = some .string) (a : ByteArray) : CkAt P 1 T (.string a) := fun d c w => by simp [Instr.checkKey, run_underlying hT]
theorem run_forIn_unit {P : Program} {α : Type} {w : World} (f : α → PUnit → Sem (ForInStep PUnit)) : ∀ (l : List α), (∀ a ∈ l, (f a PUnit.unit).run P w = .ok (.yield PUnit.unit) w) → (forIn l PUnit.unit f).run P w = .ok PUnit.unit w
  | [], _ => by simp
  | a :: l, h => by
    rw [List.forIn_cons, Sem.run_bind, h a (List.mem_cons_self ..), Result.andThen_ok]
    exact run_forIn_unit f l fun b hb => h b (List.mem_cons_of_mem _ hb)
theorem CkAt.set {P : Program} {T E : TypeId} (hT : P.underlying T = some (.array 4 E)) (hE : P.underlying E = some (.int .u64)) (hA : aggOf P E = some false) (hz : szOf P E = some 1) (s : BSet) : CkAt P 2 T (.agg (setA s)) := fun d c w => by
  have h0 : ∀ a, (Instr.checkKey c (d + 1) E (.int .u64 a)).run P w = .ok () w := fun a => CkAt.int hE a d c w
  rw [Instr.checkKey]
  simp only [Sem.run_bind, run_underlying hT, Result.andThen_ok, Std.Legacy.Range.forIn_eq_forIn_range', Std.Legacy.Range.size, Nat.sub_zero, Nat.add_sub_cancel, Nat.div_one]
  rw [run_forIn_unit]
  · rfl
  intro i hi
  have hi4 : i < 4 := by
    have := List.mem_range'.1 hi
    omega
  have hp : (part E (setA s) i).run P w = .ok (.int .u64 (s.word i : Nat)) w := run_part_one hA (setA_get s hi4) w
  simp only [Sem.run_bind, run_sizeOf hz, Result.andThen_ok, Nat.mul_one, hp, h0, Sem.run_pure]
theorem CkC.all {P : Program} {n : Nat} {xs : Array Value} {ts : List FT} (h : CkC P n xs ts) : ∀ (fs : List Field), (fs.map fun f => (f.name == "_", f.type, f.offset)) = ts → ∀ f ∈ fs, f.name ≠ "_" ∧ ∃ v, (∀ w, (part f.type xs f.offset).run P w = .ok v w) ∧ CkAt P n f.type v := by
  induction h with
  | nil => intro fs hf; have : fs = [] := by simpa using hf
           subst this; simp
  | @one t o ts u hA hu he k ih =>
    intro fs hf
    cases fs with
    | nil => simp
    | cons f fs =>
      simp only [List.map_cons, List.cons.injEq, Prod.mk.injEq] at hf
      obtain ⟨⟨h1, h2, h3⟩, h4⟩ := hf
      intro g hg
      rcases List.mem_cons.1 hg with rfl | hg
      · exact ⟨by simpa using h1, u, fun w => by rw [h2, h3]; exact run_part_one hA hu w, by rw [h2]; exact he⟩
      · exact ih fs h4 g hg
  | @agg t o s ts us hA hz hu he k ih =>
    intro fs hf
    cases fs with
    | nil => simp
    | cons f fs =>
      simp only [List.map_cons, List.cons.injEq, Prod.mk.injEq] at hf
      obtain ⟨⟨h1, h2, h3⟩, h4⟩ := hf
      intro g hg
      rcases List.mem_cons.1 hg with rfl | hg
      · exact ⟨by simpa using h1, _, fun w => by rw [h2, h3, run_part_agg hA hz, hu], by rw [h2]; exact he⟩
      · exact ih fs h4 g hg
theorem CkAt.struct {P : Program} {n : Nat} {T : TypeId} {xs : Array Value} {ts : List FT} (hu : P.underlying T = some (.struct (P.fieldsOf T))) (hf : fieldsB P T = ts) (h : CkC P n xs ts) : CkAt P (n + 1) T (.agg xs) := fun d c w => by
  have := h.all _ hf
  rw [← Nat.add_assoc, Instr.checkKey]
  simp only [Sem.run_bind, run_underlying hu, Result.andThen_ok]
  rw [← Array.forIn_toList, run_forIn_unit]
  · rfl
  intro f hf
  obtain ⟨h1, v, h2, h3⟩ := this f hf
  simp only [h1, ne_eq, not_false_eq_true, if_true, Sem.run_bind, h2, Result.andThen_ok, h3 d c w, Sem.run_pure]
def Bits (v : Value) : Prop := ∀ n, Instr.sameBits n v v = true
theorem sameBits_agg {cs : Array Value} (h : ∀ u ∈ cs.toList, Bits u) (n : Nat) : Instr.sameBits (n + 1) (.agg cs) (.agg cs) = true := by
  rw [Instr.sameBits]
  simp only [beq_self_eq_true, Bool.true_and, List.all_eq_true]
  rintro ⟨a, b⟩ hab
  have h1 := List.of_mem_zip hab
  have h2 : a = b := by
    obtain ⟨i, hi⟩ := List.mem_iff_getElem?.1 hab
    rw [List.getElem?_zip_eq_some] at hi
    exact Option.some.inj (hi.1.symm.trans hi.2)
  subst h2
  exact h a h1.1 n
theorem Bits.int (k : IntKind) (a : Int) : Bits (.int k a) := fun n => by cases n <;> (rw [Instr.sameBits]; simp)
theorem Bits.bool (a : Bool) : Bits (.bool a) := fun n => by cases n <;> (rw [Instr.sameBits]; simp)
theorem Bits.str (a : ByteArray) : Bits (.string a) := fun n => by cases n <;> (rw [Instr.sameBits]; exact (MapKept.bytes_beq a a).2 rfl)
theorem KeyL.struct {K : Type} [DecidableEq K] {P : Program} {T : TypeId} {enc : K → List Value} {m k : Nat} {fs : Array Field} (hT : P.underlying T = some (.struct fs)) (h : ∀ x y, EqAt P m T (.agg (enc x).toArray) (.agg (enc y).toArray) (decide (x = y))) (hm : Nat.ble m 10000 = true) (hc : ∀ x, CkAt P k T (.agg (enc x).toArray)) (hk : Nat.ble k 10000 = true)
    (hb : ∀ x, ∀ u ∈ enc x, Bits u) : KeyL P T (fun x => .agg (enc x).toArray) :=
  KeyL.asking hT (fun x y => rfl) (fun x y w => by
    have := h x y (10000 - m) w
    rw [Nat.sub_add_cancel (Nat.le_of_ble_eq_true hm)] at this
    simpa [Op.equal, Op.maxDepth] using this) (fun x c w => by
    have := hc x (10000 - k) c w
    rwa [Nat.sub_add_cancel (Nat.le_of_ble_eq_true hk)] at this) (fun x => sameBits_agg (by simpa using hb x) 9999)
theorem keyL_set {P : Program} {T E : TypeId} (hT : P.underlying T = some (.array 4 E)) (hE : P.underlying E = some (.int .u64)) (hA : aggOf P E = some false) (hz : szOf P E = some 1) : KeyL P T setV :=
  KeyL.asking hT (fun x y => rfl) (fun x y w => by
    have := EqAt.set hT hE hA hz x y 9998 w
    show (Op.equal T (.agg (setA x)) (.agg (setA y))).run P w = _
    simpa [Op.equal, Op.maxDepth] using this) (fun x c w => CkAt.set hT hE hA hz x 9998 c w) (fun x => sameBits_agg (by
    intro u hu
    simp [setA] at hu
    rcases hu with rfl | rfl | rfl | rfl <;> exact Bits.int _ _) 9999)

/-! ### Unsigned numbers of 64 bits -/
def M64 : Nat := 18446744073709551616
def u64add (a b : Nat) : Nat := (a + b) % 18446744073709551616
def u64sub (a b : Nat) : Nat := (a + (18446744073709551616 - b % 18446744073709551616)) % 18446744073709551616
def u64mul (a b : Nat) : Nat := a * b % 18446744073709551616
def u64and (a b : Nat) : Nat := (BitVec.ofNat 64 a &&& BitVec.ofNat 64 b).toNat
def u64or (a b : Nat) : Nat := (BitVec.ofNat 64 a ||| BitVec.ofNat 64 b).toNat
def u64xor (a b : Nat) : Nat := (BitVec.ofNat 64 a ^^^ BitVec.ofNat 64 b).toNat
def u64andn (a b : Nat) : Nat := (BitVec.ofNat 64 a &&& ~~~ BitVec.ofNat 64 b).toNat
def u64shl (a b : Nat) : Nat := a * 2 ^ (min b 64) % 18446744073709551616
def u64shr (a b : Nat) : Nat := a / 2 ^ (min b 64)
def u64of (a : Int) : Nat := (a % 18446744073709551616).toNat
theorem wrap_u64 (a : Int) : IntKind.u64.wrap a = a % 18446744073709551616 := by simp [IntKind.wrap, IntKind.bits, IntKind.signed]
theorem u64of_val (a : Int) : ((u64of a : Nat) : Int) = IntKind.u64.wrap a := by rw [wrap_u64, u64of]; omega
theorem bv_of (a : Nat) : BitVec.ofInt IntKind.u64.bits (a : Int) = BitVec.ofNat 64 a := by simp [IntKind.bits, BitVec.ofInt_natCast]
theorem wrap_bv (b : BitVec 64) : IntKind.u64.wrap (b.toNat : Int) = (b.toNat : Int) := by rw [wrap_u64]; have := b.isLt; omega
section
variable {P : Program} {n : Nat} {e : Env} {σ : Store} {H : List Res} {o : Oper} {x y : Operand} {T T' : TypeId} {a b : Nat}
theorem OpVal.addU (ho : o.op = .binOp .add T x y T') (hx : ev e x = .int .u64 (a : Nat)) (hy : ev e y = .int .u64 (b : Nat)) : OpVal P n o e σ H (.int .u64 ((u64add a b : Nat) : Int)) := by
  have := OpVal.addW (P := P) (n := n) (σ := σ) (H := H) ho hx hy
  rw [wrap_u64] at this
  rw [show ((u64add a b : Nat) : Int) = ((a : Int) + (b : Int)) % 18446744073709551616 from by unfold u64add; omega]; exact this
theorem OpVal.subU (ho : o.op = .binOp .sub T x y T') (hx : ev e x = .int .u64 (a : Nat)) (hy : ev e y = .int .u64 (b : Nat)) : OpVal P n o e σ H (.int .u64 ((u64sub a b : Nat) : Int)) := by
  have := OpVal.subW (P := P) (n := n) (σ := σ) (H := H) ho hx hy
  rw [wrap_u64] at this
  rw [show ((u64sub a b : Nat) : Int) = ((a : Int) - (b : Int)) % 18446744073709551616 from by unfold u64sub; omega]; exact this
theorem OpVal.mulU (ho : o.op = .binOp .mul T x y T') (hx : ev e x = .int .u64 (a : Nat)) (hy : ev e y = .int .u64 (b : Nat)) : OpVal P n o e σ H (.int .u64 ((u64mul a b : Nat) : Int)) := by
  have := OpVal.mulW (P := P) (n := n) (σ := σ) (H := H) ho hx hy
  rw [wrap_u64] at this
  rw [show ((u64mul a b : Nat) : Int) = ((a : Int) * (b : Int)) % 18446744073709551616 from by unfold u64mul; rw [Int.natCast_emod, Int.natCast_mul]; rfl]; exact this
theorem OpVal.andU (ho : o.op = .binOp .and T x y T') (hx : ev e x = .int .u64 (a : Nat)) (hy : ev e y = .int .u64 (b : Nat)) : OpVal P n o e σ H (.int .u64 ((u64and a b : Nat) : Int)) := .bin ho hx hy fun w => by
  simp only [binOp, ne_eq, not_true_eq_false, if_false, Op.intBits, bv_of]
  exact congrArg (fun z => Result.ok (Value.int .u64 z) w) (wrap_bv (BitVec.ofNat 64 a &&& BitVec.ofNat 64 b))
theorem OpVal.orU (ho : o.op = .binOp .or T x y T') (hx : ev e x = .int .u64 (a : Nat)) (hy : ev e y = .int .u64 (b : Nat)) : OpVal P n o e σ H (.int .u64 ((u64or a b : Nat) : Int)) := .bin ho hx hy fun w => by
  simp only [binOp, ne_eq, not_true_eq_false, if_false, Op.intBits, bv_of]
  exact congrArg (fun z => Result.ok (Value.int .u64 z) w) (wrap_bv (BitVec.ofNat 64 a ||| BitVec.ofNat 64 b))
theorem OpVal.xorU (ho : o.op = .binOp .xor T x y T') (hx : ev e x = .int .u64 (a : Nat)) (hy : ev e y = .int .u64 (b : Nat)) : OpVal P n o e σ H (.int .u64 ((u64xor a b : Nat) : Int)) := .bin ho hx hy fun w => by
  simp only [binOp, ne_eq, not_true_eq_false, if_false, Op.intBits, bv_of]
  exact congrArg (fun z => Result.ok (Value.int .u64 z) w) (wrap_bv (BitVec.ofNat 64 a ^^^ BitVec.ofNat 64 b))
theorem OpVal.andnU (ho : o.op = .binOp .andNot T x y T') (hx : ev e x = .int .u64 (a : Nat)) (hy : ev e y = .int .u64 (b : Nat)) : OpVal P n o e σ H (.int .u64 ((u64andn a b : Nat) : Int)) := .bin ho hx hy fun w => by
  simp only [binOp, ne_eq, not_true_eq_false, if_false, Op.intBits, bv_of]
  exact congrArg (fun z => Result.ok (Value.int .u64 z) w) (wrap_bv (BitVec.ofNat 64 a &&& ~~~ BitVec.ofNat 64 b))
theorem OpVal.shlU {k : IntKind} (ho : o.op = .binOp .shl T x y T') (hx : ev e x = .int .u64 (a : Nat)) (hy : ev e y = .int k (b : Nat)) : OpVal P n o e σ H (.int .u64 ((u64shl a b : Nat) : Int)) := fun w _ => by
  have h0 : ¬ (b : Int) < 0 := by omega
  simp only [execOp, ho, hx, hy, Sem.run_bind, run_eqGuard_int, Result.andThen_ok, binOp, Op.shift, h0, if_false, Int.toNat_natCast, wrap_u64, u64shl, IntKind.bits]
  rw [show (a : Int) * 2 ^ min b 64 % 18446744073709551616 = ((a * 2 ^ min b 64 % 18446744073709551616 : Nat) : Int) from by rw [Int.natCast_emod, Int.natCast_mul, Int.natCast_pow]; rfl]; rfl
theorem OpVal.shrU {k : IntKind} (ho : o.op = .binOp .shr T x y T') (hx : ev e x = .int .u64 (a : Nat)) (hy : ev e y = .int k (b : Nat)) : OpVal P n o e σ H (.int .u64 ((u64shr a b : Nat) : Int)) := fun w _ => by
  have h0 : ¬ (b : Int) < 0 := by omega
  have h2 : (a : Int).fdiv (2 ^ min b 64) = ((a / 2 ^ min b 64 : Nat) : Int) := by
    rw [Int.fdiv_eq_ediv_of_nonneg _ (by exact_mod_cast Nat.zero_le _)]; exact_mod_cast rfl
  simp only [execOp, ho, hx, hy, Sem.run_bind, run_eqGuard_int, Result.andThen_ok, binOp, Op.shift, h0, if_false, Int.toNat_natCast, u64shr, IntKind.bits, h2]; rfl
theorem OpVal.convU {k : IntKind} {i : Int} {d : TypeDesc} {S : TypeId} (ho : o.op = .convert S T x) (hs : P.underlying S = some d) (ht : P.underlying T = some (.int .u64)) (hx : ev e x = .int k i) : OpVal P n o e σ H (.int .u64 ((u64of i : Nat) : Int)) := by
  rw [u64of_val]; exact OpVal.convInt ho hs ht hx
theorem OpVal.eqlU {k : IntKind} (ho : o.op = .binOp .eql T x y T') (hx : ev e x = .int k (a : Nat)) (hy : ev e y = .int k (b : Nat)) : OpVal P n o e σ H (.bool (decide (a = b))) := OpVal.eqlN ho hx hy
theorem OpVal.neqU {k : IntKind} (ho : o.op = .binOp .neq T x y T') (hx : ev e x = .int k (a : Nat)) (hy : ev e y = .int k (b : Nat)) : OpVal P n o e σ H (.bool (decide (a ≠ b))) := by
  have := OpVal.neq (P := P) (n := n) (σ := σ) (H := H) ho hx hy
  rwa [show decide ((a : Int) ≠ (b : Int)) = decide (a ≠ b) from by rw [decide_eq_decide]; omega] at this
theorem OpVal.lssU {k : IntKind} (ho : o.op = .binOp .lss T x y T') (hx : ev e x = .int k (a : Nat)) (hy : ev e y = .int k (b : Nat)) : OpVal P n o e σ H (.bool (decide (a < b))) := by
  have := OpVal.lss (P := P) (n := n) (σ := σ) (H := H) ho hx hy
  rwa [show decide ((a : Int) < (b : Int)) = decide (a < b) from by rw [decide_eq_decide]; omega] at this
theorem OpVal.leqU {k : IntKind} (ho : o.op = .binOp .leq T x y T') (hx : ev e x = .int k (a : Nat)) (hy : ev e y = .int k (b : Nat)) : OpVal P n o e σ H (.bool (decide (a ≤ b))) := by
  have := OpVal.leq (P := P) (n := n) (σ := σ) (H := H) ho hx hy
  rwa [show decide ((a : Int) ≤ (b : Int)) = decide (a ≤ b) from by rw [decide_eq_decide]; omega] at this
theorem OpVal.gtrU {k : IntKind} (ho : o.op = .binOp .gtr T x y T') (hx : ev e x = .int k (a : Nat)) (hy : ev e y = .int k (b : Nat)) : OpVal P n o e σ H (.bool (decide (b < a))) := by
  have := OpVal.gtr (P := P) (n := n) (σ := σ) (H := H) ho hx hy
  rwa [show decide ((b : Int) < (a : Int)) = decide (b < a) from by rw [decide_eq_decide]; omega] at this
theorem OpVal.geqU {k : IntKind} (ho : o.op = .binOp .geq T x y T') (hx : ev e x = .int k (a : Nat)) (hy : ev e y = .int k (b : Nat)) : OpVal P n o e σ H (.bool (decide (b ≤ a))) := by
  have := OpVal.geq (P := P) (n := n) (σ := σ) (H := H) ho hx hy
  rwa [show decide ((b : Int) ≤ (a : Int)) = decide (b ≤ a) from by rw [decide_eq_decide]; omega] at this
end
end Go.E
