/- Parts of a proof, one behind the other: what a machine reaches, functions decompiled, plain lemmas. Conditions stand with each lemma. -/
import Derived.Test.YtjhbngjhdmapmaaGreatDoorBb3e5a26d1b
import Derived.Laws.BytesArg
import Derived.Lib.Bytealg
import Derived.Shelf.SlSortCmp.NoneTotal
import Derived.Shelf.Sort.Plain
import Derived.Shelf.Slices.In.SortNone
import Derived.Test.YtjhbngjhdmapmaaGreatDoorProg
import Derived.Test.YtjhbngjhdmapmaaGreatDoorChecked

/- Dec7 -/
section
/- Equality of structs, structs as keys, unsigned numbers. Plain lemmas over any program; no condition. -/
set_option linter.unusedVariables false
set_option linter.unusedSimpArgs false
namespace Go.E
open Go

/-! ### Structs compared -/
abbrev FT := Bool × TypeId × Nat
def fieldsB (P : Program) (T : TypeId) : List FT := (P.fieldsOf T).toList.map fun f => (f.name == "_", f.type, f.offset)
/-- Equality told type by type. -/
def EqAt (P : Program) (n : Nat) (T : TypeId) (u v : Value) (b : Bool) : Prop := ∀ d w, (Op.equalIn (d + n) T u v).run P w = .ok b w
inductive EqC (P : Program) (n : Nat) (xs ys : Array Value) : List FT → Bool → Prop
  | nil : EqC P n xs ys [] true
  | one {t o : Nat} {ts : List FT} {u v : Value} {b q : Bool} (hA : aggOf P t = some false) (hu : xs[o]? = some u) (hv : ys[o]? = some v) (he : EqAt P n t u v b) (k : EqC P n xs ys ts q) : EqC P n xs ys ((false, t, o) :: ts) (b && q)
  | agg {t o s : Nat} {ts : List FT} {us vs : Array Value} {b q : Bool} (hA : aggOf P t = some true) (hz : szOf P t = some s) (hu : xs.extract o (o + s) = us) (hv : ys.extract o (o + s) = vs) (he : EqAt P n t (.agg us) (.agg vs) b) (k : EqC P n xs ys ts q) : EqC P n xs ys ((false, t, o) :: ts) (b && q)
theorem EqAt.up {P : Program} {n m : Nat} {T : TypeId} {u v : Value} {b : Bool} (h : EqAt P n T u v b) (hm : n ≤ m) : EqAt P m T u v b := fun d w => by
  have := h (d + (m - n)) w
  rwa [show d + (m - n) + n = d + m by omega] at this
theorem EqC.run {P : Program} {n : Nat} {xs ys : Array Value} {ts : List FT} {q : Bool} (h : EqC P n xs ys ts q) : ∀ (fs : List Field), (fs.map fun f => (f.name == "_", f.type, f.offset)) = ts → ∀ d w, (Op.eqFields (d + n) xs ys fs).run P w = .ok q w := by
  induction h with
  | nil => intro fs hf d w; have : fs = [] := by simpa using hf
           subst this; simp [Op.eqFields]
  | @one t o ts u v b q hA hu hv he k ih =>
    intro fs hf d w
    cases fs with
    | nil => simp at hf
    | cons f fs =>
      simp only [List.map_cons, List.cons.injEq, Prod.mk.injEq] at hf
      obtain ⟨⟨h1, h2, h3⟩, h4⟩ := hf
      have h1 : f.name ≠ "_" := by simpa using h1
      simp only [Op.eqFields, h1, h2, h3, ne_eq, not_false_eq_true, if_true, Sem.run_bind, run_part_one hA hu, run_part_one hA hv, Result.andThen_ok, he d w]
      cases b
      · simp
      · simp [ih fs h4 d w]
  | @agg t o s ts us vs b q hA hz hu hv he k ih =>
    intro fs hf d w
    cases fs with
    | nil => simp at hf
    | cons f fs =>
      simp only [List.map_cons, List.cons.injEq, Prod.mk.injEq] at hf
      obtain ⟨⟨h1, h2, h3⟩, h4⟩ := hf
      have h1 : f.name ≠ "_" := by simpa using h1
      simp only [Op.eqFields, h1, h2, h3, ne_eq, not_false_eq_true, if_true, Sem.run_bind, run_part_agg hA hz, hu, hv, Result.andThen_ok, he d w]
      cases b
      · simp
      · simp [ih fs h4 d w]
theorem EqAt.struct {P : Program} {n : Nat} {T : TypeId} {xs ys : Array Value} {ts : List FT} {q : Bool} (hu : P.underlying T = some (.struct (P.fieldsOf T))) (hp : P.stoodInHeld T = false) (hf : fieldsB P T = ts) (h : EqC P n xs ys ts q) : EqAt P (n + 1) T (.agg xs) (.agg ys) q := fun d w => by
  rw [← Nat.add_assoc, run_equalIn_struct w (d + n) T xs ys hu hp]
  exact h.run _ hf d w
theorem EqAt.of {P : Program} {n : Nat} {T : TypeId} {u v : Value} {b b' : Bool} (h : EqAt P n T u v b) (e : b = b') : EqAt P n T u v b' := e ▸ h
theorem EqAt.int {P : Program} {T : TypeId} {k : IntKind} (hT : P.underlying T = some (.int k)) (a b : Int) : EqAt P 1 T (.int k a) (.int k b) (decide (a = b)) := fun d w => by
  rw [run_equalIn_int w d T k k a b hT]; rfl
theorem EqAt.bool {P : Program} {T : TypeId} (hT : P.underlying T = some .bool) (a b : Bool) : EqAt P 1 T (.bool a) (.bool b) (decide (a = b)) := fun d w => by
  rw [run_equalIn_bool w d T a b hT]; cases a <;> cases b <;> rfl
theorem EqAt.str {P : Program} {T : TypeId} (hT : P.underlying T = some .string) (a b : List UInt8) : EqAt P 1 T (.string (bs a)) (.string (bs b)) (decide (a = b)) := fun d w => by
  rw [run_equalIn_string w d T (bs a) (bs b) hT, bs_beq]
theorem EqAt.set {P : Program} {T E : TypeId} (hT : P.underlying T = some (.array 4 E)) (hE : P.underlying E = some (.int .u64)) (hA : aggOf P E = some false) (hz : szOf P E = some 1) (a b : BSet) : EqAt P 2 T (.agg (setA a)) (.agg (setA b)) (decide (a = b)) := fun d w => by
  have h := run_eqArr4 (P := P) (k := .u64) d hT hE hA hz (a.a : Nat) (a.b : Nat) (a.c : Nat) (a.d : Nat) (b.a : Nat) (b.b : Nat) (b.c : Nat) (b.d : Nat) w
  rw [show decide (a = b) = decide (((a.a : Nat) : Int) = (b.a : Nat) ∧ ((a.b : Nat) : Int) = (b.b : Nat) ∧ ((a.c : Nat) : Int) = (b.c : Nat) ∧ ((a.d : Nat) : Int) = (b.d : Nat)) from by rw [decide_eq_decide]; exact BSet.eq_iff a b]
  exact h
section
variable {P : Program} {n m : Nat} {e : Env} {σ : Store} {H : List Res} {o : Oper} {x y : Operand} {T T' : TypeId} {xs ys : Array Value} {p : Prop} [Decidable p]
theorem OpVal.eqlSt (ho : o.op = .binOp .eql T x y T') (hx : ev e x = .agg xs) (hy : ev e y = .agg ys) (hg : P.eqGuardType P.depth T = false) (h : EqAt P m T (.agg xs) (.agg ys) (decide p)) (hm : Nat.ble m 10000 = true) : OpVal P n o e σ H (.bool (decide p)) := fun w _ => by
  have hm := Nat.le_of_ble_eq_true hm
  have h1 := h (10000 - m) w
  rw [Nat.sub_add_cancel hm] at h1
  simp only [execOp, ho, hx, hy, Sem.run_bind, run_eqGuard_agg _ _ _ _ _ _ _ hg, Result.andThen_ok]
  rw [run_eql_agg' (by simp) h1 rfl]; rfl
theorem OpVal.neqSt (ho : o.op = .binOp .neq T x y T') (hx : ev e x = .agg xs) (hy : ev e y = .agg ys) (hg : P.eqGuardType P.depth T = false) (h : EqAt P m T (.agg xs) (.agg ys) (decide p)) (hm : Nat.ble m 10000 = true) : OpVal P n o e σ H (.bool (decide (¬ p))) := fun w _ => by
  have hm := Nat.le_of_ble_eq_true hm
  have h1 := h (10000 - m) w
  rw [Nat.sub_add_cancel hm] at h1
  simp only [execOp, ho, hx, hy, Sem.run_bind, run_eqGuard_agg _ _ _ _ _ _ _ hg, Result.andThen_ok, decide_not]
  rw [run_neq_agg' (by simp) h1 rfl]; rfl
end
/-! ### Structs as keys -/
def CkAt (P : Program) (n : Nat) (T : TypeId) (v : Value) : Prop := ∀ d c w, (Instr.checkKey c (d + n) T v).run P w = .ok () w
inductive CkC (P : Program) (n : Nat) (xs : Array Value) : List FT → Prop
  | nil : CkC P n xs []
  | one {t o : Nat} {ts : List FT} {u : Value} (hA : aggOf P t = some false) (hu : xs[o]? = some u) (he : CkAt P n t u) (k : CkC P n xs ts) : CkC P n xs ((false, t, o) :: ts)
  | agg {t o s : Nat} {ts : List FT} {us : Array Value} (hA : aggOf P t = some true) (hz : szOf P t = some s) (hu : xs.extract o (o + s) = us) (he : CkAt P n t (.agg us)) (k : CkC P n xs ts) : CkC P n xs ((false, t, o) :: ts)
theorem CkAt.up {P : Program} {n m : Nat} {T : TypeId} {u : Value} (h : CkAt P n T u) (hm : n ≤ m) : CkAt P m T u := fun d c w => by
  have := h (d + (m - n)) c w
  rwa [show d + (m - n) + n = d + m by omega] at this
theorem CkAt.int {P : Program} {T : TypeId} {k : IntKind} (hT : P.underlying T = some (.int k)) (a : Int) : CkAt P 1 T (.int k a) := fun d c w => by simp [Instr.checkKey, run_underlying hT]
theorem CkAt.str {P : Program} {T : TypeId} (hT : P.underlying T = some .string) (a : ByteArray) : CkAt P 1 T (.string a) := fun d c w => by simp [Instr.checkKey, run_underlying hT]
theorem run_forIn_unit {P : Program} {α : Type} {w : World} (f : α → PUnit → Sem (ForInStep PUnit)) : ∀ (l : List α), (∀ a ∈ l, (f a PUnit.unit).run P w = .ok (.yield PUnit.unit) w) → (forIn l PUnit.unit f).run P w = .ok PUnit.unit w
  | [], _ => by simp
  | a :: l, h => by
    rw [List.forIn_cons, Sem.run_bind, h a (List.mem_cons_self ..), Result.andThen_ok]
    exact run_forIn_unit f l fun b hb => h b (List.mem_cons_of_mem _ hb)
theorem CkAt.set {P : Program} {T E : TypeId} (hT : P.underlying T = some (.array 4 E)) (hE : P.underlying E = some (.int .u64)) (hA : aggOf P E = some false) (hz : szOf P E = some 1) (s : BSet) : CkAt P 2 T (.agg (setA s)) := fun d c w => by
  have h0 : ∀ a, (Instr.checkKey c (d + 1) E (.int .u64 a)).run P w = .ok () w := fun a => CkAt.int hE a d c w
  rw [Instr.checkKey]
  simp only [Sem.run_bind, run_underlying hT, Result.andThen_ok, Std.Legacy.Range.forIn_eq_forIn_range', Std.Legacy.Range.size, Nat.sub_zero, Nat.add_sub_cancel, Nat.div_one]
  rw [run_forIn_unit]
  · rfl
  intro i hi
  have hi4 : i < 4 := by
    have := List.mem_range'.1 hi
    omega
  have hp : (part E (setA s) i).run P w = .ok (.int .u64 (s.word i : Nat)) w := run_part_one hA (setA_get s hi4) w
  simp only [Sem.run_bind, run_sizeOf hz, Result.andThen_ok, Nat.mul_one, hp, h0, Sem.run_pure]
theorem CkC.all {P : Program} {n : Nat} {xs : Array Value} {ts : List FT} (h : CkC P n xs ts) : ∀ (fs : List Field), (fs.map fun f => (f.name == "_", f.type, f.offset)) = ts → ∀ f ∈ fs, f.name ≠ "_" ∧ ∃ v, (∀ w, (part f.type xs f.offset).run P w = .ok v w) ∧ CkAt P n f.type v := by
  induction h with
  | nil => intro fs hf; have : fs = [] := by simpa using hf
           subst this; simp
  | @one t o ts u hA hu he k ih =>
    intro fs hf
    cases fs with
    | nil => simp
    | cons f fs =>
      simp only [List.map_cons, List.cons.injEq, Prod.mk.injEq] at hf
      obtain ⟨⟨h1, h2, h3⟩, h4⟩ := hf
      intro g hg
      rcases List.mem_cons.1 hg with rfl | hg
      · exact ⟨by simpa using h1, u, fun w => by rw [h2, h3]; exact run_part_one hA hu w, by rw [h2]; exact he⟩
      · exact ih fs h4 g hg
  | @agg t o s ts us hA hz hu he k ih =>
    intro fs hf
    cases fs with
    | nil => simp
    | cons f fs =>
      simp only [List.map_cons, List.cons.injEq, Prod.mk.injEq] at hf
      obtain ⟨⟨h1, h2, h3⟩, h4⟩ := hf
      intro g hg
      rcases List.mem_cons.1 hg with rfl | hg
      · exact ⟨by simpa using h1, _, fun w => by rw [h2, h3, run_part_agg hA hz, hu], by rw [h2]; exact he⟩
      · exact ih fs h4 g hg
theorem CkAt.struct {P : Program} {n : Nat} {T : TypeId} {xs : Array Value} {ts : List FT} (hu : P.underlying T = some (.struct (P.fieldsOf T))) (hf : fieldsB P T = ts) (h : CkC P n xs ts) : CkAt P (n + 1) T (.agg xs) := fun d c w => by
  have := h.all _ hf
  rw [← Nat.add_assoc, Instr.checkKey]
  simp only [Sem.run_bind, run_underlying hu, Result.andThen_ok]
  rw [← Array.forIn_toList, run_forIn_unit]
  · rfl
  intro f hf
  obtain ⟨h1, v, h2, h3⟩ := this f hf
  simp only [h1, ne_eq, not_false_eq_true, if_true, Sem.run_bind, h2, Result.andThen_ok, h3 d c w, Sem.run_pure]
def Bits (v : Value) : Prop := ∀ n, Instr.sameBits n v v = true
theorem sameBits_agg {cs : Array Value} (h : ∀ u ∈ cs.toList, Bits u) (n : Nat) : Instr.sameBits (n + 1) (.agg cs) (.agg cs) = true := by
  rw [Instr.sameBits]
  simp only [beq_self_eq_true, Bool.true_and, List.all_eq_true]
  rintro ⟨a, b⟩ hab
  have h1 := List.of_mem_zip hab
  have h2 : a = b := by
    obtain ⟨i, hi⟩ := List.mem_iff_getElem?.1 hab
    rw [List.getElem?_zip_eq_some] at hi
    exact Option.some.inj (hi.1.symm.trans hi.2)
  subst h2
  exact h a h1.1 n
theorem Bits.int (k : IntKind) (a : Int) : Bits (.int k a) := fun n => by cases n <;> (rw [Instr.sameBits]; simp)
theorem Bits.str (a : ByteArray) : Bits (.string a) := fun n => by cases n <;> (rw [Instr.sameBits]; exact (MapKept.bytes_beq a a).2 rfl)
theorem KeyL.struct {K : Type} [DecidableEq K] {P : Program} {T : TypeId} {enc : K → List Value} {m k : Nat} {fs : Array Field} (hT : P.underlying T = some (.struct fs)) (h : ∀ x y, EqAt P m T (.agg (enc x).toArray) (.agg (enc y).toArray) (decide (x = y))) (hm : Nat.ble m 10000 = true) (hc : ∀ x, CkAt P k T (.agg (enc x).toArray)) (hk : Nat.ble k 10000 = true)
    (hb : ∀ x, ∀ u ∈ enc x, Bits u) : KeyL P T (fun x => .agg (enc x).toArray) :=
  KeyL.asking hT (fun x y => rfl) (fun x y w => by
    have := h x y (10000 - m) w
    rw [Nat.sub_add_cancel (Nat.le_of_ble_eq_true hm)] at this
    simpa [Op.equal, Op.maxDepth] using this) (fun x c w => by
    have := hc x (10000 - k) c w
    rwa [Nat.sub_add_cancel (Nat.le_of_ble_eq_true hk)] at this) (fun x => sameBits_agg (by simpa using hb x) 9999)
/-! ### Unsigned numbers of 64 bits -/
def u64mul (a b : Nat) : Nat := a * b % 18446744073709551616
def u64and (a b : Nat) : Nat := (BitVec.ofNat 64 a &&& BitVec.ofNat 64 b).toNat
def u64shl (a b : Nat) : Nat := a * 2 ^ (min b 64) % 18446744073709551616
def u64shr (a b : Nat) : Nat := a / 2 ^ (min b 64)
def u64of (a : Int) : Nat := (a % 18446744073709551616).toNat
theorem wrap_u64 (a : Int) : IntKind.u64.wrap a = a % 18446744073709551616 := by simp [IntKind.wrap, IntKind.bits, IntKind.signed]
theorem u64of_val (a : Int) : ((u64of a : Nat) : Int) = IntKind.u64.wrap a := by rw [wrap_u64, u64of]; omega
theorem bv_of (a : Nat) : BitVec.ofInt IntKind.u64.bits (a : Int) = BitVec.ofNat 64 a := by simp [IntKind.bits, BitVec.ofInt_natCast]
theorem wrap_bv (b : BitVec 64) : IntKind.u64.wrap (b.toNat : Int) = (b.toNat : Int) := by rw [wrap_u64]; have := b.isLt; omega
section
variable {P : Program} {n : Nat} {e : Env} {σ : Store} {H : List Res} {o : Oper} {x y : Operand} {T T' : TypeId} {a b : Nat}
theorem OpVal.mulU (ho : o.op = .binOp .mul T x y T') (hx : ev e x = .int .u64 (a : Nat)) (hy : ev e y = .int .u64 (b : Nat)) : OpVal P n o e σ H (.int .u64 ((u64mul a b : Nat) : Int)) := by
  have := OpVal.mulW (P := P) (n := n) (σ := σ) (H := H) ho hx hy
  rw [wrap_u64] at this
  rw [show ((u64mul a b : Nat) : Int) = ((a : Int) * (b : Int)) % 18446744073709551616 from by unfold u64mul; rw [Int.natCast_emod, Int.natCast_mul]; rfl]; exact this
theorem OpVal.andU (ho : o.op = .binOp .and T x y T') (hx : ev e x = .int .u64 (a : Nat)) (hy : ev e y = .int .u64 (b : Nat)) : OpVal P n o e σ H (.int .u64 ((u64and a b : Nat) : Int)) := .bin ho hx hy fun w => by
  simp only [binOp, ne_eq, not_true_eq_false, if_false, Op.intBits, bv_of]
  exact congrArg (fun z => Result.ok (Value.int .u64 z) w) (wrap_bv (BitVec.ofNat 64 a &&& BitVec.ofNat 64 b))
theorem OpVal.shlU {k : IntKind} (ho : o.op = .binOp .shl T x y T') (hx : ev e x = .int .u64 (a : Nat)) (hy : ev e y = .int k (b : Nat)) : OpVal P n o e σ H (.int .u64 ((u64shl a b : Nat) : Int)) := fun w _ => by
  have h0 : ¬ (b : Int) < 0 := by omega
  simp only [execOp, ho, hx, hy, Sem.run_bind, run_eqGuard_int, Result.andThen_ok, binOp, Op.shift, h0, if_false, Int.toNat_natCast, wrap_u64, u64shl, IntKind.bits]
  rw [show (a : Int) * 2 ^ min b 64 % 18446744073709551616 = ((a * 2 ^ min b 64 % 18446744073709551616 : Nat) : Int) from by rw [Int.natCast_emod, Int.natCast_mul, Int.natCast_pow]; rfl]; rfl
theorem OpVal.shrU {k : IntKind} (ho : o.op = .binOp .shr T x y T') (hx : ev e x = .int .u64 (a : Nat)) (hy : ev e y = .int k (b : Nat)) : OpVal P n o e σ H (.int .u64 ((u64shr a b : Nat) : Int)) := fun w _ => by
  have h0 : ¬ (b : Int) < 0 := by omega
  have h2 : (a : Int).fdiv (2 ^ min b 64) = ((a / 2 ^ min b 64 : Nat) : Int) := by
    rw [Int.fdiv_eq_ediv_of_nonneg _ (by exact_mod_cast Nat.zero_le _)]; exact_mod_cast rfl
  simp only [execOp, ho, hx, hy, Sem.run_bind, run_eqGuard_int, Result.andThen_ok, binOp, Op.shift, h0, if_false, Int.toNat_natCast, u64shr, IntKind.bits, h2]; rfl
theorem OpVal.eqlU {k : IntKind} (ho : o.op = .binOp .eql T x y T') (hx : ev e x = .int k (a : Nat)) (hy : ev e y = .int k (b : Nat)) : OpVal P n o e σ H (.bool (decide (a = b))) := OpVal.eqlN ho hx hy
theorem OpVal.neqU {k : IntKind} (ho : o.op = .binOp .neq T x y T') (hx : ev e x = .int k (a : Nat)) (hy : ev e y = .int k (b : Nat)) : OpVal P n o e σ H (.bool (decide (a ≠ b))) := by
  have := OpVal.neq (P := P) (n := n) (σ := σ) (H := H) ho hx hy
  rwa [show decide ((a : Int) ≠ (b : Int)) = decide (a ≠ b) from by rw [decide_eq_decide]; omega] at this
theorem OpVal.lssU {k : IntKind} (ho : o.op = .binOp .lss T x y T') (hx : ev e x = .int k (a : Nat)) (hy : ev e y = .int k (b : Nat)) : OpVal P n o e σ H (.bool (decide (a < b))) := by
  have := OpVal.lss (P := P) (n := n) (σ := σ) (H := H) ho hx hy
  rwa [show decide ((a : Int) < (b : Int)) = decide (a < b) from by rw [decide_eq_decide]; omega] at this
theorem OpVal.gtrU {k : IntKind} (ho : o.op = .binOp .gtr T x y T') (hx : ev e x = .int k (a : Nat)) (hy : ev e y = .int k (b : Nat)) : OpVal P n o e σ H (.bool (decide (b < a))) := by
  have := OpVal.gtr (P := P) (n := n) (σ := σ) (H := H) ho hx hy
  rwa [show decide ((b : Int) < (a : Int)) = decide (b < a) from by rw [decide_eq_decide]; omega] at this
end
end Go.E
end

/- Dec8 -/
section
/- More words: rounds in any order, copies, bytes made a text, parts of rows. Plain lemmas over any program; no condition. -/
set_option linter.unusedVariables false
set_option linter.unusedSimpArgs false
namespace Go.E
open Go
theorem runA_of {K V S R : Type} {step : S → Option (K × V) → Option (S ⊕ R)} {m : FM K V} {l : List (K × V)} {s : S} {r : R} (h : allP (fun q => Rep q m) (fun q => runL step q s) = some r) (hl : Rep l m) : runA step l s = some r :=
  allP_i l (List.Perm.refl _) fun q hq => allP_e h q (hl.perm hq)
def unitV (_ : Unit) : Value := .agg #[]
def encW (x : Nat) : List Value := [.int .u64 (x : Nat)]
theorem encW_len (x : Nat) : (encW x).length = 1 := rfl
theorem encW_one : ∀ x, ∀ u ∈ encW x, u.oneCell' = true := fun x u hu => by simp [encW] at hu; subst hu; rfl
/-! ### Cells of a slice, whoever owns it -/
def Rdb (w : World) (v : Value) (xs : List Value) : Prop := ∀ a m c, v = .slice (some a) m c → ∀ j u, xs[j]? = some u → w.cell? (a.add j) = some u
theorem rdb_row {α : Type} {σ : Store} {H : List Res} {E size q : Nat} {enc : α → List Value} {v : Value} {l : List α} {w : World} (hq : H[q]? = some (Res.rowS E size enc v l)) (hw : Sees σ H w) : Rdb w v (l.flatMap enc) := by
  intro a m c hv j u hj
  have hown := (hw.2 _ (List.mem_of_getElem? hq)).1
  subst hv
  obtain ⟨h1, h2⟩ := hown
  rcases h2 with ⟨h2, _⟩ | ⟨g, cap, cur, h2, _, hg, h3, h4, h5, h6⟩
  · cases h2
  · cases h2
    rw [loc_add]
    have hj2 := (List.getElem?_eq_some_iff.1 hj).1
    rw [← h6, List.getElem?_take] at hj
    split at hj
    · simp only [World.cell?, hg, Option.isSome_none, Bool.false_eq_true, if_false, Nat.zero_add]
      rw [← Array.getElem?_toList]; exact hj
    · cases hj
theorem OpVal.bytesStr {P : Program} {n : Nat} {e : Env} {σ : Store} {H : List Res} {o : Oper} {x : Operand} {S T E m c : Nat} {a : Option Addr} {l : List UInt8} (ho : o.op = .convert S T x) (hs : P.underlying S = some (.slice E)) (he : P.underlying E = some (.int .u8)) (ht : P.underlying T = some .string)
    (hx : ev e x = .slice a m c) (hl : IsSl (.slice a m c) l.length) (hr : ∀ w, Sees σ H w → Rdb w (.slice a m c) (l.flatMap encU8)) : OpVal P n o e σ H (.string (bs l)) := fun w hw => by
  obtain ⟨a', c', hv, hn, hc⟩ := hl
  cases hv
  cases a with
  | none =>
    obtain ⟨h1, _⟩ := hn rfl
    have hl0 : l = [] := List.eq_nil_of_length_eq_zero h1
    subst hl0
    have := run_convert_bytes_nil (P := P) w S E hs he 0 c T ht
    simp only [execOp, ho, hx]
    simp only [List.length_nil, Sem.run_bind, this, Result.andThen_ok, Sem.run_pure]
    rfl
  | some ad =>
    have hcell := hr w hw ad _ c rfl
    have h1 : (loadCells ad l.length).run P w = .ok ((l.map fun b => (b.toNat : Int)).map (Value.int .u8)).toArray w := by
      have := run_loadCells_list (P := P) w ad ((l.map fun b => (b.toNat : Int)).map (Value.int .u8)) (fun j v hj => hcell j v (by rw [encU8_map]; simpa using hj))
      simpa using this
    have h2 := run_convert_bytes_string (P := P) w S T E (some ad) l.length c hs he ht
    have h3 := run_bytesToString (P := P) w ad l.length c (l.map fun b => (b.toNat : Int)) h1
    have h4 : (⟨(ByteArray.empty.data ++ (((l.map fun b => (b.toNat : Int)).map fun n => UInt8.ofNat n.toNat)).toArray)⟩ : ByteArray) = bs l := by
      simp [bs, ByteArray.empty, ByteArray.emptyWithCapacity, Function.comp_def]
      rfl
    rw [foldl_push_bytes, h4] at h3
    simp only [execOp, ho, hx, Sem.run_bind, h2, h3, Result.andThen_ok, Sem.run_pure]
theorem Reach.nilMap {K V : Type} {enc : K → Value} {encV : V → Value} {w0 : World} {C : List Nat} {σ0 σ : Store} {w : World} {F : List Res} (h : Reach w0 C σ0 σ w F) : Reach w0 C σ0 σ w (Res.mapB enc encV none FM.emp :: F) :=
  h.gain rfl rfl rfl (Nat.le_refl _) (Nat.le_refl _) (fun _ _ => rfl) ⟨fun _ => rfl, fun k hk => by cases hk⟩ (fun b hb => by simp [Res.mapB] at hb) (by simp [Res.mapB])
/-! ### Strings compared by the library -/
theorem OpVal.cmpStr {P : Program} {n : Nat} {e : Env} {σ : Store} {H : List Res} {o : Oper} {x p q : Operand} {ts : Array TypeId} {J : FuncId} {fn : Func} {a b : List UInt8} (ho : o.op = .call { callee := .value x, args := #[p, q], argTypes := ts }) (hx : ev e x = .func (.func J) #[] #[]) (hf : P.funcs[J]? = some fn) (hname : (fn.name == "runtime.NumGoroutine") = false)
    (hb : fn.body.isNone = true) (hn : Extern.findNext fn = none) (he : Extern.find fn = some Extern.BytealgCompare.compare) (hp : ev e p = .string (bs a)) (hq : ev e q = .string (bs b)) : OpVal P n o e σ H (.int .i64 (Lib.compareBytes a b)) := fun w _ => by
  have h := run_callFunc_extern hf hname hb hn he #[.string (bs a), .string (bs b)] w
  rw [Lib.run_compareString] at h
  simp [execOp, ho, resolve, Deferred.ofValue, invoke, hx, hp, hq, h, Result.andThen, bs_list]

/-! ### A part of a row of one's own, looked at through a slice of its own -/
structure VwOk (v u : Value) (size k n : Nat) : Prop where
  sl : IsSl u n
  el : ∀ j, j < n → elem u (j * size) = elem v ((k + j) * size)
theorem VwOk.self {v : Value} {size n : Nat} (h : IsSl v n) : VwOk v v size 0 n := ⟨h, fun j _ => by rw [Nat.zero_add]⟩
theorem vw_of {a : Option Addr} {m c size k : Nat} (h : IsSl (.slice a m c) m) (hk : k ≤ m) : ∃ (a' : Option Addr) (c' : Nat), VwOk (.slice a m c) (.slice a' (m - k) c') size k (m - k) ∧
    ∀ {P : Program} {n : Nat} {e : Env} {σ : Store} {H : List Res} {o : Oper} {x z : Operand} {T E : TypeId} {kk : IntKind} (_ : o.op = .slice T x (some z) none none) (_ : P.underlying T = some (.slice E)) (_ : szOf P E = some size) (_ : ev e x = .slice a m c) (_ : ev e z = .int kk (k : Nat)), OpVal P n o e σ H (.slice a' (m - k) c') := by
  obtain ⟨a1, c1, hv, hn, hc⟩ := h
  cases hv
  refine ⟨if c = k then a else a.map (·.add (k * size)), c - k, ⟨⟨_, _, rfl, fun ha => ?_, by omega⟩, fun j hj => ?_⟩, ?_⟩
  · split at ha
    · obtain ⟨h1, h2⟩ := hn ha; omega
    · cases a with
      | none => obtain ⟨h1, h2⟩ := hn rfl; omega
      | some ad => simp at ha
  · have hck : ¬ c = k := by omega
    rw [if_neg hck]
    cases a with
    | none => obtain ⟨h1, h2⟩ := hn rfl; omega
    | some ad => simp only [elem, Option.map_some]; rw [add_add, Nat.add_mul]
  · intro P n e σ H o x z T E kk ho hT hs hx hz w _
    have hsz := run_sizeOf (P := P) hs
    have hrun : (Instr.slice T (.slice a m c) (some (.int kk k)) none none).run P w = .ok (.slice (if c = k then a else a.map (·.add (k * size))) (m - k) (c - k)) w := by
      simp [Instr.slice, Instr.sliceBounds, Instr.sliceBound, asIntOf, run_underlying hT, hsz]
      intro hlt; omega
    simp [execOp, ho, hx, hz, Instr.sliceAt, run_underlying hT, hrun]
theorem OpVal.elVw {P : Program} {n : Nat} {e : Env} {σ : Store} {H : List Res} {o : Oper} {v u : Value} {size k m j : Nat} (hv : VwOk v u size k m) (hj : j < m) (h : OpVal P n o e σ H (elem u (j * size))) : OpVal P n o e σ H (elem v ((k + j) * size)) := hv.el j hj ▸ h
theorem zeroCells_flat {α : Type} {enc : α → List Value} {size : Nat} {z : Value} (x0 : α) (hz : z.cells.toList = enc x0) (hl : ∀ x, (enc x).length = size) (m : Nat) (h0 : 0 < size) : (Builtin.zeroCells z.cells m).toList = (List.replicate m x0).flatMap enc := by
  have := madeCells_flat z x0 hz m (by rw [hl]; exact h0)
  rw [hl] at this
  rw [← this]
  have hzs : z.cells.size = size := by rw [← Array.length_toList, hz, hl]
  simp [Builtin.zeroCells, madeCells, hzs]
theorem splice_end {α : Type} {enc : α → List Value} {size : Nat} (hl : ∀ x, (enc x).length = size) (l : List α) (k : Nat) (x0 : α) (hk : k ≤ l.length) :
    splice (l.flatMap enc) (k * size) ((List.replicate (l.length - k) x0).flatMap enc) = (l.take k ++ List.replicate (l.length - k) x0).flatMap enc := by
  rw [List.flatMap_append, splice, take_flat hl]
  have h1 : ((List.replicate (l.length - k) x0).flatMap enc).length = (l.length - k) * size := by rw [flatMap_len hl, List.length_replicate]
  rw [h1]
  have h2 : (l.flatMap enc).length = l.length * size := flatMap_len hl l
  rw [List.drop_of_length_le (by rw [h2, ← Nat.add_mul]; exact Nat.mul_le_mul_right _ (by omega)), List.append_nil]
/-- clear of the end of a row of one's own. -/
theorem OpOk.clearV {X : Ctx} {e : Env} {σ : Store} {F : List Res} {o : Oper} {x : Operand} {K : Env → Store → List Res → Prop} {α : Type} {T E size k m' : Nat} {enc : α → List Value} {zv v u : Value} {l : List α} (x0 : α) (ho : o.op = .call { callee := .builtin .clear, args := #[x], argTypes := #[T] }) (ht : X.P.underlying T = some (.slice E)) (hz : zeroOf X.P E = some zv)
    (hd : o.dst = none) (hx : ev e x = u) (hv : VwOk v u size k m') (hm : l.length - k = m') (hk : k ≤ l.length) (hl : ∀ x, (enc x).length = size) (h0 : 0 < size) (hz0 : zv.cells.toList = enc x0) (h1 : ∀ x, ∀ u ∈ enc x, u.oneCell' = true)
    (kk : K e σ (Res.rowS E size enc v (l.take k ++ List.replicate (l.length - k) x0) :: F)) : OpOk X o e σ (Res.rowS E size enc v l :: F) K := by
  subst hm
  intro u0 C0 τ0 w a hw ha K' Q hK
  obtain ⟨hown, hone, hbg⟩ := hw.holds _ (List.mem_cons_self ..)
  have hlen : (l.take k ++ List.replicate (l.length - k) x0).length = l.length := by simp; omega
  obtain ⟨a', c', rfl, hn, hc⟩ := hv.sl
  by_cases hkl : k = l.length
  · subst hkl
    have e1 : l.take l.length ++ List.replicate (l.length - l.length) x0 = l := by simp
    rw [e1] at kk
    have hrun : (Builtin.clear_ #[T] o.type #[.slice a' (l.length - l.length) c']).run X.P w = .ok (.tuple #[]) w := by
      rw [Nat.sub_self]
      cases a' <;> simp [Builtin.clear_, run_underlying ht]
    refine Oper.wp_of_run (v := .tuple #[]) (w' := w) ?_ (hK _ _ _ _ _ kk hw (by rw [hd]; exact ⟨ha, rfl⟩))
    rw [ha.eval']
    rw [Nat.sub_self] at hrun
    simp [execOp, ho, resolve, invoke, builtin, hx, hrun]
  · have hj : 0 < l.length - k := by omega
    have hel := hv.el 0 hj
    cases a' with
    | none => obtain ⟨h2, _⟩ := hn rfl; omega
    | some ad =>
      rcases id hown.2 with ⟨hvn, hmn⟩ | ⟨g, cap, cur, rfl, _⟩
      · omega
      · simp only [elem, Nat.zero_mul, Nat.add_zero] at hel
        have had : ad = ⟨g, k * size, none⟩ := by
          have h3 : (ad.add 0) = (⟨g, 0, none⟩ : Addr).add (k * size) := by injection hel with h; injection h
          rw [loc_add] at h3
          simpa [Addr.add] using h3
        subst had
        have hzl := zeroCells_flat (size := size) x0 hz0 hl (l.length - k) h0
        obtain ⟨w', hst, hown', hgr, hdr⟩ := World.ownsRow.spliced X.P hown (k := k * size) (vs := (List.replicate (l.length - k) x0).flatMap enc) (by rw [flatMap_len hl, flatMap_len hl, List.length_replicate, ← Nat.add_mul]; exact Nat.mul_le_mul_right _ (by omega)) (fun u hu => by
          obtain ⟨q, _, hq⟩ := List.mem_flatMap.1 hu
          exact h1 q u hq)
        rw [splice_end hl l k x0 hk] at hown'
        have hrun : (Builtin.clear_ #[T] o.type #[.slice (some ⟨g, k * size, none⟩) (l.length - k) c']).run X.P w = .ok (.tuple #[]) w' := by
          have hne : l.length - k ≠ 0 := by omega
          simp only [Builtin.clear_]
          simp [run_underlying ht, run_zeroValue hz, hzl, hst]
        have hR : Reach u0 C0 τ0 σ w' (Res.rowS E size enc (.slice (some ⟨g, 0, none⟩) l.length cap) (l.take k ++ List.replicate (l.length - k) x0) :: F) := by
          refine hw.turn1 (some g) (some g) rfl rfl hgr.os hgr.tape hgr.output hgr.size hdr (fun q hq hne => hgr.block q hq (fun hx => hne (by cases hx; rfl))) ?_ (fun q hq => .inl hq)
          show _ ∧ _ ∧ _
          rw [hlen]
          refine ⟨hown', fun u hu => ?_, hbg⟩
          obtain ⟨q, _, hq⟩ := List.mem_flatMap.1 hu
          exact h1 q u hq
        refine Oper.wp_of_run (v := .tuple #[]) (w' := w') ?_ (hK _ _ _ _ _ kk hR (by rw [hd]; exact ⟨ha, rfl⟩))
        rw [ha.eval']
        simp [execOp, ho, resolve, invoke, builtin, hx, hrun]
/-! ### A part of an array variable, lent -/
theorem RS.ofCells {α : Type} {τ : Store} {b k m E : Nat} {cs : Array Value} {enc : α → List Value} {l : List α} (h : τ b = some (.cells cs E (0, 0))) (hl : ∀ x, (enc x).length = 1) (h1 : ∀ x, ∀ u ∈ enc x, u.oneCell' = true) (hk : (cs.toList.drop k).take m = l.flatMap enc) (hm : l.length = m) (hb : Nat.ble l.length 281474976710656 = true) : RS τ 1 enc (.slice (some ⟨b, k, none⟩) m m) l := by
  subst hm
  refine ⟨⟨⟨_, _, rfl, (fun h => by cases h), Nat.le_refl _⟩, flatMap_len hl l, ?_, fun u hu => ?_, Nat.le_of_ble_eq_true hb⟩, hl⟩
  · intro a m c hv j u hj
    cases hv
    rw [loc_add]
    unfold Store.cell
    simp only [h, Option.isSome_none, Bool.false_eq_true, if_false]
    rw [← hk, List.getElem?_take] at hj
    split at hj
    · rw [List.getElem?_drop, Array.getElem?_toList] at hj; exact hj
    · cases hj
  · obtain ⟨q, _, hq⟩ := List.mem_flatMap.1 hu
    exact h1 q u hq
theorem Con.lendC {P : Program} {f : FuncId} {args : Array Value} {σ : Store} {F : List Res} {r : Value} {b E : Nat} {cs : Array Value}
    (h : ∀ τ, σ.le τ → τ b = some (.cells cs E (0, 0)) → Con P f args τ F (KeepP r τ F)) : Con P f args σ (Res.cells b cs E :: F) (KeepP r σ (Res.cells b cs E :: F)) := by
  intro w hw
  have ho : w.heap[b]? = some (.cells cs E (0, 0)) := hw.holds _ (List.mem_cons_self ..)
  obtain ⟨h1, h2⟩ := hw.sealB (b := b) rfl ho
  have h3 : σ.with b (.cells cs E (0, 0)) b = some (.cells cs E (0, 0)) := by simp [Store.with]
  generalize σ.with b (.cells cs E (0, 0)) = τ at h1 h2 h3
  have h0 : Reach w (blks F) τ τ w F := ⟨rfl, rfl, rfl, Nat.le_refl _, fun _ _ _ => rfl, Store.le.refl _, h1.fit, fun b o hb => .inl hb, h1.holds, fun r hr b hb => .inl (mem_blks.2 ⟨r, hr, hb⟩), h1.nodup, h1.apart, Nat.le_refl _⟩
  refine (h τ h2 h3 w h0).mono fun ex w' ⟨r', σ', H', he, ⟨e1, e2, e3⟩, k⟩ => ?_
  subst e1 e2 e3
  refine ⟨r', σ, _, he, ⟨rfl, rfl, rfl⟩, ?_⟩
  have hb : b < w.heap.size ∧ b ∉ blks H' := by
    refine ⟨(Array.getElem?_eq_some_iff.1 ho).1, fun hx => ?_⟩
    have hnd := hw.nodup
    simp only [blks, List.flatMap_cons] at hnd
    exact (nodup_app.1 hnd).2.2 b (by simp [Res.cells]) hx
  have hframe : ∀ i, i < w.heap.size → i ∉ blks H' → w'.heap[i]? = w.heap[i]? := k.frame
  refine ⟨k.os, k.tape, k.output, k.size, ?_, Store.le.refl _, fun b o hs => k.fit b o (h2 b o hs), fun b o hs => .inl hs, ?_, ?_, ?_, ?_, k.drawn⟩
  · intro i hi hn
    refine hframe i hi fun hx => hn ?_
    obtain ⟨r2, hr2, hb2⟩ := mem_blks.1 hx
    exact mem_blks.2 ⟨r2, List.mem_cons_of_mem _ hr2, hb2⟩
  · intro r2 hr2
    rcases List.mem_cons.1 hr2 with rfl | hr2
    · exact (Res.cells b cs E).keep w w' (fun c hc => by rw [List.mem_singleton.1 hc]; exact hframe b hb.1 hb.2) ho
    · exact k.holds r2 hr2
  · intro r2 hr2 b hb2
    exact .inl (mem_blks.2 ⟨r2, hr2, hb2⟩)
  · exact hw.nodup
  · intro r2 hr2 b hb2
    exact hw.apart r2 hr2 b hb2
theorem OpVal.sliceArr {P : Program} {n : Nat} {e : Env} {σ : Store} {H : List Res} {o : Oper} {x : Operand} {T E m b k s : Nat} (ho : o.op = .slice T x none none none) (ht : P.underlying T = some (.array m E)) (hs : szOf P E = some s) (hx : ev e x = loc b k) : OpVal P n o e σ H (.slice (some ⟨b, k, none⟩) m m) := fun w _ => by
  have hsz := run_sizeOf (P := P) hs
  simp [execOp, ho, hx, loc, Instr.sliceAt, Instr.sureAddr, run_underlying ht, Instr.slice, Instr.sliceBounds, Instr.sliceBound, hsz, Addr.add]
theorem mem_pick {H B : List Res} (is : List Nat) (h : is.map (fun i => H[i]?) = B.map some) {r : Res} (hr : r ∈ B) : r ∈ H := by
  have h1 : some r ∈ B.map some := List.mem_map.2 ⟨r, hr, rfl⟩
  rw [← h] at h1
  obtain ⟨i, _, hi⟩ := List.mem_map.1 h1
  exact List.mem_of_getElem? hi
end Go.E
end

/- Dec9 -/
section
/- The library's sort, by the kit's contract, in the engine's words. Plain lemmas over any program; no condition. -/
set_option linter.unusedVariables false
set_option linter.unusedSimpArgs false
namespace Go.E
open Go Go.Sort Go.Proofs Go.Shelf

theorem Reach.grown {w w' : World} {σ : Store} {H : List Res} (h : Reach w [] (fun _ => none) σ w' H) : ∃ q os', w' = grow (w.drewN q) os' := by
  refine ⟨w'.drawn - w.drawn, w'.heap.extract w.heap.size w'.heap.size, ?_⟩
  have h1 : w'.heap = w.heap ++ w'.heap.extract w.heap.size w'.heap.size := by
    apply Array.ext_getElem?
    intro i
    rw [Array.getElem?_append]
    split
    · rename_i hi; exact h.frame i hi (by simp)
    · rename_i hi
      by_cases hl : i < w'.heap.size
      · rw [Array.getElem?_extract_of_lt (by omega)]; simp only [show w.heap.size + (i - w.heap.size) = i by omega]; exact Array.getElem?_eq_getElem hl
      · rw [Array.getElem?_eq_none (by omega), Array.getElem?_eq_none (by simp; omega)]
  have h2 := h.drawn
  cases w' with
  | mk heap tape drawn os output =>
    have e1 := h.os; have e2 := h.tape; have e3 := h.output
    simp only at h1 h2 e1 e2 e3
    simp only [grow, World.drewN]
    rw [World.mk.injEq]
    exact ⟨h1, e2, by omega, e1, e3⟩
theorem reach_nil (w : World) : Reach w [] (fun _ => none) (fun _ => none) w [] :=
  ⟨rfl, rfl, rfl, Nat.le_refl _, fun _ _ _ => rfl, Store.le.refl _, (fun _ _ h => by cases h), (fun _ _ h => by cases h), by simp, by simp, by simp [blks], by simp, Nat.le_refl _⟩

section
variable {α : Type} [Inhabited α] {P : Program}
theorem cmpLays1_of {g : Nat} {enc : α → Value} {cf : α → α → Int} {blk off size : Nat} {w : World} (h : ∀ x y τ, Con P g #[enc x, enc y] τ [] (PureP (.int .i64 (cf x y)) τ)) : CmpLays1 P g #[] enc cf blk off size w := by
  intro m os dk _ x y
  refine (h x y (fun _ => none) _ (reach_nil _)).mono fun e w' ⟨r, σ', H', he, ⟨hr, _, _⟩, k⟩ => ⟨by rw [he, hr], Reach.grown k⟩
theorem cmpLays_of {g k : Nat} {enc : α → List Value} {cf : α → α → Int} {blk off size : Nat} {w : World} (h : ∀ x y τ, Con P g #[.agg (enc x).toArray, .agg (enc y).toArray] τ [] (PureP (.int .i64 (cf x y)) τ)) : CmpLays P g #[] enc k cf blk off size w := by
  intro m os dk _ x y
  refine (h x y (fun _ => none) _ (reach_nil _)).mono fun e w' ⟨r, σ', H', he, ⟨hr, _, _⟩, k⟩ => ⟨by rw [he, hr], Reach.grown k⟩
end

theorem getBang {α : Type} [Inhabited α] (l : List α) (i : Nat) (h : i < l.length) : l.toArray[i]! = l[i] := by simp [h]
theorem Reach.sorted {w0 : World} {C : List Nat} {σ0 σ : Store} {w : World} {F : List Res} {E size n cap g m : Nat} {xs xs' : List Value} {os : Array Obj} (h : Reach w0 C σ0 σ w (Res.row E size (.slice (some ⟨g, 0, none⟩) n cap) n xs :: F)) (hl : xs'.length = xs.length) (h1 : ∀ u ∈ xs', u.oneCell' = true) :
    Reach w0 C σ0 σ (grow (putRow (id : Value → Value) (Sort.ahead w m) g 0 xs'.toArray) os) (Res.row E size (.slice (some ⟨g, 0, none⟩) n cap) n xs' :: F) := by
  obtain ⟨hown, hone, hbg⟩ := h.holds _ (List.mem_cons_self ..)
  obtain ⟨hlen, hc⟩ := hown
  rcases hc with ⟨hc, _⟩ | ⟨g', cap', cur, hv, hb0, hg, h3, h4, h5, h6⟩
  · cases hc
  cases hv
  have hgl : g < w.heap.size := (Array.getElem?_eq_some_iff.1 hg).1
  have hnew : (grow (putRow (id : Value → Value) (Sort.ahead w m) g 0 xs'.toArray) os).heap[g]? = some (.cells (putCells (id : Value → Value) 0 xs'.toArray cur) E) := by
    rw [heap_grow_old _ _ (by simpa using hgl)]
    simp [putRow, mapBlock, Sort.ahead, Array.getElem?_modify, hg, onCells]
  have hold : ∀ k, k < w.heap.size → k ≠ g → (grow (putRow (id : Value → Value) (Sort.ahead w m) g 0 xs'.toArray) os).heap[k]? = w.heap[k]? := by
    intro k hk hne
    rw [heap_grow_old _ _ (by simpa using hk)]
    have : g ≠ k := fun e => hne e.symm
    simp [putRow, mapBlock, Sort.ahead, Array.getElem?_modify, this]
  have hcur : xs.length ≤ cur.size := by
    have := congrArg List.length h6
    simp at this; omega
  refine h.turn1 (some g) (some g) rfl rfl rfl rfl rfl (by simp [grow]) (by simp [grow, putRow, mapBlock, Sort.ahead]) (fun k hk hne => hold k hk fun e => hne (by rw [e])) ⟨⟨by rw [hl]; exact hlen, .inr ⟨g, cap, _, rfl, hb0, hnew, h3, h4, by simp [putCells, h5], ?_⟩⟩, h1, hbg⟩ (fun b hb => .inl hb)
  apply List.ext_getElem?
  intro i
  by_cases hi : i < n * size
  · have hi2 : i < xs'.length := by rw [hl, hlen]; exact hi
    rw [List.getElem?_take_of_lt hi, Array.getElem?_toList]
    simp [putCells, hi2, show i < cur.size by omega]
  · rw [List.getElem?_take_eq_none (by omega), List.getElem?_eq_none (by omega)]
theorem holds_row {w : World} {E size n cap g : Nat} {xs : List Value} (h : w.ownsRow 0 E size (.slice (some ⟨g, 0, none⟩) n cap) n xs) : Holds (id : Value → Value) w g 0 xs.toArray ∧ g < w.heap.size := by
  obtain ⟨hlen, hc⟩ := h
  rcases hc with ⟨hc, _⟩ | ⟨g', cap', cur, hv, hb0, hg, h3, h4, h5, h6⟩
  · cases hc
  cases hv
  refine ⟨fun j hj => ?_, (Array.getElem?_eq_some_iff.1 hg).1⟩
  have hj' : j < xs.length := by simpa using hj
  refine ⟨?_, by simp [World.frozen?, hg]⟩
  have h7 : (cur.toList.take (n * size))[j]? = xs[j]? := by rw [h6]
  rw [List.getElem?_take_of_lt (by omega)] at h7
  simp only [World.cell?, hg, Nat.zero_add, Option.isSome_none, Bool.false_eq_true, if_false]
  rw [← Array.getElem?_toList, h7]
  simp [hj']
theorem putRow_id {α : Type} [Inhabited α] (enc : α → Value) (w : World) (g : Nat) (l : List α) : putRow enc w g 0 l.toArray = putRow (id : Value → Value) w g 0 (l.map enc).toArray := by
  unfold putRow
  congr 1
  funext c
  unfold putCells
  apply Array.ext_getElem?
  intro i
  simp only [Array.getElem?_mapIdx]
  cases hc : c[i]? with
  | none => rfl
  | some v =>
    simp only [Option.map_some, Nat.zero_le, true_and, Nat.zero_add, Nat.sub_zero, List.size_toArray, List.length_map]
    split
    · rename_i hi; simp [hi]
    · rfl
theorem flatK_list {α : Type} [Inhabited α] {enc : α → List Value} {k : Nat} (hk : ∀ x, (enc x).length = k) (l : List α) : flatK enc k l.toArray = (l.flatMap enc).toArray := by
  have hl : (l.flatMap enc).length = l.length * k := flatMap_len hk l
  refine ext_get! (by simp [hl]) fun t ht => ?_
  have ht' : t < l.length * k := by simpa using ht
  have k0 : 0 < k := by rcases Nat.eq_zero_or_pos k with h | h
                        · subst h; simp at ht'
                        · exact h
  have hd : t / k < l.length := Nat.div_lt_of_lt_mul (by rw [Nat.mul_comm]; exact ht')
  have hm : t % k < k := Nat.mod_lt _ k0
  rw [get_flatK _ _ _ _ (by simpa using ht'), getBang l _ hd]
  have h2 := flatMap_get hk l (t / k) (t % k) l[t / k] (List.getElem?_eq_getElem hd) hm
  rw [Nat.div_add_mod' t k] at h2
  have hb : t < (l.flatMap enc).toArray.size := by simpa [hl] using ht'
  have h3 : (l.flatMap enc).toArray[t]! = (enc l[t / k])[t % k]! := by
    rw [getElem!_pos (l.flatMap enc).toArray t hb]
    have h4 : (l.flatMap enc)[t]? = some ((l.flatMap enc).toArray[t]'hb) := by rw [← List.getElem?_toArray]; exact Array.getElem?_eq_getElem hb
    rw [h2] at h4
    have hlt : t % k < (enc l[t / k]).length := by rw [hk]; exact hm
    rw [List.getElem?_eq_getElem hlt, Option.some.injEq] at h4
    rw [getElem!_pos (enc l[t / k]) (t % k) hlt, h4]
  rw [h3]

/-- What the sort leaves. -/
def sortL {α : Type} (cf : α → α → Int) (l : List α) : List α := l.mergeSort fun x y => !decide (cf y x < 0)
def SortP {α : Type} (E size : Nat) (enc : α → List Value) (a : Option Addr) (c : Nat) (l l' : List α) (σ : Store) : Value → Store → List Res → Prop := fun v σ' H' => v = .tuple #[] ∧ σ = σ' ∧ H' = [Res.rowS E size enc (.slice a l.length c) l']
/-- An order that tells apart whatever is not the same. -/
structure TotalCmp {α : Type} (cf : α → α → Int) : Prop where
  swo : SWO (ltOf cf)
  tot : ∀ x y, ltOf cf x y = false → ltOf cf y x = false → x = y
section
variable {α : Type} [Inhabited α] {P : Program} {ρ : Ren}
theorem Con.sort1 (L : SlLaysF.n6 P ρ) (L0 : SlLaysF0.n6 P ρ) {enc : α → Value} {encL : α → List Value} {cf : α → α → Int} {f g E c : Nat} {a : Option Addr} {l : List α} {σ : Store} (hf : ρ.f 6 = f) (he : ∀ x, encL x = [enc x]) (h1 : OneCell enc) (hO : TotalCmp cf)
    (eg : ∀ args w, (callFunc g args).run P w = .ok (.enter g args) w) (hc : ∀ x y τ, Con P g #[enc x, enc y] τ [] (PureP (.int .i64 (cf x y)) τ)) :
    Con P f #[.slice a l.length c, .func (.func g) #[] #[]] σ [Res.rowS E 1 encL (.slice a l.length c) l] (SortP E 1 encL a c l (sortL cf l) σ) := by
  subst hf
  have hflat : ∀ l : List α, l.flatMap encL = l.map enc := fun l => by
    induction l with
    | nil => rfl
    | cons x l ih => rw [List.flatMap_cons, ih, he]; rfl
  have hlen : (sortL cf l).length = l.length := List.length_mergeSort _
  intro w hw
  obtain ⟨hown, hone, hbg⟩ := hw.holds _ (List.mem_cons_self ..)
  have hsl := isSl_row hown
  rcases id hown.2 with ⟨hn, hm⟩ | ⟨g', cap', cur, hv, hb0, hg, h3, h4, h5, h6⟩
  · have hl0 : l = [] := List.eq_nil_of_length_eq_zero hm
    subst hl0
    refine (AnyF.slices_SortFunc_none L0 a c (.func (.func g) #[] #[]) w).mono fun e w' ⟨h1, h2⟩ => ⟨_, σ, _, h1, ⟨rfl, rfl, rfl⟩, ?_⟩
    subst h2
    rw [show sortL cf ([] : List α) = [] from by simp [sortL]]
    exact hw
  · cases hv
    have hH := holds_row hown
    rw [hflat] at hH
    have hHe : Holds enc w g' 0 l.toArray := fun j hj => by
      have := hH.1 j (by simpa using hj)
      have hj' : j < l.length := by simpa using hj
      simpa [hj'] using this
    have hsz : l.toArray.size < 4611686018427387904 := by simp; omega
    have := Any.slices_SortFunc_total L enc h1 cf hO.swo g #[] g' 0 c l.toArray w eg (cmpLays1_of hc) hHe hH.2 hsz hO.tot
    refine this.mono fun e w' ⟨h7, n, os, h8⟩ => ⟨_, σ, _, h7, ⟨rfl, rfl, rfl⟩, ?_⟩
    subst h8
    have h9 : (l.toArray.toList.mergeSort fun x y => !(ltOf cf) y x) = sortL cf l := rfl
    rw [h9]
    unfold sortWorld
    rw [putRow_id]
    have := Reach.sorted (h := hw) (m := n) (os := os) (xs' := (sortL cf l).map enc) (by rw [hflat, List.length_map, List.length_map, hlen]) (fun u hu => by
      obtain ⟨x, _, rfl⟩ := List.mem_map.1 hu
      exact h1 x)
    unfold Res.rowS
    rw [hflat (sortL cf l), hlen]
    exact this
theorem Con.sortK (L : SlLaysF0.n6 P ρ) {k : Nat} {enc : α → List Value} {cf : α → α → Int} {f g E c : Nat} {a : Option Addr} {l : List α} {σ : Store} (hf : ρ.f 6 = f) (aE : ∀ w, (isAgg (ρ.t 24)).run P w = .ok true w) (zE : ∀ w, (Go.sizeOf (ρ.t 24)).run P w = .ok k w) (hk : ∀ x, (enc x).length = k) (h1 : ∀ x, ∀ u ∈ enc x, u.oneCell' = true) (hO : TotalCmp cf)
    (eg : ∀ args w, (callFunc g args).run P w = .ok (.enter g args) w) (hc : ∀ x y τ, Con P g #[.agg (enc x).toArray, .agg (enc y).toArray] τ [] (PureP (.int .i64 (cf x y)) τ)) :
    Con P f #[.slice a l.length c, .func (.func g) #[] #[]] σ [Res.rowS E k enc (.slice a l.length c) l] (SortP E k enc a c l (sortL cf l) σ) := by
  subst hf
  have hlen : (sortL cf l).length = l.length := List.length_mergeSort _
  intro w hw
  obtain ⟨hown, hone, hbg⟩ := hw.holds _ (List.mem_cons_self ..)
  rcases id hown.2 with ⟨hn, hm⟩ | ⟨g', cap', cur, hv, hb0, hg, h3, h4, h5, h6⟩
  · have hl0 : l = [] := List.eq_nil_of_length_eq_zero hm
    subst hl0
    refine (AnyF.slices_SortFunc_none L a c (.func (.func g) #[] #[]) w).mono fun e w' ⟨h1, h2⟩ => ⟨_, σ, _, h1, ⟨rfl, rfl, rfl⟩, ?_⟩
    subst h2
    rw [show sortL cf ([] : List α) = [] from by simp [sortL]]
    exact hw
  · cases hv
    have hH := holds_row hown
    have hHe : HoldsK enc k w g' 0 l.toArray := by
      unfold HoldsK; rw [flatK_list hk]; exact hH.1
    have hsz : l.toArray.size < 4611686018427387904 := by simp; omega
    have := AnyQ.slices_SortFunc_total L k aE zE enc hk h1 cf hO.swo g #[] g' 0 c l.toArray w eg (cmpLays_of hc) hHe hH.2 hsz hO.tot
    refine this.mono fun e w' ⟨h7, n, os, h8⟩ => ⟨_, σ, _, h7, ⟨rfl, rfl, rfl⟩, ?_⟩
    subst h8
    have h9 : (l.toArray.toList.mergeSort fun x y => !(ltOf cf) y x) = sortL cf l := rfl
    rw [h9]
    unfold sortWorldK putRowK
    rw [flatK_list hk]
    have := Reach.sorted (h := hw) (m := n) (os := os) (xs' := (sortL cf l).flatMap enc) (by rw [flatMap_len hk, flatMap_len hk, hlen]) (fun u hu => by
      obtain ⟨x, _, hx⟩ := List.mem_flatMap.1 hu
      exact h1 x u hx)
    unfold Res.rowS
    rw [hlen]
    exact this
end
end Go.E
end

/- Dec11 -/
section
/- The library's sort of numbers, by the kit's contract, in the engine's words. Plain lemmas over any program; no condition. -/
set_option linter.unusedVariables false
set_option linter.unusedSimpArgs false
namespace Go.E
open Go Go.Sort Go.Proofs Go.Shelf
theorem OpVal.minI {P : Program} {n : Nat} {e : Env} {σ : Store} {H : List Res} {o : Oper} {x y : Operand} {ts : Array TypeId} {k k' : IntKind} {a b : Int} (ho : o.op = .call { callee := .builtin .min, args := #[x, y], argTypes := ts }) (hx : ev e x = .int k a) (hy : ev e y = .int k' b) : OpVal P n o e σ H (.int k (min a b)) := fun w _ => by
  have h : (if b < a then b else a) = min a b := by rw [Int.min_def]; split <;> split <;> omega
  simp [execOp, ho, resolve, invoke, builtin, hx, hy, Builtin.min_, Builtin.min2, h]
/-! ### A slice of one's own, lent to a call that hands back what is new -/
end Go.E
end

/- I1s -/
section
/- The library's sort of numbers at this program. Conditions: none. -/
set_option linter.unusedVariables false
set_option linter.unusedSimpArgs false
namespace Go.Proofs.YtjhbngjhdmapmaaGreatDoor
open Go Go.E
set_option maxRecDepth 100000
end Go.Proofs.YtjhbngjhdmapmaaGreatDoor
end

/- Ty -/
section
/- Facts on the types and functions of the program, each computed. No condition. -/
namespace Go.Proofs.YtjhbngjhdmapmaaGreatDoor
open Go
theorem ag3 : Go.E.aggOf Tryz.prog 3 = some false := by kernel_rfl
theorem ag4 : Go.E.aggOf Tryz.prog 4 = some false := by kernel_rfl
theorem ag44 : Go.E.aggOf Tryz.prog 44 = some false := by kernel_rfl
theorem ag5 : Go.E.aggOf Tryz.prog 5 = some false := by kernel_rfl
theorem ag62 : Go.E.aggOf Tryz.prog 62 = some false := by kernel_rfl
theorem ag64 : Go.E.aggOf Tryz.prog 64 = some true := by kernel_rfl
theorem by3 : Go.E.byOf Tryz.prog 3 = some 8 := by kernel_rfl
theorem eg64 : Tryz.prog.eqGuardType Tryz.prog.depth 64 = false := by kernel_rfl
theorem pf103 : Go.E.plainF Tryz.prog 103 = true := by kernel_rfl
theorem sz3 : Go.E.szOf Tryz.prog 3 = some 1 := by kernel_rfl
theorem sz4 : Go.E.szOf Tryz.prog 4 = some 1 := by kernel_rfl
theorem sz5 : Go.E.szOf Tryz.prog 5 = some 1 := by kernel_rfl
theorem sz62 : Go.E.szOf Tryz.prog 62 = some 1 := by kernel_rfl
theorem sz64 : Go.E.szOf Tryz.prog 64 = some 4 := by kernel_rfl
theorem ze3 : Go.E.zeroOf Tryz.prog 3 = some (.int .i64 0) := by kernel_rfl
theorem ze64 : Go.E.zeroOf Tryz.prog 64 = some (.agg #[.int .u64 0, .int .u64 0, .int .u64 0, .int .u64 0]) := by kernel_rfl
end Go.Proofs.YtjhbngjhdmapmaaGreatDoor
end

/- Low1 -/
section
/- Contracts: bytes and sets of bytes. -/
set_option linter.unusedVariables false
set_option linter.unusedSimpArgs false
namespace Go.Proofs.YtjhbngjhdmapmaaGreatDoor
open Go Go.E
set_option maxRecDepth 100000

theorem and_one (a : Nat) : a &&& 1 = a % 2 := Nat.and_one_is_mod a

theorem has_con (σ : Store) (s : BSet) (b : Nat) (hs : s.ok) (hb : b < 256) : Con Tryz.prog 87 #[setV s, .int .u8 (b : Nat)] σ [] (PureP (.bool (s.has b)) σ) := by
  have hw : s.word (b / 64) < 18446744073709551616 := BSet.word_lt hs _
  have hw2 : s.word (b / 64) / 2 ^ (b % 64) < 18446744073709551616 := Nat.lt_of_le_of_lt (Nat.div_le_self _ _) hw
  refine Con.mk (n := 14) Tryz.func87 rfl rfl rfl (fun w0 => ?_)
  refine TC.seq ?_
  refine TC.region ?_
  refine TL.op rfl (OpOk.boxA rfl rfl rfl rfl (fun b1 => ?_))
  refine TL.v rfl (OpVal.moveB (.inr rfl) rfl) rfl rfl ?_
  refine TL.nil ?_
  refine S.n ?_
  refine TC.seq ?_
  refine TC.region ?_
  refine TL.v rfl (OpVal.moveI (.inl rfl) rfl) rfl rfl ?_
  refine TL.v rfl (OpVal.quoN (b := 64) rfl rfl rfl (by omega) (by simp only [kmax]; omega)) rfl rfl ?_
  refine TL.v rfl (OpVal.indexArrN rfl Tryz.underlying64 sz62 rfl rfl (by omega)) rfl rfl ?_
  refine TL.v rfl (OpVal.loadWord rfl ag62 rfl (j := 0) rfl (by omega)) rfl rfl ?_
  refine TL.v rfl (OpVal.moveI (.inl rfl) rfl) rfl rfl ?_
  refine TL.v rfl (OpVal.remN (b := 64) rfl rfl rfl (by omega)) rfl rfl ?_
  refine TL.v rfl (OpVal.shrN rfl rfl rfl (by show _ < 64; omega)) rfl rfl ?_
  refine TL.v rfl (OpVal.andN (b := 1) rfl rfl rfl (by omega) (by omega)) rfl rfl ?_
  refine TL.v rfl (OpVal.eqlN (b := 1) rfl rfl rfl) rfl rfl ?_
  refine TL.v rfl (OpVal.moveB (.inr rfl) rfl) rfl rfl ?_
  refine TL.nil ?_
  refine S.n ?_
  refine TC.ret ?_
  -- leaf 1 ret [] H=['q2']
  refine ret1P rfl (congrArg Value.bool ?_)
  unfold BSet.has; rw [decide_eq_decide, and_one]

/-- Two to some number. -/
theorem power_con (σ : Store) (k : Nat) (hk : k < 64) : Con Tryz.prog 103 #[.int .i64 (k : Nat)] σ [] (PureP (.int .u64 ((2 ^ k : Nat) : Int)) σ) := by
  have hp : ∀ i, i < k → 2 * 2 ^ i < 18446744073709551616 := fun i hi => by
    have : 2 * 2 ^ i = 2 ^ (i + 1) := by rw [Nat.pow_succ]; omega
    rw [this]
    exact Nat.lt_of_le_of_lt (Nat.pow_le_pow_right (by omega) (show i + 1 ≤ 63 by omega)) (by decide)
  refine Con.mk (n := 13) Tryz.func103 rfl rfl rfl (fun w0 => ?_)
  refine TC.seq ?_
  refine TC.region ?_
  refine TL.v rfl (OpVal.moveI (.inr rfl) rfl) rfl rfl ?_
  refine TL.nil ?_
  refine S.n ?_
  refine TC.seq ?_
  refine TC.region ?_
  refine TL.v rfl (OpVal.moveI (.inr rfl) rfl) rfl rfl ?_
  refine TL.nil ?_
  refine S.n ?_
  refine TC.seq ?_
  refine TC.seq ?_
  refine TC.region ?_
  refine TL.v rfl (OpVal.moveI (.inr rfl) rfl) rfl rfl ?_
  refine TL.nil ?_
  refine S.n ?_
  refine TC.block ?_
  refine TC.loopF (α := Nat) [3, 4, 5, 6, 7, 8, 9, 10, 11] (fun i => [(3, .int .u64 ((2 ^ i : Nat) : Int)), (4, .int .i64 (i : Nat))]) (fun _ => _) (fun _ => _) (fun i => i ≤ k) (fun i => k - i) (0) (by first | exact True.intro | omega | (dsimp only; omega) | (simp; done) | (simp; omega)) (by repeat (first | exact trivial | refine ⟨rfl, ?_⟩)) (by rfl) (by rfl) (fun g1 j1 hg1 => ?_)
  have hp1 : g1 < k → 2 * 2 ^ g1 < 18446744073709551616 := hp g1
  refine TC.seq ?_
  refine TC.seq ?_
  refine TC.region ?_
  refine TL.v rfl (OpVal.moveI (.inl rfl) rfl) rfl rfl ?_
  refine TL.v rfl (OpVal.moveI (.inl rfl) rfl) rfl rfl ?_
  refine TL.v rfl (OpVal.lss rfl rfl rfl) rfl rfl ?_
  refine TL.nil ?_
  refine S.n ?_
  refine TC.condD rfl (fun h1 => ?_) (fun h1 => ?_)
  · try simp only [decide_eq_true_eq, decide_eq_false_iff_not, Bool.not_eq_true', Bool.not_eq_false', Bool.not_eq_eq_eq_not, Bool.not_true, Bool.not_false, Int.not_lt, Int.not_le, Decidable.not_not] at h1
    refine TC.skip ?_
    refine S.n ?_
    refine TC.seq ?_
    refine TC.block ?_
    refine TC.region ?_
    refine TL.v rfl (OpVal.moveI (.inl rfl) rfl) rfl rfl ?_
    refine TL.v rfl (OpVal.mulN (a := 2) rfl rfl rfl (by simp only [kmax]; omega)) rfl rfl ?_
    refine TL.v rfl (OpVal.moveI (.inr rfl) rfl) rfl rfl ?_
    refine TL.nil ?_
    refine B.n ?_
    refine S.n ?_
    refine TC.region ?_
    refine TL.v rfl (OpVal.moveI (.inl rfl) rfl) rfl rfl ?_
    refine TL.v rfl (OpVal.succ rfl rfl rfl (by omega)) rfl rfl ?_
    refine TL.v rfl (OpVal.moveI (.inr rfl) rfl) rfl rfl ?_
    refine TL.nil ?_
    refine S.n ?_
    -- leaf 1 next [h1: True] H=[]
    refine ⟨by repeat (first | exact Agr.mask | refine Agr.upd rfl ?_ | refine Agr.maskIn rfl ?_), g1 + 1, ?_, ?_, ?_, ?_, ?_⟩
    · omega
    · first | exact True.intro | omega | (dsimp only; omega) | (simp; done) | (simp; omega)
    · exact ⟨congrArg (fun x : Nat => Value.int .u64 (x : Int)) (by rw [Nat.pow_succ]; omega), rfl, trivial⟩
    · rfl
    · rfl
  · try simp only [decide_eq_true_eq, decide_eq_false_iff_not, Bool.not_eq_true', Bool.not_eq_false', Bool.not_eq_eq_eq_not, Bool.not_true, Bool.not_false, Int.not_lt, Int.not_le, Decidable.not_not] at h1
    refine TC.exit ?_
    refine S.x ?_
    refine S.x ?_
    refine TC.exitHere ?_
    refine S.n ?_
    refine TC.seq ?_
    refine TC.region ?_
    refine TL.v rfl (OpVal.moveI (.inl rfl) rfl) rfl rfl ?_
    refine TL.v rfl (OpVal.moveI (.inr rfl) rfl) rfl rfl ?_
    refine TL.nil ?_
    refine S.n ?_
    refine TC.ret ?_
    -- leaf 2 ret [h1: False] H=[]
    have : g1 = k := by omega
    subst this
    exact ret1P rfl rfl

/-- The reference's membership. -/
theorem rhas_con (σ : Store) (s : BSet) (b : Nat) (hs : s.ok) (hb : b < 256) : Con Tryz.prog 71 #[setV s, .int .i64 (b : Nat)] σ [] (PureP (.bool (s.has b)) σ) := by
  have hw : s.word (b / 64) < 18446744073709551616 := BSet.word_lt hs _
  have hd : ((b : Int)).tdiv 64 = ((b / 64 : Nat) : Int) := by rw [Int.tdiv_eq_ediv_of_nonneg (by omega)]; omega
  have hp : 0 < 2 ^ (b % 64) := Nat.pow_pos (by omega)
  have hq : s.word (b / 64) / 2 ^ (b % 64) < 18446744073709551616 := Nat.lt_of_le_of_lt (Nat.div_le_self _ _) hw
  refine Con.mk (n := 15) Tryz.func71 rfl rfl rfl (fun w0 => ?_)
  refine TC.seq ?_
  refine TC.region ?_
  refine TL.op rfl (OpOk.boxA rfl rfl rfl rfl (fun b1 => ?_))
  refine TL.v rfl (OpVal.moveB (.inr rfl) rfl) rfl rfl ?_
  refine TL.nil ?_
  refine S.n ?_
  refine TC.seq ?_
  refine TC.draw [] (by kernel_rfl) ?_
  refine TA.takeP 0 rfl (by kernel_rfl) (by kernel_rfl) (by kernel_rfl) rfl (OpVal.moveI (.inl rfl) rfl) rfl rfl ?_
  refine TA.takeP 1 rfl (by kernel_rfl) (by kernel_rfl) (by kernel_rfl) rfl (OpVal.quoN (b := 64) rfl rfl rfl (by omega) (by simp only [kmax]; omega)) rfl rfl ?_
  refine TA.takeP 2 rfl (by kernel_rfl) (by kernel_rfl) (by kernel_rfl) rfl (OpVal.indexArrN rfl Tryz.underlying64 sz62 rfl rfl (by omega)) rfl rfl ?_
  refine TA.take 3 rfl (by kernel_rfl) (by kernel_rfl) (by kernel_rfl) (by kernel_rfl) rfl (OpVal.loadWord rfl ag62 rfl (j := 0) rfl (by omega)) rfl rfl ?_
  refine TA.takeP 4 rfl (by kernel_rfl) (by kernel_rfl) (by kernel_rfl) rfl (OpVal.moveI (.inl rfl) rfl) rfl rfl ?_
  refine TA.takeP 5 rfl (by kernel_rfl) (by kernel_rfl) (by kernel_rfl) rfl (OpVal.remN (b := 64) rfl rfl rfl (by omega)) rfl rfl ?_
  refine TA.act 6 (by kernel_rfl) rfl rfl (OpOk.callP (power_con _ (b % 64) (by omega)) rfl rfl pf103 rfl rfl rfl ⟨(fun w h => sees_of (by first | exact Store.le.refl _ | assumption) (fun r hr => hr) w h), ?_⟩)
  refine TA.takeP 7 rfl (by kernel_rfl) (by kernel_rfl) (by kernel_rfl) rfl (OpVal.quoN rfl rfl rfl (by omega) (by simp only [kmax]; omega)) rfl rfl ?_
  refine TA.takeP 8 rfl (by kernel_rfl) (by kernel_rfl) (by kernel_rfl) rfl (OpVal.remN (b := 2) rfl rfl rfl (by omega)) rfl rfl ?_
  refine TA.takeP 9 rfl (by kernel_rfl) (by kernel_rfl) (by kernel_rfl) rfl (OpVal.eqlN (b := 1) rfl rfl rfl) rfl rfl ?_
  refine TA.takeP 10 rfl (by kernel_rfl) (by kernel_rfl) (by kernel_rfl) rfl (OpVal.moveB (.inr rfl) rfl) rfl rfl ?_
  refine TA.done (by kernel_rfl) ?_
  refine S.n ?_
  refine TC.ret ?_
  -- leaf 1 ret [] H=['q2']
  refine ret1P rfl (congrArg Value.bool ?_)
  unfold BSet.has; rfl

end Go.Proofs.YtjhbngjhdmapmaaGreatDoor
end

/- NfaSpec -/
section
/- What the automatons of many ways are to be: plain functions on lists. No program, no condition. -/
set_option linter.unusedVariables false
set_option linter.unusedSimpArgs false
namespace Go.Proofs.YtjhbngjhdmapmaaGreatDoor
open Go Go.E

def errB (b : Bool) : Int := if b then 0 else 1

theorem take_succ_nth {α : Type} (l : List α) {k : Nat} (hk : k < l.length) (d : α) : l.take (k + 1) = l.take k ++ [nth l k d] := by
  rw [List.take_add_one, getD_some l hk d]; rfl
end Go.Proofs.YtjhbngjhdmapmaaGreatDoor
end

/- Nfa1 -/
section
/- Contracts of package nfa and of its reference, part one: what is right. -/
set_option linter.unusedVariables false
set_option linter.unusedSimpArgs false
namespace Go.Proofs.YtjhbngjhdmapmaaGreatDoor
open Go Go.E
set_option maxRecDepth 100000

end Go.Proofs.YtjhbngjhdmapmaaGreatDoor
end

/- Nfa2 -/
section
/- Contracts of package nfa and of its reference, part two. -/
set_option linter.unusedVariables false
set_option linter.unusedSimpArgs false
namespace Go.Proofs.YtjhbngjhdmapmaaGreatDoor
open Go Go.E
set_option maxRecDepth 100000

end Go.Proofs.YtjhbngjhdmapmaaGreatDoor
end

/- Sets -/
section
/- Contracts of sets of bytes that are made. -/
set_option linter.unusedVariables false
set_option linter.unusedSimpArgs false
namespace Go.Proofs.YtjhbngjhdmapmaaGreatDoor
open Go Go.E
set_option maxRecDepth 100000

def inTo (l : List UInt8) (k : Nat) : Nat → Bool := fun i => (l.take k).any fun u => decide (i = u.toNat)
theorem inTo_zero (l : List UInt8) : BSet.make (inTo l 0) = BSet.zero := by
  rw [show inTo l 0 = fun _ => false from by funext i; simp [inTo]]; exact BSet.make_zero
theorem inTo_succ {l : List UInt8} {k : Nat} (h : k < l.length) : (fun i => inTo l k i || decide (i = (nth l k 0).toNat)) = inTo l (k + 1) := by
  funext i; simp [inTo, take_succ_nth l h 0]
theorem inTo_all (l : List UInt8) : BSet.make (inTo l l.length) = BSet.ofL l := by
  unfold inTo BSet.ofL; rw [List.take_length]
theorem two_pow_lt {a : Nat} (h : a < 64) : 2 ^ a < 18446744073709551616 := Nat.lt_of_le_of_lt (Nat.pow_le_pow_right (by omega) (show a ≤ 63 by omega)) (by decide)

theorem of_con (σ : Store) (a : Option Addr) (c : Nat) (l : List UInt8) (hsz : l.length ≤ 1000000000000) :
    Con Tryz.prog 41 #[.slice a l.length c] σ [Res.rowS 5 1 encU8 (.slice a l.length c) l] (PureP (setV (BSet.ofL l)) σ) := by
  refine Con.mk (n := 23) Tryz.func41 rfl rfl rfl (fun w0 => ?_)
  refine TC.seq ?_
  refine TC.region ?_
  refine TL.op rfl (OpOk.alloc rfl ze64 rfl rfl (fun b1 => ?_))
  refine TL.nil ?_
  refine S.n ?_
  refine TC.seq ?_
  refine TC.region ?_
  refine TL.op rfl (OpOk.alloc rfl ze64 rfl rfl (fun b3 => ?_))
  refine TL.nil ?_
  refine S.n ?_
  refine TC.seq ?_
  refine TC.seq ?_
  refine TC.region ?_
  refine TL.v rfl (OpVal.moveSl (.inl rfl) rfl) rfl rfl ?_
  refine TL.v rfl (OpVal.lenC rfl Tryz.underlying60 rfl) rfl rfl ?_
  refine TL.v rfl (OpVal.moveI (.inl rfl) rfl) rfl rfl ?_
  refine TL.nil ?_
  refine S.n ?_
  refine TC.block ?_
  refine TC.loopF (α := Nat) [5, 8, 9, 10, 11, 12, 13, 14, 15, 16, 17, 18, 19, 20, 21] (fun k => [(8, .int .i64 (k : Nat))]) (fun k => [Res.cells b3 (setA (BSet.make (inTo l k))) 64, Res.cells b1 (setA BSet.zero) 64, Res.rowS 5 1 encU8 (.slice a l.length c) l]) (fun _ => _) (fun k => k ≤ l.length) (fun k => l.length - k) (0) (by first | exact True.intro | omega | (dsimp only; omega) | (simp; done) | (simp; omega)) (by repeat (first | exact trivial | refine ⟨rfl, ?_⟩)) (by rw [inTo_zero]; rfl) (by rfl) (fun g1 j1 hg1 => ?_)
  have hu : (nth l g1 (0 : UInt8)).toNat < 256 := UInt8.toNat_lt _
  have hp := two_pow_lt (Nat.mod_lt (nth l g1 (0 : UInt8)).toNat (show 0 < 64 by omega))
  have hw := BSet.word_lt (BSet.make_ok (inTo l g1)) ((nth l g1 (0 : UInt8)).toNat / 64)
  refine TC.seq ?_
  refine TC.region ?_
  refine TL.v rfl (OpVal.lss rfl rfl rfl) rfl rfl ?_
  refine TL.nil ?_
  refine S.n ?_
  refine TC.seq ?_
  refine TC.condD rfl (fun h5 => ?_) (fun h5 => ?_)
  · try simp only [decide_eq_true_eq, decide_eq_false_iff_not, Bool.not_eq_true', Bool.not_eq_false', Bool.not_eq_eq_eq_not, Bool.not_true, Bool.not_false, Int.not_lt, Int.not_le, Decidable.not_not] at h5
    refine TC.skip ?_
    refine S.n ?_
    refine TC.seq ?_
    refine TC.block ?_
    refine TC.seq ?_
    refine TC.region ?_
    refine TL.isSl (i := 2) rfl (fun hs6 _ _ => ?_)
    refine TL.v rfl (OpVal.indexN rfl Tryz.underlying60 sz5 rfl rfl (by first | assumption | exact (RS.rv (by assumption)).sl) (by omega)) rfl rfl ?_
    refine TL.v rfl (OpVal.loadO1 (0 : UInt8) rfl ag5 rfl (q := 2) rfl encU8_len (by omega) rfl) rfl rfl ?_
    refine TL.v rfl (OpVal.moveI (.inr rfl) rfl) rfl rfl ?_
    refine TL.nil ?_
    refine S.n ?_
    refine TC.region ?_
    refine TL.v rfl (OpVal.moveI (.inl rfl) rfl) rfl rfl ?_
    refine TL.v rfl (OpVal.quoN (b := 64) rfl rfl rfl (by omega) (by simp only [kmax]; omega)) rfl rfl ?_
    refine TL.v rfl (OpVal.indexArrN rfl Tryz.underlying64 sz62 rfl rfl (by omega)) rfl rfl ?_
    refine TL.v rfl (OpVal.loadWord rfl ag62 rfl (j := 0) rfl (by omega)) rfl rfl ?_
    refine TL.v rfl (OpVal.moveI (.inl rfl) rfl) rfl rfl ?_
    refine TL.v rfl (OpVal.remN (b := 64) rfl rfl rfl (by omega)) rfl rfl ?_
    refine TL.v rfl (OpVal.shlN (a := 1) rfl rfl rfl (by show _ < 64; omega) (by simp only [kmax]; omega)) rfl rfl ?_
    refine TL.v rfl (OpVal.orN rfl rfl rfl (by omega) (by omega)) rfl rfl ?_
    refine TL.v rfl (OpVal.indexArrN rfl Tryz.underlying64 sz62 rfl rfl (by omega)) rfl rfl ?_
    refine TL.op rfl (OpOk.storeWord rfl sz62 rfl rfl rfl (by omega) (Nat.or_lt_two_pow (n := 64) hw (by omega)) ?_)
    refine TL.nil ?_
    refine B.n ?_
    refine S.n ?_
    refine TC.region ?_
    refine TL.v rfl (OpVal.succ rfl rfl rfl (by omega)) rfl rfl ?_
    refine TL.v rfl (OpVal.moveI (.inl rfl) rfl) rfl rfl ?_
    refine TL.nil ?_
    refine S.n ?_
    -- leaf 1 next [h5: True] H=['q4', 'q2', 'r0']
    refine ⟨by repeat (first | exact Agr.mask | refine Agr.upd rfl ?_ | refine Agr.maskIn rfl ?_), g1 + 1, ?_, ?_, ?_, ?_, ?_⟩
    · omega
    · first | exact True.intro | omega | (dsimp only; omega) | (simp; done) | (simp; omega)
    · repeat (first | exact trivial | refine ⟨rfl, ?_⟩)
    · rw [BSet.make_or _ hu, inTo_succ (by omega)]
    · rfl
  · try simp only [decide_eq_true_eq, decide_eq_false_iff_not, Bool.not_eq_true', Bool.not_eq_false', Bool.not_eq_eq_eq_not, Bool.not_true, Bool.not_false, Int.not_lt, Int.not_le, Decidable.not_not] at h5
    refine TC.exit ?_
    refine S.x ?_
    refine S.x ?_
    refine TC.exitHere ?_
    refine S.n ?_
    refine TC.seq ?_
    refine TC.region ?_
    refine TL.v rfl (OpVal.loadAll rfl ag64 sz64 rfl (i := 0) rfl rfl) rfl rfl ?_
    refine TL.front 1 rfl rfl ?_
    refine TL.op rfl (OpOk.storeAll rfl sz64 rfl rfl rfl rfl rfl rfl ?_)
    refine TL.nil ?_
    refine S.n ?_
    refine TC.ret ?_
    -- leaf 2 ret [h5: False] H=['q2', 'q4', 'r0']
    obtain rfl : g1 = l.length := by omega
    rw [inTo_all]
    exact retCellP 0 rfl ag64 sz64 rfl rfl rfl rfl

end Go.Proofs.YtjhbngjhdmapmaaGreatDoor
end

/- Data4 -/
section
/- Tables of rows, as plain data. No program, no condition. -/
set_option linter.unusedVariables false
set_option linter.unusedSimpArgs false
namespace Go.E
open Go
structure IStore where
  rows : List (List Int)
  places : FM (List UInt8) Int
structure ITable where
  of : IStore
structure RTable where
  l : List (List Int)
def ITable.zero : ITable := ⟨⟨[], FM.emp⟩⟩
def RTable.zero : RTable := ⟨[]⟩
end Go.E
end

/- Dec10 -/
section
/- More of rows in a row. Plain lemmas over any program; no condition. -/
set_option linter.unusedVariables false
set_option linter.unusedSimpArgs false
namespace Go.E
open Go
section
variable {β : Type} {E' E size : Nat} {enc : β → List Value} {v : Value}
theorem sees_nestX {σ : Store} {H : List Res} {q i : Nat} {z : List (NP β)} (hq : H[q]? = some (Res.nestX E' E size enc v z i)) (w : World) (h : Sees σ H w) : Sees σ [Res.rowS E' 1 encN v z] w :=
  ⟨h.1, fun r hr => by
    simp at hr; subst hr
    exact h.2 _ (List.mem_of_getElem? hq) _ (List.mem_cons_self ..)⟩
theorem isSl_nestX {σ : Store} {H : List Res} {q i : Nat} {z : List (NP β)} {l : List (List β)} (hq : H[q]? = some (Res.nestX E' E size enc v z i)) (hZ : Zn z l) (w : World) (h : Sees σ H w) : IsSl v l.length ∧ l.length ≤ 281474976710656 := by
  have := isSl_seen (H := H) (sees_nestX hq w h)
  rw [hZ.len] at this; exact this
end
/-- A drawn region of which only a part of the resources stays as it is. -/
theorem TC.drawR {X : Ctx} {Q : QP} {id : Nat} {ops : Array Oper} {e : Env} {σ : Store} {H Hr : List Res} (hs : ∀ r ∈ Hr, r ∈ H) (late : List Nat) (hm : X.P.follows .mixedOrders = true) (h : TA X ops Q σ Hr late ops.size (Array.replicate ops.size false) e σ H) (hnd : noDeferB ops = true := by kernel_rfl) : TC X Q (.region id ops true) e σ H := fun w a hw ha =>
  Go.wpIn_mono (wpIn_region_any hm (wpAny_of_late _ _ _ _ (h (noDefer_of hnd) w.drew a hw.drew (sees_of (Store.le.refl _) hs _ hw.drew.sees) (closed_start _ _) ha))) fun ex a w h => by
    cases ex <;> first | exact h | exact h.elim
section
variable {P : Program} {n : Nat} {e : Env} {σ : Store} {H : List Res} {o : Oper} {x y : Operand} {T T' : TypeId} {k : IntKind} {a b : Int}
theorem OpVal.quoW (ho : o.op = .binOp .quo T x y T') (hx : ev e x = .int k a) (hy : ev e y = .int k b) (h : b ≠ 0) : OpVal P n o e σ H (.int k (k.wrap (a.tdiv b))) := .bin ho hx hy fun w => by simp [binOp, Op.intDiv, h]
theorem OpVal.remW (ho : o.op = .binOp .rem T x y T') (hx : ev e x = .int k a) (hy : ev e y = .int k b) (h : b ≠ 0) : OpVal P n o e σ H (.int k (a.tmod b)) := .bin ho hx hy fun w => by simp [binOp, Op.intDiv, h]
end
/-- A word of a set that lies within a variable. -/
theorem OpVal.loadWordAt {P : Program} {n : Nat} {e : Env} {σ : Store} {H : List Res} {o : Oper} {x : Operand} {T b E i j off : Nat} {cs : Array Value} (s : BSet) (ho : o.op = .load T x) (hA : aggOf P T = some false) (hx : ev e x = loc b (off + i * 1)) (hi : H[j]? = some (Res.cells b cs E)) (hk : i < 4)
    (hc : (cs.toList.drop off).take 4 = s.vals) : OpVal P n o e σ H (.int .u64 ((s.word i : Nat) : Int)) := by
  refine OpVal.loadLoc ho hA hx hi ?_
  have h1 : ((cs.toList.drop off).take 4)[i]? = some (.int .u64 ((s.word i : Nat) : Int)) := by
    rw [hc]
    match i, hk with
    | 0, _ => rfl
    | 1, _ => rfl
    | 2, _ => rfl
    | 3, _ => rfl
  rw [List.getElem?_take, if_pos hk, List.getElem?_drop] at h1
  rw [Nat.mul_one]; simpa using h1
end Go.E
end

/- I1 -/
section
/- Decompiled: rows of numbers, in order, and their tables. -/
set_option linter.unusedVariables false
set_option linter.unusedSimpArgs false
namespace Go.Proofs.YtjhbngjhdmapmaaGreatDoor
open Go Go.E Go.E.OpVal Go.E.OpOk
set_option maxRecDepth 100000
private theorem pf157 : Go.E.plainF Tryz.prog 157 = true := by kernel_rfl
noncomputable def cmp_isNaN (x0 : Int) : Option (Bool) :=
 some (decide (x0 ≠ x0))
theorem cmp_isNaN_con {σ : Store} {x0 : Int}  {r : Bool} (hh : cmp_isNaN x0 = some r) :
  Con Tryz.prog 157 #[.int .i64 x0] σ [] (PureP (.bool r) σ) := by
 dsimp only [cmp_isNaN] at hh
 refine Con.mk (n := 6) Tryz.func157 z z z (fun w0 => ?_)
 refine TC.a (TL.j z z (TL.en (TC.a (TL.i z z (TL.i z z (TL.w z (OpVal.neq z z z) (TL.j z z (TL.en (TC.ret ?_)))))))))
 obtain rfl := so hh
 exact rq [2] ⟨z, z, z⟩

noncomputable def cmp_Compare (x0 : Int) (x1 : Int) : Option (Int) :=
 bnd (cmp_isNaN x0) (fun v3 => bnd (cmp_isNaN x1) (fun v6 => iteO v3 (iteO v6 (some 0) (some (-1))) (iteO v6 (some 1) (iteO (decide (x0 < x1)) (some (-1)) (iteO (decide (x1 < x0)) (some 1) (some 0))))))
theorem cmp_Compare_con {σ : Store} {x0 : Int} {x1 : Int}  {r : Int} (hh : cmp_Compare x0 x1 = some r) :
  Con Tryz.prog 123 #[.int .i64 x0, .int .i64 x1] σ [] (PureP (.int .i64 r) σ) := by
 dsimp only [cmp_Compare] at hh
 refine Con.mk (n := 20) Tryz.func123 z z z (fun w0 => ?_)
 refine TC.a (TL.i z z (TL.en (TC.a (TL.i z z ?_))))
 obtain ⟨v3, u3, hh⟩ := bnd_e hh
 refine TL.op z (callP (cmp_isNaN_con u3) z z pf157 z z z ?_)
 refine TL.j z z (TL.en (TC.a (TL.i z z ?_)))
 obtain ⟨v6, u6, hh⟩ := bnd_e hh
 refine TL.op z (callP (cmp_isNaN_con u6) z z pf157 z z z ?_)
 refine TL.j z z (TL.en (TC.seq (TC.a (TL.j z z (TL.en (TC.cB z hh (fun h101 hh => ?_) (fun h101 hh => ?_)))))))
 ·refine TC.seq (TC.a (TL.j z z (TL.en (TC.cB z hh (fun h102 hh => ?_) (fun h102 hh => ?_)))))
  ·refine TC.a (TL.i z z (TL.en (TC.ret (S.r (S.r ?_)))))
   obtain rfl := so hh
   exact rq [4] ⟨z, z, z⟩
  ·refine TC.skip (S.n (TC.a (TL.i z z (TL.en (TC.ret (S.r ?_))))))
   obtain rfl := so hh
   exact rq [4] ⟨z, z, z⟩
 ·refine TC.skip (S.n (TC.seq (TC.a (TL.j z z (TL.en (TC.cB z hh (fun h103 hh => ?_) (fun h103 hh => ?_)))))))
  ·refine TC.a (TL.i z z (TL.en (TC.ret (S.r ?_))))
   obtain rfl := so hh
   exact rq [4] ⟨z, z, z⟩
  ·refine TC.skip (S.n (TC.seq (TC.a (TL.i z z (TL.i z z (TL.w z (OpVal.lss z z z) (TL.en (TC.cD z hh (fun h104 hh => ?_) (fun h104 hh => ?_)))))))))
   ·refine TC.a (TL.i z z (TL.en (TC.ret (S.r ?_))))
    obtain rfl := so hh
    exact rq [4] ⟨z, z, z⟩
   ·refine TC.skip (S.n (TC.seq (TC.a (TL.i z z (TL.i z z (TL.w z (OpVal.gtr z z z) (TL.en (TC.cD z hh (fun h105 hh => ?_) (fun h105 hh => ?_)))))))))
    ·refine TC.a (TL.i z z (TL.en (TC.ret (S.r ?_))))
     obtain rfl := so hh
     exact rq [4] ⟨z, z, z⟩
    ·refine TC.skip (S.n (TC.a (TL.i z z (TL.en (TC.ret ?_)))))
     obtain rfl := so hh
     exact rq [4] ⟨z, z, z⟩

end Go.Proofs.YtjhbngjhdmapmaaGreatDoor
end

/- L2 -/
section
/- The numbers at which the kit's contracts of the library lie in this program. -/
set_option linter.unusedVariables false
set_option linter.unusedSimpArgs false
namespace Go.Proofs.YtjhbngjhdmapmaaGreatDoor
open Go Go.Shelf
set_option maxRecDepth 100000
def layS_ren : Go.Shelf.Ren := ⟨fun | 6 => 89 | 15 => 130 | 14 => 129 | 28 => 168 | 29 => 169 | 20 => 160 | 21 => 161 | 22 => 162 | 23 => 163 | 24 => 164 | 25 => 165 | 26 => 166 | 27 => 167 | 46 => 210 | 47 => 211 | 48 => 212 | 49 => 213 | 50 => 214 | 57 => 226 | n => n, fun | 22 => 35 | 24 => 9 | 25 => 93 | 3 => 3 | 39 => 192 | 0 => 0 | 53 => 241 | 55 => 62 | 4 => 4 | 46 => 234 | 45 => 233 | 50 => 238 | 5 => 5 | 9 => 9 | 66 => 278 | 70 => 282 | 76 => 292 | 77 => 293 | n => n, fun | n => n⟩
theorem layS : Go.Proofs.SlLaysF.n6 Tryz.prog layS_ren := {
  mixed := by kernel_rfl,
  f6 := ⟨Tryz.f89.name, by decide, Tryz.func89.trans (congrArg some (by kernel_rfl))⟩,
  f14 := ⟨Tryz.f129.name, by decide, Tryz.func129.trans (congrArg some (by kernel_rfl))⟩,
  f15 := Tryz.func130.trans (congrArg some (by kernel_rfl)),
  f20 := ⟨Tryz.f160.name, by decide, Tryz.func160.trans (congrArg some (by kernel_rfl))⟩,
  f21 := ⟨Tryz.f161.name, by decide, Tryz.func161.trans (congrArg some (by kernel_rfl))⟩,
  f22 := ⟨Tryz.f162.name, by decide, Tryz.func162.trans (congrArg some (by kernel_rfl))⟩,
  f23 := ⟨Tryz.f163.name, by decide, Tryz.func163.trans (congrArg some (by kernel_rfl))⟩,
  f24 := ⟨Tryz.f164.name, by decide, Tryz.func164.trans (congrArg some (by kernel_rfl))⟩,
  f25 := ⟨Tryz.f165.name, by decide, Tryz.func165.trans (congrArg some (by kernel_rfl))⟩,
  f26 := ⟨Tryz.f166.name, by decide, Tryz.func166.trans (congrArg some (by kernel_rfl))⟩,
  f27 := ⟨Tryz.f167.name, by decide, Tryz.func167.trans (congrArg some (by kernel_rfl))⟩,
  f28 := Tryz.func168.trans (congrArg some (by kernel_rfl)),
  f29 := Tryz.func169.trans (congrArg some (by kernel_rfl)),
  f46 := ⟨Tryz.f210.name, by decide, Tryz.func210.trans (congrArg some (by kernel_rfl))⟩,
  f47 := Tryz.func211.trans (congrArg some (by kernel_rfl)),
  f48 := Tryz.func212.trans (congrArg some (by kernel_rfl)),
  f49 := ⟨Tryz.f213.name, by decide, Tryz.func213.trans (congrArg some (by kernel_rfl))⟩,
  f50 := ⟨Tryz.f214.name, by decide, Tryz.func214.trans (congrArg some (by kernel_rfl))⟩,
  f57 := ⟨Tryz.f226.name, by decide, Tryz.func226.trans (congrArg some (by kernel_rfl))⟩,
  t0 := Tryz.underlying0,
  a0 := Tryz.isAgg0,
  z0 := Tryz.sizeOf0,
  v0 := Tryz.zeroValue0,
  t3 := Tryz.underlying3,
  a3 := Tryz.isAgg3,
  z3 := Tryz.sizeOf3,
  v3 := Tryz.zeroValue3,
  t4 := Tryz.underlying4,
  a4 := Tryz.isAgg4,
  z4 := Tryz.sizeOf4,
  v4 := Tryz.zeroValue4,
  t5 := Tryz.underlying5,
  a5 := Tryz.isAgg5,
  z5 := Tryz.sizeOf5,
  v5 := Tryz.zeroValue5,
  t9 := Tryz.underlying9,
  a9 := Tryz.isAgg9,
  z9 := Tryz.sizeOf9,
  v9 := Tryz.zeroValue9,
  t22 := Tryz.underlying35,
  a22 := Tryz.isAgg35,
  z22 := Tryz.sizeOf35,
  v22 := Tryz.zeroValue35,
  a24 := Tryz.isAgg9,
  z24 := Tryz.sizeOf9,
  t25 := Tryz.underlying93,
  a25 := Tryz.isAgg93,
  z25 := Tryz.sizeOf93,
  v25 := Tryz.zeroValue93,
  t39 := Tryz.underlying192,
  a39 := Tryz.isAgg192,
  z39 := Tryz.sizeOf192,
  v39 := Tryz.zeroValue192,
  t45 := Tryz.underlying233,
  a45 := Tryz.isAgg233,
  z45 := Tryz.sizeOf233,
  v45 := Tryz.zeroValue233,
  t46 := Tryz.underlying234,
  a46 := Tryz.isAgg234,
  z46 := Tryz.sizeOf234,
  v46 := Tryz.zeroValue234,
  t50 := Tryz.underlying238,
  a50 := Tryz.isAgg238,
  z50 := Tryz.sizeOf238,
  v50 := Tryz.zeroValue238,
  t53 := Tryz.underlying241,
  a53 := Tryz.isAgg241,
  z53 := Tryz.sizeOf241,
  v53 := Tryz.zeroValue241,
  t55 := Tryz.underlying62,
  a55 := Tryz.isAgg62,
  z55 := Tryz.sizeOf62,
  v55 := Tryz.zeroValue62,
  t66 := Tryz.underlying278,
  a66 := Tryz.isAgg278,
  z66 := Tryz.sizeOf278,
  v66 := Tryz.zeroValue278,
  t70 := Tryz.underlying282,
  a70 := Tryz.isAgg282,
  z70 := Tryz.sizeOf282,
  v70 := Tryz.zeroValue282,
  t76 := Tryz.underlying292,
  a76 := Tryz.isAgg292,
  z76 := Tryz.sizeOf292,
  v76 := Tryz.zeroValue292,
  t77 := Tryz.underlying293,
  a77 := Tryz.isAgg293,
  z77 := Tryz.sizeOf293,
  v77 := Tryz.zeroValue293 }

def layS0_ren : Go.Shelf.Ren := ⟨fun | 6 => 89 | 15 => 130 | 14 => 129 | 28 => 168 | 29 => 169 | 20 => 160 | 21 => 161 | 22 => 162 | 23 => 163 | 24 => 164 | 25 => 165 | 26 => 166 | 27 => 167 | 46 => 210 | 47 => 211 | 48 => 212 | 49 => 213 | 50 => 214 | 57 => 226 | n => n, fun | 22 => 35 | 24 => 9 | 25 => 93 | 3 => 3 | 39 => 192 | 0 => 0 | 53 => 241 | 55 => 62 | 4 => 4 | 46 => 234 | 45 => 233 | 50 => 238 | 5 => 5 | 9 => 9 | 66 => 278 | 70 => 282 | 76 => 292 | 77 => 293 | n => n, fun | n => n⟩
theorem layS0 : Go.Proofs.SlLaysF0.n6 Tryz.prog layS0_ren := {
  mixed := by kernel_rfl,
  f6 := ⟨Tryz.f89.name, by decide, Tryz.func89.trans (congrArg some (by kernel_rfl))⟩,
  f14 := ⟨Tryz.f129.name, by decide, Tryz.func129.trans (congrArg some (by kernel_rfl))⟩,
  f15 := Tryz.func130.trans (congrArg some (by kernel_rfl)),
  f20 := ⟨Tryz.f160.name, by decide, Tryz.func160.trans (congrArg some (by kernel_rfl))⟩,
  f21 := ⟨Tryz.f161.name, by decide, Tryz.func161.trans (congrArg some (by kernel_rfl))⟩,
  f22 := ⟨Tryz.f162.name, by decide, Tryz.func162.trans (congrArg some (by kernel_rfl))⟩,
  f23 := ⟨Tryz.f163.name, by decide, Tryz.func163.trans (congrArg some (by kernel_rfl))⟩,
  f24 := ⟨Tryz.f164.name, by decide, Tryz.func164.trans (congrArg some (by kernel_rfl))⟩,
  f25 := ⟨Tryz.f165.name, by decide, Tryz.func165.trans (congrArg some (by kernel_rfl))⟩,
  f26 := ⟨Tryz.f166.name, by decide, Tryz.func166.trans (congrArg some (by kernel_rfl))⟩,
  f27 := ⟨Tryz.f167.name, by decide, Tryz.func167.trans (congrArg some (by kernel_rfl))⟩,
  f28 := Tryz.func168.trans (congrArg some (by kernel_rfl)),
  f29 := Tryz.func169.trans (congrArg some (by kernel_rfl)),
  f46 := ⟨Tryz.f210.name, by decide, Tryz.func210.trans (congrArg some (by kernel_rfl))⟩,
  f47 := Tryz.func211.trans (congrArg some (by kernel_rfl)),
  f48 := Tryz.func212.trans (congrArg some (by kernel_rfl)),
  f49 := ⟨Tryz.f213.name, by decide, Tryz.func213.trans (congrArg some (by kernel_rfl))⟩,
  f50 := ⟨Tryz.f214.name, by decide, Tryz.func214.trans (congrArg some (by kernel_rfl))⟩,
  f57 := ⟨Tryz.f226.name, by decide, Tryz.func226.trans (congrArg some (by kernel_rfl))⟩,
  t0 := Tryz.underlying0,
  a0 := Tryz.isAgg0,
  z0 := Tryz.sizeOf0,
  v0 := Tryz.zeroValue0,
  t3 := Tryz.underlying3,
  a3 := Tryz.isAgg3,
  z3 := Tryz.sizeOf3,
  v3 := Tryz.zeroValue3,
  t4 := Tryz.underlying4,
  a4 := Tryz.isAgg4,
  z4 := Tryz.sizeOf4,
  v4 := Tryz.zeroValue4,
  t5 := Tryz.underlying5,
  a5 := Tryz.isAgg5,
  z5 := Tryz.sizeOf5,
  v5 := Tryz.zeroValue5,
  t9 := Tryz.underlying9,
  a9 := Tryz.isAgg9,
  z9 := Tryz.sizeOf9,
  v9 := Tryz.zeroValue9,
  t22 := Tryz.underlying35,
  a22 := Tryz.isAgg35,
  z22 := Tryz.sizeOf35,
  v22 := Tryz.zeroValue35,
  t25 := Tryz.underlying93,
  a25 := Tryz.isAgg93,
  z25 := Tryz.sizeOf93,
  v25 := Tryz.zeroValue93,
  t39 := Tryz.underlying192,
  a39 := Tryz.isAgg192,
  z39 := Tryz.sizeOf192,
  v39 := Tryz.zeroValue192,
  t45 := Tryz.underlying233,
  a45 := Tryz.isAgg233,
  z45 := Tryz.sizeOf233,
  v45 := Tryz.zeroValue233,
  t46 := Tryz.underlying234,
  a46 := Tryz.isAgg234,
  z46 := Tryz.sizeOf234,
  v46 := Tryz.zeroValue234,
  t50 := Tryz.underlying238,
  a50 := Tryz.isAgg238,
  z50 := Tryz.sizeOf238,
  v50 := Tryz.zeroValue238,
  t53 := Tryz.underlying241,
  a53 := Tryz.isAgg241,
  z53 := Tryz.sizeOf241,
  v53 := Tryz.zeroValue241,
  t55 := Tryz.underlying62,
  a55 := Tryz.isAgg62,
  z55 := Tryz.sizeOf62,
  v55 := Tryz.zeroValue62,
  t66 := Tryz.underlying278,
  a66 := Tryz.isAgg278,
  z66 := Tryz.sizeOf278,
  v66 := Tryz.zeroValue278,
  t70 := Tryz.underlying282,
  a70 := Tryz.isAgg282,
  z70 := Tryz.sizeOf282,
  v70 := Tryz.zeroValue282,
  t76 := Tryz.underlying292,
  a76 := Tryz.isAgg292,
  z76 := Tryz.sizeOf292,
  v76 := Tryz.zeroValue292,
  t77 := Tryz.underlying293,
  a77 := Tryz.isAgg293,
  z77 := Tryz.sizeOf293,
  v77 := Tryz.zeroValue293 }

def layT0_ren : Go.Shelf.Ren := ⟨fun | 6 => 120 | 15 => 130 | 14 => 156 | 28 => 168 | 29 => 169 | 20 => 193 | 21 => 194 | 22 => 195 | 23 => 196 | 24 => 197 | 25 => 198 | 26 => 199 | 27 => 200 | 46 => 220 | 47 => 211 | 48 => 212 | 49 => 221 | 50 => 222 | 57 => 229 | n => n, fun | 22 => 22 | 24 => 53 | 25 => 144 | 3 => 3 | 39 => 192 | 0 => 0 | 53 => 241 | 55 => 62 | 4 => 4 | 46 => 234 | 45 => 233 | 50 => 238 | 5 => 5 | 9 => 9 | 66 => 278 | 70 => 282 | 76 => 292 | 77 => 293 | n => n, fun | n => n⟩
theorem layT0 : Go.Proofs.SlLaysF0.n6 Tryz.prog layT0_ren := {
  mixed := by kernel_rfl,
  f6 := ⟨Tryz.f120.name, by decide, Tryz.func120.trans (congrArg some (by kernel_rfl))⟩,
  f14 := ⟨Tryz.f156.name, by decide, Tryz.func156.trans (congrArg some (by kernel_rfl))⟩,
  f15 := Tryz.func130.trans (congrArg some (by kernel_rfl)),
  f20 := ⟨Tryz.f193.name, by decide, Tryz.func193.trans (congrArg some (by kernel_rfl))⟩,
  f21 := ⟨Tryz.f194.name, by decide, Tryz.func194.trans (congrArg some (by kernel_rfl))⟩,
  f22 := ⟨Tryz.f195.name, by decide, Tryz.func195.trans (congrArg some (by kernel_rfl))⟩,
  f23 := ⟨Tryz.f196.name, by decide, Tryz.func196.trans (congrArg some (by kernel_rfl))⟩,
  f24 := ⟨Tryz.f197.name, by decide, Tryz.func197.trans (congrArg some (by kernel_rfl))⟩,
  f25 := ⟨Tryz.f198.name, by decide, Tryz.func198.trans (congrArg some (by kernel_rfl))⟩,
  f26 := ⟨Tryz.f199.name, by decide, Tryz.func199.trans (congrArg some (by kernel_rfl))⟩,
  f27 := ⟨Tryz.f200.name, by decide, Tryz.func200.trans (congrArg some (by kernel_rfl))⟩,
  f28 := Tryz.func168.trans (congrArg some (by kernel_rfl)),
  f29 := Tryz.func169.trans (congrArg some (by kernel_rfl)),
  f46 := ⟨Tryz.f220.name, by decide, Tryz.func220.trans (congrArg some (by kernel_rfl))⟩,
  f47 := Tryz.func211.trans (congrArg some (by kernel_rfl)),
  f48 := Tryz.func212.trans (congrArg some (by kernel_rfl)),
  f49 := ⟨Tryz.f221.name, by decide, Tryz.func221.trans (congrArg some (by kernel_rfl))⟩,
  f50 := ⟨Tryz.f222.name, by decide, Tryz.func222.trans (congrArg some (by kernel_rfl))⟩,
  f57 := ⟨Tryz.f229.name, by decide, Tryz.func229.trans (congrArg some (by kernel_rfl))⟩,
  t0 := Tryz.underlying0,
  a0 := Tryz.isAgg0,
  z0 := Tryz.sizeOf0,
  v0 := Tryz.zeroValue0,
  t3 := Tryz.underlying3,
  a3 := Tryz.isAgg3,
  z3 := Tryz.sizeOf3,
  v3 := Tryz.zeroValue3,
  t4 := Tryz.underlying4,
  a4 := Tryz.isAgg4,
  z4 := Tryz.sizeOf4,
  v4 := Tryz.zeroValue4,
  t5 := Tryz.underlying5,
  a5 := Tryz.isAgg5,
  z5 := Tryz.sizeOf5,
  v5 := Tryz.zeroValue5,
  t9 := Tryz.underlying9,
  a9 := Tryz.isAgg9,
  z9 := Tryz.sizeOf9,
  v9 := Tryz.zeroValue9,
  t22 := Tryz.underlying22,
  a22 := Tryz.isAgg22,
  z22 := Tryz.sizeOf22,
  v22 := Tryz.zeroValue22,
  t25 := Tryz.underlying144,
  a25 := Tryz.isAgg144,
  z25 := Tryz.sizeOf144,
  v25 := Tryz.zeroValue144,
  t39 := Tryz.underlying192,
  a39 := Tryz.isAgg192,
  z39 := Tryz.sizeOf192,
  v39 := Tryz.zeroValue192,
  t45 := Tryz.underlying233,
  a45 := Tryz.isAgg233,
  z45 := Tryz.sizeOf233,
  v45 := Tryz.zeroValue233,
  t46 := Tryz.underlying234,
  a46 := Tryz.isAgg234,
  z46 := Tryz.sizeOf234,
  v46 := Tryz.zeroValue234,
  t50 := Tryz.underlying238,
  a50 := Tryz.isAgg238,
  z50 := Tryz.sizeOf238,
  v50 := Tryz.zeroValue238,
  t53 := Tryz.underlying241,
  a53 := Tryz.isAgg241,
  z53 := Tryz.sizeOf241,
  v53 := Tryz.zeroValue241,
  t55 := Tryz.underlying62,
  a55 := Tryz.isAgg62,
  z55 := Tryz.sizeOf62,
  v55 := Tryz.zeroValue62,
  t66 := Tryz.underlying278,
  a66 := Tryz.isAgg278,
  z66 := Tryz.sizeOf278,
  v66 := Tryz.zeroValue278,
  t70 := Tryz.underlying282,
  a70 := Tryz.isAgg282,
  z70 := Tryz.sizeOf282,
  v70 := Tryz.zeroValue282,
  t76 := Tryz.underlying292,
  a76 := Tryz.isAgg292,
  z76 := Tryz.sizeOf292,
  v76 := Tryz.zeroValue292,
  t77 := Tryz.underlying293,
  a77 := Tryz.isAgg293,
  z77 := Tryz.sizeOf293,
  v77 := Tryz.zeroValue293 }

def layA0_ren : Go.Shelf.Ren := ⟨fun | 6 => 125 | 15 => 130 | 14 => 158 | 28 => 168 | 29 => 169 | 20 => 201 | 21 => 202 | 22 => 203 | 23 => 204 | 24 => 205 | 25 => 206 | 26 => 207 | 27 => 208 | 46 => 223 | 47 => 211 | 48 => 212 | 49 => 224 | 50 => 225 | 57 => 230 | n => n, fun | 22 => 23 | 24 => 66 | 25 => 146 | 3 => 3 | 39 => 192 | 0 => 0 | 53 => 241 | 55 => 62 | 4 => 4 | 46 => 234 | 45 => 233 | 50 => 238 | 5 => 5 | 9 => 9 | 66 => 278 | 70 => 282 | 76 => 292 | 77 => 293 | n => n, fun | n => n⟩
theorem layA0 : Go.Proofs.SlLaysF0.n6 Tryz.prog layA0_ren := {
  mixed := by kernel_rfl,
  f6 := ⟨Tryz.f125.name, by decide, Tryz.func125.trans (congrArg some (by kernel_rfl))⟩,
  f14 := ⟨Tryz.f158.name, by decide, Tryz.func158.trans (congrArg some (by kernel_rfl))⟩,
  f15 := Tryz.func130.trans (congrArg some (by kernel_rfl)),
  f20 := ⟨Tryz.f201.name, by decide, Tryz.func201.trans (congrArg some (by kernel_rfl))⟩,
  f21 := ⟨Tryz.f202.name, by decide, Tryz.func202.trans (congrArg some (by kernel_rfl))⟩,
  f22 := ⟨Tryz.f203.name, by decide, Tryz.func203.trans (congrArg some (by kernel_rfl))⟩,
  f23 := ⟨Tryz.f204.name, by decide, Tryz.func204.trans (congrArg some (by kernel_rfl))⟩,
  f24 := ⟨Tryz.f205.name, by decide, Tryz.func205.trans (congrArg some (by kernel_rfl))⟩,
  f25 := ⟨Tryz.f206.name, by decide, Tryz.func206.trans (congrArg some (by kernel_rfl))⟩,
  f26 := ⟨Tryz.f207.name, by decide, Tryz.func207.trans (congrArg some (by kernel_rfl))⟩,
  f27 := ⟨Tryz.f208.name, by decide, Tryz.func208.trans (congrArg some (by kernel_rfl))⟩,
  f28 := Tryz.func168.trans (congrArg some (by kernel_rfl)),
  f29 := Tryz.func169.trans (congrArg some (by kernel_rfl)),
  f46 := ⟨Tryz.f223.name, by decide, Tryz.func223.trans (congrArg some (by kernel_rfl))⟩,
  f47 := Tryz.func211.trans (congrArg some (by kernel_rfl)),
  f48 := Tryz.func212.trans (congrArg some (by kernel_rfl)),
  f49 := ⟨Tryz.f224.name, by decide, Tryz.func224.trans (congrArg some (by kernel_rfl))⟩,
  f50 := ⟨Tryz.f225.name, by decide, Tryz.func225.trans (congrArg some (by kernel_rfl))⟩,
  f57 := ⟨Tryz.f230.name, by decide, Tryz.func230.trans (congrArg some (by kernel_rfl))⟩,
  t0 := Tryz.underlying0,
  a0 := Tryz.isAgg0,
  z0 := Tryz.sizeOf0,
  v0 := Tryz.zeroValue0,
  t3 := Tryz.underlying3,
  a3 := Tryz.isAgg3,
  z3 := Tryz.sizeOf3,
  v3 := Tryz.zeroValue3,
  t4 := Tryz.underlying4,
  a4 := Tryz.isAgg4,
  z4 := Tryz.sizeOf4,
  v4 := Tryz.zeroValue4,
  t5 := Tryz.underlying5,
  a5 := Tryz.isAgg5,
  z5 := Tryz.sizeOf5,
  v5 := Tryz.zeroValue5,
  t9 := Tryz.underlying9,
  a9 := Tryz.isAgg9,
  z9 := Tryz.sizeOf9,
  v9 := Tryz.zeroValue9,
  t22 := Tryz.underlying23,
  a22 := Tryz.isAgg23,
  z22 := Tryz.sizeOf23,
  v22 := Tryz.zeroValue23,
  t25 := Tryz.underlying146,
  a25 := Tryz.isAgg146,
  z25 := Tryz.sizeOf146,
  v25 := Tryz.zeroValue146,
  t39 := Tryz.underlying192,
  a39 := Tryz.isAgg192,
  z39 := Tryz.sizeOf192,
  v39 := Tryz.zeroValue192,
  t45 := Tryz.underlying233,
  a45 := Tryz.isAgg233,
  z45 := Tryz.sizeOf233,
  v45 := Tryz.zeroValue233,
  t46 := Tryz.underlying234,
  a46 := Tryz.isAgg234,
  z46 := Tryz.sizeOf234,
  v46 := Tryz.zeroValue234,
  t50 := Tryz.underlying238,
  a50 := Tryz.isAgg238,
  z50 := Tryz.sizeOf238,
  v50 := Tryz.zeroValue238,
  t53 := Tryz.underlying241,
  a53 := Tryz.isAgg241,
  z53 := Tryz.sizeOf241,
  v53 := Tryz.zeroValue241,
  t55 := Tryz.underlying62,
  a55 := Tryz.isAgg62,
  z55 := Tryz.sizeOf62,
  v55 := Tryz.zeroValue62,
  t66 := Tryz.underlying278,
  a66 := Tryz.isAgg278,
  z66 := Tryz.sizeOf278,
  v66 := Tryz.zeroValue278,
  t70 := Tryz.underlying282,
  a70 := Tryz.isAgg282,
  z70 := Tryz.sizeOf282,
  v70 := Tryz.zeroValue282,
  t76 := Tryz.underlying292,
  a76 := Tryz.isAgg292,
  z76 := Tryz.sizeOf292,
  v76 := Tryz.zeroValue292,
  t77 := Tryz.underlying293,
  a77 := Tryz.isAgg293,
  z77 := Tryz.sizeOf293,
  v77 := Tryz.zeroValue293 }

end Go.Proofs.YtjhbngjhdmapmaaGreatDoor
end

/- Data2 -/
section
/- More plain data, and how they lie in cells. No program, no condition. -/
set_option linter.unusedVariables false
set_option linter.unusedSimpArgs false
namespace Go.E
open Go

structure Tip where
  state : Int
  out : List UInt8
  deriving DecidableEq
def Tip.zero : Tip := ⟨0, []⟩
def encTip (x : Tip) : List Value := [.int .i64 x.state, .string (bs x.out)]
theorem encTip_len (x : Tip) : (encTip x).length = 2 := rfl
theorem encTip_one : ∀ x, ∀ u ∈ encTip x, u.oneCell' = true := fun x u hu => by
  simp [encTip] at hu
  rcases hu with rfl | rfl <;> rfl
structure Arc where
  frm : Int
  to : Int
  set : BSet
  out : List UInt8
  copy : Bool
  deriving DecidableEq
def Arc.zero : Arc := ⟨0, 0, BSet.zero, [], false⟩
def encArc (x : Arc) : List Value := [.int .i64 x.frm, .int .i64 x.to, .int .u64 ((x.set.a : Nat) : Int), .int .u64 ((x.set.b : Nat) : Int), .int .u64 ((x.set.c : Nat) : Int), .int .u64 ((x.set.d : Nat) : Int), .string (bs x.out), .bool x.copy]
theorem encArc_len (x : Arc) : (encArc x).length = 8 := rfl
theorem encArc_one : ∀ x, ∀ u ∈ encArc x, u.oneCell' = true := fun x u hu => by
  simp [encArc] at hu
  rcases hu with rfl | rfl | rfl | rfl | rfl | rfl | rfl | rfl <;> rfl
structure FPair where
  state : Int
  out : List UInt8
  deriving DecidableEq
def FPair.zero : FPair := ⟨0, []⟩
def encFPair (x : FPair) : List Value := [.int .i64 x.state, .string (bs x.out)]
theorem encFPair_bits : ∀ x, ∀ u ∈ encFPair x, Bits u := fun x u hu => by
  simp [encFPair] at hu
  rcases hu with rfl | rfl <;> first | exact Bits.int _ _ | exact Bits.str _ | exact Bits.bool _
structure Span where
  frm : Int
  to : Int
  deriving DecidableEq
def Span.zero : Span := ⟨0, 0⟩
/-- A transducer. -/
structure Fst where
  states : Int
  starts : List Tip
  ends : List Tip
  arcs : List Arc
  deriving DecidableEq
def Fst.zero : Fst := ⟨0, [], [], []⟩
end Go.E
end

/- F1 -/
section
/- Decompiled: what a transducer relates. -/
set_option linter.unusedVariables false
set_option linter.unusedSimpArgs false
namespace Go.Proofs.YtjhbngjhdmapmaaGreatDoor
open Go Go.E Go.E.OpVal Go.E.OpOk Go.Proofs.Tryz
set_option maxRecDepth 100000
private theorem ag22 : Go.E.aggOf Tryz.prog 22 = some false := by kernel_rfl
private theorem ag23 : Go.E.aggOf Tryz.prog 23 = some false := by kernel_rfl
private theorem ag53 : Go.E.aggOf Tryz.prog 53 = some true := by kernel_rfl
private theorem ag66 : Go.E.aggOf Tryz.prog 66 = some true := by kernel_rfl
private theorem ag9 : Go.E.aggOf Tryz.prog 9 = some false := by kernel_rfl
private theorem fo25_0 : Go.E.foOf Tryz.prog 25 0 = some 0 := by kernel_rfl
private theorem fo25_1 : Go.E.foOf Tryz.prog 25 1 = some 1 := by kernel_rfl
private theorem fo25_2 : Go.E.foOf Tryz.prog 25 2 = some 2 := by kernel_rfl
private theorem fo25_3 : Go.E.foOf Tryz.prog 25 3 = some 3 := by kernel_rfl
private theorem fo53_0 : Go.E.foOf Tryz.prog 53 0 = some 0 := by kernel_rfl
private theorem fo53_1 : Go.E.foOf Tryz.prog 53 1 = some 1 := by kernel_rfl
private theorem fo66_0 : Go.E.foOf Tryz.prog 66 0 = some 0 := by kernel_rfl
private theorem fo66_1 : Go.E.foOf Tryz.prog 66 1 = some 1 := by kernel_rfl
private theorem fo66_2 : Go.E.foOf Tryz.prog 66 2 = some 2 := by kernel_rfl
private theorem fo66_3 : Go.E.foOf Tryz.prog 66 3 = some 6 := by kernel_rfl
private theorem fo66_4 : Go.E.foOf Tryz.prog 66 4 = some 7 := by kernel_rfl
private theorem fo89_0 : Go.E.foOf Tryz.prog 89 0 = some 0 := by kernel_rfl
private theorem fo89_1 : Go.E.foOf Tryz.prog 89 1 = some 1 := by kernel_rfl
private theorem es89 (x y : FPair) : Go.E.EqAt Tryz.prog 2 89 (.agg (Go.E.encFPair x).toArray) (.agg (Go.E.encFPair y).toArray) (decide (x = y)) :=
 (EqAt.struct (ts := [(false, 3, 0), (false, 9, 1)]) (by kernel_rfl) (by kernel_rfl) (by kernel_rfl) (EqC.one (by kernel_rfl) rfl rfl (EqAt.int underlying3 x.state y.state) (EqC.one (by kernel_rfl) rfl rfl (EqAt.str underlying9 x.out y.out) EqC.nil))).of (by rw [Bool.eq_iff_iff]; cases x; cases y; simp)
private theorem kl89 : Go.E.KeyL Tryz.prog 89 (fun x => Value.agg (Go.E.encFPair x).toArray) :=
 KeyL.struct underlying89 es89 rfl (fun x => CkAt.struct (n := 1) (ts := [(false, 3, 0), (false, 9, 1)]) (by kernel_rfl) (by kernel_rfl) (CkC.one (by kernel_rfl) rfl (CkAt.int underlying3 _) (CkC.one (by kernel_rfl) rfl (CkAt.str underlying9 _) CkC.nil))) rfl encFPair_bits
private theorem pf67 : Go.E.plainF Tryz.prog 67 = true := by kernel_rfl
private theorem pf68 : Go.E.plainF Tryz.prog 68 = true := by kernel_rfl
private theorem pf87 : Go.E.plainF Tryz.prog 87 = true := by kernel_rfl
private theorem pl87 : Go.E.plOf Tryz.prog 87 = some #[] := by kernel_rfl
private theorem pl89 : Go.E.plOf Tryz.prog 89 = some #[(0, 1), (1, 1)] := by kernel_rfl
private theorem sz23 : Go.E.szOf Tryz.prog 23 = some 1 := by kernel_rfl
private theorem sz53 : Go.E.szOf Tryz.prog 53 = some 2 := by kernel_rfl
private theorem sz66 : Go.E.szOf Tryz.prog 66 = some 8 := by kernel_rfl
private theorem sz89 : Go.E.szOf Tryz.prog 89 = some 2 := by kernel_rfl
private theorem ze5 : Go.E.zeroOf Tryz.prog 5 = some (.int .u8 0) := by kernel_rfl
private theorem ze53 : Go.E.zeroOf Tryz.prog 53 = some (.agg #[.int .i64 0, .string ByteArray.empty]) := by kernel_rfl
private theorem ze66 : Go.E.zeroOf Tryz.prog 66 = some (.agg #[.int .i64 0, .int .i64 0, .int .u64 0, .int .u64 0, .int .u64 0, .int .u64 0, .string ByteArray.empty, .bool false]) := by kernel_rfl
private theorem ze87 : Go.E.zeroOf Tryz.prog 87 = some (.agg #[]) := by kernel_rfl
private theorem ze89 : Go.E.zeroOf Tryz.prog 89 = some (.agg #[.int .i64 0, .string ByteArray.empty]) := by kernel_rfl

noncomputable def fst_state (x0 : Int) (x1 : Int) : Option (Bool) :=
 iteO (decide (0 ≤ x0)) (some (decide (x0 < x1))) (some false)
theorem fst_state_con {σ : Store} {x0 : Int} {x1 : Int}  {r : Bool} (hh : fst_state x0 x1 = some r) :
  Con Tryz.prog 68 #[.int .i64 x0, .int .i64 x1] σ [] (PureP (.bool r) σ) := by
 dsimp only [fst_state] at hh
 refine Con.mk (n := 12) Tryz.func68 z z z (fun w0 => ?_)
 refine TC.a (TL.j z z (TL.en (TC.a (TL.i z z (TL.w z (OpVal.leq z z z) (TL.j z z (TL.split 7 z (fun h101 => ?_) (fun h101 => ?_))))))))
 ·replace hh := iteO_t h101 hh
  replace h101 := of_decide_eq_true h101
  refine TL.g z (moveI (.inl z) z) (TL.g z (moveI (.inl z) z) (TL.g z (OpVal.lss z z z) (TL.w z (pickTB z z z) (TL.j z z (TL.en (TC.ret ?_))))))
  obtain rfl := so hh
  exact rq [4] ⟨z, z, z⟩
 ·replace hh := iteO_f h101 hh
  replace h101 := of_decide_eq_false h101
  refine TL.f z (TL.f z (TL.f z (TL.w z (pickFB z z z) (TL.j z z (TL.en (TC.ret ?_))))))
  obtain rfl := so hh
  exact rq [4] ⟨z, z, z⟩

noncomputable def fst_rightTips_b1 (x0 : List Tip) (x1 : Int) (k104 : Nat) : Option ((Nat) ⊕ (Bool)) :=
 iteO (decide (((k104 : Nat) : Int) < ((x0.length : Nat) : Int))) (bnd (fst_state ((nth x0 k104 Tip.zero).state) x1) (fun v17 => iteO (!v17) (fin (some false)) (iteO (decide (1024 < ((((nth x0 k104 Tip.zero).out).length : Nat) : Int))) (fin (some false)) (nxt (k104 + 1))))) (fin (some true))
noncomputable def fst_rightTips (x0 : List Tip) (x1 : Int) : Option (Bool) :=
 iteO (decide (1024 < ((x0.length : Nat) : Int))) (some false) (iter (fun q : Nat => fst_rightTips_b1 x0 x1 q) 0)
theorem fst_rightTips_con {σ : Store} {x0 : List Tip} {a0_0 : Option Addr} {c0_0 : Nat} {x1 : Int} (f0_0 : RS σ 2 encTip (.slice a0_0 x0.length c0_0) x0) {r : Bool} (hh : fst_rightTips x0 x1 = some r) :
  Con Tryz.prog 67 #[.slice a0_0 x0.length c0_0, .int .i64 x1] σ [] (PureP (.bool r) σ) := by
 dsimp only [fst_rightTips] at hh
 have f0_0b := f0_0.rv.big
 refine Con.mk (n := 28) Tryz.func67 z z z (fun w0 => ?_)
 refine TC.a (TL.j z z (TL.en (TC.seq (TC.a (TL.s z z (TL.w z (lenC z underlying22 z) (TL.w z (OpVal.gtr z z z) (TL.en (TC.cD z hh (fun h101 hh => ?_) (fun h101 hh => ?_))))))))))
 ·refine TC.a (TL.j z z (TL.en (TC.ret (S.r ?_))))
  obtain rfl := so hh
  exact rq [4] ⟨z, z, z⟩
 ·refine TC.skip (S.n (TC.seq (TC.a (TL.s z z (TL.w z (lenC z underlying22 z) (TL.i z z (TL.en (TC.block (TC.loopG (α := (Nat) × (Unit)) (rgs [(4, 1), (6, 1), (12, 16)]) (fun g => [(12, .int .i64 ((g.1 : Nat) : Int))]) (fun g => []) (fun g => σ) (fun g => iter (fun q : Nat => fst_rightTips_b1 x0 x1 q) g.1 = some r) (fun g => rounds (fun q : Nat => fst_rightTips_b1 x0 x1 q) g.1) (0, ()) (Sub.pre 0 z) z (by repeat (first | exact trivial | refine ⟨z, ?_⟩)) hh (fun g1 j1 hg1 => ?_))))))))))
  obtain ⟨k104, _⟩ := g1
  have hh := hg1; clear hg1
  try dsimp only
  obtain ⟨z1, hh, hR1⟩ := iter_e hh
  dsimp only [fst_rightTips_b1] at hh
  refine TC.a (TL.w z (OpVal.lss z z z) (TL.en (TC.seq (TC.cD z hh (fun h105 hh => ?_) (fun h105 hh => ?_)))))
  ·refine TC.skip (S.n (TC.seq (TC.block (TC.a (TL.w z (indexN z underlying22 sz53 z z f0_0.rv.sl (by omega)) (TL.w z (loadSA Tip.zero z ag53 sz53 z f0_0 (by omega) (by omega)) (TL.op z (OpOk.alloc z ze53 z z (fun b106 => ?_)))))))))
   refine TL.op z (storeAll z sz53 z z z z z z ?_)
   refine TL.en (TC.a (TL.w z (fieldLoc z fo53_0 z) (TL.w z (loadLoc z ag3 z (i := 0) z z) (TL.i z z ?_))))
   obtain ⟨v17, u17, hh⟩ := bnd_e hh
   refine TL.op z (callP (fst_state_con u17) z z pf68 z z z ?_)
   refine TL.w z (OpVal.not z z) (TL.j z z (TL.split 21 z (fun h108 => ?_) (fun h108 => ?_)))
   ·replace hh := iteO_t h108 hh
    refine TL.f z (TL.f z (TL.f z (TL.f z (TL.w z (pickTB z z z) (TL.en (TC.t z (TC.a (TL.j z z (TL.en (TC.rt 0 (B.r (S.r (S.r ?_)))))))))))))
    replace hh := fin_x hR1 hh
    refine B.r (S.r ?_)
    obtain rfl := so hh
    exact rq [4] ⟨z, z, z⟩
   ·replace hh := iteO_f h108 hh
    refine TL.g z (fieldLoc z fo53_1 z) (TL.g z (loadLoc z ag9 z (i := 0) z z) (TL.g z (lenBs z underlying9 z) (TL.g z (OpVal.gtr z z z) (TL.w z (pickFB z z z) (TL.en (TC.cD z hh (fun h109 hh => ?_) (fun h109 hh => ?_)))))))
    ·refine TC.a (TL.j z z (TL.en (TC.rt 0 (B.r (S.r (S.r ?_))))))
     replace hh := fin_x hR1 hh
     refine B.r (S.r ?_)
     obtain rfl := so hh
     exact rq [4] ⟨z, z, z⟩
    ·refine TC.skip (B.n (S.n (TC.region (TL.w z (OpVal.succ z z z (by omega)) (TL.i z z (TL.en ?_))))))
     obtain ⟨hh, hlt110⟩ := nxt_x hR1 hh
     exact lf ((k104 + 1), ()) hlt110 hh (Sub.pre 0 z)
  ·refine TC.exit (S.x (S.x ?_))
   replace hh := fin_x hR1 hh
   refine TC.exitHere (S.n (TC.a (TL.j z z (TL.en (TC.ret ?_)))))
   obtain rfl := so hh
   exact rq [4] ⟨z, z, z⟩

noncomputable def fst_Check_b1 (x0 : Fst) (k110 : Nat) : Option ((Nat) ⊕ (Int)) :=
 iteO (decide (((k110 : Nat) : Int) < ((x0.arcs.length : Nat) : Int))) (bnd (fst_state ((nth x0.arcs k110 Arc.zero).frm) x0.states) (fun v46 => iteO (!v46) (fin (some 1)) (bnd (fst_state ((nth x0.arcs k110 Arc.zero).to) x0.states) (fun v53 => iteO (!v53) (fin (some 1)) (iteO (decide ((nth x0.arcs k110 Arc.zero).set = BSet.zero)) (fin (some 1)) (iteO (decide (1024 < ((((nth x0.arcs k110 Arc.zero).out).length : Nat) : Int))) (fin (some 1)) (nxt (k110 + 1)))))))) (fin (some 0))
noncomputable def fst_Check (x0 : Fst) : Option (Int) :=
 iteO (decide (x0.states < 0)) (some 1) (iteO (decide (1024 < x0.states)) (some 1) (iteO (decide (16384 < ((x0.arcs.length : Nat) : Int))) (some 1) (bnd (fst_rightTips x0.starts x0.states) (fun v22 => iteO (!v22) (some 1) (bnd (fst_rightTips x0.ends x0.states) (fun v29 => iteO (!v29) (some 1) (iter (fun q : Nat => fst_Check_b1 x0 q) 0)))))))
theorem fst_Check_con {σ : Store} {x0 : Fst} {a0_0 : Option Addr} {c0_0 : Nat} {a0_1 : Option Addr} {c0_1 : Nat} {a0_2 : Option Addr} {c0_2 : Nat} (f0_0 : RS σ 2 encTip (.slice a0_0 x0.starts.length c0_0) x0.starts) (f0_1 : RS σ 2 encTip (.slice a0_1 x0.ends.length c0_1) x0.ends) (f0_2 : RS σ 8 encArc (.slice a0_2 x0.arcs.length c0_2) x0.arcs) {r : Int} (hh : fst_Check x0 = some r) :
  Con Tryz.prog 31 #[.agg #[.int .i64 x0.states, .slice a0_0 x0.starts.length c0_0, .slice a0_1 x0.ends.length c0_1, .slice a0_2 x0.arcs.length c0_2]] σ [] (PureP (.int .i64 r) σ) := by
 dsimp only [fst_Check] at hh
 have f0_0b := f0_0.rv.big
 have f0_1b := f0_1.rv.big
 have f0_2b := f0_2.rv.big
 refine Con.mk (n := 67) Tryz.func31 z z z (fun w0 => ?_)
 refine TC.a (TL.op z (boxA z z z z (fun b101 => ?_)))
 refine TL.i z z (TL.en (TC.seq (TC.a (TL.w z (fieldLoc z fo25_0 z) (TL.w z (loadLoc z ag3 z (i := 0) z z) (TL.w z (OpVal.lss z z z) (TL.j z z (TL.split 8 z (fun h103 => ?_) (fun h103 => ?_)))))))))
 ·replace hh := iteO_t h103 hh
  replace h103 := of_decide_eq_true h103
  refine TL.f z (TL.f z (TL.f z (TL.w z (pickTB z z z) (TL.j z z (TL.f z (TL.f z (TL.f z (TL.f z (TL.w z (pickTB z z z) (TL.en (TC.t z (TC.a (TL.i z z (TL.en (TC.rt 0 ?_)))))))))))))))
  refine S.r ?_
  obtain rfl := so hh
  exact rq [2] ⟨z, z, z⟩
 ·replace hh := iteO_f h103 hh
  replace h103 := of_decide_eq_false h103
  refine TL.g z (fieldLoc z fo25_0 z) (TL.g z (loadLoc z ag3 z (i := 0) z z) (TL.g z (OpVal.gtr z z z) (TL.w z (pickFB z z z) (TL.j z z (TL.split 13 z (fun h104 => ?_) (fun h104 => ?_))))))
  ·replace hh := iteO_t h104 hh
   replace h104 := of_decide_eq_true h104
   refine TL.f z (TL.f z (TL.f z (TL.f z (TL.w z (pickTB z z z) (TL.en (TC.t z (TC.a (TL.i z z (TL.en (TC.rt 0 (S.r ?_)))))))))))
   obtain rfl := so hh
   exact rq [2] ⟨z, z, z⟩
  ·replace hh := iteO_f h104 hh
   replace h104 := of_decide_eq_false h104
   refine TL.g z (fieldLoc z fo25_3 z) (TL.g z (loadLoc z ag23 z (i := 0) z z) (TL.g z (lenC z underlying23 z) (TL.g z (OpVal.gtr z z z) (TL.w z (pickFB z z z) (TL.en (TC.cD z hh (fun h105 hh => ?_) (fun h105 hh => ?_)))))))
   ·refine TC.a (TL.i z z (TL.en (TC.rt 0 (S.r ?_))))
    obtain rfl := so hh
    exact rq [2] ⟨z, z, z⟩
   ·refine TC.skip (S.n (TC.seq (TC.a (TL.w z (fieldLoc z fo25_1 z) (TL.w z (loadLoc z ag22 z (i := 0) z z) (TL.w z (fieldLoc z fo25_0 z) (TL.w z (loadLoc z ag3 z (i := 0) z z) ?_)))))))
    obtain ⟨v22, u22, hh⟩ := bnd_e hh
    refine TL.op z (callP (fst_rightTips_con f0_0 u22) z z pf67 z z z ?_)
    refine TL.w z (OpVal.not z z) (TL.j z z (TL.split 25 z (fun h106 => ?_) (fun h106 => ?_)))
    ·replace hh := iteO_t h106 hh
     refine TL.f z (TL.f z (TL.f z (TL.f z (TL.f z (TL.f z (TL.w z (pickTB z z z) (TL.en (TC.t z (TC.a (TL.i z z (TL.en (TC.rt 0 (S.r ?_)))))))))))))
     obtain rfl := so hh
     exact rq [2] ⟨z, z, z⟩
    ·replace hh := iteO_f h106 hh
     refine TL.g z (fieldLoc z fo25_2 z) (TL.g z (loadLoc z ag22 z (i := 0) z z) (TL.g z (fieldLoc z fo25_0 z) (TL.g z (loadLoc z ag3 z (i := 0) z z) ?_)))
     obtain ⟨v29, u29, hh⟩ := bnd_e hh
     refine TL.gon z z z z z (callP (fst_rightTips_con f0_1 u29) z z pf67 z z z ?_)
     refine TL.g z (OpVal.not z z) (TL.w z (pickFB z z z) (TL.en (TC.cB z hh (fun h107 hh => ?_) (fun h107 hh => ?_))))
     ·refine TC.a (TL.i z z (TL.en (TC.rt 0 (S.r ?_))))
      obtain rfl := so hh
      exact rq [2] ⟨z, z, z⟩
     ·refine TC.skip (S.n (TC.seq (TC.a (TL.w z (fieldLoc z fo25_3 z) (TL.w z (loadLoc z ag23 z (i := 0) z z) (TL.w z (lenC z underlying23 z) (TL.i z z (TL.en (TC.block (TC.loopG (α := (Nat) × (Unit)) (rgs [(2, 1), (4, 1), (36, 31)]) (fun g => [(36, .int .i64 ((g.1 : Nat) : Int))]) (fun g => [Res.cells b101 #[.int .i64 x0.states, .slice a0_0 x0.starts.length c0_0, .slice a0_1 x0.ends.length c0_1, .slice a0_2 x0.arcs.length c0_2] 25]) (fun g => σ) (fun g => iter (fun q : Nat => fst_Check_b1 x0 q) g.1 = some r) (fun g => rounds (fun q : Nat => fst_Check_b1 x0 q) g.1) (0, ()) (Sub.pre 1 z) z (by repeat (first | exact trivial | refine ⟨z, ?_⟩)) hh (fun g1 j1 hg1 => ?_)))))))))))
      obtain ⟨k110, _⟩ := g1
      have hh := hg1; clear hg1
      try dsimp only
      obtain ⟨z1, hh, hR1⟩ := iter_e hh
      dsimp only [fst_Check_b1] at hh
      refine TC.a (TL.w z (OpVal.lss z z z) (TL.en (TC.seq (TC.cD z hh (fun h111 hh => ?_) (fun h111 hh => ?_)))))
      ·refine TC.skip (S.n (TC.seq (TC.block (TC.a (TL.w z (indexN z underlying23 sz66 z z f0_2.rv.sl (by omega)) (TL.w z (loadSA Arc.zero z ag66 sz66 z f0_2 (by omega) (by omega)) (TL.op z (OpOk.alloc z ze66 z z (fun b112 => ?_)))))))))
       refine TL.op z (storeAll z sz66 z z z z z z ?_)
       refine TL.en (TC.a (TL.w z (fieldLoc z fo66_0 z) (TL.w z (loadLoc z ag3 z (i := 0) z z) (TL.w z (fieldLoc z fo25_0 z) (TL.w z (loadLoc z ag3 z (i := 1) z z) ?_)))))
       obtain ⟨v46, u46, hh⟩ := bnd_e hh
       refine TL.op z (callP (fst_state_con u46) z z pf68 z z z ?_)
       refine TL.w z (OpVal.not z z) (TL.j z z (TL.split 46 z (fun h114 => ?_) (fun h114 => ?_)))
       ·replace hh := iteO_t h114 hh
        refine TL.f z (TL.f z (TL.f z (TL.f z (TL.f z (TL.f z (TL.w z (pickTB z z z) (TL.j z z (TL.f z (TL.f z (TL.f z (TL.f z (TL.w z (pickTB z z z) (TL.j z z (TL.f z (TL.f z ?_)))))))))))))))
        refine TL.f z (TL.f z (TL.w z (pickTB z z z) (TL.en (TC.t z (TC.a (TL.i z z (TL.en (TC.rt 0 (B.r (S.r (S.r ?_)))))))))))
        replace hh := fin_x hR1 hh
        refine B.r (S.r ?_)
        obtain rfl := so hh
        exact rq [2] ⟨z, z, z⟩
       ·replace hh := iteO_f h114 hh
        refine TL.g z (fieldLoc z fo66_1 z) (TL.g z (loadLoc z ag3 z (i := 0) z z) (TL.g z (fieldLoc z fo25_0 z) (TL.g z (loadLoc z ag3 z (i := 1) z z) ?_)))
        obtain ⟨v53, u53, hh⟩ := bnd_e hh
        refine TL.gon z z z z z (callP (fst_state_con u53) z z pf68 z z z ?_)
        refine TL.g z (OpVal.not z z) (TL.w z (pickFB z z z) (TL.j z z (TL.split 54 z (fun h115 => ?_) (fun h115 => ?_))))
        ·replace hh := iteO_t h115 hh
         refine TL.f z (TL.f z (TL.f z (TL.f z (TL.w z (pickTB z z z) (TL.j z z (TL.f z (TL.f z (TL.f z (TL.f z (TL.w z (pickTB z z z) (TL.en (TC.t z (TC.a (TL.i z z (TL.en ?_)))))))))))))))
         refine TC.rt 0 (B.r (S.r (S.r ?_)))
         replace hh := fin_x hR1 hh
         refine B.r (S.r ?_)
         obtain rfl := so hh
         exact rq [2] ⟨z, z, z⟩
        ·replace hh := iteO_f h115 hh
         refine TL.g z (fieldLoc z fo66_2 z) (TL.g z (loadLocA z ag64 sz64 z (i := 0) z z z) (TL.g z (buildArrL z underlying64 sz62 ze64 z) (TL.g z (eqlSet (s := (nth x0.arcs k110 Arc.zero).set) (t := BSet.zero) z underlying64 underlying62 ag62 sz62 eg64 z z) (TL.w z (pickFB z z z) (TL.j z z (TL.split 60 z (fun h116 => ?_) (fun h116 => ?_)))))))
         ·replace hh := iteO_t h116 hh
          replace h116 := of_decide_eq_true h116
          refine TL.f z (TL.f z (TL.f z (TL.f z (TL.w z (pickTB z z z) (TL.en (TC.t z (TC.a (TL.i z z (TL.en (TC.rt 0 (B.r (S.r (S.r ?_)))))))))))))
          replace hh := fin_x hR1 hh
          refine B.r (S.r ?_)
          obtain rfl := so hh
          exact rq [2] ⟨z, z, z⟩
         ·replace hh := iteO_f h116 hh
          replace h116 := of_decide_eq_false h116
          refine TL.g z (fieldLoc z fo66_3 z) (TL.g z (loadLoc z ag9 z (i := 0) z z) (TL.g z (lenBs z underlying9 z) (TL.g z (OpVal.gtr z z z) (TL.w z (pickFB z z z) (TL.en (TC.cD z hh (fun h117 hh => ?_) (fun h117 hh => ?_)))))))
          ·refine TC.a (TL.i z z (TL.en (TC.rt 0 (B.r (S.r (S.r ?_))))))
           replace hh := fin_x hR1 hh
           refine B.r (S.r ?_)
           obtain rfl := so hh
           exact rq [2] ⟨z, z, z⟩
          ·refine TC.skip (B.n (S.n (TC.region (TL.w z (OpVal.succ z z z (by omega)) (TL.i z z (TL.en ?_))))))
           obtain ⟨hh, hlt118⟩ := nxt_x hR1 hh
           exact lf ((k110 + 1), ()) hlt118 hh (Sub.f [1] 1)
      ·refine TC.exit (S.x (S.x ?_))
       replace hh := fin_x hR1 hh
       refine TC.exitHere (S.n (TC.a (TL.i z z (TL.en (TC.rt 0 ?_)))))
       obtain rfl := so hh
       exact rq [2] ⟨z, z, z⟩

noncomputable def fst_step_j1 (k128 : Nat) (m130 : FM FPair Unit) : Option (((FM FPair Unit) × Nat) ⊕ (((FM FPair Unit)) ⊕ ((FM FPair Unit) × Bool))) :=
 nxt (m130, (k128 + 1))
noncomputable def fst_step_j2 (m127 : FM FPair Unit) (x0 : List (List Arc)) (v7c : FPair × Unit) (k128 : Nat) (s134 : List UInt8) : Option (((FM FPair Unit) × Nat) ⊕ (((FM FPair Unit)) ⊕ ((FM FPair Unit) × Bool))) :=
 iteO (decide (4096 < (((m127.put (⟨(nth (nth x0 v7c.1.state.toNat ([] : List Arc)) k128 Arc.zero).to, s134⟩ : FPair) ()).n : Nat) : Int))) (fin (fin (some ((FM.emp : FM FPair Unit), false)))) (fst_step_j1 k128 (m127.put (⟨(nth (nth x0 v7c.1.state.toNat ([] : List Arc)) k128 Arc.zero).to, s134⟩ : FPair) ()))
noncomputable def fst_step_b2 (x0 : List (List Arc)) (v7c : FPair × Unit) (x2 : UInt8) (m127 : FM FPair Unit) (k128 : Nat) : Option (((FM FPair Unit) × Nat) ⊕ (((FM FPair Unit)) ⊕ ((FM FPair Unit) × Bool))) :=
 iteO (decide (((k128 : Nat) : Int) < (((nth x0 v7c.1.state.toNat ([] : List Arc)).length : Nat) : Int))) (iteO (!(((nth (nth x0 v7c.1.state.toNat ([] : List Arc)) k128 Arc.zero).set).has x2.toNat)) (fst_step_j1 k128 m127) (grd (v7c.1.out.length + ((nth (nth x0 v7c.1.state.toNat ([] : List Arc)) k128 Arc.zero).out).length ≤ 9223372036854775807) (iteO ((nth (nth x0 v7c.1.state.toNat ([] : List Arc)) k128 Arc.zero).copy) (grd ((v7c.1.out ++ (nth (nth x0 v7c.1.state.toNat ([] : List Arc)) k128 Arc.zero).out).length + [x2].length ≤ 9223372036854775807) (fst_step_j2 m127 x0 v7c k128 ((v7c.1.out ++ (nth (nth x0 v7c.1.state.toNat ([] : List Arc)) k128 Arc.zero).out) ++ [x2]))) (fst_step_j2 m127 x0 v7c k128 (v7c.1.out ++ (nth (nth x0 v7c.1.state.toNat ([] : List Arc)) k128 Arc.zero).out))))) (fin (nxt m127))
noncomputable def fst_step_b1 (x0 : List (List Arc)) (x2 : UInt8) (m114 : FM FPair Unit) (oE : Option (FPair × Unit)) : Option (((FM FPair Unit)) ⊕ ((FM FPair Unit) × Bool)) :=
 optE oE (fin (some (m114, true))) (fun v7c => grd (0 ≤ v7c.1.state ∧ v7c.1.state < (x0.length : Int)) (iter (fun q : (FM FPair Unit) × Nat => fst_step_b2 x0 v7c x2 q.1 q.2) (m114, 0)))
noncomputable def fst_step (x0 : List (List Arc)) (x1 : FM FPair Unit) (x2 : UInt8) : Option ((FM FPair Unit) × Bool) :=
 allP (fun q => Rep q x1) (fun q => runL (fun (q : (FM FPair Unit)) (oE : Option (FPair × Unit)) => fst_step_b1 x0 x2 q oE) q (FM.emp : FM FPair Unit))
theorem fst_step_con {σ : Store} {x0 : List (List Arc)} {a0_0 : Option Addr} {c0_0 : Nat} {x1 : FM FPair Unit} {b1_0 : Option Nat} {x2 : UInt8} (f0_0 : RZ σ (pkSl 8 encArc encArc_len) (.slice a0_0 x0.length c0_0) x0) {r : (FM FPair Unit) × Bool} (hh : fst_step x0 x1 x2 = some r) :
  Con Tryz.prog 44 #[.slice a0_0 x0.length c0_0, .map b1_0, .int .u8 ((x2.toNat : Nat) : Int)] σ [Res.mapB (fun x => Value.agg (encFPair x).toArray) unitV b1_0 x1] (fun v σ' H' => ∃ (br1 : Option Nat), v = .tuple #[.map br1, .bool r.2] ∧ σ = σ' ∧ H' = [Res.mapB (fun x => Value.agg (encFPair x).toArray) unitV br1 r.1]) := by
 dsimp only [fst_step] at hh
 have f0_0b := f0_0.big
 refine Con.mk (n := 58) Tryz.func44 z z z (fun w0 => ?_)
 refine TC.a (TL.w z (moveMap (.inr z) z) (TL.j z z (TL.en (TC.a (TL.op z (makeMapB (enc := (fun x => Value.agg (encFPair x).toArray)) (encV := unitV) z z z (fun b103 => ?_)))))))
 refine TL.w z (moveMap (.inr z) z) (TL.en (TC.seq (TC.a (TL.w z (moveMap (.inl z) z) (TL.front 1 z z (TL.op z (rangeB z underlying86 z z z (fun it105 l106 hl107 => ?_))))))))
 refine TL.en (TC.block (TC.loopG (α := ((FM FPair Unit)) × ((List (FPair × Unit)) × (Option (FPair × Unit)))) (rgs [(6, 2), (9, 1), (11, 2), (16, 41)]) (fun g => []) (fun g => [Res.mapB (fun x => Value.agg (encFPair x).toArray) unitV (some b103) g.1, Res.rng (fun x => Value.agg (encFPair x).toArray) unitV b1_0 it105 x1 g.2.1 g.2.2]) (fun g => σ) (fun g => runA (fun (q : (FM FPair Unit)) (oE : Option (FPair × Unit)) => fst_step_b1 x0 x2 q oE) g.2.1 g.1 = some r) (fun g => List.length g.2.1) ((FM.emp : FM FPair Unit), (l106, none)) (Sub.f [1] 2) z (by repeat (first | exact trivial | refine ⟨z, ?_⟩)) (runA_of hh hl107) (fun g1 j1 hg1 => ?_)))
 obtain ⟨m114, ⟨l115, o116⟩⟩ := g1
 have hh := hg1; clear hg1
 try dsimp only
 refine TC.a (TL.front 1 z z (TL.op z (nextB (T := 0) z z z z z (fun hl117 => ?_) (fun l118 v7c l119 hl117 => ?_))))
 ·subst hl117
  obtain ⟨z1, hh, hR1⟩ := runA_end hh
  dsimp only [fst_step_b1, optE_none] at hh
  refine TL.by (fun w h => Reach.unrng h) (TL.w z (OpVal.extract z z z) (TL.en (TC.seq (TC.f z (TC.exit (S.x (S.x ?_)))))))
  replace hh := finE_x hR1 hh
  refine TC.exitHere (S.n (TC.a (TL.w z (moveMap (.inl z) z) (TL.w z (moveMap (.inr z) z) (TL.j z z (TL.en (TC.ofSub (Sub.f [1] 1) (TC.ret ?_))))))))
  obtain rfl := so hh
  exact ro [Res.mapB (fun x => Value.agg (encFPair x).toArray) unitV (some b103) m114] z (RVs.tmp z (RVs.tmp z RVs.nil)) ⟨(some b103), z, z, z⟩
 ·subst hl117
  obtain ⟨z1, hh, hR1⟩ := runA_step hh
  dsimp only [fst_step_b1, optE_some] at hh
  refine TL.w z (OpVal.extract z z z) (TL.en (TC.seq (TC.t z (TC.skip (S.n (TC.block (TC.a (TL.w z (OpVal.of (entryB z z (i := 0) z) (v' := .tuple #[.agg #[.int .i64 v7c.1.state, .string (bs v7c.1.out)], .agg #[]]) z) (TL.w z (OpVal.extract z z z) (TL.op z (OpOk.alloc z ze89 z z (fun b120 => ?_))))))))))))
  refine TL.op z (storeAll z sz89 z z z z z z ?_)
  refine TL.en (TC.a (TL.s z z (TL.w z (fieldLoc z fo89_0 z) (TL.w z (loadLoc z ag3 z (i := 0) z z) ?_))))
  have u16 := grd_c hh
  replace hh := grd_t hh
  refine TL.w z (OpVal.index z underlying85 sz23 z z f0_0.isSl u16.1 u16.2) ?_
  obtain ⟨p122, hk122, hg122⟩ := RZ.seg f0_0 v7c.1.state.toNat (by omega)
  replace hk122 : RS _ 8 encArc (.slice p122.1 (nth x0 v7c.1.state.toNat ([] : List Arc)).length p122.2) (nth x0 v7c.1.state.toNat ([] : List Arc)) := hk122
  have hk122b := hk122.rv.big
  refine TL.w z (OpVal.of (loadSeg0 z ag23 z hg122 z) (v' := .slice p122.1 ((nth x0 v7c.1.state.toNat ([] : List Arc)).length) p122.2) z) (TL.w z (lenC z underlying23 z) (TL.i z z (TL.en (TC.block (TC.loopG (α := ((FM FPair Unit) × Nat) × (Unit)) (rgs [(6, 2), (11, 2), (26, 31)]) (fun g => [(26, .int .i64 ((g.1.2 : Nat) : Int))]) (fun g => [Res.mapB (fun x => Value.agg (encFPair x).toArray) unitV (some b103) g.1.1, Res.cells b120 #[.int .i64 v7c.1.state, .string (bs v7c.1.out)] 89, Res.rng (fun x => Value.agg (encFPair x).toArray) unitV b1_0 it105 x1 (l118 ++ l119) (some v7c)]) (fun g => σ) (fun g => iter (fun q : (FM FPair Unit) × Nat => fst_step_b2 x0 v7c x2 q.1 q.2) g.1 = some z1) (fun g => rounds (fun q : (FM FPair Unit) × Nat => fst_step_b2 x0 v7c x2 q.1 q.2) g.1) ((m114, 0), ()) (Sub.f [1, 1, 2] 3) z (by repeat (first | exact trivial | refine ⟨z, ?_⟩)) hh (fun g2 j2 hg2 => ?_))))))
  obtain ⟨⟨m127, k128⟩, _⟩ := g2
  have hh := hg2; clear hg2
  try dsimp only
  obtain ⟨z2, hh, hR2⟩ := iter_e hh
  dsimp only [fst_step_b2] at hh
  refine TC.a (TL.w z (OpVal.lss z z z) (TL.en (TC.seq (TC.cD z hh (fun h129 hh => ?_) (fun h129 hh => ?_)))))
  ·refine TC.skip (S.n (TC.cutG (α := ((FM FPair Unit)) × (Unit)) (rgs [(6, 2), (11, 2), (28, 28)]) (fun g => []) (fun g => [Res.mapB (fun x => Value.agg (encFPair x).toArray) unitV (some b103) g.1, Res.cells b120 #[.int .i64 v7c.1.state, .string (bs v7c.1.out)] 89, Res.rng (fun x => Value.agg (encFPair x).toArray) unitV b1_0 it105 x1 (l118 ++ l119) (some v7c)]) (fun g => σ) (fun g => fst_step_j1 k128 g.1 = some z2) ?_ (fun g j hg => ?_)))
   ·skip
    refine TC.block (TC.a (TL.w z (indexN z underlying23 sz66 z z hk122.rv.sl (by omega)) (TL.w z (loadSA Arc.zero z ag66 sz66 z hk122 (by omega) (by omega)) (TL.op z (OpOk.alloc z ze66 z z (fun b131 => ?_))))))
    refine TL.op z (storeAll z sz66 z z z z z z ?_)
    refine TL.en (TC.seq (TC.a (TL.w z (fieldLoc z fo66_2 z) (TL.w z (loadLocA z ag64 sz64 z (i := 0) z z z) (TL.i z z (TL.op z (callP (has_con _ ((nth (nth x0 v7c.1.state.toNat ([] : List Arc)) k128 Arc.zero).set) x2.toNat (BSet.isOk _) (UInt8.toNat_lt _)) z z pf87 z z z ?_)))))))
    refine TL.w z (OpVal.not z z) (TL.en (TC.cB z hh (fun h133 hh => ?_) (fun h133 hh => ?_)))
    ·exact TC.exit (S.x (TC.exitHere (S.n (cf (m127, ()) hh (Sub.f [3, 3, 3] 3)))))
    ·refine TC.skip (S.n (TC.a (TL.w z (fieldLoc z fo89_1 z) (TL.w z (loadLoc z ag9 z (i := 2) z z) (TL.w z (fieldLoc z fo66_3 z) (TL.w z (loadLoc z ag9 z (i := 0) z z) ?_))))))
     have u34 := grd_c hh
     replace hh := grd_t hh
     refine TL.w z (catBs z z z u34) (TL.w z (moveStr (.inr z) z) (TL.en (TC.cutG (α := ((List UInt8)) × (Unit)) (rgs [(12, 1), (40, 7)]) (fun g => [(12, .string (bs g.1))]) (fun g => [Res.mapB (fun x => Value.agg (encFPair x).toArray) unitV (some b103) m127, Res.cells b120 #[.int .i64 v7c.1.state, .string (bs v7c.1.out)] 89, Res.cells b131 #[.int .i64 ((nth (nth x0 v7c.1.state.toNat ([] : List Arc)) k128 Arc.zero).frm), .int .i64 ((nth (nth x0 v7c.1.state.toNat ([] : List Arc)) k128 Arc.zero).to), .int .u64 ((((nth (nth x0 v7c.1.state.toNat ([] : List Arc)) k128 Arc.zero).set).a : Nat) : Int), .int .u64 ((((nth (nth x0 v7c.1.state.toNat ([] : List Arc)) k128 Arc.zero).set).b : Nat) : Int), .int .u64 ((((nth (nth x0 v7c.1.state.toNat ([] : List Arc)) k128 Arc.zero).set).c : Nat) : Int), .int .u64 ((((nth (nth x0 v7c.1.state.toNat ([] : List Arc)) k128 Arc.zero).set).d : Nat) : Int), .string (bs ((nth (nth x0 v7c.1.state.toNat ([] : List Arc)) k128 Arc.zero).out)), .bool ((nth (nth x0 v7c.1.state.toNat ([] : List Arc)) k128 Arc.zero).copy)] 66, Res.rng (fun x => Value.agg (encFPair x).toArray) unitV b1_0 it105 x1 (l118 ++ l119) (some v7c)]) (fun g => σ) (fun g => fst_step_j2 m127 x0 v7c k128 g.1 = some z2) ?_ (fun g j hg => ?_))))
     ·skip
      refine TC.a (TL.w z (fieldLoc z fo66_4 z) (TL.w z (loadLoc z ag4 z (i := 0) z z) (TL.en (TC.cB z hh (fun h135 hh => ?_) (fun h135 hh => ?_)))))
      ·refine TC.region (TL.w z (moveStr (.inl z) z) (TL.i z z (TL.op z (OpOk.lit (enc := encU8) [x2] z underlying60 sz5 ze5 z z z encU8_len (by decide) (by decide) (0 : UInt8) z (by decide) z (by decide) encU8_one (fun a136 c137 => ?_)))))
       refine TL.isSl (i := 0) z (fun hs139 _ _ => ?_)
       refine TL.w z (bytesStr (l := [x2]) z underlying60 underlying5 underlying9 z hs139 (fun w hw => rdb_row (q := 0) z hw)) ?_
       have u42 := grd_c hh
       replace hh := grd_t hh
       exact TL.w z (catBs z z z u42) (TL.w z (moveStr (.inr z) z) (TL.en (cf (((v7c.1.out ++ (nth (nth x0 v7c.1.state.toNat ([] : List Arc)) k128 Arc.zero).out) ++ [x2]), ()) hh (Sub.f [4, 2, 4, 4] 4))))
      ·exact TC.skip (S.n (cf ((v7c.1.out ++ (nth (nth x0 v7c.1.state.toNat ([] : List Arc)) k128 Arc.zero).out), ()) hh (Sub.f [3, 1, 3, 3] 4)))
     ·skip
      obtain ⟨s134, _⟩ := g
      have hh := hg; clear hg
      try dsimp only
      dsimp only [fst_step_j2] at hh
      refine TC.a (TL.w z (moveMap (.inl z) z) (TL.w z (fieldLoc z fo66_1 z) (TL.w z (loadLoc z ag3 z (i := 2) z z) (TL.w z (moveStr (.inl z) z) (TL.w z (buildL z pl89 ze89 z) (TL.w z (buildL z pl87 ze87 z) (TL.op z (updB (⟨(nth (nth x0 v7c.1.state.toNat ([] : List Arc)) k128 Arc.zero).to, s134⟩ : FPair) () z underlying86 z z z z kl89 ?_))))))))
      refine TL.en (TC.a (TL.w z (moveMap (.inl z) z) (TL.w z (lenB z underlying86 z (i := 0) z) (TL.w z (OpVal.gtr z z z) (TL.en (TC.cD z hh (fun h140 hh => ?_) (fun h140 hh => ?_)))))))
      ·refine TC.a (TL.w z (moveMap (.inr z) z) (TL.j z z (TL.en (TC.by (fun w h => Reach.nilMap (enc := (fun x => Value.agg (encFPair x).toArray)) (encV := unitV) h) (TC.rt 1 (B.r (S.r (S.r ?_))))))))
       replace hh := fin_x hR2 hh
       refine B.r (B.r (S.r ?_))
       replace hh := finA_x hR1 hh
       refine B.r (S.r ?_)
       obtain rfl := so hh
       exact ro [Res.mapB (fun x => Value.agg (encFPair x).toArray) unitV none (FM.emp : FM FPair Unit)] z (RVs.tmp z (RVs.tmp z RVs.nil)) ⟨none, z, z, z⟩
      ·exact TC.skip (B.n (S.n (cf ((m127.put (⟨(nth (nth x0 v7c.1.state.toNat ([] : List Arc)) k128 Arc.zero).to, s134⟩ : FPair) ()), ()) hh (Sub.f [3, 2, 2] 3))))
   ·skip
    obtain ⟨m130, _⟩ := g
    have hh := hg; clear hg
    try dsimp only
    dsimp only [fst_step_j1] at hh
    refine TC.region (TL.w z (OpVal.succ z z z (by omega)) (TL.i z z (TL.en ?_)))
    obtain ⟨hh, hlt142⟩ := nxt_x hR2 hh
    exact lf ((m130, (k128 + 1)), ()) hlt142 hh (Sub.f [2, 2, 2] 3)
  ·refine TC.exit (S.x (S.x ?_))
   replace hh := fin_x hR2 hh
   refine TC.exitHere (B.n (S.n ?_))
   replace hh := nxtA_x hR1 hh
   exact lf (m127, ((l118 ++ l119), (some v7c))) (by simp) hh (Sub.f [2, 1] 2)

end Go.Proofs.YtjhbngjhdmapmaaGreatDoor
end

/- F2 -/
section
/- Decompiled: what the library and the program compare by. -/
set_option linter.unusedVariables false
set_option linter.unusedSimpArgs false
namespace Go.Proofs.YtjhbngjhdmapmaaGreatDoor
open Go Go.E Go.E.OpVal Go.E.OpOk Go.Proofs.Tryz
set_option maxRecDepth 100000
private theorem pf122 : Go.E.plainF Tryz.prog 122 = true := by kernel_rfl
private theorem pf123 : Go.E.plainF Tryz.prog 123 = true := by kernel_rfl
private theorem pf127 : Go.E.plainF Tryz.prog 127 = true := by kernel_rfl
private theorem pf128 : Go.E.plainF Tryz.prog 128 = true := by kernel_rfl
private theorem pf159 : Go.E.plainF Tryz.prog 159 = true := by kernel_rfl
private theorem pf209 : Go.E.plainF Tryz.prog 209 = true := by kernel_rfl
private theorem pf46 : Go.E.plainF Tryz.prog 46 = true := by kernel_rfl
private theorem pf91 : Go.E.plainF Tryz.prog 91 = true := by kernel_rfl

noncomputable def internal_bytealg_CompareString (x0 : List UInt8) (x1 : List UInt8) : Option (Int) :=
 some (Lib.compareBytes x0 x1)
theorem internal_bytealg_CompareString_con {σ : Store} {x0 : List UInt8} {x1 : List UInt8}  {r : Int} (hh : internal_bytealg_CompareString x0 x1 = some r) :
  Con Tryz.prog 91 #[.string (bs x0), .string (bs x1)] σ [] (PureP (.int .i64 r) σ) := by
 dsimp only [internal_bytealg_CompareString] at hh
 refine Con.mk (n := 8) Tryz.func91 z z z (fun w0 => ?_)
 refine TC.a (TL.i z z (TL.en (TC.a (TL.w z (moveStr (.inl z) z) (TL.w z (moveStr (.inl z) z) (TL.w z (cmpStr z z Tryz.func131 (by kernel_rfl) (by kernel_rfl) (by kernel_rfl) (by kernel_rfl) z z) (TL.i z z (TL.en (TC.ret ?_)))))))))
 obtain rfl := so hh
 exact rq [4] ⟨z, z, z⟩

noncomputable def strings_Compare (x0 : List UInt8) (x1 : List UInt8) : Option (Int) :=
 bnd (internal_bytealg_CompareString x0 x1) (fun v4 => some v4)
theorem strings_Compare_con {σ : Store} {x0 : List UInt8} {x1 : List UInt8}  {r : Int} (hh : strings_Compare x0 x1 = some r) :
  Con Tryz.prog 46 #[.string (bs x0), .string (bs x1)] σ [] (PureP (.int .i64 r) σ) := by
 dsimp only [strings_Compare] at hh
 refine Con.mk (n := 8) Tryz.func46 z z z (fun w0 => ?_)
 refine TC.a (TL.i z z (TL.en (TC.a (TL.w z (moveStr (.inl z) z) (TL.w z (moveStr (.inl z) z) ?_)))))
 obtain ⟨v4, u4, hh⟩ := bnd_e hh
 refine TL.op z (callP (internal_bytealg_CompareString_con u4) z z pf91 z z z ?_)
 refine TL.i z z (TL.en (TC.ret ?_))
 obtain rfl := so hh
 exact rq [4] ⟨z, z, z⟩

noncomputable def isNaNU (x0 : Nat) : Option (Bool) :=
 some (decide (x0 ≠ x0))
theorem isNaNU_con {σ : Store} {x0 : Nat}  {r : Bool} (hh : isNaNU x0 = some r) :
  Con Tryz.prog 209 #[.int .u64 ((x0 : Nat) : Int)] σ [] (PureP (.bool r) σ) := by
 dsimp only [isNaNU] at hh
 refine Con.mk (n := 6) Tryz.func209 z z z (fun w0 => ?_)
 refine TC.a (TL.j z z (TL.en (TC.a (TL.i z z (TL.i z z (TL.w z (neqU z z z) (TL.j z z (TL.en (TC.ret ?_)))))))))
 obtain rfl := so hh
 exact rq [2] ⟨z, z, z⟩

noncomputable def compareU (x0 : Nat) (x1 : Nat) : Option (Int) :=
 bnd (isNaNU x0) (fun v3 => bnd (isNaNU x1) (fun v6 => iteO v3 (iteO v6 (some 0) (some (-1))) (iteO v6 (some 1) (iteO (decide (x0 < x1)) (some (-1)) (iteO (decide (x1 < x0)) (some 1) (some 0))))))
theorem compareU_con {σ : Store} {x0 : Nat} {x1 : Nat}  {r : Int} (hh : compareU x0 x1 = some r) :
  Con Tryz.prog 159 #[.int .u64 ((x0 : Nat) : Int), .int .u64 ((x1 : Nat) : Int)] σ [] (PureP (.int .i64 r) σ) := by
 dsimp only [compareU] at hh
 refine Con.mk (n := 20) Tryz.func159 z z z (fun w0 => ?_)
 refine TC.a (TL.i z z (TL.en (TC.a (TL.i z z ?_))))
 obtain ⟨v3, u3, hh⟩ := bnd_e hh
 refine TL.op z (callP (isNaNU_con u3) z z pf209 z z z ?_)
 refine TL.j z z (TL.en (TC.a (TL.i z z ?_)))
 obtain ⟨v6, u6, hh⟩ := bnd_e hh
 refine TL.op z (callP (isNaNU_con u6) z z pf209 z z z ?_)
 refine TL.j z z (TL.en (TC.seq (TC.a (TL.j z z (TL.en (TC.cB z hh (fun h101 hh => ?_) (fun h101 hh => ?_)))))))
 ·refine TC.seq (TC.a (TL.j z z (TL.en (TC.cB z hh (fun h102 hh => ?_) (fun h102 hh => ?_)))))
  ·refine TC.a (TL.i z z (TL.en (TC.ret (S.r (S.r ?_)))))
   obtain rfl := so hh
   exact rq [4] ⟨z, z, z⟩
  ·refine TC.skip (S.n (TC.a (TL.i z z (TL.en (TC.ret (S.r ?_))))))
   obtain rfl := so hh
   exact rq [4] ⟨z, z, z⟩
 ·refine TC.skip (S.n (TC.seq (TC.a (TL.j z z (TL.en (TC.cB z hh (fun h103 hh => ?_) (fun h103 hh => ?_)))))))
  ·refine TC.a (TL.i z z (TL.en (TC.ret (S.r ?_))))
   obtain rfl := so hh
   exact rq [4] ⟨z, z, z⟩
  ·refine TC.skip (S.n (TC.seq (TC.a (TL.i z z (TL.i z z (TL.w z (lssU z z z) (TL.en (TC.cD z hh (fun h104 hh => ?_) (fun h104 hh => ?_)))))))))
   ·refine TC.a (TL.i z z (TL.en (TC.ret (S.r ?_))))
    obtain rfl := so hh
    exact rq [4] ⟨z, z, z⟩
   ·refine TC.skip (S.n (TC.seq (TC.a (TL.i z z (TL.i z z (TL.w z (gtrU z z z) (TL.en (TC.cD z hh (fun h105 hh => ?_) (fun h105 hh => ?_)))))))))
    ·refine TC.a (TL.i z z (TL.en (TC.ret (S.r ?_))))
     obtain rfl := so hh
     exact rq [4] ⟨z, z, z⟩
    ·refine TC.skip (S.n (TC.a (TL.i z z (TL.en (TC.ret ?_)))))
     obtain rfl := so hh
     exact rq [4] ⟨z, z, z⟩

noncomputable def fst_number (x0 : Bool) : Option (Int) :=
 iteO x0 (some 1) (some 0)
theorem fst_number_con {σ : Store} {x0 : Bool}  {r : Int} (hh : fst_number x0 = some r) :
  Con Tryz.prog 128 #[.bool x0] σ [] (PureP (.int .i64 r) σ) := by
 dsimp only [fst_number] at hh
 refine Con.mk (n := 4) Tryz.func128 z z z (fun w0 => ?_)
 refine TC.a (TL.i z z (TL.en (TC.seq (TC.a (TL.j z z (TL.en (TC.cB z hh (fun h101 hh => ?_) (fun h101 hh => ?_))))))))
 ·refine TC.a (TL.i z z (TL.en (TC.ret (S.r ?_))))
  obtain rfl := so hh
  exact rq [2] ⟨z, z, z⟩
 ·refine TC.skip (S.n (TC.a (TL.i z z (TL.en (TC.ret ?_)))))
  obtain rfl := so hh
  exact rq [2] ⟨z, z, z⟩

noncomputable def cmp_Or_b1 (x0 : List Int) (k103 : Nat) : Option ((Nat) ⊕ (Int)) :=
 iteO (decide (((k103 : Nat) : Int) < ((x0.length : Nat) : Int))) (iteO (decide ((nth x0 k103 (0 : Int)) ≠ 0)) (fin (some (nth x0 k103 (0 : Int)))) (nxt (k103 + 1))) (fin (some 0))
noncomputable def cmp_Or (x0 : List Int) : Option (Int) :=
 iter (fun q : Nat => cmp_Or_b1 x0 q) 0
theorem cmp_Or_con {σ : Store} {x0 : List Int} {a0_0 : Option Addr} {c0_0 : Nat} (f0_0 : RS σ 1 Go.E.encI (.slice a0_0 x0.length c0_0) x0) {r : Int} (hh : cmp_Or x0 = some r) :
  Con Tryz.prog 122 #[.slice a0_0 x0.length c0_0] σ [] (PureP (.int .i64 r) σ) := by
 dsimp only [cmp_Or] at hh
 have f0_0b := f0_0.rv.big
 refine Con.mk (n := 18) Tryz.func122 z z z (fun w0 => ?_)
 refine TC.a (TL.i z z (TL.en (TC.a (TL.i z z (TL.en (TC.seq (TC.a (TL.s z z (TL.w z (lenC z underlying44 z) (TL.i z z (TL.en (TC.block (TC.loopG (α := (Nat) × (Unit)) (rgs [(2, 1), (5, 1), (8, 9)]) (fun g => [(8, .int .i64 ((g.1 : Nat) : Int))]) (fun g => []) (fun g => σ) (fun g => iter (fun q : Nat => cmp_Or_b1 x0 q) g.1 = some r) (fun g => rounds (fun q : Nat => cmp_Or_b1 x0 q) g.1) (0, ()) (Sub.pre 0 z) z (by repeat (first | exact trivial | refine ⟨z, ?_⟩)) hh (fun g1 j1 hg1 => ?_))))))))))))))
 obtain ⟨k103, _⟩ := g1
 have hh := hg1; clear hg1
 try dsimp only
 obtain ⟨z1, hh, hR1⟩ := iter_e hh
 dsimp only [cmp_Or_b1] at hh
 refine TC.a (TL.w z (OpVal.lss z z z) (TL.en (TC.seq (TC.cD z hh (fun h104 hh => ?_) (fun h104 hh => ?_)))))
 ·refine TC.skip (S.n (TC.seq (TC.block (TC.a (TL.w z (indexN z underlying44 sz3 z z f0_0.rv.sl (by omega)) (TL.w z (loadS1 (0 : Int) z ag3 z f0_0 (by omega) z) (TL.i z z (TL.en (TC.a (TL.i z z (TL.i z z (TL.w z (OpVal.neq z z z) (TL.en (TC.cD z hh (fun h105 hh => ?_) (fun h105 hh => ?_)))))))))))))))
  ·refine TC.a (TL.i z z (TL.i z z (TL.en (TC.ret (B.r (S.r (S.r ?_)))))))
   replace hh := fin_x hR1 hh
   refine B.r (S.r ?_)
   obtain rfl := so hh
   exact rq [2] ⟨z, z, z⟩
  ·refine TC.skip (B.n (S.n (TC.region (TL.w z (OpVal.succ z z z (by omega)) (TL.i z z (TL.en ?_))))))
   obtain ⟨hh, hlt106⟩ := nxt_x hR1 hh
   exact lf ((k103 + 1), ()) hlt106 hh (Sub.pre 0 z)
 ·refine TC.exit (S.x (S.x ?_))
  replace hh := fin_x hR1 hh
  refine TC.exitHere (S.n (TC.a (TL.i z z (TL.i z z (TL.en (TC.ret ?_))))))
  obtain rfl := so hh
  exact rq [2] ⟨z, z, z⟩

noncomputable def fst_compareTips (x0 : Tip) (x1 : Tip) : Option (Int) :=
 bnd (cmp_Compare x0.state x1.state) (fun v8 => bnd (strings_Compare x0.out x1.out) (fun v13 => bnd (cmp_Or [v8, v13]) (fun v15 => some v15)))
theorem fst_compareTips_con {σ : Store} {x0 : Tip} {x1 : Tip}  {r : Int} (hh : fst_compareTips x0 x1 = some r) :
  Con Tryz.prog 84 #[.agg #[.int .i64 x0.state, .string (bs x0.out)], .agg #[.int .i64 x1.state, .string (bs x1.out)]] σ [] (PureP (.int .i64 r) σ) := by
 dsimp only [fst_compareTips] at hh
 refine Con.mk (n := 17) Tryz.func84 z z z (fun w0 => ?_)
 refine TC.a (TL.op z (boxA z z z z (fun b101 => ?_)))
 refine TL.op z (boxA z z z z (fun b103 => ?_))
 refine TL.i z z (TL.en (TC.seq ?_))
 obtain ⟨v8, u8, hh⟩ := bnd_e hh
 obtain ⟨v13, u13, hh⟩ := bnd_e hh
 obtain ⟨v15, u15, hh⟩ := bnd_e hh
 refine TC.draw [] (by kernel_rfl) (TA.a 0 z (fieldLoc z fo53_0 z) z (TA.b 1 z (loadLoc z ag3 z (i := 1) z z) z (TA.a 2 z (fieldLoc z fo53_0 z) z (TA.b 3 z (loadLoc z ag3 z (i := 0) z z) z (TA.a 5 z (fieldLoc z fo53_1 z) z (TA.b 6 z (loadLoc z ag9 z (i := 1) z z) z (TA.a 7 z (fieldLoc z fo53_1 z) z (TA.b 8 z (loadLoc z ag9 z (i := 0) z z) z (TA.ac 4 z (callP (cmp_Compare_con u8) z z pf123 z z z (k0 ?_)))))))))))
 refine TA.ac 9 z (callP (strings_Compare_con u13) z z pf46 z z z (k0 ?_))
 refine TA.ac 10 z (OpOk.lit (enc := Go.E.encI) [v8, v13] z underlying44 sz3 ze3 z z z Go.E.encI_len (by decide) (by decide) (0 : Int) z (by decide) z (by decide) Go.E.encI_one (fun a110 c111 => (k1 ?_)))
 refine TA.ac 11 z (callK (Con.lend Go.E.encI_len (fun _ hle114 hr113 => cmp_Or_con hr113 u15)) z z pf122 z z z z (k1 ?_))
 refine TA.a 12 z (moveI (.inr z) z) z (TA.dn (S.n (TC.rt 0 ?_)))
 obtain rfl := so hh
 exact rq [4] ⟨z, z, z⟩

noncomputable def compareUs_b1 (x0 : List Nat) (x1 : List Nat) (k103 : Nat) : Option ((Nat) ⊕ (Int)) :=
 iteO (decide (((k103 : Nat) : Int) < ((x0.length : Nat) : Int))) (iteO (decide (((x1.length : Nat) : Int) ≤ ((k103 : Nat) : Int))) (fin (some 1)) (grd (k103 < x1.length) (bnd (compareU (nth x0 k103 (0 : Nat)) (nth x1 k103 (0 : Nat))) (fun v23 => iteO (decide (v23 ≠ 0)) (fin (some v23)) (nxt (k103 + 1)))))) (fin (iteO (decide (((x0.length : Nat) : Int) < ((x1.length : Nat) : Int))) (some (-1)) (some 0)))
noncomputable def compareUs (x0 : List Nat) (x1 : List Nat) : Option (Int) :=
 iter (fun q : Nat => compareUs_b1 x0 x1 q) 0
theorem compareUs_con {σ : Store} {x0 : List Nat} {a0_0 : Option Addr} {c0_0 : Nat} {x1 : List Nat} {a1_0 : Option Addr} {c1_0 : Nat} (f0_0 : RS σ 1 encW (.slice a0_0 x0.length c0_0) x0) (f1_0 : RS σ 1 encW (.slice a1_0 x1.length c1_0) x1) {r : Int} (hh : compareUs x0 x1 = some r) :
  Con Tryz.prog 127 #[.slice a0_0 x0.length c0_0, .slice a1_0 x1.length c1_0] σ [] (PureP (.int .i64 r) σ) := by
 dsimp only [compareUs] at hh
 have f0_0b := f0_0.rv.big
 have f1_0b := f1_0.rv.big
 refine Con.mk (n := 36) Tryz.func127 z z z (fun w0 => ?_)
 refine TC.a (TL.i z z (TL.en (TC.seq (TC.a (TL.s z z (TL.w z (lenC z underlying188 z) (TL.i z z (TL.en (TC.block (TC.loopG (α := (Nat) × (Unit)) (rgs [(4, 5), (11, 20)]) (fun g => [(11, .int .i64 ((g.1 : Nat) : Int))]) (fun g => []) (fun g => σ) (fun g => iter (fun q : Nat => compareUs_b1 x0 x1 q) g.1 = some r) (fun g => rounds (fun q : Nat => compareUs_b1 x0 x1 q) g.1) (0, ()) (Sub.pre 0 z) z (by repeat (first | exact trivial | refine ⟨z, ?_⟩)) hh (fun g1 j1 hg1 => ?_)))))))))))
 obtain ⟨k103, _⟩ := g1
 have hh := hg1; clear hg1
 try dsimp only
 obtain ⟨z1, hh, hR1⟩ := iter_e hh
 dsimp only [compareUs_b1] at hh
 refine TC.a (TL.w z (OpVal.lss z z z) (TL.en (TC.seq (TC.cD z hh (fun h104 hh => ?_) (fun h104 hh => ?_)))))
 ·refine TC.skip (S.n (TC.seq (TC.block (TC.a (TL.i z z (TL.w z (indexN z underlying188 sz62 z z f0_0.rv.sl (by omega)) (TL.w z (loadS1 (0 : Nat) z ag62 z f0_0 (by omega) z) (TL.i z z (TL.i z z (TL.en (TC.seq (TC.a (TL.i z z (TL.s z z (TL.w z (lenC z underlying188 z) ?_)))))))))))))))
  refine TL.w z (OpVal.geq z z z) (TL.en (TC.cD z hh (fun h105 hh => ?_) (fun h105 hh => ?_)))
  ·refine TC.a (TL.i z z (TL.en (TC.ret (S.r (B.r (S.r (S.r ?_)))))))
   replace hh := fin_x hR1 hh
   refine B.r (S.r ?_)
   obtain rfl := so hh
   exact rq [4] ⟨z, z, z⟩
  ·refine TC.skip (S.n (TC.a (TL.s z z (TL.i z z ?_))))
   have u18 := grd_c hh
   replace hh := grd_t hh
   refine TL.w z (indexN z underlying188 sz62 z z f1_0.rv.sl (by omega)) (TL.w z (loadS1 (0 : Nat) z ag62 z f1_0 (by omega) z) (TL.i z z (TL.en (TC.a (TL.i z z (TL.i z z ?_))))))
   obtain ⟨v23, u23, hh⟩ := bnd_e hh
   refine TL.op z (callP (compareU_con u23) z z pf159 z z z ?_)
   refine TL.i z z (TL.en (TC.a (TL.i z z (TL.w z (OpVal.neq z z z) (TL.en (TC.cD z hh (fun h106 hh => ?_) (fun h106 hh => ?_)))))))
   ·refine TC.a (TL.i z z (TL.i z z (TL.en (TC.ret (B.r (S.r (S.r ?_)))))))
    replace hh := fin_x hR1 hh
    refine B.r (S.r ?_)
    obtain rfl := so hh
    exact rq [4] ⟨z, z, z⟩
   ·refine TC.skip (B.n (S.n (TC.region (TL.w z (OpVal.succ z z z (by omega)) (TL.i z z (TL.en ?_))))))
    obtain ⟨hh, hlt107⟩ := nxt_x hR1 hh
    exact lf ((k103 + 1), ()) hlt107 hh (Sub.pre 0 z)
 ·refine TC.exit (S.x (S.x ?_))
  replace hh := fin_x hR1 hh
  refine TC.exitHere (S.n (TC.seq (TC.a (TL.s z z (TL.w z (lenC z underlying188 z) (TL.s z z (TL.w z (lenC z underlying188 z) (TL.w z (OpVal.lss z z z) (TL.en (TC.cD z hh (fun h108 hh => ?_) (fun h108 hh => ?_)))))))))))
  ·refine TC.a (TL.i z z (TL.en (TC.ret (S.r ?_))))
   obtain rfl := so hh
   exact rq [4] ⟨z, z, z⟩
  ·refine TC.skip (S.n (TC.a (TL.i z z (TL.en (TC.ret ?_)))))
   obtain rfl := so hh
   exact rq [4] ⟨z, z, z⟩

noncomputable def fst_compareArcs (x0 : Arc) (x1 : Arc) : Option (Int) :=
 bnd (cmp_Compare x0.frm x1.frm) (fun v8 => bnd (cmp_Compare x0.to x1.to) (fun v13 => bnd (compareUs [x0.set.a, x0.set.b, x0.set.c, x0.set.d] [x1.set.a, x1.set.b, x1.set.c, x1.set.d]) (fun v18 => bnd (strings_Compare x0.out x1.out) (fun v23 => bnd (fst_number x0.copy) (fun v26 => bnd (fst_number x1.copy) (fun v29 => bnd (cmp_Compare v26 v29) (fun v30 => bnd (cmp_Or [v8, v13, v18, v23, v30]) (fun v32 => some v32))))))))
theorem fst_compareArcs_con {σ : Store} {x0 : Arc} {x1 : Arc}  {r : Int} (hh : fst_compareArcs x0 x1 = some r) :
  Con Tryz.prog 86 #[.agg #[.int .i64 x0.frm, .int .i64 x0.to, .int .u64 ((x0.set.a : Nat) : Int), .int .u64 ((x0.set.b : Nat) : Int), .int .u64 ((x0.set.c : Nat) : Int), .int .u64 ((x0.set.d : Nat) : Int), .string (bs x0.out), .bool x0.copy], .agg #[.int .i64 x1.frm, .int .i64 x1.to, .int .u64 ((x1.set.a : Nat) : Int), .int .u64 ((x1.set.b : Nat) : Int), .int .u64 ((x1.set.c : Nat) : Int), .int .u64 ((x1.set.d : Nat) : Int), .string (bs x1.out), .bool x1.copy]] σ [] (PureP (.int .i64 r) σ) := by
 dsimp only [fst_compareArcs] at hh
 refine Con.mk (n := 34) Tryz.func86 z z z (fun w0 => ?_)
 refine TC.a (TL.op z (boxA z z z z (fun b101 => ?_)))
 refine TL.op z (boxA z z z z (fun b103 => ?_))
 refine TL.i z z (TL.en (TC.seq ?_))
 obtain ⟨v8, u8, hh⟩ := bnd_e hh
 obtain ⟨v13, u13, hh⟩ := bnd_e hh
 obtain ⟨v18, u18, hh⟩ := bnd_e hh
 obtain ⟨v23, u23, hh⟩ := bnd_e hh
 obtain ⟨v26, u26, hh⟩ := bnd_e hh
 obtain ⟨v29, u29, hh⟩ := bnd_e hh
 obtain ⟨v30, u30, hh⟩ := bnd_e hh
 obtain ⟨v32, u32, hh⟩ := bnd_e hh
 refine TC.draw [] (by kernel_rfl) (TA.a 0 z (fieldLoc z fo66_0 z) z (TA.b 1 z (loadLoc z ag3 z (i := 1) z z) z (TA.a 2 z (fieldLoc z fo66_0 z) z (TA.b 3 z (loadLoc z ag3 z (i := 0) z z) z (TA.a 5 z (fieldLoc z fo66_1 z) z (TA.b 6 z (loadLoc z ag3 z (i := 1) z z) z (TA.a 7 z (fieldLoc z fo66_1 z) z (TA.b 8 z (loadLoc z ag3 z (i := 0) z z) z (TA.a 10 z (fieldLoc z fo66_2 z) z (TA.b 11 z (sliceArr z underlying64 sz62 z) z (TA.a 12 z (fieldLoc z fo66_2 z) z (TA.b 13 z (sliceArr z underlying64 sz62 z) z (TA.a 15 z (fieldLoc z fo66_3 z) z (TA.b 16 z (loadLoc z ag9 z (i := 1) z z) z (TA.a 17 z (fieldLoc z fo66_3 z) z ?_)))))))))))))))
 refine TA.b 18 z (loadLoc z ag9 z (i := 0) z z) z (TA.a 20 z (fieldLoc z fo66_4 z) z (TA.b 21 z (loadLoc z ag4 z (i := 1) z z) z (TA.a 23 z (fieldLoc z fo66_4 z) z (TA.b 24 z (loadLoc z ag4 z (i := 0) z z) z (TA.ac 4 z (callP (cmp_Compare_con u8) z z pf123 z z z (k0 ?_)))))))
 refine TA.ac 9 z (callP (cmp_Compare_con u13) z z pf123 z z z (k0 ?_))
 refine TA.front 1 z z (TA.ac 14 z (callK (Con.lendC (fun _ hle116 hr114 => Con.lendC (fun _ hle117 hr115 => compareUs_con (RS.ofCells (l := [x0.set.a, x0.set.b, x0.set.c, x0.set.d]) (hle117 _ _ hr114) encW_len encW_one z z z) (RS.ofCells (l := [x1.set.a, x1.set.b, x1.set.c, x1.set.d]) hr115 encW_len encW_one z z z) u18))) z z pf127 z z z z ⟨(fun w h => sees_of (Store.le.refl _) (fun r hr => mem_pick [1, 0] z hr) w h), ?_⟩))
 refine TA.ac 19 z (callP (strings_Compare_con u23) z z pf46 z z z ⟨(fun w h => sees_of (Store.le.refl _) (fun r hr => mem_pick [1, 0] z hr) w h), ?_⟩)
 refine TA.ac 22 z (callP (fst_number_con u26) z z pf128 z z z ⟨(fun w h => sees_of (Store.le.refl _) (fun r hr => mem_pick [1, 0] z hr) w h), ?_⟩)
 refine TA.ac 25 z (callP (fst_number_con u29) z z pf128 z z z ⟨(fun w h => sees_of (Store.le.refl _) (fun r hr => mem_pick [1, 0] z hr) w h), ?_⟩)
 refine TA.ac 26 z (callP (cmp_Compare_con u30) z z pf123 z z z ⟨(fun w h => sees_of (Store.le.refl _) (fun r hr => mem_pick [1, 0] z hr) w h), ?_⟩)
 refine TA.ac 27 z (OpOk.lit (enc := Go.E.encI) [v8, v13, v18, v23, v30] z underlying44 sz3 ze3 z z z Go.E.encI_len (by decide) (by decide) (0 : Int) z (by decide) z (by decide) Go.E.encI_one (fun a118 c119 => ⟨(fun w h => sees_of (Store.le.refl _) (fun r hr => mem_pick [2, 1] z hr) w h), ?_⟩))
 refine TA.ac 28 z (callK (Con.lend Go.E.encI_len (fun _ hle122 hr121 => cmp_Or_con hr121 u32)) z z pf122 z z z z ⟨(fun w h => sees_of (Store.le.refl _) (fun r hr => mem_pick [2, 1] z hr) w h), ?_⟩)
 refine TA.a 29 z (moveI (.inr z) z) z (TA.dn (S.n (TC.rt 0 ?_)))
 obtain rfl := so hh
 exact rq [4] ⟨z, z, z⟩

end Go.Proofs.YtjhbngjhdmapmaaGreatDoor
end

/- Pl -/
section
/- Plain lemmas on rounds. No program, no condition. -/
set_option linter.unusedVariables false
set_option linter.unusedSimpArgs false
namespace Go.E
open Go

section
variable {S R : Type} {step : S → Option (S ⊕ R)}
/-- Rounds that count, and may stop at the first that tells. -/
theorem iter_any {y no : R} (f : Nat → S) (p : Nat → Bool) (n : Nat) (hs : ∀ k, k < n → p k = false → step (f k) = some (.inl (f (k + 1)))) (hy : ∀ k, k < n → p k = true → step (f k) = some (.inr y))
    (hd : step (f n) = some (.inr no)) : ∀ k, k ≤ n → iter step (f k) = some (bif (List.range n).any (fun i => decide (k ≤ i) && p i) then y else no) := by
  intro k hk
  obtain ⟨m, rfl⟩ : ∃ m, k = n - m := ⟨n - k, by omega⟩
  induction m with
  | zero =>
    have : (List.range n).any (fun i => decide (n - 0 ≤ i) && p i) = false := by
      rw [List.any_eq_false]; intro i hi; have := List.mem_range.1 hi; simp; omega
    rw [this]; exact iter_done hd
  | succ m ih =>
    by_cases h : m < n
    · have e : n - (m + 1) + 1 = n - m := by omega
      cases hp : p (n - (m + 1)) with
      | true =>
        have : (List.range n).any (fun i => decide (n - (m + 1) ≤ i) && p i) = true := by
          rw [List.any_eq_true]; exact ⟨n - (m + 1), List.mem_range.2 (by omega), by simp [hp]⟩
        rw [this]; exact iter_done (hy _ (by omega) hp)
      | false =>
        have h1 := hs (n - (m + 1)) (by omega) hp
        rw [e] at h1
        have : (List.range n).any (fun i => decide (n - (m + 1) ≤ i) && p i) = (List.range n).any (fun i => decide (n - m ≤ i) && p i) := by
          rw [Bool.eq_iff_iff, List.any_eq_true, List.any_eq_true]
          constructor
          · rintro ⟨i, hi, hx⟩
            simp only [Bool.and_eq_true, decide_eq_true_eq] at hx
            refine ⟨i, hi, ?_⟩
            have : i ≠ n - (m + 1) := fun h => by rw [h, hp] at hx; exact absurd hx.2 Bool.false_ne_true
            simp [hx.2]; omega
          · rintro ⟨i, hi, hx⟩
            simp only [Bool.and_eq_true, decide_eq_true_eq] at hx
            exact ⟨i, hi, by simp [hx.2]; omega⟩
        rw [this]
        exact iter_next h1 (ih (by omega))
    · have e : n - (m + 1) = n - m := by omega
      rw [e]; exact ih (by omega)
theorem iter_any0 {y no : R} (f : Nat → S) (p : Nat → Bool) (n : Nat) (hs : ∀ k, k < n → p k = false → step (f k) = some (.inl (f (k + 1)))) (hy : ∀ k, k < n → p k = true → step (f k) = some (.inr y))
    (hd : step (f n) = some (.inr no)) : iter step (f 0) = some (bif (List.range n).any p then y else no) := by
  have := iter_any f p n hs hy hd 0 (by omega)
  simpa using this
theorem iter_seq0 {r : R} (f : Nat → S) (n : Nat) (hs : ∀ k, k < n → step (f k) = some (.inl (f (k + 1)))) (hd : step (f n) = some (.inr r)) : iter step (f 0) = some r := iter_seq f n hs hd 0 (by omega)
end

/-- What a list's elements tell, asked by place. -/
theorem range_any {α : Type} (l : List α) (d : α) (p : α → Bool) : (List.range l.length).any (fun i => p (nth l i d)) = l.any p := by
  rw [Bool.eq_iff_iff, List.any_eq_true, List.any_eq_true]
  constructor
  · rintro ⟨i, hi, h⟩
    have hi := List.mem_range.1 hi
    exact ⟨nth l i d, List.mem_of_getElem? (getD_some l hi d), h⟩
  · rintro ⟨x, hx, h⟩
    obtain ⟨i, hi, rfl⟩ := List.getElem_of_mem hx
    refine ⟨i, List.mem_range.2 hi, ?_⟩
    have : nth l i d = l[i] := by have := getD_some l hi d; rw [List.getElem?_eq_getElem hi] at this; exact (Option.some.inj this).symm
    rw [this]; exact h
theorem take_snoc {α : Type} (l : List α) {k : Nat} (h : k < l.length) (d : α) : l.take (k + 1) = l.take k ++ [nth l k d] := by
  rw [List.take_add_one, getD_some l h d]; rfl
theorem nth_mem' {α : Type} {l : List α} {i : Nat} (h : i < l.length) (d : α) : nth l i d ∈ l := List.mem_of_getElem? (getD_some l h d)
end Go.E
end

/- Ord -/
section
/- Whole orders. Plain lemmas, no condition. -/
set_option linter.unusedVariables false
set_option linter.unusedSimpArgs false
namespace Go.Proofs.YtjhbngjhdmapmaaGreatDoor
open Go Go.E Go.Sort
set_option maxRecDepth 100000

structure GoodCmp {α : Type} (c : α → α → Int) : Prop where
  eq : ∀ x y, c x y = 0 ↔ x = y
  anti : ∀ x y, c x y < 0 ↔ 0 < c y x
  trans : ∀ x y z, c x y < 0 → c y z < 0 → c x z < 0
theorem GoodCmp.total {α : Type} {c : α → α → Int} (h : GoodCmp c) : TotalCmp c where
  swo := {
    irrefl := fun x => by have := (h.eq x x).2 rfl; simp [ltOf, this]
    trans := fun x y z h1 h2 => by
      simp only [ltOf, decide_eq_true_eq] at *
      exact h.trans x y z h1 h2
    ntrans := fun x y z h1 h2 => by
      simp only [ltOf, decide_eq_false_iff_not] at *
      intro h3
      by_cases e1 : x = y
      · subst e1; exact h2 h3
      · by_cases e2 : y = z
        · subst e2; exact h1 h3
        · have n1 : c x y ≠ 0 := fun e => e1 ((h.eq _ _).1 e)
          have n2 : c y z ≠ 0 := fun e => e2 ((h.eq _ _).1 e)
          have h4 : c z y < 0 := (h.anti _ _).2 (by omega)
          exact h1 (h.trans _ _ _ h3 h4) }
  tot := fun x y h1 h2 => by
    simp only [ltOf, decide_eq_false_iff_not] at *
    refine (h.eq x y).1 ?_
    have := (h.anti y x)
    omega
def corI (a b : Int) : Int := if a ≠ 0 then a else b
theorem GoodCmp.lex {α β γ : Type} {c : β → β → Int} {d : γ → γ → Int} (hc : GoodCmp c) (hd : GoodCmp d) (f : α → β) (g : α → γ) (hfg : ∀ x y, f x = f y → g x = g y → x = y) : GoodCmp fun x y => corI (c (f x) (f y)) (d (g x) (g y)) where
  eq x y := by
    unfold corI
    by_cases h : c (f x) (f y) = 0
    · have hf := (hc.eq _ _).1 h
      simp only [h, ne_eq, not_true_eq_false, if_false, hd.eq]
      exact ⟨fun hg => hfg x y hf hg, fun e => by rw [e]⟩
    · simp only [ne_eq, h, not_false_eq_true, if_true, false_iff]
      intro e; subst e; exact h ((hc.eq _ _).2 rfl)
  anti x y := by
    unfold corI
    have h1 := hc.anti (f x) (f y)
    have h2 := hc.anti (f y) (f x)
    have h3 := hd.anti (g x) (g y)
    by_cases h : c (f x) (f y) = 0
    · have hf := (hc.eq _ _).1 h
      have h' : c (f y) (f x) = 0 := (hc.eq _ _).2 hf.symm
      simp only [h, h', ne_eq, not_true_eq_false, if_false]; exact h3
    · have h' : c (f y) (f x) ≠ 0 := fun e => h ((hc.eq _ _).2 ((hc.eq _ _).1 e).symm)
      simp only [h, h', ne_eq, not_false_eq_true, if_true]; exact h1
  trans x y z := by
    unfold corI
    intro h1 h2
    by_cases a : c (f x) (f y) = 0
    · have ea := (hc.eq _ _).1 a
      rw [a] at h1; simp only [ne_eq, not_true_eq_false, if_false] at h1
      rw [ea]
      by_cases b : c (f y) (f z) = 0
      · rw [b] at h2 ⊢
        simp only [ne_eq, not_true_eq_false, if_false] at h2 ⊢
        exact hd.trans _ _ _ h1 h2
      · simp only [ne_eq, b, not_false_eq_true, if_true] at h2 ⊢; exact h2
    · simp only [ne_eq, a, not_false_eq_true, if_true] at h1
      by_cases b : c (f y) (f z) = 0
      · have eb := (hc.eq _ _).1 b
        rw [← eb]
        simp only [ne_eq, a, not_false_eq_true, if_true]; exact h1
      · simp only [ne_eq, b, not_false_eq_true, if_true] at h2
        have h3 := hc.trans _ _ _ h1 h2
        have h4 : c (f x) (f z) ≠ 0 := by omega
        simp only [ne_eq, h4, not_false_eq_true, if_true]; exact h3
def cmpI (x y : Int) : Int := if x < y then -1 else if y < x then 1 else 0
theorem cmpI_good : GoodCmp cmpI where
  eq x y := by unfold cmpI; (repeat' split) <;> omega
  anti x y := by unfold cmpI; (repeat' split) <;> omega
  trans x y z := by unfold cmpI; (repeat' split) <;> omega
def cmpN (x y : Nat) : Int := if x < y then -1 else if y < x then 1 else 0
theorem cmpN_good : GoodCmp cmpN where
  eq x y := by unfold cmpN; (repeat' split) <;> omega
  anti x y := by unfold cmpN; (repeat' split) <;> omega
  trans x y z := by unfold cmpN; (repeat' split) <;> omega
theorem cmpB_eq : ∀ a b : List UInt8, Lib.compareBytes a b = 0 ↔ a = b
  | [], [] => by simp [Lib.compareBytes]
  | [], _ :: _ => by simp [Lib.compareBytes]
  | _ :: _, [] => by simp [Lib.compareBytes]
  | x :: a, y :: b => by
    simp only [Lib.compareBytes]
    split
    · rename_i h; simp; intro e; subst e; exact absurd h (UInt8.lt_irrefl _)
    · rename_i h
      split
      · rename_i h'; simp; intro e; subst e; exact absurd h' (UInt8.lt_irrefl _)
      · rename_i h'
        have : x = y := UInt8.le_antisymm (UInt8.not_lt.1 h') (UInt8.not_lt.1 h)
        subst this
        simp [cmpB_eq a b]
theorem cmpB_anti : ∀ a b : List UInt8, Lib.compareBytes a b < 0 ↔ 0 < Lib.compareBytes b a
  | [], [] => by simp [Lib.compareBytes]
  | [], _ :: _ => by simp [Lib.compareBytes]
  | _ :: _, [] => by simp [Lib.compareBytes]
  | x :: a, y :: b => by
    simp only [Lib.compareBytes]
    by_cases h : x < y
    · have h' : ¬ y < x := fun h2 => UInt8.lt_irrefl _ (UInt8.lt_trans h h2)
      simp [h, h']
    · by_cases h' : y < x
      · simp [h, h']
      · simp [h, h', cmpB_anti a b]
theorem cmpB_trans : ∀ a b c : List UInt8, Lib.compareBytes a b < 0 → Lib.compareBytes b c < 0 → Lib.compareBytes a c < 0
  | [], [], c, h, _ => by simp [Lib.compareBytes] at h
  | [], _ :: _, [], _, h => by simp [Lib.compareBytes] at h
  | [], _ :: _, _ :: _, _, _ => by simp [Lib.compareBytes]
  | _ :: _, [], c, h, _ => by simp [Lib.compareBytes] at h
  | _ :: _, _ :: _, [], _, h => by simp [Lib.compareBytes] at h
  | x :: a, y :: b, z :: c, h1, h2 => by
    simp only [Lib.compareBytes] at *
    by_cases hxy : x < y
    · by_cases hyz : y < z
      · have := UInt8.lt_trans hxy hyz; simp [this]
      · by_cases hzy : z < y
        · simp [hyz, hzy] at h2
        · have : y = z := UInt8.le_antisymm (UInt8.not_lt.1 hzy) (UInt8.not_lt.1 hyz)
          subst this; simp [hxy]
    · by_cases hyx : y < x
      · simp [hxy, hyx] at h1
      · have : x = y := UInt8.le_antisymm (UInt8.not_lt.1 hyx) (UInt8.not_lt.1 hxy)
        subst this
        simp only [UInt8.lt_irrefl, if_false] at h1
        by_cases hyz : x < z
        · simp [hyz]
        · by_cases hzy : z < x
          · simp [hyz, hzy] at h2
          · simp only [hyz, hzy, if_false] at h2 ⊢
            exact cmpB_trans a b c h1 h2
theorem cmpB_good : GoodCmp Lib.compareBytes := ⟨cmpB_eq, cmpB_anti, cmpB_trans⟩
def cmpBool (x y : Bool) : Int := cmpI (if x then 1 else 0) (if y then 1 else 0)
theorem cmpBool_good : GoodCmp cmpBool where
  eq x y := by cases x <;> cases y <;> decide
  anti x y := by cases x <;> cases y <;> decide
  trans x y z := by cases x <;> cases y <;> cases z <;> decide

theorem lt_dec {k n : Nat} (h : k < n) : decide (((k : Nat) : Int) < ((n : Nat) : Int)) = true := decide_eq_true (by omega)
end Go.Proofs.YtjhbngjhdmapmaaGreatDoor
end

/- F2p -/
section
/- What the program compares by: whole orders. Plain. -/
set_option linter.unusedVariables false
set_option linter.unusedSimpArgs false
namespace Go.Proofs.YtjhbngjhdmapmaaGreatDoor
open Go Go.E Go.Sort
set_option maxRecDepth 100000

theorem cmp_Compare_eq (x y : Int) : cmp_Compare x y = some (cmpI x y) := by
  unfold cmp_Compare cmp_isNaN cmpI
  simp only [bnd, Option.bind_some, ne_eq, not_true_eq_false, decide_false, iteO_false]
  by_cases h : x < y
  · simp [h]
  · by_cases h' : y < x <;> simp [h, h']
theorem compareU_eq (x y : Nat) : compareU x y = some (cmpN x y) := by
  unfold compareU isNaNU cmpN
  simp only [bnd, Option.bind_some, ne_eq, not_true_eq_false, decide_false, iteO_false]
  by_cases h : x < y
  · simp [h]
  · by_cases h' : y < x <;> simp [h, h']
theorem strings_Compare_eq (x y : List UInt8) : strings_Compare x y = some (Lib.compareBytes x y) := rfl
def orL : List Int → Int
  | [] => 0
  | a :: l => corI a (orL l)
theorem cmp_Or_from (l : List Int) : ∀ m k, l.length = k + m → iter (fun q : Nat => cmp_Or_b1 l q) k = some (orL (l.drop k)) := by
  intro m
  induction m with
  | zero =>
    intro k hk
    refine iter_done ?_
    rw [List.drop_of_length_le (by omega)]
    simp only [cmp_Or_b1, decide_eq_false (show ¬ ((k : Nat) : Int) < ((l.length : Nat) : Int) by omega), iteO_false]; rfl
  | succ m ih =>
    intro k hk
    have hlt : k < l.length := by omega
    have hd : l.drop k = nth l k 0 :: l.drop (k + 1) := by
      rw [List.drop_eq_getElem_cons hlt]
      have := getD_some l hlt 0
      rw [List.getElem?_eq_getElem hlt, Option.some.injEq] at this
      rw [this]
    rw [hd, orL, corI]
    by_cases h : nth l k 0 ≠ 0
    · rw [if_pos h]
      refine iter_done ?_
      simp only [cmp_Or_b1, decide_eq_true (show ((k : Nat) : Int) < ((l.length : Nat) : Int) by omega), iteO_true, decide_eq_true h]; rfl
    · rw [if_neg h]
      refine iter_next (s' := k + 1) ?_ (ih (k + 1) (by omega))
      simp only [cmp_Or_b1, decide_eq_true (show ((k : Nat) : Int) < ((l.length : Nat) : Int) by omega), iteO_true, decide_eq_false h]; rfl
theorem cmp_Or_eq (l : List Int) : cmp_Or l = some (orL l) := by
  unfold cmp_Or; rw [cmp_Or_from l l.length 0 (by omega), List.drop_zero]

def cmpTip (x y : Tip) : Int := corI (cmpI x.state y.state) (corI (Lib.compareBytes x.out y.out) 0)
theorem compareTips_eq (x y : Tip) : fst_compareTips x y = some (cmpTip x y) := by
  unfold fst_compareTips
  rw [bnd_some (cmp_Compare_eq _ _), bnd_some (strings_Compare_eq _ _), bnd_some (cmp_Or_eq _)]; rfl
theorem corI_zero (a : Int) : corI a 0 = a := by unfold corI; split <;> omega
theorem cmpTip_good : GoodCmp cmpTip := by
  have := GoodCmp.lex cmpI_good cmpB_good Tip.state Tip.out (fun x y h1 h2 => by cases x; cases y; simp_all)
  have e : cmpTip = fun x y => corI (cmpI x.state y.state) (Lib.compareBytes x.out y.out) := by
    funext x y; unfold cmpTip; rw [corI_zero]
  rw [e]; exact this
def cmpSet (s t : BSet) : Int := corI (cmpN s.a t.a) (corI (cmpN s.b t.b) (corI (cmpN s.c t.c) (cmpN s.d t.d)))
theorem compareUs_four (a b c d a' b' c' d' : Nat) : compareUs [a, b, c, d] [a', b', c', d'] = some (corI (cmpN a a') (corI (cmpN b b') (corI (cmpN c c') (cmpN d d')))) := by
  have st : ∀ (k x y : Nat), k < 4 → nth [a, b, c, d] k 0 = x → nth [a', b', c', d'] k 0 = y → (cmpN x y ≠ 0 → iter (fun q : Nat => compareUs_b1 [a, b, c, d] [a', b', c', d'] q) k = some (cmpN x y)) ∧ (∀ r, cmpN x y = 0 → iter (fun q : Nat => compareUs_b1 [a, b, c, d] [a', b', c', d'] q) (k + 1) = some r → iter (fun q : Nat => compareUs_b1 [a, b, c, d] [a', b', c', d'] q) k = some r) := by
    intro k x y hk hx hy
    have e1 : ((k : Nat) : Int) < (([a, b, c, d].length : Nat) : Int) := by simp; omega
    have e2 : ¬ (([a', b', c', d'].length : Nat) : Int) ≤ ((k : Nat) : Int) := by simp; omega
    refine ⟨fun h => iter_done ?_, fun r h hr => iter_next (s' := k + 1) ?_ hr⟩
    · simp only [compareUs_b1, decide_eq_true e1, iteO_true, decide_eq_false e2, iteO_false]
      rw [grd_mk (by simp; omega), hx, hy, bnd_some (compareU_eq _ _), decide_eq_true h]; rfl
    · simp only [compareUs_b1, decide_eq_true e1, iteO_true, decide_eq_false e2, iteO_false]
      rw [grd_mk (by simp; omega), hx, hy, bnd_some (compareU_eq _ _), h]; rfl
  have fi : iter (fun q : Nat => compareUs_b1 [a, b, c, d] [a', b', c', d'] q) 4 = some 0 := iter_done (by simp [compareUs_b1])
  have go : ∀ (k x y : Nat) (r : Int), k < 4 → nth [a, b, c, d] k 0 = x → nth [a', b', c', d'] k 0 = y → iter (fun q : Nat => compareUs_b1 [a, b, c, d] [a', b', c', d'] q) (k + 1) = some r → iter (fun q : Nat => compareUs_b1 [a, b, c, d] [a', b', c', d'] q) k = some (corI (cmpN x y) r) := by
    intro k x y r hk hx hy hr
    obtain ⟨h1, h2⟩ := st k x y hk hx hy
    by_cases h : cmpN x y = 0
    · rw [show corI (cmpN x y) r = r from by simp [corI, h]]; exact h2 r h hr
    · rw [show corI (cmpN x y) r = cmpN x y from by simp [corI, h]]; exact h1 h
  have h3 := go 3 d d' 0 (by omega) rfl rfl fi
  rw [corI_zero] at h3
  exact go 0 a a' _ (by omega) rfl rfl (go 1 b b' _ (by omega) rfl rfl (go 2 c c' _ (by omega) rfl rfl h3))
theorem cmpSet_good : GoodCmp cmpSet := by
  have h1 := GoodCmp.lex (α := Nat × Nat) cmpN_good cmpN_good Prod.fst Prod.snd (fun x y h1 h2 => Prod.ext h1 h2)
  have h2 := GoodCmp.lex (α := Nat × Nat × Nat) cmpN_good h1 Prod.fst Prod.snd (fun x y h1 h2 => Prod.ext h1 h2)
  have h3 := GoodCmp.lex (α := BSet) cmpN_good h2 BSet.a (fun s => (s.b, s.c, s.d)) (fun x y h1 h2 => by
    cases x; cases y; simp_all)
  exact h3
def cmpArc (x y : Arc) : Int := corI (cmpI x.frm y.frm) (corI (cmpI x.to y.to) (corI (cmpSet x.set y.set) (corI (Lib.compareBytes x.out y.out) (corI (cmpBool x.copy y.copy) 0))))
theorem fst_number_eq (b : Bool) : fst_number b = some (if b then 1 else 0) := by cases b <;> rfl
theorem compareArcs_eq (x y : Arc) : fst_compareArcs x y = some (cmpArc x y) := by
  unfold fst_compareArcs
  rw [bnd_some (cmp_Compare_eq _ _), bnd_some (cmp_Compare_eq _ _), bnd_some (compareUs_four ..), bnd_some (strings_Compare_eq _ _), bnd_some (fst_number_eq _), bnd_some (fst_number_eq _), bnd_some (cmp_Compare_eq _ _), bnd_some (cmp_Or_eq _)]; rfl
theorem cmpArc_good : GoodCmp cmpArc := by
  have h1 := GoodCmp.lex (α := List UInt8 × Bool) cmpB_good cmpBool_good Prod.fst Prod.snd (fun x y h1 h2 => Prod.ext h1 h2)
  have h2 := GoodCmp.lex (α := BSet × List UInt8 × Bool) cmpSet_good h1 Prod.fst Prod.snd (fun x y h1 h2 => Prod.ext h1 h2)
  have h3 := GoodCmp.lex (α := Int × BSet × List UInt8 × Bool) cmpI_good h2 Prod.fst Prod.snd (fun x y h1 h2 => Prod.ext h1 h2)
  have h4 := GoodCmp.lex (α := Arc) cmpI_good h3 Arc.frm (fun s => (s.to, s.set, s.out, s.copy)) (fun x y h1 h2 => by
    cases x; cases y; simp_all)
  have e : cmpArc = fun x y => corI (cmpI x.frm y.frm) (corI (cmpI x.to y.to) (corI (cmpSet x.set y.set) (corI (Lib.compareBytes x.out y.out) (cmpBool x.copy y.copy)))) := by
    funext x y; unfold cmpArc; rw [corI_zero]
  rw [e]; exact h4
end Go.Proofs.YtjhbngjhdmapmaaGreatDoor
end

/- F3s -/
section
/- The library's sort at the types that the program sorts. Conditions: none. -/
set_option linter.unusedVariables false
set_option linter.unusedSimpArgs false
namespace Go.Proofs.YtjhbngjhdmapmaaGreatDoor
open Go Go.E
set_option maxRecDepth 100000
instance : Inhabited Tip := ⟨Tip.zero⟩
instance : Inhabited Arc := ⟨Arc.zero⟩
theorem sortS_con {σ : Store} {a : Option Addr} {c : Nat} {l : List (List UInt8)} : Con Tryz.prog 89 #[.slice a l.length c, .func (.func 46) #[] #[]] σ [Res.rowS 9 1 Go.E.encS (.slice a l.length c) l] (SortP 9 1 Go.E.encS a c l (sortL Lib.compareBytes l) σ) :=
  Con.sort1 (enc := keyS) layS layS0 rfl (fun _ => rfl) (fun _ => rfl) cmpB_good.total (fun args w => run_callFunc (by kernel_rfl) args w) (fun x y τ => strings_Compare_con (strings_Compare_eq x y))
theorem sortT_con {σ : Store} {a : Option Addr} {c : Nat} {l : List Tip} : Con Tryz.prog 120 #[.slice a l.length c, .func (.func 84) #[] #[]] σ [Res.rowS 53 2 encTip (.slice a l.length c) l] (SortP 53 2 encTip a c l (sortL cmpTip l) σ) :=
  Con.sortK (k := 2) layT0 rfl Tryz.isAgg53 Tryz.sizeOf53 encTip_len encTip_one cmpTip_good.total (fun args w => run_callFunc (by kernel_rfl) args w) (fun x y τ => fst_compareTips_con (compareTips_eq x y))
theorem sortA_con {σ : Store} {a : Option Addr} {c : Nat} {l : List Arc} : Con Tryz.prog 125 #[.slice a l.length c, .func (.func 86) #[] #[]] σ [Res.rowS 66 8 encArc (.slice a l.length c) l] (SortP 66 8 encArc a c l (sortL cmpArc l) σ) :=
  Con.sortK (k := 8) layA0 rfl Tryz.isAgg66 Tryz.sizeOf66 encArc_len encArc_one cmpArc_good.total (fun args w => run_callFunc (by kernel_rfl) args w) (fun x y τ => fst_compareArcs_con (compareArcs_eq x y))
end Go.Proofs.YtjhbngjhdmapmaaGreatDoor
end

/- F3 -/
section
/- Decompiled: things in order, each once; what goes in; what comes out. -/
set_option linter.unusedVariables false
set_option linter.unusedSimpArgs false
namespace Go.Proofs.YtjhbngjhdmapmaaGreatDoor
open Go Go.E Go.E.OpVal Go.E.OpOk Go.Proofs.Tryz
set_option maxRecDepth 100000
private theorem ag25 : Go.E.aggOf Tryz.prog 25 = some true := by kernel_rfl
private theorem ag35 : Go.E.aggOf Tryz.prog 35 = some false := by kernel_rfl
private theorem by23 : Go.E.byOf Tryz.prog 23 = some 24 := by kernel_rfl
private theorem by35 : Go.E.byOf Tryz.prog 35 = some 24 := by kernel_rfl
private theorem by53 : Go.E.byOf Tryz.prog 53 = some 24 := by kernel_rfl
private theorem by66 : Go.E.byOf Tryz.prog 66 = some 72 := by kernel_rfl
private theorem by9 : Go.E.byOf Tryz.prog 9 = some 16 := by kernel_rfl
private theorem eg53 : Tryz.prog.eqGuardType Tryz.prog.depth 53 = false := by kernel_rfl
private theorem eg66 : Tryz.prog.eqGuardType Tryz.prog.depth 66 = false := by kernel_rfl
private theorem es53 (x y : Tip) : Go.E.EqAt Tryz.prog 2 53 (.agg (Go.E.encTip x).toArray) (.agg (Go.E.encTip y).toArray) (decide (x = y)) :=
 (EqAt.struct (ts := [(false, 3, 0), (false, 9, 1)]) (by kernel_rfl) (by kernel_rfl) (by kernel_rfl) (EqC.one (by kernel_rfl) rfl rfl (EqAt.int underlying3 x.state y.state) (EqC.one (by kernel_rfl) rfl rfl (EqAt.str underlying9 x.out y.out) EqC.nil))).of (by rw [Bool.eq_iff_iff]; cases x; cases y; simp)
private theorem es66 (x y : Arc) : Go.E.EqAt Tryz.prog 3 66 (.agg (Go.E.encArc x).toArray) (.agg (Go.E.encArc y).toArray) (decide (x = y)) :=
 (EqAt.struct (ts := [(false, 3, 0), (false, 3, 1), (false, 64, 2), (false, 9, 6), (false, 4, 7)]) (by kernel_rfl) (by kernel_rfl) (by kernel_rfl) (EqC.one (by kernel_rfl) rfl rfl (EqAt.int underlying3 x.frm y.frm |>.up (by decide)) (EqC.one (by kernel_rfl) rfl rfl (EqAt.int underlying3 x.to y.to |>.up (by decide)) (EqC.agg (s := 4) (us := Go.E.setA x.set) (vs := Go.E.setA y.set) (by kernel_rfl) (by kernel_rfl) rfl rfl (EqAt.set underlying64 underlying62 (by kernel_rfl) (by kernel_rfl) x.set y.set) (EqC.one (by kernel_rfl) rfl rfl (EqAt.str underlying9 x.out y.out |>.up (by decide)) (EqC.one (by kernel_rfl) rfl rfl (EqAt.bool underlying4 x.copy y.copy |>.up (by decide)) EqC.nil)))))).of (by rw [Bool.eq_iff_iff]; cases x; cases y; simp)
private theorem pf119 : Go.E.plainF Tryz.prog 119 = true := by kernel_rfl
private theorem pf120 : Go.E.plainF Tryz.prog 120 = true := by kernel_rfl
private theorem pf121 : Go.E.plainF Tryz.prog 121 = true := by kernel_rfl
private theorem pf124 : Go.E.plainF Tryz.prog 124 = true := by kernel_rfl
private theorem pf125 : Go.E.plainF Tryz.prog 125 = true := by kernel_rfl
private theorem pf126 : Go.E.plainF Tryz.prog 126 = true := by kernel_rfl
private theorem pf31 : Go.E.plainF Tryz.prog 31 = true := by kernel_rfl
private theorem pf44 : Go.E.plainF Tryz.prog 44 = true := by kernel_rfl
private theorem pf45 : Go.E.plainF Tryz.prog 45 = true := by kernel_rfl
private theorem pf83 : Go.E.plainF Tryz.prog 83 = true := by kernel_rfl
private theorem pf85 : Go.E.plainF Tryz.prog 85 = true := by kernel_rfl
private theorem pf88 : Go.E.plainF Tryz.prog 88 = true := by kernel_rfl
private theorem pf89 : Go.E.plainF Tryz.prog 89 = true := by kernel_rfl
private theorem pf90 : Go.E.plainF Tryz.prog 90 = true := by kernel_rfl
private theorem pl25 : Go.E.plOf Tryz.prog 25 = some #[(0, 1), (1, 1), (2, 1), (3, 1)] := by kernel_rfl
private theorem sz25 : Go.E.szOf Tryz.prog 25 = some 4 := by kernel_rfl
private theorem sz35 : Go.E.szOf Tryz.prog 35 = some 1 := by kernel_rfl
private theorem sz9 : Go.E.szOf Tryz.prog 9 = some 1 := by kernel_rfl
private theorem ze23 : Go.E.zeroOf Tryz.prog 23 = some (.slice none 0 0) := by kernel_rfl
private theorem ze25 : Go.E.zeroOf Tryz.prog 25 = some (.agg #[.int .i64 0, .slice none 0 0, .slice none 0 0, .slice none 0 0]) := by kernel_rfl
private theorem ze35 : Go.E.zeroOf Tryz.prog 35 = some (.slice none 0 0) := by kernel_rfl
private theorem ze9 : Go.E.zeroOf Tryz.prog 9 = some (.string ByteArray.empty) := by kernel_rfl

theorem cloneS_con {σ : Store} {a : Option Addr} {c : Nat} {l : List (List UInt8)} (hl : RS σ 1 Go.E.encS (.slice a l.length c) l) (hsz : l.length * 16 ≤ 140737488355328) :
  Con Tryz.prog 88 #[.slice a l.length c] σ [] (RowP 9 1 Go.E.encS l σ) := by
 have hb := hl.rv.big
 refine Con.mk (n := 8) Tryz.func88 z z z (fun w0 => ?_)
 refine TC.a (TL.s z z (TL.nilS 9 1 Go.E.encS (TL.en (TC.seq (TC.a (TL.s z z (TL.w z (eqlNilSl z underlying35 z z) (TL.en (TC.cond z (fun h2 => ?_) (fun h2 => ?_))))))))))
 ·refine TC.a (TL.s z z (TL.nilS 9 1 Go.E.encS (TL.en (TC.ret (S.r ?_)))))
  cases a with
  | some _ => simp at h2
  | none =>
   obtain rfl := hl.none_nil
   exact ret1R z z
 ·refine TC.skip (S.n (TC.a (TL.op z (lit0 (enc := Go.E.encS) z z underlying35 sz9 z z (fun a4 c5 => ?_)))))
  refine TL.s z z (TL.op z (appendS z z underlying35 sz9 by9 ze9 z z (by decide) z z z (.inl hl) (by simpa using hsz) (by decide) (fun a7 c8 => ?_)))
  exact TL.s z z (TL.en (TC.ret (ret1R z z)))

noncomputable def compactS_j1 (k125 : Nat) (l128 : List (List UInt8)) (k130 : Nat) : Option (((List (List UInt8)) × Nat × Nat) ⊕ ((Nat) ⊕ ((List (List UInt8))))) :=
 nxt (l128, k130, (k125 + 1))
noncomputable def compactS_b2 (x0 : List (List UInt8)) (k105 : Nat) (l122 : List (List UInt8)) (k124 : Nat) (k125 : Nat) : Option (((List (List UInt8)) × Nat × Nat) ⊕ ((Nat) ⊕ ((List (List UInt8))))) :=
 iteO (decide (((k125 : Nat) : Int) < (((x0.length - k105) : Nat) : Int))) (grd (k125 < (x0.length - k105)) (grd (0 ≤ (IntKind.i64.wrap (((k125 : Nat) : Int) - 1)) ∧ (IntKind.i64.wrap (((k125 : Nat) : Int) - 1)) < ((x0.length - k105) : Nat)) (iteO (decide ((nth l122 (k105 + k125) ([] : List UInt8)) ≠ (nth l122 (k105 + (IntKind.i64.wrap (((k125 : Nat) : Int) - 1)).toNat) ([] : List UInt8)))) (grd (k125 < (x0.length - k105)) (grd (k124 < l122.length) (compactS_j1 k125 (l122.set k124 (nth l122 (k105 + k125) ([] : List UInt8))) (k124 + 1)))) (compactS_j1 k125 l122 k124)))) (fin (grd (k124 ≤ x0.length) (grd (k124 ≤ (l122.take k124 ++ List.replicate (l122.length - k124) ([] : List UInt8)).length) (fin (some ((l122.take k124 ++ List.replicate (l122.length - k124) ([] : List UInt8)).take k124))))))
noncomputable def compactS_b1 (x0 : List (List UInt8)) (k105 : Nat) : Option ((Nat) ⊕ ((List (List UInt8)))) :=
 iteO (decide (((k105 : Nat) : Int) < ((x0.length : Nat) : Int))) (grd (0 ≤ (IntKind.i64.wrap (((k105 : Nat) : Int) - 1)) ∧ (IntKind.i64.wrap (((k105 : Nat) : Int) - 1)) < (x0.length : Int)) (iteO (decide ((nth x0 k105 ([] : List UInt8)) = (nth x0 ((IntKind.i64.wrap (((k105 : Nat) : Int) - 1)).toNat) ([] : List UInt8)))) (grd (k105 ≤ x0.length) (iter (fun q : (List (List UInt8)) × Nat × Nat => compactS_b2 x0 k105 q.1 q.2.1 q.2.2) (x0, k105, 1))) (nxt (k105 + 1)))) (fin (some x0))
noncomputable def compactS (x0 : List (List UInt8)) : Option ((List (List UInt8))) :=
 iteO (decide (((x0.length : Nat) : Int) < 2)) (some x0) (iter (fun q : Nat => compactS_b1 x0 q) 1)
theorem compactS_con {σ : Store} {x0 : List (List UInt8)} {a0_1 : Option Addr} {c0_2 : Nat}  {r : (List (List UInt8))} (hh : compactS x0 = some r) :
  Con Tryz.prog 90 #[.slice a0_1 x0.length c0_2] σ [Res.rowS 9 1 Go.E.encS (.slice a0_1 x0.length c0_2) x0] (fun v σ' H' => ∃ (a1 : Option Addr), ∃ (c1 : Nat), v = .slice a1 r.length c1 ∧ σ = σ' ∧ H' = [Res.rowS 9 1 Go.E.encS (.slice a1 r.length c1) r]) := by
 dsimp only [compactS] at hh
 refine Con.mk (n := 61) Tryz.func90 z z z (fun w0 => ?_)
 refine TC.a (TL.s z z (TL.en (TC.seq (TC.a (TL.s z z (TL.w z (lenC z underlying35 z) (TL.w z (OpVal.lss z z z) (TL.en (TC.cD z hh (fun h102 hh => ?_) (fun h102 hh => ?_))))))))))
 ·refine TC.a (TL.s z z (TL.s z z (TL.en (TC.ret (S.r ?_)))))
  obtain rfl := so hh
  exact ro [Res.rowS 9 1 Go.E.encS (.slice a0_1 x0.length c0_2) x0] z (RVs.tmp z RVs.nil) ⟨a0_1, c0_2, z, z, z⟩
 ·refine TC.skip (S.n (TC.seq (TC.a (TL.i z z (TL.en (TC.block (TC.loopG (α := (Nat) × (Unit)) (rgs [(2, 4), (10, 50)]) (fun g => [(3, .int .i64 ((g.1 : Nat) : Int))]) (fun g => [Res.rowS 9 1 Go.E.encS (.slice a0_1 x0.length c0_2) x0]) (fun g => σ) (fun g => iter (fun q : Nat => compactS_b1 x0 q) g.1 = some r) (fun g => rounds (fun q : Nat => compactS_b1 x0 q) g.1) (1, ()) (Sub.pre 1 z) z (by repeat (first | exact trivial | refine ⟨z, ?_⟩)) hh (fun g1 j1 hg1 => ?_))))))))
  obtain ⟨k105, _⟩ := g1
  have hh := hg1; clear hg1
  try dsimp only
  obtain ⟨z1, hh, hR1⟩ := iter_e hh
  dsimp only [compactS_b1] at hh
  refine TC.isSl (i := 0) z (fun _ hb106 _ => ?_)
  refine TC.seq (TC.a (TL.i z z (TL.s z z (TL.w z (lenC z underlying35 z) (TL.w z (OpVal.lss z z z) (TL.en (TC.cD z hh (fun h107 hh => ?_) (fun h107 hh => ?_))))))))
  ·refine TC.skip (S.n (TC.seq (TC.block (TC.seq ?_))))
   have u19 := grd_c hh
   replace hh := grd_t hh
   refine TC.draw [] (by kernel_rfl) (TA.a 0 z (moveSl (.inl z) z) z (TA.a 1 z (moveI (.inl z) z) z (TA.isSl (i := 0) z (fun hs110 _ _ => ?_))))
   refine TA.b 2 z (indexN z underlying35 sz9 z z hs110 (by omega)) z (TA.b 3 z (loadO1 ([] : List UInt8) z ag9 z (q := 0) z Go.E.encS_len (by omega) z) z (TA.a 4 z (moveSl (.inl z) z) z (TA.a 5 z (moveI (.inl z) z) z (TA.a 6 z (subW z z z) z (TA.isSl (i := 0) z (fun hs111 _ _ => ?_))))))
   refine TA.b 7 z (OpVal.index z underlying35 sz9 z z hs111 u19.1 u19.2) z (TA.b 8 z (loadO1 ([] : List UInt8) z ag9 z (q := 0) z Go.E.encS_len (by omega) z) z (TA.a 9 z (eqlBs z z z) z (TA.dn (S.n (TC.cD z hh (fun h112 hh => ?_) (fun h112 hh => ?_))))))
   ·refine TC.a (TL.s z z (TL.i z z ?_))
    have u24 := grd_c hh
    replace hh := grd_t hh
    refine TL.isSl (i := 0) z (fun hs113 _ _ => ?_)
    obtain ⟨a113, c113, hv113, ho113⟩ := vw_of (k := k105) (size := 1) hs113 (by omega)
    refine TL.w z (ho113 z underlying35 sz9 z z) (TL.s z z (TL.en (TC.seq (TC.a (TL.i z z (TL.en (TC.block (TC.loopG (α := ((List (List UInt8)) × Nat × Nat) × (Unit)) (rgs [(3, 1), (5, 1), (29, 25)]) (fun g => [(3, .int .i64 ((g.1.2.1 : Nat) : Int)), (5, .int .i64 ((g.1.2.2 : Nat) : Int))]) (fun g => [Res.rowS 9 1 Go.E.encS (.slice a0_1 x0.length c0_2) g.1.1]) (fun g => σ) (fun g => iter (fun q : (List (List UInt8)) × Nat × Nat => compactS_b2 x0 k105 q.1 q.2.1 q.2.2) g.1 = some z1 ∧ g.1.1.length = x0.length) (fun g => rounds (fun q : (List (List UInt8)) × Nat × Nat => compactS_b2 x0 k105 q.1 q.2.1 q.2.2) g.1) ((x0, k105, 1), ()) (Sub.pre 1 z) z (by repeat (first | exact trivial | refine ⟨z, ?_⟩)) ⟨hh, z⟩ (fun g2 j2 hg2 => ?_)))))))))
    obtain ⟨⟨l122, k124, k125⟩, _⟩ := g2
    obtain ⟨hh, hn123⟩ := hg2
    try dsimp only at hn123 ⊢
    obtain ⟨z2, hh, hR2⟩ := iter_e hh
    dsimp only [compactS_b2] at hh
    have hn123b := hn123
    refine TC.isSl (i := 0) z (fun _ hb126 _ => ?_)
    refine TC.seq (TC.a (TL.i z z (TL.s z z (TL.w z (lenC z underlying35 z) (TL.w z (OpVal.lss z z z) (TL.en (TC.cD z hh (fun h127 hh => ?_) (fun h127 hh => ?_))))))))
    ·refine TC.skip (S.n (TC.cutG (α := ((List (List UInt8)) × Nat) × (Unit)) (rgs [(3, 1), (35, 19)]) (fun g => [(3, .int .i64 ((g.1.2 : Nat) : Int))]) (fun g => [Res.rowS 9 1 Go.E.encS (.slice a0_1 x0.length c0_2) g.1.1]) (fun g => σ) (fun g => compactS_j1 k125 g.1.1 g.1.2 = some z2 ∧ g.1.1.length = x0.length) ?_ (fun g j hg => ?_)))
     ·skip
      refine TC.block (TC.seq ?_)
      have u33 := grd_c hh
      replace hh := grd_t hh
      have u38 := grd_c hh
      replace hh := grd_t hh
      refine TC.draw [] (by kernel_rfl) (TA.a 0 z (moveSl (.inl z) z) z (TA.a 1 z (moveI (.inl z) z) z (TA.b 2 z (elVw hv113 (by omega) (indexN z underlying35 sz9 z z hv113.sl (by omega))) z (TA.b 3 z (loadO1 ([] : List UInt8) z ag9 z (q := 0) z Go.E.encS_len (by omega) z) z (TA.a 4 z (moveSl (.inl z) z) z (TA.a 5 z (moveI (.inl z) z) z (TA.a 6 z (subW z z z) z (TA.b 7 z (elVw hv113 (by omega) (OpVal.index z underlying35 sz9 z z hv113.sl u38.1 u38.2)) z (TA.b 8 z (loadO1 ([] : List UInt8) z ag9 z (q := 0) z Go.E.encS_len (by omega) z) z (TA.a 9 z (neqBs z z z) z (TA.dn (S.n (TC.cD z hh (fun h131 hh => ?_) (fun h131 hh => ?_))))))))))))))
      ·refine TC.a (TL.s z z (TL.i z z (TL.s z z (TL.i z z ?_))))
       have u45 := grd_c hh
       replace hh := grd_t hh
       refine TL.w z (elVw hv113 (by omega) (indexN z underlying35 sz9 z z hv113.sl (by omega))) (TL.w z (loadO1 ([] : List UInt8) z ag9 z (q := 0) z Go.E.encS_len (by omega) z) ?_)
       have u47 := grd_c hh
       replace hh := grd_t hh
       refine TL.isSl (i := 0) z (fun hs132 _ _ => ?_)
       refine TL.w z (indexN z underlying35 sz9 z z hs132 (by omega)) ?_
       have hn133 : (l122.set k124 (nth l122 (k105 + k125) ([] : List UInt8))).length = x0.length := by rw [List.length_set]; exact hn123
       refine TL.op z (storeS (nth l122 (k105 + k125) ([] : List UInt8)) z sz9 z z z z Go.E.encS_len Go.E.encS_one (by omega) (by omega) ?_)
       exact TL.en (TC.region (TL.i z z (TL.w z (OpVal.succ z z z (by omega)) (TL.i z z (TL.nil (B.n (S.n (cf (((l122.set k124 (nth l122 (k105 + k125) ([] : List UInt8))), (k124 + 1)), ()) ⟨hh, hn133⟩ (Sub.pre 1 z)))))))))
      ·exact TC.skip (B.n (S.n (cf ((l122, k124), ()) ⟨hh, hn123⟩ (Sub.pre 1 z))))
     ·skip
      obtain ⟨⟨l128, k130⟩, _⟩ := g
      obtain ⟨hh, hn129⟩ := hg
      try dsimp only at hn129 ⊢
      dsimp only [compactS_j1] at hh
      have hn129b := hn129
      refine TC.isSl (i := 0) z (fun _ hb134 _ => ?_)
      refine TC.region (TL.i z z (TL.w z (OpVal.succ z z z (by omega)) (TL.i z z (TL.en ?_))))
      obtain ⟨hh, hlt135⟩ := nxt_x hR2 hh
      exact lf ((l128, k130, (k125 + 1)), ()) hlt135 ⟨hh, hn129⟩ (Sub.pre 1 z)
    ·refine TC.exit (S.x (S.x ?_))
     replace hh := fin_x hR2 hh
     refine TC.exitHere (S.n (TC.a (TL.s z z (TL.i z z ?_))))
     have u57 := grd_c hh
     replace hh := grd_t hh
     refine TL.isSl (i := 0) z (fun hs136 _ _ => ?_)
     rw [hn123] at hs136
     obtain ⟨a136, c136, hv136, ho136⟩ := vw_of (k := k124) (size := 1) hs136 (by omega)
     refine TL.w z (ho136 z underlying35 sz9 z z) ?_
     have hn137 : (l122.take k124 ++ List.replicate (l122.length - k124) ([] : List UInt8)).length = x0.length := by simp only [List.length_append, List.length_take, List.length_replicate]; try simp only [List.length_replicate] at *; omega
     refine TL.op z (clearV (k := k124) ([] : List UInt8) z underlying35 ze9 z z hv136 (by omega) (by omega) Go.E.encS_len (by decide) z Go.E.encS_one ?_)
     refine TL.en (TC.a (TL.s z z (TL.i z z ?_)))
     rw [← hn137]
     have u61 := grd_c hh
     replace hh := grd_t hh
     refine TL.op z (cutS z underlying35 sz9 z z z z z (by omega) Go.E.encS_len ?_)
     refine TL.s z z (TL.en (TC.ret (B.r (S.r (S.r ?_)))))
     replace hh := fin_x hR1 hh
     refine B.r (S.r ?_)
     obtain rfl := so hh
     exact ro [Res.rowS 9 1 Go.E.encS (.slice a0_1 ((l122.take k124 ++ List.replicate (l122.length - k124) ([] : List UInt8)).take k124).length c0_2) ((l122.take k124 ++ List.replicate (l122.length - k124) ([] : List UInt8)).take k124)] z (RVs.tmp z RVs.nil) ⟨a0_1, c0_2, z, z, z⟩
   ·refine TC.skip (B.n (S.n (TC.region (TL.i z z (TL.w z (OpVal.succ z z z (by omega)) (TL.i z z (TL.en ?_)))))))
    obtain ⟨hh, hlt138⟩ := nxt_x hR1 hh
    exact lf ((k105 + 1), ()) hlt138 hh (Sub.pre 1 z)
  ·refine TC.exit (S.x (S.x ?_))
   replace hh := fin_x hR1 hh
   refine TC.exitHere (S.n (TC.a (TL.s z z (TL.s z z (TL.en (TC.ret ?_))))))
   obtain rfl := so hh
   exact ro [Res.rowS 9 1 Go.E.encS (.slice a0_1 x0.length c0_2) x0] z (RVs.tmp z RVs.nil) ⟨a0_1, c0_2, z, z, z⟩

theorem cloneT_con {σ : Store} {a : Option Addr} {c : Nat} {l : List Tip} (hl : RS σ 2 encTip (.slice a l.length c) l) (hsz : l.length * 24 ≤ 140737488355328) :
  Con Tryz.prog 119 #[.slice a l.length c] σ [] (RowP 53 2 encTip l σ) := by
 have hb := hl.rv.big
 refine Con.mk (n := 8) Tryz.func119 z z z (fun w0 => ?_)
 refine TC.a (TL.s z z (TL.nilS 53 2 encTip (TL.en (TC.seq (TC.a (TL.s z z (TL.w z (eqlNilSl z underlying22 z z) (TL.en (TC.cond z (fun h2 => ?_) (fun h2 => ?_))))))))))
 ·refine TC.a (TL.s z z (TL.nilS 53 2 encTip (TL.en (TC.ret (S.r ?_)))))
  cases a with
  | some _ => simp at h2
  | none =>
   obtain rfl := hl.none_nil
   exact ret1R z z
 ·refine TC.skip (S.n (TC.a (TL.op z (lit0 (enc := encTip) z z underlying22 sz53 z z (fun a4 c5 => ?_)))))
  refine TL.s z z (TL.op z (appendS z z underlying22 sz53 by53 ze53 z z (by decide) z z z (.inl hl) (by simpa using hsz) (by decide) (fun a7 c8 => ?_)))
  exact TL.s z z (TL.en (TC.ret (ret1R z z)))

noncomputable def compactT_j1 (k125 : Nat) (l128 : List Tip) (k130 : Nat) : Option (((List Tip) × Nat × Nat) ⊕ ((Nat) ⊕ ((List Tip)))) :=
 nxt (l128, k130, (k125 + 1))
noncomputable def compactT_b2 (x0 : List Tip) (k105 : Nat) (l122 : List Tip) (k124 : Nat) (k125 : Nat) : Option (((List Tip) × Nat × Nat) ⊕ ((Nat) ⊕ ((List Tip)))) :=
 iteO (decide (((k125 : Nat) : Int) < (((x0.length - k105) : Nat) : Int))) (grd (k125 < (x0.length - k105)) (grd (0 ≤ (IntKind.i64.wrap (((k125 : Nat) : Int) - 1)) ∧ (IntKind.i64.wrap (((k125 : Nat) : Int) - 1)) < ((x0.length - k105) : Nat)) (iteO (decide (¬ ((nth l122 (k105 + k125) Tip.zero) = (nth l122 (k105 + (IntKind.i64.wrap (((k125 : Nat) : Int) - 1)).toNat) Tip.zero)))) (grd (k125 < (x0.length - k105)) (grd (k124 < l122.length) (compactT_j1 k125 (l122.set k124 (nth l122 (k105 + k125) Tip.zero)) (k124 + 1)))) (compactT_j1 k125 l122 k124)))) (fin (grd (k124 ≤ x0.length) (grd (k124 ≤ (l122.take k124 ++ List.replicate (l122.length - k124) Tip.zero).length) (fin (some ((l122.take k124 ++ List.replicate (l122.length - k124) Tip.zero).take k124))))))
noncomputable def compactT_b1 (x0 : List Tip) (k105 : Nat) : Option ((Nat) ⊕ ((List Tip))) :=
 iteO (decide (((k105 : Nat) : Int) < ((x0.length : Nat) : Int))) (grd (0 ≤ (IntKind.i64.wrap (((k105 : Nat) : Int) - 1)) ∧ (IntKind.i64.wrap (((k105 : Nat) : Int) - 1)) < (x0.length : Int)) (iteO (decide ((nth x0 k105 Tip.zero) = (nth x0 ((IntKind.i64.wrap (((k105 : Nat) : Int) - 1)).toNat) Tip.zero))) (grd (k105 ≤ x0.length) (iter (fun q : (List Tip) × Nat × Nat => compactT_b2 x0 k105 q.1 q.2.1 q.2.2) (x0, k105, 1))) (nxt (k105 + 1)))) (fin (some x0))
noncomputable def compactT (x0 : List Tip) : Option ((List Tip)) :=
 iteO (decide (((x0.length : Nat) : Int) < 2)) (some x0) (iter (fun q : Nat => compactT_b1 x0 q) 1)
theorem compactT_con {σ : Store} {x0 : List Tip} {a0_1 : Option Addr} {c0_2 : Nat}  {r : (List Tip)} (hh : compactT x0 = some r) :
  Con Tryz.prog 121 #[.slice a0_1 x0.length c0_2] σ [Res.rowS 53 2 encTip (.slice a0_1 x0.length c0_2) x0] (fun v σ' H' => ∃ (a1 : Option Addr), ∃ (c1 : Nat), v = .slice a1 r.length c1 ∧ σ = σ' ∧ H' = [Res.rowS 53 2 encTip (.slice a1 r.length c1) r]) := by
 dsimp only [compactT] at hh
 refine Con.mk (n := 61) Tryz.func121 z z z (fun w0 => ?_)
 refine TC.a (TL.s z z (TL.en (TC.seq (TC.a (TL.s z z (TL.w z (lenC z underlying22 z) (TL.w z (OpVal.lss z z z) (TL.en (TC.cD z hh (fun h102 hh => ?_) (fun h102 hh => ?_))))))))))
 ·refine TC.a (TL.s z z (TL.s z z (TL.en (TC.ret (S.r ?_)))))
  obtain rfl := so hh
  exact ro [Res.rowS 53 2 encTip (.slice a0_1 x0.length c0_2) x0] z (RVs.tmp z RVs.nil) ⟨a0_1, c0_2, z, z, z⟩
 ·refine TC.skip (S.n (TC.seq (TC.a (TL.i z z (TL.en (TC.block (TC.loopG (α := (Nat) × (Unit)) (rgs [(2, 4), (10, 50)]) (fun g => [(3, .int .i64 ((g.1 : Nat) : Int))]) (fun g => [Res.rowS 53 2 encTip (.slice a0_1 x0.length c0_2) x0]) (fun g => σ) (fun g => iter (fun q : Nat => compactT_b1 x0 q) g.1 = some r) (fun g => rounds (fun q : Nat => compactT_b1 x0 q) g.1) (1, ()) (Sub.pre 1 z) z (by repeat (first | exact trivial | refine ⟨z, ?_⟩)) hh (fun g1 j1 hg1 => ?_))))))))
  obtain ⟨k105, _⟩ := g1
  have hh := hg1; clear hg1
  try dsimp only
  obtain ⟨z1, hh, hR1⟩ := iter_e hh
  dsimp only [compactT_b1] at hh
  refine TC.isSl (i := 0) z (fun _ hb106 _ => ?_)
  refine TC.seq (TC.a (TL.i z z (TL.s z z (TL.w z (lenC z underlying22 z) (TL.w z (OpVal.lss z z z) (TL.en (TC.cD z hh (fun h107 hh => ?_) (fun h107 hh => ?_))))))))
  ·refine TC.skip (S.n (TC.seq (TC.block (TC.seq ?_))))
   have u19 := grd_c hh
   replace hh := grd_t hh
   refine TC.draw [] (by kernel_rfl) (TA.a 0 z (moveSl (.inl z) z) z (TA.a 1 z (moveI (.inl z) z) z (TA.isSl (i := 0) z (fun hs110 _ _ => ?_))))
   refine TA.b 2 z (indexN z underlying22 sz53 z z hs110 (by omega)) z (TA.b 3 z (loadOA Tip.zero z ag53 sz53 z (q := 0) z encTip_len (by omega) (by omega)) z (TA.a 4 z (moveSl (.inl z) z) z (TA.a 5 z (moveI (.inl z) z) z (TA.a 6 z (subW z z z) z (TA.isSl (i := 0) z (fun hs111 _ _ => ?_))))))
   refine TA.b 7 z (OpVal.index z underlying22 sz53 z z hs111 u19.1 u19.2) z (TA.b 8 z (loadOA Tip.zero z ag53 sz53 z (q := 0) z encTip_len (by omega) (by omega)) z (TA.a 9 z (eqlSt (p := (nth x0 k105 Tip.zero) = (nth x0 ((IntKind.i64.wrap (((k105 : Nat) : Int) - 1)).toNat) Tip.zero)) z z z eg53 (es53 (nth x0 k105 Tip.zero) (nth x0 ((IntKind.i64.wrap (((k105 : Nat) : Int) - 1)).toNat) Tip.zero)) z) z (TA.dn (S.n (TC.cD z hh (fun h112 hh => ?_) (fun h112 hh => ?_))))))
   ·refine TC.a (TL.s z z (TL.i z z ?_))
    have u24 := grd_c hh
    replace hh := grd_t hh
    refine TL.isSl (i := 0) z (fun hs113 _ _ => ?_)
    obtain ⟨a113, c113, hv113, ho113⟩ := vw_of (k := k105) (size := 2) hs113 (by omega)
    refine TL.w z (ho113 z underlying22 sz53 z z) (TL.s z z (TL.en (TC.seq (TC.a (TL.i z z (TL.en (TC.block (TC.loopG (α := ((List Tip) × Nat × Nat) × (Unit)) (rgs [(3, 1), (5, 1), (29, 25)]) (fun g => [(3, .int .i64 ((g.1.2.1 : Nat) : Int)), (5, .int .i64 ((g.1.2.2 : Nat) : Int))]) (fun g => [Res.rowS 53 2 encTip (.slice a0_1 x0.length c0_2) g.1.1]) (fun g => σ) (fun g => iter (fun q : (List Tip) × Nat × Nat => compactT_b2 x0 k105 q.1 q.2.1 q.2.2) g.1 = some z1 ∧ g.1.1.length = x0.length) (fun g => rounds (fun q : (List Tip) × Nat × Nat => compactT_b2 x0 k105 q.1 q.2.1 q.2.2) g.1) ((x0, k105, 1), ()) (Sub.pre 1 z) z (by repeat (first | exact trivial | refine ⟨z, ?_⟩)) ⟨hh, z⟩ (fun g2 j2 hg2 => ?_)))))))))
    obtain ⟨⟨l122, k124, k125⟩, _⟩ := g2
    obtain ⟨hh, hn123⟩ := hg2
    try dsimp only at hn123 ⊢
    obtain ⟨z2, hh, hR2⟩ := iter_e hh
    dsimp only [compactT_b2] at hh
    have hn123b := hn123
    refine TC.isSl (i := 0) z (fun _ hb126 _ => ?_)
    refine TC.seq (TC.a (TL.i z z (TL.s z z (TL.w z (lenC z underlying22 z) (TL.w z (OpVal.lss z z z) (TL.en (TC.cD z hh (fun h127 hh => ?_) (fun h127 hh => ?_))))))))
    ·refine TC.skip (S.n (TC.cutG (α := ((List Tip) × Nat) × (Unit)) (rgs [(3, 1), (35, 19)]) (fun g => [(3, .int .i64 ((g.1.2 : Nat) : Int))]) (fun g => [Res.rowS 53 2 encTip (.slice a0_1 x0.length c0_2) g.1.1]) (fun g => σ) (fun g => compactT_j1 k125 g.1.1 g.1.2 = some z2 ∧ g.1.1.length = x0.length) ?_ (fun g j hg => ?_)))
     ·skip
      refine TC.block (TC.seq ?_)
      have u33 := grd_c hh
      replace hh := grd_t hh
      have u38 := grd_c hh
      replace hh := grd_t hh
      refine TC.draw [] (by kernel_rfl) (TA.a 0 z (moveSl (.inl z) z) z (TA.a 1 z (moveI (.inl z) z) z (TA.b 2 z (elVw hv113 (by omega) (indexN z underlying22 sz53 z z hv113.sl (by omega))) z (TA.b 3 z (loadOA Tip.zero z ag53 sz53 z (q := 0) z encTip_len (by omega) (by omega)) z (TA.a 4 z (moveSl (.inl z) z) z (TA.a 5 z (moveI (.inl z) z) z (TA.a 6 z (subW z z z) z (TA.b 7 z (elVw hv113 (by omega) (OpVal.index z underlying22 sz53 z z hv113.sl u38.1 u38.2)) z (TA.b 8 z (loadOA Tip.zero z ag53 sz53 z (q := 0) z encTip_len (by omega) (by omega)) z (TA.a 9 z (neqSt (p := (nth l122 (k105 + k125) Tip.zero) = (nth l122 (k105 + (IntKind.i64.wrap (((k125 : Nat) : Int) - 1)).toNat) Tip.zero)) z z z eg53 (es53 (nth l122 (k105 + k125) Tip.zero) (nth l122 (k105 + (IntKind.i64.wrap (((k125 : Nat) : Int) - 1)).toNat) Tip.zero)) z) z (TA.dn (S.n (TC.cD z hh (fun h131 hh => ?_) (fun h131 hh => ?_))))))))))))))
      ·refine TC.a (TL.s z z (TL.i z z (TL.s z z (TL.i z z ?_))))
       have u45 := grd_c hh
       replace hh := grd_t hh
       refine TL.w z (elVw hv113 (by omega) (indexN z underlying22 sz53 z z hv113.sl (by omega))) (TL.w z (loadOA Tip.zero z ag53 sz53 z (q := 0) z encTip_len (by omega) (by omega)) ?_)
       have u47 := grd_c hh
       replace hh := grd_t hh
       refine TL.isSl (i := 0) z (fun hs132 _ _ => ?_)
       refine TL.w z (indexN z underlying22 sz53 z z hs132 (by omega)) ?_
       have hn133 : (l122.set k124 (nth l122 (k105 + k125) Tip.zero)).length = x0.length := by rw [List.length_set]; exact hn123
       refine TL.op z (storeS (nth l122 (k105 + k125) Tip.zero) z sz53 z z z z encTip_len encTip_one (by omega) (by omega) ?_)
       exact TL.en (TC.region (TL.i z z (TL.w z (OpVal.succ z z z (by omega)) (TL.i z z (TL.nil (B.n (S.n (cf (((l122.set k124 (nth l122 (k105 + k125) Tip.zero)), (k124 + 1)), ()) ⟨hh, hn133⟩ (Sub.pre 1 z)))))))))
      ·exact TC.skip (B.n (S.n (cf ((l122, k124), ()) ⟨hh, hn123⟩ (Sub.pre 1 z))))
     ·skip
      obtain ⟨⟨l128, k130⟩, _⟩ := g
      obtain ⟨hh, hn129⟩ := hg
      try dsimp only at hn129 ⊢
      dsimp only [compactT_j1] at hh
      have hn129b := hn129
      refine TC.isSl (i := 0) z (fun _ hb134 _ => ?_)
      refine TC.region (TL.i z z (TL.w z (OpVal.succ z z z (by omega)) (TL.i z z (TL.en ?_))))
      obtain ⟨hh, hlt135⟩ := nxt_x hR2 hh
      exact lf ((l128, k130, (k125 + 1)), ()) hlt135 ⟨hh, hn129⟩ (Sub.pre 1 z)
    ·refine TC.exit (S.x (S.x ?_))
     replace hh := fin_x hR2 hh
     refine TC.exitHere (S.n (TC.a (TL.s z z (TL.i z z ?_))))
     have u57 := grd_c hh
     replace hh := grd_t hh
     refine TL.isSl (i := 0) z (fun hs136 _ _ => ?_)
     rw [hn123] at hs136
     obtain ⟨a136, c136, hv136, ho136⟩ := vw_of (k := k124) (size := 2) hs136 (by omega)
     refine TL.w z (ho136 z underlying22 sz53 z z) ?_
     have hn137 : (l122.take k124 ++ List.replicate (l122.length - k124) Tip.zero).length = x0.length := by simp only [List.length_append, List.length_take, List.length_replicate]; try simp only [List.length_replicate] at *; omega
     refine TL.op z (clearV (k := k124) Tip.zero z underlying22 ze53 z z hv136 (by omega) (by omega) encTip_len (by decide) z encTip_one ?_)
     refine TL.en (TC.a (TL.s z z (TL.i z z ?_)))
     rw [← hn137]
     have u61 := grd_c hh
     replace hh := grd_t hh
     refine TL.op z (cutS z underlying22 sz53 z z z z z (by omega) encTip_len ?_)
     refine TL.s z z (TL.en (TC.ret (B.r (S.r (S.r ?_)))))
     replace hh := fin_x hR1 hh
     refine B.r (S.r ?_)
     obtain rfl := so hh
     exact ro [Res.rowS 53 2 encTip (.slice a0_1 ((l122.take k124 ++ List.replicate (l122.length - k124) Tip.zero).take k124).length c0_2) ((l122.take k124 ++ List.replicate (l122.length - k124) Tip.zero).take k124)] z (RVs.tmp z RVs.nil) ⟨a0_1, c0_2, z, z, z⟩
   ·refine TC.skip (B.n (S.n (TC.region (TL.i z z (TL.w z (OpVal.succ z z z (by omega)) (TL.i z z (TL.en ?_)))))))
    obtain ⟨hh, hlt138⟩ := nxt_x hR1 hh
    exact lf ((k105 + 1), ()) hlt138 hh (Sub.pre 1 z)
  ·refine TC.exit (S.x (S.x ?_))
   replace hh := fin_x hR1 hh
   refine TC.exitHere (S.n (TC.a (TL.s z z (TL.s z z (TL.en (TC.ret ?_))))))
   obtain rfl := so hh
   exact ro [Res.rowS 53 2 encTip (.slice a0_1 x0.length c0_2) x0] z (RVs.tmp z RVs.nil) ⟨a0_1, c0_2, z, z, z⟩

theorem cloneA_con {σ : Store} {a : Option Addr} {c : Nat} {l : List Arc} (hl : RS σ 8 encArc (.slice a l.length c) l) (hsz : l.length * 72 ≤ 140737488355328) :
  Con Tryz.prog 124 #[.slice a l.length c] σ [] (RowP 66 8 encArc l σ) := by
 have hb := hl.rv.big
 refine Con.mk (n := 8) Tryz.func124 z z z (fun w0 => ?_)
 refine TC.a (TL.s z z (TL.nilS 66 8 encArc (TL.en (TC.seq (TC.a (TL.s z z (TL.w z (eqlNilSl z underlying23 z z) (TL.en (TC.cond z (fun h2 => ?_) (fun h2 => ?_))))))))))
 ·refine TC.a (TL.s z z (TL.nilS 66 8 encArc (TL.en (TC.ret (S.r ?_)))))
  cases a with
  | some _ => simp at h2
  | none =>
   obtain rfl := hl.none_nil
   exact ret1R z z
 ·refine TC.skip (S.n (TC.a (TL.op z (lit0 (enc := encArc) z z underlying23 sz66 z z (fun a4 c5 => ?_)))))
  refine TL.s z z (TL.op z (appendS z z underlying23 sz66 by66 ze66 z z (by decide) z z z (.inl hl) (by simpa using hsz) (by decide) (fun a7 c8 => ?_)))
  exact TL.s z z (TL.en (TC.ret (ret1R z z)))

noncomputable def compactA_j1 (k125 : Nat) (l128 : List Arc) (k130 : Nat) : Option (((List Arc) × Nat × Nat) ⊕ ((Nat) ⊕ ((List Arc)))) :=
 nxt (l128, k130, (k125 + 1))
noncomputable def compactA_b2 (x0 : List Arc) (k105 : Nat) (l122 : List Arc) (k124 : Nat) (k125 : Nat) : Option (((List Arc) × Nat × Nat) ⊕ ((Nat) ⊕ ((List Arc)))) :=
 iteO (decide (((k125 : Nat) : Int) < (((x0.length - k105) : Nat) : Int))) (grd (k125 < (x0.length - k105)) (grd (0 ≤ (IntKind.i64.wrap (((k125 : Nat) : Int) - 1)) ∧ (IntKind.i64.wrap (((k125 : Nat) : Int) - 1)) < ((x0.length - k105) : Nat)) (iteO (decide (¬ ((nth l122 (k105 + k125) Arc.zero) = (nth l122 (k105 + (IntKind.i64.wrap (((k125 : Nat) : Int) - 1)).toNat) Arc.zero)))) (grd (k125 < (x0.length - k105)) (grd (k124 < l122.length) (compactA_j1 k125 (l122.set k124 (nth l122 (k105 + k125) Arc.zero)) (k124 + 1)))) (compactA_j1 k125 l122 k124)))) (fin (grd (k124 ≤ x0.length) (grd (k124 ≤ (l122.take k124 ++ List.replicate (l122.length - k124) Arc.zero).length) (fin (some ((l122.take k124 ++ List.replicate (l122.length - k124) Arc.zero).take k124))))))
noncomputable def compactA_b1 (x0 : List Arc) (k105 : Nat) : Option ((Nat) ⊕ ((List Arc))) :=
 iteO (decide (((k105 : Nat) : Int) < ((x0.length : Nat) : Int))) (grd (0 ≤ (IntKind.i64.wrap (((k105 : Nat) : Int) - 1)) ∧ (IntKind.i64.wrap (((k105 : Nat) : Int) - 1)) < (x0.length : Int)) (iteO (decide ((nth x0 k105 Arc.zero) = (nth x0 ((IntKind.i64.wrap (((k105 : Nat) : Int) - 1)).toNat) Arc.zero))) (grd (k105 ≤ x0.length) (iter (fun q : (List Arc) × Nat × Nat => compactA_b2 x0 k105 q.1 q.2.1 q.2.2) (x0, k105, 1))) (nxt (k105 + 1)))) (fin (some x0))
noncomputable def compactA (x0 : List Arc) : Option ((List Arc)) :=
 iteO (decide (((x0.length : Nat) : Int) < 2)) (some x0) (iter (fun q : Nat => compactA_b1 x0 q) 1)
theorem compactA_con {σ : Store} {x0 : List Arc} {a0_1 : Option Addr} {c0_2 : Nat}  {r : (List Arc)} (hh : compactA x0 = some r) :
  Con Tryz.prog 126 #[.slice a0_1 x0.length c0_2] σ [Res.rowS 66 8 encArc (.slice a0_1 x0.length c0_2) x0] (fun v σ' H' => ∃ (a1 : Option Addr), ∃ (c1 : Nat), v = .slice a1 r.length c1 ∧ σ = σ' ∧ H' = [Res.rowS 66 8 encArc (.slice a1 r.length c1) r]) := by
 dsimp only [compactA] at hh
 refine Con.mk (n := 61) Tryz.func126 z z z (fun w0 => ?_)
 refine TC.a (TL.s z z (TL.en (TC.seq (TC.a (TL.s z z (TL.w z (lenC z underlying23 z) (TL.w z (OpVal.lss z z z) (TL.en (TC.cD z hh (fun h102 hh => ?_) (fun h102 hh => ?_))))))))))
 ·refine TC.a (TL.s z z (TL.s z z (TL.en (TC.ret (S.r ?_)))))
  obtain rfl := so hh
  exact ro [Res.rowS 66 8 encArc (.slice a0_1 x0.length c0_2) x0] z (RVs.tmp z RVs.nil) ⟨a0_1, c0_2, z, z, z⟩
 ·refine TC.skip (S.n (TC.seq (TC.a (TL.i z z (TL.en (TC.block (TC.loopG (α := (Nat) × (Unit)) (rgs [(2, 4), (10, 50)]) (fun g => [(3, .int .i64 ((g.1 : Nat) : Int))]) (fun g => [Res.rowS 66 8 encArc (.slice a0_1 x0.length c0_2) x0]) (fun g => σ) (fun g => iter (fun q : Nat => compactA_b1 x0 q) g.1 = some r) (fun g => rounds (fun q : Nat => compactA_b1 x0 q) g.1) (1, ()) (Sub.pre 1 z) z (by repeat (first | exact trivial | refine ⟨z, ?_⟩)) hh (fun g1 j1 hg1 => ?_))))))))
  obtain ⟨k105, _⟩ := g1
  have hh := hg1; clear hg1
  try dsimp only
  obtain ⟨z1, hh, hR1⟩ := iter_e hh
  dsimp only [compactA_b1] at hh
  refine TC.isSl (i := 0) z (fun _ hb106 _ => ?_)
  refine TC.seq (TC.a (TL.i z z (TL.s z z (TL.w z (lenC z underlying23 z) (TL.w z (OpVal.lss z z z) (TL.en (TC.cD z hh (fun h107 hh => ?_) (fun h107 hh => ?_))))))))
  ·refine TC.skip (S.n (TC.seq (TC.block (TC.seq ?_))))
   have u19 := grd_c hh
   replace hh := grd_t hh
   refine TC.draw [] (by kernel_rfl) (TA.a 0 z (moveSl (.inl z) z) z (TA.a 1 z (moveI (.inl z) z) z (TA.isSl (i := 0) z (fun hs110 _ _ => ?_))))
   refine TA.b 2 z (indexN z underlying23 sz66 z z hs110 (by omega)) z (TA.b 3 z (loadOA Arc.zero z ag66 sz66 z (q := 0) z encArc_len (by omega) (by omega)) z (TA.a 4 z (moveSl (.inl z) z) z (TA.a 5 z (moveI (.inl z) z) z (TA.a 6 z (subW z z z) z (TA.isSl (i := 0) z (fun hs111 _ _ => ?_))))))
   refine TA.b 7 z (OpVal.index z underlying23 sz66 z z hs111 u19.1 u19.2) z (TA.b 8 z (loadOA Arc.zero z ag66 sz66 z (q := 0) z encArc_len (by omega) (by omega)) z (TA.a 9 z (eqlSt (p := (nth x0 k105 Arc.zero) = (nth x0 ((IntKind.i64.wrap (((k105 : Nat) : Int) - 1)).toNat) Arc.zero)) z z z eg66 (es66 (nth x0 k105 Arc.zero) (nth x0 ((IntKind.i64.wrap (((k105 : Nat) : Int) - 1)).toNat) Arc.zero)) z) z (TA.dn (S.n (TC.cD z hh (fun h112 hh => ?_) (fun h112 hh => ?_))))))
   ·refine TC.a (TL.s z z (TL.i z z ?_))
    have u24 := grd_c hh
    replace hh := grd_t hh
    refine TL.isSl (i := 0) z (fun hs113 _ _ => ?_)
    obtain ⟨a113, c113, hv113, ho113⟩ := vw_of (k := k105) (size := 8) hs113 (by omega)
    refine TL.w z (ho113 z underlying23 sz66 z z) (TL.s z z (TL.en (TC.seq (TC.a (TL.i z z (TL.en (TC.block (TC.loopG (α := ((List Arc) × Nat × Nat) × (Unit)) (rgs [(3, 1), (5, 1), (29, 25)]) (fun g => [(3, .int .i64 ((g.1.2.1 : Nat) : Int)), (5, .int .i64 ((g.1.2.2 : Nat) : Int))]) (fun g => [Res.rowS 66 8 encArc (.slice a0_1 x0.length c0_2) g.1.1]) (fun g => σ) (fun g => iter (fun q : (List Arc) × Nat × Nat => compactA_b2 x0 k105 q.1 q.2.1 q.2.2) g.1 = some z1 ∧ g.1.1.length = x0.length) (fun g => rounds (fun q : (List Arc) × Nat × Nat => compactA_b2 x0 k105 q.1 q.2.1 q.2.2) g.1) ((x0, k105, 1), ()) (Sub.pre 1 z) z (by repeat (first | exact trivial | refine ⟨z, ?_⟩)) ⟨hh, z⟩ (fun g2 j2 hg2 => ?_)))))))))
    obtain ⟨⟨l122, k124, k125⟩, _⟩ := g2
    obtain ⟨hh, hn123⟩ := hg2
    try dsimp only at hn123 ⊢
    obtain ⟨z2, hh, hR2⟩ := iter_e hh
    dsimp only [compactA_b2] at hh
    have hn123b := hn123
    refine TC.isSl (i := 0) z (fun _ hb126 _ => ?_)
    refine TC.seq (TC.a (TL.i z z (TL.s z z (TL.w z (lenC z underlying23 z) (TL.w z (OpVal.lss z z z) (TL.en (TC.cD z hh (fun h127 hh => ?_) (fun h127 hh => ?_))))))))
    ·refine TC.skip (S.n (TC.cutG (α := ((List Arc) × Nat) × (Unit)) (rgs [(3, 1), (35, 19)]) (fun g => [(3, .int .i64 ((g.1.2 : Nat) : Int))]) (fun g => [Res.rowS 66 8 encArc (.slice a0_1 x0.length c0_2) g.1.1]) (fun g => σ) (fun g => compactA_j1 k125 g.1.1 g.1.2 = some z2 ∧ g.1.1.length = x0.length) ?_ (fun g j hg => ?_)))
     ·skip
      refine TC.block (TC.seq ?_)
      have u33 := grd_c hh
      replace hh := grd_t hh
      have u38 := grd_c hh
      replace hh := grd_t hh
      refine TC.draw [] (by kernel_rfl) (TA.a 0 z (moveSl (.inl z) z) z (TA.a 1 z (moveI (.inl z) z) z (TA.b 2 z (elVw hv113 (by omega) (indexN z underlying23 sz66 z z hv113.sl (by omega))) z (TA.b 3 z (loadOA Arc.zero z ag66 sz66 z (q := 0) z encArc_len (by omega) (by omega)) z (TA.a 4 z (moveSl (.inl z) z) z (TA.a 5 z (moveI (.inl z) z) z (TA.a 6 z (subW z z z) z (TA.b 7 z (elVw hv113 (by omega) (OpVal.index z underlying23 sz66 z z hv113.sl u38.1 u38.2)) z (TA.b 8 z (loadOA Arc.zero z ag66 sz66 z (q := 0) z encArc_len (by omega) (by omega)) z (TA.a 9 z (neqSt (p := (nth l122 (k105 + k125) Arc.zero) = (nth l122 (k105 + (IntKind.i64.wrap (((k125 : Nat) : Int) - 1)).toNat) Arc.zero)) z z z eg66 (es66 (nth l122 (k105 + k125) Arc.zero) (nth l122 (k105 + (IntKind.i64.wrap (((k125 : Nat) : Int) - 1)).toNat) Arc.zero)) z) z (TA.dn (S.n (TC.cD z hh (fun h131 hh => ?_) (fun h131 hh => ?_))))))))))))))
      ·refine TC.a (TL.s z z (TL.i z z (TL.s z z (TL.i z z ?_))))
       have u45 := grd_c hh
       replace hh := grd_t hh
       refine TL.w z (elVw hv113 (by omega) (indexN z underlying23 sz66 z z hv113.sl (by omega))) (TL.w z (loadOA Arc.zero z ag66 sz66 z (q := 0) z encArc_len (by omega) (by omega)) ?_)
       have u47 := grd_c hh
       replace hh := grd_t hh
       refine TL.isSl (i := 0) z (fun hs132 _ _ => ?_)
       refine TL.w z (indexN z underlying23 sz66 z z hs132 (by omega)) ?_
       have hn133 : (l122.set k124 (nth l122 (k105 + k125) Arc.zero)).length = x0.length := by rw [List.length_set]; exact hn123
       refine TL.op z (storeS (nth l122 (k105 + k125) Arc.zero) z sz66 z z z z encArc_len encArc_one (by omega) (by omega) ?_)
       exact TL.en (TC.region (TL.i z z (TL.w z (OpVal.succ z z z (by omega)) (TL.i z z (TL.nil (B.n (S.n (cf (((l122.set k124 (nth l122 (k105 + k125) Arc.zero)), (k124 + 1)), ()) ⟨hh, hn133⟩ (Sub.pre 1 z)))))))))
      ·exact TC.skip (B.n (S.n (cf ((l122, k124), ()) ⟨hh, hn123⟩ (Sub.pre 1 z))))
     ·skip
      obtain ⟨⟨l128, k130⟩, _⟩ := g
      obtain ⟨hh, hn129⟩ := hg
      try dsimp only at hn129 ⊢
      dsimp only [compactA_j1] at hh
      have hn129b := hn129
      refine TC.isSl (i := 0) z (fun _ hb134 _ => ?_)
      refine TC.region (TL.i z z (TL.w z (OpVal.succ z z z (by omega)) (TL.i z z (TL.en ?_))))
      obtain ⟨hh, hlt135⟩ := nxt_x hR2 hh
      exact lf ((l128, k130, (k125 + 1)), ()) hlt135 ⟨hh, hn129⟩ (Sub.pre 1 z)
    ·refine TC.exit (S.x (S.x ?_))
     replace hh := fin_x hR2 hh
     refine TC.exitHere (S.n (TC.a (TL.s z z (TL.i z z ?_))))
     have u57 := grd_c hh
     replace hh := grd_t hh
     refine TL.isSl (i := 0) z (fun hs136 _ _ => ?_)
     rw [hn123] at hs136
     obtain ⟨a136, c136, hv136, ho136⟩ := vw_of (k := k124) (size := 8) hs136 (by omega)
     refine TL.w z (ho136 z underlying23 sz66 z z) ?_
     have hn137 : (l122.take k124 ++ List.replicate (l122.length - k124) Arc.zero).length = x0.length := by simp only [List.length_append, List.length_take, List.length_replicate]; try simp only [List.length_replicate] at *; omega
     refine TL.op z (clearV (k := k124) Arc.zero z underlying23 ze66 z z hv136 (by omega) (by omega) encArc_len (by decide) z encArc_one ?_)
     refine TL.en (TC.a (TL.s z z (TL.i z z ?_)))
     rw [← hn137]
     have u61 := grd_c hh
     replace hh := grd_t hh
     refine TL.op z (cutS z underlying23 sz66 z z z z z (by omega) encArc_len ?_)
     refine TL.s z z (TL.en (TC.ret (B.r (S.r (S.r ?_)))))
     replace hh := fin_x hR1 hh
     refine B.r (S.r ?_)
     obtain rfl := so hh
     exact ro [Res.rowS 66 8 encArc (.slice a0_1 ((l122.take k124 ++ List.replicate (l122.length - k124) Arc.zero).take k124).length c0_2) ((l122.take k124 ++ List.replicate (l122.length - k124) Arc.zero).take k124)] z (RVs.tmp z RVs.nil) ⟨a0_1, c0_2, z, z, z⟩
   ·refine TC.skip (B.n (S.n (TC.region (TL.i z z (TL.w z (OpVal.succ z z z (by omega)) (TL.i z z (TL.en ?_)))))))
    obtain ⟨hh, hlt138⟩ := nxt_x hR1 hh
    exact lf ((k105 + 1), ()) hlt138 hh (Sub.pre 1 z)
  ·refine TC.exit (S.x (S.x ?_))
   replace hh := fin_x hR1 hh
   refine TC.exitHere (S.n (TC.a (TL.s z z (TL.s z z (TL.en (TC.ret ?_))))))
   obtain rfl := so hh
   exact ro [Res.rowS 66 8 encArc (.slice a0_1 x0.length c0_2) x0] z (RVs.tmp z RVs.nil) ⟨a0_1, c0_2, z, z, z⟩

noncomputable def onceS (x0 : List (List UInt8)) : Option ((List (List UInt8))) :=
 grd (x0.length * 16 ≤ 140737488355328) (bnd (compactS (sortL Lib.compareBytes x0)) (fun v9 => some v9))
def onceS_P (σ : Store) (r : (List (List UInt8))) : Value → Store → List Res → Prop := fun v σ' H' =>
 ∃ (a1 : Option Addr), ∃ (c1 : Nat),  v = .slice a1 r.length c1 ∧ σ = σ' ∧ H' = [Res.rowS 9 1 Go.E.encS (.slice a1 r.length c1) r]
theorem onceS_con {σ : Store} {x0 : List (List UInt8)} {a0_0 : Option Addr} {c0_0 : Nat} (f0_0 : RS σ 1 Go.E.encS (.slice a0_0 x0.length c0_0) x0) {r : (List (List UInt8))} (hh : onceS x0 = some r) :
  Con Tryz.prog 45 #[.slice a0_0 x0.length c0_0, .func (.func 46) #[] #[]] σ [] (onceS_P σ r) := by
 dsimp only [onceS] at hh
 have f0_0b := f0_0.rv.big
 refine Con.mk (n := 13) Tryz.func45 z z z (fun w0 => ?_)
 refine TC.a (TL.s z z (TL.en (TC.a (TL.s z z ?_))))
 have u3 := grd_c hh
 replace hh := grd_t hh
 refine TL.op z (OpOk.call (cloneS_con f0_0 u3) z z pf88 z z z z ?_)
 rintro _ _ _ _ ⟨⟨a101, c102, rfl⟩, rfl, rfl⟩
 refine TL.s z z (TL.en (TC.a (TL.s z z (TL.w z (moveFn (.inl z) z) ?_))))
 have hn104 : (sortL Lib.compareBytes x0).length = x0.length := List.length_mergeSort _
 refine TL.op z (OpOk.call (sortS_con (l := x0)) z z pf89 z z z z ?_)
 rintro _ _ _ _ ⟨rfl, rfl, rfl⟩
 refine TL.en (TC.a (TL.s z z ?_))
 rw [← hn104]
 obtain ⟨v9, u9, hh⟩ := bnd_e hh
 refine TL.op z (OpOk.call (compactS_con u9) z z pf90 z z z z ?_)
 rintro _ _ _ hle105 ⟨a105_1, c105_2, rfl, rfl, rfl⟩
 refine TL.s z z (TL.en (TC.ret ?_))
 obtain rfl := so hh
 exact ro [Res.rowS 9 1 Go.E.encS (.slice a105_1 v9.length c105_2) v9] z (RVs.tmp z RVs.nil) ⟨a105_1, c105_2, z, z, z⟩

noncomputable def onceT (x0 : List Tip) : Option ((List Tip)) :=
 grd (x0.length * 24 ≤ 140737488355328) (bnd (compactT (sortL cmpTip x0)) (fun v9 => some v9))
def onceT_P (σ : Store) (r : (List Tip)) : Value → Store → List Res → Prop := fun v σ' H' =>
 ∃ (a1 : Option Addr), ∃ (c1 : Nat),  v = .slice a1 r.length c1 ∧ σ = σ' ∧ H' = [Res.rowS 53 2 encTip (.slice a1 r.length c1) r]
theorem onceT_con {σ : Store} {x0 : List Tip} {a0_0 : Option Addr} {c0_0 : Nat} (f0_0 : RS σ 2 encTip (.slice a0_0 x0.length c0_0) x0) {r : (List Tip)} (hh : onceT x0 = some r) :
  Con Tryz.prog 83 #[.slice a0_0 x0.length c0_0, .func (.func 84) #[] #[]] σ [] (onceT_P σ r) := by
 dsimp only [onceT] at hh
 have f0_0b := f0_0.rv.big
 refine Con.mk (n := 13) Tryz.func83 z z z (fun w0 => ?_)
 refine TC.a (TL.s z z (TL.en (TC.a (TL.s z z ?_))))
 have u3 := grd_c hh
 replace hh := grd_t hh
 refine TL.op z (OpOk.call (cloneT_con f0_0 u3) z z pf119 z z z z ?_)
 rintro _ _ _ _ ⟨⟨a101, c102, rfl⟩, rfl, rfl⟩
 refine TL.s z z (TL.en (TC.a (TL.s z z (TL.w z (moveFn (.inl z) z) ?_))))
 have hn104 : (sortL cmpTip x0).length = x0.length := List.length_mergeSort _
 refine TL.op z (OpOk.call (sortT_con (l := x0)) z z pf120 z z z z ?_)
 rintro _ _ _ _ ⟨rfl, rfl, rfl⟩
 refine TL.en (TC.a (TL.s z z ?_))
 rw [← hn104]
 obtain ⟨v9, u9, hh⟩ := bnd_e hh
 refine TL.op z (OpOk.call (compactT_con u9) z z pf121 z z z z ?_)
 rintro _ _ _ hle105 ⟨a105_1, c105_2, rfl, rfl, rfl⟩
 refine TL.s z z (TL.en (TC.ret ?_))
 obtain rfl := so hh
 exact ro [Res.rowS 53 2 encTip (.slice a105_1 v9.length c105_2) v9] z (RVs.tmp z RVs.nil) ⟨a105_1, c105_2, z, z, z⟩

noncomputable def onceA (x0 : List Arc) : Option ((List Arc)) :=
 grd (x0.length * 72 ≤ 140737488355328) (bnd (compactA (sortL cmpArc x0)) (fun v9 => some v9))
def onceA_P (σ : Store) (r : (List Arc)) : Value → Store → List Res → Prop := fun v σ' H' =>
 ∃ (a1 : Option Addr), ∃ (c1 : Nat),  v = .slice a1 r.length c1 ∧ σ = σ' ∧ H' = [Res.rowS 66 8 encArc (.slice a1 r.length c1) r]
theorem onceA_con {σ : Store} {x0 : List Arc} {a0_0 : Option Addr} {c0_0 : Nat} (f0_0 : RS σ 8 encArc (.slice a0_0 x0.length c0_0) x0) {r : (List Arc)} (hh : onceA x0 = some r) :
  Con Tryz.prog 85 #[.slice a0_0 x0.length c0_0, .func (.func 86) #[] #[]] σ [] (onceA_P σ r) := by
 dsimp only [onceA] at hh
 have f0_0b := f0_0.rv.big
 refine Con.mk (n := 13) Tryz.func85 z z z (fun w0 => ?_)
 refine TC.a (TL.s z z (TL.en (TC.a (TL.s z z ?_))))
 have u3 := grd_c hh
 replace hh := grd_t hh
 refine TL.op z (OpOk.call (cloneA_con f0_0 u3) z z pf124 z z z z ?_)
 rintro _ _ _ _ ⟨⟨a101, c102, rfl⟩, rfl, rfl⟩
 refine TL.s z z (TL.en (TC.a (TL.s z z (TL.w z (moveFn (.inl z) z) ?_))))
 have hn104 : (sortL cmpArc x0).length = x0.length := List.length_mergeSort _
 refine TL.op z (OpOk.call (sortA_con (l := x0)) z z pf125 z z z z ?_)
 rintro _ _ _ _ ⟨rfl, rfl, rfl⟩
 refine TL.en (TC.a (TL.s z z ?_))
 rw [← hn104]
 obtain ⟨v9, u9, hh⟩ := bnd_e hh
 refine TL.op z (OpOk.call (compactA_con u9) z z pf126 z z z z ?_)
 rintro _ _ _ hle105 ⟨a105_1, c105_2, rfl, rfl, rfl⟩
 refine TL.s z z (TL.en (TC.ret ?_))
 obtain rfl := so hh
 exact ro [Res.rowS 66 8 encArc (.slice a105_1 v9.length c105_2) v9] z (RVs.tmp z RVs.nil) ⟨a105_1, c105_2, z, z, z⟩

noncomputable def fst_Sort (x0 : Fst) : Option (Fst × Int) :=
 bnd (fst_Check x0) (fun v5 => iteO (decide (v5 ≠ 0)) (some ((⟨0, ([] : List Tip), ([] : List Tip), ([] : List Arc)⟩ : Fst), 1)) (bnd (onceT x0.starts) (fun v14 => bnd (onceT x0.ends) (fun v17 => bnd (onceA x0.arcs) (fun v20 => some ((⟨x0.states, v14, v17, v20⟩ : Fst), 0))))))
def fst_Sort_P (σ : Store) (r : Fst × Int) : Value → Store → List Res → Prop := fun v σ' H' =>
 ∃ (a1 : Option Addr), ∃ (c1 : Nat), ∃ (a2 : Option Addr), ∃ (c2 : Nat), ∃ (a3 : Option Addr), ∃ (c3 : Nat),  v = .tuple #[.agg #[.int .i64 r.1.states, .slice a1 r.1.starts.length c1, .slice a2 r.1.ends.length c2, .slice a3 r.1.arcs.length c3], .int .i64 r.2] ∧ RS σ' 2 encTip (.slice a1 r.1.starts.length c1) r.1.starts ∧ RS σ' 2 encTip (.slice a2 r.1.ends.length c2) r.1.ends ∧ RS σ' 8 encArc (.slice a3 r.1.arcs.length c3) r.1.arcs ∧ H' = []
theorem fst_Sort_con {σ : Store} {x0 : Fst} {a0_0 : Option Addr} {c0_0 : Nat} {a0_1 : Option Addr} {c0_1 : Nat} {a0_2 : Option Addr} {c0_2 : Nat} (f0_0 : RS σ 2 encTip (.slice a0_0 x0.starts.length c0_0) x0.starts) (f0_1 : RS σ 2 encTip (.slice a0_1 x0.ends.length c0_1) x0.ends) (f0_2 : RS σ 8 encArc (.slice a0_2 x0.arcs.length c0_2) x0.arcs) {r : Fst × Int} (hh : fst_Sort x0 = some r) :
  Con Tryz.prog 43 #[.agg #[.int .i64 x0.states, .slice a0_0 x0.starts.length c0_0, .slice a0_1 x0.ends.length c0_1, .slice a0_2 x0.arcs.length c0_2]] σ [] (fst_Sort_P σ r) := by
 dsimp only [fst_Sort] at hh
 have f0_0b := f0_0.rv.big
 have f0_1b := f0_1.rv.big
 have f0_2b := f0_2.rv.big
 refine Con.mk (n := 20) Tryz.func43 z z z (fun w0 => ?_)
 refine TC.a (TL.op z (boxA z z z z (fun b101 => ?_)))
 refine TL.op z (OpOk.alloc z ze25 z z (fun b103 => ?_))
 refine TL.i z z (TL.en (TC.seq (TC.a (TL.w z (loadAll z ag25 sz25 z (i := 1) z z) ?_))))
 obtain ⟨v5, u5, hh⟩ := bnd_e hh
 refine TL.op z (callP (fst_Check_con (x0 := x0) f0_0 f0_1 f0_2 u5) z z pf31 z z z ?_)
 refine TL.w z (OpVal.neq z z z) (TL.en (TC.cD z hh (fun h105 hh => ?_) (fun h105 hh => ?_)))
 ·refine TC.a (TL.w z (buildL z pl25 ze25 z) (TL.op z (storeAll z sz25 z z z z z z ?_)))
  refine TL.i z z (TL.en (TC.rt 1 (S.r ?_)))
  obtain rfl := so hh
  exact ro [] z (RVs.agg ag25 sz25 z (i := 0) z z (RVs.tmp z RVs.nil)) ⟨none, 0, none, 0, none, 0, z, (RS.nilF _ encTip encTip_len), (RS.nilF _ encTip encTip_len), (RS.nilF _ encArc encArc_len), z⟩
 ·refine TC.skip (S.n (TC.seq ?_))
  obtain ⟨v14, u14, hh⟩ := bnd_e hh
  obtain ⟨v17, u17, hh⟩ := bnd_e hh
  obtain ⟨v20, u20, hh⟩ := bnd_e hh
  refine TC.draw [12, 13] (by kernel_rfl) (TA.a 0 z (fieldLoc z fo25_0 z) z (TA.b 1 z (loadLoc z ag3 z (i := 1) z z) z (TA.a 2 z (fieldLoc z fo25_1 z) z (TA.b 3 z (loadLoc z ag22 z (i := 1) z z) z (TA.a 5 z (fieldLoc z fo25_2 z) z (TA.b 6 z (loadLoc z ag22 z (i := 1) z z) z (TA.a 8 z (fieldLoc z fo25_3 z) z (TA.b 9 z (loadLoc z ag23 z (i := 1) z z) z (TA.ac 4 z (OpOk.call (onceT_con f0_0 u14) z z pf83 z z z z ?_))))))))))
  rintro _ _ _ hle112 ⟨a112_1, c112_1, rfl, rfl, rfl⟩
  refine k1 (TA.ac 7 z (OpOk.call (onceT_con f0_1 u17) z z pf83 z z z z ?_))
  rintro _ _ _ hle114 ⟨a114_1, c114_1, rfl, rfl, rfl⟩
  refine k2 (TA.ac 10 z (OpOk.call (onceA_con f0_2 u20) z z pf85 z z z z ?_))
  rintro _ _ _ hle116 ⟨a116_1, c116_1, rfl, rfl, rfl⟩
  refine k3 (TA.a 11 z (buildL z pl25 ze25 z) z (TA.front 3 z z (TA.last 12 (by kernel_rfl) z z z (storeAll z sz25 z z z z z z ?_))))
  refine TZ.v 13 (by kernel_rfl) z z z (moveI (.inr z) z) z z (TZ.done (by kernel_rfl) (S.n (TC.front 3 z z (TC.sealS encTip_len (fun τ120 hle119 hr118 => ?_)))))
  have hr118b := hr118.rv.big
  refine TC.front 2 z z (TC.sealS encTip_len (fun τ123 hle122 hr121 => ?_))
  replace hr118 := hr118.mono hle122
  have hr121b := hr121.rv.big
  refine TC.front 1 z z (TC.sealS encArc_len (fun τ126 hle125 hr124 => ?_))
  replace hr118 := hr118.mono hle125
  replace hr121 := hr121.mono hle125
  have hr124b := hr124.rv.big
  refine TC.rt 1 ?_
  obtain rfl := so hh
  exact ro [] z (RVs.agg ag25 sz25 z (i := 0) z z (RVs.tmp z RVs.nil)) ⟨a112_1, c112_1, a114_1, c114_1, a116_1, c116_1, z, hr118, hr121, hr124, z⟩

noncomputable def fst_Outs_j1 (l120 : List (List Arc)) (x0 : Fst) (k124 : Nat) : Option (((List (List Arc)) × Nat) ⊕ ((List (List UInt8)) × Int)) :=
 nxt ((l120.set (((nth x0.arcs k124 Arc.zero).frm).toNat) ((nth l120 (((nth x0.arcs k124 Arc.zero).frm).toNat) ([] : List Arc)) ++ [(nth x0.arcs k124 Arc.zero)])), (k124 + 1))
noncomputable def fst_Outs_j2 (l229 : List (List (List UInt8))) (x0 : Fst) (k233 : Nat) : Option (((List (List (List UInt8))) × Nat) ⊕ ((List (List UInt8)) × Int)) :=
 nxt ((l229.set (((nth x0.ends k233 Tip.zero).state).toNat) ((nth l229 (((nth x0.ends k233 Tip.zero).state).toNat) ([] : List (List UInt8))) ++ [(nth x0.ends k233 Tip.zero).out])), (k233 + 1))
noncomputable def fst_Outs_b6 (l229 : List (List (List UInt8))) (v120c : FPair × Unit) (l338 : List (List UInt8)) (k341 : Nat) : Option (((List (List UInt8)) × Nat) ⊕ (((List (List UInt8))) ⊕ ((List (List UInt8)) × Int))) :=
 iteO (decide (((k341 : Nat) : Int) < (((nth l229 v120c.1.state.toNat ([] : List (List UInt8))).length : Nat) : Int))) (grd (v120c.1.out.length + (nth (nth l229 v120c.1.state.toNat ([] : List (List UInt8))) k341 ([] : List UInt8)).length ≤ 9223372036854775807) (grd ((l338.length + [(v120c.1.out ++ (nth (nth l229 v120c.1.state.toNat ([] : List (List UInt8))) k341 ([] : List UInt8)))].length) * 16 ≤ 140737488355328) (nxt ((l338 ++ [(v120c.1.out ++ (nth (nth l229 v120c.1.state.toNat ([] : List (List UInt8))) k341 ([] : List UInt8)))]), (k341 + 1))))) (fin (nxt l338))
noncomputable def fst_Outs_b5 (l229 : List (List (List UInt8))) (l299 : List (List UInt8)) (oE : Option (FPair × Unit)) : Option (((List (List UInt8))) ⊕ ((List (List UInt8)) × Int)) :=
 optE oE (fin (bnd (onceS l299) (fun v148 => some (v148, 0)))) (fun v120c => grd (0 ≤ v120c.1.state ∧ v120c.1.state < (l229.length : Int)) (iter (fun q : (List (List UInt8)) × Nat => fst_Outs_b6 l229 v120c q.1 q.2) (l299, 0)))
noncomputable def fst_Outs_b4 (x0 : Fst) (m201 : FM FPair Unit) (l229 : List (List (List UInt8))) (k233 : Nat) : Option (((List (List (List UInt8))) × Nat) ⊕ ((List (List UInt8)) × Int)) :=
 iteO (decide (((k233 : Nat) : Int) < ((x0.ends.length : Nat) : Int))) (grd (0 ≤ ((nth x0.ends k233 Tip.zero).state) ∧ ((nth x0.ends k233 Tip.zero).state) < (l229.length : Int)) (grd (((nth l229 (((nth x0.ends k233 Tip.zero).state).toNat) ([] : List (List UInt8))).length + [(nth x0.ends k233 Tip.zero).out].length) * 16 ≤ 140737488355328) (grd (0 ≤ ((nth x0.ends k233 Tip.zero).state) ∧ ((nth x0.ends k233 Tip.zero).state) < (l229.length : Int)) (fst_Outs_j2 l229 x0 k233)))) (fin (allP (fun q => Rep q m201) (fun q => runL (fun (q : (List (List UInt8))) (oE : Option (FPair × Unit)) => fst_Outs_b5 l229 q oE) q ([] : List (List UInt8)))))
noncomputable def fst_Outs_b3 (x1 : List UInt8) (l120 : List (List Arc)) (x0 : Fst) (m201 : FM FPair Unit) (k203 : Nat) : Option (((FM FPair Unit) × Nat) ⊕ ((List (List UInt8)) × Int)) :=
 iteO (decide (((k203 : Nat) : Int) < ((x1.length : Nat) : Int))) (bnd (fst_step l120 m201 (nth x1 k203 (0 : UInt8))) (fun v74 => iteO (!v74.2) (fin (some (([] : List (List UInt8)), 2))) (nxt (v74.1, (k203 + 1))))) (fin (grd (0 ≤ x0.states ∧ 24 * x0.states.toNat ≤ 281474976710656) (iter (fun q : (List (List (List UInt8))) × Nat => fst_Outs_b4 x0 m201 q.1 q.2) ((List.replicate x0.states.toNat ([] : List (List UInt8))), 0))))
noncomputable def fst_Outs_b2 (x0 : Fst) (x1 : List UInt8) (l120 : List (List Arc)) (m180 : FM FPair Unit) (k181 : Nat) : Option (((FM FPair Unit) × Nat) ⊕ ((List (List UInt8)) × Int)) :=
 iteO (decide (((k181 : Nat) : Int) < ((x0.starts.length : Nat) : Int))) (nxt ((m180.put (⟨(nth x0.starts k181 Tip.zero).state, (nth x0.starts k181 Tip.zero).out⟩ : FPair) ()), (k181 + 1))) (fin (iter (fun q : (FM FPair Unit) × Nat => fst_Outs_b3 x1 l120 x0 q.1 q.2) (m180, 0)))
noncomputable def fst_Outs_b1 (x0 : Fst) (x1 : List UInt8) (l120 : List (List Arc)) (k124 : Nat) : Option (((List (List Arc)) × Nat) ⊕ ((List (List UInt8)) × Int)) :=
 iteO (decide (((k124 : Nat) : Int) < ((x0.arcs.length : Nat) : Int))) (grd (0 ≤ ((nth x0.arcs k124 Arc.zero).frm) ∧ ((nth x0.arcs k124 Arc.zero).frm) < (l120.length : Int)) (grd (((nth l120 (((nth x0.arcs k124 Arc.zero).frm).toNat) ([] : List Arc)).length + [(nth x0.arcs k124 Arc.zero)].length) * 72 ≤ 140737488355328) (grd (0 ≤ ((nth x0.arcs k124 Arc.zero).frm) ∧ ((nth x0.arcs k124 Arc.zero).frm) < (l120.length : Int)) (fst_Outs_j1 l120 x0 k124)))) (fin (iter (fun q : (FM FPair Unit) × Nat => fst_Outs_b2 x0 x1 l120 q.1 q.2) ((FM.emp : FM FPair Unit), 0)))
noncomputable def fst_Outs (x0 : Fst) (x1 : List UInt8) : Option ((List (List UInt8)) × Int) :=
 grd (x1.length ≤ 281474976710656) (bnd (fst_Check x0) (fun v5 => iteO (decide (v5 ≠ 0)) (some (([] : List (List UInt8)), 1)) (iteO (decide (256 < ((x1.length : Nat) : Int))) (some (([] : List (List UInt8)), 2)) (grd (0 ≤ x0.states ∧ 24 * x0.states.toNat ≤ 281474976710656) (iter (fun q : (List (List Arc)) × Nat => fst_Outs_b1 x0 x1 q.1 q.2) ((List.replicate x0.states.toNat ([] : List Arc)), 0))))))
def fst_Outs_P (σ : Store) (r : (List (List UInt8)) × Int) : Value → Store → List Res → Prop := fun v σ' H' =>
 ∃ (a1 : Option Addr), ∃ (c1 : Nat),  v = .tuple #[.slice a1 r.1.length c1, .int .i64 r.2] ∧ RS σ' 1 Go.E.encS (.slice a1 r.1.length c1) r.1 ∧ H' = []
theorem fst_Outs_con {σ : Store} {x0 : Fst} {a0_0 : Option Addr} {c0_0 : Nat} {a0_1 : Option Addr} {c0_1 : Nat} {a0_2 : Option Addr} {c0_2 : Nat} {x1 : List UInt8} (f0_0 : RS σ 2 encTip (.slice a0_0 x0.starts.length c0_0) x0.starts) (f0_1 : RS σ 2 encTip (.slice a0_1 x0.ends.length c0_1) x0.ends) (f0_2 : RS σ 8 encArc (.slice a0_2 x0.arcs.length c0_2) x0.arcs) {r : (List (List UInt8)) × Int} (hh : fst_Outs x0 x1 = some r) :
  Con Tryz.prog 16 #[.agg #[.int .i64 x0.states, .slice a0_0 x0.starts.length c0_0, .slice a0_1 x0.ends.length c0_1, .slice a0_2 x0.arcs.length c0_2], .string (bs x1)] σ [] (fst_Outs_P σ r) := by
 dsimp only [fst_Outs] at hh
 have f0_0b := f0_0.rv.big
 have f0_1b := f0_1.rv.big
 have f0_2b := f0_2.rv.big
 refine Con.mk (n := 135) Tryz.func16 z z z (fun w0 => ?_)
 have x1b := grd_c hh
 replace hh := grd_t hh
 refine TC.a (TL.op z (boxA z z z z (fun b101 => ?_)))
 refine TL.s z z (TL.i z z (TL.en (TC.seq (TC.a (TL.w z (loadAll z ag25 sz25 z (i := 0) z z) ?_)))))
 obtain ⟨v5, u5, hh⟩ := bnd_e hh
 refine TL.op z (callP (fst_Check_con (x0 := x0) f0_0 f0_1 f0_2 u5) z z pf31 z z z ?_)
 refine TL.w z (OpVal.neq z z z) (TL.en (TC.cD z hh (fun h103 hh => ?_) (fun h103 hh => ?_)))
 ·refine TC.a (TL.s z z (TL.i z z (TL.en (TC.rt 0 (S.r ?_)))))
  obtain rfl := so hh
  exact rq [4, 5] ⟨none, 0, z, (RS.nilF _ Go.E.encS Go.E.encS_len), z⟩
 ·refine TC.skip (S.n (TC.seq (TC.a (TL.w z (moveStr (.inl z) z) (TL.w z (lenBs z underlying9 z) (TL.w z (OpVal.gtr z z z) (TL.en (TC.cD z hh (fun h104 hh => ?_) (fun h104 hh => ?_)))))))))
  ·refine TC.a (TL.s z z (TL.i z z (TL.en (TC.rt 0 (S.r ?_)))))
   obtain rfl := so hh
   exact rq [4, 5] ⟨none, 0, z, (RS.nilF _ Go.E.encS Go.E.encS_len), z⟩
  ·refine TC.skip (S.n (TC.a (TL.w z (fieldLoc z fo25_0 z) (TL.w z (loadLoc z ag3 z (i := 0) z z) ?_))))
   have u16 := grd_c hh
   replace hh := grd_t hh
   refine TL.op rfl (makeN (q := x0.states.toNat) (E := 66) (size := 8) (enc := encArc) rfl underlying85 sz23 by23 ze23 rfl rfl (by show Value.int _ _ = _; rw [Int.toNat_of_nonneg u16.1]) (by show Value.int _ _ = _; rw [Int.toNat_of_nonneg u16.1]) (by omega) (by decide) rfl (fun a105 c106 zf107 => ?_))
   refine TL.s z z (TL.en (TC.seq (TC.a (TL.w z (fieldLoc z fo25_3 z) (TL.w z (loadLoc z ag23 z (i := 1) z z) (TL.w z (lenC z underlying23 z) (TL.i z z (TL.en (TC.block (TC.loopG (α := ((List (List Arc)) × Nat) × ((List (NP Arc)))) (rgs [(8, 1), (34, 17)]) (fun g => [(34, .int .i64 ((g.1.2 : Nat) : Int))]) (fun g => [Res.cells b101 #[.int .i64 x0.states, .slice a0_0 x0.starts.length c0_0, .slice a0_1 x0.ends.length c0_1, .slice a0_2 x0.arcs.length c0_2] 25, Res.nest 23 66 8 encArc (.slice a105 (List.replicate x0.states.toNat ([] : List Arc)).length c106) g.2]) (fun g => σ) (fun g => iter (fun q : (List (List Arc)) × Nat => fst_Outs_b1 x0 x1 q.1 q.2) g.1 = some r ∧ g.1.1.length = (List.replicate x0.states.toNat ([] : List Arc)).length ∧ Zn g.2 g.1.1) (fun g => rounds (fun q : (List (List Arc)) × Nat => fst_Outs_b1 x0 x1 q.1 q.2) g.1) (((List.replicate x0.states.toNat ([] : List Arc)), 0), (List.replicate x0.states.toNat (nilN : NP Arc))) (Sub.f [1] 2) z (by repeat (first | exact trivial | refine ⟨z, ?_⟩)) ⟨hh, z, zf107⟩ (fun g1 j1 hg1 => ?_)))))))))))
   obtain ⟨⟨l120, k124⟩, z122⟩ := g1
   obtain ⟨hh, hn121, zf123⟩ := hg1
   try dsimp only at hn121 zf123 ⊢
   obtain ⟨z1, hh, hR1⟩ := iter_e hh
   dsimp only [fst_Outs_b1] at hh
   have hn121b := hn121
   have zf123b := zf123.len
   refine TC.know (isSl_nest (q := 1) z zf123) (fun ⟨_, hb125⟩ => ?_)
   refine TC.a (TL.w z (OpVal.lss z z z) (TL.en (TC.seq (TC.cD z hh (fun h126 hh => ?_) (fun h126 hh => ?_)))))
   ·refine TC.skip (S.n (TC.cutG (α := (Unit) × ((List (NP Arc)))) (rgs [(8, 1), (36, 14)]) (fun g => []) (fun g => [Res.cells b101 #[.int .i64 x0.states, .slice a0_0 x0.starts.length c0_0, .slice a0_1 x0.ends.length c0_1, .slice a0_2 x0.arcs.length c0_2] 25, Res.nest 23 66 8 encArc (.slice a105 (List.replicate x0.states.toNat ([] : List Arc)).length c106) g.2]) (fun g => σ) (fun g => fst_Outs_j1 l120 x0 k124 = some z1 ∧ (l120.set (((nth x0.arcs k124 Arc.zero).frm).toNat) ((nth l120 (((nth x0.arcs k124 Arc.zero).frm).toNat) ([] : List Arc)) ++ [(nth x0.arcs k124 Arc.zero)])).length = (List.replicate x0.states.toNat ([] : List Arc)).length ∧ Zn g.2 (l120.set (((nth x0.arcs k124 Arc.zero).frm).toNat) ((nth l120 (((nth x0.arcs k124 Arc.zero).frm).toNat) ([] : List Arc)) ++ [(nth x0.arcs k124 Arc.zero)]))) ?_ (fun g j hg => ?_)))
    ·skip
     refine TC.block (TC.a (TL.w z (indexN z underlying23 sz66 z z f0_2.rv.sl (by omega)) (TL.w z (loadSA Arc.zero z ag66 sz66 z f0_2 (by omega) (by omega)) (TL.op z (OpOk.alloc z ze66 z z (fun b130 => ?_))))))
     refine TL.op z (storeAll z sz66 z z z z z z ?_)
     refine TL.en ?_
     have u33 := grd_c hh
     replace hh := grd_t hh
     have u37 := grd_c hh
     replace hh := grd_t hh
     have u38 := grd_c hh
     replace hh := grd_t hh
     refine TC.drawR (Hr := [Res.cells b130 #[.int .i64 ((nth x0.arcs k124 Arc.zero).frm), .int .i64 ((nth x0.arcs k124 Arc.zero).to), .int .u64 ((((nth x0.arcs k124 Arc.zero).set).a : Nat) : Int), .int .u64 ((((nth x0.arcs k124 Arc.zero).set).b : Nat) : Int), .int .u64 ((((nth x0.arcs k124 Arc.zero).set).c : Nat) : Int), .int .u64 ((((nth x0.arcs k124 Arc.zero).set).d : Nat) : Int), .string (bs ((nth x0.arcs k124 Arc.zero).out)), .bool ((nth x0.arcs k124 Arc.zero).copy)] 66, Res.cells b101 #[.int .i64 x0.states, .slice a0_0 x0.starts.length c0_0, .slice a0_1 x0.ends.length c0_1, .slice a0_2 x0.arcs.length c0_2] 25]) (fun r hr => mem_pick [0, 1] z hr) [] (by kernel_rfl) (TA.a 0 z (moveSl (.inl z) z) z (TA.a 1 z (fieldLoc z fo66_0 z) z (TA.b 2 z (loadLoc z ag3 z (i := 0) z z) z (TA.a 3 z (moveSl (.inl z) z) z (TA.a 4 z (fieldLoc z fo66_0 z) z (TA.b 5 z (loadLoc z ag3 z (i := 0) z z) z (TA.know (isSl_nest (q := 2) z zf123) (fun ⟨hs143, hs143b⟩ => ?_))))))))
     refine TA.b 6 z (OpVal.index z underlying85 sz23 z z hs143 u33.1 u33.2) z (TA.b 8 z (loadAll z ag66 sz66 z (i := 0) z z) z ?_)
     obtain ⟨p144, hz144, hm144⟩ := Zn.at zf123 (i := ((nth x0.arcs k124 Arc.zero).frm).toNat) (by omega)
     refine TA.actN [7, 9] (by kernel_rfl) (an z z (OpVal.ok (loadN z ag23 z (q := 2) z hz144 hm144) z z ⟨(fun w h => sees_of (Store.le.refl _) (fun r hr => mem_pick [0, 1] z hr) w h), ?_⟩) (an z z (OpOk.lit (enc := encArc) [(nth x0.arcs k124 Arc.zero)] z underlying23 sz66 ze66 z z z encArc_len (by decide) (by decide) Arc.zero z (by decide) z (by decide) encArc_one (fun a145 c146 => ⟨(fun w h => sees_of (Store.le.refl _) (fun r hr => mem_pick [1, 2] z hr) w h), ?_⟩)) (True.intro)))
     ·skip
      refine TA.ac 9 z (OpOk.lit (enc := encArc) [(nth x0.arcs k124 Arc.zero)] z underlying23 sz66 ze66 z z z encArc_len (by decide) (by decide) Arc.zero z (by decide) z (by decide) encArc_one (fun a148 c149 => ⟨(fun w h => sees_of (Store.le.refl _) (fun r hr => mem_pick [1, 2] z hr) w h), ?_⟩))
      refine TA.front 3 z z (TA.by (fun w h => Reach.takeN hz144 hm144 h) (TA.ac 10 z (appendS z z underlying23 sz66 by66 ze66 z z (by decide) z z z (.inr ⟨_, 1, z⟩) (by simpa using u37) (by decide) (fun a152 c153 => (k3 ?_)))))
      refine TA.know (isSl_nestX (q := 1) z zf123) (fun ⟨hs154, hs154b⟩ => ?_)
      refine TA.b 11 z (OpVal.index z underlying85 sz23 z z hs154 u38.1 u38.2) z (TA.front 1 z z (TA.front 1 z z ?_))
      have hn156 : (l120.set (((nth x0.arcs k124 Arc.zero).frm).toNat) ((nth l120 (((nth x0.arcs k124 Arc.zero).frm).toNat) ([] : List Arc)) ++ [(nth x0.arcs k124 Arc.zero)])).length = (List.replicate x0.states.toNat ([] : List Arc)).length := (List.length_set ..).trans hn121
      refine TA.ac 12 rfl (storeX (l' := ((nth l120 (((nth x0.arcs k124 Arc.zero).frm).toNat) ([] : List Arc)) ++ [(nth x0.arcs k124 Arc.zero)])) rfl sz23 rfl rfl rfl rfl rfl (by rw [zf123.len]; omega) zf123 (fun zf155 => (k2 ?_)))
      exact TA.dn (B.n (S.n (cf ((), (z122.set (((nth x0.arcs k124 Arc.zero).frm).toNat) (((nth l120 (((nth x0.arcs k124 Arc.zero).frm).toNat) ([] : List Arc)) ++ [(nth x0.arcs k124 Arc.zero)]), (a152, c153)))) ⟨hh, hn156, zf155⟩ (Sub.f [3] 2))))
     ·skip
      obtain ⟨p157, hz157, hm157⟩ := Zn.at zf123 (i := ((nth x0.arcs k124 Arc.zero).frm).toNat) (by omega)
      refine TA.ac 7 z (OpVal.ok (loadN z ag23 z (q := 3) z hz157 hm157) z z ⟨(fun w h => sees_of (Store.le.refl _) (fun r hr => mem_pick [1, 2] z hr) w h), ?_⟩)
      refine TA.front 3 z z (TA.by (fun w h => Reach.takeN hz157 hm157 h) (TA.ac 10 z (appendS z z underlying23 sz66 by66 ze66 z z (by decide) z z z (.inr ⟨_, 1, z⟩) (by simpa using u37) (by decide) (fun a159 c160 => (k3 ?_)))))
      refine TA.know (isSl_nestX (q := 1) z zf123) (fun ⟨hs161, hs161b⟩ => ?_)
      refine TA.b 11 z (OpVal.index z underlying85 sz23 z z hs161 u38.1 u38.2) z (TA.front 1 z z (TA.front 1 z z ?_))
      have hn163 : (l120.set (((nth x0.arcs k124 Arc.zero).frm).toNat) ((nth l120 (((nth x0.arcs k124 Arc.zero).frm).toNat) ([] : List Arc)) ++ [(nth x0.arcs k124 Arc.zero)])).length = (List.replicate x0.states.toNat ([] : List Arc)).length := (List.length_set ..).trans hn121
      refine TA.ac 12 rfl (storeX (l' := ((nth l120 (((nth x0.arcs k124 Arc.zero).frm).toNat) ([] : List Arc)) ++ [(nth x0.arcs k124 Arc.zero)])) rfl sz23 rfl rfl rfl rfl rfl (by rw [zf123.len]; omega) zf123 (fun zf162 => (k2 ?_)))
      exact TA.dn (B.n (S.n (cf ((), (z122.set (((nth x0.arcs k124 Arc.zero).frm).toNat) (((nth l120 (((nth x0.arcs k124 Arc.zero).frm).toNat) ([] : List Arc)) ++ [(nth x0.arcs k124 Arc.zero)]), (a159, c160)))) ⟨hh, hn163, zf162⟩ (Sub.f [3] 2))))
    ·skip
     obtain ⟨_, z128⟩ := g
     obtain ⟨hh, hn127, zf129⟩ := hg
     try dsimp only at hn127 zf129 ⊢
     dsimp only [fst_Outs_j1] at hh
     have hn127b := hn127
     have zf129b := zf129.len
     refine TC.know (isSl_nest (q := 1) z zf129) (fun ⟨_, hb164⟩ => ?_)
     refine TC.region (TL.w z (OpVal.succ z z z (by omega)) (TL.i z z (TL.en ?_)))
     obtain ⟨hh, hlt165⟩ := nxt_x hR1 hh
     exact lf (((l120.set (((nth x0.arcs k124 Arc.zero).frm).toNat) ((nth l120 (((nth x0.arcs k124 Arc.zero).frm).toNat) ([] : List Arc)) ++ [(nth x0.arcs k124 Arc.zero)])), (k124 + 1)), z128) hlt165 ⟨hh, hn127, zf129⟩ (Sub.f [1, 1] 2)
   ·refine TC.exit (S.x (S.x ?_))
    replace hh := fin_x hR1 hh
    refine TC.exitHere (S.n (TC.a (TL.op z (makeMapB (enc := (fun x => Value.agg (encFPair x).toArray)) (encV := unitV) z z z (fun b166 => ?_)))))
    refine TL.w z (moveMap (.inr z) z) (TL.en (TC.seq (TC.a (TL.w z (fieldLoc z fo25_1 z) (TL.w z (loadLoc z ag22 z (i := 1) z z) (TL.w z (lenC z underlying22 z) (TL.i z z (TL.en (TC.block (TC.loopG (α := ((FM FPair Unit) × Nat) × (Unit)) (rgs [(11, 1), (55, 12)]) (fun g => [(55, .int .i64 ((g.1.2 : Nat) : Int))]) (fun g => [Res.cells b101 #[.int .i64 x0.states, .slice a0_0 x0.starts.length c0_0, .slice a0_1 x0.ends.length c0_1, .slice a0_2 x0.arcs.length c0_2] 25, Res.nest 23 66 8 encArc (.slice a105 (List.replicate x0.states.toNat ([] : List Arc)).length c106) z122, Res.mapB (fun x => Value.agg (encFPair x).toArray) unitV (some b166) g.1.1]) (fun g => σ) (fun g => iter (fun q : (FM FPair Unit) × Nat => fst_Outs_b2 x0 x1 l120 q.1 q.2) g.1 = some r ∧ l120.length = (List.replicate x0.states.toNat ([] : List Arc)).length ∧ Zn z122 l120) (fun g => rounds (fun q : (FM FPair Unit) × Nat => fst_Outs_b2 x0 x1 l120 q.1 q.2) g.1) (((FM.emp : FM FPair Unit), 0), ()) (Sub.f [2, 2] 3) z (by repeat (first | exact trivial | refine ⟨z, ?_⟩)) ⟨hh, hn121, zf123⟩ (fun g2 j2 hg2 => ?_)))))))))))
    obtain ⟨⟨m180, k181⟩, _⟩ := g2
    obtain ⟨hh, hn178, zf179⟩ := hg2
    try dsimp only at hn178 zf179 ⊢
    obtain ⟨z1, hh, hR1⟩ := iter_e hh
    dsimp only [fst_Outs_b2] at hh
    have hn178b := hn178
    have zf179b := zf179.len
    refine TC.know (isSl_nest (q := 1) z zf179) (fun ⟨_, hb182⟩ => ?_)
    refine TC.a (TL.w z (OpVal.lss z z z) (TL.en (TC.seq (TC.cD z hh (fun h183 hh => ?_) (fun h183 hh => ?_)))))
    ·refine TC.skip (S.n (TC.seq (TC.block (TC.a (TL.w z (indexN z underlying22 sz53 z z f0_0.rv.sl (by omega)) (TL.w z (loadSA Tip.zero z ag53 sz53 z f0_0 (by omega) (by omega)) (TL.op z (OpOk.alloc z ze53 z z (fun b184 => ?_)))))))))
     refine TL.op z (storeAll z sz53 z z z z z z ?_)
     refine TL.en (TC.region (TL.w z (moveMap (.inl z) z) (TL.w z (fieldLoc z fo53_0 z) (TL.w z (loadLoc z ag3 z (i := 0) z z) (TL.w z (fieldLoc z fo53_1 z) (TL.w z (loadLoc z ag9 z (i := 0) z z) (TL.w z (buildL z pl89 ze89 z) (TL.w z (buildL z pl87 ze87 z) (TL.front 3 z z (TL.op z (updB (⟨(nth x0.starts k181 Tip.zero).state, (nth x0.starts k181 Tip.zero).out⟩ : FPair) () z underlying86 z z z z kl89 ?_)))))))))))
     refine TL.nil (B.n (S.n (TC.region (TL.w z (OpVal.succ z z z (by omega)) (TL.i z z (TL.en ?_))))))
     obtain ⟨hh, hlt186⟩ := nxt_x hR1 hh
     exact lf (((m180.put (⟨(nth x0.starts k181 Tip.zero).state, (nth x0.starts k181 Tip.zero).out⟩ : FPair) ()), (k181 + 1)), ()) hlt186 ⟨hh, hn178, zf179⟩ (Sub.f [3, 3] 3)
    ·refine TC.exit (S.x (S.x ?_))
     replace hh := fin_x hR1 hh
     refine TC.exitHere (S.n (TC.seq (TC.a (TL.w z (moveStr (.inl z) z) (TL.w z (lenBs z underlying9 z) (TL.i z z (TL.en (TC.block ?_))))))))
     rw [← hn178]
     refine TC.front 1 z z (TC.seals (fun w h => Reach.sealNest encArc_len zf179 h) (fun τ206 hle205 hr204 => ?_))
     replace f0_1 := f0_1.mono hle205
     have hr204b := hr204.big
     refine TC.loopG (α := ((FM FPair Unit) × Nat) × ((Option Nat) × Store)) (rgs [(4, 2), (9, 1), (12, 3), (69, 16)]) (fun g => [(9, .map g.2.1), (69, .int .i64 ((g.1.2 : Nat) : Int))]) (fun g => [Res.cells b101 #[.int .i64 x0.states, .slice a0_0 x0.starts.length c0_0, .slice a0_1 x0.ends.length c0_1, .slice a0_2 x0.arcs.length c0_2] 25, Res.mapB (fun x => Value.agg (encFPair x).toArray) unitV g.2.1 g.1.1]) (fun g => g.2.2) (fun g => iter (fun q : (FM FPair Unit) × Nat => fst_Outs_b3 x1 l120 x0 q.1 q.2) g.1 = some r ∧ RZ g.2.2 (pkSl 8 encArc encArc_len) (.slice a105 l120.length c106) l120 ∧ Store.le τ206 g.2.2) (fun g => rounds (fun q : (FM FPair Unit) × Nat => fst_Outs_b3 x1 l120 x0 q.1 q.2) g.1) ((m180, 0), ((some b166), τ206)) (Sub.f [1, 1] 2) z (by repeat (first | exact trivial | refine ⟨z, ?_⟩)) ⟨hh, hr204, (Store.le.refl _)⟩ (fun g3 j3 hg3 => ?_)
     obtain ⟨⟨m201, k203⟩, ⟨b202, τ207⟩⟩ := g3
     obtain ⟨hh, hr199, hle208⟩ := hg3
     try dsimp only at hr199
     dsimp only at hle208
     replace f0_1 := f0_1.mono hle208
     try dsimp only
     obtain ⟨z1, hh, hR1⟩ := iter_e hh
     dsimp only [fst_Outs_b3] at hh
     have hr199b := hr199.big
     refine TC.a (TL.w z (OpVal.lss z z z) (TL.en (TC.seq (TC.cD z hh (fun h209 hh => ?_) (fun h209 hh => ?_)))))
     ·refine TC.skip (S.n (TC.seq (TC.block (TC.a (TL.i z z (TL.i z z (TL.en (TC.a (TL.s z z (TL.w z (moveMap (.inl z) z) (TL.w z (moveStr (.inl z) z) (TL.i z z (TL.w z (indexBs z underlying9 z z (by omega)) (TL.front 1 z z ?_))))))))))))))
      obtain ⟨v74, u74, hh⟩ := bnd_e hh
      refine TL.op z (OpOk.call (fst_step_con hr199 u74) z z pf44 z z z z ?_)
      rintro _ _ _ hle210 ⟨b210_1, rfl, rfl, rfl⟩
      refine TL.w z (moveT (.inl z) z) (TL.w z (OpVal.extract z z z) (TL.w z (OpVal.extract z z z) (TL.w z (moveMap (.inr z) z) (TL.j z z (TL.en (TC.seq (TC.a (TL.j z z (TL.w z (OpVal.not z z) (TL.en (TC.cB z hh (fun h212 hh => ?_) (fun h212 hh => ?_))))))))))))
      ·refine TC.a (TL.s z z (TL.i z z (TL.en (TC.rt 0 (S.r (B.r (S.r (S.r ?_))))))))
       replace hh := fin_x hR1 hh
       refine B.r (S.r ?_)
       obtain rfl := so hh
       exact rq [4, 5] ⟨none, 0, z, (RS.nilF _ Go.E.encS Go.E.encS_len), z⟩
      ·refine TC.skip (S.n (TC.region (TL.w z (moveMap (.inl z) z) (TL.w z (moveMap (.inr z) z) (TL.nil (B.n (S.n (TC.region (TL.w z (OpVal.succ z z z (by omega)) (TL.i z z (TL.en ?_)))))))))))
       obtain ⟨hh, hlt213⟩ := nxt_x hR1 hh
       exact lf ((v74.1, (k203 + 1)), (b210_1, τ207)) hlt213 ⟨hh, hr199, hle208⟩ (Sub.f [1] 2)
     ·refine TC.exit (S.x (S.x ?_))
      replace hh := fin_x hR1 hh
      refine TC.exitHere (S.n (TC.a (TL.w z (fieldLoc z fo25_0 z) (TL.w z (loadLoc z ag3 z (i := 0) z z) ?_))))
      have u90 := grd_c hh
      replace hh := grd_t hh
      refine TL.op rfl (makeN (q := x0.states.toNat) (E := 9) (size := 1) (enc := Go.E.encS) rfl underlying76 sz35 by35 ze35 rfl rfl (by show Value.int _ _ = _; rw [Int.toNat_of_nonneg u90.1]) (by show Value.int _ _ = _; rw [Int.toNat_of_nonneg u90.1]) (by omega) (by decide) rfl (fun a214 c215 zf216 => ?_))
      refine TL.s z z (TL.en (TC.seq (TC.a (TL.w z (fieldLoc z fo25_2 z) (TL.w z (loadLoc z ag22 z (i := 1) z z) (TL.w z (lenC z underlying22 z) (TL.i z z (TL.en (TC.block (TC.loopG (α := ((List (List (List UInt8))) × Nat) × ((List (NP (List UInt8))))) (rgs [(17, 1), (91, 18)]) (fun g => [(91, .int .i64 ((g.1.2 : Nat) : Int))]) (fun g => [Res.mapB (fun x => Value.agg (encFPair x).toArray) unitV b202 m201, Res.nest 35 9 1 Go.E.encS (.slice a214 (List.replicate x0.states.toNat ([] : List (List UInt8))).length c215) g.2]) (fun g => τ207) (fun g => iter (fun q : (List (List (List UInt8))) × Nat => fst_Outs_b4 x0 m201 q.1 q.2) g.1 = some r ∧ g.1.1.length = (List.replicate x0.states.toNat ([] : List (List UInt8))).length ∧ Zn g.2 g.1.1) (fun g => rounds (fun q : (List (List (List UInt8))) × Nat => fst_Outs_b4 x0 m201 q.1 q.2) g.1) (((List.replicate x0.states.toNat ([] : List (List UInt8))), 0), (List.replicate x0.states.toNat (nilN : NP (List UInt8)))) (Sub.f [2] 2) z (by repeat (first | exact trivial | refine ⟨z, ?_⟩)) ⟨hh, z, zf216⟩ (fun g4 j4 hg4 => ?_)))))))))))
      obtain ⟨⟨l229, k233⟩, z231⟩ := g4
      obtain ⟨hh, hn230, zf232⟩ := hg4
      try dsimp only at hn230 zf232 ⊢
      obtain ⟨z1, hh, hR1⟩ := iter_e hh
      dsimp only [fst_Outs_b4] at hh
      have hn230b := hn230
      have zf232b := zf232.len
      refine TC.know (isSl_nest (q := 1) z zf232) (fun ⟨_, hb234⟩ => ?_)
      refine TC.a (TL.w z (OpVal.lss z z z) (TL.en (TC.seq (TC.cD z hh (fun h235 hh => ?_) (fun h235 hh => ?_)))))
      ·refine TC.skip (S.n (TC.cutG (α := (Unit) × ((List (NP (List UInt8))))) (rgs [(17, 1), (93, 15)]) (fun g => []) (fun g => [Res.mapB (fun x => Value.agg (encFPair x).toArray) unitV b202 m201, Res.nest 35 9 1 Go.E.encS (.slice a214 (List.replicate x0.states.toNat ([] : List (List UInt8))).length c215) g.2]) (fun g => τ207) (fun g => fst_Outs_j2 l229 x0 k233 = some z1 ∧ (l229.set (((nth x0.ends k233 Tip.zero).state).toNat) ((nth l229 (((nth x0.ends k233 Tip.zero).state).toNat) ([] : List (List UInt8))) ++ [(nth x0.ends k233 Tip.zero).out])).length = (List.replicate x0.states.toNat ([] : List (List UInt8))).length ∧ Zn g.2 (l229.set (((nth x0.ends k233 Tip.zero).state).toNat) ((nth l229 (((nth x0.ends k233 Tip.zero).state).toNat) ([] : List (List UInt8))) ++ [(nth x0.ends k233 Tip.zero).out]))) ?_ (fun g j hg => ?_)))
       ·skip
        refine TC.block (TC.a (TL.w z (indexN z underlying22 sz53 z z f0_1.rv.sl (by omega)) (TL.w z (loadSA Tip.zero z ag53 sz53 z f0_1 (by omega) (by omega)) (TL.op z (OpOk.alloc z ze53 z z (fun b239 => ?_))))))
        refine TL.op z (storeAll z sz53 z z z z z z ?_)
        refine TL.en ?_
        have u107 := grd_c hh
        replace hh := grd_t hh
        have u112 := grd_c hh
        replace hh := grd_t hh
        have u113 := grd_c hh
        replace hh := grd_t hh
        refine TC.drawR (Hr := [Res.cells b239 #[.int .i64 ((nth x0.ends k233 Tip.zero).state), .string (bs ((nth x0.ends k233 Tip.zero).out))] 53, Res.mapB (fun x => Value.agg (encFPair x).toArray) unitV b202 m201]) (fun r hr => mem_pick [0, 1] z hr) [] (by kernel_rfl) (TA.a 0 z (moveSl (.inl z) z) z (TA.a 1 z (fieldLoc z fo53_0 z) z (TA.b 2 z (loadLoc z ag3 z (i := 0) z z) z (TA.a 3 z (moveSl (.inl z) z) z (TA.a 4 z (fieldLoc z fo53_0 z) z (TA.b 5 z (loadLoc z ag3 z (i := 0) z z) z (TA.know (isSl_nest (q := 2) z zf232) (fun ⟨hs252, hs252b⟩ => ?_))))))))
        refine TA.b 6 z (OpVal.index z underlying76 sz35 z z hs252 u107.1 u107.2) z (TA.a 8 z (fieldLoc z fo53_1 z) z (TA.b 9 z (loadLoc z ag9 z (i := 0) z z) z ?_))
        obtain ⟨p253, hz253, hm253⟩ := Zn.at zf232 (i := ((nth x0.ends k233 Tip.zero).state).toNat) (by omega)
        refine TA.actN [7, 10] (by kernel_rfl) (an z z (OpVal.ok (loadN z ag35 z (q := 2) z hz253 hm253) z z ⟨(fun w h => sees_of (Store.le.refl _) (fun r hr => mem_pick [0, 1] z hr) w h), ?_⟩) (an z z (OpOk.lit (enc := Go.E.encS) [(nth x0.ends k233 Tip.zero).out] z underlying35 sz9 ze9 z z z Go.E.encS_len (by decide) (by decide) ([] : List UInt8) z (by decide) z (by decide) Go.E.encS_one (fun a254 c255 => ⟨(fun w h => sees_of (Store.le.refl _) (fun r hr => mem_pick [1, 2] z hr) w h), ?_⟩)) (True.intro)))
        ·skip
         refine TA.ac 10 z (OpOk.lit (enc := Go.E.encS) [(nth x0.ends k233 Tip.zero).out] z underlying35 sz9 ze9 z z z Go.E.encS_len (by decide) (by decide) ([] : List UInt8) z (by decide) z (by decide) Go.E.encS_one (fun a257 c258 => ⟨(fun w h => sees_of (Store.le.refl _) (fun r hr => mem_pick [1, 2] z hr) w h), ?_⟩))
         refine TA.front 3 z z (TA.by (fun w h => Reach.takeN hz253 hm253 h) (TA.ac 11 z (appendS z z underlying35 sz9 by9 ze9 z z (by decide) z z z (.inr ⟨_, 1, z⟩) (by simpa using u112) (by decide) (fun a261 c262 => (k3 ?_)))))
         refine TA.know (isSl_nestX (q := 1) z zf232) (fun ⟨hs263, hs263b⟩ => ?_)
         refine TA.b 12 z (OpVal.index z underlying76 sz35 z z hs263 u113.1 u113.2) z (TA.front 1 z z (TA.front 1 z z ?_))
         have hn265 : (l229.set (((nth x0.ends k233 Tip.zero).state).toNat) ((nth l229 (((nth x0.ends k233 Tip.zero).state).toNat) ([] : List (List UInt8))) ++ [(nth x0.ends k233 Tip.zero).out])).length = (List.replicate x0.states.toNat ([] : List (List UInt8))).length := (List.length_set ..).trans hn230
         refine TA.ac 13 rfl (storeX (l' := ((nth l229 (((nth x0.ends k233 Tip.zero).state).toNat) ([] : List (List UInt8))) ++ [(nth x0.ends k233 Tip.zero).out])) rfl sz35 rfl rfl rfl rfl rfl (by rw [zf232.len]; omega) zf232 (fun zf264 => (k2 ?_)))
         exact TA.dn (B.n (S.n (cf ((), (z231.set (((nth x0.ends k233 Tip.zero).state).toNat) (((nth l229 (((nth x0.ends k233 Tip.zero).state).toNat) ([] : List (List UInt8))) ++ [(nth x0.ends k233 Tip.zero).out]), (a261, c262)))) ⟨hh, hn265, zf264⟩ (Sub.f [3] 2))))
        ·skip
         obtain ⟨p266, hz266, hm266⟩ := Zn.at zf232 (i := ((nth x0.ends k233 Tip.zero).state).toNat) (by omega)
         refine TA.ac 7 z (OpVal.ok (loadN z ag35 z (q := 3) z hz266 hm266) z z ⟨(fun w h => sees_of (Store.le.refl _) (fun r hr => mem_pick [1, 2] z hr) w h), ?_⟩)
         refine TA.front 3 z z (TA.by (fun w h => Reach.takeN hz266 hm266 h) (TA.ac 11 z (appendS z z underlying35 sz9 by9 ze9 z z (by decide) z z z (.inr ⟨_, 1, z⟩) (by simpa using u112) (by decide) (fun a268 c269 => (k3 ?_)))))
         refine TA.know (isSl_nestX (q := 1) z zf232) (fun ⟨hs270, hs270b⟩ => ?_)
         refine TA.b 12 z (OpVal.index z underlying76 sz35 z z hs270 u113.1 u113.2) z (TA.front 1 z z (TA.front 1 z z ?_))
         have hn272 : (l229.set (((nth x0.ends k233 Tip.zero).state).toNat) ((nth l229 (((nth x0.ends k233 Tip.zero).state).toNat) ([] : List (List UInt8))) ++ [(nth x0.ends k233 Tip.zero).out])).length = (List.replicate x0.states.toNat ([] : List (List UInt8))).length := (List.length_set ..).trans hn230
         refine TA.ac 13 rfl (storeX (l' := ((nth l229 (((nth x0.ends k233 Tip.zero).state).toNat) ([] : List (List UInt8))) ++ [(nth x0.ends k233 Tip.zero).out])) rfl sz35 rfl rfl rfl rfl rfl (by rw [zf232.len]; omega) zf232 (fun zf271 => (k2 ?_)))
         exact TA.dn (B.n (S.n (cf ((), (z231.set (((nth x0.ends k233 Tip.zero).state).toNat) (((nth l229 (((nth x0.ends k233 Tip.zero).state).toNat) ([] : List (List UInt8))) ++ [(nth x0.ends k233 Tip.zero).out]), (a268, c269)))) ⟨hh, hn272, zf271⟩ (Sub.f [3] 2))))
       ·skip
        obtain ⟨_, z237⟩ := g
        obtain ⟨hh, hn236, zf238⟩ := hg
        try dsimp only at hn236 zf238 ⊢
        dsimp only [fst_Outs_j2] at hh
        have hn236b := hn236
        have zf238b := zf238.len
        refine TC.know (isSl_nest (q := 1) z zf238) (fun ⟨_, hb273⟩ => ?_)
        refine TC.region (TL.w z (OpVal.succ z z z (by omega)) (TL.i z z (TL.en ?_)))
        obtain ⟨hh, hlt274⟩ := nxt_x hR1 hh
        exact lf (((l229.set (((nth x0.ends k233 Tip.zero).state).toNat) ((nth l229 (((nth x0.ends k233 Tip.zero).state).toNat) ([] : List (List UInt8))) ++ [(nth x0.ends k233 Tip.zero).out])), (k233 + 1)), z237) hlt274 ⟨hh, hn236, zf238⟩ (Sub.f [1, 1] 2)
      ·refine TC.exit (S.x (S.x ?_))
       replace hh := fin_x hR1 hh
       refine TC.exitHere (S.n (TC.a (TL.s z z (TL.en (TC.seq (TC.a (TL.w z (moveMap (.inl z) z) (TL.op z (rangeB z underlying86 z z z (fun it275 l276 hl277 => ?_))))))))))
       refine TL.en (TC.block (TC.nilS 9 1 Go.E.encS (TC.loopG (α := ((List (List UInt8))) × ((Option Addr) × Nat × (List (FPair × Unit)) × (Option (FPair × Unit)))) (rgs [(18, 2), (21, 1), (111, 22)]) (fun g => [(18, .slice g.2.1 g.1.length g.2.2.1)]) (fun g => [Res.nest 35 9 1 Go.E.encS (.slice a214 (List.replicate x0.states.toNat ([] : List (List UInt8))).length c215) z231, Res.rowS 9 1 Go.E.encS (.slice g.2.1 g.1.length g.2.2.1) g.1, Res.rng (fun x => Value.agg (encFPair x).toArray) unitV b202 it275 m201 g.2.2.2.1 g.2.2.2.2]) (fun g => τ207) (fun g => runA (fun (q : (List (List UInt8))) (oE : Option (FPair × Unit)) => fst_Outs_b5 l229 q oE) g.2.2.2.1 g.1 = some r ∧ l229.length = (List.replicate x0.states.toNat ([] : List (List UInt8))).length ∧ Zn z231 l229) (fun g => List.length g.2.2.2.1) (([] : List (List UInt8)), (none, 0, l276, none)) (Sub.f [1, 1, 2] 3) z (by repeat (first | exact trivial | refine ⟨z, ?_⟩)) ⟨(runA_of hh hl277), hn230, zf232⟩ (fun g5 j5 hg5 => ?_))))
       obtain ⟨l299, ⟨a300, c301, l302, o303⟩⟩ := g5
       obtain ⟨hh, hn296, zf297⟩ := hg5
       try dsimp only at hn296 zf297 ⊢
       have hn296b := hn296
       have zf297b := zf297.len
       refine TC.know (isSl_nest (q := 0) z zf297) (fun ⟨_, hb305⟩ => ?_)
       refine TC.isSl (i := 1) z (fun _ hb306 _ => ?_)
       refine TC.a (TL.front 2 z z (TL.op z (nextB (T := 0) z z z z z (fun hl307 => ?_) (fun l308 v120c l309 hl307 => ?_))))
       ·subst hl307
        obtain ⟨z1, hh, hR1⟩ := runA_end hh
        dsimp only [fst_Outs_b5, optE_none] at hh
        refine TL.by (fun w h => Reach.unrng h) (TL.w z (OpVal.extract z z z) (TL.en (TC.seq (TC.f z (TC.exit (S.x (S.x ?_)))))))
        replace hh := finE_x hR1 hh
        refine TC.exitHere (S.n (TC.a (TL.s z z (TL.front 2 z z (TL.sealS Go.E.encS_len (fun τ312 hle311 hr310 => ?_))))))
        have hr310b := hr310.rv.big
        obtain ⟨v148, u148, hh⟩ := bnd_e hh
        refine TL.op z (OpOk.call (onceS_con hr310 u148) z z pf45 z z z z ?_)
        rintro _ _ _ hle313 ⟨a313_1, c313_1, rfl, rfl, rfl⟩
        refine TL.s z z (TL.i z z (TL.en (TC.sealS Go.E.encS_len (fun τ317 hle316 hr315 => ?_))))
        have hr315b := hr315.rv.big
        refine TC.rt 0 ?_
        obtain rfl := so hh
        exact rq [4, 5] ⟨a313_1, c313_1, z, hr315, z⟩
       ·subst hl307
        obtain ⟨z1, hh, hR1⟩ := runA_step hh
        dsimp only [fst_Outs_b5, optE_some] at hh
        refine TL.w z (OpVal.extract z z z) (TL.en (TC.seq (TC.t z (TC.skip (S.n (TC.block (TC.a (TL.w z (OpVal.of (entryB z z (i := 0) z) (v' := .tuple #[.agg #[.int .i64 v120c.1.state, .string (bs v120c.1.out)], .agg #[]]) z) (TL.w z (OpVal.extract z z z) (TL.op z (OpOk.alloc z ze89 z z (fun b318 => ?_))))))))))))
        refine TL.op z (storeAll z sz89 z z z z z z ?_)
        refine TL.en (TC.a (TL.s z z (TL.w z (fieldLoc z fo89_0 z) (TL.w z (loadLoc z ag3 z (i := 0) z z) ?_))))
        have u129 := grd_c hh
        replace hh := grd_t hh
        refine TL.know (isSl_nest (q := 2) z zf297) (fun ⟨hs320, hs320b⟩ => ?_)
        refine TL.w z (OpVal.index z underlying76 sz35 z z hs320 u129.1 u129.2) ?_
        obtain ⟨p321, hz321, hm321⟩ := Zn.at zf297 (i := v120c.1.state.toNat) (by omega)
        refine TL.w z (loadN z ag35 z (q := 2) z hz321 hm321) (TL.w z (lenC z underlying35 z) (TL.i z z (TL.en (TC.block (TC.loopG (α := ((List (List UInt8)) × Nat) × ((Option Addr) × Nat)) (rgs [(18, 1), (21, 1), (121, 12)]) (fun g => [(18, .slice g.2.1 g.1.1.length g.2.2), (121, .int .i64 ((g.1.2 : Nat) : Int))]) (fun g => [Res.nest 35 9 1 Go.E.encS (.slice a214 (List.replicate x0.states.toNat ([] : List (List UInt8))).length c215) z231, Res.rowS 9 1 Go.E.encS (.slice g.2.1 g.1.1.length g.2.2) g.1.1, Res.cells b318 #[.int .i64 v120c.1.state, .string (bs v120c.1.out)] 89, Res.rng (fun x => Value.agg (encFPair x).toArray) unitV b202 it275 m201 (l308 ++ l309) (some v120c)]) (fun g => τ207) (fun g => iter (fun q : (List (List UInt8)) × Nat => fst_Outs_b6 l229 v120c q.1 q.2) g.1 = some z1 ∧ l229.length = (List.replicate x0.states.toNat ([] : List (List UInt8))).length ∧ Zn z231 l229) (fun g => rounds (fun q : (List (List UInt8)) × Nat => fst_Outs_b6 l229 v120c q.1 q.2) g.1) ((l299, 0), (a300, c301)) (Sub.f [1, 1, 3, 3] 4) z (by repeat (first | exact trivial | refine ⟨z, ?_⟩)) ⟨hh, hn296, zf297⟩ (fun g6 j6 hg6 => ?_))))))
        obtain ⟨⟨l338, k341⟩, ⟨a339, c340⟩⟩ := g6
        obtain ⟨hh, hn336, zf337⟩ := hg6
        try dsimp only at hn336 zf337 ⊢
        obtain ⟨z2, hh, hR2⟩ := iter_e hh
        dsimp only [fst_Outs_b6] at hh
        have hn336b := hn336
        have zf337b := zf337.len
        refine TC.know (isSl_nest (q := 0) z zf337) (fun ⟨_, hb342⟩ => ?_)
        refine TC.isSl (i := 1) z (fun _ hb343 _ => ?_)
        refine TC.a (TL.w z (OpVal.lss z z z) (TL.en (TC.seq (TC.cD z hh (fun h344 hh => ?_) (fun h344 hh => ?_)))))
        ·refine TC.skip (S.n (TC.seq (TC.block (TC.a (TL.know (isSl_inner (q := 0) z hz321 hm321) (fun ⟨hs345, hs345b⟩ => ?_))))))
         refine TL.w z (indexN z underlying35 sz9 z z hs345 (by omega)) (TL.w z (OpVal.seen (sees_inner (q := 0) z hz321 hm321) (loadO1 ([] : List UInt8) z ag9 z (q := 0) z Go.E.encS_len (by omega) z)) (TL.w z (moveStr (.inr z) z) (TL.en (TC.region (TL.s z z (TL.w z (fieldLoc z fo89_1 z) (TL.w z (loadLoc z ag9 z (i := 2) z z) (TL.w z (moveStr (.inl z) z) ?_))))))))
         have u141 := grd_c hh
         replace hh := grd_t hh
         refine TL.w z (catBs z z z u141) (TL.op z (OpOk.lit (enc := Go.E.encS) [(v120c.1.out ++ (nth (nth l229 v120c.1.state.toNat ([] : List (List UInt8))) k341 ([] : List UInt8)))] z underlying35 sz9 ze9 z z z Go.E.encS_len (by decide) (by decide) ([] : List UInt8) z (by decide) z (by decide) Go.E.encS_one (fun a346 c347 => ?_)))
         refine TL.front 2 z z ?_
         have u143 := grd_c hh
         replace hh := grd_t hh
         refine TL.op z (appendS z z underlying35 sz9 by9 ze9 z z (by decide) z z z (.inr ⟨_, 0, z⟩) (by simpa using u143) (by decide) (fun a349 c350 => ?_))
         refine TL.s z z (TL.nil (B.n (S.n (TC.region (TL.w z (OpVal.succ z z z (by omega)) (TL.i z z (TL.en ?_)))))))
         obtain ⟨hh, hlt351⟩ := nxt_x hR2 hh
         exact lf (((l338 ++ [(v120c.1.out ++ (nth (nth l229 v120c.1.state.toNat ([] : List (List UInt8))) k341 ([] : List UInt8)))]), (k341 + 1)), (a349, c350)) hlt351 ⟨hh, hn336, zf337⟩ (Sub.f [4, 4, 2, 4] 4)
        ·refine TC.exit (S.x (S.x ?_))
         replace hh := fin_x hR2 hh
         refine TC.exitHere (B.n (S.n ?_))
         replace hh := nxtA_x hR1 hh
         exact lf (l338, (a339, c340, (l308 ++ l309), (some v120c))) (by simp) ⟨hh, hn336, zf337⟩ (Sub.f [3, 2, 2] 3)

end Go.Proofs.YtjhbngjhdmapmaaGreatDoor
end

/- F4 -/
section
/- Decompiled: Has; the law's own looks. -/
set_option linter.unusedVariables false
set_option linter.unusedSimpArgs false
namespace Go.Proofs.YtjhbngjhdmapmaaGreatDoor
open Go Go.E Go.E.OpVal Go.E.OpOk Go.Proofs.Tryz
set_option maxRecDepth 100000
noncomputable def whittleref15_Few_j3 (x0 : Fst) (i123 : Int) : Option (Bool) :=
 iteO (decide (i123 ≤ 60)) (iteO (decide (x0.states ≤ 20)) (some true) (some (decide (1024 < x0.states)))) (some false)
noncomputable def whittleref15_Few_b3 (x0 : Fst) (i128 : Int) (k129 : Nat) : Option ((Int × Nat) ⊕ (Bool)) :=
 iteO (decide (((k129 : Nat) : Int) < ((x0.arcs.length : Nat) : Int))) (iteO (decide (i128 ≤ 60)) (nxt ((IntKind.i64.wrap (i128 + (IntKind.i64.wrap (Int.tdiv ((((nth x0.arcs k129 Arc.zero).out).length : Nat) : Int) 40)))), (k129 + 1))) (fin (whittleref15_Few_j3 x0 i128))) (fin (whittleref15_Few_j3 x0 i128))
noncomputable def whittleref15_Few_j2 (x0 : Fst) (i113 : Int) : Option (Bool) :=
 iter (fun q : Int × Nat => whittleref15_Few_b3 x0 q.1 q.2) (i113, 0)
noncomputable def whittleref15_Few_b2 (x0 : Fst) (i118 : Int) (k119 : Nat) : Option ((Int × Nat) ⊕ (Bool)) :=
 iteO (decide (((k119 : Nat) : Int) < ((x0.ends.length : Nat) : Int))) (iteO (decide (i118 ≤ 60)) (nxt ((IntKind.i64.wrap (i118 + (IntKind.i64.wrap (Int.tdiv ((((nth x0.ends k119 Tip.zero).out).length : Nat) : Int) 40)))), (k119 + 1))) (fin (whittleref15_Few_j2 x0 i118))) (fin (whittleref15_Few_j2 x0 i118))
noncomputable def whittleref15_Few_j1 (x0 : Fst) (i103 : Int) : Option (Bool) :=
 iter (fun q : Int × Nat => whittleref15_Few_b2 x0 q.1 q.2) (i103, 0)
noncomputable def whittleref15_Few_b1 (x0 : Fst) (i108 : Int) (k109 : Nat) : Option ((Int × Nat) ⊕ (Bool)) :=
 iteO (decide (((k109 : Nat) : Int) < ((x0.starts.length : Nat) : Int))) (iteO (decide (i108 ≤ 60)) (nxt ((IntKind.i64.wrap (i108 + (IntKind.i64.wrap (Int.tdiv ((((nth x0.starts k109 Tip.zero).out).length : Nat) : Int) 40)))), (k109 + 1))) (fin (whittleref15_Few_j1 x0 i108))) (fin (whittleref15_Few_j1 x0 i108))
noncomputable def whittleref15_Few (x0 : Fst) : Option (Bool) :=
 iter (fun q : Int × Nat => whittleref15_Few_b1 x0 q.1 q.2) ((IntKind.i64.wrap ((IntKind.i64.wrap (((x0.starts.length : Nat) : Int) + ((x0.ends.length : Nat) : Int))) + ((x0.arcs.length : Nat) : Int))), 0)
theorem whittleref15_Few_con {σ : Store} {x0 : Fst} {a0_0 : Option Addr} {c0_0 : Nat} {a0_1 : Option Addr} {c0_1 : Nat} {a0_2 : Option Addr} {c0_2 : Nat} (f0_0 : RS σ 2 encTip (.slice a0_0 x0.starts.length c0_0) x0.starts) (f0_1 : RS σ 2 encTip (.slice a0_1 x0.ends.length c0_1) x0.ends) (f0_2 : RS σ 8 encArc (.slice a0_2 x0.arcs.length c0_2) x0.arcs) {r : Bool} (hh : whittleref15_Few x0 = some r) :
  Con Tryz.prog 17 #[.agg #[.int .i64 x0.states, .slice a0_0 x0.starts.length c0_0, .slice a0_1 x0.ends.length c0_1, .slice a0_2 x0.arcs.length c0_2]] σ [] (PureP (.bool r) σ) := by
 dsimp only [whittleref15_Few] at hh
 have f0_0b := f0_0.rv.big
 have f0_1b := f0_1.rv.big
 have f0_2b := f0_2.rv.big
 refine Con.mk (n := 93) Tryz.func17 z z z (fun w0 => ?_)
 refine TC.a (TL.op z (boxA z z z z (fun b101 => ?_)))
 refine TL.j z z (TL.en (TC.a (TL.w z (fieldLoc z fo25_1 z) (TL.w z (loadLoc z ag22 z (i := 0) z z) (TL.w z (lenC z underlying22 z) (TL.w z (fieldLoc z fo25_2 z) (TL.w z (loadLoc z ag22 z (i := 0) z z) (TL.w z (lenC z underlying22 z) (TL.w z (addW z z z) (TL.w z (fieldLoc z fo25_3 z) (TL.w z (loadLoc z ag23 z (i := 0) z z) (TL.w z (lenC z underlying23 z) (TL.w z (addW z z z) (TL.i z z (TL.en ?_)))))))))))))))
 refine TC.cutG (α := (Int) × (Unit)) (rgs [(3, 2), (18, 21)]) (fun g => [(3, .int .i64 g.1)]) (fun g => [Res.cells b101 #[.int .i64 x0.states, .slice a0_0 x0.starts.length c0_0, .slice a0_1 x0.ends.length c0_1, .slice a0_2 x0.arcs.length c0_2] 25]) (fun g => σ) (fun g => whittleref15_Few_j1 x0 g.1 = some r) ?_ (fun g j hg => ?_)
 ·skip
  refine TC.a (TL.i z z (TL.en (TC.block (TC.loopG (α := (Int × Nat) × (Unit)) (rgs [(3, 2), (18, 21)]) (fun g => [(3, .int .i64 g.1.1), (4, .int .i64 ((g.1.2 : Nat) : Int))]) (fun g => [Res.cells b101 #[.int .i64 x0.states, .slice a0_0 x0.starts.length c0_0, .slice a0_1 x0.ends.length c0_1, .slice a0_2 x0.arcs.length c0_2] 25]) (fun g => σ) (fun g => iter (fun q : Int × Nat => whittleref15_Few_b1 x0 q.1 q.2) g.1 = some r) (fun g => rounds (fun q : Int × Nat => whittleref15_Few_b1 x0 q.1 q.2) g.1) (((IntKind.i64.wrap ((IntKind.i64.wrap (((x0.starts.length : Nat) : Int) + ((x0.ends.length : Nat) : Int))) + ((x0.arcs.length : Nat) : Int))), 0), ()) (Sub.pre 1 z) z (by repeat (first | exact trivial | refine ⟨z, ?_⟩)) hh (fun g1 j1 hg1 => ?_)))))
  obtain ⟨⟨i108, k109⟩, _⟩ := g1
  have hh := hg1; clear hg1
  try dsimp only
  obtain ⟨z1, hh, hR1⟩ := iter_e hh
  dsimp only [whittleref15_Few_b1] at hh
  refine TC.seq (TC.a (TL.i z z (TL.w z (fieldLoc z fo25_1 z) (TL.w z (loadLoc z ag22 z (i := 0) z z) (TL.w z (lenC z underlying22 z) (TL.w z (OpVal.lss z z z) (TL.j z z (TL.split 23 z (fun h110 => ?_) (fun h110 => ?_)))))))))
  ·replace hh := iteO_t h110 hh
   replace h110 := of_decide_eq_true h110
   refine TL.g z (moveI (.inl z) z) (TL.g z (OpVal.leq z z z) (TL.w z (pickTB z z z) (TL.en (TC.cD z hh (fun h111 hh => ?_) (fun h111 hh => ?_)))))
   ·refine TC.skip (S.n (TC.seq (TC.block (TC.region (TL.i z z (TL.w z (fieldLoc z fo25_1 z) (TL.w z (loadLoc z ag22 z (i := 0) z z) (TL.i z z (TL.w z (indexN z underlying22 sz53 z z f0_0.rv.sl (by omega)) (TL.w z (fieldElem z fo53_1 z f0_0.rv.sl (by omega)) (TL.w z (loadS Tip.zero z ag9 z f0_0 (by omega) (by omega) z) (TL.w z (lenBs z underlying9 z) (TL.w z (quoW z z z (by decide)) (TL.w z (addW z z z) (TL.i z z ?_)))))))))))))))
    refine TL.nil (B.n (S.n (TC.region (TL.i z z (TL.w z (OpVal.succ z z z (by omega)) (TL.i z z (TL.en ?_)))))))
    obtain ⟨hh, hlt112⟩ := nxt_x hR1 hh
    exact lf (((IntKind.i64.wrap (i108 + (IntKind.i64.wrap (Int.tdiv ((((nth x0.starts k109 Tip.zero).out).length : Nat) : Int) 40)))), (k109 + 1)), ()) hlt112 hh (Sub.pre 1 z)
   ·refine TC.exit (S.x (S.x ?_))
    replace hh := fin_x hR1 hh
    exact TC.exitHere (S.n (cf (i108, ()) hh (Sub.pre 1 z)))
  ·replace hh := iteO_f h110 hh
   replace h110 := of_decide_eq_false h110
   refine TL.f z (TL.f z (TL.w z (pickFB z z z) (TL.en (TC.f z (TC.exit (S.x (S.x ?_)))))))
   replace hh := fin_x hR1 hh
   exact TC.exitHere (S.n (cf (i108, ()) hh (Sub.pre 1 z)))
 ·skip
  obtain ⟨i103, _⟩ := g
  have hh := hg; clear hg
  try dsimp only
  dsimp only [whittleref15_Few_j1] at hh
  refine TC.cutG (α := (Int) × (Unit)) (rgs [(3, 1), (5, 1), (39, 21)]) (fun g => [(3, .int .i64 g.1)]) (fun g => [Res.cells b101 #[.int .i64 x0.states, .slice a0_0 x0.starts.length c0_0, .slice a0_1 x0.ends.length c0_1, .slice a0_2 x0.arcs.length c0_2] 25]) (fun g => σ) (fun g => whittleref15_Few_j2 x0 g.1 = some r) ?_ (fun g j hg => ?_)
  ·skip
   refine TC.a (TL.i z z (TL.en (TC.block (TC.loopG (α := (Int × Nat) × (Unit)) (rgs [(3, 1), (5, 1), (39, 21)]) (fun g => [(3, .int .i64 g.1.1), (5, .int .i64 ((g.1.2 : Nat) : Int))]) (fun g => [Res.cells b101 #[.int .i64 x0.states, .slice a0_0 x0.starts.length c0_0, .slice a0_1 x0.ends.length c0_1, .slice a0_2 x0.arcs.length c0_2] 25]) (fun g => σ) (fun g => iter (fun q : Int × Nat => whittleref15_Few_b2 x0 q.1 q.2) g.1 = some r) (fun g => rounds (fun q : Int × Nat => whittleref15_Few_b2 x0 q.1 q.2) g.1) ((i103, 0), ()) (Sub.pre 1 z) z (by repeat (first | exact trivial | refine ⟨z, ?_⟩)) hh (fun g2 j2 hg2 => ?_)))))
   obtain ⟨⟨i118, k119⟩, _⟩ := g2
   have hh := hg2; clear hg2
   try dsimp only
   obtain ⟨z1, hh, hR1⟩ := iter_e hh
   dsimp only [whittleref15_Few_b2] at hh
   refine TC.seq (TC.a (TL.i z z (TL.w z (fieldLoc z fo25_2 z) (TL.w z (loadLoc z ag22 z (i := 0) z z) (TL.w z (lenC z underlying22 z) (TL.w z (OpVal.lss z z z) (TL.j z z (TL.split 44 z (fun h120 => ?_) (fun h120 => ?_)))))))))
   ·replace hh := iteO_t h120 hh
    replace h120 := of_decide_eq_true h120
    refine TL.g z (moveI (.inl z) z) (TL.g z (OpVal.leq z z z) (TL.w z (pickTB z z z) (TL.en (TC.cD z hh (fun h121 hh => ?_) (fun h121 hh => ?_)))))
    ·refine TC.skip (S.n (TC.seq (TC.block (TC.region (TL.i z z (TL.w z (fieldLoc z fo25_2 z) (TL.w z (loadLoc z ag22 z (i := 0) z z) (TL.i z z (TL.w z (indexN z underlying22 sz53 z z f0_1.rv.sl (by omega)) (TL.w z (fieldElem z fo53_1 z f0_1.rv.sl (by omega)) (TL.w z (loadS Tip.zero z ag9 z f0_1 (by omega) (by omega) z) (TL.w z (lenBs z underlying9 z) (TL.w z (quoW z z z (by decide)) (TL.w z (addW z z z) (TL.i z z ?_)))))))))))))))
     refine TL.nil (B.n (S.n (TC.region (TL.i z z (TL.w z (OpVal.succ z z z (by omega)) (TL.i z z (TL.en ?_)))))))
     obtain ⟨hh, hlt122⟩ := nxt_x hR1 hh
     exact lf (((IntKind.i64.wrap (i118 + (IntKind.i64.wrap (Int.tdiv ((((nth x0.ends k119 Tip.zero).out).length : Nat) : Int) 40)))), (k119 + 1)), ()) hlt122 hh (Sub.pre 1 z)
    ·refine TC.exit (S.x (S.x ?_))
     replace hh := fin_x hR1 hh
     exact TC.exitHere (S.n (cf (i118, ()) hh (Sub.pre 1 z)))
   ·replace hh := iteO_f h120 hh
    replace h120 := of_decide_eq_false h120
    refine TL.f z (TL.f z (TL.w z (pickFB z z z) (TL.en (TC.f z (TC.exit (S.x (S.x ?_)))))))
    replace hh := fin_x hR1 hh
    exact TC.exitHere (S.n (cf (i118, ()) hh (Sub.pre 1 z)))
  ·skip
   obtain ⟨i113, _⟩ := g
   have hh := hg; clear hg
   try dsimp only
   dsimp only [whittleref15_Few_j2] at hh
   refine TC.cutG (α := (Int) × (Unit)) (rgs [(3, 1), (6, 1), (60, 21)]) (fun g => [(3, .int .i64 g.1)]) (fun g => [Res.cells b101 #[.int .i64 x0.states, .slice a0_0 x0.starts.length c0_0, .slice a0_1 x0.ends.length c0_1, .slice a0_2 x0.arcs.length c0_2] 25]) (fun g => σ) (fun g => whittleref15_Few_j3 x0 g.1 = some r) ?_ (fun g j hg => ?_)
   ·skip
    refine TC.a (TL.i z z (TL.en (TC.block (TC.loopG (α := (Int × Nat) × (Unit)) (rgs [(3, 1), (6, 1), (60, 21)]) (fun g => [(3, .int .i64 g.1.1), (6, .int .i64 ((g.1.2 : Nat) : Int))]) (fun g => [Res.cells b101 #[.int .i64 x0.states, .slice a0_0 x0.starts.length c0_0, .slice a0_1 x0.ends.length c0_1, .slice a0_2 x0.arcs.length c0_2] 25]) (fun g => σ) (fun g => iter (fun q : Int × Nat => whittleref15_Few_b3 x0 q.1 q.2) g.1 = some r) (fun g => rounds (fun q : Int × Nat => whittleref15_Few_b3 x0 q.1 q.2) g.1) ((i113, 0), ()) (Sub.pre 1 z) z (by repeat (first | exact trivial | refine ⟨z, ?_⟩)) hh (fun g3 j3 hg3 => ?_)))))
    obtain ⟨⟨i128, k129⟩, _⟩ := g3
    have hh := hg3; clear hg3
    try dsimp only
    obtain ⟨z1, hh, hR1⟩ := iter_e hh
    dsimp only [whittleref15_Few_b3] at hh
    refine TC.seq (TC.a (TL.i z z (TL.w z (fieldLoc z fo25_3 z) (TL.w z (loadLoc z ag23 z (i := 0) z z) (TL.w z (lenC z underlying23 z) (TL.w z (OpVal.lss z z z) (TL.j z z (TL.split 65 z (fun h130 => ?_) (fun h130 => ?_)))))))))
    ·replace hh := iteO_t h130 hh
     replace h130 := of_decide_eq_true h130
     refine TL.g z (moveI (.inl z) z) (TL.g z (OpVal.leq z z z) (TL.w z (pickTB z z z) (TL.en (TC.cD z hh (fun h131 hh => ?_) (fun h131 hh => ?_)))))
     ·refine TC.skip (S.n (TC.seq (TC.block (TC.region (TL.i z z (TL.w z (fieldLoc z fo25_3 z) (TL.w z (loadLoc z ag23 z (i := 0) z z) (TL.i z z (TL.w z (indexN z underlying23 sz66 z z f0_2.rv.sl (by omega)) (TL.w z (fieldElem z fo66_3 z f0_2.rv.sl (by omega)) (TL.w z (loadS Arc.zero z ag9 z f0_2 (by omega) (by omega) z) (TL.w z (lenBs z underlying9 z) (TL.w z (quoW z z z (by decide)) (TL.w z (addW z z z) (TL.i z z ?_)))))))))))))))
      refine TL.nil (B.n (S.n (TC.region (TL.i z z (TL.w z (OpVal.succ z z z (by omega)) (TL.i z z (TL.en ?_)))))))
      obtain ⟨hh, hlt132⟩ := nxt_x hR1 hh
      exact lf (((IntKind.i64.wrap (i128 + (IntKind.i64.wrap (Int.tdiv ((((nth x0.arcs k129 Arc.zero).out).length : Nat) : Int) 40)))), (k129 + 1)), ()) hlt132 hh (Sub.pre 1 z)
     ·refine TC.exit (S.x (S.x ?_))
      replace hh := fin_x hR1 hh
      exact TC.exitHere (S.n (cf (i128, ()) hh (Sub.pre 1 z)))
    ·replace hh := iteO_f h130 hh
     replace h130 := of_decide_eq_false h130
     refine TL.f z (TL.f z (TL.w z (pickFB z z z) (TL.en (TC.f z (TC.exit (S.x (S.x ?_)))))))
     replace hh := fin_x hR1 hh
     exact TC.exitHere (S.n (cf (i128, ()) hh (Sub.pre 1 z)))
   ·skip
    obtain ⟨i123, _⟩ := g
    have hh := hg; clear hg
    try dsimp only
    dsimp only [whittleref15_Few_j3] at hh
    refine TC.a (TL.i z z (TL.w z (OpVal.leq z z z) (TL.j z z (TL.split 83 z (fun h133 => ?_) (fun h133 => ?_)))))
    ·replace hh := iteO_t h133 hh
     replace h133 := of_decide_eq_true h133
     refine TL.g z (fieldLoc z fo25_0 z) (TL.g z (loadLoc z ag3 z (i := 0) z z) (TL.g z (OpVal.leq z z z) (TL.g z (moveB (.inl z) z) (TL.split 87 z (fun h134 => ?_) (fun h134 => ?_)))))
     ·replace hh := iteO_t h134 hh
      replace h134 := of_decide_eq_true h134
      refine TL.f z (TL.f z (TL.f z (TL.g z (pickTB z z z) (TL.w z (pickTB z z z) (TL.j z z (TL.en (TC.rt 0 ?_)))))))
      obtain rfl := so hh
      exact rq [2] ⟨z, z, z⟩
     ·replace hh := iteO_f h134 hh
      replace h134 := of_decide_eq_false h134
      refine TL.g z (fieldLoc z fo25_0 z) (TL.g z (loadLoc z ag3 z (i := 0) z z) (TL.g z (OpVal.gtr z z z) (TL.g z (pickFB z z z) (TL.w z (pickTB z z z) (TL.j z z (TL.en (TC.rt 0 ?_)))))))
      obtain rfl := so hh
      exact rq [2] ⟨z, z, z⟩
    ·replace hh := iteO_f h133 hh
     replace h133 := of_decide_eq_false h133
     refine TL.f z (TL.f z (TL.f z (TL.f z (TL.f z (TL.f z (TL.f z (TL.f z (TL.w z (pickFB z z z) (TL.j z z (TL.en (TC.rt 0 ?_)))))))))))
     obtain rfl := so hh
     exact rq [2] ⟨z, z, z⟩

end Go.Proofs.YtjhbngjhdmapmaaGreatDoor
end

/- OnceG -/
section
/- Things in order, each once: plain lemmas, no condition. -/
set_option linter.unusedVariables false
set_option linter.unusedSimpArgs false
namespace Go.Proofs.YtjhbngjhdmapmaaGreatDoor
open Go Go.E
set_option maxRecDepth 100000
set_option linter.unusedSectionVars false

section
variable {α : Type} [DecidableEq α] (d : α)
/-- Without what stands twice in a row: among the first n. -/
def ddN (l : List α) : Nat → List α
  | 0 => []
  | n + 1 => ddN l n ++ (if n = 0 ∨ nth l n d ≠ nth l (n - 1) d then [nth l n d] else [])
theorem mem_ddN (l : List α) : ∀ n, n ≤ l.length → ∀ x, x ∈ ddN d l n ↔ x ∈ l.take n
  | 0, _, x => by simp [ddN]
  | n + 1, h, x => by
    rw [ddN, take_snoc l (by omega) d, List.mem_append, List.mem_append, mem_ddN l n (by omega)]
    by_cases hc : n = 0 ∨ nth l n d ≠ nth l (n - 1) d
    · rw [if_pos hc]
    · rw [if_neg hc]
      simp only [not_or, ne_eq, Decidable.not_not] at hc
      have : nth l n d ∈ l.take n := by
        rw [hc.2]
        have h1 : (l.take n)[n - 1]? = some (nth l (n - 1) d) := by rw [List.getElem?_take, if_pos (by omega)]; exact getD_some l (by omega) d
        exact List.mem_of_getElem? h1
      constructor
      · rintro (h | h)
        · exact .inl h
        · cases h
      · rintro (h | h)
        · exact .inl h
        · rw [List.mem_singleton.1 h]; exact .inl this
theorem nth_set_ne {l : List α} {k i : Nat} {v : α} (h : i ≠ k) : nth (l.set k v) i d = nth l i d := by
  simp [nth, List.getD, List.getElem?_set, Ne.symm h]
include d in
theorem take_set_succ {l : List α} {k : Nat} {v : α} (h : k < l.length) : (l.set k v).take (k + 1) = l.take k ++ [v] := by
  rw [take_snoc (l.set k v) (by simpa using h) d]
  congr 1
  · rw [List.take_set_of_le (Nat.le_refl _)]
  · simp [nth, List.getD, h]

noncomputable def gC_j (k125 : Nat) (l128 : List α) (k130 : Nat) : Option ((List α × Nat × Nat) ⊕ (Nat ⊕ List α)) :=
  nxt (l128, k130, (k125 + 1))
noncomputable def gC_b2 (x0 : List α) (k105 : Nat) (l122 : List α) (k124 : Nat) (k125 : Nat) : Option ((List α × Nat × Nat) ⊕ (Nat ⊕ List α)) :=
  iteO (decide (((k125 : Nat) : Int) < (((x0.length - k105) : Nat) : Int))) (grd (k125 < (x0.length - k105)) (grd (0 ≤ (IntKind.i64.wrap (((k125 : Nat) : Int) - 1)) ∧ (IntKind.i64.wrap (((k125 : Nat) : Int) - 1)) < ((x0.length - k105) : Nat)) (iteO (decide (¬ ((nth l122 (k105 + k125) d) = (nth l122 (k105 + (IntKind.i64.wrap (((k125 : Nat) : Int) - 1)).toNat) d)))) (grd (k125 < (x0.length - k105)) (grd (k124 < l122.length) (gC_j k125 (l122.set k124 (nth l122 (k105 + k125) d)) (k124 + 1)))) (gC_j k125 l122 k124)))) (fin (grd (k124 ≤ x0.length) (grd (k124 ≤ (l122.take k124 ++ List.replicate (l122.length - k124) d).length) (fin (some ((l122.take k124 ++ List.replicate (l122.length - k124) d).take k124))))))
noncomputable def gC_b1 (x0 : List α) (k105 : Nat) : Option ((Nat) ⊕ (List α)) :=
  iteO (decide (((k105 : Nat) : Int) < ((x0.length : Nat) : Int))) (grd (0 ≤ (IntKind.i64.wrap (((k105 : Nat) : Int) - 1)) ∧ (IntKind.i64.wrap (((k105 : Nat) : Int) - 1)) < (x0.length : Int)) (iteO (decide ((nth x0 k105 d) = (nth x0 ((IntKind.i64.wrap (((k105 : Nat) : Int) - 1)).toNat) d))) (grd (k105 ≤ x0.length) (iter (fun q : (List α) × Nat × Nat => gC_b2 d x0 k105 q.1 q.2.1 q.2.2) (x0, k105, 1))) (nxt (k105 + 1)))) (fin (some x0))
noncomputable def gC (x0 : List α) : Option (List α) :=
  iteO (decide (((x0.length : Nat) : Int) < 2)) (some x0) (iter (fun q : Nat => gC_b1 d x0 q) 1)

theorem wrap_pred {k : Nat} (h1 : 1 ≤ k) (h2 : k ≤ 281474976710656) : IntKind.i64.wrap ((k : Int) - 1) = ((k - 1 : Nat) : Int) := by
  rw [wrap64_of (by omega) (by omega)]; omega
theorem gC_in {l : List α} (hl : l.length ≤ 281474976710656) {k0 : Nat} (h0 : 1 ≤ k0) (hk : k0 < l.length) (he : nth l k0 d = nth l (k0 - 1) d) (hd : ddN d l k0 = l.take k0) :
    iter (fun q : (List α) × Nat × Nat => gC_b2 d l k0 q.1 q.2.1 q.2.2) (l, k0, 1) = some (.inr (ddN d l l.length)) := by
  refine Exists.elim (iter_run (step := fun q : (List α) × Nat × Nat => gC_b2 d l k0 q.1 q.2.1 q.2.2)
    (fun q => 1 ≤ q.2.2 ∧ k0 + q.2.2 ≤ l.length ∧ q.1.length = l.length ∧ q.2.1 ≤ k0 + q.2.2 - 1 ∧ (∀ i, k0 + q.2.2 - 1 ≤ i → nth q.1 i d = nth l i d) ∧ q.1.take q.2.1 = ddN d l (k0 + q.2.2))
    (fun r => r = .inr (ddN d l l.length)) (fun q => l.length - q.2.2) ?_ (l, k0, 1) ⟨Nat.le_refl _, hk, rfl, by simp only; omega, fun _ _ => rfl, ?_⟩) (fun r hr => by rw [hr.1, hr.2])
  · rintro ⟨l2, k, j⟩ ⟨hj, hjl, hlen, hkj, hI, ht⟩
    simp only at hj hjl hlen hkj hI ht
    have hw : IntKind.i64.wrap ((j : Int) - 1) = ((j - 1 : Nat) : Int) := wrap_pred hj (by omega)
    by_cases hlt : k0 + j < l.length
    · left
      have e1 := hI (k0 + j) (by omega)
      have e2 := hI (k0 + (j - 1)) (by omega)
      simp only [gC_b2, hw, Int.toNat_natCast, decide_eq_true (show ((j : Nat) : Int) < ((l.length - k0 : Nat) : Int) by omega), iteO_true,
        grd_mk (show j < l.length - k0 by omega), grd_mk (show (0 : Int) ≤ ((j - 1 : Nat) : Int) ∧ ((j - 1 : Nat) : Int) < ((l.length - k0 : Nat) : Int) by omega), e1, e2]
      have e3 : k0 + (j - 1) = k0 + j - 1 := by omega
      by_cases hc : nth l (k0 + j) d = nth l (k0 + (j - 1)) d
      · simp only [hc, not_true_eq_false, decide_false, iteO_false, gC_j]
        refine ⟨_, rfl, ⟨by simp only; omega, by simp only; omega, hlen, by simp only; omega, fun i hi => hI i (by simp only at hi; omega), ?_⟩, by simp only; omega⟩
        simp only
        rw [ht, ← Nat.add_assoc, ddN, if_neg, List.append_nil]
        rw [hc, e3]; simp; omega
      · simp only [hc, not_false_eq_true, decide_true, iteO_true, grd_mk (show k < l2.length by omega), gC_j]
        refine ⟨_, rfl, ⟨by simp only; omega, by simp only; omega, by simp only [List.length_set]; exact hlen, by simp only; omega, fun i hi => ?_, ?_⟩, by simp only; omega⟩
        · simp only at hi ⊢
          rw [nth_set_ne d (by omega)]; exact hI i (by omega)
        · simp only
          rw [take_set_succ d (by omega), ht, ← Nat.add_assoc, ddN, if_pos]
          rw [e3] at hc; exact .inr hc
    · right
      have hjl' : k0 + j = l.length := by omega
      have hkl : (l2.take k).length = k := by rw [List.length_take]; omega
      refine ⟨.inr (ddN d l l.length), ?_, rfl⟩
      simp only [gC_b2, decide_eq_false (show ¬ ((j : Nat) : Int) < ((l.length - k0 : Nat) : Int) by omega), iteO_false, grd_mk (show k ≤ l.length by omega)]
      rw [grd_mk (by rw [List.length_append, hkl]; omega), List.take_append_of_le_length (by omega), List.take_of_length_le (by omega), ht, hjl']
      rfl
  · simp only
    rw [ddN, if_neg (by rw [he]; simp; omega), List.append_nil, hd]
theorem gC_eq {l : List α} (hl : l.length ≤ 281474976710656) : gC d l = some (ddN d l l.length) := by
  unfold gC
  by_cases h2 : l.length < 2
  · rw [decide_eq_true (by omega), iteO_true]
    match l, h2 with
    | [], _ => rfl
    | [x], _ => rfl
  · rw [decide_eq_false (by omega), iteO_false]
    refine Exists.elim (iter_run (step := fun q : Nat => gC_b1 d l q) (fun k => 1 ≤ k ∧ k ≤ l.length ∧ ddN d l k = l.take k) (fun r => r = ddN d l l.length) (fun k => l.length - k) ?_ 1 ⟨Nat.le_refl _, by omega, ?_⟩) (fun r hr => by rw [hr.1, hr.2])
    · rintro k ⟨h1, hk, hd⟩
      by_cases hlt : k < l.length
      · simp only [gC_b1, wrap_pred h1 (show k ≤ 281474976710656 by omega), Int.toNat_natCast, decide_eq_true (show ((k : Nat) : Int) < ((l.length : Nat) : Int) by omega), iteO_true,
          grd_mk (show (0 : Int) ≤ ((k - 1 : Nat) : Int) ∧ ((k - 1 : Nat) : Int) < (l.length : Int) by omega)]
        by_cases hc : nth l k d = nth l (k - 1) d
        · right
          simp only [hc, decide_true, iteO_true, grd_mk hk]
          exact ⟨_, gC_in d hl h1 hlt hc hd, rfl⟩
        · left
          simp only [hc, decide_false, iteO_false]
          refine ⟨k + 1, rfl, ⟨by omega, by omega, ?_⟩, by omega⟩
          rw [ddN, if_pos (.inr hc), hd, take_snoc l hlt d]
      · right
        have : k = l.length := by omega
        refine ⟨l, ?_, ?_⟩
        · simp only [gC_b1, decide_eq_false (show ¬ ((k : Nat) : Int) < ((l.length : Nat) : Int) by omega), iteO_false]; rfl
        · rw [← this, hd, List.take_of_length_le (by omega)]
    · rw [ddN, if_pos (.inl rfl), take_snoc l (by omega) d]; simp [ddN]
end

/-- In order, each once. -/
def onceL {α : Type} [DecidableEq α] (d : α) (cf : α → α → Int) (l : List α) : List α := ddN d (sortL cf l) l.length
section
variable {α : Type} [DecidableEq α] {d : α} {cf : α → α → Int}
theorem sortL_len (l : List α) : (sortL cf l).length = l.length := List.length_mergeSort _
theorem mem_onceL {l : List α} {x : α} : x ∈ onceL d cf l ↔ x ∈ l := by
  have h := sortL_len (cf := cf) l
  rw [onceL, mem_ddN d _ _ (by omega), List.take_of_length_le (by omega), sortL, List.mem_mergeSort]
theorem GoodCmp.le_trans (hc : GoodCmp cf) {x y z : α} (h1 : ¬ cf y x < 0) (h2 : ¬ cf z y < 0) : ¬ cf z x < 0 := fun h3 => by
  by_cases e : x = y
  · subst e; exact h2 h3
  · by_cases e' : y = z
    · subst e'; exact h1 h3
    · have a := hc.anti y x; have b := hc.anti z y; have a' := hc.eq y x; have b' := hc.eq z y
      have h4 : cf y z < 0 := by
        rw [hc.anti]
        have : cf z y ≠ 0 := fun h => e' ((b'.1 h).symm)
        omega
      exact h1 (hc.trans _ _ _ h4 h3)
theorem sortL_sorted (hc : GoodCmp cf) (l : List α) : (sortL cf l).Pairwise fun x y => ¬ cf y x < 0 := by
  have := List.pairwise_mergeSort (le := fun x y => !decide (cf y x < 0)) (fun a b c h1 h2 => by
    simp only [Bool.not_eq_true', decide_eq_false_iff_not] at *
    exact hc.le_trans h1 h2) (fun a b => by
    have := hc.anti a b
    simp only [Bool.or_eq_true, Bool.not_eq_true', decide_eq_false_iff_not]; omega) l
  exact this.imp fun h => by simpa using h
theorem sorted_onceL (hc : GoodCmp cf) (l : List α) : (onceL d cf l).Pairwise fun x y => cf x y < 0 := by
  have hs := sortL_sorted hc l
  have hlen := sortL_len (cf := cf) l
  unfold onceL
  generalize sortL cf l = s at hs hlen
  have key : ∀ n, n ≤ s.length → (ddN d s n).Pairwise fun x y => cf x y < 0 := by
    intro n
    induction n with
    | zero => intro _; exact List.Pairwise.nil
    | succ n ih =>
      intro h
      rw [ddN]
      split
      · rename_i hn
        rw [List.pairwise_append]
        refine ⟨ih (by omega), List.pairwise_singleton .., fun x hx y hy => ?_⟩
        rw [List.mem_singleton.1 hy]
        rw [mem_ddN d s n (by omega)] at hx
        have hn0 : n ≠ 0 := fun e => by subst e; simp at hx
        have hne : nth s n d ≠ nth s (n - 1) d := by rcases hn with h | h; exact absurd h hn0; exact h
        obtain ⟨i, hi, hxi⟩ := List.mem_iff_getElem.1 hx
        have hi' : i < n := by simp at hi; omega
        have hxi : s[i]'(by omega) = x := by rw [← hxi, List.getElem_take]
        have hp := List.pairwise_iff_getElem.1 hs
        have eN : ∀ {k : Nat} (hk : k < s.length), nth s k d = s[k] := fun hk => by simp [nth, List.getD, hk]
        rw [eN (by omega), eN (by omega)] at hne
        rw [eN (by omega)]
        have h1 : cf (s[n - 1]'(by omega)) (s[n]'(by omega)) < 0 := by
          have := hp (n - 1) n (by omega) (by omega) (by omega)
          have a := hc.anti (s[n - 1]'(by omega)) (s[n]'(by omega))
          have b := hc.eq (s[n]'(by omega)) (s[n - 1]'(by omega))
          have : cf (s[n]'(by omega)) (s[n - 1]'(by omega)) ≠ 0 := fun h => hne (b.1 h)
          omega
        by_cases hin : i = n - 1
        · subst hin; rw [← hxi]; exact h1
        · have h2 := hp i (n - 1) (by omega) (by omega) (by omega)
          rw [hxi] at h2
          by_cases e : x = s[n - 1]'(by omega)
          · rw [e]; exact h1
          · refine hc.trans _ _ _ ?_ h1
            have a := hc.anti x (s[n - 1]'(by omega))
            have b := hc.eq (s[n - 1]'(by omega)) x
            have : cf (s[n - 1]'(by omega)) x ≠ 0 := fun h => e (b.1 h).symm
            omega
      · rw [List.append_nil]; exact ih (by omega)
  exact key _ (by omega)
/-- Rows that rise, of the same things, are the same. -/
theorem rising_ext {R : α → α → Prop} (hi : ∀ x, ¬ R x x) (ht : ∀ x y z, R x y → R y z → R x z) : ∀ {l m : List α}, l.Pairwise R → m.Pairwise R → (∀ x, x ∈ l ↔ x ∈ m) → l = m
  | [], [], _, _, _ => rfl
  | [], y :: m, _, _, h => by have := (h y).2 (List.mem_cons_self ..); cases this
  | x :: l, [], _, _, h => by have := (h x).1 (List.mem_cons_self ..); cases this
  | x :: l, y :: m, hl, hm, h => by
    rw [List.pairwise_cons] at hl hm
    have e : x = y := by
      have h1 := (h x).1 (List.mem_cons_self ..)
      have h2 := (h y).2 (List.mem_cons_self ..)
      rw [List.mem_cons] at h1 h2
      rcases h1 with h1 | h1
      · exact h1
      · rcases h2 with h2 | h2
        · exact h2.symm
        · exact absurd (ht _ _ _ (hm.1 x h1) (hl.1 y h2)) (hi y)
    subst e
    rw [rising_ext hi ht hl.2 hm.2 fun z => ?_]
    have := h z
    simp only [List.mem_cons] at this
    constructor
    · intro hz
      rcases this.1 (.inr hz) with e | h'
      · subst e; exact absurd (hl.1 z hz) (hi z)
      · exact h'
    · intro hz
      rcases this.2 (.inr hz) with e | h'
      · subst e; exact absurd (hm.1 z hz) (hi z)
      · exact h'
theorem GoodCmp.irr (hc : GoodCmp cf) (x : α) : ¬ cf x x < 0 := by have := (hc.eq x x).2 rfl; omega
theorem rising_eq (hc : GoodCmp cf) {l m : List α} (hl : l.Pairwise fun x y => cf x y < 0) (hm : m.Pairwise fun x y => cf x y < 0) (h : ∀ x, x ∈ l ↔ x ∈ m) : l = m :=
  rising_ext (R := fun x y => cf x y < 0) hc.irr hc.trans hl hm h
theorem onceL_congr (hc : GoodCmp cf) {l m : List α} (h : ∀ x, x ∈ l ↔ x ∈ m) : onceL d cf l = onceL d cf m :=
  rising_eq hc (sorted_onceL hc l) (sorted_onceL hc m) fun x => by rw [mem_onceL, mem_onceL, h]
theorem onceL_of (hc : GoodCmp cf) {l : List α} (h : l.Pairwise fun x y => cf x y < 0) : onceL d cf l = l := rising_eq hc (sorted_onceL hc l) h fun x => mem_onceL
theorem onceL_len (l : List α) : (onceL d cf l).length ≤ l.length := by
  have h : ∀ (s : List α) n, (ddN d s n).length ≤ n := fun s n => by
    induction n with
    | zero => exact Nat.le_refl _
    | succ n ih => rw [ddN, List.length_append]; split <;> simp <;> omega
  exact h _ _
end

end Go.Proofs.YtjhbngjhdmapmaaGreatDoor
end

/- Once -/
section
/- Things in order, each once: what the program's once computes. Plain lemmas, no condition. -/
set_option linter.unusedVariables false
set_option linter.unusedSimpArgs false
namespace Go.Proofs.YtjhbngjhdmapmaaGreatDoor
open Go Go.E
set_option maxRecDepth 100000

theorem compactS_g : compactS = gC ([] : List UInt8) := rfl
theorem compactT_g : compactT = gC Tip.zero := rfl
theorem compactA_g : compactA = gC Arc.zero := rfl
theorem onceS_eq {l : List (List UInt8)} (h : l.length * 16 ≤ 140737488355328) : onceS l = some (onceL [] Lib.compareBytes l) := by
  rw [onceS, grd_mk h, compactS_g, gC_eq [] (by rw [sortL_len]; omega), sortL_len]; rfl
theorem onceT_eq {l : List Tip} (h : l.length * 24 ≤ 140737488355328) : onceT l = some (onceL Tip.zero cmpTip l) := by
  rw [onceT, grd_mk h, compactT_g, gC_eq Tip.zero (by rw [sortL_len]; omega), sortL_len]; rfl
theorem onceA_eq {l : List Arc} (h : l.length * 72 ≤ 140737488355328) : onceA l = some (onceL Arc.zero cmpArc l) := by
  rw [onceA, grd_mk h, compactA_g, gC_eq Arc.zero (by rw [sortL_len]; omega), sortL_len]; rfl
end Go.Proofs.YtjhbngjhdmapmaaGreatDoor
end

/- FMp -/
section
/- Sets of keys, as finite maps; rows by number. Plain lemmas, no condition. -/
set_option linter.unusedVariables false
set_option linter.unusedSimpArgs false
namespace Go.E
open Go
set_option linter.unusedSectionVars false
section
variable {K : Type} [DecidableEq K]
theorem len_of_sub : ∀ {l m : List K}, l.Nodup → (∀ x ∈ l, x ∈ m) → l.length ≤ m.length
  | [], m, _, _ => Nat.zero_le _
  | x :: l, m, hn, hs => by
    rw [List.nodup_cons] at hn
    have hx := hs x (List.mem_cons_self ..)
    have := len_of_sub (m := m.erase x) hn.2 fun y hy => by
      have h1 := hs y (List.mem_cons_of_mem _ hy)
      refine (List.mem_erase_of_ne ?_).2 h1
      intro e; subst e; exact hn.1 hy
    rw [List.length_erase_of_mem hx] at this
    have hp := List.length_pos_of_mem hx
    simp only [List.length_cons]; omega
/-- The set of some keys. -/
def FM.ofL (S : List K) : FM K Unit := S.foldl (fun m k => m.put k ()) FM.emp
theorem FM.ofL_snoc (S : List K) (k : K) : FM.ofL (S ++ [k]) = (FM.ofL S).put k () := by simp [FM.ofL]
theorem FM.ofL_f (S : List K) (x : K) : (FM.ofL S).f x = if x ∈ S then some () else none := by
  have key : ∀ (S : List K) (m : FM K Unit), (S.foldl (fun m k => m.put k ()) m).f x = if x ∈ S then some () else m.f x := by
    intro S
    induction S with
    | nil => intro m; simp
    | cons y S ih =>
      intro m
      rw [List.foldl_cons, ih]
      by_cases h : x ∈ S
      · simp [h]
      · by_cases e : x = y
        · subst e; simp [FM.put]
        · simp [h, FM.put, e]
  rw [FM.ofL, key]; rfl
/-- How many. -/
def card (S : List K) : Nat := (FM.ofL S).n
theorem rev_ind {p : List K → Prop} (h0 : p []) (h1 : ∀ l x, p l → p (l ++ [x])) (l : List K) : p l := by
  have : ∀ m : List K, p m.reverse := fun m => by
    induction m with
    | nil => exact h0
    | cons x m ih => rw [List.reverse_cons]; exact h1 _ _ ih
  simpa using this l.reverse
theorem FM.ofL_len (S : List K) : ∃ l : List K, l.Nodup ∧ (∀ x, x ∈ l ↔ x ∈ S) ∧ l.length = card S := by
  induction S using rev_ind with
  | h0 => exact ⟨[], List.nodup_nil, by simp, rfl⟩
  | h1 S k ih =>
    obtain ⟨l, h1, h2, h3⟩ := ih
    have hf := FM.ofL_f S k
    by_cases hk : k ∈ S
    · refine ⟨l, h1, fun x => ?_, ?_⟩
      · rw [h2, List.mem_append, List.mem_singleton]
        constructor
        · exact .inl
        · rintro (h | rfl)
          · exact h
          · exact hk
      · rw [h3, card, card, FM.ofL_snoc, FM.put]; simp [hf, hk]
    · refine ⟨l ++ [k], ?_, fun x => by rw [List.mem_append, List.mem_append, h2], ?_⟩
      · rw [List.nodup_append]
        exact ⟨h1, by simp, fun x hx y hy => by
          rw [List.mem_singleton] at hy; subst hy
          intro e; subst e; exact hk ((h2 _).1 hx)⟩
      · rw [List.length_append, h3, card, card, FM.ofL_snoc, FM.put]; simp [hf, hk]
theorem card_mono {S T : List K} (h : ∀ x ∈ S, x ∈ T) : card S ≤ card T := by
  obtain ⟨l, h1, h2, h3⟩ := FM.ofL_len S
  obtain ⟨m, _, h5, h6⟩ := FM.ofL_len T
  rw [← h3, ← h6]
  exact len_of_sub h1 fun x hx => (h5 x).2 (h x ((h2 x).1 hx))
theorem card_congr {S T : List K} (h : ∀ x, x ∈ S ↔ x ∈ T) : card S = card T := Nat.le_antisymm (card_mono fun x hx => (h x).1 hx) (card_mono fun x hx => (h x).2 hx)
theorem card_le (S : List K) : card S ≤ S.length := by
  obtain ⟨l, h1, h2, h3⟩ := FM.ofL_len S
  rw [← h3]; exact len_of_sub h1 fun x hx => (h2 x).1 hx
theorem FM.ofL_congr {S T : List K} (h : ∀ x, x ∈ S ↔ x ∈ T) : FM.ofL S = FM.ofL T := by
  have e1 : (FM.ofL S).f = (FM.ofL T).f := funext fun x => by rw [FM.ofL_f, FM.ofL_f]; simp only [h]
  have e2 : (FM.ofL S).n = (FM.ofL T).n := card_congr h
  cases hS : FM.ofL S; cases hT : FM.ofL T
  rw [hS] at e1 e2; rw [hT] at e1 e2
  simp only at e1 e2
  rw [e1, e2]
theorem Rep.of_ofL {S : List K} {q : List (K × Unit)} (h : Rep q (FM.ofL S)) : (∀ z, z ∈ q ↔ z.1 ∈ S) ∧ q.length = card S := by
  refine ⟨fun z => ?_, h.len⟩
  obtain ⟨k, v⟩ := z
  rw [h.mem, FM.ofL_f]
  by_cases hk : k ∈ S <;> simp [hk]
theorem Rep.ofL (S : List K) : ∃ q : List (K × Unit), Rep q (FM.ofL S) := by
  obtain ⟨l, h1, h2, h3⟩ := FM.ofL_len S
  refine ⟨l.map fun x => (x, ()), ⟨fun k v => ?_, by rw [List.length_map, h3]; rfl, ?_⟩⟩
  · rw [FM.ofL_f, List.mem_map]
    constructor
    · rintro ⟨x, hx, e⟩
      cases e
      rw [if_pos ((h2 _).1 hx)]
    · intro h
      split at h
      · rename_i hk; exact ⟨k, (h2 k).2 hk, rfl⟩
      · cases h
  · rw [List.map_map, show (Prod.fst ∘ fun x : K => (x, ())) = id from rfl, List.map_id]; exact h1
end

section
variable {β γ : Type}
/-- Rows of what bears a number. -/
structure Grp (key : β → Int) (val : β → γ) (n : Nat) (l : List (List γ)) (xs : List β) : Prop where
  len : l.length = n
  row : ∀ i, i < n → nth l i [] = (xs.filter fun x => decide (key x = (i : Int))).map val
theorem Grp.nil (key : β → Int) (val : β → γ) (n : Nat) : Grp key val n (List.replicate n []) [] := ⟨List.length_replicate .., fun i hi => by simp [nth, List.getD, List.getElem?_replicate, hi]⟩
theorem Grp.snoc {key : β → Int} {val : β → γ} {n : Nat} {l : List (List γ)} {xs : List β} (h : Grp key val n l xs) {x : β} (h0 : 0 ≤ key x) (h1 : key x < n) :
    Grp key val n (l.set (key x).toNat (nth l (key x).toNat [] ++ [val x])) (xs ++ [x]) := by
  refine ⟨by rw [List.length_set]; exact h.len, fun i hi => ?_⟩
  rw [List.filter_append, List.map_append, ← h.row i hi]
  by_cases e : i = (key x).toNat
  · subst e
    have : key x = ((key x).toNat : Int) := by omega
    have hl := h.len
    rw [show nth (l.set (key x).toNat (nth l (key x).toNat [] ++ [val x])) (key x).toNat [] = nth l (key x).toNat [] ++ [val x] from by simp [nth, List.getD, hl, hi]]
    simp [this.symm]
  · have hne : ¬ key x = (i : Int) := by omega
    rw [show nth (l.set (key x).toNat (nth l (key x).toNat [] ++ [val x])) i [] = nth l i [] from by simp [nth, List.getD, List.getElem?_set, Ne.symm e]]
    simp [hne]
theorem Grp.at {key : β → Int} {val : β → γ} {n : Nat} {l : List (List γ)} {xs : List β} (h : Grp key val n l xs) {s : Int} (h0 : 0 ≤ s) (h1 : s < n) : nth l s.toNat [] = (xs.filter fun x => decide (key x = s)).map val := by
  rw [h.row _ (by omega)]
  have : ((s.toNat : Nat) : Int) = s := by omega
  simp only [this]
/-- Rounds that look at each thing in turn. -/
theorem iter_all {α R : Type} {step : Nat → Option (Nat ⊕ R)} {y no : R} (l : List α) (d : α) (p : α → Bool) (hs : ∀ k, k < l.length → p (nth l k d) = true → step k = some (.inl (k + 1)))
    (hn : ∀ k, k < l.length → p (nth l k d) = false → step k = some (.inr no)) (hd : step l.length = some (.inr y)) : iter step 0 = some (if l.all p then y else no) := by
  have h := iter_any0 (step := step) (y := no) (no := y) (fun k => k) (fun k => !p (nth l k d)) l.length (fun k hk hp => hs k hk (by simpa using hp)) (fun k hk hp => hn k hk (by simpa using hp)) hd
  rw [h, range_any l d (fun x => !p x)]
  by_cases ha : l.all p = true
  · have : (l.any fun x => !p x) = false := by rw [List.any_eq_false]; intro x hx; have := (List.all_eq_true.1 ha) x hx; simp [this]
    rw [this, ha]; rfl
  · have : (l.any fun x => !p x) = true := by
      rw [Bool.not_eq_true, List.all_eq_false] at ha
      obtain ⟨x, hx, h⟩ := ha
      exact List.any_eq_true.2 ⟨x, hx, by simpa using h⟩
    rw [this]; simp only [cond_true]; rw [if_neg ha]
/-- Rounds that gather. -/
theorem iter_fold {α S R : Type} {step : S × Nat → Option ((S × Nat) ⊕ R)} {r : R} (l : List α) (d : α) (f : Nat → S) (hs : ∀ k, k < l.length → step (f k, k) = some (.inl (f (k + 1), k + 1))) (hd : step (f l.length, l.length) = some (.inr r)) :
    iter step (f 0, 0) = some r := iter_seq0 (fun k => (f k, k)) l.length hs hd
end
end Go.E
end
