/- Parts of a proof, one behind the other: what a machine reaches, functions decompiled, plain lemmas. Conditions stand with each lemma. -/
import Derived.Test.YtnpbfjdpglfdkaaGreatDoorB0b137539b5
import Derived.Laws.BytesArg
import Derived.Lib.Bytealg
import Derived.Shelf.SlSortCmp.NoneTotal
import Derived.Shelf.Sort.Plain
import Derived.Shelf.Slices.In.SortNone
import Derived.Test.YtnpbfjdpglfdkaaGreatDoorProg
import Derived.Test.YtnpbfjdpglfdkaaGreatDoorChecked

set_option linter.unusedVariables false
set_option linter.unusedSimpArgs false
set_option linter.unusedSectionVars false
set_option maxRecDepth 100000

section
namespace Go.E
open Go
abbrev FT := Bool × TypeId × Nat
def fieldsB (P : Program) (T : TypeId) : List FT := (P.fieldsOf T).toList.map fun f => (f.name == "_", f.type, f.offset)
def EqAt (P : Program) (n : Nat) (T : TypeId) (u v : Value) (b : Bool) : Prop := ∀ d w, (Op.equalIn (d + n) T u v).run P w = .ok b w
inductive EqC (P : Program) (n : Nat) (xs ys : Array Value) : List FT → Bool → Prop
  | nil : EqC P n xs ys [] true
  | one {t o : Nat} {ts : List FT} {u v : Value} {b q : Bool} (hA : aggOf P t = some false) (hu : xs[o]? = some u) (hv : ys[o]? = some v) (he : EqAt P n t u v b) (k : EqC P n xs ys ts q) : EqC P n xs ys ((false, t, o) :: ts) (b && q)
  | agg {t o s : Nat} {ts : List FT} {us vs : Array Value} {b q : Bool} (hA : aggOf P t = some true) (hz : szOf P t = some s) (hu : xs.extract o (o + s) = us) (hv : ys.extract o (o + s) = vs) (he : EqAt P n t (.agg us) (.agg vs) b) (k : EqC P n xs ys ts q) : EqC P n xs ys ((false, t, o) :: ts) (b && q)
theorem EqAt.up {P : Program} {n m : Nat} {T : TypeId} {u v : Value} {b : Bool} (h : EqAt P n T u v b) (hm : n ≤ m) : EqAt P m T u v b := fun d w => by
  have := h (d + (m - n)) w
  rwa [show d + (m - n) + n = d + m by omega] at this
theorem EqC.run {P : Program} {n : Nat} {xs ys : Array Value} {ts : List FT} {q : Bool} (h : EqC P n xs ys ts q) : ∀ (fs : List Field), (fs.map fun f => (f.name == "_", f.type, f.offset)) = ts → ∀ d w, (Op.eqFields (d + n) xs ys fs).run P w = .ok q w := by
  induction h with
  | nil => intro fs hf d w; have : fs = [] := by simpa using hf
           subst this; simp [Op.eqFields]
  | @one t o ts u v b q hA hu hv he k ih =>
    intro fs hf d w
    cases fs with
    | nil => simp at hf
    | cons f fs =>
      simp only [List.map_cons, List.cons.injEq, Prod.mk.injEq] at hf
      obtain ⟨⟨h1, h2, h3⟩, h4⟩ := hf
      have h1 : f.name ≠ "_" := by simpa using h1
      simp only [Op.eqFields, h1, h2, h3, ne_eq, not_false_eq_true, if_true, Sem.run_bind, run_part_one hA hu, run_part_one hA hv, Result.andThen_ok, he d w]
      cases b
      · simp
      · simp [ih fs h4 d w]
  | @agg t o s ts us vs b q hA hz hu hv he k ih =>
    intro fs hf d w
    cases fs with
    | nil => simp at hf
    | cons f fs =>
      simp only [List.map_cons, List.cons.injEq, Prod.mk.injEq] at hf
      obtain ⟨⟨h1, h2, h3⟩, h4⟩ := hf
      have h1 : f.name ≠ "_" := by simpa using h1
      simp only [Op.eqFields, h1, h2, h3, ne_eq, not_false_eq_true, if_true, Sem.run_bind, run_part_agg hA hz, hu, hv, Result.andThen_ok, he d w]
      cases b
      · simp
      · simp [ih fs h4 d w]
theorem EqAt.struct {P : Program} {n : Nat} {T : TypeId} {xs ys : Array Value} {ts : List FT} {q : Bool} (hu : P.underlying T = some (.struct (P.fieldsOf T))) (hp : P.stoodInHeld T = false) (hf : fieldsB P T = ts) (h : EqC P n xs ys ts q) : EqAt P (n + 1) T (.agg xs) (.agg ys) q := fun d w => by
  rw [← Nat.add_assoc, run_equalIn_struct w (d + n) T xs ys hu hp]
  exact h.run _ hf d w
theorem EqAt.of {P : Program} {n : Nat} {T : TypeId} {u v : Value} {b b' : Bool} (h : EqAt P n T u v b) (e : b = b') : EqAt P n T u v b' := e ▸ h
theorem EqAt.int {P : Program} {T : TypeId} {k : IntKind} (hT : P.underlying T = some (.int k)) (a b : Int) : EqAt P 1 T (.int k a) (.int k b) (decide (a = b)) := fun d w => by
  rw [run_equalIn_int w d T k k a b hT]; rfl
theorem EqAt.bool {P : Program} {T : TypeId} (hT : P.underlying T = some .bool) (a b : Bool) : EqAt P 1 T (.bool a) (.bool b) (decide (a = b)) := fun d w => by
  rw [run_equalIn_bool w d T a b hT]; cases a <;> cases b <;> rfl
theorem EqAt.str {P : Program} {T : TypeId} (hT : P.underlying T = some .string) (a b : List UInt8) : EqAt P 1 T (.string (bs a)) (.string (bs b)) (decide (a = b)) := fun d w => by
  rw [run_equalIn_string w d T (bs a) (bs b) hT, bs_beq]
theorem EqAt.set {P : Program} {T E : TypeId} (hT : P.underlying T = some (.array 4 E)) (hE : P.underlying E = some (.int .u64)) (hA : aggOf P E = some false) (hz : szOf P E = some 1) (a b : BSet) : EqAt P 2 T (.agg (setA a)) (.agg (setA b)) (decide (a = b)) := fun d w => by
  have h := run_eqArr4 (P := P) (k := .u64) d hT hE hA hz (a.a : Nat) (a.b : Nat) (a.c : Nat) (a.d : Nat) (b.a : Nat) (b.b : Nat) (b.c : Nat) (b.d : Nat) w
  rw [show decide (a = b) = decide (((a.a : Nat) : Int) = (b.a : Nat) ∧ ((a.b : Nat) : Int) = (b.b : Nat) ∧ ((a.c : Nat) : Int) = (b.c : Nat) ∧ ((a.d : Nat) : Int) = (b.d : Nat)) from by rw [decide_eq_decide]; exact BSet.eq_iff a b]
  exact h
section
variable {P : Program} {n m : Nat} {e : Env} {σ : Store} {H : List Res} {o : Oper} {x y : Operand} {T T' : TypeId} {xs ys : Array Value} {p : Prop} [Decidable p]
theorem OpVal.eqlSt (ho : o.op = .binOp .eql T x y T') (hx : ev e x = .agg xs) (hy : ev e y = .agg ys) (hg : P.eqGuardType P.depth T = false) (h : EqAt P m T (.agg xs) (.agg ys) (decide p)) (hm : Nat.ble m 10000 = true) : OpVal P n o e σ H (.bool (decide p)) := fun w _ => by
  have hm := Nat.le_of_ble_eq_true hm
  have h1 := h (10000 - m) w
  rw [Nat.sub_add_cancel hm] at h1
  simp only [execOp, ho, hx, hy, Sem.run_bind, run_eqGuard_agg _ _ _ _ _ _ _ hg, Result.andThen_ok]
  rw [run_eql_agg' (by simp) h1 rfl]; rfl
theorem OpVal.neqSt (ho : o.op = .binOp .neq T x y T') (hx : ev e x = .agg xs) (hy : ev e y = .agg ys) (hg : P.eqGuardType P.depth T = false) (h : EqAt P m T (.agg xs) (.agg ys) (decide p)) (hm : Nat.ble m 10000 = true) : OpVal P n o e σ H (.bool (decide (¬ p))) := fun w _ => by
  have hm := Nat.le_of_ble_eq_true hm
  have h1 := h (10000 - m) w
  rw [Nat.sub_add_cancel hm] at h1
  simp only [execOp, ho, hx, hy, Sem.run_bind, run_eqGuard_agg _ _ _ _ _ _ _ hg, Result.andThen_ok, decide_not]
  rw [run_neq_agg' (by simp) h1 rfl]; rfl
end
def CkAt (P : Program) (n : Nat) (T : TypeId) (v : Value) : Prop := ∀ d c w, (Instr.checkKey c (d + n) T v).run P w = .ok () w
inductive CkC (P : Program) (n : Nat) (xs : Array Value) : List FT → Prop
  | nil : CkC P n xs []
  | one {t o : Nat} {ts : List FT} {u : Value} (hA : aggOf P t = some false) (hu : xs[o]? = some u) (he : CkAt P n t u) (k : CkC P n xs ts) : CkC P n xs ((false, t, o) :: ts)
  | agg {t o s : Nat} {ts : List FT} {us : Array Value} (hA : aggOf P t = some true) (hz : szOf P t = some s) (hu : xs.extract o (o + s) = us) (he : CkAt P n t (.agg us)) (k : CkC P n xs ts) : CkC P n xs ((false, t, o) :: ts)
theorem CkAt.int {P : Program} {T : TypeId} {k : IntKind} (hT : P.underlying T = some (.int k)) (a : Int) : CkAt P 1 T (.int k a) := fun d c w => by simp [Instr.checkKey, run_underlying hT]
theorem CkAt.bool {P : Program} {T : TypeId} (hT : P.underlying T = some .bool) (a : Bool) : CkAt P 1 T (.bool a) := fun d c w => by simp [Instr.checkKey, run_underlying hT]
theorem CkAt.str {P : Program} {T : TypeId} (hT : P.underlying T = some .string) (a : ByteArray) : CkAt P 1 T (.string a) := fun d c w => by simp [Instr.checkKey, run_underlying hT]
theorem run_forIn_unit {P : Program} {α : Type} {w : World} (f : α → PUnit → Sem (ForInStep PUnit)) : ∀ (l : List α), (∀ a ∈ l, (f a PUnit.unit).run P w = .ok (.yield PUnit.unit) w) → (forIn l PUnit.unit f).run P w = .ok PUnit.unit w
  | [], _ => by simp
  | a :: l, h => by
    rw [List.forIn_cons, Sem.run_bind, h a (List.mem_cons_self ..), Result.andThen_ok]
    exact run_forIn_unit f l fun b hb => h b (List.mem_cons_of_mem _ hb)
theorem CkAt.set {P : Program} {T E : TypeId} (hT : P.underlying T = some (.array 4 E)) (hE : P.underlying E = some (.int .u64)) (hA : aggOf P E = some false) (hz : szOf P E = some 1) (s : BSet) : CkAt P 2 T (.agg (setA s)) := fun d c w => by
  have h0 : ∀ a, (Instr.checkKey c (d + 1) E (.int .u64 a)).run P w = .ok () w := fun a => CkAt.int hE a d c w
  rw [Instr.checkKey]
  simp only [Sem.run_bind, run_underlying hT, Result.andThen_ok, Std.Legacy.Range.forIn_eq_forIn_range', Std.Legacy.Range.size, Nat.sub_zero, Nat.add_sub_cancel, Nat.div_one]
  rw [run_forIn_unit]
  · rfl
  intro i hi
  have hi4 : i < 4 := by
    have := List.mem_range'.1 hi
    omega
  have hp : (part E (setA s) i).run P w = .ok (.int .u64 (s.word i : Nat)) w := run_part_one hA (setA_get s hi4) w
  simp only [Sem.run_bind, run_sizeOf hz, Result.andThen_ok, Nat.mul_one, hp, h0, Sem.run_pure]
theorem CkC.all {P : Program} {n : Nat} {xs : Array Value} {ts : List FT} (h : CkC P n xs ts) : ∀ (fs : List Field), (fs.map fun f => (f.name == "_", f.type, f.offset)) = ts → ∀ f ∈ fs, f.name ≠ "_" ∧ ∃ v, (∀ w, (part f.type xs f.offset).run P w = .ok v w) ∧ CkAt P n f.type v := by
  induction h with
  | nil => intro fs hf; have : fs = [] := by simpa using hf
           subst this; simp
  | @one t o ts u hA hu he k ih =>
    intro fs hf
    cases fs with
    | nil => simp
    | cons f fs =>
      simp only [List.map_cons, List.cons.injEq, Prod.mk.injEq] at hf
      obtain ⟨⟨h1, h2, h3⟩, h4⟩ := hf
      intro g hg
      rcases List.mem_cons.1 hg with rfl | hg
      · exact ⟨by simpa using h1, u, fun w => by rw [h2, h3]; exact run_part_one hA hu w, by rw [h2]; exact he⟩
      · exact ih fs h4 g hg
  | @agg t o s ts us hA hz hu he k ih =>
    intro fs hf
    cases fs with
    | nil => simp
    | cons f fs =>
      simp only [List.map_cons, List.cons.injEq, Prod.mk.injEq] at hf
      obtain ⟨⟨h1, h2, h3⟩, h4⟩ := hf
      intro g hg
      rcases List.mem_cons.1 hg with rfl | hg
      · exact ⟨by simpa using h1, _, fun w => by rw [h2, h3, run_part_agg hA hz, hu], by rw [h2]; exact he⟩
      · exact ih fs h4 g hg
theorem CkAt.struct {P : Program} {n : Nat} {T : TypeId} {xs : Array Value} {ts : List FT} (hu : P.underlying T = some (.struct (P.fieldsOf T))) (hf : fieldsB P T = ts) (h : CkC P n xs ts) : CkAt P (n + 1) T (.agg xs) := fun d c w => by
  have := h.all _ hf
  rw [← Nat.add_assoc, Instr.checkKey]
  simp only [Sem.run_bind, run_underlying hu, Result.andThen_ok]
  rw [← Array.forIn_toList, run_forIn_unit]
  · rfl
  intro f hf
  obtain ⟨h1, v, h2, h3⟩ := this f hf
  simp only [h1, ne_eq, not_false_eq_true, if_true, Sem.run_bind, h2, Result.andThen_ok, h3 d c w, Sem.run_pure]
def Bits (v : Value) : Prop := ∀ n, Instr.sameBits n v v = true
theorem sameBits_agg {cs : Array Value} (h : ∀ u ∈ cs.toList, Bits u) (n : Nat) : Instr.sameBits (n + 1) (.agg cs) (.agg cs) = true := by
  rw [Instr.sameBits]
  simp only [beq_self_eq_true, Bool.true_and, List.all_eq_true]
  rintro ⟨a, b⟩ hab
  have h1 := List.of_mem_zip hab
  have h2 : a = b := by
    obtain ⟨i, hi⟩ := List.mem_iff_getElem?.1 hab
    rw [List.getElem?_zip_eq_some] at hi
    exact Option.some.inj (hi.1.symm.trans hi.2)
  subst h2
  exact h a h1.1 n
theorem Bits.int (k : IntKind) (a : Int) : Bits (.int k a) := fun n => by cases n <;> (rw [Instr.sameBits]; simp)
theorem Bits.bool (a : Bool) : Bits (.bool a) := fun n => by cases n <;> (rw [Instr.sameBits]; simp)
theorem Bits.str (a : ByteArray) : Bits (.string a) := fun n => by cases n <;> (rw [Instr.sameBits]; exact (MapKept.bytes_beq a a).2 rfl)
theorem KeyL.struct {K : Type} [DecidableEq K] {P : Program} {T : TypeId} {enc : K → List Value} {m k : Nat} {fs : Array Field} (hT : P.underlying T = some (.struct fs)) (h : ∀ x y, EqAt P m T (.agg (enc x).toArray) (.agg (enc y).toArray) (decide (x = y))) (hm : Nat.ble m 10000 = true) (hc : ∀ x, CkAt P k T (.agg (enc x).toArray)) (hk : Nat.ble k 10000 = true)
    (hb : ∀ x, ∀ u ∈ enc x, Bits u) : KeyL P T (fun x => .agg (enc x).toArray) :=
  KeyL.asking hT (fun x y => rfl) (fun x y w => by
    have := h x y (10000 - m) w
    rw [Nat.sub_add_cancel (Nat.le_of_ble_eq_true hm)] at this
    simpa [Op.equal, Op.maxDepth] using this) (fun x c w => by
    have := hc x (10000 - k) c w
    rwa [Nat.sub_add_cancel (Nat.le_of_ble_eq_true hk)] at this) (fun x => sameBits_agg (by simpa using hb x) 9999)
theorem keyL_set {P : Program} {T E : TypeId} (hT : P.underlying T = some (.array 4 E)) (hE : P.underlying E = some (.int .u64)) (hA : aggOf P E = some false) (hz : szOf P E = some 1) : KeyL P T setV :=
  KeyL.asking hT (fun x y => rfl) (fun x y w => by
    have := EqAt.set hT hE hA hz x y 9998 w
    show (Op.equal T (.agg (setA x)) (.agg (setA y))).run P w = _
    simpa [Op.equal, Op.maxDepth] using this) (fun x c w => CkAt.set hT hE hA hz x 9998 c w) (fun x => sameBits_agg (by
    intro u hu
    simp [setA] at hu
    rcases hu with rfl | rfl | rfl | rfl <;> exact Bits.int _ _) 9999)
def u64mul (a b : Nat) : Nat := a * b % 18446744073709551616
def u64and (a b : Nat) : Nat := (BitVec.ofNat 64 a &&& BitVec.ofNat 64 b).toNat
def u64or (a b : Nat) : Nat := (BitVec.ofNat 64 a ||| BitVec.ofNat 64 b).toNat
def u64shl (a b : Nat) : Nat := a * 2 ^ (min b 64) % 18446744073709551616
def u64shr (a b : Nat) : Nat := a / 2 ^ (min b 64)
def u64of (a : Int) : Nat := (a % 18446744073709551616).toNat
theorem wrap_u64 (a : Int) : IntKind.u64.wrap a = a % 18446744073709551616 := by simp [IntKind.wrap, IntKind.bits, IntKind.signed]
theorem u64of_val (a : Int) : ((u64of a : Nat) : Int) = IntKind.u64.wrap a := by rw [wrap_u64, u64of]; omega
theorem bv_of (a : Nat) : BitVec.ofInt IntKind.u64.bits (a : Int) = BitVec.ofNat 64 a := by simp [IntKind.bits, BitVec.ofInt_natCast]
theorem wrap_bv (b : BitVec 64) : IntKind.u64.wrap (b.toNat : Int) = (b.toNat : Int) := by rw [wrap_u64]; have := b.isLt; omega
section
variable {P : Program} {n : Nat} {e : Env} {σ : Store} {H : List Res} {o : Oper} {x y : Operand} {T T' : TypeId} {a b : Nat}
theorem OpVal.mulU (ho : o.op = .binOp .mul T x y T') (hx : ev e x = .int .u64 (a : Nat)) (hy : ev e y = .int .u64 (b : Nat)) : OpVal P n o e σ H (.int .u64 ((u64mul a b : Nat) : Int)) := by
  have := OpVal.mulW (P := P) (n := n) (σ := σ) (H := H) ho hx hy
  rw [wrap_u64] at this
  rw [show ((u64mul a b : Nat) : Int) = ((a : Int) * (b : Int)) % 18446744073709551616 from by unfold u64mul; rw [Int.natCast_emod, Int.natCast_mul]; rfl]; exact this
theorem OpVal.andU (ho : o.op = .binOp .and T x y T') (hx : ev e x = .int .u64 (a : Nat)) (hy : ev e y = .int .u64 (b : Nat)) : OpVal P n o e σ H (.int .u64 ((u64and a b : Nat) : Int)) := .bin ho hx hy fun w => by
  simp only [binOp, ne_eq, not_true_eq_false, if_false, Op.intBits, bv_of]
  exact congrArg (fun z => Result.ok (Value.int .u64 z) w) (wrap_bv (BitVec.ofNat 64 a &&& BitVec.ofNat 64 b))
theorem OpVal.orU (ho : o.op = .binOp .or T x y T') (hx : ev e x = .int .u64 (a : Nat)) (hy : ev e y = .int .u64 (b : Nat)) : OpVal P n o e σ H (.int .u64 ((u64or a b : Nat) : Int)) := .bin ho hx hy fun w => by
  simp only [binOp, ne_eq, not_true_eq_false, if_false, Op.intBits, bv_of]
  exact congrArg (fun z => Result.ok (Value.int .u64 z) w) (wrap_bv (BitVec.ofNat 64 a ||| BitVec.ofNat 64 b))
theorem OpVal.shlU {k : IntKind} (ho : o.op = .binOp .shl T x y T') (hx : ev e x = .int .u64 (a : Nat)) (hy : ev e y = .int k (b : Nat)) : OpVal P n o e σ H (.int .u64 ((u64shl a b : Nat) : Int)) := fun w _ => by
  have h0 : ¬ (b : Int) < 0 := by omega
  simp only [execOp, ho, hx, hy, Sem.run_bind, run_eqGuard_int, Result.andThen_ok, binOp, Op.shift, h0, if_false, Int.toNat_natCast, wrap_u64, u64shl, IntKind.bits]
  rw [show (a : Int) * 2 ^ min b 64 % 18446744073709551616 = ((a * 2 ^ min b 64 % 18446744073709551616 : Nat) : Int) from by rw [Int.natCast_emod, Int.natCast_mul, Int.natCast_pow]; rfl]; rfl
theorem OpVal.shrU {k : IntKind} (ho : o.op = .binOp .shr T x y T') (hx : ev e x = .int .u64 (a : Nat)) (hy : ev e y = .int k (b : Nat)) : OpVal P n o e σ H (.int .u64 ((u64shr a b : Nat) : Int)) := fun w _ => by
  have h0 : ¬ (b : Int) < 0 := by omega
  have h2 : (a : Int).fdiv (2 ^ min b 64) = ((a / 2 ^ min b 64 : Nat) : Int) := by
    rw [Int.fdiv_eq_ediv_of_nonneg _ (by exact_mod_cast Nat.zero_le _)]; exact_mod_cast rfl
  simp only [execOp, ho, hx, hy, Sem.run_bind, run_eqGuard_int, Result.andThen_ok, binOp, Op.shift, h0, if_false, Int.toNat_natCast, u64shr, IntKind.bits, h2]; rfl
theorem OpVal.convU {k : IntKind} {i : Int} {d : TypeDesc} {S : TypeId} (ho : o.op = .convert S T x) (hs : P.underlying S = some d) (ht : P.underlying T = some (.int .u64)) (hx : ev e x = .int k i) : OpVal P n o e σ H (.int .u64 ((u64of i : Nat) : Int)) := by
  rw [u64of_val]; exact OpVal.convInt ho hs ht hx
theorem OpVal.eqlU {k : IntKind} (ho : o.op = .binOp .eql T x y T') (hx : ev e x = .int k (a : Nat)) (hy : ev e y = .int k (b : Nat)) : OpVal P n o e σ H (.bool (decide (a = b))) := OpVal.eqlN ho hx hy
theorem OpVal.neqU {k : IntKind} (ho : o.op = .binOp .neq T x y T') (hx : ev e x = .int k (a : Nat)) (hy : ev e y = .int k (b : Nat)) : OpVal P n o e σ H (.bool (decide (a ≠ b))) := by
  have := OpVal.neq (P := P) (n := n) (σ := σ) (H := H) ho hx hy
  rwa [show decide ((a : Int) ≠ (b : Int)) = decide (a ≠ b) from by rw [decide_eq_decide]; omega] at this
theorem OpVal.lssU {k : IntKind} (ho : o.op = .binOp .lss T x y T') (hx : ev e x = .int k (a : Nat)) (hy : ev e y = .int k (b : Nat)) : OpVal P n o e σ H (.bool (decide (a < b))) := by
  have := OpVal.lss (P := P) (n := n) (σ := σ) (H := H) ho hx hy
  rwa [show decide ((a : Int) < (b : Int)) = decide (a < b) from by rw [decide_eq_decide]; omega] at this
theorem OpVal.gtrU {k : IntKind} (ho : o.op = .binOp .gtr T x y T') (hx : ev e x = .int k (a : Nat)) (hy : ev e y = .int k (b : Nat)) : OpVal P n o e σ H (.bool (decide (b < a))) := by
  have := OpVal.gtr (P := P) (n := n) (σ := σ) (H := H) ho hx hy
  rwa [show decide ((b : Int) < (a : Int)) = decide (b < a) from by rw [decide_eq_decide]; omega] at this
end
end Go.E
end

section
namespace Go.E
open Go
theorem runA_of {K V S R : Type} {step : S → Option (K × V) → Option (S ⊕ R)} {m : FM K V} {l : List (K × V)} {s : S} {r : R} (h : allP (fun q => Rep q m) (fun q => runL step q s) = some r) (hl : Rep l m) : runA step l s = some r :=
  allP_i l (List.Perm.refl _) fun q hq => allP_e h q (hl.perm hq)
def unitV (_ : Unit) : Value := .agg #[]
def encW (x : Nat) : List Value := [.int .u64 (x : Nat)]
theorem encW_len (x : Nat) : (encW x).length = 1 := rfl
theorem encW_one : ∀ x, ∀ u ∈ encW x, u.oneCell' = true := fun x u hu => by simp [encW] at hu; subst hu; rfl
def encSet (x : BSet) : List Value := (setA x).toList
theorem encSet_len (x : BSet) : (encSet x).length = 4 := rfl
theorem encSet_one : ∀ x, ∀ u ∈ encSet x, u.oneCell' = true := setA_one
def Rdb (w : World) (v : Value) (xs : List Value) : Prop := ∀ a m c, v = .slice (some a) m c → ∀ j u, xs[j]? = some u → w.cell? (a.add j) = some u
theorem rdb_row {α : Type} {σ : Store} {H : List Res} {E size q : Nat} {enc : α → List Value} {v : Value} {l : List α} {w : World} (hq : H[q]? = some (Res.rowS E size enc v l)) (hw : Sees σ H w) : Rdb w v (l.flatMap enc) := by
  intro a m c hv j u hj
  have hown := (hw.2 _ (List.mem_of_getElem? hq)).1
  subst hv
  obtain ⟨h1, h2⟩ := hown
  rcases h2 with ⟨h2, _⟩ | ⟨g, cap, cur, h2, _, hg, h3, h4, h5, h6⟩
  · cases h2
  · cases h2
    rw [loc_add]
    have hj2 := (List.getElem?_eq_some_iff.1 hj).1
    rw [← h6, List.getElem?_take] at hj
    split at hj
    · simp only [World.cell?, hg, Option.isSome_none, Bool.false_eq_true, if_false, Nat.zero_add]
      rw [← Array.getElem?_toList]; exact hj
    · cases hj
theorem OpVal.bytesStr {P : Program} {n : Nat} {e : Env} {σ : Store} {H : List Res} {o : Oper} {x : Operand} {S T E m c : Nat} {a : Option Addr} {l : List UInt8} (ho : o.op = .convert S T x) (hs : P.underlying S = some (.slice E)) (he : P.underlying E = some (.int .u8)) (ht : P.underlying T = some .string)
    (hx : ev e x = .slice a m c) (hl : IsSl (.slice a m c) l.length) (hr : ∀ w, Sees σ H w → Rdb w (.slice a m c) (l.flatMap encU8)) : OpVal P n o e σ H (.string (bs l)) := fun w hw => by
  obtain ⟨a', c', hv, hn, hc⟩ := hl
  cases hv
  cases a with
  | none =>
    obtain ⟨h1, _⟩ := hn rfl
    have hl0 : l = [] := List.eq_nil_of_length_eq_zero h1
    subst hl0
    have := run_convert_bytes_nil (P := P) w S E hs he 0 c T ht
    simp only [execOp, ho, hx]
    simp only [List.length_nil, Sem.run_bind, this, Result.andThen_ok, Sem.run_pure]
    rfl
  | some ad =>
    have hcell := hr w hw ad _ c rfl
    have h1 : (loadCells ad l.length).run P w = .ok ((l.map fun b => (b.toNat : Int)).map (Value.int .u8)).toArray w := by
      have := run_loadCells_list (P := P) w ad ((l.map fun b => (b.toNat : Int)).map (Value.int .u8)) (fun j v hj => hcell j v (by rw [encU8_map]; simpa using hj))
      simpa using this
    have h2 := run_convert_bytes_string (P := P) w S T E (some ad) l.length c hs he ht
    have h3 := run_bytesToString (P := P) w ad l.length c (l.map fun b => (b.toNat : Int)) h1
    have h4 : (⟨(ByteArray.empty.data ++ (((l.map fun b => (b.toNat : Int)).map fun n => UInt8.ofNat n.toNat)).toArray)⟩ : ByteArray) = bs l := by
      simp [bs, ByteArray.empty, ByteArray.emptyWithCapacity, Function.comp_def]
      rfl
    rw [foldl_push_bytes, h4] at h3
    simp only [execOp, ho, hx, Sem.run_bind, h2, h3, Result.andThen_ok, Sem.run_pure]
theorem Reach.nilMap {K V : Type} {enc : K → Value} {encV : V → Value} {w0 : World} {C : List Nat} {σ0 σ : Store} {w : World} {F : List Res} (h : Reach w0 C σ0 σ w F) : Reach w0 C σ0 σ w (Res.mapB enc encV none FM.emp :: F) :=
  h.gain rfl rfl rfl (Nat.le_refl _) (Nat.le_refl _) (fun _ _ => rfl) ⟨fun _ => rfl, fun k hk => by cases hk⟩ (fun b hb => by simp [Res.mapB] at hb) (by simp [Res.mapB])
theorem OpVal.cmpStr {P : Program} {n : Nat} {e : Env} {σ : Store} {H : List Res} {o : Oper} {x p q : Operand} {ts : Array TypeId} {J : FuncId} {fn : Func} {a b : List UInt8} (ho : o.op = .call { callee := .value x, args := #[p, q], argTypes := ts }) (hx : ev e x = .func (.func J) #[] #[]) (hf : P.funcs[J]? = some fn) (hname : (fn.name == "runtime.NumGoroutine") = false)
    (hb : fn.body.isNone = true) (hn : Extern.findNext fn = none) (he : Extern.find fn = some Extern.BytealgCompare.compare) (hp : ev e p = .string (bs a)) (hq : ev e q = .string (bs b)) : OpVal P n o e σ H (.int .i64 (Lib.compareBytes a b)) := fun w _ => by
  have h := run_callFunc_extern hf hname hb hn he #[.string (bs a), .string (bs b)] w
  rw [Lib.run_compareString] at h
  simp [execOp, ho, resolve, Deferred.ofValue, invoke, hx, hp, hq, h, Result.andThen, bs_list]
structure VwOk (v u : Value) (size k n : Nat) : Prop where
  sl : IsSl u n
  el : ∀ j, j < n → elem u (j * size) = elem v ((k + j) * size)
theorem vw_of {a : Option Addr} {m c size k : Nat} (h : IsSl (.slice a m c) m) (hk : k ≤ m) : ∃ (a' : Option Addr) (c' : Nat), VwOk (.slice a m c) (.slice a' (m - k) c') size k (m - k) ∧
    ∀ {P : Program} {n : Nat} {e : Env} {σ : Store} {H : List Res} {o : Oper} {x z : Operand} {T E : TypeId} {kk : IntKind} (_ : o.op = .slice T x (some z) none none) (_ : P.underlying T = some (.slice E)) (_ : szOf P E = some size) (_ : ev e x = .slice a m c) (_ : ev e z = .int kk (k : Nat)), OpVal P n o e σ H (.slice a' (m - k) c') := by
  obtain ⟨a1, c1, hv, hn, hc⟩ := h
  cases hv
  refine ⟨if c = k then a else a.map (·.add (k * size)), c - k, ⟨⟨_, _, rfl, fun ha => ?_, by omega⟩, fun j hj => ?_⟩, ?_⟩
  · split at ha
    · obtain ⟨h1, h2⟩ := hn ha; omega
    · cases a with
      | none => obtain ⟨h1, h2⟩ := hn rfl; omega
      | some ad => simp at ha
  · have hck : ¬ c = k := by omega
    rw [if_neg hck]
    cases a with
    | none => obtain ⟨h1, h2⟩ := hn rfl; omega
    | some ad => simp only [elem, Option.map_some]; rw [add_add, Nat.add_mul]
  · intro P n e σ H o x z T E kk ho hT hs hx hz w _
    have hsz := run_sizeOf (P := P) hs
    have hrun : (Instr.slice T (.slice a m c) (some (.int kk k)) none none).run P w = .ok (.slice (if c = k then a else a.map (·.add (k * size))) (m - k) (c - k)) w := by
      simp [Instr.slice, Instr.sliceBounds, Instr.sliceBound, asIntOf, run_underlying hT, hsz]
      intro hlt; omega
    simp [execOp, ho, hx, hz, Instr.sliceAt, run_underlying hT, hrun]
theorem OpVal.elVw {P : Program} {n : Nat} {e : Env} {σ : Store} {H : List Res} {o : Oper} {v u : Value} {size k m j : Nat} (hv : VwOk v u size k m) (hj : j < m) (h : OpVal P n o e σ H (elem u (j * size))) : OpVal P n o e σ H (elem v ((k + j) * size)) := hv.el j hj ▸ h
theorem zeroCells_flat {α : Type} {enc : α → List Value} {size : Nat} {z : Value} (x0 : α) (hz : z.cells.toList = enc x0) (hl : ∀ x, (enc x).length = size) (m : Nat) (h0 : 0 < size) : (Builtin.zeroCells z.cells m).toList = (List.replicate m x0).flatMap enc := by
  have := madeCells_flat z x0 hz m (by rw [hl]; exact h0)
  rw [hl] at this
  rw [← this]
  have hzs : z.cells.size = size := by rw [← Array.length_toList, hz, hl]
  simp [Builtin.zeroCells, madeCells, hzs]
theorem splice_end {α : Type} {enc : α → List Value} {size : Nat} (hl : ∀ x, (enc x).length = size) (l : List α) (k : Nat) (x0 : α) (hk : k ≤ l.length) :
    splice (l.flatMap enc) (k * size) ((List.replicate (l.length - k) x0).flatMap enc) = (l.take k ++ List.replicate (l.length - k) x0).flatMap enc := by
  rw [List.flatMap_append, splice, take_flat hl]
  have h1 : ((List.replicate (l.length - k) x0).flatMap enc).length = (l.length - k) * size := by rw [flatMap_len hl, List.length_replicate]
  rw [h1]
  have h2 : (l.flatMap enc).length = l.length * size := flatMap_len hl l
  rw [List.drop_of_length_le (by rw [h2, ← Nat.add_mul]; exact Nat.mul_le_mul_right _ (by omega)), List.append_nil]
theorem OpOk.clearV {X : Ctx} {e : Env} {σ : Store} {F : List Res} {o : Oper} {x : Operand} {K : Env → Store → List Res → Prop} {α : Type} {T E size k m' : Nat} {enc : α → List Value} {zv v u : Value} {l : List α} (x0 : α) (ho : o.op = .call { callee := .builtin .clear, args := #[x], argTypes := #[T] }) (ht : X.P.underlying T = some (.slice E)) (hz : zeroOf X.P E = some zv)
    (hd : o.dst = none) (hx : ev e x = u) (hv : VwOk v u size k m') (hm : l.length - k = m') (hk : k ≤ l.length) (hl : ∀ x, (enc x).length = size) (h0 : 0 < size) (hz0 : zv.cells.toList = enc x0) (h1 : ∀ x, ∀ u ∈ enc x, u.oneCell' = true)
    (kk : K e σ (Res.rowS E size enc v (l.take k ++ List.replicate (l.length - k) x0) :: F)) : OpOk X o e σ (Res.rowS E size enc v l :: F) K := by
  subst hm
  intro u0 C0 τ0 w a hw ha K' Q hK
  obtain ⟨hown, hone, hbg⟩ := hw.holds _ (List.mem_cons_self ..)
  have hlen : (l.take k ++ List.replicate (l.length - k) x0).length = l.length := by simp; omega
  obtain ⟨a', c', rfl, hn, hc⟩ := hv.sl
  by_cases hkl : k = l.length
  · subst hkl
    have e1 : l.take l.length ++ List.replicate (l.length - l.length) x0 = l := by simp
    rw [e1] at kk
    have hrun : (Builtin.clear_ #[T] o.type #[.slice a' (l.length - l.length) c']).run X.P w = .ok (.tuple #[]) w := by
      rw [Nat.sub_self]
      cases a' <;> simp [Builtin.clear_, run_underlying ht]
    refine Oper.wp_of_run (v := .tuple #[]) (w' := w) ?_ (hK _ _ _ _ _ kk hw (by rw [hd]; exact ⟨ha, rfl⟩))
    rw [ha.eval']
    rw [Nat.sub_self] at hrun
    simp [execOp, ho, resolve, invoke, builtin, hx, hrun]
  · have hj : 0 < l.length - k := by omega
    have hel := hv.el 0 hj
    cases a' with
    | none => obtain ⟨h2, _⟩ := hn rfl; omega
    | some ad =>
      rcases id hown.2 with ⟨hvn, hmn⟩ | ⟨g, cap, cur, rfl, _⟩
      · omega
      · simp only [elem, Nat.zero_mul, Nat.add_zero] at hel
        have had : ad = ⟨g, k * size, none⟩ := by
          have h3 : (ad.add 0) = (⟨g, 0, none⟩ : Addr).add (k * size) := by injection hel with h; injection h
          rw [loc_add] at h3
          simpa [Addr.add] using h3
        subst had
        have hzl := zeroCells_flat (size := size) x0 hz0 hl (l.length - k) h0
        obtain ⟨w', hst, hown', hgr, hdr⟩ := World.ownsRow.spliced X.P hown (k := k * size) (vs := (List.replicate (l.length - k) x0).flatMap enc) (by rw [flatMap_len hl, flatMap_len hl, List.length_replicate, ← Nat.add_mul]; exact Nat.mul_le_mul_right _ (by omega)) (fun u hu => by
          obtain ⟨q, _, hq⟩ := List.mem_flatMap.1 hu
          exact h1 q u hq)
        rw [splice_end hl l k x0 hk] at hown'
        have hrun : (Builtin.clear_ #[T] o.type #[.slice (some ⟨g, k * size, none⟩) (l.length - k) c']).run X.P w = .ok (.tuple #[]) w' := by
          have hne : l.length - k ≠ 0 := by omega
          simp only [Builtin.clear_]
          simp [run_underlying ht, run_zeroValue hz, hzl, hst]
        have hR : Reach u0 C0 τ0 σ w' (Res.rowS E size enc (.slice (some ⟨g, 0, none⟩) l.length cap) (l.take k ++ List.replicate (l.length - k) x0) :: F) := by
          refine hw.turn1 (some g) (some g) rfl rfl hgr.os hgr.tape hgr.output hgr.size hdr (fun q hq hne => hgr.block q hq (fun hx => hne (by cases hx; rfl))) ?_ (fun q hq => .inl hq)
          show _ ∧ _ ∧ _
          rw [hlen]
          refine ⟨hown', fun u hu => ?_, hbg⟩
          obtain ⟨q, _, hq⟩ := List.mem_flatMap.1 hu
          exact h1 q u hq
        refine Oper.wp_of_run (v := .tuple #[]) (w' := w') ?_ (hK _ _ _ _ _ kk hR (by rw [hd]; exact ⟨ha, rfl⟩))
        rw [ha.eval']
        simp [execOp, ho, resolve, invoke, builtin, hx, hrun]
theorem RS.ofCells {α : Type} {τ : Store} {b k m E : Nat} {cs : Array Value} {enc : α → List Value} {l : List α} (h : τ b = some (.cells cs E (0, 0))) (hl : ∀ x, (enc x).length = 1) (h1 : ∀ x, ∀ u ∈ enc x, u.oneCell' = true) (hk : (cs.toList.drop k).take m = l.flatMap enc) (hm : l.length = m) (hb : Nat.ble l.length 281474976710656 = true) : RS τ 1 enc (.slice (some ⟨b, k, none⟩) m m) l := by
  subst hm
  refine ⟨⟨⟨_, _, rfl, (fun h => by cases h), Nat.le_refl _⟩, flatMap_len hl l, ?_, fun u hu => ?_, Nat.le_of_ble_eq_true hb⟩, hl⟩
  · intro a m c hv j u hj
    cases hv
    rw [loc_add]
    unfold Store.cell
    simp only [h, Option.isSome_none, Bool.false_eq_true, if_false]
    rw [← hk, List.getElem?_take] at hj
    split at hj
    · rw [List.getElem?_drop, Array.getElem?_toList] at hj; exact hj
    · cases hj
  · obtain ⟨q, _, hq⟩ := List.mem_flatMap.1 hu
    exact h1 q u hq
theorem Con.lendC {P : Program} {f : FuncId} {args : Array Value} {σ : Store} {F : List Res} {r : Value} {b E : Nat} {cs : Array Value}
    (h : ∀ τ, σ.le τ → τ b = some (.cells cs E (0, 0)) → Con P f args τ F (KeepP r τ F)) : Con P f args σ (Res.cells b cs E :: F) (KeepP r σ (Res.cells b cs E :: F)) := by
  intro w hw
  have ho : w.heap[b]? = some (.cells cs E (0, 0)) := hw.holds _ (List.mem_cons_self ..)
  obtain ⟨h1, h2⟩ := hw.sealB (b := b) rfl ho
  have h3 : σ.with b (.cells cs E (0, 0)) b = some (.cells cs E (0, 0)) := by simp [Store.with]
  generalize σ.with b (.cells cs E (0, 0)) = τ at h1 h2 h3
  have h0 : Reach w (blks F) τ τ w F := ⟨rfl, rfl, rfl, Nat.le_refl _, fun _ _ _ => rfl, Store.le.refl _, h1.fit, fun b o hb => .inl hb, h1.holds, fun r hr b hb => .inl (mem_blks.2 ⟨r, hr, hb⟩), h1.nodup, h1.apart, Nat.le_refl _⟩
  refine (h τ h2 h3 w h0).mono fun ex w' ⟨r', σ', H', he, ⟨e1, e2, e3⟩, k⟩ => ?_
  subst e1 e2 e3
  refine ⟨r', σ, _, he, ⟨rfl, rfl, rfl⟩, ?_⟩
  have hb : b < w.heap.size ∧ b ∉ blks H' := by
    refine ⟨(Array.getElem?_eq_some_iff.1 ho).1, fun hx => ?_⟩
    have hnd := hw.nodup
    simp only [blks, List.flatMap_cons] at hnd
    exact (nodup_app.1 hnd).2.2 b (by simp [Res.cells]) hx
  have hframe : ∀ i, i < w.heap.size → i ∉ blks H' → w'.heap[i]? = w.heap[i]? := k.frame
  refine ⟨k.os, k.tape, k.output, k.size, ?_, Store.le.refl _, fun b o hs => k.fit b o (h2 b o hs), fun b o hs => .inl hs, ?_, ?_, ?_, ?_, k.drawn⟩
  · intro i hi hn
    refine hframe i hi fun hx => hn ?_
    obtain ⟨r2, hr2, hb2⟩ := mem_blks.1 hx
    exact mem_blks.2 ⟨r2, List.mem_cons_of_mem _ hr2, hb2⟩
  · intro r2 hr2
    rcases List.mem_cons.1 hr2 with rfl | hr2
    · exact (Res.cells b cs E).keep w w' (fun c hc => by rw [List.mem_singleton.1 hc]; exact hframe b hb.1 hb.2) ho
    · exact k.holds r2 hr2
  · intro r2 hr2 b hb2
    exact .inl (mem_blks.2 ⟨r2, hr2, hb2⟩)
  · exact hw.nodup
  · intro r2 hr2 b hb2
    exact hw.apart r2 hr2 b hb2
theorem OpVal.sliceArr {P : Program} {n : Nat} {e : Env} {σ : Store} {H : List Res} {o : Oper} {x : Operand} {T E m b k s : Nat} (ho : o.op = .slice T x none none none) (ht : P.underlying T = some (.array m E)) (hs : szOf P E = some s) (hx : ev e x = loc b k) : OpVal P n o e σ H (.slice (some ⟨b, k, none⟩) m m) := fun w _ => by
  have hsz := run_sizeOf (P := P) hs
  simp [execOp, ho, hx, loc, Instr.sliceAt, Instr.sureAddr, run_underlying ht, Instr.slice, Instr.sliceBounds, Instr.sliceBound, hsz, Addr.add]
theorem mem_pick {H B : List Res} (is : List Nat) (h : is.map (fun i => H[i]?) = B.map some) {r : Res} (hr : r ∈ B) : r ∈ H := by
  have h1 : some r ∈ B.map some := List.mem_map.2 ⟨r, hr, rfl⟩
  rw [← h] at h1
  obtain ⟨i, _, hi⟩ := List.mem_map.1 h1
  exact List.mem_of_getElem? hi
end Go.E
end

section
namespace Go.E
open Go Go.Sort Go.Proofs Go.Shelf
theorem Reach.grown {w w' : World} {σ : Store} {H : List Res} (h : Reach w [] (fun _ => none) σ w' H) : ∃ q os', w' = grow (w.drewN q) os' := by
  refine ⟨w'.drawn - w.drawn, w'.heap.extract w.heap.size w'.heap.size, ?_⟩
  have h1 : w'.heap = w.heap ++ w'.heap.extract w.heap.size w'.heap.size := by
    apply Array.ext_getElem?
    intro i
    rw [Array.getElem?_append]
    split
    · rename_i hi; exact h.frame i hi (by simp)
    · rename_i hi
      by_cases hl : i < w'.heap.size
      · rw [Array.getElem?_extract_of_lt (by omega)]; simp only [show w.heap.size + (i - w.heap.size) = i by omega]; exact Array.getElem?_eq_getElem hl
      · rw [Array.getElem?_eq_none (by omega), Array.getElem?_eq_none (by simp; omega)]
  have h2 := h.drawn
  cases w' with
  | mk heap tape drawn os output =>
    have e1 := h.os; have e2 := h.tape; have e3 := h.output
    simp only at h1 h2 e1 e2 e3
    simp only [grow, World.drewN]
    rw [World.mk.injEq]
    exact ⟨h1, e2, by omega, e1, e3⟩
theorem reach_nil (w : World) : Reach w [] (fun _ => none) (fun _ => none) w [] :=
  ⟨rfl, rfl, rfl, Nat.le_refl _, fun _ _ _ => rfl, Store.le.refl _, (fun _ _ h => by cases h), (fun _ _ h => by cases h), by simp, by simp, by simp [blks], by simp, Nat.le_refl _⟩
section
variable {α : Type} [Inhabited α] {P : Program}
theorem cmpLays1_of {g : Nat} {enc : α → Value} {cf : α → α → Int} {blk off size : Nat} {w : World} (h : ∀ x y τ, Con P g #[enc x, enc y] τ [] (PureP (.int .i64 (cf x y)) τ)) : CmpLays1 P g #[] enc cf blk off size w := by
  intro m os dk _ x y
  refine (h x y (fun _ => none) _ (reach_nil _)).mono fun e w' ⟨r, σ', H', he, ⟨hr, _, _⟩, k⟩ => ⟨by rw [he, hr], Reach.grown k⟩
theorem cmpLays_of {g k : Nat} {enc : α → List Value} {cf : α → α → Int} {blk off size : Nat} {w : World} (h : ∀ x y τ, Con P g #[.agg (enc x).toArray, .agg (enc y).toArray] τ [] (PureP (.int .i64 (cf x y)) τ)) : CmpLays P g #[] enc k cf blk off size w := by
  intro m os dk _ x y
  refine (h x y (fun _ => none) _ (reach_nil _)).mono fun e w' ⟨r, σ', H', he, ⟨hr, _, _⟩, k⟩ => ⟨by rw [he, hr], Reach.grown k⟩
end
theorem getBang {α : Type} [Inhabited α] (l : List α) (i : Nat) (h : i < l.length) : l.toArray[i]! = l[i] := by simp [h]
theorem Reach.sorted {w0 : World} {C : List Nat} {σ0 σ : Store} {w : World} {F : List Res} {E size n cap g m : Nat} {xs xs' : List Value} {os : Array Obj} (h : Reach w0 C σ0 σ w (Res.row E size (.slice (some ⟨g, 0, none⟩) n cap) n xs :: F)) (hl : xs'.length = xs.length) (h1 : ∀ u ∈ xs', u.oneCell' = true) :
    Reach w0 C σ0 σ (grow (putRow (id : Value → Value) (Sort.ahead w m) g 0 xs'.toArray) os) (Res.row E size (.slice (some ⟨g, 0, none⟩) n cap) n xs' :: F) := by
  obtain ⟨hown, hone, hbg⟩ := h.holds _ (List.mem_cons_self ..)
  obtain ⟨hlen, hc⟩ := hown
  rcases hc with ⟨hc, _⟩ | ⟨g', cap', cur, hv, hb0, hg, h3, h4, h5, h6⟩
  · cases hc
  cases hv
  have hgl : g < w.heap.size := (Array.getElem?_eq_some_iff.1 hg).1
  have hnew : (grow (putRow (id : Value → Value) (Sort.ahead w m) g 0 xs'.toArray) os).heap[g]? = some (.cells (putCells (id : Value → Value) 0 xs'.toArray cur) E) := by
    rw [heap_grow_old _ _ (by simpa using hgl)]
    simp [putRow, mapBlock, Sort.ahead, Array.getElem?_modify, hg, onCells]
  have hold : ∀ k, k < w.heap.size → k ≠ g → (grow (putRow (id : Value → Value) (Sort.ahead w m) g 0 xs'.toArray) os).heap[k]? = w.heap[k]? := by
    intro k hk hne
    rw [heap_grow_old _ _ (by simpa using hk)]
    have : g ≠ k := fun e => hne e.symm
    simp [putRow, mapBlock, Sort.ahead, Array.getElem?_modify, this]
  have hcur : xs.length ≤ cur.size := by
    have := congrArg List.length h6
    simp at this; omega
  refine h.turn1 (some g) (some g) rfl rfl rfl rfl rfl (by simp [grow]) (by simp [grow, putRow, mapBlock, Sort.ahead]) (fun k hk hne => hold k hk fun e => hne (by rw [e])) ⟨⟨by rw [hl]; exact hlen, .inr ⟨g, cap, _, rfl, hb0, hnew, h3, h4, by simp [putCells, h5], ?_⟩⟩, h1, hbg⟩ (fun b hb => .inl hb)
  apply List.ext_getElem?
  intro i
  by_cases hi : i < n * size
  · have hi2 : i < xs'.length := by rw [hl, hlen]; exact hi
    rw [List.getElem?_take_of_lt hi, Array.getElem?_toList]
    simp [putCells, hi2, show i < cur.size by omega]
  · rw [List.getElem?_take_eq_none (by omega), List.getElem?_eq_none (by omega)]
theorem holds_row {w : World} {E size n cap g : Nat} {xs : List Value} (h : w.ownsRow 0 E size (.slice (some ⟨g, 0, none⟩) n cap) n xs) : Holds (id : Value → Value) w g 0 xs.toArray ∧ g < w.heap.size := by
  obtain ⟨hlen, hc⟩ := h
  rcases hc with ⟨hc, _⟩ | ⟨g', cap', cur, hv, hb0, hg, h3, h4, h5, h6⟩
  · cases hc
  cases hv
  refine ⟨fun j hj => ?_, (Array.getElem?_eq_some_iff.1 hg).1⟩
  have hj' : j < xs.length := by simpa using hj
  refine ⟨?_, by simp [World.frozen?, hg]⟩
  have h7 : (cur.toList.take (n * size))[j]? = xs[j]? := by rw [h6]
  rw [List.getElem?_take_of_lt (by omega)] at h7
  simp only [World.cell?, hg, Nat.zero_add, Option.isSome_none, Bool.false_eq_true, if_false]
  rw [← Array.getElem?_toList, h7]
  simp [hj']
theorem putRow_id {α : Type} [Inhabited α] (enc : α → Value) (w : World) (g : Nat) (l : List α) : putRow enc w g 0 l.toArray = putRow (id : Value → Value) w g 0 (l.map enc).toArray := by
  unfold putRow
  congr 1
  funext c
  unfold putCells
  apply Array.ext_getElem?
  intro i
  simp only [Array.getElem?_mapIdx]
  cases hc : c[i]? with
  | none => rfl
  | some v =>
    simp only [Option.map_some, Nat.zero_le, true_and, Nat.zero_add, Nat.sub_zero, List.size_toArray, List.length_map]
    split
    · rename_i hi; simp [hi]
    · rfl
theorem flatK_list {α : Type} [Inhabited α] {enc : α → List Value} {k : Nat} (hk : ∀ x, (enc x).length = k) (l : List α) : flatK enc k l.toArray = (l.flatMap enc).toArray := by
  have hl : (l.flatMap enc).length = l.length * k := flatMap_len hk l
  refine ext_get! (by simp [hl]) fun t ht => ?_
  have ht' : t < l.length * k := by simpa using ht
  have k0 : 0 < k := by rcases Nat.eq_zero_or_pos k with h | h
                        · subst h; simp at ht'
                        · exact h
  have hd : t / k < l.length := Nat.div_lt_of_lt_mul (by rw [Nat.mul_comm]; exact ht')
  have hm : t % k < k := Nat.mod_lt _ k0
  rw [get_flatK _ _ _ _ (by simpa using ht'), getBang l _ hd]
  have h2 := flatMap_get hk l (t / k) (t % k) l[t / k] (List.getElem?_eq_getElem hd) hm
  rw [Nat.div_add_mod' t k] at h2
  have hb : t < (l.flatMap enc).toArray.size := by simpa [hl] using ht'
  have h3 : (l.flatMap enc).toArray[t]! = (enc l[t / k])[t % k]! := by
    rw [getElem!_pos (l.flatMap enc).toArray t hb]
    have h4 : (l.flatMap enc)[t]? = some ((l.flatMap enc).toArray[t]'hb) := by rw [← List.getElem?_toArray]; exact Array.getElem?_eq_getElem hb
    rw [h2] at h4
    have hlt : t % k < (enc l[t / k]).length := by rw [hk]; exact hm
    rw [List.getElem?_eq_getElem hlt, Option.some.injEq] at h4
    rw [getElem!_pos (enc l[t / k]) (t % k) hlt, h4]
  rw [h3]
def sortL {α : Type} (cf : α → α → Int) (l : List α) : List α := l.mergeSort fun x y => !decide (cf y x < 0)
def SortP {α : Type} (E size : Nat) (enc : α → List Value) (a : Option Addr) (c : Nat) (l l' : List α) (σ : Store) : Value → Store → List Res → Prop := fun v σ' H' => v = .tuple #[] ∧ σ = σ' ∧ H' = [Res.rowS E size enc (.slice a l.length c) l']
structure TotalCmp {α : Type} (cf : α → α → Int) : Prop where
  swo : SWO (ltOf cf)
  tot : ∀ x y, ltOf cf x y = false → ltOf cf y x = false → x = y
section
variable {α : Type} [Inhabited α] {P : Program} {ρ : Ren}
theorem Con.sort1 (L : SlLaysF.n6 P ρ) (L0 : SlLaysF0.n6 P ρ) {enc : α → Value} {encL : α → List Value} {cf : α → α → Int} {f g E c : Nat} {a : Option Addr} {l : List α} {σ : Store} (hf : ρ.f 6 = f) (he : ∀ x, encL x = [enc x]) (h1 : OneCell enc) (hO : TotalCmp cf)
    (eg : ∀ args w, (callFunc g args).run P w = .ok (.enter g args) w) (hc : ∀ x y τ, Con P g #[enc x, enc y] τ [] (PureP (.int .i64 (cf x y)) τ)) :
    Con P f #[.slice a l.length c, .func (.func g) #[] #[]] σ [Res.rowS E 1 encL (.slice a l.length c) l] (SortP E 1 encL a c l (sortL cf l) σ) := by
  subst hf
  have hflat : ∀ l : List α, l.flatMap encL = l.map enc := fun l => by
    induction l with
    | nil => rfl
    | cons x l ih => rw [List.flatMap_cons, ih, he]; rfl
  have hlen : (sortL cf l).length = l.length := List.length_mergeSort _
  intro w hw
  obtain ⟨hown, hone, hbg⟩ := hw.holds _ (List.mem_cons_self ..)
  have hsl := isSl_row hown
  rcases id hown.2 with ⟨hn, hm⟩ | ⟨g', cap', cur, hv, hb0, hg, h3, h4, h5, h6⟩
  · have hl0 : l = [] := List.eq_nil_of_length_eq_zero hm
    subst hl0
    refine (AnyF.slices_SortFunc_none L0 a c (.func (.func g) #[] #[]) w).mono fun e w' ⟨h1, h2⟩ => ⟨_, σ, _, h1, ⟨rfl, rfl, rfl⟩, ?_⟩
    subst h2
    rw [show sortL cf ([] : List α) = [] from by simp [sortL]]
    exact hw
  · cases hv
    have hH := holds_row hown
    rw [hflat] at hH
    have hHe : Holds enc w g' 0 l.toArray := fun j hj => by
      have := hH.1 j (by simpa using hj)
      have hj' : j < l.length := by simpa using hj
      simpa [hj'] using this
    have hsz : l.toArray.size < 4611686018427387904 := by simp; omega
    have := Any.slices_SortFunc_total L enc h1 cf hO.swo g #[] g' 0 c l.toArray w eg (cmpLays1_of hc) hHe hH.2 hsz hO.tot
    refine this.mono fun e w' ⟨h7, n, os, h8⟩ => ⟨_, σ, _, h7, ⟨rfl, rfl, rfl⟩, ?_⟩
    subst h8
    have h9 : (l.toArray.toList.mergeSort fun x y => !(ltOf cf) y x) = sortL cf l := rfl
    rw [h9]
    unfold sortWorld
    rw [putRow_id]
    have := Reach.sorted (h := hw) (m := n) (os := os) (xs' := (sortL cf l).map enc) (by rw [hflat, List.length_map, List.length_map, hlen]) (fun u hu => by
      obtain ⟨x, _, rfl⟩ := List.mem_map.1 hu
      exact h1 x)
    unfold Res.rowS
    rw [hflat (sortL cf l), hlen]
    exact this
theorem Con.sortK (L : SlLaysF0.n6 P ρ) {k : Nat} {enc : α → List Value} {cf : α → α → Int} {f g E c : Nat} {a : Option Addr} {l : List α} {σ : Store} (hf : ρ.f 6 = f) (aE : ∀ w, (isAgg (ρ.t 24)).run P w = .ok true w) (zE : ∀ w, (Go.sizeOf (ρ.t 24)).run P w = .ok k w) (hk : ∀ x, (enc x).length = k) (h1 : ∀ x, ∀ u ∈ enc x, u.oneCell' = true) (hO : TotalCmp cf)
    (eg : ∀ args w, (callFunc g args).run P w = .ok (.enter g args) w) (hc : ∀ x y τ, Con P g #[.agg (enc x).toArray, .agg (enc y).toArray] τ [] (PureP (.int .i64 (cf x y)) τ)) :
    Con P f #[.slice a l.length c, .func (.func g) #[] #[]] σ [Res.rowS E k enc (.slice a l.length c) l] (SortP E k enc a c l (sortL cf l) σ) := by
  subst hf
  have hlen : (sortL cf l).length = l.length := List.length_mergeSort _
  intro w hw
  obtain ⟨hown, hone, hbg⟩ := hw.holds _ (List.mem_cons_self ..)
  rcases id hown.2 with ⟨hn, hm⟩ | ⟨g', cap', cur, hv, hb0, hg, h3, h4, h5, h6⟩
  · have hl0 : l = [] := List.eq_nil_of_length_eq_zero hm
    subst hl0
    refine (AnyF.slices_SortFunc_none L a c (.func (.func g) #[] #[]) w).mono fun e w' ⟨h1, h2⟩ => ⟨_, σ, _, h1, ⟨rfl, rfl, rfl⟩, ?_⟩
    subst h2
    rw [show sortL cf ([] : List α) = [] from by simp [sortL]]
    exact hw
  · cases hv
    have hH := holds_row hown
    have hHe : HoldsK enc k w g' 0 l.toArray := by
      unfold HoldsK; rw [flatK_list hk]; exact hH.1
    have hsz : l.toArray.size < 4611686018427387904 := by simp; omega
    have := AnyQ.slices_SortFunc_total L k aE zE enc hk h1 cf hO.swo g #[] g' 0 c l.toArray w eg (cmpLays_of hc) hHe hH.2 hsz hO.tot
    refine this.mono fun e w' ⟨h7, n, os, h8⟩ => ⟨_, σ, _, h7, ⟨rfl, rfl, rfl⟩, ?_⟩
    subst h8
    have h9 : (l.toArray.toList.mergeSort fun x y => !(ltOf cf) y x) = sortL cf l := rfl
    rw [h9]
    unfold sortWorldK putRowK
    rw [flatK_list hk]
    have := Reach.sorted (h := hw) (m := n) (os := os) (xs' := (sortL cf l).flatMap enc) (by rw [flatMap_len hk, flatMap_len hk, hlen]) (fun u hu => by
      obtain ⟨x, _, hx⟩ := List.mem_flatMap.1 hu
      exact h1 x u hx)
    unfold Res.rowS
    rw [hlen]
    exact this
end
end Go.E
end

section
namespace Go.E
open Go Go.Sort Go.Proofs Go.Shelf
theorem flat_encI (l : List Int) : l.flatMap Go.E.encI = l.map (Value.int .i64) := by
  induction l with
  | nil => rfl
  | cons x l ih => rw [List.flatMap_cons, ih]; rfl
theorem Con.sortInt {P : Program} {ρ : Ren} (L : Lays.n189 P ρ) {f E c : Nat} {a : Option Addr} {l : List Int} {σ : Store} (hf : ρ.f 189 = f) :
    Con P f #[.slice a l.length c] σ [Res.rowS E 1 Go.E.encI (.slice a l.length c) l] (SortP E 1 Go.E.encI a c l (l.mergeSort fun x y => decide (x ≤ y)) σ) := by
  subst hf
  have hlen : (l.mergeSort fun x y => decide (x ≤ y)).length = l.length := List.length_mergeSort _
  intro w hw
  obtain ⟨hown, hone, hbg⟩ := hw.holds _ (List.mem_cons_self ..)
  have hsl := isSl_row hown
  rcases id hown.2 with ⟨hn, hm⟩ | ⟨g', cap', cur, hv, hb0, hg, h3, h4, h5, h6⟩
  · have hl0 : l = [] := List.eq_nil_of_length_eq_zero hm
    subst hl0
    refine (Any.slices_Sort_int_none L a c w).mono fun e w' ⟨h1, h2⟩ => ⟨_, σ, _, h1, ⟨rfl, rfl, rfl⟩, ?_⟩
    subst h2
    rw [show (([] : List Int).mergeSort fun x y => decide (x ≤ y)) = [] from by simp]
    exact hw
  · cases hv
    have hH := holds_row hown
    rw [flat_encI] at hH
    have hHe : Holds (Value.int .i64) w g' 0 l.toArray := fun j hj => by
      have := hH.1 j (by simpa using hj)
      have hj' : j < l.length := by simpa using hj
      simpa [hj'] using this
    have hsz : l.length < 4611686018427387904 := by omega
    have := Any.slices_Sort_int L g' 0 c l w hHe hH.2 hsz
    refine this.mono fun e w' ⟨h7, n, os, h8⟩ => ⟨_, σ, _, h7, ⟨rfl, rfl, rfl⟩, ?_⟩
    subst h8
    rw [putRow_id]
    have := Reach.sorted (h := hw) (m := n) (os := os) (xs' := (l.mergeSort fun x y => decide (x ≤ y)).map (Value.int .i64)) (by rw [flat_encI, List.length_map, List.length_map, hlen]) (fun u hu => by
      obtain ⟨x, _, rfl⟩ := List.mem_map.1 hu
      rfl)
    unfold Res.rowS
    rw [flat_encI (l.mergeSort fun x y => decide (x ≤ y)), hlen]
    exact this
theorem OpOk.make0S {X : Ctx} {e : Env} {σ : Store} {H : List Res} {o : Oper} {x y : Operand} {K : Env → Store → List Res → Prop} {α : Type} {T E size by_ d m : Nat} {kl kc : IntKind} {enc : α → List Value} {z : Value} (ho : o.op = .makeSlice T x y) (ht : X.P.underlying T = some (.slice E)) (hs : szOf X.P E = some size) (hby : byOf X.P E = some by_) (hz : zeroOf X.P E = some z)
    (hd : o.dst = some d) (hn : Nat.blt d X.n = true) (hx : ev e x = .int kl 0) (hy : ev e y = .int kc (m : Nat)) (hb : by_ * m ≤ 281474976710656) (hby0 : 0 < by_)
    (k : ∀ a c, K (upd e d (.slice a ([] : List α).length c)) σ (Res.rowS E size enc (.slice a ([] : List α).length c) [] :: H)) : OpOk X o e σ H K := OpOk.make0 ho ht hs hby hz hd hn hx hy hb hby0 k
theorem Con.lendG {P : Program} {f : FuncId} {args : Array Value} {σ : Store} {F : List Res} {v : Value} {α : Type} {E size : Nat} {enc : α → List Value} {l : List α} {Post : Store → Value → Store → List Res → Prop} (hl : ∀ x, (enc x).length = size)
    (hP : ∀ τ τ' r σ' H', Post τ r σ' H' → σ' = τ ∧ Post τ' r τ' H') (h : ∀ τ, σ.le τ → RS τ size enc v l → Con P f args τ F (Post τ)) : Con P f args σ (Res.rowS E size enc v l :: F) (fun r σ' H' => ∃ H'', Post σ r σ' H'' ∧ H' = H'' ++ [Res.rowS E size enc v l]) := by
  intro w hw
  obtain ⟨τ, h1, h2, h3⟩ := hw.sealRow
  have h0 : Reach w (blks F) τ τ w F := ⟨rfl, rfl, rfl, Nat.le_refl _, fun _ _ _ => rfl, Store.le.refl _, h1.fit, fun b o hb => .inl hb, h1.holds, fun r hr b hb => .inl (mem_blks.2 ⟨r, hr, hb⟩), h1.nodup, h1.apart, Nat.le_refl _⟩
  refine (h τ h2 ⟨h3, hl⟩ w h0).mono fun ex w' ⟨r', σ', H', he, hp, k⟩ => ?_
  obtain ⟨e2, hp'⟩ := hP τ σ r' σ' H' hp
  subst e2
  refine ⟨r', σ, _, he, ⟨H', hp', rfl⟩, ?_⟩
  have hb : ∀ b, b ∈ (Res.rowS E size enc v l).bl → b < w.heap.size ∧ b ∉ blks F := fun b hb => by
    refine ⟨hw.block_lt (List.mem_cons_self ..) hb, fun hx => ?_⟩
    have hnd := hw.nodup
    simp only [blks, List.flatMap_cons] at hnd
    exact (nodup_app.1 hnd).2.2 b hb hx
  have hF : ∀ b, b ∈ blks F → b ∈ blks (Res.rowS E size enc v l :: F) := fun b hx => by
    obtain ⟨r2, hr2, hb2⟩ := mem_blks.1 hx
    exact mem_blks.2 ⟨r2, List.mem_cons_of_mem _ hr2, hb2⟩
  have hframe : ∀ i, i < w.heap.size → i ∉ blks F → w'.heap[i]? = w.heap[i]? := k.frame
  refine ⟨k.os, k.tape, k.output, k.size, fun i hi hn => hframe i hi fun hx => hn (hF i hx), Store.le.refl _, fun b o hs => k.fit b o (h2 b o hs), fun b o hs => .inl hs, ?_, ?_, ?_, ?_, k.drawn⟩
  · intro r2 hr2
    rcases List.mem_append.1 hr2 with hr2 | hr2
    · exact k.holds r2 hr2
    · rw [List.mem_singleton.1 hr2]
      exact (Res.rowS E size enc v l).keep w w' (fun b hbb => hframe b (hb b hbb).1 (hb b hbb).2) (hw.holds _ (List.mem_cons_self ..))
  · intro r2 hr2 b hb2
    rcases List.mem_append.1 hr2 with hr2 | hr2
    · exact (k.own r2 hr2 b hb2).imp (hF b) id
    · rw [List.mem_singleton.1 hr2] at hb2
      exact .inl (mem_blks.2 ⟨_, List.mem_cons_self .., hb2⟩)
  · have e : blks (H' ++ [Res.rowS E size enc v l]) = blks H' ++ (Res.rowS E size enc v l).bl := by simp [blks, List.flatMap_append]
    rw [e, nodup_app]
    refine ⟨k.nodup, ?_, fun b hx hy => ?_⟩
    · have hnd := hw.nodup
      simp only [blks, List.flatMap_cons] at hnd
      exact (nodup_app.1 hnd).1
    · obtain ⟨r2, hr2, hb2⟩ := mem_blks.1 hx
      have := hb b hy
      rcases k.own r2 hr2 b hb2 with h4 | h4
      · exact this.2 h4
      · omega
  · intro r2 hr2 b hb2
    rcases List.mem_append.1 hr2 with hr2 | hr2
    · cases hs : σ b with
      | none => rfl
      | some o => have := k.apart r2 hr2 b hb2; rw [h2 b o hs] at this; cases this
    · rw [List.mem_singleton.1 hr2] at hb2
      exact hw.apart _ (List.mem_cons_self ..) b hb2
end Go.E
end

section
namespace Go.Proofs.YtnpbfjdpglfdkaaGreatDoor
open Go Go.E
theorem sortInt_con {σ : Store} {a : Option Addr} {c : Nat} {l : List Int} : Con Tryz.prog 87 #[.slice a l.length c] σ [Res.rowS 3 1 Go.E.encI (.slice a l.length c) l] (SortP 3 1 Go.E.encI a c l (l.mergeSort fun x y => decide (x ≤ y)) σ) := Con.sortInt layInt rfl
end Go.Proofs.YtnpbfjdpglfdkaaGreatDoor
end

section
namespace Go.Proofs.YtnpbfjdpglfdkaaGreatDoor
open Go
theorem ag27 : Go.E.aggOf Tryz.prog 27 = some false := by kernel_rfl
theorem ag3 : Go.E.aggOf Tryz.prog 3 = some false := by kernel_rfl
theorem ag46 : Go.E.aggOf Tryz.prog 46 = some false := by kernel_rfl
theorem ag5 : Go.E.aggOf Tryz.prog 5 = some false := by kernel_rfl
theorem ag55 : Go.E.aggOf Tryz.prog 55 = some false := by kernel_rfl
theorem ag57 : Go.E.aggOf Tryz.prog 57 = some true := by kernel_rfl
theorem ag78 : Go.E.aggOf Tryz.prog 78 = some true := by kernel_rfl
theorem by3 : Go.E.byOf Tryz.prog 3 = some 8 := by kernel_rfl
theorem eg57 : Tryz.prog.eqGuardType Tryz.prog.depth 57 = false := by kernel_rfl
theorem fo48_0 : Go.E.foOf Tryz.prog 48 0 = some 0 := by kernel_rfl
theorem fo48_1 : Go.E.foOf Tryz.prog 48 1 = some 1 := by kernel_rfl
theorem fo48_2 : Go.E.foOf Tryz.prog 48 2 = some 2 := by kernel_rfl
theorem fo48_3 : Go.E.foOf Tryz.prog 48 3 = some 3 := by kernel_rfl
theorem fo78_0 : Go.E.foOf Tryz.prog 78 0 = some 0 := by kernel_rfl
theorem fo78_1 : Go.E.foOf Tryz.prog 78 1 = some 1 := by kernel_rfl
theorem fo78_2 : Go.E.foOf Tryz.prog 78 2 = some 2 := by kernel_rfl
theorem pf64 : Go.E.plainF Tryz.prog 64 = true := by kernel_rfl
theorem pf65 : Go.E.plainF Tryz.prog 65 = true := by kernel_rfl
theorem sz3 : Go.E.szOf Tryz.prog 3 = some 1 := by kernel_rfl
theorem sz5 : Go.E.szOf Tryz.prog 5 = some 1 := by kernel_rfl
theorem sz55 : Go.E.szOf Tryz.prog 55 = some 1 := by kernel_rfl
theorem sz57 : Go.E.szOf Tryz.prog 57 = some 4 := by kernel_rfl
theorem sz78 : Go.E.szOf Tryz.prog 78 = some 6 := by kernel_rfl
theorem ze3 : Go.E.zeroOf Tryz.prog 3 = some (.int .i64 0) := by kernel_rfl
theorem ze57 : Go.E.zeroOf Tryz.prog 57 = some (.agg #[.int .u64 0, .int .u64 0, .int .u64 0, .int .u64 0]) := by kernel_rfl
theorem ze78 : Go.E.zeroOf Tryz.prog 78 = some (.agg #[.int .i64 0, .int .i64 0, .int .u64 0, .int .u64 0, .int .u64 0, .int .u64 0]) := by kernel_rfl
end Go.Proofs.YtnpbfjdpglfdkaaGreatDoor
end

section
namespace Go.Proofs.YtnpbfjdpglfdkaaGreatDoor
open Go Go.E
theorem and_one (a : Nat) : a &&& 1 = a % 2 := Nat.and_one_is_mod a
theorem has_con (σ : Store) (s : BSet) (b : Nat) (hs : s.ok) (hb : b < 256) : Con Tryz.prog 43 #[setV s, .int .u8 (b : Nat)] σ [] (PureP (.bool (s.has b)) σ) := by
  have hw : s.word (b / 64) < 18446744073709551616 := BSet.word_lt hs _
  have hw2 : s.word (b / 64) / 2 ^ (b % 64) < 18446744073709551616 := Nat.lt_of_le_of_lt (Nat.div_le_self _ _) hw
  refine Con.mk (n := 14) Tryz.func43 rfl rfl rfl (fun w0 => ?_)
  refine TC.seq ?_
  refine TC.region ?_
  refine TL.op rfl (OpOk.boxA rfl rfl rfl rfl (fun b1 => ?_))
  refine TL.v rfl (OpVal.moveB (.inr rfl) rfl) rfl rfl ?_
  refine TL.nil ?_
  refine S.n ?_
  refine TC.seq ?_
  refine TC.region ?_
  refine TL.v rfl (OpVal.moveI (.inl rfl) rfl) rfl rfl ?_
  refine TL.v rfl (OpVal.quoN (b := 64) rfl rfl rfl (by omega) (by simp only [kmax]; omega)) rfl rfl ?_
  refine TL.v rfl (OpVal.indexArrN rfl Tryz.underlying57 sz55 rfl rfl (by omega)) rfl rfl ?_
  refine TL.v rfl (OpVal.loadWord rfl ag55 rfl (j := 0) rfl (by omega)) rfl rfl ?_
  refine TL.v rfl (OpVal.moveI (.inl rfl) rfl) rfl rfl ?_
  refine TL.v rfl (OpVal.remN (b := 64) rfl rfl rfl (by omega)) rfl rfl ?_
  refine TL.v rfl (OpVal.shrN rfl rfl rfl (by show _ < 64; omega)) rfl rfl ?_
  refine TL.v rfl (OpVal.andN (b := 1) rfl rfl rfl (by omega) (by omega)) rfl rfl ?_
  refine TL.v rfl (OpVal.eqlN (b := 1) rfl rfl rfl) rfl rfl ?_
  refine TL.v rfl (OpVal.moveB (.inr rfl) rfl) rfl rfl ?_
  refine TL.nil ?_
  refine S.n ?_
  refine TC.ret ?_
  -- leaf 1 ret [] H=['q2']
  refine ret1P rfl (congrArg Value.bool ?_)
  unfold BSet.has; rw [decide_eq_decide, and_one]
end Go.Proofs.YtnpbfjdpglfdkaaGreatDoor
end

section
namespace Go.Proofs.YtnpbfjdpglfdkaaGreatDoor
open Go Go.E
def stateB (s n : Int) : Bool := decide (0 ≤ s) && decide (s < n)
def riseFrom (n : Int) (l : List Int) (i : Nat) : Bool := stateB (nth l i 0) n && !(decide (0 < i) && decide (nth l i 0 ≤ nth l (i - 1) 0))
def riseB (l : List Int) (n : Int) : Bool := (List.range l.length).all (riseFrom n l)
theorem riseB_no {l : List Int} {st : Int} {k : Nat} (hk : k < l.length) (h : riseFrom st l k = false) : riseB l st = false := by
  unfold riseB
  rw [List.all_eq_false]
  exact ⟨k, by simpa using hk, by simp [h]⟩
theorem riseB_yes {l : List Int} {st : Int} {k : Nat} (hk : l.length ≤ k) (h : ∀ i, i < k → riseFrom st l i = true) : riseB l st = true := by
  unfold riseB
  rw [List.all_eq_true]
  intro i hi
  exact h i (by have := List.mem_range.1 hi; omega)
theorem all_step {p : Nat → Bool} {k : Nat} (h : ∀ i, i < k → p i = true) (hk : p k = true) : ∀ i, i < k + 1 → p i = true := fun i hi => by
  rcases Nat.lt_succ_iff_lt_or_eq.1 hi with h' | rfl
  · exact h i h'
  · exact hk
def edgeB (n : Int) (x : Arrow) : Bool := stateB x.frm n && stateB x.to n && !decide (x.set = BSet.zero)
def checkB (n : Nfa) : Bool := decide (0 ≤ n.states) && decide (n.states ≤ 4096) && decide ((n.edges.length : Int) ≤ 65536) && riseB n.starts n.states && riseB n.ends n.states && n.edges.all (edgeB n.states)
def errB (b : Bool) : Int := if b then 0 else 1
theorem edges_no {n : Nfa} {k : Nat} (hk : k < n.edges.length) (h : edgeB n.states (nth n.edges k Arrow.zero) = false) : n.edges.all (edgeB n.states) = false := by
  rw [List.all_eq_false]
  exact ⟨_, List.mem_of_getElem? (getD_some n.edges hk Arrow.zero), by simp [h]⟩
theorem edges_yes {n : Nfa} (h : ∀ i, i < n.edges.length → edgeB n.states (nth n.edges i Arrow.zero) = true) : n.edges.all (edgeB n.states) = true := by
  rw [List.all_eq_true]
  intro x hx
  obtain ⟨j, hj, rfl⟩ := List.mem_iff_getElem.1 hx
  have h2 := getD_some n.edges hj Arrow.zero
  rw [List.getElem?_eq_getElem hj, Option.some.injEq] at h2
  rw [h2]; exact h j hj
theorem take_succ_nth {α : Type} (l : List α) {k : Nat} (hk : k < l.length) (d : α) : l.take (k + 1) = l.take k ++ [nth l k d] := by
  rw [List.take_add_one, getD_some l hk d]; rfl
end Go.Proofs.YtnpbfjdpglfdkaaGreatDoor
end

section
namespace Go.Proofs.YtnpbfjdpglfdkaaGreatDoor
open Go Go.E
def inTo (l : List UInt8) (k : Nat) : Nat → Bool := fun i => (l.take k).any fun u => decide (i = u.toNat)
theorem inTo_zero (l : List UInt8) : BSet.make (inTo l 0) = BSet.zero := by
  rw [show inTo l 0 = fun _ => false from by funext i; simp [inTo]]; exact BSet.make_zero
theorem inTo_succ {l : List UInt8} {k : Nat} (h : k < l.length) : (fun i => inTo l k i || decide (i = (nth l k 0).toNat)) = inTo l (k + 1) := by
  funext i; simp [inTo, take_succ_nth l h 0]
theorem inTo_all (l : List UInt8) : BSet.make (inTo l l.length) = BSet.ofL l := by
  unfold inTo BSet.ofL; rw [List.take_length]
theorem two_pow_lt {a : Nat} (h : a < 64) : 2 ^ a < 18446744073709551616 := Nat.lt_of_le_of_lt (Nat.pow_le_pow_right (by omega) (show a ≤ 63 by omega)) (by decide)
theorem of_con (σ : Store) (a : Option Addr) (c : Nat) (l : List UInt8) (hsz : l.length ≤ 1000000000000) :
    Con Tryz.prog 20 #[.slice a l.length c] σ [Res.rowS 5 1 encU8 (.slice a l.length c) l] (PureP (setV (BSet.ofL l)) σ) := by
  refine Con.mk (n := 23) Tryz.func20 rfl rfl rfl (fun w0 => ?_)
  refine TC.seq ?_
  refine TC.region ?_
  refine TL.op rfl (OpOk.alloc rfl ze57 rfl rfl (fun b1 => ?_))
  refine TL.nil ?_
  refine S.n ?_
  refine TC.seq ?_
  refine TC.region ?_
  refine TL.op rfl (OpOk.alloc rfl ze57 rfl rfl (fun b3 => ?_))
  refine TL.nil ?_
  refine S.n ?_
  refine TC.seq ?_
  refine TC.seq ?_
  refine TC.region ?_
  refine TL.v rfl (OpVal.moveSl (.inl rfl) rfl) rfl rfl ?_
  refine TL.v rfl (OpVal.lenC rfl Tryz.underlying105 rfl) rfl rfl ?_
  refine TL.v rfl (OpVal.moveI (.inl rfl) rfl) rfl rfl ?_
  refine TL.nil ?_
  refine S.n ?_
  refine TC.block ?_
  refine TC.loopF (α := Nat) [5, 8, 9, 10, 11, 12, 13, 14, 15, 16, 17, 18, 19, 20, 21] (fun k => [(8, .int .i64 (k : Nat))]) (fun k => [Res.cells b3 (setA (BSet.make (inTo l k))) 57, Res.cells b1 (setA BSet.zero) 57, Res.rowS 5 1 encU8 (.slice a l.length c) l]) (fun _ => _) (fun k => k ≤ l.length) (fun k => l.length - k) (0) (by first | exact True.intro | omega | (dsimp only; omega) | (simp; done) | (simp; omega)) (by repeat (first | exact trivial | refine ⟨rfl, ?_⟩)) (by rw [inTo_zero]; rfl) (by rfl) (fun g1 j1 hg1 => ?_)
  have hu : (nth l g1 (0 : UInt8)).toNat < 256 := UInt8.toNat_lt _
  have hp := two_pow_lt (Nat.mod_lt (nth l g1 (0 : UInt8)).toNat (show 0 < 64 by omega))
  have hw := BSet.word_lt (BSet.make_ok (inTo l g1)) ((nth l g1 (0 : UInt8)).toNat / 64)
  refine TC.seq ?_
  refine TC.region ?_
  refine TL.v rfl (OpVal.lss rfl rfl rfl) rfl rfl ?_
  refine TL.nil ?_
  refine S.n ?_
  refine TC.seq ?_
  refine TC.condD rfl (fun h5 => ?_) (fun h5 => ?_)
  · try simp only [decide_eq_true_eq, decide_eq_false_iff_not, Bool.not_eq_true', Bool.not_eq_false', Bool.not_eq_eq_eq_not, Bool.not_true, Bool.not_false, Int.not_lt, Int.not_le, Decidable.not_not] at h5
    refine TC.skip ?_
    refine S.n ?_
    refine TC.seq ?_
    refine TC.block ?_
    refine TC.seq ?_
    refine TC.region ?_
    refine TL.isSl (i := 2) rfl (fun hs6 _ _ => ?_)
    refine TL.v rfl (OpVal.indexN rfl Tryz.underlying105 sz5 rfl rfl (by first | assumption | exact (RS.rv (by assumption)).sl) (by omega)) rfl rfl ?_
    refine TL.v rfl (OpVal.loadO1 (0 : UInt8) rfl ag5 rfl (q := 2) rfl encU8_len (by omega) rfl) rfl rfl ?_
    refine TL.v rfl (OpVal.moveI (.inr rfl) rfl) rfl rfl ?_
    refine TL.nil ?_
    refine S.n ?_
    refine TC.region ?_
    refine TL.v rfl (OpVal.moveI (.inl rfl) rfl) rfl rfl ?_
    refine TL.v rfl (OpVal.quoN (b := 64) rfl rfl rfl (by omega) (by simp only [kmax]; omega)) rfl rfl ?_
    refine TL.v rfl (OpVal.indexArrN rfl Tryz.underlying57 sz55 rfl rfl (by omega)) rfl rfl ?_
    refine TL.v rfl (OpVal.loadWord rfl ag55 rfl (j := 0) rfl (by omega)) rfl rfl ?_
    refine TL.v rfl (OpVal.moveI (.inl rfl) rfl) rfl rfl ?_
    refine TL.v rfl (OpVal.remN (b := 64) rfl rfl rfl (by omega)) rfl rfl ?_
    refine TL.v rfl (OpVal.shlN (a := 1) rfl rfl rfl (by show _ < 64; omega) (by simp only [kmax]; omega)) rfl rfl ?_
    refine TL.v rfl (OpVal.orN rfl rfl rfl (by omega) (by omega)) rfl rfl ?_
    refine TL.v rfl (OpVal.indexArrN rfl Tryz.underlying57 sz55 rfl rfl (by omega)) rfl rfl ?_
    refine TL.op rfl (OpOk.storeWord rfl sz55 rfl rfl rfl (by omega) (Nat.or_lt_two_pow (n := 64) hw (by omega)) ?_)
    refine TL.nil ?_
    refine B.n ?_
    refine S.n ?_
    refine TC.region ?_
    refine TL.v rfl (OpVal.succ rfl rfl rfl (by omega)) rfl rfl ?_
    refine TL.v rfl (OpVal.moveI (.inl rfl) rfl) rfl rfl ?_
    refine TL.nil ?_
    refine S.n ?_
    -- leaf 1 next [h5: True] H=['q4', 'q2', 'r0']
    refine ⟨by repeat (first | exact Agr.mask | refine Agr.upd rfl ?_ | refine Agr.maskIn rfl ?_), g1 + 1, ?_, ?_, ?_, ?_, ?_⟩
    · omega
    · first | exact True.intro | omega | (dsimp only; omega) | (simp; done) | (simp; omega)
    · repeat (first | exact trivial | refine ⟨rfl, ?_⟩)
    · rw [BSet.make_or _ hu, inTo_succ (by omega)]
    · rfl
  · try simp only [decide_eq_true_eq, decide_eq_false_iff_not, Bool.not_eq_true', Bool.not_eq_false', Bool.not_eq_eq_eq_not, Bool.not_true, Bool.not_false, Int.not_lt, Int.not_le, Decidable.not_not] at h5
    refine TC.exit ?_
    refine S.x ?_
    refine S.x ?_
    refine TC.exitHere ?_
    refine S.n ?_
    refine TC.seq ?_
    refine TC.region ?_
    refine TL.v rfl (OpVal.loadAll rfl ag57 sz57 rfl (i := 0) rfl rfl) rfl rfl ?_
    refine TL.front 1 rfl rfl ?_
    refine TL.op rfl (OpOk.storeAll rfl sz57 rfl rfl rfl rfl rfl rfl ?_)
    refine TL.nil ?_
    refine S.n ?_
    refine TC.ret ?_
    -- leaf 2 ret [h5: False] H=['q2', 'q4', 'r0']
    obtain rfl : g1 = l.length := by omega
    rw [inTo_all]
    exact retCellP 0 rfl ag57 sz57 rfl rfl rfl rfl
end Go.Proofs.YtnpbfjdpglfdkaaGreatDoor
end

section
namespace Go.E
open Go
structure IStore where
  rows : List (List Int)
  places : FM (List UInt8) Int
structure ITable where
  of : IStore
structure RTable where
  l : List (List Int)
def ITable.zero : ITable := ⟨⟨[], FM.emp⟩⟩
def RTable.zero : RTable := ⟨[]⟩
end Go.E
end

section
namespace Go.E
open Go
section
variable {β : Type} {E' E size : Nat} {enc : β → List Value} {v : Value}
theorem sees_nestX {σ : Store} {H : List Res} {q i : Nat} {z : List (NP β)} (hq : H[q]? = some (Res.nestX E' E size enc v z i)) (w : World) (h : Sees σ H w) : Sees σ [Res.rowS E' 1 encN v z] w :=
  ⟨h.1, fun r hr => by
    simp at hr; subst hr
    exact h.2 _ (List.mem_of_getElem? hq) _ (List.mem_cons_self ..)⟩
theorem isSl_nestX {σ : Store} {H : List Res} {q i : Nat} {z : List (NP β)} {l : List (List β)} (hq : H[q]? = some (Res.nestX E' E size enc v z i)) (hZ : Zn z l) (w : World) (h : Sees σ H w) : IsSl v l.length ∧ l.length ≤ 281474976710656 := by
  have := isSl_seen (H := H) (sees_nestX hq w h)
  rw [hZ.len] at this; exact this
end
theorem TC.drawR {X : Ctx} {Q : QP} {id : Nat} {ops : Array Oper} {e : Env} {σ : Store} {H Hr : List Res} (hs : ∀ r ∈ Hr, r ∈ H) (late : List Nat) (hm : X.P.follows .mixedOrders = true) (h : TA X ops Q σ Hr late ops.size (Array.replicate ops.size false) e σ H) (hnd : noDeferB ops = true := by kernel_rfl) : TC X Q (.region id ops true) e σ H := fun w a hw ha =>
  Go.wpIn_mono (wpIn_region_any hm (wpAny_of_late _ _ _ _ (h (noDefer_of hnd) w.drew a hw.drew (sees_of (Store.le.refl _) hs _ hw.drew.sees) (closed_start _ _) ha))) fun ex a w h => by
    cases ex <;> first | exact h | exact h.elim
section
variable {P : Program} {n : Nat} {e : Env} {σ : Store} {H : List Res} {o : Oper} {x y : Operand} {T T' : TypeId} {k : IntKind} {a b : Int}
theorem OpVal.quoW (ho : o.op = .binOp .quo T x y T') (hx : ev e x = .int k a) (hy : ev e y = .int k b) (h : b ≠ 0) : OpVal P n o e σ H (.int k (k.wrap (a.tdiv b))) := .bin ho hx hy fun w => by simp [binOp, Op.intDiv, h]
end
theorem OpVal.loadWordAt {P : Program} {n : Nat} {e : Env} {σ : Store} {H : List Res} {o : Oper} {x : Operand} {T b E i j off : Nat} {cs : Array Value} (s : BSet) (ho : o.op = .load T x) (hA : aggOf P T = some false) (hx : ev e x = loc b (off + i * 1)) (hi : H[j]? = some (Res.cells b cs E)) (hk : i < 4)
    (hc : (cs.toList.drop off).take 4 = s.vals) : OpVal P n o e σ H (.int .u64 ((s.word i : Nat) : Int)) := by
  refine OpVal.loadLoc ho hA hx hi ?_
  have h1 : ((cs.toList.drop off).take 4)[i]? = some (.int .u64 ((s.word i : Nat) : Int)) := by
    rw [hc]
    match i, hk with
    | 0, _ => rfl
    | 1, _ => rfl
    | 2, _ => rfl
    | 3, _ => rfl
  rw [List.getElem?_take, if_pos hk, List.getElem?_drop] at h1
  rw [Nat.mul_one]; simpa using h1
end Go.E
end

section
namespace Go.Proofs.YtnpbfjdpglfdkaaGreatDoor
open Go Go.E Go.E.OpVal Go.E.OpOk Go.Proofs.Tryz
private theorem ag130 : Go.E.aggOf Tryz.prog 130 = some false := by kernel_rfl
private theorem ag28 : Go.E.aggOf Tryz.prog 28 = some false := by kernel_rfl
private theorem by27 : Go.E.byOf Tryz.prog 27 = some 24 := by kernel_rfl
private theorem by5 : Go.E.byOf Tryz.prog 5 = some 1 := by kernel_rfl
private theorem fo138_0 : Go.E.foOf Tryz.prog 138 0 = some 0 := by kernel_rfl
private theorem fo138_1 : Go.E.foOf Tryz.prog 138 1 = some 1 := by kernel_rfl
private theorem fo140_0 : Go.E.foOf Tryz.prog 140 0 = some 0 := by kernel_rfl
private theorem pf50 : Go.E.plainF Tryz.prog 50 = true := by kernel_rfl
private theorem pf69 : Go.E.plainF Tryz.prog 69 = true := by kernel_rfl
private theorem pf70 : Go.E.plainF Tryz.prog 70 = true := by kernel_rfl
private theorem pf71 : Go.E.plainF Tryz.prog 71 = true := by kernel_rfl
private theorem pf72 : Go.E.plainF Tryz.prog 72 = true := by kernel_rfl
private theorem pf87 : Go.E.plainF Tryz.prog 87 = true := by kernel_rfl
private theorem pf90 : Go.E.plainF Tryz.prog 90 = true := by kernel_rfl
private theorem pf91 : Go.E.plainF Tryz.prog 91 = true := by kernel_rfl
private theorem pl138 : Go.E.plOf Tryz.prog 138 = some #[(0, 1), (1, 1)] := by kernel_rfl
private theorem pl140 : Go.E.plOf Tryz.prog 140 = some #[(0, 2)] := by kernel_rfl
private theorem sz27 : Go.E.szOf Tryz.prog 27 = some 1 := by kernel_rfl
private theorem sz28 : Go.E.szOf Tryz.prog 28 = some 1 := by kernel_rfl
private theorem ze138 : Go.E.zeroOf Tryz.prog 138 = some (.agg #[.slice none 0 0, .map none]) := by kernel_rfl
private theorem ze140 : Go.E.zeroOf Tryz.prog 140 = some (.agg #[.slice none 0 0, .map none]) := by kernel_rfl
private theorem ze27 : Go.E.zeroOf Tryz.prog 27 = some (.slice none 0 0) := by kernel_rfl
private theorem ze5 : Go.E.zeroOf Tryz.prog 5 = some (.int .u8 0) := by kernel_rfl
noncomputable def Fv_ (x0 : Int) : Option (Bool) :=
 some (decide (x0 ≠ x0))
theorem Ha_ {σ : Store} {x0 : Int}  {r : Bool} (hh : Fv_ x0 = some r) :
  Con Tryz.prog 91 #[.int .i64 x0] σ [] (PureP (.bool r) σ) := by
 dsimp only [Fv_] at hh
 refine Con.mk (n := 6) Tryz.func91 z z z (fun w0 => ?_)
 refine TC.a (TL.j z z (TL.en (TC.a (TL.i z z (TL.i z z (TL.w z (OpVal.neq z z z) (TL.j z z (TL.en (TC.ret ?_)))))))))
 obtain rfl := so hh
 exact rq [2] ⟨z, z, z⟩
noncomputable def Cj_ (x0 : Int) (x1 : Int) : Option (Int) :=
 bnd (Fv_ x0) (fun v3 => bnd (Fv_ x1) (fun v6 => iteO v3 (iteO v6 (some 0) (some (-1))) (iteO v6 (some 1) (iteO (decide (x0 < x1)) (some (-1)) (iteO (decide (x1 < x0)) (some 1) (some 0))))))
theorem Ct_ {σ : Store} {x0 : Int} {x1 : Int}  {r : Int} (hh : Cj_ x0 x1 = some r) :
  Con Tryz.prog 63 #[.int .i64 x0, .int .i64 x1] σ [] (PureP (.int .i64 r) σ) := by
 dsimp only [Cj_] at hh
 refine Con.mk (n := 20) Tryz.func63 z z z (fun w0 => ?_)
 refine TC.a (TL.i z z (TL.en (TC.a (TL.i z z ?_))))
 obtain ⟨v3, u3, hh⟩ := bnd_e hh
 refine TL.op z (callP (Ha_ u3) z z pf91 z z z ?_)
 refine TL.j z z (TL.en (TC.a (TL.i z z ?_)))
 obtain ⟨v6, u6, hh⟩ := bnd_e hh
 refine TL.op z (callP (Ha_ u6) z z pf91 z z z ?_)
 refine TL.j z z (TL.en (TC.seq (TC.a (TL.j z z (TL.en (TC.cB z hh (fun h101 hh => ?_) (fun h101 hh => ?_)))))))
 ·refine TC.seq (TC.a (TL.j z z (TL.en (TC.cB z hh (fun h102 hh => ?_) (fun h102 hh => ?_)))))
  ·refine TC.a (TL.i z z (TL.en (TC.ret (S.r (S.r ?_)))))
   obtain rfl := so hh
   exact rq [4] ⟨z, z, z⟩
  ·refine TC.skip (S.n (TC.a (TL.i z z (TL.en (TC.ret (S.r ?_))))))
   obtain rfl := so hh
   exact rq [4] ⟨z, z, z⟩
 ·refine TC.skip (S.n (TC.seq (TC.a (TL.j z z (TL.en (TC.cB z hh (fun h103 hh => ?_) (fun h103 hh => ?_)))))))
  ·refine TC.a (TL.i z z (TL.en (TC.ret (S.r ?_))))
   obtain rfl := so hh
   exact rq [4] ⟨z, z, z⟩
  ·refine TC.skip (S.n (TC.seq (TC.a (TL.i z z (TL.i z z (TL.w z (OpVal.lss z z z) (TL.en (TC.cD z hh (fun h104 hh => ?_) (fun h104 hh => ?_)))))))))
   ·refine TC.a (TL.i z z (TL.en (TC.ret (S.r ?_))))
    obtain rfl := so hh
    exact rq [4] ⟨z, z, z⟩
   ·refine TC.skip (S.n (TC.seq (TC.a (TL.i z z (TL.i z z (TL.w z (OpVal.gtr z z z) (TL.en (TC.cD z hh (fun h105 hh => ?_) (fun h105 hh => ?_)))))))))
    ·refine TC.a (TL.i z z (TL.en (TC.ret (S.r ?_))))
     obtain rfl := so hh
     exact rq [4] ⟨z, z, z⟩
    ·refine TC.skip (S.n (TC.a (TL.i z z (TL.en (TC.ret ?_)))))
     obtain rfl := so hh
     exact rq [4] ⟨z, z, z⟩
theorem G2_ {σ : Store} {a : Option Addr} {c : Nat} {l : List Int} (hl : RS σ 1 Go.E.encI (.slice a l.length c) l) (hsz : l.length * 8 ≤ 140737488355328) :
  Con Tryz.prog 50 #[.slice a l.length c] σ [] (RowP 3 1 Go.E.encI l σ) := by
 have hb := hl.rv.big
 refine Con.mk (n := 8) Tryz.func50 z z z (fun w0 => ?_)
 refine TC.a (TL.s z z (TL.nilS 3 1 Go.E.encI (TL.en (TC.seq (TC.a (TL.s z z (TL.w z (eqlNilSl z underlying27 z z) (TL.en (TC.cond z (fun h2 => ?_) (fun h2 => ?_))))))))))
 ·refine TC.a (TL.s z z (TL.nilS 3 1 Go.E.encI (TL.en (TC.ret (S.r ?_)))))
  cases a with
  | some _ => simp at h2
  | none =>
   obtain rfl := hl.none_nil
   exact ret1R z z
 ·refine TC.skip (S.n (TC.a (TL.op z (lit0 (enc := Go.E.encI) z z underlying27 sz3 z z (fun a4 c5 => ?_)))))
  refine TL.s z z (TL.op z (appendS z z underlying27 sz3 by3 ze3 z z (by decide) z z z (.inl hl) (by simpa using hsz) (by decide) (fun a7 c8 => ?_)))
  exact TL.s z z (TL.en (TC.ret (ret1R z z)))
noncomputable def Dm_ (k125 : Nat) (l128 : List Int) (k130 : Nat) : Option (((List Int) × Nat × Nat) ⊕ ((Nat) ⊕ ((List Int)))) :=
 nxt (l128, k130, (k125 + 1))
noncomputable def Dp_ (x0 : List Int) (k105 : Nat) (l122 : List Int) (k124 : Nat) (k125 : Nat) : Option (((List Int) × Nat × Nat) ⊕ ((Nat) ⊕ ((List Int)))) :=
 iteO (decide (((k125 : Nat) : Int) < (((x0.length - k105) : Nat) : Int))) (grd (k125 < (x0.length - k105)) (grd (0 ≤ (IntKind.i64.wrap (((k125 : Nat) : Int) - 1)) ∧ (IntKind.i64.wrap (((k125 : Nat) : Int) - 1)) < ((x0.length - k105) : Nat)) (iteO (decide ((nth l122 (k105 + k125) (0 : Int)) ≠ (nth l122 (k105 + (IntKind.i64.wrap (((k125 : Nat) : Int) - 1)).toNat) (0 : Int)))) (grd (k125 < (x0.length - k105)) (grd (k124 < l122.length) (Dm_ k125 (l122.set k124 (nth l122 (k105 + k125) (0 : Int))) (k124 + 1)))) (Dm_ k125 l122 k124)))) (fin (grd (k124 ≤ x0.length) (grd (k124 ≤ (l122.take k124 ++ List.replicate (l122.length - k124) (0 : Int)).length) (fin (some ((l122.take k124 ++ List.replicate (l122.length - k124) (0 : Int)).take k124))))))
noncomputable def Do_ (x0 : List Int) (k105 : Nat) : Option ((Nat) ⊕ ((List Int))) :=
 iteO (decide (((k105 : Nat) : Int) < ((x0.length : Nat) : Int))) (grd (0 ≤ (IntKind.i64.wrap (((k105 : Nat) : Int) - 1)) ∧ (IntKind.i64.wrap (((k105 : Nat) : Int) - 1)) < (x0.length : Int)) (iteO (decide ((nth x0 k105 (0 : Int)) = (nth x0 ((IntKind.i64.wrap (((k105 : Nat) : Int) - 1)).toNat) (0 : Int)))) (grd (k105 ≤ x0.length) (iter (fun q : (List Int) × Nat × Nat => Dp_ x0 k105 q.1 q.2.1 q.2.2) (x0, k105, 1))) (nxt (k105 + 1)))) (fin (some x0))
noncomputable def compactI (x0 : List Int) : Option ((List Int)) :=
 iteO (decide (((x0.length : Nat) : Int) < 2)) (some x0) (iter (fun q : Nat => Do_ x0 q) 1)
theorem Hg_ {σ : Store} {x0 : List Int} {a0_1 : Option Addr} {c0_2 : Nat}  {r : (List Int)} (hh : compactI x0 = some r) :
  Con Tryz.prog 90 #[.slice a0_1 x0.length c0_2] σ [Res.rowS 3 1 Go.E.encI (.slice a0_1 x0.length c0_2) x0] (fun v σ' H' => ∃ (a1 : Option Addr), ∃ (c1 : Nat), v = .slice a1 r.length c1 ∧ σ = σ' ∧ H' = [Res.rowS 3 1 Go.E.encI (.slice a1 r.length c1) r]) := by
 dsimp only [compactI] at hh
 refine Con.mk (n := 61) Tryz.func90 z z z (fun w0 => ?_)
 refine TC.a (TL.s z z (TL.en (TC.seq (TC.a (TL.s z z (TL.w z (lenC z underlying27 z) (TL.w z (OpVal.lss z z z) (TL.en (TC.cD z hh (fun h102 hh => ?_) (fun h102 hh => ?_))))))))))
 ·refine TC.a (TL.s z z (TL.s z z (TL.en (TC.ret (S.r ?_)))))
  obtain rfl := so hh
  exact ro [Res.rowS 3 1 Go.E.encI (.slice a0_1 x0.length c0_2) x0] z (RVs.tmp z RVs.nil) ⟨a0_1, c0_2, z, z, z⟩
 ·refine TC.skip (S.n (TC.seq (TC.a (TL.i z z (TL.en (TC.block (TC.loopG (α := (Nat) × (Unit)) (rgs [(2, 4), (10, 50)]) (fun g => [(3, .int .i64 ((g.1 : Nat) : Int))]) (fun g => [Res.rowS 3 1 Go.E.encI (.slice a0_1 x0.length c0_2) x0]) (fun g => σ) (fun g => iter (fun q : Nat => Do_ x0 q) g.1 = some r) (fun g => rounds (fun q : Nat => Do_ x0 q) g.1) (1, ()) (Sub.pre 1 z) z (by repeat (first | exact trivial | refine ⟨z, ?_⟩)) hh (fun g1 j1 hg1 => ?_))))))))
  obtain ⟨k105, _⟩ := g1
  have hh := hg1; clear hg1
  try dsimp only
  obtain ⟨z1, hh, hR1⟩ := iter_e hh
  dsimp only [Do_] at hh
  refine TC.isSl (i := 0) z (fun _ hb106 _ => ?_)
  refine TC.seq (TC.a (TL.i z z (TL.s z z (TL.w z (lenC z underlying27 z) (TL.w z (OpVal.lss z z z) (TL.en (TC.cD z hh (fun h107 hh => ?_) (fun h107 hh => ?_))))))))
  ·refine TC.skip (S.n (TC.seq (TC.block (TC.seq ?_))))
   have u19 := grd_c hh
   replace hh := grd_t hh
   refine TC.draw [] (by kernel_rfl) (TA.a 0 z (moveSl (.inl z) z) z (TA.a 1 z (moveI (.inl z) z) z (TA.isSl (i := 0) z (fun hs110 _ _ => ?_))))
   refine TA.b 2 z (indexN z underlying27 sz3 z z hs110 (by omega)) z (TA.b 3 z (loadO1 (0 : Int) z ag3 z (q := 0) z Go.E.encI_len (by omega) z) z (TA.a 4 z (moveSl (.inl z) z) z (TA.a 5 z (moveI (.inl z) z) z (TA.a 6 z (subW z z z) z (TA.isSl (i := 0) z (fun hs111 _ _ => ?_))))))
   refine TA.b 7 z (OpVal.index z underlying27 sz3 z z hs111 u19.1 u19.2) z (TA.b 8 z (loadO1 (0 : Int) z ag3 z (q := 0) z Go.E.encI_len (by omega) z) z (TA.a 9 z (OpVal.eql z z z) z (TA.dn (S.n (TC.cD z hh (fun h112 hh => ?_) (fun h112 hh => ?_))))))
   ·refine TC.a (TL.s z z (TL.i z z ?_))
    have u24 := grd_c hh
    replace hh := grd_t hh
    refine TL.isSl (i := 0) z (fun hs113 _ _ => ?_)
    obtain ⟨a113, c113, hv113, ho113⟩ := vw_of (k := k105) (size := 1) hs113 (by omega)
    refine TL.w z (ho113 z underlying27 sz3 z z) (TL.s z z (TL.en (TC.seq (TC.a (TL.i z z (TL.en (TC.block (TC.loopG (α := ((List Int) × Nat × Nat) × (Unit)) (rgs [(3, 1), (5, 1), (29, 25)]) (fun g => [(3, .int .i64 ((g.1.2.1 : Nat) : Int)), (5, .int .i64 ((g.1.2.2 : Nat) : Int))]) (fun g => [Res.rowS 3 1 Go.E.encI (.slice a0_1 x0.length c0_2) g.1.1]) (fun g => σ) (fun g => iter (fun q : (List Int) × Nat × Nat => Dp_ x0 k105 q.1 q.2.1 q.2.2) g.1 = some z1 ∧ g.1.1.length = x0.length) (fun g => rounds (fun q : (List Int) × Nat × Nat => Dp_ x0 k105 q.1 q.2.1 q.2.2) g.1) ((x0, k105, 1), ()) (Sub.pre 1 z) z (by repeat (first | exact trivial | refine ⟨z, ?_⟩)) ⟨hh, z⟩ (fun g2 j2 hg2 => ?_)))))))))
    obtain ⟨⟨l122, k124, k125⟩, _⟩ := g2
    obtain ⟨hh, hn123⟩ := hg2
    try dsimp only at hn123 ⊢
    obtain ⟨z2, hh, hR2⟩ := iter_e hh
    dsimp only [Dp_] at hh
    have hn123b := hn123
    refine TC.isSl (i := 0) z (fun _ hb126 _ => ?_)
    refine TC.seq (TC.a (TL.i z z (TL.s z z (TL.w z (lenC z underlying27 z) (TL.w z (OpVal.lss z z z) (TL.en (TC.cD z hh (fun h127 hh => ?_) (fun h127 hh => ?_))))))))
    ·refine TC.skip (S.n (TC.cutG (α := ((List Int) × Nat) × (Unit)) (rgs [(3, 1), (35, 19)]) (fun g => [(3, .int .i64 ((g.1.2 : Nat) : Int))]) (fun g => [Res.rowS 3 1 Go.E.encI (.slice a0_1 x0.length c0_2) g.1.1]) (fun g => σ) (fun g => Dm_ k125 g.1.1 g.1.2 = some z2 ∧ g.1.1.length = x0.length) ?_ (fun g j hg => ?_)))
     ·skip
      refine TC.block (TC.seq ?_)
      have u33 := grd_c hh
      replace hh := grd_t hh
      have u38 := grd_c hh
      replace hh := grd_t hh
      refine TC.draw [] (by kernel_rfl) (TA.a 0 z (moveSl (.inl z) z) z (TA.a 1 z (moveI (.inl z) z) z (TA.b 2 z (elVw hv113 (by omega) (indexN z underlying27 sz3 z z hv113.sl (by omega))) z (TA.b 3 z (loadO1 (0 : Int) z ag3 z (q := 0) z Go.E.encI_len (by omega) z) z (TA.a 4 z (moveSl (.inl z) z) z (TA.a 5 z (moveI (.inl z) z) z (TA.a 6 z (subW z z z) z (TA.b 7 z (elVw hv113 (by omega) (OpVal.index z underlying27 sz3 z z hv113.sl u38.1 u38.2)) z (TA.b 8 z (loadO1 (0 : Int) z ag3 z (q := 0) z Go.E.encI_len (by omega) z) z (TA.a 9 z (OpVal.neq z z z) z (TA.dn (S.n (TC.cD z hh (fun h131 hh => ?_) (fun h131 hh => ?_))))))))))))))
      ·refine TC.a (TL.s z z (TL.i z z (TL.s z z (TL.i z z ?_))))
       have u45 := grd_c hh
       replace hh := grd_t hh
       refine TL.w z (elVw hv113 (by omega) (indexN z underlying27 sz3 z z hv113.sl (by omega))) (TL.w z (loadO1 (0 : Int) z ag3 z (q := 0) z Go.E.encI_len (by omega) z) ?_)
       have u47 := grd_c hh
       replace hh := grd_t hh
       refine TL.isSl (i := 0) z (fun hs132 _ _ => ?_)
       refine TL.w z (indexN z underlying27 sz3 z z hs132 (by omega)) ?_
       have hn133 : (l122.set k124 (nth l122 (k105 + k125) (0 : Int))).length = x0.length := by rw [List.length_set]; exact hn123
       refine TL.op z (storeS (nth l122 (k105 + k125) (0 : Int)) z sz3 z z z z Go.E.encI_len Go.E.encI_one (by omega) (by omega) ?_)
       exact TL.en (TC.region (TL.i z z (TL.w z (OpVal.succ z z z (by omega)) (TL.i z z (TL.nil (B.n (S.n (cf (((l122.set k124 (nth l122 (k105 + k125) (0 : Int))), (k124 + 1)), ()) ⟨hh, hn133⟩ (Sub.pre 1 z)))))))))
      ·exact TC.skip (B.n (S.n (cf ((l122, k124), ()) ⟨hh, hn123⟩ (Sub.pre 1 z))))
     ·skip
      obtain ⟨⟨l128, k130⟩, _⟩ := g
      obtain ⟨hh, hn129⟩ := hg
      try dsimp only at hn129 ⊢
      dsimp only [Dm_] at hh
      have hn129b := hn129
      refine TC.isSl (i := 0) z (fun _ hb134 _ => ?_)
      refine TC.region (TL.i z z (TL.w z (OpVal.succ z z z (by omega)) (TL.i z z (TL.en ?_))))
      obtain ⟨hh, hlt135⟩ := nxt_x hR2 hh
      exact lf ((l128, k130, (k125 + 1)), ()) hlt135 ⟨hh, hn129⟩ (Sub.pre 1 z)
    ·refine TC.exit (S.x (S.x ?_))
     replace hh := fin_x hR2 hh
     refine TC.exitHere (S.n (TC.a (TL.s z z (TL.i z z ?_))))
     have u57 := grd_c hh
     replace hh := grd_t hh
     refine TL.isSl (i := 0) z (fun hs136 _ _ => ?_)
     rw [hn123] at hs136
     obtain ⟨a136, c136, hv136, ho136⟩ := vw_of (k := k124) (size := 1) hs136 (by omega)
     refine TL.w z (ho136 z underlying27 sz3 z z) ?_
     have hn137 : (l122.take k124 ++ List.replicate (l122.length - k124) (0 : Int)).length = x0.length := by simp only [List.length_append, List.length_take, List.length_replicate]; try simp only [List.length_replicate] at *; omega
     refine TL.op z (clearV (k := k124) (0 : Int) z underlying27 ze3 z z hv136 (by omega) (by omega) Go.E.encI_len (by decide) z Go.E.encI_one ?_)
     refine TL.en (TC.a (TL.s z z (TL.i z z ?_)))
     rw [← hn137]
     have u61 := grd_c hh
     replace hh := grd_t hh
     refine TL.op z (cutS z underlying27 sz3 z z z z z (by omega) Go.E.encI_len ?_)
     refine TL.s z z (TL.en (TC.ret (B.r (S.r (S.r ?_)))))
     replace hh := fin_x hR1 hh
     refine B.r (S.r ?_)
     obtain rfl := so hh
     exact ro [Res.rowS 3 1 Go.E.encI (.slice a0_1 ((l122.take k124 ++ List.replicate (l122.length - k124) (0 : Int)).take k124).length c0_2) ((l122.take k124 ++ List.replicate (l122.length - k124) (0 : Int)).take k124)] z (RVs.tmp z RVs.nil) ⟨a0_1, c0_2, z, z, z⟩
   ·refine TC.skip (B.n (S.n (TC.region (TL.i z z (TL.w z (OpVal.succ z z z (by omega)) (TL.i z z (TL.en ?_)))))))
    obtain ⟨hh, hlt138⟩ := nxt_x hR1 hh
    exact lf ((k105 + 1), ()) hlt138 hh (Sub.pre 1 z)
  ·refine TC.exit (S.x (S.x ?_))
   replace hh := fin_x hR1 hh
   refine TC.exitHere (S.n (TC.a (TL.s z z (TL.s z z (TL.en (TC.ret ?_))))))
   obtain rfl := so hh
   exact ro [Res.rowS 3 1 Go.E.encI (.slice a0_1 x0.length c0_2) x0] z (RVs.tmp z RVs.nil) ⟨a0_1, c0_2, z, z, z⟩
noncomputable def intern_Sort (x0 : List Int) : Option ((List Int)) :=
 grd (x0.length * 8 ≤ 140737488355328) (bnd (compactI (List.mergeSort x0 fun x y => decide (x ≤ y))) (fun v8 => some v8))
def intern_Sort_P (σ : Store) (r : (List Int)) : Value → Store → List Res → Prop := fun v σ' H' =>
 ∃ (a1 : Option Addr), ∃ (c1 : Nat),  v = .slice a1 r.length c1 ∧ σ = σ' ∧ H' = [Res.rowS 3 1 Go.E.encI (.slice a1 r.length c1) r]
theorem intern_Sort_con {σ : Store} {x0 : List Int} {a0_0 : Option Addr} {c0_0 : Nat} (f0_0 : RS σ 1 Go.E.encI (.slice a0_0 x0.length c0_0) x0) {r : (List Int)} (hh : intern_Sort x0 = some r) :
  Con Tryz.prog 69 #[.slice a0_0 x0.length c0_0] σ [] (intern_Sort_P σ r) := by
 dsimp only [intern_Sort] at hh
 have f0_0b := f0_0.rv.big
 refine Con.mk (n := 10) Tryz.func69 z z z (fun w0 => ?_)
 refine TC.a (TL.s z z (TL.en (TC.a (TL.s z z ?_))))
 have u3 := grd_c hh
 replace hh := grd_t hh
 refine TL.op z (OpOk.call (G2_ f0_0 u3) z z pf50 z z z z ?_)
 rintro _ _ _ _ ⟨⟨a101, c102, rfl⟩, rfl, rfl⟩
 refine TL.s z z (TL.en (TC.a (TL.s z z ?_)))
 have hn104 : (List.mergeSort x0 fun x y => decide (x ≤ y)).length = x0.length := List.length_mergeSort _
 refine TL.op z (OpOk.call (sortInt_con (l := x0)) z z pf87 z z z z ?_)
 rintro _ _ _ _ ⟨rfl, rfl, rfl⟩
 refine TL.en (TC.a (TL.s z z ?_))
 rw [← hn104]
 obtain ⟨v8, u8, hh⟩ := bnd_e hh
 refine TL.op z (OpOk.call (Hg_ u8) z z pf90 z z z z ?_)
 rintro _ _ _ hle105 ⟨a105_1, c105_2, rfl, rfl, rfl⟩
 refine TL.s z z (TL.en (TC.ret ?_))
 obtain rfl := so hh
 exact ro [Res.rowS 3 1 Go.E.encI (.slice a105_1 v8.length c105_2) v8] z (RVs.tmp z RVs.nil) ⟨a105_1, c105_2, z, z, z⟩
noncomputable def intern_key_b2 (x0 : List Int) (k115 : Nat) (l126 : List UInt8) (k129 : Nat) : Option (((List UInt8) × Nat) ⊕ (((List UInt8) × Nat) ⊕ ((List UInt8)))) :=
 iteO (decide (((k129 : Nat) : Int) < 8)) (grd (0 ≤ IntKind.i64.wrap (8 * ((k129 : Nat) : Int))) (grd ((l126.length + [(toU8 (((u64shr (u64of (nth x0 k115 (0 : Int))) ((IntKind.i64.wrap (8 * ((k129 : Nat) : Int))).toNat)) : Nat) : Int))].length) * 1 ≤ 140737488355328) (nxt ((l126 ++ [(toU8 (((u64shr (u64of (nth x0 k115 (0 : Int))) ((IntKind.i64.wrap (8 * ((k129 : Nat) : Int))).toNat)) : Nat) : Int))]), (k129 + 1))))) (fin (nxt (l126, (k115 + 1))))
noncomputable def intern_key_b1 (x0 : List Int) (l112 : List UInt8) (k115 : Nat) : Option (((List UInt8) × Nat) ⊕ ((List UInt8))) :=
 iteO (decide (((k115 : Nat) : Int) < ((x0.length : Nat) : Int))) (iter (fun q : (List UInt8) × Nat => intern_key_b2 x0 k115 q.1 q.2) (l112, 0)) (fin (some l112))
noncomputable def intern_key (x0 : List Int) : Option ((List UInt8)) :=
 grd (0 ≤ IntKind.i64.wrap (8 * ((x0.length : Nat) : Int)) ∧ 1 * (IntKind.i64.wrap (8 * ((x0.length : Nat) : Int))).toNat ≤ 281474976710656) (iter (fun q : (List UInt8) × Nat => intern_key_b1 x0 q.1 q.2) (([] : List UInt8), 0))
theorem intern_key_con {σ : Store} {x0 : List Int} {a0_0 : Option Addr} {c0_0 : Nat} (f0_0 : RS σ 1 Go.E.encI (.slice a0_0 x0.length c0_0) x0) {r : (List UInt8)} (hh : intern_key x0 = some r) :
  Con Tryz.prog 70 #[.slice a0_0 x0.length c0_0] σ [] (PureP (.string (bs r)) σ) := by
 dsimp only [intern_key] at hh
 have f0_0b := f0_0.rv.big
 refine Con.mk (n := 33) Tryz.func70 z z z (fun w0 => ?_)
 refine TC.a (TL.w z (moveStr (.inr z) z) (TL.en (TC.a (TL.s z z (TL.w z (lenC z underlying27 z) (TL.w z (mulW z z z) ?_))))))
 have u5 := grd_c hh
 replace hh := grd_t hh
 refine TL.op rfl (make0S (enc := encU8) (m := (IntKind.i64.wrap (8 * ((x0.length : Nat) : Int))).toNat) rfl underlying105 sz5 by5 ze5 rfl rfl rfl (by show Value.int _ _ = _; rw [Int.toNat_of_nonneg u5.1]) (by omega) (by decide) (fun a101 c102 => ?_))
 refine TL.s z z (TL.en (TC.seq (TC.a (TL.s z z (TL.w z (lenC z underlying27 z) (TL.i z z (TL.en (TC.block (TC.loopG (α := ((List UInt8) × Nat) × ((Option Addr) × Nat)) (rgs [(3, 1), (5, 2), (13, 18)]) (fun g => [(3, .slice g.2.1 g.1.1.length g.2.2), (13, .int .i64 ((g.1.2 : Nat) : Int))]) (fun g => [Res.rowS 5 1 encU8 (.slice g.2.1 g.1.1.length g.2.2) g.1.1]) (fun g => σ) (fun g => iter (fun q : (List UInt8) × Nat => intern_key_b1 x0 q.1 q.2) g.1 = some r) (fun g => rounds (fun q : (List UInt8) × Nat => intern_key_b1 x0 q.1 q.2) g.1) ((([] : List UInt8), 0), (a101, c102)) (Sub.pre 1 z) z (by repeat (first | exact trivial | refine ⟨z, ?_⟩)) hh (fun g1 j1 hg1 => ?_))))))))))
 obtain ⟨⟨l112, k115⟩, ⟨a113, c114⟩⟩ := g1
 have hh := hg1; clear hg1
 try dsimp only
 obtain ⟨z1, hh, hR1⟩ := iter_e hh
 dsimp only [intern_key_b1] at hh
 refine TC.isSl (i := 0) z (fun _ hb116 _ => ?_)
 refine TC.a (TL.w z (OpVal.lss z z z) (TL.en (TC.seq (TC.cD z hh (fun h117 hh => ?_) (fun h117 hh => ?_)))))
 ·refine TC.skip (S.n (TC.seq (TC.block (TC.a (TL.w z (indexN z underlying27 sz3 z z f0_0.rv.sl (by omega)) (TL.w z (loadS1 (0 : Int) z ag3 z f0_0 (by omega) z) (TL.i z z (TL.en (TC.a (TL.i z z (TL.en (TC.block (TC.loopG (α := ((List UInt8) × Nat) × ((Option Addr) × Nat)) (rgs [(3, 1), (6, 1), (17, 13)]) (fun g => [(3, .slice g.2.1 g.1.1.length g.2.2), (17, .int .i64 ((g.1.2 : Nat) : Int))]) (fun g => [Res.rowS 5 1 encU8 (.slice g.2.1 g.1.1.length g.2.2) g.1.1]) (fun g => σ) (fun g => iter (fun q : (List UInt8) × Nat => intern_key_b2 x0 k115 q.1 q.2) g.1 = some z1) (fun g => rounds (fun q : (List UInt8) × Nat => intern_key_b2 x0 k115 q.1 q.2) g.1) ((l112, 0), (a113, c114)) (Sub.pre 1 z) z (by repeat (first | exact trivial | refine ⟨z, ?_⟩)) hh (fun g2 j2 hg2 => ?_))))))))))))))
  obtain ⟨⟨l126, k129⟩, ⟨a127, c128⟩⟩ := g2
  have hh := hg2; clear hg2
  try dsimp only
  obtain ⟨z2, hh, hR2⟩ := iter_e hh
  dsimp only [intern_key_b2] at hh
  refine TC.isSl (i := 0) z (fun _ hb130 _ => ?_)
  refine TC.a (TL.w z (OpVal.lss z z z) (TL.en (TC.seq (TC.cD z hh (fun h131 hh => ?_) (fun h131 hh => ?_)))))
  ·refine TC.skip (S.n (TC.seq (TC.block (TC.a (TL.i z z (TL.i z z (TL.en (TC.region (TL.s z z (TL.i z z (TL.w z (convU z underlying3 underlying55 z) (TL.i z z (TL.w z (mulW z z z) ?_)))))))))))))
   have u23 := grd_c hh
   replace hh := grd_t hh
   refine TL.w rfl (shrU (b := (IntKind.i64.wrap (8 * ((k129 : Nat) : Int))).toNat) rfl rfl (by show Value.int _ _ = _; rw [Int.toNat_of_nonneg u23])) (TL.w z (convU8 z underlying55 underlying5 z) (TL.op z (OpOk.lit (enc := encU8) [(toU8 (((u64shr (u64of (nth x0 k115 (0 : Int))) ((IntKind.i64.wrap (8 * ((k129 : Nat) : Int))).toNat)) : Nat) : Int))] z underlying105 sz5 ze5 z z z encU8_len (by decide) (by decide) (0 : UInt8) z (by decide) z (by decide) encU8_one (fun a132 c133 => ?_))))
   refine TL.front 1 z z ?_
   have u26 := grd_c hh
   replace hh := grd_t hh
   refine TL.op z (appendS z z underlying105 sz5 by5 ze5 z z (by decide) z z z (.inr ⟨_, 0, z⟩) (by simpa using u26) (by decide) (fun a135 c136 => ?_))
   refine TL.s z z (TL.nil (B.n (S.n (TC.region (TL.w z (OpVal.succ z z z (by omega)) (TL.i z z (TL.en ?_)))))))
   obtain ⟨hh, hlt137⟩ := nxt_x hR2 hh
   exact lf (((l126 ++ [(toU8 (((u64shr (u64of (nth x0 k115 (0 : Int))) ((IntKind.i64.wrap (8 * ((k129 : Nat) : Int))).toNat)) : Nat) : Int))]), (k129 + 1)), (a135, c136)) hlt137 hh (Sub.pre 1 z)
  ·refine TC.exit (S.x (S.x ?_))
   replace hh := fin_x hR2 hh
   refine TC.exitHere (B.n (S.n (TC.region (TL.w z (OpVal.succ z z z (by omega)) (TL.i z z (TL.en ?_))))))
   obtain ⟨hh, hlt138⟩ := nxt_x hR1 hh
   exact lf ((l126, (k115 + 1)), (a127, c128)) hlt138 hh (Sub.pre 1 z)
 ·refine TC.exit (S.x (S.x ?_))
  replace hh := fin_x hR1 hh
  refine TC.exitHere (S.n (TC.a (TL.s z z (TL.isSl (i := 0) z (fun hs139 _ _ => ?_)))))
  refine TL.w z (bytesStr (l := l112) z underlying105 underlying5 underlying9 z hs139 (fun w hw => rdb_row (q := 0) z hw)) (TL.w z (moveStr (.inr z) z) (TL.en (TC.rt 0 ?_)))
  obtain rfl := so hh
  exact rq [2] ⟨z, z, z⟩
noncomputable def intern_store_string_find (x0 : IStore) (x1 : List UInt8) : Option (Int × Bool) :=
 grd (x1.length ≤ 281474976710656) (some ((x0.places.get x1 0), (x0.places.has x1)))
theorem intern_store_string_find_con {σ : Store} {x0 : IStore} {b0_0 : Nat} {Eb0 : Nat} {a0_1 : Option Addr} {c0_2 : Nat} {z0_3 : List (List Int × (pkSl 1 Go.E.encI Go.E.encI_len).P)} {b0_5 : Nat} {x1 : List UInt8} (zf0_4 : ZOk σ (pkSl 1 Go.E.encI Go.E.encI_len) z0_3 x0.rows) {r : Int × Bool} (hh : intern_store_string_find x0 x1 = some r) :
  Con Tryz.prog 71 #[loc b0_0 0, .string (bs x1)] σ [Res.cells b0_0 #[.slice a0_1 x0.rows.length c0_2, .map (some b0_5)] Eb0, Res.rowS 27 1 (pkSl 1 Go.E.encI Go.E.encI_len).en (.slice a0_1 x0.rows.length c0_2) z0_3, Res.mapB keyS keyI (some b0_5) x0.places] (fun v σ' H' => v = .tuple #[.int .i64 r.1, .bool r.2] ∧ σ = σ' ∧ H' = [Res.cells b0_0 #[.slice a0_1 x0.rows.length c0_2, .map (some b0_5)] Eb0, Res.rowS 27 1 (pkSl 1 Go.E.encI Go.E.encI_len).en (.slice a0_1 x0.rows.length c0_2) z0_3, Res.mapB keyS keyI (some b0_5) x0.places]) := by
 dsimp only [intern_store_string_find] at hh
 have zf0_4b := zf0_4.length
 refine Con.mk (n := 19) Tryz.func71 z z z (fun w0 => ?_)
 have x1b := grd_c hh
 replace hh := grd_t hh
 refine TC.a (TL.i z z (TL.j z z (TL.en (TC.a (TL.l z z (TL.w z (nilCheckLoc z z) (TL.w z (fieldLoc z fo138_1 z) (TL.w z (loadLoc z ag130 z (i := 0) z z) (TL.w z (moveStr (.inl z) z) (TL.w z (OpVal.of (lookB 0 (q := x1) z underlying130 ze3 z (i := 2) z z (keyL_str underlying9)) (v' := .tuple #[.int .i64 (x0.places.get x1 0), .bool (x0.places.has x1)]) z) (TL.w z (moveT (.inl z) z) (TL.w z (OpVal.extract z z z) (TL.w z (OpVal.extract z z z) (TL.i z z (TL.j z z (TL.en (TC.a (TL.i z z (TL.j z z (TL.i z z (TL.j z z (TL.en (TC.ret ?_)))))))))))))))))))))))
 obtain rfl := so hh
 exact ro [Res.cells b0_0 #[.slice a0_1 x0.rows.length c0_2, .map (some b0_5)] Eb0, Res.rowS 27 1 (pkSl 1 Go.E.encI Go.E.encI_len).en (.slice a0_1 x0.rows.length c0_2) z0_3, Res.mapB keyS keyI (some b0_5) x0.places] z (RVs.tmp z (RVs.tmp z RVs.nil)) ⟨z, z, z⟩
noncomputable def intern_store_string_add (x0 : IStore) (x1 : List UInt8) (x2 : List Int) : Option (Int × IStore) :=
 grd (x1.length ≤ 281474976710656) (grd ((x0.rows.length + [x2].length) * 24 ≤ 140737488355328) (some (((x0.rows.length : Nat) : Int), (⟨(x0.rows ++ [x2]), (x0.places.put x1 ((x0.rows.length : Nat) : Int))⟩ : IStore))))
theorem intern_store_string_add_con {σ : Store} {x0 : IStore} {b0_0 : Nat} {Eb0 : Nat} {a0_1 : Option Addr} {c0_2 : Nat} {z0_3 : List (List Int × (pkSl 1 Go.E.encI Go.E.encI_len).P)} {b0_5 : Nat} {x1 : List UInt8} {x2 : List Int} {a2_0 : Option Addr} {c2_0 : Nat} (zf0_4 : ZOk σ (pkSl 1 Go.E.encI Go.E.encI_len) z0_3 x0.rows) (f2_0 : RS σ 1 Go.E.encI (.slice a2_0 x2.length c2_0) x2) {r : Int × IStore} (hh : intern_store_string_add x0 x1 x2 = some r) :
  Con Tryz.prog 72 #[loc b0_0 0, .string (bs x1), .slice a2_0 x2.length c2_0] σ [Res.cells b0_0 #[.slice a0_1 x0.rows.length c0_2, .map (some b0_5)] Eb0, Res.rowS 27 1 (pkSl 1 Go.E.encI Go.E.encI_len).en (.slice a0_1 x0.rows.length c0_2) z0_3, Res.mapB keyS keyI (some b0_5) x0.places] (fun v σ' H' => ∃ (ao1 : Option Addr), ∃ (co2 : Nat), ∃ (zo3 : List (List Int × (pkSl 1 Go.E.encI Go.E.encI_len).P)), ∃ (bo5 : Nat), v = .int .i64 r.1 ∧ ZOk σ' (pkSl 1 Go.E.encI Go.E.encI_len) zo3 r.2.rows ∧ H' = [Res.cells b0_0 #[.slice ao1 r.2.rows.length co2, .map (some bo5)] Eb0, Res.rowS 27 1 (pkSl 1 Go.E.encI Go.E.encI_len).en (.slice ao1 r.2.rows.length co2) zo3, Res.mapB keyS keyI (some bo5) r.2.places]) := by
 dsimp only [intern_store_string_add] at hh
 have zf0_4b := zf0_4.length
 have f2_0b := f2_0.rv.big
 refine Con.mk (n := 30) Tryz.func72 z z z (fun w0 => ?_)
 have x1b := grd_c hh
 replace hh := grd_t hh
 refine TC.a (TL.i z z (TL.en (TC.a (TL.l z z (TL.w z (nilCheckLoc z z) (TL.w z (fieldLoc z fo138_0 z) (TL.w z (loadLoc z ag28 z (i := 0) z z) (TL.w z (lenC z underlying28 z) (TL.i z z (TL.en (TC.a (TL.l z z (TL.l z z (TL.w z (nilCheckLoc z z) (TL.w z (fieldLoc z fo138_0 z) (TL.w z (loadLoc z ag28 z (i := 0) z z) (TL.s z z ?_)))))))))))))))))
 have zf108 : ZOk _ (pkSl 1 Go.E.encI Go.E.encI_len) ([(x2, (a2_0, c2_0))] : List (List Int × (pkSl 1 Go.E.encI Go.E.encI_len).P)) [x2] := ZOk.cons (f2_0) (ZOk.nil _ _)
 refine TL.op z (litZ zf108 z underlying28 sz27 z ze27 z z z (by decide) (by decide) z (by decide) z (by decide) (fun a106 c107 => ?_))
 refine TL.front 2 z z ?_
 have u15 := grd_c hh
 replace hh := grd_t hh
 refine TL.op z (appendZ (k := (pkSl 1 Go.E.encI Go.E.encI_len)) zf0_4 zf108 z z underlying28 sz27 by27 ze27 z z (by decide) z z z (.inr ⟨_, 0, z⟩) (by simpa using u15) (by decide) (fun a110 c111 zf112 => ?_))
 refine TL.w z (nilCheckLoc z z) (TL.w z (fieldLoc z fo138_0 z) (TL.front 2 z z (TL.op z (storeSl z sz28 z z z z z ?_))))
 refine TL.en (TC.a (TL.l z z (TL.w z (nilCheckLoc z z) (TL.w z (fieldLoc z fo138_1 z) (TL.w z (loadLoc z ag130 z (i := 0) z z) (TL.w z (moveStr (.inl z) z) (TL.i z z (TL.front 3 z z (TL.op z (updB x1 ((x0.rows.length : Nat) : Int) z underlying130 z z z z (keyL_str underlying9) ?_))))))))))
 refine TL.en (TC.a (TL.i z z (TL.i z z (TL.en (TC.ofSub (Sub.f [2, 2] 3) (TC.ret ?_))))))
 obtain rfl := so hh
 exact ro [Res.cells b0_0 #[.slice a110 ((x0.rows ++ [x2]).length) c111, .map (some b0_5)] Eb0, Res.rowS 27 1 (pkSl 1 Go.E.encI Go.E.encI_len).en (.slice a110 (x0.rows ++ [x2]).length c111) (z0_3 ++ ([(x2, (a2_0, c2_0))] : List (List Int × (pkSl 1 Go.E.encI Go.E.encI_len).P))), Res.mapB keyS keyI (some b0_5) (x0.places.put x1 ((x0.rows.length : Nat) : Int))] z (RVs.tmp z RVs.nil) ⟨a110, c111, (z0_3 ++ ([(x2, (a2_0, c2_0))] : List (List Int × (pkSl 1 Go.E.encI Go.E.encI_len).P))), b0_5, z, zf112, z⟩
noncomputable def intern_New : Option (ITable) :=
 some (⟨(⟨([] : List (List Int)), (FM.emp : FM (List UInt8) Int)⟩ : IStore)⟩ : ITable)
theorem intern_New_con {σ : Store}   {r : ITable} (hh : intern_New = some r) :
  Con Tryz.prog 31 #[] σ [] (fun v σ' H' => ∃ (br6 : Nat), ∃ (ar1 : Option Addr), ∃ (cr2 : Nat), ∃ (zr3 : List (List Int × (pkSl 1 Go.E.encI Go.E.encI_len).P)), ∃ (br5 : Nat), v = loc br6 0 ∧ ZOk σ' (pkSl 1 Go.E.encI Go.E.encI_len) zr3 r.of.rows ∧ H' = [Res.cells br6 #[.slice ar1 r.of.rows.length cr2, .map (some br5)] 140, Res.rowS 27 1 (pkSl 1 Go.E.encI Go.E.encI_len).en (.slice ar1 r.of.rows.length cr2) zr3, Res.mapB keyS keyI (some br5) r.of.places]) := by
 dsimp only [intern_New] at hh
 refine Con.mk (n := 5) Tryz.func31 z z z (fun w0 => ?_)
 refine TC.a (TL.w z (movePtr (.inr z) z) (TL.en (TC.a (TL.op z (makeMapB (enc := keyS) (encV := keyI) z z z (fun b104 => ?_))))))
 refine TL.w z (buildL z pl138 ze138 z) (TL.w z (buildL z pl140 ze140 z) (TL.op z (boxA z z z z (fun b106 => ?_))))
 refine TL.l z z (TL.en (TC.nilS 27 1 (pkSl 1 Go.E.encI Go.E.encI_len).en ?_))
 have zf108 := ZOk.nil σ (pkSl 1 Go.E.encI Go.E.encI_len)
 refine TC.ofSub (Sub.f [2, 1, 2] 3) (TC.ret ?_)
 obtain rfl := so hh
 exact ro [Res.cells b106 #[.slice none (([] : List (List Int)).length) 0, .map (some b104)] 140, Res.rowS 27 1 (pkSl 1 Go.E.encI Go.E.encI_len).en (.slice none ([] : List (List Int)).length 0) [], Res.mapB keyS keyI (some b104) (FM.emp : FM (List UInt8) Int)] z (RVs.tmp z RVs.nil) ⟨b106, none, 0, [], b104, z, zf108, z⟩
noncomputable def intern_Table_Put (x0 : ITable) (x1 : List Int) : Option (Int × Bool × Int × ITable) :=
 bnd (intern_Sort x1) (fun v10 => bnd (intern_key v10) (fun v13 => bnd (intern_store_string_find (⟨x0.of.rows, x0.of.places⟩ : IStore) v13) (fun v19 => iteO v19.2 (some (v19.1, false, 0, (⟨(⟨x0.of.rows, x0.of.places⟩ : IStore)⟩ : ITable))) (iteO (decide (4096 ≤ ((x0.of.rows.length : Nat) : Int))) (some (0, false, 2, (⟨(⟨x0.of.rows, x0.of.places⟩ : IStore)⟩ : ITable))) (bnd (intern_store_string_add (⟨x0.of.rows, x0.of.places⟩ : IStore) v13 v10) (fun v45 => some (v45.1, true, 0, (⟨(⟨v45.2.rows, v45.2.places⟩ : IStore)⟩ : ITable))))))))
theorem intern_Table_Put_con {σ : Store} {x0 : ITable} {b0_0 : Nat} {Eb0 : Nat} {a0_1 : Option Addr} {c0_2 : Nat} {z0_3 : List (List Int × (pkSl 1 Go.E.encI Go.E.encI_len).P)} {b0_5 : Nat} {x1 : List Int} {a1_0 : Option Addr} {c1_0 : Nat} (zf0_4 : ZOk σ (pkSl 1 Go.E.encI Go.E.encI_len) z0_3 x0.of.rows) (f1_0 : RS σ 1 Go.E.encI (.slice a1_0 x1.length c1_0) x1) {r : Int × Bool × Int × ITable} (hh : intern_Table_Put x0 x1 = some r) :
  Con Tryz.prog 32 #[loc b0_0 0, .slice a1_0 x1.length c1_0] σ [Res.cells b0_0 #[.slice a0_1 x0.of.rows.length c0_2, .map (some b0_5)] Eb0, Res.rowS 27 1 (pkSl 1 Go.E.encI Go.E.encI_len).en (.slice a0_1 x0.of.rows.length c0_2) z0_3, Res.mapB keyS keyI (some b0_5) x0.of.places] (fun v σ' H' => ∃ (ao1 : Option Addr), ∃ (co2 : Nat), ∃ (zo3 : List (List Int × (pkSl 1 Go.E.encI Go.E.encI_len).P)), ∃ (bo5 : Nat), v = .tuple #[.int .i64 r.1, .bool r.2.1, .int .i64 r.2.2.1] ∧ ZOk σ' (pkSl 1 Go.E.encI Go.E.encI_len) zo3 r.2.2.2.of.rows ∧ H' = [Res.cells b0_0 #[.slice ao1 r.2.2.2.of.rows.length co2, .map (some bo5)] Eb0, Res.rowS 27 1 (pkSl 1 Go.E.encI Go.E.encI_len).en (.slice ao1 r.2.2.2.of.rows.length co2) zo3, Res.mapB keyS keyI (some bo5) r.2.2.2.of.places]) := by
 dsimp only [intern_Table_Put] at hh
 have zf0_4b := zf0_4.length
 have f1_0b := f1_0.rv.big
 refine Con.mk (n := 40) Tryz.func32 z z z (fun w0 => ?_)
 refine TC.a (TL.i z z (TL.j z z (TL.i z z (TL.en (TC.seq (TC.a (TL.l z z (TL.w z (eqlNil z underlying87 z z) (TL.en (TC.f z (TC.skip (S.n (TC.a (TL.s z z ?_))))))))))))))
 obtain ⟨v10, u10, hh⟩ := bnd_e hh
 refine TL.op z (OpOk.call (intern_Sort_con f1_0 u10) z z pf69 z z z z ?_)
 rintro _ _ _ hle106 ⟨a106_1, c106_1, rfl, rfl, rfl⟩
 refine TL.s z z (TL.en (TC.a (TL.s z z ?_)))
 obtain ⟨v13, u13, hh⟩ := bnd_e hh
 refine TL.op z (callK (Con.lend Go.E.encI_len (fun _ hle109 hr108 => intern_key_con hr108 u13)) z z pf70 z z z z ?_)
 refine TL.w z (moveStr (.inr z) z) (TL.en (TC.seq (TC.a (TL.l z z (TL.w z (nilCheckLoc z z) (TL.w z (fieldLoc z fo140_0 z) (TL.w z (moveStr (.inl z) z) (TL.front 3 z z (TL.front 3 z z (TL.front 3 z z ?_))))))))))
 obtain ⟨v19, u19, hh⟩ := bnd_e hh
 refine TL.op z (OpOk.call (intern_store_string_find_con zf0_4 u19) z z pf71 z z z z ?_)
 rintro _ _ _ hle110 ⟨rfl, rfl, rfl⟩
 refine TL.w z (moveT (.inl z) z) (TL.w z (OpVal.extract z z z) (TL.w z (OpVal.extract z z z) (TL.i z z (TL.j z z (TL.en (TC.a (TL.j z z (TL.en (TC.cB z hh (fun h111 hh => ?_) (fun h111 hh => ?_))))))))))
 ·refine TC.a (TL.i z z (TL.i z z (TL.j z z (TL.i z z (TL.en (TC.ofSub (Sub.f [2, 2, 2] 3) (TC.ret (S.r ?_))))))))
  obtain rfl := so hh
  exact ro [Res.cells b0_0 #[.slice a0_1 x0.of.rows.length c0_2, .map (some b0_5)] Eb0, Res.rowS 27 1 (pkSl 1 Go.E.encI Go.E.encI_len).en (.slice a0_1 x0.of.rows.length c0_2) z0_3, Res.mapB keyS keyI (some b0_5) x0.of.places] z (RVs.tmp z (RVs.tmp z (RVs.tmp z RVs.nil))) ⟨a0_1, c0_2, z0_3, b0_5, z, zf0_4, z⟩
 ·refine TC.skip (S.n (TC.seq (TC.a (TL.l z z (TL.w z (nilCheckLoc z z) (TL.w z (fieldLoc z fo140_0 z) (TL.w z (fieldLoc z fo138_0 z) (TL.w z (loadLoc z ag28 z (i := 0) z z) (TL.w z (lenC z underlying28 z) (TL.w z (OpVal.geq z z z) (TL.en (TC.cD z hh (fun h112 hh => ?_) (fun h112 hh => ?_)))))))))))))
  ·refine TC.a (TL.i z z (TL.j z z (TL.i z z (TL.en (TC.ofSub (Sub.f [2, 2, 2] 3) (TC.ret (S.r ?_)))))))
   obtain rfl := so hh
   exact ro [Res.cells b0_0 #[.slice a0_1 x0.of.rows.length c0_2, .map (some b0_5)] Eb0, Res.rowS 27 1 (pkSl 1 Go.E.encI Go.E.encI_len).en (.slice a0_1 x0.of.rows.length c0_2) z0_3, Res.mapB keyS keyI (some b0_5) x0.of.places] z (RVs.tmp z (RVs.tmp z (RVs.tmp z RVs.nil))) ⟨a0_1, c0_2, z0_3, b0_5, z, zf0_4, z⟩
  ·refine TC.skip (S.n (TC.a (TL.l z z (TL.w z (nilCheckLoc z z) (TL.w z (fieldLoc z fo140_0 z) (TL.w z (moveStr (.inl z) z) (TL.s z z (TL.front 3 z z (TL.sealS Go.E.encI_len (fun τ115 hle114 hr113 => ?_))))))))))
   replace zf0_4 := zf0_4.mono hle114
   have hr113b := hr113.rv.big
   refine TL.front 2 z z (TL.front 2 z z (TL.front 2 z z ?_))
   obtain ⟨v45, u45, hh⟩ := bnd_e hh
   refine TL.op z (OpOk.call (intern_store_string_add_con zf0_4 hr113 u45) z z pf72 z z z z ?_)
   rintro _ τ116 _ hle116 ⟨a116_1, c116_2, z116_3, b116_5, rfl, zf116_4, rfl⟩
   have zf116_4b := zf116_4.length
   refine TL.i z z (TL.j z z (TL.i z z (TL.en (TC.ret ?_))))
   obtain rfl := so hh
   exact ro [Res.cells b0_0 #[.slice a116_1 v45.2.rows.length c116_2, .map (some b116_5)] Eb0, Res.rowS 27 1 (pkSl 1 Go.E.encI Go.E.encI_len).en (.slice a116_1 v45.2.rows.length c116_2) z116_3, Res.mapB keyS keyI (some b116_5) v45.2.places] z (RVs.tmp z (RVs.tmp z (RVs.tmp z RVs.nil))) ⟨a116_1, c116_2, z116_3, b116_5, z, zf116_4, z⟩
noncomputable def intern_Table_Row (x0 : ITable) (x1 : Int) : Option ((List Int) × Int) :=
 iteO (decide (x1 < 0)) (some (([] : List Int), 1)) (iteO (decide (((x0.of.rows.length : Nat) : Int) ≤ x1)) (some (([] : List Int), 1)) (grd (0 ≤ x1 ∧ x1 < (x0.of.rows.length : Int)) (grd ((nth x0.of.rows x1.toNat ([] : List Int)).length * 8 ≤ 140737488355328) (some ((nth x0.of.rows x1.toNat ([] : List Int)), 0)))))
theorem intern_Table_Row_con {σ : Store} {x0 : ITable} {b0_0 : Nat} {Eb0 : Nat} {a0_1 : Option Addr} {c0_2 : Nat} {z0_3 : List (List Int × (pkSl 1 Go.E.encI Go.E.encI_len).P)} {b0_5 : Nat} {x1 : Int} (zf0_4 : ZOk σ (pkSl 1 Go.E.encI Go.E.encI_len) z0_3 x0.of.rows) {r : (List Int) × Int} (hh : intern_Table_Row x0 x1 = some r) :
  Con Tryz.prog 34 #[loc b0_0 0, .int .i64 x1] σ [Res.cells b0_0 #[.slice a0_1 x0.of.rows.length c0_2, .map (some b0_5)] Eb0, Res.rowS 27 1 (pkSl 1 Go.E.encI Go.E.encI_len).en (.slice a0_1 x0.of.rows.length c0_2) z0_3, Res.mapB keyS keyI (some b0_5) x0.of.places] (fun v σ' H' => ∃ (a1 : Option Addr), ∃ (c1 : Nat), v = .tuple #[.slice a1 r.1.length c1, .int .i64 r.2] ∧ σ = σ' ∧ H' = [Res.rowS 3 1 Go.E.encI (.slice a1 r.1.length c1) r.1, Res.cells b0_0 #[.slice a0_1 x0.of.rows.length c0_2, .map (some b0_5)] Eb0, Res.rowS 27 1 (pkSl 1 Go.E.encI Go.E.encI_len).en (.slice a0_1 x0.of.rows.length c0_2) z0_3, Res.mapB keyS keyI (some b0_5) x0.of.places]) := by
 dsimp only [intern_Table_Row] at hh
 have zf0_4b := zf0_4.length
 refine Con.mk (n := 29) Tryz.func34 z z z (fun w0 => ?_)
 refine TC.a (TL.s z z (TL.i z z (TL.en (TC.seq (TC.a (TL.l z z (TL.w z (eqlNil z underlying87 z z) (TL.en (TC.f z (TC.skip (S.n (TC.seq (TC.a (TL.i z z (TL.w z (OpVal.lss z z z) (TL.j z z (TL.split 10 z (fun h104 => ?_) (fun h104 => ?_))))))))))))))))))
 ·replace hh := iteO_t h104 hh
  replace h104 := of_decide_eq_true h104
  refine TL.f z (TL.f z (TL.f z (TL.f z (TL.f z (TL.f z (TL.f z (TL.f z (TL.w z (pickTB z z z) (TL.en (TC.t z (TC.a (TL.s z z (TL.i z z (TL.en (TC.nilS 3 1 Go.E.encI (TC.ret (S.r ?_)))))))))))))))))
  obtain rfl := so hh
  exact ro [Res.rowS 3 1 Go.E.encI (.slice none ([] : List Int).length 0) ([] : List Int), Res.cells b0_0 #[.slice a0_1 x0.of.rows.length c0_2, .map (some b0_5)] Eb0, Res.rowS 27 1 (pkSl 1 Go.E.encI Go.E.encI_len).en (.slice a0_1 x0.of.rows.length c0_2) z0_3, Res.mapB keyS keyI (some b0_5) x0.of.places] z (RVs.tmp z (RVs.tmp z RVs.nil)) ⟨none, 0, z, z, z⟩
 ·replace hh := iteO_f h104 hh
  replace h104 := of_decide_eq_false h104
  refine TL.g z (moveI (.inl z) z) (TL.g z (moveLoc (.inl z) z) (TL.g z (nilCheckLoc z z) (TL.g z (fieldLoc z fo140_0 z) (TL.g z (fieldLoc z fo138_0 z) (TL.g z (loadLoc z ag28 z (i := 0) z z) (TL.g z (lenC z underlying28 z) (TL.g z (OpVal.geq z z z) (TL.w z (pickFB z z z) (TL.en (TC.cD z hh (fun h106 hh => ?_) (fun h106 hh => ?_)))))))))))
  ·refine TC.a (TL.s z z (TL.i z z (TL.en (TC.nilS 3 1 Go.E.encI (TC.ret (S.r ?_))))))
   obtain rfl := so hh
   exact ro [Res.rowS 3 1 Go.E.encI (.slice none ([] : List Int).length 0) ([] : List Int), Res.cells b0_0 #[.slice a0_1 x0.of.rows.length c0_2, .map (some b0_5)] Eb0, Res.rowS 27 1 (pkSl 1 Go.E.encI Go.E.encI_len).en (.slice a0_1 x0.of.rows.length c0_2) z0_3, Res.mapB keyS keyI (some b0_5) x0.of.places] z (RVs.tmp z (RVs.tmp z RVs.nil)) ⟨none, 0, z, z, z⟩
  ·refine TC.skip (S.n (TC.a (TL.l z z (TL.w z (nilCheckLoc z z) (TL.w z (fieldLoc z fo140_0 z) (TL.w z (fieldLoc z fo138_0 z) (TL.w z (loadLoc z ag28 z (i := 0) z z) (TL.i z z ?_))))))))
   have u27 := grd_c hh
   replace hh := grd_t hh
   refine TL.isSl (i := 1) z (fun hs108 _ _ => ?_)
   refine TL.w z (OpVal.index z underlying28 sz27 z z (zf0_4.isSl hs108) u27.1 u27.2) ?_
   obtain ⟨p109, hp109⟩ : ∃ p, p = (nth z0_3 x1.toNat ((pkSl 1 Go.E.encI Go.E.encI_len).d, (pkSl 1 Go.E.encI Go.E.encI_len).dp)).2 := ⟨_, rfl⟩
   have hk109 : RS σ 1 Go.E.encI (.slice p109.1 (nth x0.of.rows x1.toNat ([] : List Int)).length p109.2) (nth x0.of.rows x1.toNat ([] : List Int)) := by rw [hp109]; exact (zf0_4.at (by omega)).2
   refine TL.w z (OpVal.of (hp109 ▸ loadOZ1 zf0_4 z ag27 z (q := 1) z (by omega) z) (v' := .slice p109.1 ((nth x0.of.rows x1.toNat ([] : List Int)).length) p109.2) z) ?_
   have u29 := grd_c hh
   replace hh := grd_t hh
   refine TL.op z (OpOk.call (G2_ hk109 u29) z z pf50 z z z z ?_)
   rintro _ _ _ _ ⟨⟨a110, c111, rfl⟩, rfl, rfl⟩
   refine TL.s z z (TL.i z z (TL.en (TC.ret ?_)))
   obtain rfl := so hh
   exact ro [Res.rowS 3 1 Go.E.encI (.slice a110 (nth x0.of.rows x1.toNat ([] : List Int)).length c111) (nth x0.of.rows x1.toNat ([] : List Int)), Res.cells b0_0 #[.slice a0_1 x0.of.rows.length c0_2, .map (some b0_5)] Eb0, Res.rowS 27 1 (pkSl 1 Go.E.encI Go.E.encI_len).en (.slice a0_1 x0.of.rows.length c0_2) z0_3, Res.mapB keyS keyI (some b0_5) x0.of.places] z (RVs.tmp z (RVs.tmp z RVs.nil)) ⟨a110, c111, z, z, z⟩
noncomputable def putKeep (x0 : ITable) (x1 : List Int) : Option (Int × Bool × Int × ITable) :=
 bnd (intern_Sort x1) (fun v10 => bnd (intern_key v10) (fun v13 => bnd (intern_store_string_find (⟨x0.of.rows, x0.of.places⟩ : IStore) v13) (fun v19 => iteO v19.2 (some (v19.1, false, 0, (⟨(⟨x0.of.rows, x0.of.places⟩ : IStore)⟩ : ITable))) (iteO (decide (4096 ≤ ((x0.of.rows.length : Nat) : Int))) (some (0, false, 2, (⟨(⟨x0.of.rows, x0.of.places⟩ : IStore)⟩ : ITable))) (bnd (intern_store_string_add (⟨x0.of.rows, x0.of.places⟩ : IStore) v13 v10) (fun v45 => some (v45.1, true, 0, (⟨(⟨v45.2.rows, v45.2.places⟩ : IStore)⟩ : ITable))))))))
theorem putKeep_con {σ : Store} {x0 : ITable} {b0_0 : Nat} {Eb0 : Nat} {a0_1 : Option Addr} {c0_2 : Nat} {z0_3 : List (List Int × (pkSl 1 Go.E.encI Go.E.encI_len).P)} {b0_5 : Nat} {x1 : List Int} {a1_1 : Option Addr} {c1_2 : Nat} (zf0_4 : ZOk σ (pkSl 1 Go.E.encI Go.E.encI_len) z0_3 x0.of.rows) {r : Int × Bool × Int × ITable} (hh : putKeep x0 x1 = some r) :
  Con Tryz.prog 32 #[loc b0_0 0, .slice a1_1 x1.length c1_2] σ [Res.cells b0_0 #[.slice a0_1 x0.of.rows.length c0_2, .map (some b0_5)] Eb0, Res.rowS 27 1 (pkSl 1 Go.E.encI Go.E.encI_len).en (.slice a0_1 x0.of.rows.length c0_2) z0_3, Res.mapB keyS keyI (some b0_5) x0.of.places, Res.rowS 3 1 Go.E.encI (.slice a1_1 x1.length c1_2) x1] (fun v σ' H' => ∃ (ao1 : Option Addr), ∃ (co2 : Nat), ∃ (zo3 : List (List Int × (pkSl 1 Go.E.encI Go.E.encI_len).P)), ∃ (bo5 : Nat), v = .tuple #[.int .i64 r.1, .bool r.2.1, .int .i64 r.2.2.1] ∧ ZOk σ' (pkSl 1 Go.E.encI Go.E.encI_len) zo3 r.2.2.2.of.rows ∧ H' = [Res.cells b0_0 #[.slice ao1 r.2.2.2.of.rows.length co2, .map (some bo5)] Eb0, Res.rowS 27 1 (pkSl 1 Go.E.encI Go.E.encI_len).en (.slice ao1 r.2.2.2.of.rows.length co2) zo3, Res.mapB keyS keyI (some bo5) r.2.2.2.of.places, Res.rowS 3 1 Go.E.encI (.slice a1_1 x1.length c1_2) x1]) := by
 dsimp only [putKeep] at hh
 have zf0_4b := zf0_4.length
 refine Con.mk (n := 40) Tryz.func32 z z z (fun w0 => ?_)
 refine TC.a (TL.i z z (TL.j z z (TL.i z z (TL.en (TC.seq (TC.a (TL.l z z (TL.w z (eqlNil z underlying87 z z) (TL.en (TC.f z (TC.skip (S.n (TC.a (TL.s z z (TL.front 3 z z ?_)))))))))))))))
 obtain ⟨v10, u10, hh⟩ := bnd_e hh
 refine TL.op rfl (OpOk.call (Con.lendG (Post := fun τ => intern_Sort_P τ v10) Go.E.encI_len (by rintro τ τ' r σ' H' ⟨g0, g1, rfl, rfl, rfl⟩; exact ⟨rfl, g0, g1, rfl, rfl, rfl⟩) (fun _ hle_ hr_ => intern_Sort_con hr_ u10)) rfl rfl pf69 rfl rfl rfl rfl ?_)
 rintro _ _ _ hle107 ⟨_, ⟨a107_1, c107_1, rfl, rfl, rfl⟩, rfl⟩
 refine TL.s z z (TL.en (TC.a (TL.s z z ?_)))
 obtain ⟨v13, u13, hh⟩ := bnd_e hh
 refine TL.op z (callK (Con.lend Go.E.encI_len (fun _ hle110 hr109 => intern_key_con hr109 u13)) z z pf70 z z z z ?_)
 refine TL.w z (moveStr (.inr z) z) (TL.en (TC.seq (TC.a (TL.l z z (TL.w z (nilCheckLoc z z) (TL.w z (fieldLoc z fo140_0 z) (TL.w z (moveStr (.inl z) z) (TL.front 4 z z (TL.front 4 z z (TL.front 4 z z ?_))))))))))
 obtain ⟨v19, u19, hh⟩ := bnd_e hh
 refine TL.op z (OpOk.call (intern_store_string_find_con zf0_4 u19) z z pf71 z z z z ?_)
 rintro _ _ _ hle111 ⟨rfl, rfl, rfl⟩
 refine TL.w z (moveT (.inl z) z) (TL.w z (OpVal.extract z z z) (TL.w z (OpVal.extract z z z) (TL.i z z (TL.j z z (TL.en (TC.a (TL.j z z (TL.en (TC.cB z hh (fun h112 hh => ?_) (fun h112 hh => ?_))))))))))
 ·refine TC.a (TL.i z z (TL.i z z (TL.j z z (TL.i z z (TL.en (TC.ofSub (Sub.f [4, 3, 3, 3] 4) (TC.ret (S.r ?_))))))))
  obtain rfl := so hh
  exact ro [Res.cells b0_0 #[.slice a0_1 x0.of.rows.length c0_2, .map (some b0_5)] Eb0, Res.rowS 27 1 (pkSl 1 Go.E.encI Go.E.encI_len).en (.slice a0_1 x0.of.rows.length c0_2) z0_3, Res.mapB keyS keyI (some b0_5) x0.of.places, Res.rowS 3 1 Go.E.encI (.slice a1_1 x1.length c1_2) x1] z (RVs.tmp z (RVs.tmp z (RVs.tmp z RVs.nil))) ⟨a0_1, c0_2, z0_3, b0_5, z, zf0_4, z⟩
 ·refine TC.skip (S.n (TC.seq (TC.a (TL.l z z (TL.w z (nilCheckLoc z z) (TL.w z (fieldLoc z fo140_0 z) (TL.w z (fieldLoc z fo138_0 z) (TL.w z (loadLoc z ag28 z (i := 0) z z) (TL.w z (lenC z underlying28 z) (TL.w z (OpVal.geq z z z) (TL.en (TC.cD z hh (fun h113 hh => ?_) (fun h113 hh => ?_)))))))))))))
  ·refine TC.a (TL.i z z (TL.j z z (TL.i z z (TL.en (TC.ofSub (Sub.f [4, 3, 3, 3] 4) (TC.ret (S.r ?_)))))))
   obtain rfl := so hh
   exact ro [Res.cells b0_0 #[.slice a0_1 x0.of.rows.length c0_2, .map (some b0_5)] Eb0, Res.rowS 27 1 (pkSl 1 Go.E.encI Go.E.encI_len).en (.slice a0_1 x0.of.rows.length c0_2) z0_3, Res.mapB keyS keyI (some b0_5) x0.of.places, Res.rowS 3 1 Go.E.encI (.slice a1_1 x1.length c1_2) x1] z (RVs.tmp z (RVs.tmp z (RVs.tmp z RVs.nil))) ⟨a0_1, c0_2, z0_3, b0_5, z, zf0_4, z⟩
  ·refine TC.skip (S.n (TC.a (TL.l z z (TL.w z (nilCheckLoc z z) (TL.w z (fieldLoc z fo140_0 z) (TL.w z (moveStr (.inl z) z) (TL.s z z (TL.front 3 z z (TL.sealS Go.E.encI_len (fun τ116 hle115 hr114 => ?_))))))))))
   replace zf0_4 := zf0_4.mono hle115
   have hr114b := hr114.rv.big
   refine TL.front 2 z z (TL.front 2 z z (TL.front 2 z z ?_))
   obtain ⟨v45, u45, hh⟩ := bnd_e hh
   refine TL.op z (OpOk.call (intern_store_string_add_con zf0_4 hr114 u45) z z pf72 z z z z ?_)
   rintro _ τ117 _ hle117 ⟨a117_1, c117_2, z117_3, b117_5, rfl, zf117_4, rfl⟩
   have zf117_4b := zf117_4.length
   refine TL.i z z (TL.j z z (TL.i z z (TL.en (TC.ret ?_))))
   obtain rfl := so hh
   exact ro [Res.cells b0_0 #[.slice a117_1 v45.2.rows.length c117_2, .map (some b117_5)] Eb0, Res.rowS 27 1 (pkSl 1 Go.E.encI Go.E.encI_len).en (.slice a117_1 v45.2.rows.length c117_2) z117_3, Res.mapB keyS keyI (some b117_5) v45.2.places, Res.rowS 3 1 Go.E.encI (.slice a1_1 x1.length c1_2) x1] z (RVs.tmp z (RVs.tmp z (RVs.tmp z RVs.nil))) ⟨a117_1, c117_2, z117_3, b117_5, z, zf117_4, z⟩
noncomputable def intern_Table_Size (x0 : ITable) : Option (Int) :=
 some ((x0.of.rows.length : Nat) : Int)
theorem intern_Table_Size_con {σ : Store} {x0 : ITable} {b0_0 : Nat} {Eb0 : Nat} {a0_1 : Option Addr} {c0_2 : Nat} {z0_3 : List (List Int × (pkSl 1 Go.E.encI Go.E.encI_len).P)} {b0_5 : Nat} (zf0_4 : ZOk σ (pkSl 1 Go.E.encI Go.E.encI_len) z0_3 x0.of.rows) {r : Int} (hh : intern_Table_Size x0 = some r) :
  Con Tryz.prog 33 #[loc b0_0 0] σ [Res.cells b0_0 #[.slice a0_1 x0.of.rows.length c0_2, .map (some b0_5)] Eb0, Res.rowS 27 1 (pkSl 1 Go.E.encI Go.E.encI_len).en (.slice a0_1 x0.of.rows.length c0_2) z0_3, Res.mapB keyS keyI (some b0_5) x0.of.places] (fun v σ' H' => v = .int .i64 r ∧ σ = σ' ∧ H' = [Res.cells b0_0 #[.slice a0_1 x0.of.rows.length c0_2, .map (some b0_5)] Eb0, Res.rowS 27 1 (pkSl 1 Go.E.encI Go.E.encI_len).en (.slice a0_1 x0.of.rows.length c0_2) z0_3, Res.mapB keyS keyI (some b0_5) x0.of.places]) := by
 dsimp only [intern_Table_Size] at hh
 have zf0_4b := zf0_4.length
 refine Con.mk (n := 11) Tryz.func33 z z z (fun w0 => ?_)
 refine TC.a (TL.i z z (TL.en (TC.seq (TC.a (TL.l z z (TL.w z (eqlNil z underlying87 z z) (TL.en (TC.f z (TC.skip (S.n (TC.a (TL.l z z (TL.w z (nilCheckLoc z z) (TL.w z (fieldLoc z fo140_0 z) (TL.w z (fieldLoc z fo138_0 z) (TL.w z (loadLoc z ag28 z (i := 0) z z) (TL.w z (lenC z underlying28 z) (TL.i z z (TL.en (TC.ret ?_))))))))))))))))))))
 obtain rfl := so hh
 exact ro [Res.cells b0_0 #[.slice a0_1 x0.of.rows.length c0_2, .map (some b0_5)] Eb0, Res.rowS 27 1 (pkSl 1 Go.E.encI Go.E.encI_len).en (.slice a0_1 x0.of.rows.length c0_2) z0_3, Res.mapB keyS keyI (some b0_5) x0.of.places] z (RVs.tmp z RVs.nil) ⟨z, z, z⟩
end Go.Proofs.YtnpbfjdpglfdkaaGreatDoor
end

section
namespace Go.Proofs.YtnpbfjdpglfdkaaGreatDoor
open Go Go.Shelf
def layS_ren : Go.Shelf.Ren := ⟨fun | 6 => 45 | 15 => 78 | 14 => 77 | 28 => 101 | 29 => 102 | 20 => 93 | 21 => 94 | 22 => 95 | 23 => 96 | 24 => 97 | 25 => 98 | 26 => 99 | 27 => 100 | 46 => 116 | 47 => 117 | 48 => 118 | 49 => 119 | 50 => 120 | 57 => 141 | n => n, fun | 22 => 35 | 24 => 9 | 25 => 70 | 3 => 3 | 39 => 150 | 0 => 0 | 53 => 169 | 55 => 55 | 4 => 4 | 46 => 163 | 45 => 162 | 50 => 132 | 5 => 5 | 9 => 9 | 66 => 183 | 70 => 187 | 76 => 202 | 77 => 203 | n => n, fun | n => n⟩
theorem layS : Go.Proofs.SlLaysF.n6 Tryz.prog layS_ren := {
  mixed := by kernel_rfl,
  f6 := ⟨Tryz.f45.name, by decide, Tryz.func45.trans (congrArg some (by kernel_rfl))⟩,
  f14 := ⟨Tryz.f77.name, by decide, Tryz.func77.trans (congrArg some (by kernel_rfl))⟩,
  f15 := Tryz.func78.trans (congrArg some (by kernel_rfl)),
  f20 := ⟨Tryz.f93.name, by decide, Tryz.func93.trans (congrArg some (by kernel_rfl))⟩,
  f21 := ⟨Tryz.f94.name, by decide, Tryz.func94.trans (congrArg some (by kernel_rfl))⟩,
  f22 := ⟨Tryz.f95.name, by decide, Tryz.func95.trans (congrArg some (by kernel_rfl))⟩,
  f23 := ⟨Tryz.f96.name, by decide, Tryz.func96.trans (congrArg some (by kernel_rfl))⟩,
  f24 := ⟨Tryz.f97.name, by decide, Tryz.func97.trans (congrArg some (by kernel_rfl))⟩,
  f25 := ⟨Tryz.f98.name, by decide, Tryz.func98.trans (congrArg some (by kernel_rfl))⟩,
  f26 := ⟨Tryz.f99.name, by decide, Tryz.func99.trans (congrArg some (by kernel_rfl))⟩,
  f27 := ⟨Tryz.f100.name, by decide, Tryz.func100.trans (congrArg some (by kernel_rfl))⟩,
  f28 := Tryz.func101.trans (congrArg some (by kernel_rfl)),
  f29 := Tryz.func102.trans (congrArg some (by kernel_rfl)),
  f46 := ⟨Tryz.f116.name, by decide, Tryz.func116.trans (congrArg some (by kernel_rfl))⟩,
  f47 := Tryz.func117.trans (congrArg some (by kernel_rfl)),
  f48 := Tryz.func118.trans (congrArg some (by kernel_rfl)),
  f49 := ⟨Tryz.f119.name, by decide, Tryz.func119.trans (congrArg some (by kernel_rfl))⟩,
  f50 := ⟨Tryz.f120.name, by decide, Tryz.func120.trans (congrArg some (by kernel_rfl))⟩,
  f57 := ⟨Tryz.f141.name, by decide, Tryz.func141.trans (congrArg some (by kernel_rfl))⟩,
  t0 := Tryz.underlying0,
  a0 := Tryz.isAgg0,
  z0 := Tryz.sizeOf0,
  v0 := Tryz.zeroValue0,
  t3 := Tryz.underlying3,
  a3 := Tryz.isAgg3,
  z3 := Tryz.sizeOf3,
  v3 := Tryz.zeroValue3,
  t4 := Tryz.underlying4,
  a4 := Tryz.isAgg4,
  z4 := Tryz.sizeOf4,
  v4 := Tryz.zeroValue4,
  t5 := Tryz.underlying5,
  a5 := Tryz.isAgg5,
  z5 := Tryz.sizeOf5,
  v5 := Tryz.zeroValue5,
  t9 := Tryz.underlying9,
  a9 := Tryz.isAgg9,
  z9 := Tryz.sizeOf9,
  v9 := Tryz.zeroValue9,
  t22 := Tryz.underlying35,
  a22 := Tryz.isAgg35,
  z22 := Tryz.sizeOf35,
  v22 := Tryz.zeroValue35,
  a24 := Tryz.isAgg9,
  z24 := Tryz.sizeOf9,
  t25 := Tryz.underlying70,
  a25 := Tryz.isAgg70,
  z25 := Tryz.sizeOf70,
  v25 := Tryz.zeroValue70,
  t39 := Tryz.underlying150,
  a39 := Tryz.isAgg150,
  z39 := Tryz.sizeOf150,
  v39 := Tryz.zeroValue150,
  t45 := Tryz.underlying162,
  a45 := Tryz.isAgg162,
  z45 := Tryz.sizeOf162,
  v45 := Tryz.zeroValue162,
  t46 := Tryz.underlying163,
  a46 := Tryz.isAgg163,
  z46 := Tryz.sizeOf163,
  v46 := Tryz.zeroValue163,
  t50 := Tryz.underlying132,
  a50 := Tryz.isAgg132,
  z50 := Tryz.sizeOf132,
  v50 := Tryz.zeroValue132,
  t53 := Tryz.underlying169,
  a53 := Tryz.isAgg169,
  z53 := Tryz.sizeOf169,
  v53 := Tryz.zeroValue169,
  t55 := Tryz.underlying55,
  a55 := Tryz.isAgg55,
  z55 := Tryz.sizeOf55,
  v55 := Tryz.zeroValue55,
  t66 := Tryz.underlying183,
  a66 := Tryz.isAgg183,
  z66 := Tryz.sizeOf183,
  v66 := Tryz.zeroValue183,
  t70 := Tryz.underlying187,
  a70 := Tryz.isAgg187,
  z70 := Tryz.sizeOf187,
  v70 := Tryz.zeroValue187,
  t76 := Tryz.underlying202,
  a76 := Tryz.isAgg202,
  z76 := Tryz.sizeOf202,
  v76 := Tryz.zeroValue202,
  t77 := Tryz.underlying203,
  a77 := Tryz.isAgg203,
  z77 := Tryz.sizeOf203,
  v77 := Tryz.zeroValue203 }
def layS0_ren : Go.Shelf.Ren := ⟨fun | 6 => 45 | 15 => 78 | 14 => 77 | 28 => 101 | 29 => 102 | 20 => 93 | 21 => 94 | 22 => 95 | 23 => 96 | 24 => 97 | 25 => 98 | 26 => 99 | 27 => 100 | 46 => 116 | 47 => 117 | 48 => 118 | 49 => 119 | 50 => 120 | 57 => 141 | n => n, fun | 22 => 35 | 24 => 9 | 25 => 70 | 3 => 3 | 39 => 150 | 0 => 0 | 53 => 169 | 55 => 55 | 4 => 4 | 46 => 163 | 45 => 162 | 50 => 132 | 5 => 5 | 9 => 9 | 66 => 183 | 70 => 187 | 76 => 202 | 77 => 203 | n => n, fun | n => n⟩
theorem layS0 : Go.Proofs.SlLaysF0.n6 Tryz.prog layS0_ren := {
  mixed := by kernel_rfl,
  f6 := ⟨Tryz.f45.name, by decide, Tryz.func45.trans (congrArg some (by kernel_rfl))⟩,
  f14 := ⟨Tryz.f77.name, by decide, Tryz.func77.trans (congrArg some (by kernel_rfl))⟩,
  f15 := Tryz.func78.trans (congrArg some (by kernel_rfl)),
  f20 := ⟨Tryz.f93.name, by decide, Tryz.func93.trans (congrArg some (by kernel_rfl))⟩,
  f21 := ⟨Tryz.f94.name, by decide, Tryz.func94.trans (congrArg some (by kernel_rfl))⟩,
  f22 := ⟨Tryz.f95.name, by decide, Tryz.func95.trans (congrArg some (by kernel_rfl))⟩,
  f23 := ⟨Tryz.f96.name, by decide, Tryz.func96.trans (congrArg some (by kernel_rfl))⟩,
  f24 := ⟨Tryz.f97.name, by decide, Tryz.func97.trans (congrArg some (by kernel_rfl))⟩,
  f25 := ⟨Tryz.f98.name, by decide, Tryz.func98.trans (congrArg some (by kernel_rfl))⟩,
  f26 := ⟨Tryz.f99.name, by decide, Tryz.func99.trans (congrArg some (by kernel_rfl))⟩,
  f27 := ⟨Tryz.f100.name, by decide, Tryz.func100.trans (congrArg some (by kernel_rfl))⟩,
  f28 := Tryz.func101.trans (congrArg some (by kernel_rfl)),
  f29 := Tryz.func102.trans (congrArg some (by kernel_rfl)),
  f46 := ⟨Tryz.f116.name, by decide, Tryz.func116.trans (congrArg some (by kernel_rfl))⟩,
  f47 := Tryz.func117.trans (congrArg some (by kernel_rfl)),
  f48 := Tryz.func118.trans (congrArg some (by kernel_rfl)),
  f49 := ⟨Tryz.f119.name, by decide, Tryz.func119.trans (congrArg some (by kernel_rfl))⟩,
  f50 := ⟨Tryz.f120.name, by decide, Tryz.func120.trans (congrArg some (by kernel_rfl))⟩,
  f57 := ⟨Tryz.f141.name, by decide, Tryz.func141.trans (congrArg some (by kernel_rfl))⟩,
  t0 := Tryz.underlying0,
  a0 := Tryz.isAgg0,
  z0 := Tryz.sizeOf0,
  v0 := Tryz.zeroValue0,
  t3 := Tryz.underlying3,
  a3 := Tryz.isAgg3,
  z3 := Tryz.sizeOf3,
  v3 := Tryz.zeroValue3,
  t4 := Tryz.underlying4,
  a4 := Tryz.isAgg4,
  z4 := Tryz.sizeOf4,
  v4 := Tryz.zeroValue4,
  t5 := Tryz.underlying5,
  a5 := Tryz.isAgg5,
  z5 := Tryz.sizeOf5,
  v5 := Tryz.zeroValue5,
  t9 := Tryz.underlying9,
  a9 := Tryz.isAgg9,
  z9 := Tryz.sizeOf9,
  v9 := Tryz.zeroValue9,
  t22 := Tryz.underlying35,
  a22 := Tryz.isAgg35,
  z22 := Tryz.sizeOf35,
  v22 := Tryz.zeroValue35,
  t25 := Tryz.underlying70,
  a25 := Tryz.isAgg70,
  z25 := Tryz.sizeOf70,
  v25 := Tryz.zeroValue70,
  t39 := Tryz.underlying150,
  a39 := Tryz.isAgg150,
  z39 := Tryz.sizeOf150,
  v39 := Tryz.zeroValue150,
  t45 := Tryz.underlying162,
  a45 := Tryz.isAgg162,
  z45 := Tryz.sizeOf162,
  v45 := Tryz.zeroValue162,
  t46 := Tryz.underlying163,
  a46 := Tryz.isAgg163,
  z46 := Tryz.sizeOf163,
  v46 := Tryz.zeroValue163,
  t50 := Tryz.underlying132,
  a50 := Tryz.isAgg132,
  z50 := Tryz.sizeOf132,
  v50 := Tryz.zeroValue132,
  t53 := Tryz.underlying169,
  a53 := Tryz.isAgg169,
  z53 := Tryz.sizeOf169,
  v53 := Tryz.zeroValue169,
  t55 := Tryz.underlying55,
  a55 := Tryz.isAgg55,
  z55 := Tryz.sizeOf55,
  v55 := Tryz.zeroValue55,
  t66 := Tryz.underlying183,
  a66 := Tryz.isAgg183,
  z66 := Tryz.sizeOf183,
  v66 := Tryz.zeroValue183,
  t70 := Tryz.underlying187,
  a70 := Tryz.isAgg187,
  z70 := Tryz.sizeOf187,
  v70 := Tryz.zeroValue187,
  t76 := Tryz.underlying202,
  a76 := Tryz.isAgg202,
  z76 := Tryz.sizeOf202,
  v76 := Tryz.zeroValue202,
  t77 := Tryz.underlying203,
  a77 := Tryz.isAgg203,
  z77 := Tryz.sizeOf203,
  v77 := Tryz.zeroValue203 }
def layI_ren : Go.Shelf.Ren := ⟨fun | 6 => 89 | 15 => 78 | 14 => 115 | 28 => 101 | 29 => 102 | 20 => 133 | 21 => 134 | 22 => 135 | 23 => 136 | 24 => 137 | 25 => 138 | 26 => 139 | 27 => 140 | 46 => 162 | 47 => 117 | 48 => 118 | 49 => 163 | 50 => 164 | 57 => 172 | n => n, fun | 22 => 27 | 24 => 3 | 25 => 128 | 3 => 3 | 39 => 150 | 0 => 0 | 53 => 169 | 55 => 55 | 4 => 4 | 46 => 163 | 45 => 162 | 50 => 132 | 5 => 5 | 9 => 9 | 66 => 183 | 70 => 187 | 76 => 202 | 77 => 203 | n => n, fun | n => n⟩
theorem layI : Go.Proofs.SlLaysF.n6 Tryz.prog layI_ren := {
  mixed := by kernel_rfl,
  f6 := ⟨Tryz.f89.name, by decide, Tryz.func89.trans (congrArg some (by kernel_rfl))⟩,
  f14 := ⟨Tryz.f115.name, by decide, Tryz.func115.trans (congrArg some (by kernel_rfl))⟩,
  f15 := Tryz.func78.trans (congrArg some (by kernel_rfl)),
  f20 := ⟨Tryz.f133.name, by decide, Tryz.func133.trans (congrArg some (by kernel_rfl))⟩,
  f21 := ⟨Tryz.f134.name, by decide, Tryz.func134.trans (congrArg some (by kernel_rfl))⟩,
  f22 := ⟨Tryz.f135.name, by decide, Tryz.func135.trans (congrArg some (by kernel_rfl))⟩,
  f23 := ⟨Tryz.f136.name, by decide, Tryz.func136.trans (congrArg some (by kernel_rfl))⟩,
  f24 := ⟨Tryz.f137.name, by decide, Tryz.func137.trans (congrArg some (by kernel_rfl))⟩,
  f25 := ⟨Tryz.f138.name, by decide, Tryz.func138.trans (congrArg some (by kernel_rfl))⟩,
  f26 := ⟨Tryz.f139.name, by decide, Tryz.func139.trans (congrArg some (by kernel_rfl))⟩,
  f27 := ⟨Tryz.f140.name, by decide, Tryz.func140.trans (congrArg some (by kernel_rfl))⟩,
  f28 := Tryz.func101.trans (congrArg some (by kernel_rfl)),
  f29 := Tryz.func102.trans (congrArg some (by kernel_rfl)),
  f46 := ⟨Tryz.f162.name, by decide, Tryz.func162.trans (congrArg some (by kernel_rfl))⟩,
  f47 := Tryz.func117.trans (congrArg some (by kernel_rfl)),
  f48 := Tryz.func118.trans (congrArg some (by kernel_rfl)),
  f49 := ⟨Tryz.f163.name, by decide, Tryz.func163.trans (congrArg some (by kernel_rfl))⟩,
  f50 := ⟨Tryz.f164.name, by decide, Tryz.func164.trans (congrArg some (by kernel_rfl))⟩,
  f57 := ⟨Tryz.f172.name, by decide, Tryz.func172.trans (congrArg some (by kernel_rfl))⟩,
  t0 := Tryz.underlying0,
  a0 := Tryz.isAgg0,
  z0 := Tryz.sizeOf0,
  v0 := Tryz.zeroValue0,
  t3 := Tryz.underlying3,
  a3 := Tryz.isAgg3,
  z3 := Tryz.sizeOf3,
  v3 := Tryz.zeroValue3,
  t4 := Tryz.underlying4,
  a4 := Tryz.isAgg4,
  z4 := Tryz.sizeOf4,
  v4 := Tryz.zeroValue4,
  t5 := Tryz.underlying5,
  a5 := Tryz.isAgg5,
  z5 := Tryz.sizeOf5,
  v5 := Tryz.zeroValue5,
  t9 := Tryz.underlying9,
  a9 := Tryz.isAgg9,
  z9 := Tryz.sizeOf9,
  v9 := Tryz.zeroValue9,
  t22 := Tryz.underlying27,
  a22 := Tryz.isAgg27,
  z22 := Tryz.sizeOf27,
  v22 := Tryz.zeroValue27,
  a24 := Tryz.isAgg3,
  z24 := Tryz.sizeOf3,
  t25 := Tryz.underlying128,
  a25 := Tryz.isAgg128,
  z25 := Tryz.sizeOf128,
  v25 := Tryz.zeroValue128,
  t39 := Tryz.underlying150,
  a39 := Tryz.isAgg150,
  z39 := Tryz.sizeOf150,
  v39 := Tryz.zeroValue150,
  t45 := Tryz.underlying162,
  a45 := Tryz.isAgg162,
  z45 := Tryz.sizeOf162,
  v45 := Tryz.zeroValue162,
  t46 := Tryz.underlying163,
  a46 := Tryz.isAgg163,
  z46 := Tryz.sizeOf163,
  v46 := Tryz.zeroValue163,
  t50 := Tryz.underlying132,
  a50 := Tryz.isAgg132,
  z50 := Tryz.sizeOf132,
  v50 := Tryz.zeroValue132,
  t53 := Tryz.underlying169,
  a53 := Tryz.isAgg169,
  z53 := Tryz.sizeOf169,
  v53 := Tryz.zeroValue169,
  t55 := Tryz.underlying55,
  a55 := Tryz.isAgg55,
  z55 := Tryz.sizeOf55,
  v55 := Tryz.zeroValue55,
  t66 := Tryz.underlying183,
  a66 := Tryz.isAgg183,
  z66 := Tryz.sizeOf183,
  v66 := Tryz.zeroValue183,
  t70 := Tryz.underlying187,
  a70 := Tryz.isAgg187,
  z70 := Tryz.sizeOf187,
  v70 := Tryz.zeroValue187,
  t76 := Tryz.underlying202,
  a76 := Tryz.isAgg202,
  z76 := Tryz.sizeOf202,
  v76 := Tryz.zeroValue202,
  t77 := Tryz.underlying203,
  a77 := Tryz.isAgg203,
  z77 := Tryz.sizeOf203,
  v77 := Tryz.zeroValue203 }
def layI0_ren : Go.Shelf.Ren := ⟨fun | 6 => 89 | 15 => 78 | 14 => 115 | 28 => 101 | 29 => 102 | 20 => 133 | 21 => 134 | 22 => 135 | 23 => 136 | 24 => 137 | 25 => 138 | 26 => 139 | 27 => 140 | 46 => 162 | 47 => 117 | 48 => 118 | 49 => 163 | 50 => 164 | 57 => 172 | n => n, fun | 22 => 27 | 24 => 3 | 25 => 128 | 3 => 3 | 39 => 150 | 0 => 0 | 53 => 169 | 55 => 55 | 4 => 4 | 46 => 163 | 45 => 162 | 50 => 132 | 5 => 5 | 9 => 9 | 66 => 183 | 70 => 187 | 76 => 202 | 77 => 203 | n => n, fun | n => n⟩
theorem layI0 : Go.Proofs.SlLaysF0.n6 Tryz.prog layI0_ren := {
  mixed := by kernel_rfl,
  f6 := ⟨Tryz.f89.name, by decide, Tryz.func89.trans (congrArg some (by kernel_rfl))⟩,
  f14 := ⟨Tryz.f115.name, by decide, Tryz.func115.trans (congrArg some (by kernel_rfl))⟩,
  f15 := Tryz.func78.trans (congrArg some (by kernel_rfl)),
  f20 := ⟨Tryz.f133.name, by decide, Tryz.func133.trans (congrArg some (by kernel_rfl))⟩,
  f21 := ⟨Tryz.f134.name, by decide, Tryz.func134.trans (congrArg some (by kernel_rfl))⟩,
  f22 := ⟨Tryz.f135.name, by decide, Tryz.func135.trans (congrArg some (by kernel_rfl))⟩,
  f23 := ⟨Tryz.f136.name, by decide, Tryz.func136.trans (congrArg some (by kernel_rfl))⟩,
  f24 := ⟨Tryz.f137.name, by decide, Tryz.func137.trans (congrArg some (by kernel_rfl))⟩,
  f25 := ⟨Tryz.f138.name, by decide, Tryz.func138.trans (congrArg some (by kernel_rfl))⟩,
  f26 := ⟨Tryz.f139.name, by decide, Tryz.func139.trans (congrArg some (by kernel_rfl))⟩,
  f27 := ⟨Tryz.f140.name, by decide, Tryz.func140.trans (congrArg some (by kernel_rfl))⟩,
  f28 := Tryz.func101.trans (congrArg some (by kernel_rfl)),
  f29 := Tryz.func102.trans (congrArg some (by kernel_rfl)),
  f46 := ⟨Tryz.f162.name, by decide, Tryz.func162.trans (congrArg some (by kernel_rfl))⟩,
  f47 := Tryz.func117.trans (congrArg some (by kernel_rfl)),
  f48 := Tryz.func118.trans (congrArg some (by kernel_rfl)),
  f49 := ⟨Tryz.f163.name, by decide, Tryz.func163.trans (congrArg some (by kernel_rfl))⟩,
  f50 := ⟨Tryz.f164.name, by decide, Tryz.func164.trans (congrArg some (by kernel_rfl))⟩,
  f57 := ⟨Tryz.f172.name, by decide, Tryz.func172.trans (congrArg some (by kernel_rfl))⟩,
  t0 := Tryz.underlying0,
  a0 := Tryz.isAgg0,
  z0 := Tryz.sizeOf0,
  v0 := Tryz.zeroValue0,
  t3 := Tryz.underlying3,
  a3 := Tryz.isAgg3,
  z3 := Tryz.sizeOf3,
  v3 := Tryz.zeroValue3,
  t4 := Tryz.underlying4,
  a4 := Tryz.isAgg4,
  z4 := Tryz.sizeOf4,
  v4 := Tryz.zeroValue4,
  t5 := Tryz.underlying5,
  a5 := Tryz.isAgg5,
  z5 := Tryz.sizeOf5,
  v5 := Tryz.zeroValue5,
  t9 := Tryz.underlying9,
  a9 := Tryz.isAgg9,
  z9 := Tryz.sizeOf9,
  v9 := Tryz.zeroValue9,
  t22 := Tryz.underlying27,
  a22 := Tryz.isAgg27,
  z22 := Tryz.sizeOf27,
  v22 := Tryz.zeroValue27,
  t25 := Tryz.underlying128,
  a25 := Tryz.isAgg128,
  z25 := Tryz.sizeOf128,
  v25 := Tryz.zeroValue128,
  t39 := Tryz.underlying150,
  a39 := Tryz.isAgg150,
  z39 := Tryz.sizeOf150,
  v39 := Tryz.zeroValue150,
  t45 := Tryz.underlying162,
  a45 := Tryz.isAgg162,
  z45 := Tryz.sizeOf162,
  v45 := Tryz.zeroValue162,
  t46 := Tryz.underlying163,
  a46 := Tryz.isAgg163,
  z46 := Tryz.sizeOf163,
  v46 := Tryz.zeroValue163,
  t50 := Tryz.underlying132,
  a50 := Tryz.isAgg132,
  z50 := Tryz.sizeOf132,
  v50 := Tryz.zeroValue132,
  t53 := Tryz.underlying169,
  a53 := Tryz.isAgg169,
  z53 := Tryz.sizeOf169,
  v53 := Tryz.zeroValue169,
  t55 := Tryz.underlying55,
  a55 := Tryz.isAgg55,
  z55 := Tryz.sizeOf55,
  v55 := Tryz.zeroValue55,
  t66 := Tryz.underlying183,
  a66 := Tryz.isAgg183,
  z66 := Tryz.sizeOf183,
  v66 := Tryz.zeroValue183,
  t70 := Tryz.underlying187,
  a70 := Tryz.isAgg187,
  z70 := Tryz.sizeOf187,
  v70 := Tryz.zeroValue187,
  t76 := Tryz.underlying202,
  a76 := Tryz.isAgg202,
  z76 := Tryz.sizeOf202,
  v76 := Tryz.zeroValue202,
  t77 := Tryz.underlying203,
  a77 := Tryz.isAgg203,
  z77 := Tryz.sizeOf203,
  v77 := Tryz.zeroValue203 }
def layT0_ren : Go.Shelf.Ren := ⟨fun | 6 => 105 | 15 => 78 | 14 => 121 | 28 => 101 | 29 => 102 | 20 => 142 | 21 => 143 | 22 => 144 | 23 => 145 | 24 => 146 | 25 => 147 | 26 => 148 | 27 => 149 | 46 => 165 | 47 => 117 | 48 => 118 | 49 => 166 | 50 => 167 | 57 => 173 | n => n, fun | 22 => 22 | 24 => 62 | 25 => 154 | 3 => 3 | 39 => 150 | 0 => 0 | 53 => 169 | 55 => 55 | 4 => 4 | 46 => 163 | 45 => 162 | 50 => 132 | 5 => 5 | 9 => 9 | 66 => 183 | 70 => 187 | 76 => 202 | 77 => 203 | n => n, fun | n => n⟩
theorem layT0 : Go.Proofs.SlLaysF0.n6 Tryz.prog layT0_ren := {
  mixed := by kernel_rfl,
  f6 := ⟨Tryz.f105.name, by decide, Tryz.func105.trans (congrArg some (by kernel_rfl))⟩,
  f14 := ⟨Tryz.f121.name, by decide, Tryz.func121.trans (congrArg some (by kernel_rfl))⟩,
  f15 := Tryz.func78.trans (congrArg some (by kernel_rfl)),
  f20 := ⟨Tryz.f142.name, by decide, Tryz.func142.trans (congrArg some (by kernel_rfl))⟩,
  f21 := ⟨Tryz.f143.name, by decide, Tryz.func143.trans (congrArg some (by kernel_rfl))⟩,
  f22 := ⟨Tryz.f144.name, by decide, Tryz.func144.trans (congrArg some (by kernel_rfl))⟩,
  f23 := ⟨Tryz.f145.name, by decide, Tryz.func145.trans (congrArg some (by kernel_rfl))⟩,
  f24 := ⟨Tryz.f146.name, by decide, Tryz.func146.trans (congrArg some (by kernel_rfl))⟩,
  f25 := ⟨Tryz.f147.name, by decide, Tryz.func147.trans (congrArg some (by kernel_rfl))⟩,
  f26 := ⟨Tryz.f148.name, by decide, Tryz.func148.trans (congrArg some (by kernel_rfl))⟩,
  f27 := ⟨Tryz.f149.name, by decide, Tryz.func149.trans (congrArg some (by kernel_rfl))⟩,
  f28 := Tryz.func101.trans (congrArg some (by kernel_rfl)),
  f29 := Tryz.func102.trans (congrArg some (by kernel_rfl)),
  f46 := ⟨Tryz.f165.name, by decide, Tryz.func165.trans (congrArg some (by kernel_rfl))⟩,
  f47 := Tryz.func117.trans (congrArg some (by kernel_rfl)),
  f48 := Tryz.func118.trans (congrArg some (by kernel_rfl)),
  f49 := ⟨Tryz.f166.name, by decide, Tryz.func166.trans (congrArg some (by kernel_rfl))⟩,
  f50 := ⟨Tryz.f167.name, by decide, Tryz.func167.trans (congrArg some (by kernel_rfl))⟩,
  f57 := ⟨Tryz.f173.name, by decide, Tryz.func173.trans (congrArg some (by kernel_rfl))⟩,
  t0 := Tryz.underlying0,
  a0 := Tryz.isAgg0,
  z0 := Tryz.sizeOf0,
  v0 := Tryz.zeroValue0,
  t3 := Tryz.underlying3,
  a3 := Tryz.isAgg3,
  z3 := Tryz.sizeOf3,
  v3 := Tryz.zeroValue3,
  t4 := Tryz.underlying4,
  a4 := Tryz.isAgg4,
  z4 := Tryz.sizeOf4,
  v4 := Tryz.zeroValue4,
  t5 := Tryz.underlying5,
  a5 := Tryz.isAgg5,
  z5 := Tryz.sizeOf5,
  v5 := Tryz.zeroValue5,
  t9 := Tryz.underlying9,
  a9 := Tryz.isAgg9,
  z9 := Tryz.sizeOf9,
  v9 := Tryz.zeroValue9,
  t22 := Tryz.underlying22,
  a22 := Tryz.isAgg22,
  z22 := Tryz.sizeOf22,
  v22 := Tryz.zeroValue22,
  t25 := Tryz.underlying154,
  a25 := Tryz.isAgg154,
  z25 := Tryz.sizeOf154,
  v25 := Tryz.zeroValue154,
  t39 := Tryz.underlying150,
  a39 := Tryz.isAgg150,
  z39 := Tryz.sizeOf150,
  v39 := Tryz.zeroValue150,
  t45 := Tryz.underlying162,
  a45 := Tryz.isAgg162,
  z45 := Tryz.sizeOf162,
  v45 := Tryz.zeroValue162,
  t46 := Tryz.underlying163,
  a46 := Tryz.isAgg163,
  z46 := Tryz.sizeOf163,
  v46 := Tryz.zeroValue163,
  t50 := Tryz.underlying132,
  a50 := Tryz.isAgg132,
  z50 := Tryz.sizeOf132,
  v50 := Tryz.zeroValue132,
  t53 := Tryz.underlying169,
  a53 := Tryz.isAgg169,
  z53 := Tryz.sizeOf169,
  v53 := Tryz.zeroValue169,
  t55 := Tryz.underlying55,
  a55 := Tryz.isAgg55,
  z55 := Tryz.sizeOf55,
  v55 := Tryz.zeroValue55,
  t66 := Tryz.underlying183,
  a66 := Tryz.isAgg183,
  z66 := Tryz.sizeOf183,
  v66 := Tryz.zeroValue183,
  t70 := Tryz.underlying187,
  a70 := Tryz.isAgg187,
  z70 := Tryz.sizeOf187,
  v70 := Tryz.zeroValue187,
  t76 := Tryz.underlying202,
  a76 := Tryz.isAgg202,
  z76 := Tryz.sizeOf202,
  v76 := Tryz.zeroValue202,
  t77 := Tryz.underlying203,
  a77 := Tryz.isAgg203,
  z77 := Tryz.sizeOf203,
  v77 := Tryz.zeroValue203 }
def layA0_ren : Go.Shelf.Ren := ⟨fun | 6 => 109 | 15 => 78 | 14 => 122 | 28 => 101 | 29 => 102 | 20 => 150 | 21 => 151 | 22 => 152 | 23 => 153 | 24 => 154 | 25 => 155 | 26 => 156 | 27 => 157 | 46 => 168 | 47 => 117 | 48 => 118 | 49 => 169 | 50 => 170 | 57 => 174 | n => n, fun | 22 => 23 | 24 => 59 | 25 => 156 | 3 => 3 | 39 => 150 | 0 => 0 | 53 => 169 | 55 => 55 | 4 => 4 | 46 => 163 | 45 => 162 | 50 => 132 | 5 => 5 | 9 => 9 | 66 => 183 | 70 => 187 | 76 => 202 | 77 => 203 | n => n, fun | n => n⟩
theorem layA0 : Go.Proofs.SlLaysF0.n6 Tryz.prog layA0_ren := {
  mixed := by kernel_rfl,
  f6 := ⟨Tryz.f109.name, by decide, Tryz.func109.trans (congrArg some (by kernel_rfl))⟩,
  f14 := ⟨Tryz.f122.name, by decide, Tryz.func122.trans (congrArg some (by kernel_rfl))⟩,
  f15 := Tryz.func78.trans (congrArg some (by kernel_rfl)),
  f20 := ⟨Tryz.f150.name, by decide, Tryz.func150.trans (congrArg some (by kernel_rfl))⟩,
  f21 := ⟨Tryz.f151.name, by decide, Tryz.func151.trans (congrArg some (by kernel_rfl))⟩,
  f22 := ⟨Tryz.f152.name, by decide, Tryz.func152.trans (congrArg some (by kernel_rfl))⟩,
  f23 := ⟨Tryz.f153.name, by decide, Tryz.func153.trans (congrArg some (by kernel_rfl))⟩,
  f24 := ⟨Tryz.f154.name, by decide, Tryz.func154.trans (congrArg some (by kernel_rfl))⟩,
  f25 := ⟨Tryz.f155.name, by decide, Tryz.func155.trans (congrArg some (by kernel_rfl))⟩,
  f26 := ⟨Tryz.f156.name, by decide, Tryz.func156.trans (congrArg some (by kernel_rfl))⟩,
  f27 := ⟨Tryz.f157.name, by decide, Tryz.func157.trans (congrArg some (by kernel_rfl))⟩,
  f28 := Tryz.func101.trans (congrArg some (by kernel_rfl)),
  f29 := Tryz.func102.trans (congrArg some (by kernel_rfl)),
  f46 := ⟨Tryz.f168.name, by decide, Tryz.func168.trans (congrArg some (by kernel_rfl))⟩,
  f47 := Tryz.func117.trans (congrArg some (by kernel_rfl)),
  f48 := Tryz.func118.trans (congrArg some (by kernel_rfl)),
  f49 := ⟨Tryz.f169.name, by decide, Tryz.func169.trans (congrArg some (by kernel_rfl))⟩,
  f50 := ⟨Tryz.f170.name, by decide, Tryz.func170.trans (congrArg some (by kernel_rfl))⟩,
  f57 := ⟨Tryz.f174.name, by decide, Tryz.func174.trans (congrArg some (by kernel_rfl))⟩,
  t0 := Tryz.underlying0,
  a0 := Tryz.isAgg0,
  z0 := Tryz.sizeOf0,
  v0 := Tryz.zeroValue0,
  t3 := Tryz.underlying3,
  a3 := Tryz.isAgg3,
  z3 := Tryz.sizeOf3,
  v3 := Tryz.zeroValue3,
  t4 := Tryz.underlying4,
  a4 := Tryz.isAgg4,
  z4 := Tryz.sizeOf4,
  v4 := Tryz.zeroValue4,
  t5 := Tryz.underlying5,
  a5 := Tryz.isAgg5,
  z5 := Tryz.sizeOf5,
  v5 := Tryz.zeroValue5,
  t9 := Tryz.underlying9,
  a9 := Tryz.isAgg9,
  z9 := Tryz.sizeOf9,
  v9 := Tryz.zeroValue9,
  t22 := Tryz.underlying23,
  a22 := Tryz.isAgg23,
  z22 := Tryz.sizeOf23,
  v22 := Tryz.zeroValue23,
  t25 := Tryz.underlying156,
  a25 := Tryz.isAgg156,
  z25 := Tryz.sizeOf156,
  v25 := Tryz.zeroValue156,
  t39 := Tryz.underlying150,
  a39 := Tryz.isAgg150,
  z39 := Tryz.sizeOf150,
  v39 := Tryz.zeroValue150,
  t45 := Tryz.underlying162,
  a45 := Tryz.isAgg162,
  z45 := Tryz.sizeOf162,
  v45 := Tryz.zeroValue162,
  t46 := Tryz.underlying163,
  a46 := Tryz.isAgg163,
  z46 := Tryz.sizeOf163,
  v46 := Tryz.zeroValue163,
  t50 := Tryz.underlying132,
  a50 := Tryz.isAgg132,
  z50 := Tryz.sizeOf132,
  v50 := Tryz.zeroValue132,
  t53 := Tryz.underlying169,
  a53 := Tryz.isAgg169,
  z53 := Tryz.sizeOf169,
  v53 := Tryz.zeroValue169,
  t55 := Tryz.underlying55,
  a55 := Tryz.isAgg55,
  z55 := Tryz.sizeOf55,
  v55 := Tryz.zeroValue55,
  t66 := Tryz.underlying183,
  a66 := Tryz.isAgg183,
  z66 := Tryz.sizeOf183,
  v66 := Tryz.zeroValue183,
  t70 := Tryz.underlying187,
  a70 := Tryz.isAgg187,
  z70 := Tryz.sizeOf187,
  v70 := Tryz.zeroValue187,
  t76 := Tryz.underlying202,
  a76 := Tryz.isAgg202,
  z76 := Tryz.sizeOf202,
  v76 := Tryz.zeroValue202,
  t77 := Tryz.underlying203,
  a77 := Tryz.isAgg203,
  z77 := Tryz.sizeOf203,
  v77 := Tryz.zeroValue203 }
end Go.Proofs.YtnpbfjdpglfdkaaGreatDoor
end

section
namespace Go.E
open Go
structure Tip where
  state : Int
  out : List UInt8
  deriving DecidableEq
def Tip.zero : Tip := ⟨0, []⟩
def encTip (x : Tip) : List Value := [.int .i64 x.state, .string (bs x.out)]
theorem encTip_len (x : Tip) : (encTip x).length = 2 := rfl
theorem encTip_one : ∀ x, ∀ u ∈ encTip x, u.oneCell' = true := fun x u hu => by
  simp [encTip] at hu
  rcases hu with rfl | rfl <;> rfl
structure Arc where
  frm : Int
  to : Int
  set : BSet
  out : List UInt8
  copy : Bool
  deriving DecidableEq
def Arc.zero : Arc := ⟨0, 0, BSet.zero, [], false⟩
def encArc (x : Arc) : List Value := [.int .i64 x.frm, .int .i64 x.to, .int .u64 ((x.set.a : Nat) : Int), .int .u64 ((x.set.b : Nat) : Int), .int .u64 ((x.set.c : Nat) : Int), .int .u64 ((x.set.d : Nat) : Int), .string (bs x.out), .bool x.copy]
theorem encArc_len (x : Arc) : (encArc x).length = 8 := rfl
theorem encArc_one : ∀ x, ∀ u ∈ encArc x, u.oneCell' = true := fun x u hu => by
  simp [encArc] at hu
  rcases hu with rfl | rfl | rfl | rfl | rfl | rfl | rfl | rfl <;> rfl
structure FPair where
  state : Int
  out : List UInt8
  deriving DecidableEq
def FPair.zero : FPair := ⟨0, []⟩
def encFPair (x : FPair) : List Value := [.int .i64 x.state, .string (bs x.out)]
theorem encFPair_bits : ∀ x, ∀ u ∈ encFPair x, Bits u := fun x u hu => by
  simp [encFPair] at hu
  rcases hu with rfl | rfl <;> first | exact Bits.int _ _ | exact Bits.str _ | exact Bits.bool _
structure Span where
  frm : Int
  to : Int
  deriving DecidableEq
def Span.zero : Span := ⟨0, 0⟩
structure Fst where
  states : Int
  starts : List Tip
  ends : List Tip
  arcs : List Arc
  deriving DecidableEq
def Fst.zero : Fst := ⟨0, [], [], []⟩
end Go.E
end

section
namespace Go.Proofs.YtnpbfjdpglfdkaaGreatDoor
open Go Go.E Go.E.OpVal Go.E.OpOk Go.Proofs.Tryz
private theorem ag22 : Go.E.aggOf Tryz.prog 22 = some false := by kernel_rfl
private theorem ag23 : Go.E.aggOf Tryz.prog 23 = some false := by kernel_rfl
private theorem ag4 : Go.E.aggOf Tryz.prog 4 = some false := by kernel_rfl
private theorem ag59 : Go.E.aggOf Tryz.prog 59 = some true := by kernel_rfl
private theorem ag62 : Go.E.aggOf Tryz.prog 62 = some true := by kernel_rfl
private theorem ag9 : Go.E.aggOf Tryz.prog 9 = some false := by kernel_rfl
private theorem fo25_0 : Go.E.foOf Tryz.prog 25 0 = some 0 := by kernel_rfl
private theorem fo25_1 : Go.E.foOf Tryz.prog 25 1 = some 1 := by kernel_rfl
private theorem fo25_2 : Go.E.foOf Tryz.prog 25 2 = some 2 := by kernel_rfl
private theorem fo25_3 : Go.E.foOf Tryz.prog 25 3 = some 3 := by kernel_rfl
private theorem fo59_0 : Go.E.foOf Tryz.prog 59 0 = some 0 := by kernel_rfl
private theorem fo59_1 : Go.E.foOf Tryz.prog 59 1 = some 1 := by kernel_rfl
private theorem fo59_2 : Go.E.foOf Tryz.prog 59 2 = some 2 := by kernel_rfl
private theorem fo59_3 : Go.E.foOf Tryz.prog 59 3 = some 6 := by kernel_rfl
private theorem fo59_4 : Go.E.foOf Tryz.prog 59 4 = some 7 := by kernel_rfl
private theorem fo62_0 : Go.E.foOf Tryz.prog 62 0 = some 0 := by kernel_rfl
private theorem fo62_1 : Go.E.foOf Tryz.prog 62 1 = some 1 := by kernel_rfl
private theorem fo65_0 : Go.E.foOf Tryz.prog 65 0 = some 0 := by kernel_rfl
private theorem fo65_1 : Go.E.foOf Tryz.prog 65 1 = some 1 := by kernel_rfl
private theorem es65 (x y : FPair) : Go.E.EqAt Tryz.prog 2 65 (.agg (Go.E.encFPair x).toArray) (.agg (Go.E.encFPair y).toArray) (decide (x = y)) :=
 (EqAt.struct (ts := [(false, 3, 0), (false, 9, 1)]) (by kernel_rfl) (by kernel_rfl) (by kernel_rfl) (EqC.one (by kernel_rfl) rfl rfl (EqAt.int underlying3 x.state y.state) (EqC.one (by kernel_rfl) rfl rfl (EqAt.str underlying9 x.out y.out) EqC.nil))).of (by rw [Bool.eq_iff_iff]; cases x; cases y; simp)
private theorem kl65 : Go.E.KeyL Tryz.prog 65 (fun x => Value.agg (Go.E.encFPair x).toArray) :=
 KeyL.struct underlying65 es65 rfl (fun x => CkAt.struct (n := 1) (ts := [(false, 3, 0), (false, 9, 1)]) (by kernel_rfl) (by kernel_rfl) (CkC.one (by kernel_rfl) rfl (CkAt.int underlying3 _) (CkC.one (by kernel_rfl) rfl (CkAt.str underlying9 _) CkC.nil))) rfl encFPair_bits
private theorem pf41 : Go.E.plainF Tryz.prog 41 = true := by kernel_rfl
private theorem pf42 : Go.E.plainF Tryz.prog 42 = true := by kernel_rfl
private theorem pf43 : Go.E.plainF Tryz.prog 43 = true := by kernel_rfl
private theorem pl63 : Go.E.plOf Tryz.prog 63 = some #[] := by kernel_rfl
private theorem pl65 : Go.E.plOf Tryz.prog 65 = some #[(0, 1), (1, 1)] := by kernel_rfl
private theorem sz23 : Go.E.szOf Tryz.prog 23 = some 1 := by kernel_rfl
private theorem sz59 : Go.E.szOf Tryz.prog 59 = some 8 := by kernel_rfl
private theorem sz62 : Go.E.szOf Tryz.prog 62 = some 2 := by kernel_rfl
private theorem sz65 : Go.E.szOf Tryz.prog 65 = some 2 := by kernel_rfl
private theorem ze59 : Go.E.zeroOf Tryz.prog 59 = some (.agg #[.int .i64 0, .int .i64 0, .int .u64 0, .int .u64 0, .int .u64 0, .int .u64 0, .string ByteArray.empty, .bool false]) := by kernel_rfl
private theorem ze62 : Go.E.zeroOf Tryz.prog 62 = some (.agg #[.int .i64 0, .string ByteArray.empty]) := by kernel_rfl
private theorem ze63 : Go.E.zeroOf Tryz.prog 63 = some (.agg #[]) := by kernel_rfl
private theorem ze65 : Go.E.zeroOf Tryz.prog 65 = some (.agg #[.int .i64 0, .string ByteArray.empty]) := by kernel_rfl
noncomputable def D8_ (x0 : Int) (x1 : Int) : Option (Bool) :=
 iteO (decide (0 ≤ x0)) (some (decide (x0 < x1))) (some false)
theorem Fy_ {σ : Store} {x0 : Int} {x1 : Int}  {r : Bool} (hh : D8_ x0 x1 = some r) :
  Con Tryz.prog 42 #[.int .i64 x0, .int .i64 x1] σ [] (PureP (.bool r) σ) := by
 dsimp only [D8_] at hh
 refine Con.mk (n := 12) Tryz.func42 z z z (fun w0 => ?_)
 refine TC.a (TL.j z z (TL.en (TC.a (TL.i z z (TL.w z (OpVal.leq z z z) (TL.j z z (TL.split 7 z (fun h101 => ?_) (fun h101 => ?_))))))))
 ·replace hh := iteO_t h101 hh
  replace h101 := of_decide_eq_true h101
  refine TL.g z (moveI (.inl z) z) (TL.g z (moveI (.inl z) z) (TL.g z (OpVal.lss z z z) (TL.w z (pickTB z z z) (TL.j z z (TL.en (TC.ret ?_))))))
  obtain rfl := so hh
  exact rq [4] ⟨z, z, z⟩
 ·replace hh := iteO_f h101 hh
  replace h101 := of_decide_eq_false h101
  refine TL.f z (TL.f z (TL.f z (TL.w z (pickFB z z z) (TL.j z z (TL.en (TC.ret ?_))))))
  obtain rfl := so hh
  exact rq [4] ⟨z, z, z⟩
noncomputable def Bp_ (x0 : List Tip) (x1 : Int) (k104 : Nat) : Option ((Nat) ⊕ (Bool)) :=
 iteO (decide (((k104 : Nat) : Int) < ((x0.length : Nat) : Int))) (bnd (D8_ ((nth x0 k104 Tip.zero).state) x1) (fun v17 => iteO (!v17) (fin (some false)) (iteO (decide (1024 < ((((nth x0 k104 Tip.zero).out).length : Nat) : Int))) (fin (some false)) (nxt (k104 + 1))))) (fin (some true))
noncomputable def Cr_ (x0 : List Tip) (x1 : Int) : Option (Bool) :=
 iteO (decide (1024 < ((x0.length : Nat) : Int))) (some false) (iter (fun q : Nat => Bp_ x0 x1 q) 0)
theorem F7_ {σ : Store} {x0 : List Tip} {a0_0 : Option Addr} {c0_0 : Nat} {x1 : Int} (f0_0 : RS σ 2 encTip (.slice a0_0 x0.length c0_0) x0) {r : Bool} (hh : Cr_ x0 x1 = some r) :
  Con Tryz.prog 41 #[.slice a0_0 x0.length c0_0, .int .i64 x1] σ [] (PureP (.bool r) σ) := by
 dsimp only [Cr_] at hh
 have f0_0b := f0_0.rv.big
 refine Con.mk (n := 28) Tryz.func41 z z z (fun w0 => ?_)
 refine TC.a (TL.j z z (TL.en (TC.seq (TC.a (TL.s z z (TL.w z (lenC z underlying22 z) (TL.w z (OpVal.gtr z z z) (TL.en (TC.cD z hh (fun h101 hh => ?_) (fun h101 hh => ?_))))))))))
 ·refine TC.a (TL.j z z (TL.en (TC.ret (S.r ?_))))
  obtain rfl := so hh
  exact rq [4] ⟨z, z, z⟩
 ·refine TC.skip (S.n (TC.seq (TC.a (TL.s z z (TL.w z (lenC z underlying22 z) (TL.i z z (TL.en (TC.block (TC.loopG (α := (Nat) × (Unit)) (rgs [(4, 1), (6, 1), (12, 16)]) (fun g => [(12, .int .i64 ((g.1 : Nat) : Int))]) (fun g => []) (fun g => σ) (fun g => iter (fun q : Nat => Bp_ x0 x1 q) g.1 = some r) (fun g => rounds (fun q : Nat => Bp_ x0 x1 q) g.1) (0, ()) (Sub.pre 0 z) z (by repeat (first | exact trivial | refine ⟨z, ?_⟩)) hh (fun g1 j1 hg1 => ?_))))))))))
  obtain ⟨k104, _⟩ := g1
  have hh := hg1; clear hg1
  try dsimp only
  obtain ⟨z1, hh, hR1⟩ := iter_e hh
  dsimp only [Bp_] at hh
  refine TC.a (TL.w z (OpVal.lss z z z) (TL.en (TC.seq (TC.cD z hh (fun h105 hh => ?_) (fun h105 hh => ?_)))))
  ·refine TC.skip (S.n (TC.seq (TC.block (TC.a (TL.w z (indexN z underlying22 sz62 z z f0_0.rv.sl (by omega)) (TL.w z (loadSA Tip.zero z ag62 sz62 z f0_0 (by omega) (by omega)) (TL.op z (OpOk.alloc z ze62 z z (fun b106 => ?_)))))))))
   refine TL.op z (storeAll z sz62 z z z z z z ?_)
   refine TL.en (TC.a (TL.w z (fieldLoc z fo62_0 z) (TL.w z (loadLoc z ag3 z (i := 0) z z) (TL.i z z ?_))))
   obtain ⟨v17, u17, hh⟩ := bnd_e hh
   refine TL.op z (callP (Fy_ u17) z z pf42 z z z ?_)
   refine TL.w z (OpVal.not z z) (TL.j z z (TL.split 21 z (fun h108 => ?_) (fun h108 => ?_)))
   ·replace hh := iteO_t h108 hh
    refine TL.f z (TL.f z (TL.f z (TL.f z (TL.w z (pickTB z z z) (TL.en (TC.t z (TC.a (TL.j z z (TL.en (TC.rt 0 (B.r (S.r (S.r ?_)))))))))))))
    replace hh := fin_x hR1 hh
    refine B.r (S.r ?_)
    obtain rfl := so hh
    exact rq [4] ⟨z, z, z⟩
   ·replace hh := iteO_f h108 hh
    refine TL.g z (fieldLoc z fo62_1 z) (TL.g z (loadLoc z ag9 z (i := 0) z z) (TL.g z (lenBs z underlying9 z) (TL.g z (OpVal.gtr z z z) (TL.w z (pickFB z z z) (TL.en (TC.cD z hh (fun h109 hh => ?_) (fun h109 hh => ?_)))))))
    ·refine TC.a (TL.j z z (TL.en (TC.rt 0 (B.r (S.r (S.r ?_))))))
     replace hh := fin_x hR1 hh
     refine B.r (S.r ?_)
     obtain rfl := so hh
     exact rq [4] ⟨z, z, z⟩
    ·refine TC.skip (B.n (S.n (TC.region (TL.w z (OpVal.succ z z z (by omega)) (TL.i z z (TL.en ?_))))))
     obtain ⟨hh, hlt110⟩ := nxt_x hR1 hh
     exact lf ((k104 + 1), ()) hlt110 hh (Sub.pre 0 z)
  ·refine TC.exit (S.x (S.x ?_))
   replace hh := fin_x hR1 hh
   refine TC.exitHere (S.n (TC.a (TL.j z z (TL.en (TC.ret ?_)))))
   obtain rfl := so hh
   exact rq [4] ⟨z, z, z⟩
noncomputable def Cm_ (x0 : Fst) (k110 : Nat) : Option ((Nat) ⊕ (Int)) :=
 iteO (decide (((k110 : Nat) : Int) < ((x0.arcs.length : Nat) : Int))) (bnd (D8_ ((nth x0.arcs k110 Arc.zero).frm) x0.states) (fun v46 => iteO (!v46) (fin (some 1)) (bnd (D8_ ((nth x0.arcs k110 Arc.zero).to) x0.states) (fun v53 => iteO (!v53) (fin (some 1)) (iteO (decide ((nth x0.arcs k110 Arc.zero).set = BSet.zero)) (fin (some 1)) (iteO (decide (1024 < ((((nth x0.arcs k110 Arc.zero).out).length : Nat) : Int))) (fin (some 1)) (nxt (k110 + 1)))))))) (fin (some 0))
noncomputable def C8_ (x0 : Fst) : Option (Int) :=
 iteO (decide (x0.states < 0)) (some 1) (iteO (decide (1024 < x0.states)) (some 1) (iteO (decide (16384 < ((x0.arcs.length : Nat) : Int))) (some 1) (bnd (Cr_ x0.starts x0.states) (fun v22 => iteO (!v22) (some 1) (bnd (Cr_ x0.ends x0.states) (fun v29 => iteO (!v29) (some 1) (iter (fun q : Nat => Cm_ x0 q) 0)))))))
theorem Ej_ {σ : Store} {x0 : Fst} {a0_0 : Option Addr} {c0_0 : Nat} {a0_1 : Option Addr} {c0_1 : Nat} {a0_2 : Option Addr} {c0_2 : Nat} (f0_0 : RS σ 2 encTip (.slice a0_0 x0.starts.length c0_0) x0.starts) (f0_1 : RS σ 2 encTip (.slice a0_1 x0.ends.length c0_1) x0.ends) (f0_2 : RS σ 8 encArc (.slice a0_2 x0.arcs.length c0_2) x0.arcs) {r : Int} (hh : C8_ x0 = some r) :
  Con Tryz.prog 16 #[.agg #[.int .i64 x0.states, .slice a0_0 x0.starts.length c0_0, .slice a0_1 x0.ends.length c0_1, .slice a0_2 x0.arcs.length c0_2]] σ [] (PureP (.int .i64 r) σ) := by
 dsimp only [C8_] at hh
 have f0_0b := f0_0.rv.big
 have f0_1b := f0_1.rv.big
 have f0_2b := f0_2.rv.big
 refine Con.mk (n := 67) Tryz.func16 z z z (fun w0 => ?_)
 refine TC.a (TL.op z (boxA z z z z (fun b101 => ?_)))
 refine TL.i z z (TL.en (TC.seq (TC.a (TL.w z (fieldLoc z fo25_0 z) (TL.w z (loadLoc z ag3 z (i := 0) z z) (TL.w z (OpVal.lss z z z) (TL.j z z (TL.split 8 z (fun h103 => ?_) (fun h103 => ?_)))))))))
 ·replace hh := iteO_t h103 hh
  replace h103 := of_decide_eq_true h103
  refine TL.f z (TL.f z (TL.f z (TL.w z (pickTB z z z) (TL.j z z (TL.f z (TL.f z (TL.f z (TL.f z (TL.w z (pickTB z z z) (TL.en (TC.t z (TC.a (TL.i z z (TL.en (TC.rt 0 (S.r ?_))))))))))))))))
  obtain rfl := so hh
  exact rq [2] ⟨z, z, z⟩
 ·replace hh := iteO_f h103 hh
  replace h103 := of_decide_eq_false h103
  refine TL.g z (fieldLoc z fo25_0 z) (TL.g z (loadLoc z ag3 z (i := 0) z z) (TL.g z (OpVal.gtr z z z) (TL.w z (pickFB z z z) (TL.j z z (TL.split 13 z (fun h104 => ?_) (fun h104 => ?_))))))
  ·replace hh := iteO_t h104 hh
   replace h104 := of_decide_eq_true h104
   refine TL.f z (TL.f z (TL.f z (TL.f z (TL.w z (pickTB z z z) (TL.en (TC.t z (TC.a (TL.i z z (TL.en (TC.rt 0 (S.r ?_)))))))))))
   obtain rfl := so hh
   exact rq [2] ⟨z, z, z⟩
  ·replace hh := iteO_f h104 hh
   replace h104 := of_decide_eq_false h104
   refine TL.g z (fieldLoc z fo25_3 z) (TL.g z (loadLoc z ag23 z (i := 0) z z) (TL.g z (lenC z underlying23 z) (TL.g z (OpVal.gtr z z z) (TL.w z (pickFB z z z) (TL.en (TC.cD z hh (fun h105 hh => ?_) (fun h105 hh => ?_)))))))
   ·refine TC.a (TL.i z z (TL.en (TC.rt 0 (S.r ?_))))
    obtain rfl := so hh
    exact rq [2] ⟨z, z, z⟩
   ·refine TC.skip (S.n (TC.seq (TC.a (TL.w z (fieldLoc z fo25_1 z) (TL.w z (loadLoc z ag22 z (i := 0) z z) (TL.w z (fieldLoc z fo25_0 z) (TL.w z (loadLoc z ag3 z (i := 0) z z) ?_)))))))
    obtain ⟨v22, u22, hh⟩ := bnd_e hh
    refine TL.op z (callP (F7_ f0_0 u22) z z pf41 z z z ?_)
    refine TL.w z (OpVal.not z z) (TL.j z z (TL.split 25 z (fun h106 => ?_) (fun h106 => ?_)))
    ·replace hh := iteO_t h106 hh
     refine TL.f z (TL.f z (TL.f z (TL.f z (TL.f z (TL.f z (TL.w z (pickTB z z z) (TL.en (TC.t z (TC.a (TL.i z z (TL.en (TC.rt 0 (S.r ?_)))))))))))))
     obtain rfl := so hh
     exact rq [2] ⟨z, z, z⟩
    ·replace hh := iteO_f h106 hh
     refine TL.g z (fieldLoc z fo25_2 z) (TL.g z (loadLoc z ag22 z (i := 0) z z) (TL.g z (fieldLoc z fo25_0 z) (TL.g z (loadLoc z ag3 z (i := 0) z z) ?_)))
     obtain ⟨v29, u29, hh⟩ := bnd_e hh
     refine TL.gon z z z z z (callP (F7_ f0_1 u29) z z pf41 z z z ?_)
     refine TL.g z (OpVal.not z z) (TL.w z (pickFB z z z) (TL.en (TC.cB z hh (fun h107 hh => ?_) (fun h107 hh => ?_))))
     ·refine TC.a (TL.i z z (TL.en (TC.rt 0 (S.r ?_))))
      obtain rfl := so hh
      exact rq [2] ⟨z, z, z⟩
     ·refine TC.skip (S.n (TC.seq (TC.a (TL.w z (fieldLoc z fo25_3 z) (TL.w z (loadLoc z ag23 z (i := 0) z z) (TL.w z (lenC z underlying23 z) (TL.i z z (TL.en (TC.block (TC.loopG (α := (Nat) × (Unit)) (rgs [(2, 1), (4, 1), (36, 31)]) (fun g => [(36, .int .i64 ((g.1 : Nat) : Int))]) (fun g => [Res.cells b101 #[.int .i64 x0.states, .slice a0_0 x0.starts.length c0_0, .slice a0_1 x0.ends.length c0_1, .slice a0_2 x0.arcs.length c0_2] 25]) (fun g => σ) (fun g => iter (fun q : Nat => Cm_ x0 q) g.1 = some r) (fun g => rounds (fun q : Nat => Cm_ x0 q) g.1) (0, ()) (Sub.pre 1 z) z (by repeat (first | exact trivial | refine ⟨z, ?_⟩)) hh (fun g1 j1 hg1 => ?_)))))))))))
      obtain ⟨k110, _⟩ := g1
      have hh := hg1; clear hg1
      try dsimp only
      obtain ⟨z1, hh, hR1⟩ := iter_e hh
      dsimp only [Cm_] at hh
      refine TC.a (TL.w z (OpVal.lss z z z) (TL.en (TC.seq (TC.cD z hh (fun h111 hh => ?_) (fun h111 hh => ?_)))))
      ·refine TC.skip (S.n (TC.seq (TC.block (TC.a (TL.w z (indexN z underlying23 sz59 z z f0_2.rv.sl (by omega)) (TL.w z (loadSA Arc.zero z ag59 sz59 z f0_2 (by omega) (by omega)) (TL.op z (OpOk.alloc z ze59 z z (fun b112 => ?_)))))))))
       refine TL.op z (storeAll z sz59 z z z z z z ?_)
       refine TL.en (TC.a (TL.w z (fieldLoc z fo59_0 z) (TL.w z (loadLoc z ag3 z (i := 0) z z) (TL.w z (fieldLoc z fo25_0 z) (TL.w z (loadLoc z ag3 z (i := 1) z z) ?_)))))
       obtain ⟨v46, u46, hh⟩ := bnd_e hh
       refine TL.op z (callP (Fy_ u46) z z pf42 z z z ?_)
       refine TL.w z (OpVal.not z z) (TL.j z z (TL.split 46 z (fun h114 => ?_) (fun h114 => ?_)))
       ·replace hh := iteO_t h114 hh
        refine TL.f z (TL.f z (TL.f z (TL.f z (TL.f z (TL.f z (TL.w z (pickTB z z z) (TL.j z z (TL.f z (TL.f z (TL.f z (TL.f z (TL.w z (pickTB z z z) (TL.j z z (TL.f z (TL.f z (TL.f z (TL.f z (TL.w z (pickTB z z z) (TL.en (TC.t z (TC.a (TL.i z z (TL.en (TC.rt 0 (B.r (S.r (S.r ?_)))))))))))))))))))))))))))
        replace hh := fin_x hR1 hh
        refine B.r (S.r ?_)
        obtain rfl := so hh
        exact rq [2] ⟨z, z, z⟩
       ·replace hh := iteO_f h114 hh
        refine TL.g z (fieldLoc z fo59_1 z) (TL.g z (loadLoc z ag3 z (i := 0) z z) (TL.g z (fieldLoc z fo25_0 z) (TL.g z (loadLoc z ag3 z (i := 1) z z) ?_)))
        obtain ⟨v53, u53, hh⟩ := bnd_e hh
        refine TL.gon z z z z z (callP (Fy_ u53) z z pf42 z z z ?_)
        refine TL.g z (OpVal.not z z) (TL.w z (pickFB z z z) (TL.j z z (TL.split 54 z (fun h115 => ?_) (fun h115 => ?_))))
        ·replace hh := iteO_t h115 hh
         refine TL.f z (TL.f z (TL.f z (TL.f z (TL.w z (pickTB z z z) (TL.j z z (TL.f z (TL.f z (TL.f z (TL.f z (TL.w z (pickTB z z z) (TL.en (TC.t z (TC.a (TL.i z z (TL.en (TC.rt 0 (B.r (S.r (S.r ?_)))))))))))))))))))
         replace hh := fin_x hR1 hh
         refine B.r (S.r ?_)
         obtain rfl := so hh
         exact rq [2] ⟨z, z, z⟩
        ·replace hh := iteO_f h115 hh
         refine TL.g z (fieldLoc z fo59_2 z) (TL.g z (loadLocA z ag57 sz57 z (i := 0) z z z) (TL.g z (buildArrL z underlying57 sz55 ze57 z) (TL.g z (eqlSet (s := (nth x0.arcs k110 Arc.zero).set) (t := BSet.zero) z underlying57 underlying55 ag55 sz55 eg57 z z) (TL.w z (pickFB z z z) (TL.j z z (TL.split 60 z (fun h116 => ?_) (fun h116 => ?_)))))))
         ·replace hh := iteO_t h116 hh
          replace h116 := of_decide_eq_true h116
          refine TL.f z (TL.f z (TL.f z (TL.f z (TL.w z (pickTB z z z) (TL.en (TC.t z (TC.a (TL.i z z (TL.en (TC.rt 0 (B.r (S.r (S.r ?_)))))))))))))
          replace hh := fin_x hR1 hh
          refine B.r (S.r ?_)
          obtain rfl := so hh
          exact rq [2] ⟨z, z, z⟩
         ·replace hh := iteO_f h116 hh
          replace h116 := of_decide_eq_false h116
          refine TL.g z (fieldLoc z fo59_3 z) (TL.g z (loadLoc z ag9 z (i := 0) z z) (TL.g z (lenBs z underlying9 z) (TL.g z (OpVal.gtr z z z) (TL.w z (pickFB z z z) (TL.en (TC.cD z hh (fun h117 hh => ?_) (fun h117 hh => ?_)))))))
          ·refine TC.a (TL.i z z (TL.en (TC.rt 0 (B.r (S.r (S.r ?_))))))
           replace hh := fin_x hR1 hh
           refine B.r (S.r ?_)
           obtain rfl := so hh
           exact rq [2] ⟨z, z, z⟩
          ·refine TC.skip (B.n (S.n (TC.region (TL.w z (OpVal.succ z z z (by omega)) (TL.i z z (TL.en ?_))))))
           obtain ⟨hh, hlt118⟩ := nxt_x hR1 hh
           exact lf ((k110 + 1), ()) hlt118 hh (Sub.f [1] 1)
      ·refine TC.exit (S.x (S.x ?_))
       replace hh := fin_x hR1 hh
       refine TC.exitHere (S.n (TC.a (TL.i z z (TL.en (TC.rt 0 ?_)))))
       obtain rfl := so hh
       exact rq [2] ⟨z, z, z⟩
noncomputable def Fj_ (k128 : Nat) (m130 : FM FPair Unit) : Option (((FM FPair Unit) × Nat) ⊕ (((FM FPair Unit)) ⊕ ((FM FPair Unit) × Bool))) :=
 nxt (m130, (k128 + 1))
noncomputable def Dn_ (m127 : FM FPair Unit) (x0 : List (List Arc)) (v7c : FPair × Unit) (k128 : Nat) (s134 : List UInt8) : Option (((FM FPair Unit) × Nat) ⊕ (((FM FPair Unit)) ⊕ ((FM FPair Unit) × Bool))) :=
 iteO (decide (4096 < (((m127.put (⟨(nth (nth x0 v7c.1.state.toNat ([] : List Arc)) k128 Arc.zero).to, s134⟩ : FPair) ()).n : Nat) : Int))) (fin (fin (some ((FM.emp : FM FPair Unit), false)))) (Fj_ k128 (m127.put (⟨(nth (nth x0 v7c.1.state.toNat ([] : List Arc)) k128 Arc.zero).to, s134⟩ : FPair) ()))
noncomputable def Br_ (x0 : List (List Arc)) (v7c : FPair × Unit) (x2 : UInt8) (m127 : FM FPair Unit) (k128 : Nat) : Option (((FM FPair Unit) × Nat) ⊕ (((FM FPair Unit)) ⊕ ((FM FPair Unit) × Bool))) :=
 iteO (decide (((k128 : Nat) : Int) < (((nth x0 v7c.1.state.toNat ([] : List Arc)).length : Nat) : Int))) (iteO (!(((nth (nth x0 v7c.1.state.toNat ([] : List Arc)) k128 Arc.zero).set).has x2.toNat)) (Fj_ k128 m127) (grd (v7c.1.out.length + ((nth (nth x0 v7c.1.state.toNat ([] : List Arc)) k128 Arc.zero).out).length ≤ 9223372036854775807) (iteO ((nth (nth x0 v7c.1.state.toNat ([] : List Arc)) k128 Arc.zero).copy) (grd ((v7c.1.out ++ (nth (nth x0 v7c.1.state.toNat ([] : List Arc)) k128 Arc.zero).out).length + [x2].length ≤ 9223372036854775807) (Dn_ m127 x0 v7c k128 ((v7c.1.out ++ (nth (nth x0 v7c.1.state.toNat ([] : List Arc)) k128 Arc.zero).out) ++ [x2]))) (Dn_ m127 x0 v7c k128 (v7c.1.out ++ (nth (nth x0 v7c.1.state.toNat ([] : List Arc)) k128 Arc.zero).out))))) (fin (nxt m127))
noncomputable def Ck_ (x0 : List (List Arc)) (x2 : UInt8) (m114 : FM FPair Unit) (oE : Option (FPair × Unit)) : Option (((FM FPair Unit)) ⊕ ((FM FPair Unit) × Bool)) :=
 optE oE (fin (some (m114, true))) (fun v7c => grd (0 ≤ v7c.1.state ∧ v7c.1.state < (x0.length : Int)) (iter (fun q : (FM FPair Unit) × Nat => Br_ x0 v7c x2 q.1 q.2) (m114, 0)))
noncomputable def Gj_ (x0 : List (List Arc)) (x1 : FM FPair Unit) (x2 : UInt8) : Option ((FM FPair Unit) × Bool) :=
 allP (fun q => Rep q x1) (fun q => runL (fun (q : (FM FPair Unit)) (oE : Option (FPair × Unit)) => Ck_ x0 x2 q oE) q (FM.emp : FM FPair Unit))
theorem H8_ {σ : Store} {x0 : List (List Arc)} {a0_0 : Option Addr} {c0_0 : Nat} {x1 : FM FPair Unit} {b1_0 : Option Nat} {x2 : UInt8} (f0_0 : RZ σ (pkSl 8 encArc encArc_len) (.slice a0_0 x0.length c0_0) x0) {r : (FM FPair Unit) × Bool} (hh : Gj_ x0 x1 x2 = some r) :
  Con Tryz.prog 17 #[.slice a0_0 x0.length c0_0, .map b1_0, .int .u8 ((x2.toNat : Nat) : Int)] σ [Res.mapB (fun x => Value.agg (encFPair x).toArray) unitV b1_0 x1] (fun v σ' H' => ∃ (br1 : Option Nat), v = .tuple #[.map br1, .bool r.2] ∧ σ = σ' ∧ H' = [Res.mapB (fun x => Value.agg (encFPair x).toArray) unitV br1 r.1]) := by
 dsimp only [Gj_] at hh
 have f0_0b := f0_0.big
 refine Con.mk (n := 58) Tryz.func17 z z z (fun w0 => ?_)
 refine TC.a (TL.w z (moveMap (.inr z) z) (TL.j z z (TL.en (TC.a (TL.op z (makeMapB (enc := (fun x => Value.agg (encFPair x).toArray)) (encV := unitV) z z z (fun b103 => ?_)))))))
 refine TL.w z (moveMap (.inr z) z) (TL.en (TC.seq (TC.a (TL.w z (moveMap (.inl z) z) (TL.front 1 z z (TL.op z (rangeB z underlying60 z z z (fun it105 l106 hl107 => ?_))))))))
 refine TL.en (TC.block (TC.loopG (α := ((FM FPair Unit)) × ((List (FPair × Unit)) × (Option (FPair × Unit)))) (rgs [(6, 2), (9, 1), (11, 2), (16, 41)]) (fun g => []) (fun g => [Res.mapB (fun x => Value.agg (encFPair x).toArray) unitV (some b103) g.1, Res.rng (fun x => Value.agg (encFPair x).toArray) unitV b1_0 it105 x1 g.2.1 g.2.2]) (fun g => σ) (fun g => runA (fun (q : (FM FPair Unit)) (oE : Option (FPair × Unit)) => Ck_ x0 x2 q oE) g.2.1 g.1 = some r) (fun g => List.length g.2.1) ((FM.emp : FM FPair Unit), (l106, none)) (Sub.f [1] 2) z (by repeat (first | exact trivial | refine ⟨z, ?_⟩)) (runA_of hh hl107) (fun g1 j1 hg1 => ?_)))
 obtain ⟨m114, ⟨l115, o116⟩⟩ := g1
 have hh := hg1; clear hg1
 try dsimp only
 refine TC.a (TL.front 1 z z (TL.op z (nextB (T := 0) z z z z z (fun hl117 => ?_) (fun l118 v7c l119 hl117 => ?_))))
 ·subst hl117
  obtain ⟨z1, hh, hR1⟩ := runA_end hh
  dsimp only [Ck_, optE_none] at hh
  refine TL.by (fun w h => Reach.unrng h) (TL.w z (OpVal.extract z z z) (TL.en (TC.seq (TC.f z (TC.exit (S.x (S.x ?_)))))))
  replace hh := finE_x hR1 hh
  refine TC.exitHere (S.n (TC.a (TL.w z (moveMap (.inl z) z) (TL.w z (moveMap (.inr z) z) (TL.j z z (TL.en (TC.ofSub (Sub.f [1] 1) (TC.ret ?_))))))))
  obtain rfl := so hh
  exact ro [Res.mapB (fun x => Value.agg (encFPair x).toArray) unitV (some b103) m114] z (RVs.tmp z (RVs.tmp z RVs.nil)) ⟨(some b103), z, z, z⟩
 ·subst hl117
  obtain ⟨z1, hh, hR1⟩ := runA_step hh
  dsimp only [Ck_, optE_some] at hh
  refine TL.w z (OpVal.extract z z z) (TL.en (TC.seq (TC.t z (TC.skip (S.n (TC.block (TC.a (TL.w z (OpVal.of (entryB z z (i := 0) z) (v' := .tuple #[.agg #[.int .i64 v7c.1.state, .string (bs v7c.1.out)], .agg #[]]) z) (TL.w z (OpVal.extract z z z) (TL.op z (OpOk.alloc z ze65 z z (fun b120 => ?_))))))))))))
  refine TL.op z (storeAll z sz65 z z z z z z ?_)
  refine TL.en (TC.a (TL.s z z (TL.w z (fieldLoc z fo65_0 z) (TL.w z (loadLoc z ag3 z (i := 0) z z) ?_))))
  have u16 := grd_c hh
  replace hh := grd_t hh
  refine TL.w z (OpVal.index z underlying54 sz23 z z f0_0.isSl u16.1 u16.2) ?_
  obtain ⟨p122, hk122, hg122⟩ := RZ.seg f0_0 v7c.1.state.toNat (by omega)
  replace hk122 : RS _ 8 encArc (.slice p122.1 (nth x0 v7c.1.state.toNat ([] : List Arc)).length p122.2) (nth x0 v7c.1.state.toNat ([] : List Arc)) := hk122
  have hk122b := hk122.rv.big
  refine TL.w z (OpVal.of (loadSeg0 z ag23 z hg122 z) (v' := .slice p122.1 ((nth x0 v7c.1.state.toNat ([] : List Arc)).length) p122.2) z) (TL.w z (lenC z underlying23 z) (TL.i z z (TL.en (TC.block (TC.loopG (α := ((FM FPair Unit) × Nat) × (Unit)) (rgs [(6, 2), (11, 2), (26, 31)]) (fun g => [(26, .int .i64 ((g.1.2 : Nat) : Int))]) (fun g => [Res.mapB (fun x => Value.agg (encFPair x).toArray) unitV (some b103) g.1.1, Res.cells b120 #[.int .i64 v7c.1.state, .string (bs v7c.1.out)] 65, Res.rng (fun x => Value.agg (encFPair x).toArray) unitV b1_0 it105 x1 (l118 ++ l119) (some v7c)]) (fun g => σ) (fun g => iter (fun q : (FM FPair Unit) × Nat => Br_ x0 v7c x2 q.1 q.2) g.1 = some z1) (fun g => rounds (fun q : (FM FPair Unit) × Nat => Br_ x0 v7c x2 q.1 q.2) g.1) ((m114, 0), ()) (Sub.f [1, 1, 2] 3) z (by repeat (first | exact trivial | refine ⟨z, ?_⟩)) hh (fun g2 j2 hg2 => ?_))))))
  obtain ⟨⟨m127, k128⟩, _⟩ := g2
  have hh := hg2; clear hg2
  try dsimp only
  obtain ⟨z2, hh, hR2⟩ := iter_e hh
  dsimp only [Br_] at hh
  refine TC.a (TL.w z (OpVal.lss z z z) (TL.en (TC.seq (TC.cD z hh (fun h129 hh => ?_) (fun h129 hh => ?_)))))
  ·refine TC.skip (S.n (TC.cutG (α := ((FM FPair Unit)) × (Unit)) (rgs [(6, 2), (11, 2), (28, 28)]) (fun g => []) (fun g => [Res.mapB (fun x => Value.agg (encFPair x).toArray) unitV (some b103) g.1, Res.cells b120 #[.int .i64 v7c.1.state, .string (bs v7c.1.out)] 65, Res.rng (fun x => Value.agg (encFPair x).toArray) unitV b1_0 it105 x1 (l118 ++ l119) (some v7c)]) (fun g => σ) (fun g => Fj_ k128 g.1 = some z2) ?_ (fun g j hg => ?_)))
   ·skip
    refine TC.block (TC.a (TL.w z (indexN z underlying23 sz59 z z hk122.rv.sl (by omega)) (TL.w z (loadSA Arc.zero z ag59 sz59 z hk122 (by omega) (by omega)) (TL.op z (OpOk.alloc z ze59 z z (fun b131 => ?_))))))
    refine TL.op z (storeAll z sz59 z z z z z z ?_)
    refine TL.en (TC.seq (TC.a (TL.w z (fieldLoc z fo59_2 z) (TL.w z (loadLocA z ag57 sz57 z (i := 0) z z z) (TL.i z z (TL.op z (callP (has_con _ ((nth (nth x0 v7c.1.state.toNat ([] : List Arc)) k128 Arc.zero).set) x2.toNat (BSet.isOk _) (UInt8.toNat_lt _)) z z pf43 z z z ?_)))))))
    refine TL.w z (OpVal.not z z) (TL.en (TC.cB z hh (fun h133 hh => ?_) (fun h133 hh => ?_)))
    ·exact TC.exit (S.x (TC.exitHere (S.n (cf (m127, ()) hh (Sub.f [3, 3, 3] 3)))))
    ·refine TC.skip (S.n (TC.a (TL.w z (fieldLoc z fo65_1 z) (TL.w z (loadLoc z ag9 z (i := 2) z z) (TL.w z (fieldLoc z fo59_3 z) (TL.w z (loadLoc z ag9 z (i := 0) z z) ?_))))))
     have u34 := grd_c hh
     replace hh := grd_t hh
     refine TL.w z (catBs z z z u34) (TL.w z (moveStr (.inr z) z) (TL.en (TC.cutG (α := ((List UInt8)) × (Unit)) (rgs [(12, 1), (40, 7)]) (fun g => [(12, .string (bs g.1))]) (fun g => [Res.mapB (fun x => Value.agg (encFPair x).toArray) unitV (some b103) m127, Res.cells b120 #[.int .i64 v7c.1.state, .string (bs v7c.1.out)] 65, Res.cells b131 #[.int .i64 ((nth (nth x0 v7c.1.state.toNat ([] : List Arc)) k128 Arc.zero).frm), .int .i64 ((nth (nth x0 v7c.1.state.toNat ([] : List Arc)) k128 Arc.zero).to), .int .u64 ((((nth (nth x0 v7c.1.state.toNat ([] : List Arc)) k128 Arc.zero).set).a : Nat) : Int), .int .u64 ((((nth (nth x0 v7c.1.state.toNat ([] : List Arc)) k128 Arc.zero).set).b : Nat) : Int), .int .u64 ((((nth (nth x0 v7c.1.state.toNat ([] : List Arc)) k128 Arc.zero).set).c : Nat) : Int), .int .u64 ((((nth (nth x0 v7c.1.state.toNat ([] : List Arc)) k128 Arc.zero).set).d : Nat) : Int), .string (bs ((nth (nth x0 v7c.1.state.toNat ([] : List Arc)) k128 Arc.zero).out)), .bool ((nth (nth x0 v7c.1.state.toNat ([] : List Arc)) k128 Arc.zero).copy)] 59, Res.rng (fun x => Value.agg (encFPair x).toArray) unitV b1_0 it105 x1 (l118 ++ l119) (some v7c)]) (fun g => σ) (fun g => Dn_ m127 x0 v7c k128 g.1 = some z2) ?_ (fun g j hg => ?_))))
     ·skip
      refine TC.a (TL.w z (fieldLoc z fo59_4 z) (TL.w z (loadLoc z ag4 z (i := 0) z z) (TL.en (TC.cB z hh (fun h135 hh => ?_) (fun h135 hh => ?_)))))
      ·refine TC.region (TL.w z (moveStr (.inl z) z) (TL.i z z (TL.op z (OpOk.lit (enc := encU8) [x2] z underlying105 sz5 ze5 z z z encU8_len (by decide) (by decide) (0 : UInt8) z (by decide) z (by decide) encU8_one (fun a136 c137 => ?_)))))
       refine TL.isSl (i := 0) z (fun hs139 _ _ => ?_)
       refine TL.w z (bytesStr (l := [x2]) z underlying105 underlying5 underlying9 z hs139 (fun w hw => rdb_row (q := 0) z hw)) ?_
       have u42 := grd_c hh
       replace hh := grd_t hh
       exact TL.w z (catBs z z z u42) (TL.w z (moveStr (.inr z) z) (TL.en (cf (((v7c.1.out ++ (nth (nth x0 v7c.1.state.toNat ([] : List Arc)) k128 Arc.zero).out) ++ [x2]), ()) hh (Sub.f [4, 2, 4, 4] 4))))
      ·exact TC.skip (S.n (cf ((v7c.1.out ++ (nth (nth x0 v7c.1.state.toNat ([] : List Arc)) k128 Arc.zero).out), ()) hh (Sub.f [3, 1, 3, 3] 4)))
     ·skip
      obtain ⟨s134, _⟩ := g
      have hh := hg; clear hg
      try dsimp only
      dsimp only [Dn_] at hh
      refine TC.a (TL.w z (moveMap (.inl z) z) (TL.w z (fieldLoc z fo59_1 z) (TL.w z (loadLoc z ag3 z (i := 2) z z) (TL.w z (moveStr (.inl z) z) (TL.w z (buildL z pl65 ze65 z) (TL.w z (buildL z pl63 ze63 z) (TL.op z (updB (⟨(nth (nth x0 v7c.1.state.toNat ([] : List Arc)) k128 Arc.zero).to, s134⟩ : FPair) () z underlying60 z z z z kl65 ?_))))))))
      refine TL.en (TC.a (TL.w z (moveMap (.inl z) z) (TL.w z (lenB z underlying60 z (i := 0) z) (TL.w z (OpVal.gtr z z z) (TL.en (TC.cD z hh (fun h140 hh => ?_) (fun h140 hh => ?_)))))))
      ·refine TC.a (TL.w z (moveMap (.inr z) z) (TL.j z z (TL.en (TC.by (fun w h => Reach.nilMap (enc := (fun x => Value.agg (encFPair x).toArray)) (encV := unitV) h) (TC.rt 1 (B.r (S.r (S.r ?_))))))))
       replace hh := fin_x hR2 hh
       refine B.r (B.r (S.r ?_))
       replace hh := finA_x hR1 hh
       refine B.r (S.r ?_)
       obtain rfl := so hh
       exact ro [Res.mapB (fun x => Value.agg (encFPair x).toArray) unitV none (FM.emp : FM FPair Unit)] z (RVs.tmp z (RVs.tmp z RVs.nil)) ⟨none, z, z, z⟩
      ·exact TC.skip (B.n (S.n (cf ((m127.put (⟨(nth (nth x0 v7c.1.state.toNat ([] : List Arc)) k128 Arc.zero).to, s134⟩ : FPair) ()), ()) hh (Sub.f [3, 2, 2] 3))))
   ·skip
    obtain ⟨m130, _⟩ := g
    have hh := hg; clear hg
    try dsimp only
    dsimp only [Fj_] at hh
    refine TC.region (TL.w z (OpVal.succ z z z (by omega)) (TL.i z z (TL.en ?_)))
    obtain ⟨hh, hlt142⟩ := nxt_x hR2 hh
    exact lf ((m130, (k128 + 1)), ()) hlt142 hh (Sub.f [2, 2, 2] 3)
  ·refine TC.exit (S.x (S.x ?_))
   replace hh := fin_x hR2 hh
   refine TC.exitHere (B.n (S.n ?_))
   replace hh := nxtA_x hR1 hh
   exact lf (m127, ((l118 ++ l119), (some v7c))) (by simp) hh (Sub.f [2, 1] 2)
end Go.Proofs.YtnpbfjdpglfdkaaGreatDoor
end

section
namespace Go.Proofs.YtnpbfjdpglfdkaaGreatDoor
open Go Go.E Go.E.OpVal Go.E.OpOk Go.Proofs.Tryz
private theorem pf107 : Go.E.plainF Tryz.prog 107 = true := by kernel_rfl
private theorem pf111 : Go.E.plainF Tryz.prog 111 = true := by kernel_rfl
private theorem pf112 : Go.E.plainF Tryz.prog 112 = true := by kernel_rfl
private theorem pf123 : Go.E.plainF Tryz.prog 123 = true := by kernel_rfl
private theorem pf158 : Go.E.plainF Tryz.prog 158 = true := by kernel_rfl
private theorem pf19 : Go.E.plainF Tryz.prog 19 = true := by kernel_rfl
private theorem pf47 : Go.E.plainF Tryz.prog 47 = true := by kernel_rfl
private theorem pf63 : Go.E.plainF Tryz.prog 63 = true := by kernel_rfl
noncomputable def Bw_ (x0 : List UInt8) (x1 : List UInt8) : Option (Int) :=
 some (Lib.compareBytes x0 x1)
theorem Eh_ {σ : Store} {x0 : List UInt8} {x1 : List UInt8}  {r : Int} (hh : Bw_ x0 x1 = some r) :
  Con Tryz.prog 47 #[.string (bs x0), .string (bs x1)] σ [] (PureP (.int .i64 r) σ) := by
 dsimp only [Bw_] at hh
 refine Con.mk (n := 8) Tryz.func47 z z z (fun w0 => ?_)
 refine TC.a (TL.i z z (TL.en (TC.a (TL.w z (moveStr (.inl z) z) (TL.w z (moveStr (.inl z) z) (TL.w z (cmpStr z z Tryz.func79 (by kernel_rfl) (by kernel_rfl) (by kernel_rfl) (by kernel_rfl) z z) (TL.i z z (TL.en (TC.ret ?_)))))))))
 obtain rfl := so hh
 exact rq [4] ⟨z, z, z⟩
noncomputable def Cu_ (x0 : List UInt8) (x1 : List UInt8) : Option (Int) :=
 bnd (Bw_ x0 x1) (fun v4 => some v4)
theorem Ds_ {σ : Store} {x0 : List UInt8} {x1 : List UInt8}  {r : Int} (hh : Cu_ x0 x1 = some r) :
  Con Tryz.prog 19 #[.string (bs x0), .string (bs x1)] σ [] (PureP (.int .i64 r) σ) := by
 dsimp only [Cu_] at hh
 refine Con.mk (n := 8) Tryz.func19 z z z (fun w0 => ?_)
 refine TC.a (TL.i z z (TL.en (TC.a (TL.w z (moveStr (.inl z) z) (TL.w z (moveStr (.inl z) z) ?_)))))
 obtain ⟨v4, u4, hh⟩ := bnd_e hh
 refine TL.op z (callP (Eh_ u4) z z pf47 z z z ?_)
 refine TL.i z z (TL.en (TC.ret ?_))
 obtain rfl := so hh
 exact rq [4] ⟨z, z, z⟩
noncomputable def isNaNU (x0 : Nat) : Option (Bool) :=
 some (decide (x0 ≠ x0))
theorem isNaNU_con {σ : Store} {x0 : Nat}  {r : Bool} (hh : isNaNU x0 = some r) :
  Con Tryz.prog 158 #[.int .u64 ((x0 : Nat) : Int)] σ [] (PureP (.bool r) σ) := by
 dsimp only [isNaNU] at hh
 refine Con.mk (n := 6) Tryz.func158 z z z (fun w0 => ?_)
 refine TC.a (TL.j z z (TL.en (TC.a (TL.i z z (TL.i z z (TL.w z (neqU z z z) (TL.j z z (TL.en (TC.ret ?_)))))))))
 obtain rfl := so hh
 exact rq [2] ⟨z, z, z⟩
noncomputable def compareU (x0 : Nat) (x1 : Nat) : Option (Int) :=
 bnd (isNaNU x0) (fun v3 => bnd (isNaNU x1) (fun v6 => iteO v3 (iteO v6 (some 0) (some (-1))) (iteO v6 (some 1) (iteO (decide (x0 < x1)) (some (-1)) (iteO (decide (x1 < x0)) (some 1) (some 0))))))
theorem compareU_con {σ : Store} {x0 : Nat} {x1 : Nat}  {r : Int} (hh : compareU x0 x1 = some r) :
  Con Tryz.prog 123 #[.int .u64 ((x0 : Nat) : Int), .int .u64 ((x1 : Nat) : Int)] σ [] (PureP (.int .i64 r) σ) := by
 dsimp only [compareU] at hh
 refine Con.mk (n := 20) Tryz.func123 z z z (fun w0 => ?_)
 refine TC.a (TL.i z z (TL.en (TC.a (TL.i z z ?_))))
 obtain ⟨v3, u3, hh⟩ := bnd_e hh
 refine TL.op z (callP (isNaNU_con u3) z z pf158 z z z ?_)
 refine TL.j z z (TL.en (TC.a (TL.i z z ?_)))
 obtain ⟨v6, u6, hh⟩ := bnd_e hh
 refine TL.op z (callP (isNaNU_con u6) z z pf158 z z z ?_)
 refine TL.j z z (TL.en (TC.seq (TC.a (TL.j z z (TL.en (TC.cB z hh (fun h101 hh => ?_) (fun h101 hh => ?_)))))))
 ·refine TC.seq (TC.a (TL.j z z (TL.en (TC.cB z hh (fun h102 hh => ?_) (fun h102 hh => ?_)))))
  ·refine TC.a (TL.i z z (TL.en (TC.ret (S.r (S.r ?_)))))
   obtain rfl := so hh
   exact rq [4] ⟨z, z, z⟩
  ·refine TC.skip (S.n (TC.a (TL.i z z (TL.en (TC.ret (S.r ?_))))))
   obtain rfl := so hh
   exact rq [4] ⟨z, z, z⟩
 ·refine TC.skip (S.n (TC.seq (TC.a (TL.j z z (TL.en (TC.cB z hh (fun h103 hh => ?_) (fun h103 hh => ?_)))))))
  ·refine TC.a (TL.i z z (TL.en (TC.ret (S.r ?_))))
   obtain rfl := so hh
   exact rq [4] ⟨z, z, z⟩
  ·refine TC.skip (S.n (TC.seq (TC.a (TL.i z z (TL.i z z (TL.w z (lssU z z z) (TL.en (TC.cD z hh (fun h104 hh => ?_) (fun h104 hh => ?_)))))))))
   ·refine TC.a (TL.i z z (TL.en (TC.ret (S.r ?_))))
    obtain rfl := so hh
    exact rq [4] ⟨z, z, z⟩
   ·refine TC.skip (S.n (TC.seq (TC.a (TL.i z z (TL.i z z (TL.w z (gtrU z z z) (TL.en (TC.cD z hh (fun h105 hh => ?_) (fun h105 hh => ?_)))))))))
    ·refine TC.a (TL.i z z (TL.en (TC.ret (S.r ?_))))
     obtain rfl := so hh
     exact rq [4] ⟨z, z, z⟩
    ·refine TC.skip (S.n (TC.a (TL.i z z (TL.en (TC.ret ?_)))))
     obtain rfl := so hh
     exact rq [4] ⟨z, z, z⟩
noncomputable def E0_ (x0 : Bool) : Option (Int) :=
 iteO x0 (some 1) (some 0)
theorem Gz_ {σ : Store} {x0 : Bool}  {r : Int} (hh : E0_ x0 = some r) :
  Con Tryz.prog 112 #[.bool x0] σ [] (PureP (.int .i64 r) σ) := by
 dsimp only [E0_] at hh
 refine Con.mk (n := 4) Tryz.func112 z z z (fun w0 => ?_)
 refine TC.a (TL.i z z (TL.en (TC.seq (TC.a (TL.j z z (TL.en (TC.cB z hh (fun h101 hh => ?_) (fun h101 hh => ?_))))))))
 ·refine TC.a (TL.i z z (TL.en (TC.ret (S.r ?_))))
  obtain rfl := so hh
  exact rq [2] ⟨z, z, z⟩
 ·refine TC.skip (S.n (TC.a (TL.i z z (TL.en (TC.ret ?_)))))
  obtain rfl := so hh
  exact rq [2] ⟨z, z, z⟩
noncomputable def C9_ (x0 : List Int) (k103 : Nat) : Option ((Nat) ⊕ (Int)) :=
 iteO (decide (((k103 : Nat) : Int) < ((x0.length : Nat) : Int))) (iteO (decide ((nth x0 k103 (0 : Int)) ≠ 0)) (fin (some (nth x0 k103 (0 : Int)))) (nxt (k103 + 1))) (fin (some 0))
noncomputable def Gy_ (x0 : List Int) : Option (Int) :=
 iter (fun q : Nat => C9_ x0 q) 0
theorem Hp_ {σ : Store} {x0 : List Int} {a0_0 : Option Addr} {c0_0 : Nat} (f0_0 : RS σ 1 Go.E.encI (.slice a0_0 x0.length c0_0) x0) {r : Int} (hh : Gy_ x0 = some r) :
  Con Tryz.prog 107 #[.slice a0_0 x0.length c0_0] σ [] (PureP (.int .i64 r) σ) := by
 dsimp only [Gy_] at hh
 have f0_0b := f0_0.rv.big
 refine Con.mk (n := 18) Tryz.func107 z z z (fun w0 => ?_)
 refine TC.a (TL.i z z (TL.en (TC.a (TL.i z z (TL.en (TC.seq (TC.a (TL.s z z (TL.w z (lenC z underlying27 z) (TL.i z z (TL.en (TC.block (TC.loopG (α := (Nat) × (Unit)) (rgs [(2, 1), (5, 1), (8, 9)]) (fun g => [(8, .int .i64 ((g.1 : Nat) : Int))]) (fun g => []) (fun g => σ) (fun g => iter (fun q : Nat => C9_ x0 q) g.1 = some r) (fun g => rounds (fun q : Nat => C9_ x0 q) g.1) (0, ()) (Sub.pre 0 z) z (by repeat (first | exact trivial | refine ⟨z, ?_⟩)) hh (fun g1 j1 hg1 => ?_))))))))))))))
 obtain ⟨k103, _⟩ := g1
 have hh := hg1; clear hg1
 try dsimp only
 obtain ⟨z1, hh, hR1⟩ := iter_e hh
 dsimp only [C9_] at hh
 refine TC.a (TL.w z (OpVal.lss z z z) (TL.en (TC.seq (TC.cD z hh (fun h104 hh => ?_) (fun h104 hh => ?_)))))
 ·refine TC.skip (S.n (TC.seq (TC.block (TC.a (TL.w z (indexN z underlying27 sz3 z z f0_0.rv.sl (by omega)) (TL.w z (loadS1 (0 : Int) z ag3 z f0_0 (by omega) z) (TL.i z z (TL.en (TC.a (TL.i z z (TL.i z z (TL.w z (OpVal.neq z z z) (TL.en (TC.cD z hh (fun h105 hh => ?_) (fun h105 hh => ?_)))))))))))))))
  ·refine TC.a (TL.i z z (TL.i z z (TL.en (TC.ret (B.r (S.r (S.r ?_)))))))
   replace hh := fin_x hR1 hh
   refine B.r (S.r ?_)
   obtain rfl := so hh
   exact rq [2] ⟨z, z, z⟩
  ·refine TC.skip (B.n (S.n (TC.region (TL.w z (OpVal.succ z z z (by omega)) (TL.i z z (TL.en ?_))))))
   obtain ⟨hh, hlt106⟩ := nxt_x hR1 hh
   exact lf ((k103 + 1), ()) hlt106 hh (Sub.pre 0 z)
 ·refine TC.exit (S.x (S.x ?_))
  replace hh := fin_x hR1 hh
  refine TC.exitHere (S.n (TC.a (TL.i z z (TL.i z z (TL.en (TC.ret ?_))))))
  obtain rfl := so hh
  exact rq [2] ⟨z, z, z⟩
noncomputable def D0_ (x0 : Tip) (x1 : Tip) : Option (Int) :=
 bnd (Cj_ x0.state x1.state) (fun v8 => bnd (Cu_ x0.out x1.out) (fun v13 => bnd (Gy_ [v8, v13]) (fun v15 => some v15)))
theorem Hb_ {σ : Store} {x0 : Tip} {x1 : Tip}  {r : Int} (hh : D0_ x0 x1 = some r) :
  Con Tryz.prog 83 #[.agg #[.int .i64 x0.state, .string (bs x0.out)], .agg #[.int .i64 x1.state, .string (bs x1.out)]] σ [] (PureP (.int .i64 r) σ) := by
 dsimp only [D0_] at hh
 refine Con.mk (n := 17) Tryz.func83 z z z (fun w0 => ?_)
 refine TC.a (TL.op z (boxA z z z z (fun b101 => ?_)))
 refine TL.op z (boxA z z z z (fun b103 => ?_))
 refine TL.i z z (TL.en (TC.seq ?_))
 obtain ⟨v8, u8, hh⟩ := bnd_e hh
 obtain ⟨v13, u13, hh⟩ := bnd_e hh
 obtain ⟨v15, u15, hh⟩ := bnd_e hh
 refine TC.draw [] (by kernel_rfl) (TA.a 0 z (fieldLoc z fo62_0 z) z (TA.b 1 z (loadLoc z ag3 z (i := 1) z z) z (TA.a 2 z (fieldLoc z fo62_0 z) z (TA.b 3 z (loadLoc z ag3 z (i := 0) z z) z (TA.a 5 z (fieldLoc z fo62_1 z) z (TA.b 6 z (loadLoc z ag9 z (i := 1) z z) z (TA.a 7 z (fieldLoc z fo62_1 z) z (TA.b 8 z (loadLoc z ag9 z (i := 0) z z) z (TA.ac 4 z (callP (Ct_ u8) z z pf63 z z z (k0 ?_)))))))))))
 refine TA.ac 9 z (callP (Ds_ u13) z z pf19 z z z (k0 ?_))
 refine TA.ac 10 z (OpOk.lit (enc := Go.E.encI) [v8, v13] z underlying27 sz3 ze3 z z z Go.E.encI_len (by decide) (by decide) (0 : Int) z (by decide) z (by decide) Go.E.encI_one (fun a110 c111 => (k1 ?_)))
 refine TA.ac 11 z (callK (Con.lend Go.E.encI_len (fun _ hle114 hr113 => Hp_ hr113 u15)) z z pf107 z z z z (k1 ?_))
 refine TA.a 12 z (moveI (.inr z) z) z (TA.dn (S.n (TC.rt 0 ?_)))
 obtain rfl := so hh
 exact rq [4] ⟨z, z, z⟩
noncomputable def compareUs_b1 (x0 : List Nat) (x1 : List Nat) (k103 : Nat) : Option ((Nat) ⊕ (Int)) :=
 iteO (decide (((k103 : Nat) : Int) < ((x0.length : Nat) : Int))) (iteO (decide (((x1.length : Nat) : Int) ≤ ((k103 : Nat) : Int))) (fin (some 1)) (grd (k103 < x1.length) (bnd (compareU (nth x0 k103 (0 : Nat)) (nth x1 k103 (0 : Nat))) (fun v23 => iteO (decide (v23 ≠ 0)) (fin (some v23)) (nxt (k103 + 1)))))) (fin (iteO (decide (((x0.length : Nat) : Int) < ((x1.length : Nat) : Int))) (some (-1)) (some 0)))
noncomputable def compareUs (x0 : List Nat) (x1 : List Nat) : Option (Int) :=
 iter (fun q : Nat => compareUs_b1 x0 x1 q) 0
theorem compareUs_con {σ : Store} {x0 : List Nat} {a0_0 : Option Addr} {c0_0 : Nat} {x1 : List Nat} {a1_0 : Option Addr} {c1_0 : Nat} (f0_0 : RS σ 1 encW (.slice a0_0 x0.length c0_0) x0) (f1_0 : RS σ 1 encW (.slice a1_0 x1.length c1_0) x1) {r : Int} (hh : compareUs x0 x1 = some r) :
  Con Tryz.prog 111 #[.slice a0_0 x0.length c0_0, .slice a1_0 x1.length c1_0] σ [] (PureP (.int .i64 r) σ) := by
 dsimp only [compareUs] at hh
 have f0_0b := f0_0.rv.big
 have f1_0b := f1_0.rv.big
 refine Con.mk (n := 36) Tryz.func111 z z z (fun w0 => ?_)
 refine TC.a (TL.i z z (TL.en (TC.seq (TC.a (TL.s z z (TL.w z (lenC z underlying177 z) (TL.i z z (TL.en (TC.block (TC.loopG (α := (Nat) × (Unit)) (rgs [(4, 5), (11, 20)]) (fun g => [(11, .int .i64 ((g.1 : Nat) : Int))]) (fun g => []) (fun g => σ) (fun g => iter (fun q : Nat => compareUs_b1 x0 x1 q) g.1 = some r) (fun g => rounds (fun q : Nat => compareUs_b1 x0 x1 q) g.1) (0, ()) (Sub.pre 0 z) z (by repeat (first | exact trivial | refine ⟨z, ?_⟩)) hh (fun g1 j1 hg1 => ?_)))))))))))
 obtain ⟨k103, _⟩ := g1
 have hh := hg1; clear hg1
 try dsimp only
 obtain ⟨z1, hh, hR1⟩ := iter_e hh
 dsimp only [compareUs_b1] at hh
 refine TC.a (TL.w z (OpVal.lss z z z) (TL.en (TC.seq (TC.cD z hh (fun h104 hh => ?_) (fun h104 hh => ?_)))))
 ·refine TC.skip (S.n (TC.seq (TC.block (TC.a (TL.i z z (TL.w z (indexN z underlying177 sz55 z z f0_0.rv.sl (by omega)) (TL.w z (loadS1 (0 : Nat) z ag55 z f0_0 (by omega) z) (TL.i z z (TL.i z z (TL.en (TC.seq (TC.a (TL.i z z (TL.s z z (TL.w z (lenC z underlying177 z) (TL.w z (OpVal.geq z z z) (TL.en (TC.cD z hh (fun h105 hh => ?_) (fun h105 hh => ?_)))))))))))))))))))
  ·refine TC.a (TL.i z z (TL.en (TC.ret (S.r (B.r (S.r (S.r ?_)))))))
   replace hh := fin_x hR1 hh
   refine B.r (S.r ?_)
   obtain rfl := so hh
   exact rq [4] ⟨z, z, z⟩
  ·refine TC.skip (S.n (TC.a (TL.s z z (TL.i z z ?_))))
   have u18 := grd_c hh
   replace hh := grd_t hh
   refine TL.w z (indexN z underlying177 sz55 z z f1_0.rv.sl (by omega)) (TL.w z (loadS1 (0 : Nat) z ag55 z f1_0 (by omega) z) (TL.i z z (TL.en (TC.a (TL.i z z (TL.i z z ?_))))))
   obtain ⟨v23, u23, hh⟩ := bnd_e hh
   refine TL.op z (callP (compareU_con u23) z z pf123 z z z ?_)
   refine TL.i z z (TL.en (TC.a (TL.i z z (TL.w z (OpVal.neq z z z) (TL.en (TC.cD z hh (fun h106 hh => ?_) (fun h106 hh => ?_)))))))
   ·refine TC.a (TL.i z z (TL.i z z (TL.en (TC.ret (B.r (S.r (S.r ?_)))))))
    replace hh := fin_x hR1 hh
    refine B.r (S.r ?_)
    obtain rfl := so hh
    exact rq [4] ⟨z, z, z⟩
   ·refine TC.skip (B.n (S.n (TC.region (TL.w z (OpVal.succ z z z (by omega)) (TL.i z z (TL.en ?_))))))
    obtain ⟨hh, hlt107⟩ := nxt_x hR1 hh
    exact lf ((k103 + 1), ()) hlt107 hh (Sub.pre 0 z)
 ·refine TC.exit (S.x (S.x ?_))
  replace hh := fin_x hR1 hh
  refine TC.exitHere (S.n (TC.seq (TC.a (TL.s z z (TL.w z (lenC z underlying177 z) (TL.s z z (TL.w z (lenC z underlying177 z) (TL.w z (OpVal.lss z z z) (TL.en (TC.cD z hh (fun h108 hh => ?_) (fun h108 hh => ?_)))))))))))
  ·refine TC.a (TL.i z z (TL.en (TC.ret (S.r ?_))))
   obtain rfl := so hh
   exact rq [4] ⟨z, z, z⟩
  ·refine TC.skip (S.n (TC.a (TL.i z z (TL.en (TC.ret ?_)))))
   obtain rfl := so hh
   exact rq [4] ⟨z, z, z⟩
noncomputable def Dv_ (x0 : Arc) (x1 : Arc) : Option (Int) :=
 bnd (Cj_ x0.frm x1.frm) (fun v8 => bnd (Cj_ x0.to x1.to) (fun v13 => bnd (compareUs [x0.set.a, x0.set.b, x0.set.c, x0.set.d] [x1.set.a, x1.set.b, x1.set.c, x1.set.d]) (fun v18 => bnd (Cu_ x0.out x1.out) (fun v23 => bnd (E0_ x0.copy) (fun v26 => bnd (E0_ x1.copy) (fun v29 => bnd (Cj_ v26 v29) (fun v30 => bnd (Gy_ [v8, v13, v18, v23, v30]) (fun v32 => some v32))))))))
theorem Hc_ {σ : Store} {x0 : Arc} {x1 : Arc}  {r : Int} (hh : Dv_ x0 x1 = some r) :
  Con Tryz.prog 85 #[.agg #[.int .i64 x0.frm, .int .i64 x0.to, .int .u64 ((x0.set.a : Nat) : Int), .int .u64 ((x0.set.b : Nat) : Int), .int .u64 ((x0.set.c : Nat) : Int), .int .u64 ((x0.set.d : Nat) : Int), .string (bs x0.out), .bool x0.copy], .agg #[.int .i64 x1.frm, .int .i64 x1.to, .int .u64 ((x1.set.a : Nat) : Int), .int .u64 ((x1.set.b : Nat) : Int), .int .u64 ((x1.set.c : Nat) : Int), .int .u64 ((x1.set.d : Nat) : Int), .string (bs x1.out), .bool x1.copy]] σ [] (PureP (.int .i64 r) σ) := by
 dsimp only [Dv_] at hh
 refine Con.mk (n := 34) Tryz.func85 z z z (fun w0 => ?_)
 refine TC.a (TL.op z (boxA z z z z (fun b101 => ?_)))
 refine TL.op z (boxA z z z z (fun b103 => ?_))
 refine TL.i z z (TL.en (TC.seq ?_))
 obtain ⟨v8, u8, hh⟩ := bnd_e hh
 obtain ⟨v13, u13, hh⟩ := bnd_e hh
 obtain ⟨v18, u18, hh⟩ := bnd_e hh
 obtain ⟨v23, u23, hh⟩ := bnd_e hh
 obtain ⟨v26, u26, hh⟩ := bnd_e hh
 obtain ⟨v29, u29, hh⟩ := bnd_e hh
 obtain ⟨v30, u30, hh⟩ := bnd_e hh
 obtain ⟨v32, u32, hh⟩ := bnd_e hh
 refine TC.draw [] (by kernel_rfl) (TA.a 0 z (fieldLoc z fo59_0 z) z (TA.b 1 z (loadLoc z ag3 z (i := 1) z z) z (TA.a 2 z (fieldLoc z fo59_0 z) z (TA.b 3 z (loadLoc z ag3 z (i := 0) z z) z (TA.a 5 z (fieldLoc z fo59_1 z) z (TA.b 6 z (loadLoc z ag3 z (i := 1) z z) z (TA.a 7 z (fieldLoc z fo59_1 z) z (TA.b 8 z (loadLoc z ag3 z (i := 0) z z) z (TA.a 10 z (fieldLoc z fo59_2 z) z (TA.b 11 z (sliceArr z underlying57 sz55 z) z (TA.a 12 z (fieldLoc z fo59_2 z) z (TA.b 13 z (sliceArr z underlying57 sz55 z) z (TA.a 15 z (fieldLoc z fo59_3 z) z (TA.b 16 z (loadLoc z ag9 z (i := 1) z z) z (TA.a 17 z (fieldLoc z fo59_3 z) z (TA.b 18 z (loadLoc z ag9 z (i := 0) z z) z (TA.a 20 z (fieldLoc z fo59_4 z) z (TA.b 21 z (loadLoc z ag4 z (i := 1) z z) z (TA.a 23 z (fieldLoc z fo59_4 z) z (TA.b 24 z (loadLoc z ag4 z (i := 0) z z) z (TA.ac 4 z (callP (Ct_ u8) z z pf63 z z z (k0 ?_)))))))))))))))))))))))
 refine TA.ac 9 z (callP (Ct_ u13) z z pf63 z z z (k0 ?_))
 refine TA.front 1 z z (TA.ac 14 z (callK (Con.lendC (fun _ hle116 hr114 => Con.lendC (fun _ hle117 hr115 => compareUs_con (RS.ofCells (l := [x0.set.a, x0.set.b, x0.set.c, x0.set.d]) (hle117 _ _ hr114) encW_len encW_one z z z) (RS.ofCells (l := [x1.set.a, x1.set.b, x1.set.c, x1.set.d]) hr115 encW_len encW_one z z z) u18))) z z pf111 z z z z ⟨(fun w h => sees_of (Store.le.refl _) (fun r hr => mem_pick [1, 0] z hr) w h), ?_⟩))
 refine TA.ac 19 z (callP (Ds_ u23) z z pf19 z z z ⟨(fun w h => sees_of (Store.le.refl _) (fun r hr => mem_pick [1, 0] z hr) w h), ?_⟩)
 refine TA.ac 22 z (callP (Gz_ u26) z z pf112 z z z ⟨(fun w h => sees_of (Store.le.refl _) (fun r hr => mem_pick [1, 0] z hr) w h), ?_⟩)
 refine TA.ac 25 z (callP (Gz_ u29) z z pf112 z z z ⟨(fun w h => sees_of (Store.le.refl _) (fun r hr => mem_pick [1, 0] z hr) w h), ?_⟩)
 refine TA.ac 26 z (callP (Ct_ u30) z z pf63 z z z ⟨(fun w h => sees_of (Store.le.refl _) (fun r hr => mem_pick [1, 0] z hr) w h), ?_⟩)
 refine TA.ac 27 z (OpOk.lit (enc := Go.E.encI) [v8, v13, v18, v23, v30] z underlying27 sz3 ze3 z z z Go.E.encI_len (by decide) (by decide) (0 : Int) z (by decide) z (by decide) Go.E.encI_one (fun a118 c119 => ⟨(fun w h => sees_of (Store.le.refl _) (fun r hr => mem_pick [2, 1] z hr) w h), ?_⟩))
 refine TA.ac 28 z (callK (Con.lend Go.E.encI_len (fun _ hle122 hr121 => Hp_ hr121 u32)) z z pf107 z z z z ⟨(fun w h => sees_of (Store.le.refl _) (fun r hr => mem_pick [2, 1] z hr) w h), ?_⟩)
 refine TA.a 29 z (moveI (.inr z) z) z (TA.dn (S.n (TC.rt 0 ?_)))
 obtain rfl := so hh
 exact rq [4] ⟨z, z, z⟩
end Go.Proofs.YtnpbfjdpglfdkaaGreatDoor
end

section
namespace Go.E
open Go
section
variable {S R : Type} {step : S → Option (S ⊕ R)}
theorem iter_any {y no : R} (f : Nat → S) (p : Nat → Bool) (n : Nat) (hs : ∀ k, k < n → p k = false → step (f k) = some (.inl (f (k + 1)))) (hy : ∀ k, k < n → p k = true → step (f k) = some (.inr y))
    (hd : step (f n) = some (.inr no)) : ∀ k, k ≤ n → iter step (f k) = some (bif (List.range n).any (fun i => decide (k ≤ i) && p i) then y else no) := by
  intro k hk
  obtain ⟨m, rfl⟩ : ∃ m, k = n - m := ⟨n - k, by omega⟩
  induction m with
  | zero =>
    have : (List.range n).any (fun i => decide (n - 0 ≤ i) && p i) = false := by
      rw [List.any_eq_false]; intro i hi; have := List.mem_range.1 hi; simp; omega
    rw [this]; exact iter_done hd
  | succ m ih =>
    by_cases h : m < n
    · have e : n - (m + 1) + 1 = n - m := by omega
      cases hp : p (n - (m + 1)) with
      | true =>
        have : (List.range n).any (fun i => decide (n - (m + 1) ≤ i) && p i) = true := by
          rw [List.any_eq_true]; exact ⟨n - (m + 1), List.mem_range.2 (by omega), by simp [hp]⟩
        rw [this]; exact iter_done (hy _ (by omega) hp)
      | false =>
        have h1 := hs (n - (m + 1)) (by omega) hp
        rw [e] at h1
        have : (List.range n).any (fun i => decide (n - (m + 1) ≤ i) && p i) = (List.range n).any (fun i => decide (n - m ≤ i) && p i) := by
          rw [Bool.eq_iff_iff, List.any_eq_true, List.any_eq_true]
          constructor
          · rintro ⟨i, hi, hx⟩
            simp only [Bool.and_eq_true, decide_eq_true_eq] at hx
            refine ⟨i, hi, ?_⟩
            have : i ≠ n - (m + 1) := fun h => by rw [h, hp] at hx; exact absurd hx.2 Bool.false_ne_true
            simp [hx.2]; omega
          · rintro ⟨i, hi, hx⟩
            simp only [Bool.and_eq_true, decide_eq_true_eq] at hx
            exact ⟨i, hi, by simp [hx.2]; omega⟩
        rw [this]
        exact iter_next h1 (ih (by omega))
    · have e : n - (m + 1) = n - m := by omega
      rw [e]; exact ih (by omega)
theorem iter_any0 {y no : R} (f : Nat → S) (p : Nat → Bool) (n : Nat) (hs : ∀ k, k < n → p k = false → step (f k) = some (.inl (f (k + 1)))) (hy : ∀ k, k < n → p k = true → step (f k) = some (.inr y))
    (hd : step (f n) = some (.inr no)) : iter step (f 0) = some (bif (List.range n).any p then y else no) := by
  have := iter_any f p n hs hy hd 0 (by omega)
  simpa using this
theorem iter_seq0 {r : R} (f : Nat → S) (n : Nat) (hs : ∀ k, k < n → step (f k) = some (.inl (f (k + 1)))) (hd : step (f n) = some (.inr r)) : iter step (f 0) = some r := iter_seq f n hs hd 0 (by omega)
end
theorem range_any {α : Type} (l : List α) (d : α) (p : α → Bool) : (List.range l.length).any (fun i => p (nth l i d)) = l.any p := by
  rw [Bool.eq_iff_iff, List.any_eq_true, List.any_eq_true]
  constructor
  · rintro ⟨i, hi, h⟩
    have hi := List.mem_range.1 hi
    exact ⟨nth l i d, List.mem_of_getElem? (getD_some l hi d), h⟩
  · rintro ⟨x, hx, h⟩
    obtain ⟨i, hi, rfl⟩ := List.getElem_of_mem hx
    refine ⟨i, List.mem_range.2 hi, ?_⟩
    have : nth l i d = l[i] := by have := getD_some l hi d; rw [List.getElem?_eq_getElem hi] at this; exact (Option.some.inj this).symm
    rw [this]; exact h
theorem take_snoc {α : Type} (l : List α) {k : Nat} (h : k < l.length) (d : α) : l.take (k + 1) = l.take k ++ [nth l k d] := by
  rw [List.take_add_one, getD_some l h d]; rfl
theorem nth_mem' {α : Type} {l : List α} {i : Nat} (h : i < l.length) (d : α) : nth l i d ∈ l := List.mem_of_getElem? (getD_some l h d)
end Go.E
end

section
namespace Go.Proofs.YtnpbfjdpglfdkaaGreatDoor
open Go Go.E Go.Sort
structure GoodCmp {α : Type} (c : α → α → Int) : Prop where
  eq : ∀ x y, c x y = 0 ↔ x = y
  anti : ∀ x y, c x y < 0 ↔ 0 < c y x
  trans : ∀ x y z, c x y < 0 → c y z < 0 → c x z < 0
theorem GoodCmp.total {α : Type} {c : α → α → Int} (h : GoodCmp c) : TotalCmp c where
  swo := {
    irrefl := fun x => by have := (h.eq x x).2 rfl; simp [ltOf, this]
    trans := fun x y z h1 h2 => by
      simp only [ltOf, decide_eq_true_eq] at *
      exact h.trans x y z h1 h2
    ntrans := fun x y z h1 h2 => by
      simp only [ltOf, decide_eq_false_iff_not] at *
      intro h3
      by_cases e1 : x = y
      · subst e1; exact h2 h3
      · by_cases e2 : y = z
        · subst e2; exact h1 h3
        · have n1 : c x y ≠ 0 := fun e => e1 ((h.eq _ _).1 e)
          have n2 : c y z ≠ 0 := fun e => e2 ((h.eq _ _).1 e)
          have h4 : c z y < 0 := (h.anti _ _).2 (by omega)
          exact h1 (h.trans _ _ _ h3 h4) }
  tot := fun x y h1 h2 => by
    simp only [ltOf, decide_eq_false_iff_not] at *
    refine (h.eq x y).1 ?_
    have := (h.anti y x)
    omega
def corI (a b : Int) : Int := if a ≠ 0 then a else b
theorem GoodCmp.lex {α β γ : Type} {c : β → β → Int} {d : γ → γ → Int} (hc : GoodCmp c) (hd : GoodCmp d) (f : α → β) (g : α → γ) (hfg : ∀ x y, f x = f y → g x = g y → x = y) : GoodCmp fun x y => corI (c (f x) (f y)) (d (g x) (g y)) where
  eq x y := by
    unfold corI
    by_cases h : c (f x) (f y) = 0
    · have hf := (hc.eq _ _).1 h
      simp only [h, ne_eq, not_true_eq_false, if_false, hd.eq]
      exact ⟨fun hg => hfg x y hf hg, fun e => by rw [e]⟩
    · simp only [ne_eq, h, not_false_eq_true, if_true, false_iff]
      intro e; subst e; exact h ((hc.eq _ _).2 rfl)
  anti x y := by
    unfold corI
    have h1 := hc.anti (f x) (f y)
    have h2 := hc.anti (f y) (f x)
    have h3 := hd.anti (g x) (g y)
    by_cases h : c (f x) (f y) = 0
    · have hf := (hc.eq _ _).1 h
      have h' : c (f y) (f x) = 0 := (hc.eq _ _).2 hf.symm
      simp only [h, h', ne_eq, not_true_eq_false, if_false]; exact h3
    · have h' : c (f y) (f x) ≠ 0 := fun e => h ((hc.eq _ _).2 ((hc.eq _ _).1 e).symm)
      simp only [h, h', ne_eq, not_false_eq_true, if_true]; exact h1
  trans x y z := by
    unfold corI
    intro h1 h2
    by_cases a : c (f x) (f y) = 0
    · have ea := (hc.eq _ _).1 a
      rw [a] at h1; simp only [ne_eq, not_true_eq_false, if_false] at h1
      rw [ea]
      by_cases b : c (f y) (f z) = 0
      · rw [b] at h2 ⊢
        simp only [ne_eq, not_true_eq_false, if_false] at h2 ⊢
        exact hd.trans _ _ _ h1 h2
      · simp only [ne_eq, b, not_false_eq_true, if_true] at h2 ⊢; exact h2
    · simp only [ne_eq, a, not_false_eq_true, if_true] at h1
      by_cases b : c (f y) (f z) = 0
      · have eb := (hc.eq _ _).1 b
        rw [← eb]
        simp only [ne_eq, a, not_false_eq_true, if_true]; exact h1
      · simp only [ne_eq, b, not_false_eq_true, if_true] at h2
        have h3 := hc.trans _ _ _ h1 h2
        have h4 : c (f x) (f z) ≠ 0 := by omega
        simp only [ne_eq, h4, not_false_eq_true, if_true]; exact h3
def cmpI (x y : Int) : Int := if x < y then -1 else if y < x then 1 else 0
theorem cmpI_good : GoodCmp cmpI where
  eq x y := by unfold cmpI; (repeat' split) <;> omega
  anti x y := by unfold cmpI; (repeat' split) <;> omega
  trans x y z := by unfold cmpI; (repeat' split) <;> omega
def cmpN (x y : Nat) : Int := if x < y then -1 else if y < x then 1 else 0
theorem cmpN_good : GoodCmp cmpN where
  eq x y := by unfold cmpN; (repeat' split) <;> omega
  anti x y := by unfold cmpN; (repeat' split) <;> omega
  trans x y z := by unfold cmpN; (repeat' split) <;> omega
theorem cmpB_eq : ∀ a b : List UInt8, Lib.compareBytes a b = 0 ↔ a = b
  | [], [] => by simp [Lib.compareBytes]
  | [], _ :: _ => by simp [Lib.compareBytes]
  | _ :: _, [] => by simp [Lib.compareBytes]
  | x :: a, y :: b => by
    simp only [Lib.compareBytes]
    split
    · rename_i h; simp; intro e; subst e; exact absurd h (UInt8.lt_irrefl _)
    · rename_i h
      split
      · rename_i h'; simp; intro e; subst e; exact absurd h' (UInt8.lt_irrefl _)
      · rename_i h'
        have : x = y := UInt8.le_antisymm (UInt8.not_lt.1 h') (UInt8.not_lt.1 h)
        subst this
        simp [cmpB_eq a b]
theorem cmpB_anti : ∀ a b : List UInt8, Lib.compareBytes a b < 0 ↔ 0 < Lib.compareBytes b a
  | [], [] => by simp [Lib.compareBytes]
  | [], _ :: _ => by simp [Lib.compareBytes]
  | _ :: _, [] => by simp [Lib.compareBytes]
  | x :: a, y :: b => by
    simp only [Lib.compareBytes]
    by_cases h : x < y
    · have h' : ¬ y < x := fun h2 => UInt8.lt_irrefl _ (UInt8.lt_trans h h2)
      simp [h, h']
    · by_cases h' : y < x
      · simp [h, h']
      · simp [h, h', cmpB_anti a b]
theorem cmpB_trans : ∀ a b c : List UInt8, Lib.compareBytes a b < 0 → Lib.compareBytes b c < 0 → Lib.compareBytes a c < 0
  | [], [], c, h, _ => by simp [Lib.compareBytes] at h
  | [], _ :: _, [], _, h => by simp [Lib.compareBytes] at h
  | [], _ :: _, _ :: _, _, _ => by simp [Lib.compareBytes]
  | _ :: _, [], c, h, _ => by simp [Lib.compareBytes] at h
  | _ :: _, _ :: _, [], _, h => by simp [Lib.compareBytes] at h
  | x :: a, y :: b, z :: c, h1, h2 => by
    simp only [Lib.compareBytes] at *
    by_cases hxy : x < y
    · by_cases hyz : y < z
      · have := UInt8.lt_trans hxy hyz; simp [this]
      · by_cases hzy : z < y
        · simp [hyz, hzy] at h2
        · have : y = z := UInt8.le_antisymm (UInt8.not_lt.1 hzy) (UInt8.not_lt.1 hyz)
          subst this; simp [hxy]
    · by_cases hyx : y < x
      · simp [hxy, hyx] at h1
      · have : x = y := UInt8.le_antisymm (UInt8.not_lt.1 hyx) (UInt8.not_lt.1 hxy)
        subst this
        simp only [UInt8.lt_irrefl, if_false] at h1
        by_cases hyz : x < z
        · simp [hyz]
        · by_cases hzy : z < x
          · simp [hyz, hzy] at h2
          · simp only [hyz, hzy, if_false] at h2 ⊢
            exact cmpB_trans a b c h1 h2
theorem cmpB_good : GoodCmp Lib.compareBytes := ⟨cmpB_eq, cmpB_anti, cmpB_trans⟩
def cmpBool (x y : Bool) : Int := cmpI (if x then 1 else 0) (if y then 1 else 0)
theorem cmpBool_good : GoodCmp cmpBool where
  eq x y := by cases x <;> cases y <;> decide
  anti x y := by cases x <;> cases y <;> decide
  trans x y z := by cases x <;> cases y <;> cases z <;> decide
theorem lt_dec {k n : Nat} (h : k < n) : decide (((k : Nat) : Int) < ((n : Nat) : Int)) = true := decide_eq_true (by omega)
theorem cmpI_lt {x y : Int} : cmpI x y < 0 ↔ x < y := by unfold cmpI; (repeat' split) <;> omega
end Go.Proofs.YtnpbfjdpglfdkaaGreatDoor
end

section
namespace Go.Proofs.YtnpbfjdpglfdkaaGreatDoor
open Go Go.E Go.Sort
theorem C6_ (x y : Int) : Cj_ x y = some (cmpI x y) := by
  unfold Cj_ Fv_ cmpI
  simp only [bnd, Option.bind_some, ne_eq, not_true_eq_false, decide_false, iteO_false]
  by_cases h : x < y
  · simp [h]
  · by_cases h' : y < x <;> simp [h, h']
theorem compareU_eq (x y : Nat) : compareU x y = some (cmpN x y) := by
  unfold compareU isNaNU cmpN
  simp only [bnd, Option.bind_some, ne_eq, not_true_eq_false, decide_false, iteO_false]
  by_cases h : x < y
  · simp [h]
  · by_cases h' : y < x <;> simp [h, h']
theorem D7_ (x y : List UInt8) : Cu_ x y = some (Lib.compareBytes x y) := rfl
def orL : List Int → Int
  | [] => 0
  | a :: l => corI a (orL l)
theorem Is_ (l : List Int) : ∀ m k, l.length = k + m → iter (fun q : Nat => C9_ l q) k = some (orL (l.drop k)) := by
  intro m
  induction m with
  | zero =>
    intro k hk
    refine iter_done ?_
    rw [List.drop_of_length_le (by omega)]
    simp only [C9_, decide_eq_false (show ¬ ((k : Nat) : Int) < ((l.length : Nat) : Int) by omega), iteO_false]; rfl
  | succ m ih =>
    intro k hk
    have hlt : k < l.length := by omega
    have hd : l.drop k = nth l k 0 :: l.drop (k + 1) := by
      rw [List.drop_eq_getElem_cons hlt]
      have := getD_some l hlt 0
      rw [List.getElem?_eq_getElem hlt, Option.some.injEq] at this
      rw [this]
    rw [hd, orL, corI]
    by_cases h : nth l k 0 ≠ 0
    · rw [if_pos h]
      refine iter_done ?_
      simp only [C9_, decide_eq_true (show ((k : Nat) : Int) < ((l.length : Nat) : Int) by omega), iteO_true, decide_eq_true h]; rfl
    · rw [if_neg h]
      refine iter_next (s' := k + 1) ?_ (ih (k + 1) (by omega))
      simp only [C9_, decide_eq_true (show ((k : Nat) : Int) < ((l.length : Nat) : Int) by omega), iteO_true, decide_eq_false h]; rfl
theorem H1_ (l : List Int) : Gy_ l = some (orL l) := by
  unfold Gy_; rw [Is_ l l.length 0 (by omega), List.drop_zero]
def cmpTip (x y : Tip) : Int := corI (cmpI x.state y.state) (corI (Lib.compareBytes x.out y.out) 0)
theorem compareTips_eq (x y : Tip) : D0_ x y = some (cmpTip x y) := by
  unfold D0_
  rw [bnd_some (C6_ _ _), bnd_some (D7_ _ _), bnd_some (H1_ _)]; rfl
theorem corI_zero (a : Int) : corI a 0 = a := by unfold corI; split <;> omega
theorem cmpTip_good : GoodCmp cmpTip := by
  have := GoodCmp.lex cmpI_good cmpB_good Tip.state Tip.out (fun x y h1 h2 => by cases x; cases y; simp_all)
  have e : cmpTip = fun x y => corI (cmpI x.state y.state) (Lib.compareBytes x.out y.out) := by
    funext x y; unfold cmpTip; rw [corI_zero]
  rw [e]; exact this
def cmpSet (s t : BSet) : Int := corI (cmpN s.a t.a) (corI (cmpN s.b t.b) (corI (cmpN s.c t.c) (cmpN s.d t.d)))
theorem compareUs_four (a b c d a' b' c' d' : Nat) : compareUs [a, b, c, d] [a', b', c', d'] = some (corI (cmpN a a') (corI (cmpN b b') (corI (cmpN c c') (cmpN d d')))) := by
  have st : ∀ (k x y : Nat), k < 4 → nth [a, b, c, d] k 0 = x → nth [a', b', c', d'] k 0 = y → (cmpN x y ≠ 0 → iter (fun q : Nat => compareUs_b1 [a, b, c, d] [a', b', c', d'] q) k = some (cmpN x y)) ∧ (∀ r, cmpN x y = 0 → iter (fun q : Nat => compareUs_b1 [a, b, c, d] [a', b', c', d'] q) (k + 1) = some r → iter (fun q : Nat => compareUs_b1 [a, b, c, d] [a', b', c', d'] q) k = some r) := by
    intro k x y hk hx hy
    have e1 : ((k : Nat) : Int) < (([a, b, c, d].length : Nat) : Int) := by simp; omega
    have e2 : ¬ (([a', b', c', d'].length : Nat) : Int) ≤ ((k : Nat) : Int) := by simp; omega
    refine ⟨fun h => iter_done ?_, fun r h hr => iter_next (s' := k + 1) ?_ hr⟩
    · simp only [compareUs_b1, decide_eq_true e1, iteO_true, decide_eq_false e2, iteO_false]
      rw [grd_mk (by simp; omega), hx, hy, bnd_some (compareU_eq _ _), decide_eq_true h]; rfl
    · simp only [compareUs_b1, decide_eq_true e1, iteO_true, decide_eq_false e2, iteO_false]
      rw [grd_mk (by simp; omega), hx, hy, bnd_some (compareU_eq _ _), h]; rfl
  have fi : iter (fun q : Nat => compareUs_b1 [a, b, c, d] [a', b', c', d'] q) 4 = some 0 := iter_done (by simp [compareUs_b1])
  have go : ∀ (k x y : Nat) (r : Int), k < 4 → nth [a, b, c, d] k 0 = x → nth [a', b', c', d'] k 0 = y → iter (fun q : Nat => compareUs_b1 [a, b, c, d] [a', b', c', d'] q) (k + 1) = some r → iter (fun q : Nat => compareUs_b1 [a, b, c, d] [a', b', c', d'] q) k = some (corI (cmpN x y) r) := by
    intro k x y r hk hx hy hr
    obtain ⟨h1, h2⟩ := st k x y hk hx hy
    by_cases h : cmpN x y = 0
    · rw [show corI (cmpN x y) r = r from by simp [corI, h]]; exact h2 r h hr
    · rw [show corI (cmpN x y) r = cmpN x y from by simp [corI, h]]; exact h1 h
  have h3 := go 3 d d' 0 (by omega) rfl rfl fi
  rw [corI_zero] at h3
  exact go 0 a a' _ (by omega) rfl rfl (go 1 b b' _ (by omega) rfl rfl (go 2 c c' _ (by omega) rfl rfl h3))
theorem cmpSet_good : GoodCmp cmpSet := by
  have h1 := GoodCmp.lex (α := Nat × Nat) cmpN_good cmpN_good Prod.fst Prod.snd (fun x y h1 h2 => Prod.ext h1 h2)
  have h2 := GoodCmp.lex (α := Nat × Nat × Nat) cmpN_good h1 Prod.fst Prod.snd (fun x y h1 h2 => Prod.ext h1 h2)
  have h3 := GoodCmp.lex (α := BSet) cmpN_good h2 BSet.a (fun s => (s.b, s.c, s.d)) (fun x y h1 h2 => by
    cases x; cases y; simp_all)
  exact h3
def cmpArc (x y : Arc) : Int := corI (cmpI x.frm y.frm) (corI (cmpI x.to y.to) (corI (cmpSet x.set y.set) (corI (Lib.compareBytes x.out y.out) (corI (cmpBool x.copy y.copy) 0))))
theorem G8_ (b : Bool) : E0_ b = some (if b then 1 else 0) := by cases b <;> rfl
theorem compareArcs_eq (x y : Arc) : Dv_ x y = some (cmpArc x y) := by
  unfold Dv_
  rw [bnd_some (C6_ _ _), bnd_some (C6_ _ _), bnd_some (compareUs_four ..), bnd_some (D7_ _ _), bnd_some (G8_ _), bnd_some (G8_ _), bnd_some (C6_ _ _), bnd_some (H1_ _)]; rfl
theorem cmpArc_good : GoodCmp cmpArc := by
  have h1 := GoodCmp.lex (α := List UInt8 × Bool) cmpB_good cmpBool_good Prod.fst Prod.snd (fun x y h1 h2 => Prod.ext h1 h2)
  have h2 := GoodCmp.lex (α := BSet × List UInt8 × Bool) cmpSet_good h1 Prod.fst Prod.snd (fun x y h1 h2 => Prod.ext h1 h2)
  have h3 := GoodCmp.lex (α := Int × BSet × List UInt8 × Bool) cmpI_good h2 Prod.fst Prod.snd (fun x y h1 h2 => Prod.ext h1 h2)
  have h4 := GoodCmp.lex (α := Arc) cmpI_good h3 Arc.frm (fun s => (s.to, s.set, s.out, s.copy)) (fun x y h1 h2 => by
    cases x; cases y; simp_all)
  have e : cmpArc = fun x y => corI (cmpI x.frm y.frm) (corI (cmpI x.to y.to) (corI (cmpSet x.set y.set) (corI (Lib.compareBytes x.out y.out) (cmpBool x.copy y.copy)))) := by
    funext x y; unfold cmpArc; rw [corI_zero]
  rw [e]; exact h4
end Go.Proofs.YtnpbfjdpglfdkaaGreatDoor
end

section
namespace Go.Proofs.YtnpbfjdpglfdkaaGreatDoor
open Go Go.E
instance : Inhabited Tip := ⟨Tip.zero⟩
instance : Inhabited Arc := ⟨Arc.zero⟩
theorem I8_ {σ : Store} {a : Option Addr} {c : Nat} {l : List (List UInt8)} : Con Tryz.prog 45 #[.slice a l.length c, .func (.func 19) #[] #[]] σ [Res.rowS 9 1 Go.E.encS (.slice a l.length c) l] (SortP 9 1 Go.E.encS a c l (sortL Lib.compareBytes l) σ) :=
  Con.sort1 (enc := keyS) layS layS0 rfl (fun _ => rfl) (fun _ => rfl) cmpB_good.total (fun args w => run_callFunc (by kernel_rfl) args w) (fun x y τ => Ds_ (D7_ x y))
theorem I9_ {σ : Store} {a : Option Addr} {c : Nat} {l : List Int} : Con Tryz.prog 89 #[.slice a l.length c, .func (.func 63) #[] #[]] σ [Res.rowS 3 1 Go.E.encI (.slice a l.length c) l] (SortP 3 1 Go.E.encI a c l (sortL cmpI l) σ) :=
  Con.sort1 (enc := keyI) layI layI0 rfl (fun _ => rfl) (fun _ => rfl) cmpI_good.total (fun args w => run_callFunc (by kernel_rfl) args w) (fun x y τ => Ct_ (C6_ x y))
theorem Jc_ {σ : Store} {a : Option Addr} {c : Nat} {l : List Tip} : Con Tryz.prog 105 #[.slice a l.length c, .func (.func 83) #[] #[]] σ [Res.rowS 62 2 encTip (.slice a l.length c) l] (SortP 62 2 encTip a c l (sortL cmpTip l) σ) :=
  Con.sortK (k := 2) layT0 rfl Tryz.isAgg62 Tryz.sizeOf62 encTip_len encTip_one cmpTip_good.total (fun args w => run_callFunc (by kernel_rfl) args w) (fun x y τ => Hb_ (compareTips_eq x y))
theorem I6_ {σ : Store} {a : Option Addr} {c : Nat} {l : List Arc} : Con Tryz.prog 109 #[.slice a l.length c, .func (.func 85) #[] #[]] σ [Res.rowS 59 8 encArc (.slice a l.length c) l] (SortP 59 8 encArc a c l (sortL cmpArc l) σ) :=
  Con.sortK (k := 8) layA0 rfl Tryz.isAgg59 Tryz.sizeOf59 encArc_len encArc_one cmpArc_good.total (fun args w => run_callFunc (by kernel_rfl) args w) (fun x y τ => Hc_ (compareArcs_eq x y))
end Go.Proofs.YtnpbfjdpglfdkaaGreatDoor
end
