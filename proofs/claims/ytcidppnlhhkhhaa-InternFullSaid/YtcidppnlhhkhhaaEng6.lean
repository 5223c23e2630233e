/- The engine, part six: structs by value, unsigned numbers, equality of arrays and structs. Plain lemmas over any program; no condition. -/
import Derived.Test.YtcidppnlhhkhhaaEng5
set_option linter.unusedVariables false
set_option linter.unusedSimpArgs false
namespace Go.E
open Go

section
variable {P : Program} {n : Nat} {e : Env} {σ : Store} {H : List Res} {o : Oper} {x y : Operand}

/-- A whole variable. -/
theorem OpVal.loadAll {T b E i s : Nat} {cs : Array Value} (ho : o.op = .load T x) (hA : aggOf P T = some true) (hz : szOf P T = some s) (hx : ev e x = loc b 0) (hi : H[i]? = some (Res.cells b cs E)) (hl : cs.size = s) : OpVal P n o e σ H (.agg cs) := by
  have := OpVal.loadLocA (P := P) (n := n) (e := e) (σ := σ) (us := cs.toList) ho hA hz hx hi (by simpa using hl) (by rw [List.drop_zero, ← hl, ← Array.length_toList, List.take_length])
  simpa using this

theorem OpVal.makeFn {f : FuncId} {first cap : Array Operand} (ho : o.op = .makeFunc (.func f) first cap) : OpVal P n o e σ H (.func (.func f) (first.toList.map (ev e)).toArray (cap.toList.map (ev e)).toArray) := by
  have := OpVal.makeFunc (P := P) (n := n) (e := e) (σ := σ) (H := H) ho
  rwa [show first.map (ev e) = (first.toList.map (ev e)).toArray from by apply Array.ext'; simp, show cap.map (ev e) = (cap.toList.map (ev e)).toArray from by apply Array.ext'; simp] at this

theorem OpVal.indexArrN {T E size m b q : Nat} {k : IntKind} {i : Nat} (ho : o.op = .indexAddr T x y) (ht : P.underlying T = some (.array m E)) (hz : szOf P E = some size) (hx : ev e x = loc b q) (hy : ev e y = .int k (i : Nat)) (h1 : i < m) :
    OpVal P n o e σ H (loc b (q + i * size)) := by
  have := OpVal.indexArr (P := P) (n := n) (σ := σ) (H := H) ho ht hz hx hy (by omega) (by omega)
  simpa using this

theorem OpVal.buildL {T : TypeId} {parts : Array (Nat × Operand)} {pl : Array (Nat × Nat)} {z : Value} {cs : List Value} (ho : o.op = .build T parts) (hp : plOf P T = some pl) (hz : zeroOf P T = some z)
    (hf : fillL (fun i => pl.toList[i]?) z.cells.toList (parts.toList.map fun x => (x.1, ev e x.2)) = some cs) : OpVal P n o e σ H (.agg cs.toArray) :=
  OpVal.build ho hp hz (by rw [fill_eq]; simp only [Array.getElem?_toList] at hf; rw [hf]; rfl)
theorem OpVal.buildArrL {T E s m : TypeId} {parts : Array (Nat × Operand)} {z : Value} {cs : List Value} (ho : o.op = .build T parts) (hu : P.underlying T = some (.array m E)) (hs : szOf P E = some s) (hz : zeroOf P T = some z)
    (hf : fillL (fun i => some (i * s, s)) z.cells.toList (parts.toList.map fun x => (x.1, ev e x.2)) = some cs) : OpVal P n o e σ H (.agg cs.toArray) :=
  OpVal.buildArr ho hu hs hz (by rw [fill_eq, hf]; rfl)

/-! ### Unsigned numbers -/
def kmax : IntKind → Nat
  | .i8 => 128 | .u8 => 256 | .i16 => 32768 | .u16 => 65536 | .i32 => 2147483648 | .u32 => 4294967296 | .i64 => 9223372036854775808 | .u64 => 18446744073709551616

theorem wrapN {k : IntKind} {a : Nat} (h : a < kmax k) : k.wrap (a : Int) = (a : Int) := by
  cases k <;> simp only [kmax] at h <;> simp only [IntKind.wrap, IntKind.bits, IntKind.signed] <;> simp <;> omega

section
variable {T T' : TypeId} {k k' : IntKind} {a b : Nat}
theorem OpVal.quoN (ho : o.op = .binOp .quo T x y T') (hx : ev e x = .int k (a : Nat)) (hy : ev e y = .int k (b : Nat)) (hb : 0 < b) (ha : a < kmax k) : OpVal P n o e σ H (.int k ((a / b : Nat) : Int)) := .bin ho hx hy fun w => by
  have h0 : ¬ (b : Int) = 0 := by omega
  have h1 : a / b < kmax k := Nat.lt_of_le_of_lt (Nat.div_le_self a b) ha
  have h2 : k.wrap ((a : Int).tdiv (b : Int)) = ((a / b : Nat) : Int) := by
    rw [Int.tdiv_eq_ediv_of_nonneg (by omega)]; exact_mod_cast wrapN h1
  simp only [binOp, ne_eq, not_true_eq_false, if_false, Op.intDiv, h0, h2]; rfl
theorem OpVal.remN (ho : o.op = .binOp .rem T x y T') (hx : ev e x = .int k (a : Nat)) (hy : ev e y = .int k (b : Nat)) (hb : 0 < b) : OpVal P n o e σ H (.int k ((a % b : Nat) : Int)) := .bin ho hx hy fun w => by
  have h0 : ¬ (b : Int) = 0 := by omega
  have h2 : (a : Int).tmod (b : Int) = ((a % b : Nat) : Int) := by
    rw [Int.tmod_eq_emod_of_nonneg (by omega)]; exact_mod_cast rfl
  simp only [binOp, ne_eq, not_true_eq_false, if_false, Op.intDiv, h0, h2]; rfl
theorem OpVal.addN (ho : o.op = .binOp .add T x y T') (hx : ev e x = .int k (a : Nat)) (hy : ev e y = .int k (b : Nat)) (h : a + b < kmax k) : OpVal P n o e σ H (.int k ((a + b : Nat) : Int)) := by
  have := OpVal.addW (P := P) (n := n) (σ := σ) (H := H) ho hx hy
  rwa [show (a : Int) + (b : Int) = ((a + b : Nat) : Int) from by omega, wrapN h] at this
theorem OpVal.mulN (ho : o.op = .binOp .mul T x y T') (hx : ev e x = .int k (a : Nat)) (hy : ev e y = .int k (b : Nat)) (h : a * b < kmax k) : OpVal P n o e σ H (.int k ((a * b : Nat) : Int)) := by
  have := OpVal.mulW (P := P) (n := n) (σ := σ) (H := H) ho hx hy
  rwa [show (a : Int) * (b : Int) = ((a * b : Nat) : Int) from by simp, wrapN h] at this
theorem OpVal.shrN (ho : o.op = .binOp .shr T x y T') (hx : ev e x = .int k (a : Nat)) (hy : ev e y = .int k' (b : Nat)) (hb : b < k.bits) : OpVal P n o e σ H (.int k ((a / 2 ^ b : Nat) : Int)) := fun w _ => by
  have h0 : ¬ (b : Int) < 0 := by omega
  have h1 : min b k.bits = b := by omega
  have h2 : (a : Int).fdiv (2 ^ b) = ((a / 2 ^ b : Nat) : Int) := by
    rw [Int.fdiv_eq_ediv_of_nonneg _ (by exact_mod_cast Nat.zero_le _)]; exact_mod_cast rfl
  simp [execOp, ho, hx, hy, run_eqGuard_int, binOp, Op.shift, h0, h1, h2]
theorem OpVal.shlN (ho : o.op = .binOp .shl T x y T') (hx : ev e x = .int k (a : Nat)) (hy : ev e y = .int k' (b : Nat)) (hb : b < k.bits) (h : a * 2 ^ b < kmax k) : OpVal P n o e σ H (.int k ((a * 2 ^ b : Nat) : Int)) := fun w _ => by
  have h0 : ¬ (b : Int) < 0 := by omega
  have h1 : min b k.bits = b := by omega
  have h2 : k.wrap ((a : Int) * 2 ^ b) = ((a * 2 ^ b : Nat) : Int) := by
    rw [show (a : Int) * 2 ^ b = ((a * 2 ^ b : Nat) : Int) from by push_cast; rfl]; exact wrapN h
  simp only [execOp, ho, hx, hy, Sem.run_bind, run_eqGuard_int, Result.andThen_ok, binOp, Op.shift, h0, if_false, Int.toNat_natCast, h1, h2]; rfl

theorem toNat_ofInt {a m : Nat} (h : a < 2 ^ m) : (BitVec.ofInt m (a : Int)).toNat = a := by
  simp [BitVec.toNat_ofInt]; exact_mod_cast Nat.mod_eq_of_lt h
theorem OpVal.andN {a b : Nat} (ho : o.op = .binOp .and T x y T') (hx : ev e x = .int .u64 (a : Nat)) (hy : ev e y = .int .u64 (b : Nat)) (ha : a < 18446744073709551616) (hb : b < 18446744073709551616) : OpVal P n o e σ H (.int .u64 ((a &&& b : Nat) : Int)) := .bin ho hx hy fun w => by
  have h1 : (BitVec.ofInt IntKind.u64.bits (a : Int) &&& BitVec.ofInt IntKind.u64.bits (b : Int)).toNat = a &&& b := by
    rw [BitVec.toNat_and, toNat_ofInt (m := IntKind.u64.bits) (by simpa [IntKind.bits] using ha), toNat_ofInt (m := IntKind.u64.bits) (by simpa [IntKind.bits] using hb)]
  have h2 : a &&& b < 18446744073709551616 := Nat.lt_of_le_of_lt Nat.and_le_left ha
  simp only [binOp, ne_eq, not_true_eq_false, if_false, Op.intBits, h1, wrapN (k := .u64) (a := a &&& b) h2]; rfl
theorem OpVal.orN {a b : Nat} (ho : o.op = .binOp .or T x y T') (hx : ev e x = .int .u64 (a : Nat)) (hy : ev e y = .int .u64 (b : Nat)) (ha : a < 18446744073709551616) (hb : b < 18446744073709551616) : OpVal P n o e σ H (.int .u64 ((a ||| b : Nat) : Int)) := .bin ho hx hy fun w => by
  have h1 : (BitVec.ofInt IntKind.u64.bits (a : Int) ||| BitVec.ofInt IntKind.u64.bits (b : Int)).toNat = a ||| b := by
    rw [BitVec.toNat_or, toNat_ofInt (m := IntKind.u64.bits) (by simpa [IntKind.bits] using ha), toNat_ofInt (m := IntKind.u64.bits) (by simpa [IntKind.bits] using hb)]
  have h2 : a ||| b < 18446744073709551616 := Nat.or_lt_two_pow (n := 64) ha hb
  simp only [binOp, ne_eq, not_true_eq_false, if_false, Op.intBits, h1, wrapN (k := .u64) (a := a ||| b) h2]; rfl
theorem OpVal.eqlN (ho : o.op = .binOp .eql T x y T') (hx : ev e x = .int k (a : Nat)) (hy : ev e y = .int k (b : Nat)) : OpVal P n o e σ H (.bool (decide (a = b))) := by
  have := OpVal.eql (P := P) (n := n) (σ := σ) (H := H) ho hx hy
  rwa [show decide ((a : Int) = (b : Int)) = decide (a = b) from by rw [decide_eq_decide]; omega] at this
theorem OpVal.convN {S T : TypeId} {d : TypeDesc} (ho : o.op = .convert S T x) (hs : P.underlying S = some d) (ht : P.underlying T = some (.int k')) (hx : ev e x = .int k (a : Nat)) (h : a < kmax k') : OpVal P n o e σ H (.int k' (a : Nat)) := by
  have := OpVal.convInt (P := P) (n := n) (σ := σ) (H := H) ho hs ht hx
  rwa [wrapN h] at this
end

/-! ### Pointers against nil -/
theorem run_eqGuard_ptr (op : BinOp) (t : TypeId) (x y : Operand) (a b : Option Addr) (w : World) : (eqGuard op t x y (.pointer a) (.pointer b)).run P w = .ok () w := by
  cases op <;> simp [eqGuard]
theorem run_eqGuard_sl (op : BinOp) (t : TypeId) (x y : Operand) (a b : Option Addr) (m c m' c' : Nat) (w : World) : (eqGuard op t x y (.slice a m c) (.slice b m' c')).run P w = .ok () w := by
  cases op <;> simp [eqGuard]
theorem run_eqPtr {T E : TypeId} (hT : P.underlying T = some (.pointer E)) (d : Nat) (a : Option Addr) (w : World) : (Op.equalIn (d + 1) T (.pointer a) (.pointer none)).run P w = .ok a.isNone w := by
  cases a <;> simp [Op.equalIn, run_underlying hT]
theorem run_eqSl {T E : TypeId} (hT : P.underlying T = some (.slice E)) (d : Nat) (a : Option Addr) (m c : Nat) (w : World) : (Op.equalIn (d + 1) T (.slice a m c) (.slice none 0 0)).run P w = .ok a.isNone w := by
  cases a <;> simp [Op.equalIn, run_underlying hT]
theorem run_eql_agg' {T : TypeId} {v u : Value} {r : Bool} {w : World} (hv : ∀ k a, v ≠ .int k a) (h : (Op.equalIn 10000 T v u).run P w = .ok r w) (hb : binOp .eql T v u = (do pure (.bool (← Op.equal T v u)) : Sem Value)) : (binOp .eql T v u).run P w = .ok (.bool r) w := by
  rw [hb]
  simp only [Sem.run_bind, Op.equal, Op.maxDepth, h, Result.andThen_ok, Sem.run_pure]
theorem run_neq_agg' {T : TypeId} {v u : Value} {r : Bool} {w : World} (hv : ∀ k a, v ≠ .int k a) (h : (Op.equalIn 10000 T v u).run P w = .ok r w) (hb : binOp .neq T v u = (do pure (.bool (!(← Op.equal T v u))) : Sem Value)) : (binOp .neq T v u).run P w = .ok (.bool (!r)) w := by
  rw [hb]
  simp only [Sem.run_bind, Op.equal, Op.maxDepth, h, Result.andThen_ok, Sem.run_pure]
theorem OpVal.eqlNil {T T' : TypeId} {a : Option Addr} {E : TypeId} (ho : o.op = .binOp .eql T x y T') (hT : P.underlying T = some (.pointer E)) (hx : ev e x = .pointer a) (hy : ev e y = .pointer none) : OpVal P n o e σ H (.bool a.isNone) := fun w _ => by
  simp only [execOp, ho, hx, hy, Sem.run_bind, run_eqGuard_ptr, Result.andThen_ok]
  rw [run_eql_agg' (by simp) (run_eqPtr hT 9999 a w) rfl]; rfl
theorem OpVal.neqNil {T T' : TypeId} {a : Option Addr} {E : TypeId} (ho : o.op = .binOp .neq T x y T') (hT : P.underlying T = some (.pointer E)) (hx : ev e x = .pointer a) (hy : ev e y = .pointer none) : OpVal P n o e σ H (.bool (!a.isNone)) := fun w _ => by
  simp only [execOp, ho, hx, hy, Sem.run_bind, run_eqGuard_ptr, Result.andThen_ok]
  rw [run_neq_agg' (by simp) (run_eqPtr hT 9999 a w) rfl]; rfl
/-- A slice against nil. -/
theorem OpVal.eqlNilSl {T T' : TypeId} {a : Option Addr} {m c : Nat} {E : TypeId} (ho : o.op = .binOp .eql T x y T') (hT : P.underlying T = some (.slice E)) (hx : ev e x = .slice a m c) (hy : ev e y = .slice none 0 0) : OpVal P n o e σ H (.bool a.isNone) := fun w _ => by
  simp only [execOp, ho, hx, hy, Sem.run_bind, run_eqGuard_sl, Result.andThen_ok]
  rw [run_eql_agg' (by simp) (run_eqSl hT 9999 a m c w) rfl]; rfl

/-! ### Equality of arrays and structs -/
theorem run_part_one {E : TypeId} (hA : aggOf P E = some false) {cs : Array Value} {k : Nat} {u : Value} (h : cs[k]? = some u) (w : World) : (part E cs k).run P w = .ok u w := by
  simp [part, run_isAgg hA, h]
theorem run_part_agg {E s : TypeId} (hA : aggOf P E = some true) (hz : szOf P E = some s) (cs : Array Value) (k : Nat) (w : World) : (part E cs k).run P w = .ok (.agg (cs.extract k (k + s))) w := by
  simp [part, run_isAgg hA, run_sizeOf hz]

theorem run_eqArr4 {T E : TypeId} {k : IntKind} (d : Nat) (hT : P.underlying T = some (.array 4 E)) (hE : P.underlying E = some (.int k)) (hA : aggOf P E = some false) (hz : szOf P E = some 1) (a0 a1 a2 a3 b0 b1 b2 b3 : Int) (w : World) :
    (Op.equalIn (d + 2) T (.agg #[.int k a0, .int k a1, .int k a2, .int k a3]) (.agg #[.int k b0, .int k b1, .int k b2, .int k b3])).run P w = .ok (decide (a0 = b0 ∧ a1 = b1 ∧ a2 = b2 ∧ a3 = b3)) w := by
  have h0 : ∀ (a b : Int), (Op.equalIn (d + 1) E (.int k a) (.int k b)).run P w = .ok (decide (a = b)) w := fun a b => by
    rw [run_equalIn_int w d E k k a b hE]; rfl
  have p : ∀ (cs : Array Value) (i : Nat) (u : Value), cs[i]? = some u → (part E cs i).run P w = .ok u w := fun cs i u h => run_part_one hA h w
  rw [Op.equalIn]
  simp only [Sem.run_bind, run_underlying hT, Result.andThen_ok, run_sizeOf hz, Std.Legacy.Range.forIn_eq_forIn_range', Std.Legacy.Range.size, Nat.sub_zero, Nat.add_sub_cancel, Nat.div_one, List.range'_succ, List.range'_zero, List.forIn_cons, List.forIn_nil, Nat.mul_one, Nat.zero_add]
  rw [p _ 0 (.int k a0) rfl, Result.andThen_ok, p _ 0 (.int k b0) rfl, Result.andThen_ok, h0, Result.andThen_ok]
  by_cases e0 : a0 = b0
  · simp only [e0, decide_true, Bool.not_true, Bool.false_eq_true, if_false, Sem.run_pure, Result.andThen_ok, Sem.run_bind]
    rw [p _ 1 (.int k a1) rfl, Result.andThen_ok, p _ 1 (.int k b1) rfl, Result.andThen_ok, h0, Result.andThen_ok]
    by_cases e1 : a1 = b1
    · simp only [e1, decide_true, Bool.not_true, Bool.false_eq_true, if_false, Sem.run_pure, Result.andThen_ok, Sem.run_bind]
      rw [p _ 2 (.int k a2) rfl, Result.andThen_ok, p _ 2 (.int k b2) rfl, Result.andThen_ok, h0, Result.andThen_ok]
      by_cases e2 : a2 = b2
      · simp only [e2, decide_true, Bool.not_true, Bool.false_eq_true, if_false, Sem.run_pure, Result.andThen_ok, Sem.run_bind]
        rw [p _ 3 (.int k a3) rfl, Result.andThen_ok, p _ 3 (.int k b3) rfl, Result.andThen_ok, h0, Result.andThen_ok]
        by_cases e3 : a3 = b3
        · simp [e3]
        · simp [e3]
      · simp [e2]
    · simp [e1]
  · simp [e0]

theorem OpVal.eqlArr4 {T T' E : TypeId} {k : IntKind} {xs ys : Array Value} {a0 a1 a2 a3 b0 b1 b2 b3 : Int} (ho : o.op = .binOp .eql T x y T') (hT : P.underlying T = some (.array 4 E)) (hE : P.underlying E = some (.int k)) (hA : aggOf P E = some false) (hz : szOf P E = some 1) (hg : P.eqGuardType P.depth T = false)
    (hx : ev e x = .agg xs) (hy : ev e y = .agg ys) (hxs : xs.toList = [.int k a0, .int k a1, .int k a2, .int k a3]) (hys : ys.toList = [.int k b0, .int k b1, .int k b2, .int k b3]) : OpVal P n o e σ H (.bool (decide (a0 = b0 ∧ a1 = b1 ∧ a2 = b2 ∧ a3 = b3))) := fun w _ => by
  have hxs' : xs = #[.int k a0, .int k a1, .int k a2, .int k a3] := by apply Array.ext'; simpa using hxs
  have hys' : ys = #[.int k b0, .int k b1, .int k b2, .int k b3] := by apply Array.ext'; simpa using hys
  subst hxs' hys'
  have h := run_eqArr4 (P := P) 9998 hT hE hA hz a0 a1 a2 a3 b0 b1 b2 b3 w
  simp only [execOp, ho, hx, hy, Sem.run_bind, run_eqGuard_agg _ _ _ _ _ _ _ hg, Result.andThen_ok]
  rw [run_eql_agg' (by simp) h rfl]; rfl
theorem OpVal.neqArr4 {T T' E : TypeId} {k : IntKind} {xs ys : Array Value} {a0 a1 a2 a3 b0 b1 b2 b3 : Int} (ho : o.op = .binOp .neq T x y T') (hT : P.underlying T = some (.array 4 E)) (hE : P.underlying E = some (.int k)) (hA : aggOf P E = some false) (hz : szOf P E = some 1) (hg : P.eqGuardType P.depth T = false)
    (hx : ev e x = .agg xs) (hy : ev e y = .agg ys) (hxs : xs.toList = [.int k a0, .int k a1, .int k a2, .int k a3]) (hys : ys.toList = [.int k b0, .int k b1, .int k b2, .int k b3]) : OpVal P n o e σ H (.bool (!decide (a0 = b0 ∧ a1 = b1 ∧ a2 = b2 ∧ a3 = b3))) := fun w _ => by
  have hxs' : xs = #[.int k a0, .int k a1, .int k a2, .int k a3] := by apply Array.ext'; simpa using hxs
  have hys' : ys = #[.int k b0, .int k b1, .int k b2, .int k b3] := by apply Array.ext'; simpa using hys
  subst hxs' hys'
  have h := run_eqArr4 (P := P) 9998 hT hE hA hz a0 a1 a2 a3 b0 b1 b2 b3 w
  simp only [execOp, ho, hx, hy, Sem.run_bind, run_eqGuard_agg _ _ _ _ _ _ _ hg, Result.andThen_ok]
  rw [run_neq_agg' (by simp) h rfl]; rfl
end

section
variable {X : Ctx} {e : Env} {σ : Store} {H F : List Res} {o : Oper} {x y : Operand} {K : Env → Store → List Res → Prop}
theorem OpOk.boxA {E d : Nat} {cs : Array Value} (ho : o.op = .box E x) (hd : o.dst = some d) (hn : Nat.blt d X.n = true) (hx : ev e x = .agg cs) (k : ∀ b, K (upd e d (loc b 0)) σ (Res.cells b cs E :: H)) : OpOk X o e σ H K :=
  OpOk.box ho hd hn hx k
/-- A part of a struct stored, itself a struct. -/
theorem OpOk.storeAgg {T b k s : Nat} {E : TypeId} {cs cs' vs : Array Value} (ho : o.op = .store T x y) (hs : szOf X.P T = some s) (hd : o.dst = none) (hx : ev e x = loc b k) (hv : ev e y = .agg vs) (hsz : vs.size = s)
    (h1 : (vs.toList.all fun u => u.oneCell') = true) (hfit : Nat.ble (k + s) cs.size = true) (hcs : (splice cs.toList k vs.toList).toArray = cs') (kk : K e σ (Res.cells b cs' E :: F)) : OpOk X o e σ (Res.cells b cs E :: F) K :=
  OpOk.store (s := s) ho hs hd hx hv hsz (List.all_eq_true.1 h1) hfit hcs kk
/-- A whole struct stored. -/
theorem OpOk.storeAll {T b s : Nat} {E : TypeId} {cs cs' : Array Value} (ho : o.op = .store T x y) (hs : szOf X.P T = some s) (hd : o.dst = none) (hx : ev e x = loc b 0) (hv : ev e y = .agg cs') (hsz : cs'.size = s)
    (h1 : (cs'.toList.all fun u => u.oneCell') = true) (hfit : cs.size = s) (kk : K e σ (Res.cells b cs' E :: F)) : OpOk X o e σ (Res.cells b cs E :: F) K := by
  refine OpOk.store (s := s) ho hs hd hx hv hsz (List.all_eq_true.1 h1) (by simp [hfit]) ?_ kk
  apply Array.ext'
  show splice cs.toList 0 cs'.toList = cs'.toList
  simp [splice, hsz, ← hfit]
end

section
variable {X : Ctx} {ops : Array Oper} {Q : QP} {e : Env} {σ : Store} {H F : List Res} {c : Code} {l : List Oper}
theorem TL.dropN (k : Nat) (hF : H.drop k = F) (h : TL X ops Q l e σ F) : TL X ops Q l e σ H := TL.sub (hF ▸ List.drop_sublist k H) h
theorem TL.takeN (k : Nat) (hF : H.take k = F) (h : TL X ops Q l e σ F) : TL X ops Q l e σ H := TL.sub (hF ▸ List.take_sublist k H) h
theorem TC.dropN (k : Nat) (hF : H.drop k = F) (h : TC X Q c e σ F) : TC X Q c e σ H := TC.sub (hF ▸ List.drop_sublist k H) h
theorem TC.takeN (k : Nat) (hF : H.take k = F) (h : TC X Q c e σ F) : TC X Q c e σ H := TC.sub (hF ▸ List.take_sublist k H) h
end

/-! ### Guards in a region that draws its order -/
section
variable {X : Ctx} {ops : Array Oper} {Q : QP} {e : Env} {σ σr : Store} {H Hr : List Res} {late : List Nat} {fuel : Nat} {listed : Array Bool}
theorem TA.takeW (i : Nat) {oi : Oper} {v : Value} {d : Nat} (hi : ops[i]? = some oi) (hs : Region.noSelect ops = true) (hf : Region.free .any ops listed i = true) (hr : (Region.ready .any ops listed).contains i = true)
    (hl : late.all (fun j => after? ops ops.size j i) = true) (hv : ∀ a, St X.n e a → YieldsIf X.P ops (Sees σr Hr) oi v a) (hd : oi.dst = some d) (hn : Nat.blt d X.n = true)
    (k : TA X ops Q σr Hr late fuel (listed.setIfInBounds i true) (upd e d v) σ H) : TA X ops Q σr Hr late (fuel + 1) listed e σ H := fun w a hw hS hcl ha => by
  have hr' : i ∈ Region.ready .any ops listed := by simpa using hr
  refine wpAnyL_first hi (Region.noSelect_spec hs) (fun c a w h => h.elim) (fun j hj => ⟨ops.size, (List.all_eq_true.1 hl) j hj⟩) fuel listed a w hcl (Region.free_spec hi hf) hr' (hv a ha) hS ?_
  rw [hd]
  exact k w _ hw hS (hcl.step hr') (ha.put (by simpa [Nat.blt_eq] using hn) v)

theorem TA.takeOn (i : Nat) {oi oj : Oper} {v : Value} {d j dj : Nat} {b : Bool} (hi : ops[i]? = some oi) (hs : Region.noSelect ops = true) (hf : Region.free .any ops listed i = true) (hr : (Region.ready .any ops listed).contains i = true)
    (hl : late.all (fun j => after? ops ops.size j i) = true) (hg : oi.guard = some (j, b)) (hj : ops[j]? = some oj) (hdj : oj.dst = some dj) (hnj : Nat.blt dj X.n = true) (hb : e dj = .bool b) (hv : OpVal X.P X.n oi e σr Hr v) (hd : oi.dst = some d) (hn : Nat.blt d X.n = true)
    (k : TA X ops Q σr Hr late fuel (listed.setIfInBounds i true) (upd e d v) σ H) : TA X ops Q σr Hr late (fuel + 1) listed e σ H :=
  TA.takeW i hi hs hf hr hl (fun a ha => .inl ⟨by simp [Region.wanted, hg, yielded_of ha hj hdj hnj, hb], fun w' hw' => by rw [ha.eval']; exact hv w' hw'⟩) hd hn k

theorem TA.takeOff (i : Nat) {oi oj : Oper} {d j dj : Nat} {b b' : Bool} (hi : ops[i]? = some oi) (hs : Region.noSelect ops = true) (hf : Region.free .any ops listed i = true) (hr : (Region.ready .any ops listed).contains i = true)
    (hl : late.all (fun j => after? ops ops.size j i) = true) (hg : oi.guard = some (j, b)) (hj : ops[j]? = some oj) (hdj : oj.dst = some dj) (hnj : Nat.blt dj X.n = true) (hb : e dj = .bool b') (hbb : b' = !b) (hd : oi.dst = some d) (hn : Nat.blt d X.n = true)
    (k : TA X ops Q σr Hr late fuel (listed.setIfInBounds i true) (upd e d undef) σ H) : TA X ops Q σr Hr late (fuel + 1) listed e σ H :=
  TA.takeW i hi hs hf hr hl (fun a ha => .inr ⟨by simp [Region.wanted, hg, yielded_of ha hj hdj hnj, hb, hbb], rfl⟩) hd hn k

theorem TA.takeOff' (i : Nat) {oi oj : Oper} {d j dj : Nat} {b : Bool} (hi : ops[i]? = some oi) (hs : Region.noSelect ops = true) (hf : Region.free .any ops listed i = true) (hr : (Region.ready .any ops listed).contains i = true)
    (hl : late.all (fun j => after? ops ops.size j i) = true) (hg : oi.guard = some (j, b)) (hj : ops[j]? = some oj) (hdj : oj.dst = some dj) (hnj : Nat.blt dj X.n = true) (hb : e dj = undef) (hd : oi.dst = some d) (hn : Nat.blt d X.n = true)
    (k : TA X ops Q σr Hr late fuel (listed.setIfInBounds i true) (upd e d undef) σ H) : TA X ops Q σr Hr late (fuel + 1) listed e σ H :=
  TA.takeW i hi hs hf hr hl (fun a ha => .inr ⟨by simp [Region.wanted, hg, yielded_of ha hj hdj hnj, hb, undef], rfl⟩) hd hn k

theorem TZ.v (i : Nat) {oi : Oper} {v : Value} {d : Nat} (hr : Region.ready .any ops listed = [i]) (hl : late.contains i = true) (hi : ops[i]? = some oi) (hg : oi.guard = none) (hv : OpVal X.P X.n oi e σ H v) (hd : oi.dst = some d) (hn : Nat.blt d X.n = true)
    (k : TZ X ops Q σr Hr late fuel (listed.setIfInBounds i true) (upd e d v) σ H) : TZ X ops Q σr Hr late (fuel + 1) listed e σ H :=
  TZ.last i hr hl hi hg (hv.ok hd hn k)

theorem TA.split {t : Bool} (dj : Nat) (hb : e dj = .bool t) (ht : t = true → TA X ops Q σr Hr late fuel listed (upd e dj (.bool true)) σ H) (hf : t = false → TA X ops Q σr Hr late fuel listed (upd e dj (.bool false)) σ H) : TA X ops Q σr Hr late fuel listed e σ H := by
  have he : ∀ b, t = b → upd e dj (.bool b) = e := fun b h => by
    funext i; unfold upd; split
    · subst_vars; rw [hb]
    · rfl
  cases t
  · have := hf rfl; rwa [he _ rfl] at this
  · have := ht rfl; rwa [he _ rfl] at this
end

/-! ### Results that lie in a variable -/
theorem ret1R' {P : Program} {fn : Func} {n : Nat} {e : Env} {σ : Store} {H : List Res} {α : Type} {E size t c m : Nat} {a : Option Addr} {enc : α → List Value} {l : List α} (hr : fn.results = #[.tmp t]) (h : e t = .slice a m c) (hm : l.length = m) : RetOk P fn n (RowP E size enc l σ) .ret e σ (Res.rowS E size enc (.slice a m c) l :: H) := by
  subst hm; exact ret1R hr h

section
variable {P : Program} {fn : Func} {n : Nat} {e : Env} {H : List Res}
theorem run_loadAll {T b i s : Nat} {E : TypeId} {cs : Array Value} (hA : aggOf P T = some true) (hz : szOf P T = some s) (hi : H[i]? = some (Res.cells b cs E)) (hl : cs.size = s) {w : World} (hw : ∀ r ∈ H, r.holds w) : (loadVar T ⟨b, 0, none⟩).run P w = .ok (.agg cs) w := by
  have hh : w.heap[b]? = some (.cells cs E (0, 0)) := hw _ (List.mem_of_getElem? hi)
  have := run_loadVar_agg (P := P) (a := ⟨b, 0, none⟩) (us := cs.toList) (w := w) hA hz (by simpa using hl) (fun j u hj => by rw [loc_add]; exact cell_of_cells hh (by simpa using hj))
  simpa using this
theorem RetVal.cell {t T b i s : Nat} {E : TypeId} {cs : Array Value} (hr : fn.results = #[.cell t T]) (hA : aggOf P T = some true) (hz : szOf P T = some s) (ht : e t = loc b 0) (hi : H[i]? = some (Res.cells b cs E)) (hl : cs.size = s) : RetVal P fn n e H (.agg cs) := fun w a ha hw => by
  have := run_loadAll (P := P) hA hz hi hl hw
  simp [results, hr, ha.get, ht, loc, asAddr, this]
theorem RetVal.cellTmp {t T b i s u : Nat} {E : TypeId} {cs : Array Value} (hr : fn.results = #[.cell t T, .tmp u]) (hA : aggOf P T = some true) (hz : szOf P T = some s) (ht : e t = loc b 0) (hi : H[i]? = some (Res.cells b cs E)) (hl : cs.size = s) : RetVal P fn n e H (.tuple #[.agg cs, e u]) := fun w a ha hw => by
  have := run_loadAll (P := P) hA hz hi hl hw
  have h1 := ha.get t
  have h2 := ha.get u
  rw [ht] at h1
  rw [Array.getD_eq_getD_getElem?] at h1 h2
  simp [results, hr, h1, h2, loc, asAddr, this]
end
theorem retCellP {P : Program} {fn : Func} {n : Nat} {e : Env} {σ : Store} {H : List Res} {t T b s : Nat} {E : TypeId} {cs : Array Value} {v : Value} (i : Nat) (hr : fn.results = #[.cell t T]) (hA : aggOf P T = some true) (hz : szOf P T = some s) (ht : e t = loc b 0) (hi : H[i]? = some (Res.cells b cs E)) (hl : cs.size = s) (hv : Value.agg cs = v) : RetOk P fn n (PureP v σ) .ret e σ H :=
  RetOk.of [] (.inl rfl) ((RetVal.cell hr hA hz ht hi hl).eq hv) (List.nil_sublist _) ⟨rfl, rfl, rfl⟩
end Go.E
