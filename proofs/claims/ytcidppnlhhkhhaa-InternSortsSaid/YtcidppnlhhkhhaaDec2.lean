/- More words for the decompiler: strings as lists of bytes, sets as maps, lent slices, drawn regions. Plain lemmas over any program; no condition. -/
import Derived.Test.YtcidppnlhhkhhaaDec
import Derived.Laws.IdiomStrings
import Derived.Laws.Strings2
import Derived.Laws.Strings3
import Derived.Laws.Concat
import Derived.MapKept
set_option linter.unusedVariables false
set_option linter.unusedSimpArgs false
namespace Go.E
open Go

/-! ### Drawn regions: guarded operations -/
section
variable {X : Ctx} {ops : Array Oper} {Q : QP} {e : Env} {σ σr : Store} {H Hr : List Res} {late : List Nat} {fuel : Nat} {listed : Array Bool}
theorem wpOp_on {P : Program} {Q : Exit → Act → World → Prop} {i j dj n : Nat} {b : Bool} {oi oj : Oper} {a : Act} {w : World} {K : Act → World → Prop} (ha : St n e a) (hi : ops[i]? = some oi) (hg : oi.guard = some (j, b)) (hj : ops[j]? = some oj) (hd : oj.dst = some dj) (hn : Nat.blt dj n = true) (hb : e dj = .bool b)
    (h : oi.wp P a w K Q) : wpOp P ops Q i K a w := by
  unfold wpOp
  simp only [hi]
  rw [if_pos (by simp [Region.wanted, hg, yielded_of ha hj hd hn, hb])]
  exact .inl h
/-- The one operation that may come up next, a guarded one that is wanted. -/
theorem TA.actOn (i : Nat) {oi oj : Oper} {j dj : Nat} {b : Bool} (hr : Region.ready .any ops listed = [i]) (hi : ops[i]? = some oi) (hg : oi.guard = some (j, b)) (hj : ops[j]? = some oj) (hd : oj.dst = some dj) (hn : Nat.blt dj X.n = true) (hb : e dj = .bool b)
    (h : OpOk X oi e σ H fun e' σ' H' => (∀ w, Sees σ' H' w → Sees σr Hr w) ∧ TA X ops Q σr Hr late fuel (listed.setIfInBounds i true) e' σ' H') : TA X ops Q σr Hr late (fuel + 1) listed e σ H := fun w a hw hS hcl ha => by
  refine ⟨fun h0 => (by rw [hr] at h0; cases h0), fun q hq => ?_⟩
  have hst := hcl.step hq
  rw [hr] at hq
  simp at hq; subst hq
  exact wpOp_on ha hi hg hj hd hn hb (h w a hw ha _ _ fun e' σ' H' a' w' ⟨hs, hk⟩ hw' ha' => ⟨fun _ _ => hs w' hw'.sees, hk w' a' hw' (hs w' hw'.sees) hst ha'⟩)
theorem TA.sealS {α : Type} {E size : Nat} {enc : α → List Value} {v : Value} {l : List α} {F : List Res} (hl : ∀ x, (enc x).length = size) (k : ∀ σ', σ.le σ' → RS σ' size enc v l → TA X ops Q σr Hr late fuel listed e σ' F) : TA X ops Q σr Hr late fuel listed e σ (Res.rowS E size enc v l :: F) := fun w a hw hS hc ha => by
  obtain ⟨σ', h1, h2, h3⟩ := hw.sealRow
  exact k σ' h2 ⟨h3, hl⟩ w a h1 hS hc ha
theorem TZ.sealS {α : Type} {E size : Nat} {enc : α → List Value} {v : Value} {l : List α} {F : List Res} (hl : ∀ x, (enc x).length = size) (k : ∀ σ', σ.le σ' → RS σ' size enc v l → TZ X ops Q σr Hr late fuel listed e σ' F) : TZ X ops Q σr Hr late fuel listed e σ (Res.rowS E size enc v l :: F) := fun w a hw ha => by
  obtain ⟨σ', h1, h2, h3⟩ := hw.sealRow
  exact k σ' h2 ⟨h3, hl⟩ w a h1 ha
theorem TA.nilS {α : Type} (E size : Nat) (enc : α → List Value) (k : TA X ops Q σr Hr late fuel listed e σ (Res.rowS E size enc (.slice none 0 0) [] :: H)) : TA X ops Q σr Hr late fuel listed e σ H := fun w a hw hS hc ha => k w a (hw.nilRow E size) hS hc ha
theorem TZ.nilS {α : Type} (E size : Nat) (enc : α → List Value) (k : TZ X ops Q σr Hr late fuel listed e σ (Res.rowS E size enc (.slice none 0 0) [] :: H)) : TZ X ops Q σr Hr late fuel listed e σ H := fun w a hw ha => k w a (hw.nilRow E size) ha
theorem TZ.isSl {E size n : Nat} {v : Value} {xs : List Value} {i : Nat} (hi : H[i]? = some (Res.row E size v n xs)) (k : IsSl v n → n ≤ 281474976710656 → xs.length = n * size → TZ X ops Q σr Hr late fuel listed e σ H) : TZ X ops Q σr Hr late fuel listed e σ H := fun w a hw => by
  have h := hw.holds _ (List.mem_of_getElem? hi)
  exact k (isSl_row h.1) h.2.2 h.1.1 w a hw
end

theorem RS.nilF {α : Type} (σ : Store) {size : Nat} (enc : α → List Value) (hl : ∀ x, (enc x).length = size) : RS σ size enc (.slice none 0 0) ([] : List α) := ⟨RV.nil σ size, hl⟩

/-! ### A slice of one's own, lent to a call that only reads -/
theorem Con.lend {P : Program} {f : FuncId} {args : Array Value} {σ : Store} {F : List Res} {r v : Value} {α : Type} {E size : Nat} {enc : α → List Value} {l : List α} (hl : ∀ x, (enc x).length = size)
    (h : ∀ τ, σ.le τ → RS τ size enc v l → Con P f args τ F (KeepP r τ F)) : Con P f args σ (Res.rowS E size enc v l :: F) (KeepP r σ (Res.rowS E size enc v l :: F)) := by
  intro w hw
  obtain ⟨τ, h1, h2, h3⟩ := hw.sealRow
  have h0 : Reach w (blks F) τ τ w F := ⟨rfl, rfl, rfl, Nat.le_refl _, fun _ _ _ => rfl, Store.le.refl _, h1.fit, fun b o hb => .inl hb, h1.holds, fun r hr b hb => .inl (mem_blks.2 ⟨r, hr, hb⟩), h1.nodup, h1.apart, Nat.le_refl _⟩
  refine (h τ h2 ⟨h3, hl⟩ w h0).mono fun ex w' ⟨r', σ', H', he, ⟨e1, e2, e3⟩, k⟩ => ?_
  subst e1 e2 e3
  refine ⟨r', σ, _, he, ⟨rfl, rfl, rfl⟩, ?_⟩
  have hb : ∀ b, b ∈ (Res.rowS E size enc v l).bl → b < w.heap.size ∧ b ∉ blks H' := fun b hb => by
    refine ⟨hw.block_lt (List.mem_cons_self ..) hb, fun hx => ?_⟩
    have hnd := hw.nodup
    simp only [blks, List.flatMap_cons] at hnd
    exact (nodup_app.1 hnd).2.2 b hb hx
  have hframe : ∀ i, i < w.heap.size → i ∉ blks H' → w'.heap[i]? = w.heap[i]? := k.frame
  refine ⟨k.os, k.tape, k.output, k.size, ?_, Store.le.refl _, fun b o hs => k.fit b o (h2 b o hs), fun b o hs => .inl hs, ?_, ?_, ?_, ?_, k.drawn⟩
  · intro i hi hn
    refine hframe i hi fun hx => hn ?_
    obtain ⟨r2, hr2, hb2⟩ := mem_blks.1 hx
    exact mem_blks.2 ⟨r2, List.mem_cons_of_mem _ hr2, hb2⟩
  · intro r2 hr2
    rcases List.mem_cons.1 hr2 with rfl | hr2
    · exact (Res.rowS E size enc v l).keep w w' (fun b hbb => hframe b (hb b hbb).1 (hb b hbb).2) (hw.holds _ (List.mem_cons_self ..))
    · exact k.holds r2 hr2
  · intro r2 hr2 b hb2
    exact .inl (mem_blks.2 ⟨r2, hr2, hb2⟩)
  · exact hw.nodup
  · intro r2 hr2 b hb2
    exact hw.apart r2 hr2 b hb2

/-! ### Strings, as lists of bytes -/
def bs (l : List UInt8) : ByteArray := ⟨l.toArray⟩
theorem bs_size (l : List UInt8) : (bs l).size = l.length := rfl
theorem bs_list (l : List UInt8) : (bs l).data.toList = l := rfl
theorem bs_of (s : ByteArray) : s = bs s.data.toList := by cases s; rfl
theorem bs_inj {l m : List UInt8} (h : bs l = bs m) : l = m := by have := congrArg (fun s : ByteArray => s.data.toList) h; simpa [bs] using this
def encS (l : List UInt8) : List Value := [.string (bs l)]
theorem encS_len (x : List UInt8) : (encS x).length = 1 := rfl
theorem encS_one : ∀ x, ∀ u ∈ encS x, u.oneCell' = true := fun x u hu => by simp [encS] at hu; subst hu; rfl

section
variable {P : Program} {n : Nat} {e : Env} {σ : Store} {H : List Res} {o : Oper} {x y z : Operand} {l m : List UInt8}
theorem OpVal.lenBs {t : TypeId} (ho : o.op = .call { callee := .builtin .len, args := #[x], argTypes := #[t] }) (ht : P.underlying t = some .string) (hx : ev e x = .string (bs l)) :
    OpVal P n o e σ H (.int .i64 (l.length : Nat)) := OpVal.lenStr ho ht hx
theorem OpVal.indexBs {T : Nat} {k : IntKind} {i : Nat} (ho : o.op = .index T x y) (ht : P.underlying T = some .string) (hx : ev e x = .string (bs l)) (hy : ev e y = .int k (i : Nat)) (h : i < l.length) :
    OpVal P n o e σ H (.int .u8 ((nth l i (0 : UInt8)).toNat : Nat)) := OpVal.indexStrN ho ht hx hy (by rw [bs_list]; exact getD_some l h _)
theorem OpVal.indexBsI {T : Nat} {k : IntKind} {i : Int} (ho : o.op = .index T x y) (ht : P.underlying T = some .string) (hx : ev e x = .string (bs l)) (hy : ev e y = .int k i) (h0 : 0 ≤ i) (h : i < (l.length : Int)) :
    OpVal P n o e σ H (.int .u8 ((nth l i.toNat (0 : UInt8)).toNat : Nat)) := OpVal.indexStr ho ht hx hy h0 (by rw [bs_list]; exact getD_some l (by omega) _)
theorem bs_extract (l : List UInt8) (i j : Nat) : (bs l).extract i j = bs ((l.take j).drop i) := by
  apply ByteArray.ext
  rw [ByteArray.data_extract]
  apply Array.ext'
  simp [bs, List.extract_eq_take_drop, List.drop_take]
theorem OpVal.sliceBs {t : TypeId} {i j : Nat} {k k' : IntKind} (ho : o.op = .slice t x (some y) (some z) none) (ht : P.underlying t = some .string) (hx : ev e x = .string (bs l)) (hy : ev e y = .int k (i : Nat)) (hz : ev e z = .int k' (j : Nat))
    (h1 : i ≤ j) (h2 : j ≤ l.length) : OpVal P n o e σ H (.string (bs ((l.take j).drop i))) := by
  have := OpVal.sliceStr (P := P) (n := n) (σ := σ) (H := H) ho ht hx hy hz (by omega) (by omega) (by rw [bs_size]; omega)
  rwa [Int.toNat_natCast, Int.toNat_natCast, bs_extract] at this
theorem OpVal.sliceBsH {t : TypeId} {j : Nat} {k' : IntKind} (ho : o.op = .slice t x none (some z) none) (ht : P.underlying t = some .string) (hx : ev e x = .string (bs l)) (hz : ev e z = .int k' (j : Nat))
    (_h1 : 0 ≤ j) (h2 : j ≤ l.length) : OpVal P n o e σ H (.string (bs (l.take j))) := fun w _ => by
  have h := run_slice_string_to_if (P := P) w t (bs l) k' j ht
  rw [if_pos ⟨by omega, by rw [bs_size]; omega⟩, Int.toNat_natCast, bs_extract, List.drop_zero] at h
  simp [execOp, ho, hx, hz, Instr.sliceAt, run_underlying ht, h]
theorem OpVal.sliceBsL {t : TypeId} {i : Nat} {k : IntKind} (ho : o.op = .slice t x (some y) none none) (ht : P.underlying t = some .string) (hx : ev e x = .string (bs l)) (hy : ev e y = .int k (i : Nat))
    (h1 : i ≤ l.length) (_h2 : l.length ≤ l.length) : OpVal P n o e σ H (.string (bs (l.drop i))) := fun w _ => by
  have h := run_slice_string_from_if (P := P) w t (bs l) k i ht
  rw [if_pos ⟨by omega, by rw [bs_size]; omega⟩, Int.toNat_natCast, bs_extract, bs_size, List.take_length] at h
  simp [execOp, ho, hx, hy, Instr.sliceAt, run_underlying ht, h]
theorem run_eqGuard_str (op : BinOp) (t : TypeId) (x y : Operand) (a b : ByteArray) (w : World) : (eqGuard op t x y (.string a) (.string b)).run P w = .ok () w := by
  cases op <;> simp [eqGuard]
theorem run_eqGuard_bool (op : BinOp) (t : TypeId) (x y : Operand) (a b : Bool) (w : World) : (eqGuard op t x y (.bool a) (.bool b)).run P w = .ok () w := by
  cases op <;> simp [eqGuard]
theorem OpVal.catBs {T T' : TypeId} (ho : o.op = .binOp .add T x y T') (hx : ev e x = .string (bs l)) (hy : ev e y = .string (bs m)) (h : l.length + m.length ≤ 9223372036854775807) : OpVal P n o e σ H (.string (bs (l ++ m))) := fun w _ => by
  have h1 := run_string_add_sum (P := P) w (bs l) (bs m) (by rw [bs_size, bs_size]; omega)
  have h2 : bs l ++ bs m = bs (l ++ m) := ByteArray.mk_append_mk l m
  rw [h2] at h1
  simp only [execOp, ho, hx, hy, Sem.run_bind, run_eqGuard_str, Result.andThen_ok, binOp, h1, Sem.run_pure]
theorem bs_beq (l m : List UInt8) : ((bs l).toList == (bs m).toList) = decide (l = m) := by
  rw [ByteArray.toList_eq, ByteArray.toList_eq, bs_list, bs_list, Bool.eq_iff_iff, decide_eq_true_iff, beq_iff_eq]
theorem OpVal.eqlBs {T T' : TypeId} (ho : o.op = .binOp .eql T x y T') (hx : ev e x = .string (bs l)) (hy : ev e y = .string (bs m)) : OpVal P n o e σ H (.bool (decide (l = m))) := fun w _ => by
  simp only [execOp, ho, hx, hy, Sem.run_bind, run_eqGuard_str, Result.andThen_ok, binOp, Op.stringOp, bs_beq, Sem.run_pure]
theorem OpVal.neqBs {T T' : TypeId} (ho : o.op = .binOp .neq T x y T') (hx : ev e x = .string (bs l)) (hy : ev e y = .string (bs m)) : OpVal P n o e σ H (.bool (decide (l ≠ m))) := fun w _ => by
  simp only [execOp, ho, hx, hy, Sem.run_bind, run_eqGuard_str, Result.andThen_ok, binOp, Op.stringOp, bs_beq, Sem.run_pure, decide_not]
/-- An int made a byte. -/
def toU8 (a : Int) : UInt8 := UInt8.ofNat (IntKind.u8.wrap a).toNat
theorem wrap_u8 (a : Int) : IntKind.u8.wrap a = a % 256 := by simp [IntKind.wrap, IntKind.bits, IntKind.signed]
theorem toU8_val (a : Int) : ((toU8 a).toNat : Int) = IntKind.u8.wrap a := by
  have h1 : IntKind.u8.wrap a = a % 256 := wrap_u8 a
  unfold toU8
  rw [UInt8.toNat_ofNat', h1]
  omega
theorem OpVal.convU8 {S T : TypeId} {k : IntKind} {a : Int} {d : TypeDesc} (ho : o.op = .convert S T x) (hs : P.underlying S = some d) (ht : P.underlying T = some (.int .u8)) (hx : ev e x = .int k a) : OpVal P n o e σ H (.int .u8 ((toU8 a).toNat : Nat)) := by
  rw [toU8_val]; exact OpVal.convInt ho hs ht hx
theorem run_eqBool {T : TypeId} (hT : P.underlying T = some .bool) (d : Nat) (a b : Bool) (w : World) : (Op.equalIn (d + 1) T (.bool a) (.bool b)).run P w = .ok (a == b) w := by
  simp [Op.equalIn, run_underlying hT]
theorem OpVal.eqlB {T T' : TypeId} {a b : Bool} (ho : o.op = .binOp .eql T x y T') (hx : ev e x = .bool a) (hy : ev e y = .bool b) (hT : P.underlying T = some .bool) : OpVal P n o e σ H (.bool (a == b)) := fun w _ => by
  simp only [execOp, ho, hx, hy, Sem.run_bind, run_eqGuard_bool, Result.andThen_ok]
  rw [run_eql_agg' (by simp) (r := a == b) (run_eqBool hT 9999 a b w) rfl]; rfl
theorem OpVal.neqB {T T' : TypeId} {a b : Bool} (ho : o.op = .binOp .neq T x y T') (hx : ev e x = .bool a) (hy : ev e y = .bool b) (hT : P.underlying T = some .bool) : OpVal P n o e σ H (.bool (a != b)) := fun w _ => by
  simp only [execOp, ho, hx, hy, Sem.run_bind, run_eqGuard_bool, Result.andThen_ok]
  rw [run_neq_agg' (by simp) (r := a == b) (run_eqBool hT 9999 a b w) rfl]; rfl
theorem OpVal.eqlSet {T T' E : TypeId} {s t : BSet} (ho : o.op = .binOp .eql T x y T') (hT : P.underlying T = some (.array 4 E)) (hE : P.underlying E = some (.int .u64)) (hA : aggOf P E = some false) (hz : szOf P E = some 1) (hg : P.eqGuardType P.depth T = false)
    (hx : ev e x = .agg (setA s)) (hy : ev e y = .agg (setA t)) : OpVal P n o e σ H (.bool (decide (s = t))) := by
  have := OpVal.eqlArr4 (P := P) (n := n) (σ := σ) (H := H) ho hT hE hA hz hg hx hy rfl rfl
  have h : decide (((s.a : Nat) : Int) = (t.a : Nat) ∧ ((s.b : Nat) : Int) = (t.b : Nat) ∧ ((s.c : Nat) : Int) = (t.c : Nat) ∧ ((s.d : Nat) : Int) = (t.d : Nat)) = decide (s = t) := by rw [decide_eq_decide]; exact (BSet.eq_iff s t).symm
  rwa [h] at this
theorem OpVal.neqSet {T T' E : TypeId} {s t : BSet} (ho : o.op = .binOp .neq T x y T') (hT : P.underlying T = some (.array 4 E)) (hE : P.underlying E = some (.int .u64)) (hA : aggOf P E = some false) (hz : szOf P E = some 1) (hg : P.eqGuardType P.depth T = false)
    (hx : ev e x = .agg (setA s)) (hy : ev e y = .agg (setA t)) : OpVal P n o e σ H (.bool (decide (s ≠ t))) := by
  have := OpVal.neqArr4 (P := P) (n := n) (σ := σ) (H := H) ho hT hE hA hz hg hx hy rfl rfl
  have h : (!decide (((s.a : Nat) : Int) = (t.a : Nat) ∧ ((s.b : Nat) : Int) = (t.b : Nat) ∧ ((s.c : Nat) : Int) = (t.c : Nat) ∧ ((s.d : Nat) : Int) = (t.d : Nat))) = decide (s ≠ t) := by
    rw [decide_not, Bool.not_eq_eq_eq_not, Bool.not_not, decide_eq_decide]; exact (BSet.eq_iff s t).symm
  rwa [h] at this
end

theorem OpOk.convBs {X : Ctx} {e : Env} {σ : Store} {H : List Res} {o : Oper} {x : Operand} {K : Env → Store → List Res → Prop} {S T E d : Nat} {l : List UInt8} (ho : o.op = .convert S T x) (hs : X.P.underlying S = some .string) (ht : X.P.underlying T = some (.slice E)) (he : X.P.underlying E = some (.int .u8))
    (hx : ev e x = .string (bs l)) (hd : o.dst = some d) (hn : Nat.blt d X.n = true) (hsz : l.length ≤ 281474976710656)
    (k : ∀ a c σ', σ.le σ' → RS σ' 1 encU8 (.slice a l.length c) l → K (upd e d (.slice a l.length c)) σ' H) : OpOk X o e σ H K := OpOk.convBytes ho hs ht he hx hd hn hsz k

/-- make, the length and the room each by its own equation. -/
theorem OpOk.makeS2 {X : Ctx} {e : Env} {σ : Store} {H : List Res} {o : Oper} {x y : Operand} {K : Env → Store → List Res → Prop} {α : Type} {T E size by_ d m : Nat} {enc : α → List Value} {kl kc : IntKind} {z : Value} (x0 : α) (ho : o.op = .makeSlice T x y) (ht : X.P.underlying T = some (.slice E)) (hs : szOf X.P E = some size) (hby : byOf X.P E = some by_) (hz : zeroOf X.P E = some z)
    (hd : o.dst = some d) (hn : Nat.blt d X.n = true) (hx : ev e x = .int kl (m : Nat)) (hy : ev e y = .int kc (m : Nat)) (hb : by_ * m ≤ 281474976710656) (hby0 : 0 < by_) (hl : ∀ x, (enc x).length = size) (h0 : 0 < size)
    (hz0 : z.cells.toList = enc x0) (h1 : ∀ x, ∀ u ∈ enc x, u.oneCell' = true) (k : ∀ a c, K (upd e d (.slice a (List.replicate m x0).length c)) σ (Res.rowS E size enc (.slice a (List.replicate m x0).length c) (List.replicate m x0) :: H)) : OpOk X o e σ H K :=
  OpOk.makeS x0 ho ht hs hby hz hd hn hx hy hb hby0 hl h0 hz0 h1 fun a c => by have := k a c; simp only [List.length_replicate] at this; exact this

/-! ### Sets: maps of nothing -/
def insK {α : Type} [BEq α] (l : List α) (k : α) : List α := if l.contains k = true then l else l ++ [k]

structure KeyLaw {α : Type} [BEq α] (P : Program) (K : TypeId) (enc : α → Value) : Prop where
  check : ∀ x c w, (Instr.checkKey c 10000 K (enc x)).run P w = .ok () w
  find : ∀ x (l : List α) (es : List MapEntry) w, es.map (·.key) = l.map enc → ∃ r, (Instr.findKey K (enc x) es).run P w = .ok r w ∧
    (l.contains x = false → r = none) ∧ (l.contains x = true → ∃ i m, r = some (i, m.val) ∧ es[i]? = some m ∧ m.key = enc x)
  stays : ∀ x w, (Instr.keyThatStays (enc x) (enc x)).run P w = .ok (enc x) w

def Res.setS {α : Type} (enc : α → Value) (b : Nat) (l : List α) : Res where
  bl := [b]
  holds w := ∃ es clock, w.heap[b]? = some (.map es clock) ∧ es.toList.map (·.key) = l.map enc ∧ ∀ m ∈ es.toList, m.val = .agg #[]
  lt w k hk h := by rw [List.mem_singleton.1 hk]; obtain ⟨_, _, h, _⟩ := h; exact (Array.getElem?_eq_some_iff.1 h).1
  keep w w' hb h := by obtain ⟨es, c, h1, h2⟩ := h; exact ⟨es, c, by rw [hb b (List.mem_singleton.2 rfl)]; exact h1, h2⟩

def keyI (x : Int) : Value := .int .i64 x
theorem findNow_int (x : Int) : ∀ (l : List Int) (es : List MapEntry) (i : Nat), es.map (·.key) = l.map keyI → ∃ r, Instr.findNow (.int .i64) (keyI x) es i = some r ∧
    (l.contains x = false → r = none) ∧ (l.contains x = true → ∃ j m, r = some (i + j, m.val) ∧ es[j]? = some m ∧ m.key = keyI x)
  | [], [], i, _ => ⟨none, rfl, fun _ => rfl, fun h => by simp at h⟩
  | [], _ :: _, i, h => by simp at h
  | _ :: _, [], i, h => by simp at h
  | y :: l, m :: es, i, h => by
    simp only [List.map_cons, List.cons.injEq] at h
    obtain ⟨h1, h2⟩ := h
    unfold Instr.findNow
    rw [h1]
    simp only [Instr.sameNow, keyI, if_true]
    by_cases hxy : x = y
    · subst hxy
      simp only [beq_self_eq_true]
      exact ⟨_, rfl, fun h => by simp at h, fun _ => ⟨0, m, rfl, rfl, h1⟩⟩
    · have hb : (x == y) = false := by simpa using hxy
      simp only [hb]
      obtain ⟨r, h3, h4, h5⟩ := findNow_int x l es (i + 1) h2
      refine ⟨r, h3, fun h => h4 ?_, fun h => ?_⟩
      · rw [List.contains_cons, hb, Bool.false_or] at h; exact h
      · rw [List.contains_cons, hb, Bool.false_or] at h
        obtain ⟨j, m', e1, e2, e3⟩ := h5 h
        exact ⟨j + 1, m', by rw [e1]; congr 2; omega, by simpa using e2, e3⟩
theorem run_checkKey_int {P : Program} {K : TypeId} (hK : P.underlying K = some (.int .i64)) (d : Nat) (x : Int) (c : Bool) (w : World) : (Instr.checkKey c (d + 1) K (keyI x)).run P w = .ok () w := by
  simp [Instr.checkKey, run_underlying hK, keyI]
theorem keyI_law {P : Program} {K : TypeId} (hK : P.underlying K = some (.int .i64)) : KeyLaw P K keyI where
  check x c w := run_checkKey_int hK 9999 x c w
  find x l es w h := by
    obtain ⟨r, h1, h2, h3⟩ := findNow_int x l es 0 h
    refine ⟨r, by simp [Instr.findKey, run_underlying hK, h1], h2, fun hc => ?_⟩
    obtain ⟨j, m, e1, e2, e3⟩ := h3 hc
    exact ⟨j, m, by rw [e1, Nat.zero_add], e2, e3⟩
  stays x w := by
    have h : Instr.sameBits 10000 (keyI x) (keyI x) = true := by unfold keyI; rw [Instr.sameBits]; simp
    simp [Instr.keyThatStays, h]

section
variable {X : Ctx} {e : Env} {σ : Store} {H F : List Res} {o : Oper} {x y z : Operand} {K : Env → Store → List Res → Prop} {α : Type}
theorem OpOk.makeMapS {T d : Nat} {enc : α → Value} (ho : o.op = .makeMap T none) (hd : o.dst = some d) (hn : Nat.blt d X.n = true) (k : ∀ b, K (upd e d (.map (some b))) σ (Res.setS enc b [] :: H)) : OpOk X o e σ H K := by
  intro w a hw ha K' Q hK
  refine Oper.wp_of_run (w' := w.alloc (.map #[] 0)) (v := .map (some w.heap.size)) ?_ (hK _ _ _ _ _ (k w.heap.size) (hw.gain1 (some _) rfl rfl rfl rfl (by simp) (Nat.le_refl _) (fun k hk => heap_alloc_old w _ k hk) ⟨#[], 0, heap_alloc_new w _, rfl, by simp⟩ (fun b hb => by cases hb; exact Nat.le_refl _)) (put_dst ha hd hn _))
  simp [execOp, ho, Instr.makeMap]
theorem run_getObj_map' {P : Program} {w : World} {r : Nat} {es : Array MapEntry} {clock : Nat} (h : w.heap[r]? = some (.map es clock)) : (getObj r).run P w = .ok (.map es clock) w := by simp [getObj, Sem.run, h]
theorem run_setObj_map' {P : Program} {w : World} {r : Nat} {es : Array MapEntry} {clock : Nat} (o : Obj) (h : w.heap[r]? = some (.map es clock)) : (setObj r o).run P w = .ok () { w with heap := w.heap.setIfInBounds r o } := by simp [setObj, Sem.run, h]
theorem setS_sees [BEq α] {enc : α → Value} {b : Nat} {l : List α} {i : Nat} {w : World} (hi : H[i]? = some (Res.setS enc b l)) (hw : Sees σ H w) :
    ∃ es clock, w.heap[b]? = some (.map es clock) ∧ es.toList.map (·.key) = l.map enc ∧ ∀ m ∈ es.toList, m.val = .agg #[] := hw.2 _ (List.mem_of_getElem? hi)
theorem OpVal.lookSet [BEq α] {P : Program} {n T KT ET i : Nat} {enc : α → Value} {b : Nat} {l : List α} {q : α} (ho : o.op = .lookup T x y true) (ht : P.underlying T = some (.map KT ET)) (hz : zeroOf P ET = some (.agg #[])) (hx : ev e x = .map (some b)) (hi : H[i]? = some (Res.setS enc b l)) (hy : ev e y = enc q) (K : KeyLaw P KT enc) :
    OpVal P n o e σ H (.tuple #[.agg #[], .bool (l.contains q)]) := fun w hw => by
  obtain ⟨es, clock, h1, h2, h3⟩ := setS_sees hi hw
  obtain ⟨r, k1, k2, k3⟩ := K.find q l es.toList w h2
  have hg : (getObj b).run P w = .ok (.map es clock) w := run_getObj_map' h1
  cases hc : l.contains q with
  | false =>
    rw [k2 hc] at k1
    simp [execOp, ho, hx, hy, Instr.lookup, run_underlying ht, hg, K.check, k1, run_zeroValue hz]
  | true =>
    obtain ⟨j, m, e1, e2, e3⟩ := k3 hc
    rw [e1] at k1
    have hm := h3 m (List.mem_of_getElem? e2)
    simp [execOp, ho, hx, hy, Instr.lookup, run_underlying ht, hg, K.check, k1, hm]
theorem OpVal.lenSet [BEq α] {P : Program} {n T KT ET i : Nat} {enc : α → Value} {b : Nat} {l : List α} (ho : o.op = .call { callee := .builtin .len, args := #[x], argTypes := #[T] }) (ht : P.underlying T = some (.map KT ET)) (hx : ev e x = .map (some b)) (hi : H[i]? = some (Res.setS enc b l)) :
    OpVal P n o e σ H (.int .i64 (l.length : Nat)) := fun w hw => by
  obtain ⟨es, clock, h1, h2, h3⟩ := setS_sees hi hw
  have hl : es.size = l.length := by have := congrArg List.length h2; simpa using this
  have hg : (getObj b).run P w = .ok (.map es clock) w := run_getObj_map' h1
  simp [execOp, ho, resolve, invoke, builtin, hx, Builtin.len_, run_underlying ht, hg, goInt, hl]
theorem OpOk.updSet [BEq α] [LawfulBEq α] {T KT ET : Nat} {enc : α → Value} {b : Nat} {l : List α} (q : α) (ho : o.op = .mapUpdate T x y z) (ht : X.P.underlying T = some (.map KT ET)) (hd : o.dst = none) (hx : ev e x = .map (some b)) (hy : ev e y = enc q) (hz : ev e z = .agg #[]) (KL : KeyLaw X.P KT enc)
    (k : K e σ (Res.setS enc b (insK l q) :: F)) : OpOk X o e σ (Res.setS enc b l :: F) K := by
  intro w a hw ha K' Q hK
  obtain ⟨es, clock, h1, h2, h3⟩ := hw.holds _ (List.mem_cons_self ..)
  obtain ⟨r, k1, k2, k3⟩ := KL.find q l es.toList w h2
  have hg : (getObj b).run X.P w = .ok (.map es clock) w := run_getObj_map' h1
  have hblt : b < w.heap.size := (Array.getElem?_eq_some_iff.1 h1).1
  have key : ∀ es' clock', es'.toList.map (·.key) = (insK l q).map enc → (∀ m ∈ es'.toList, m.val = Value.agg #[]) → Reach X.w0 X.C X.σ0 σ { w with heap := w.heap.setIfInBounds b (.map es' clock') } (Res.setS enc b (insK l q) :: F) := fun es' clock' g1 g2 =>
    hw.turn1 (some _) (some _) rfl rfl rfl rfl rfl (by simp) (Nat.le_refl _) (fun k hk hne => by
      have : b ≠ k := fun hx => hne (by rw [hx])
      simp [Array.getElem?_setIfInBounds, this]) ⟨es', clock', by simp [Array.getElem?_setIfInBounds, hblt], g1, g2⟩ (fun c hc => .inl (by cases hc; rfl))
  cases hc : l.contains q with
  | false =>
    rw [k2 hc] at k1
    refine Oper.wp_of_skip (w' := { w with heap := w.heap.setIfInBounds b (.map (es.push { key := enc q, val := .agg #[], born := clock }) (clock + 1)) }) ?_ (hK _ _ _ _ _ k (key _ _ ?_ ?_) (put_dst0 ha hd _))
    · rw [ha.eval']
      simp [execOp, ho, hx, hy, hz, Instr.mapUpdate, run_underlying ht, hg, KL.check, k1, run_setObj_map' _ h1]
    · rw [insK, hc, if_neg Bool.false_ne_true, List.map_append, Array.toList_push, List.map_append, h2]; rfl
    · intro m hm
      simp at hm
      rcases hm with hm | rfl
      · exact h3 m (by simpa using hm)
      · rfl
  | true =>
    obtain ⟨j, m, e1, e2, e3⟩ := k3 hc
    rw [e1] at k1
    have hj : j < es.size := by have := (List.getElem?_eq_some_iff.1 e2).1; simpa using this
    have e2' : es[j]? = some m := by simpa using e2
    refine Oper.wp_of_skip (w' := { w with heap := w.heap.setIfInBounds b (.map (es.modify j fun m => { m with key := enc q, val := .agg #[] }) clock) }) ?_ (hK _ _ _ _ _ k (key _ _ ?_ ?_) (put_dst0 ha hd _))
    · rw [ha.eval']
      simp [execOp, ho, hx, hy, hz, Instr.mapUpdate, run_underlying ht, hg, KL.check, k1, run_setObj_map' _ h1, e2', e3, KL.stays]
    · rw [insK, if_pos hc, ← h2]
      apply List.ext_getElem?
      intro i
      simp only [List.getElem?_map, Array.getElem?_toList, Array.getElem?_modify]
      by_cases hi : j = i
      · subst hi; simp [e2', e3]
      · simp [hi]
    · intro u hu
      obtain ⟨i, hi, hu'⟩ := List.getElem_of_mem hu
      have : (es.modify j fun m => { m with key := enc q, val := .agg #[] })[i]? = some u := by rw [← Array.getElem?_toList, List.getElem?_eq_getElem hi, hu']
      rw [Array.getElem?_modify] at this
      by_cases hij : j = i
      · subst hij
        simp [e2'] at this
        subst this; rfl
      · simp [hij] at this
        exact h3 u (List.mem_of_getElem? (by simpa using this))
end
end Go.E
