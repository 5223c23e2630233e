/- The engine, part four: operations that make or write memory; calls; regions that draw their order. Plain lemmas over any program; no condition. -/
import Derived.Test.YtcidppnlhhkhhaaEng3
set_option linter.unusedVariables false
set_option linter.unusedSimpArgs false
namespace Go.E
open Go

def Exit.noPanic (Q : Exit → Act → World → Prop) : Exit → Act → World → Prop
  | .panic _, _, _ => False
  | e, a, w => Q e a w

def splice (cs : List Value) (k : Nat) (vs : List Value) : List Value := cs.take k ++ vs ++ cs.drop (k + vs.length)

/-- Parts put into cells, on lists. -/
def fillL (place : Nat → Option (Nat × Nat)) (cells : List Value) : List (Nat × Value) → Option (List Value)
  | [] => some cells
  | (i, v) :: rest =>
    match place i with
    | none => none
    | some (off, size) =>
      if v.cells.toList.length ≠ size || off + v.cells.toList.length > cells.length then none
      else fillL place (splice cells off v.cells.toList) rest

theorem set_foldl (l : List Value) : ∀ (j off : Nat) (cs : Array Value), off + j + l.length ≤ cs.size →
    ((l.zipIdx j).foldl (fun (cs : Array Value) (x : Value × Nat) => cs.setIfInBounds (off + x.2) x.1) cs).toList = splice cs.toList (off + j) l := by
  induction l with
  | nil => intro j off cs _; simp [splice]
  | cons v l ih =>
    intro j off cs h
    simp only [List.length_cons] at h
    rw [List.zipIdx_cons, List.foldl_cons, ih (j + 1) off _ (by simp; omega)]
    simp only [splice, Array.toList_setIfInBounds, List.length_cons]
    apply List.ext_getElem?
    intro q
    simp only [List.getElem?_append, List.length_take, List.length_set, List.length_append, List.getElem?_take, List.getElem?_set, List.length_cons, List.getElem?_drop, Array.length_toList]
    have hm : min (off + (j + 1)) cs.size = off + j + 1 := by omega
    have hm2 : min (off + j) cs.size = off + j := by omega
    simp only [hm, hm2]
    by_cases h1 : q < off + j
    · have a1 : q < off + j + 1 := by omega
      have a2 : q < off + (j + 1) := by omega
      have a3 : ¬ off + j = q := by omega
      have a4 : q < off + j + 1 + l.length := by omega
      have a5 : q < off + j + (l.length + 1) := by omega
      simp [h1, a1, a2, a3, a4, a5]
    · by_cases h2 : q = off + j
      · subst h2
        have a1 : off + j < off + (j + 1) := by omega
        have a2 : off + j < cs.size := by omega
        have a3 : off + j < off + j + 1 + l.length := by omega
        simp [a1, a2, a3]
      · by_cases h3 : q < off + j + (l.length + 1)
        · have a1 : ¬ q < off + j + 1 := by omega
          have a2 : q < off + j + 1 + l.length := by omega
          have a3 : q - (off + j) = (q - (off + j + 1)) + 1 := by omega
          simp [h1, h3, a1, a2, a3]
        · have a1 : ¬ q < off + j + 1 + l.length := by omega
          have a3 : ¬ off + j = off + (j + 1) + l.length + (q - (off + j + 1 + l.length)) := by omega
          have a4 : off + (j + 1) + l.length + (q - (off + j + 1 + l.length)) = off + j + (l.length + 1) + (q - (off + j + (l.length + 1))) := by omega
          rw [if_neg (by omega), if_neg (by omega), if_neg (by omega), a4]

theorem fill_eq (place : Nat → Option (Nat × Nat)) : ∀ (parts : List (Nat × Value)) (cells : Array Value), Instr.fill place cells parts = (fillL place cells.toList parts).map List.toArray
  | [], cells => by simp [Instr.fill, fillL]
  | (i, v) :: rest, cells => by
    unfold Instr.fill fillL
    cases hp : place i with
    | none => rfl
    | some x =>
      obtain ⟨off, size⟩ := x
      simp only [Array.length_toList]
      by_cases hc : (decide (v.cells.size ≠ size) || decide (off + v.cells.size > cells.size)) = true
      · simp only [hc, if_true]; rfl
      · simp only [hc]
        simp only [ne_eq, Bool.or_eq_true, decide_eq_true_eq, not_or, Decidable.not_not, gt_iff_lt, Nat.not_lt] at hc
        rw [fill_eq place rest]
        congr 2
        have := set_foldl v.cells.toList 0 off cells (by simp; omega)
        simp only [Nat.add_zero] at this
        rw [← this, ← Array.foldl_toList]
        simp

section
variable {X : Ctx} {e : Env} {σ : Store} {H F : List Res} {o : Oper} {x y : Operand} {K : Env → Store → List Res → Prop}

theorem put_dst {n : Nat} {a : Act} (ha : St n e a) {d : Nat} (hd : o.dst = some d) (hn : Nat.blt d n = true) (v : Value) : St n (upd e d v) (a.put o.dst v) := by
  rw [hd]; exact ha.put (by simpa [Nat.blt_eq] using hn) v
theorem put_dst0 {n : Nat} {a : Act} (ha : St n e a) (hd : o.dst = none) (v : Value) : St n e (a.put o.dst v) := by
  rw [hd]; exact ha

/-- A new block with cells. -/
theorem Reach.newCells {w0 : World} {C : List Nat} {σ0 : Store} {w : World} (h : Reach w0 C σ0 σ w H) (cs : Array Value) (E : TypeId) : Reach w0 C σ0 σ (w.alloc (.cells cs E)) (Res.cells w.heap.size cs E :: H) :=
  h.gain1 (some _) rfl rfl rfl rfl (by simp) (Nat.le_refl _) (fun k hk => heap_alloc_old w _ k hk) (heap_alloc_new w _) (fun b hb => by cases hb; exact Nat.le_refl _)

theorem OpOk.box {E d : Nat} {v : Value} (ho : o.op = .box E x) (hd : o.dst = some d) (hn : Nat.blt d X.n = true) (hx : ev e x = v) (k : ∀ b, K (upd e d (loc b 0)) σ (Res.cells b v.cells E :: H)) : OpOk X o e σ H K := by
  subst hx
  intro w a hw ha K' Q hK
  refine Oper.wp_of_run (w' := w.alloc (.cells (ev e x).cells E)) (v := loc w.heap.size 0) ?_ (hK _ _ _ _ _ (k w.heap.size) (hw.newCells _ _) (put_dst ha hd hn _))
  rw [ha.eval']
  simp [execOp, ho, Instr.box, newVar, newRow, loc]

theorem OpOk.alloc {E d : Nat} {z : Value} (ho : o.op = .alloc E) (hz : zeroOf X.P E = some z) (hd : o.dst = some d) (hn : Nat.blt d X.n = true) (k : ∀ b, K (upd e d (loc b 0)) σ (Res.cells b z.cells E :: H)) : OpOk X o e σ H K := by
  intro w a hw ha K' Q hK
  refine Oper.wp_of_run (w' := w.alloc (.cells z.cells E)) (v := loc w.heap.size 0) ?_ (hK _ _ _ _ _ (k w.heap.size) (hw.newCells _ _) (put_dst ha hd hn _))
  simp [execOp, ho, Instr.alloc, run_zeroValue hz, newVar, newRow, loc]

theorem Reach.setCells {w0 : World} {C : List Nat} {σ0 : Store} {w : World} {b : Nat} {cs cs' : Array Value} {E : TypeId} (h : Reach w0 C σ0 σ w (Res.cells b cs E :: F)) : Reach w0 C σ0 σ (w.setRow b cs') (Res.cells b cs' E :: F) :=
  h.turn1 (some _) (some _) rfl rfl rfl rfl rfl (by simp) (Nat.le_refl _) (fun k hk hne => setRow_other w b k cs' (fun hx => hne (by subst hx; rfl))) (setRow_heap w b cs cs' E _ (h.holds _ (List.mem_cons_self ..))) (fun k hk => .inl (by cases hk; rfl))

/-- A store into a local variable, or a part of one. -/
theorem OpOk.store {T b k s : Nat} {E : TypeId} {cs cs' : Array Value} {v : Value} (ho : o.op = .store T x y) (hs : szOf X.P T = some s) (hd : o.dst = none) (hx : ev e x = loc b k) (hv : ev e y = v) (hvs : v.cells.size = s)
    (h1 : ∀ u ∈ v.cells.toList, u.oneCell' = true) (hfit : Nat.ble (k + s) cs.size = true) (hcs : (splice cs.toList k v.cells.toList).toArray = cs') (kk : K e σ (Res.cells b cs' E :: F)) : OpOk X o e σ (Res.cells b cs E :: F) K := by
  subst hv hcs
  intro w a hw ha K' Q hK
  have hb : w.heap[b]? = some (.cells cs E (0, 0)) := hw.holds _ (List.mem_cons_self ..)
  have hfit' := Nat.le_of_ble_eq_true hfit
  have hst := run_storeCells_at X.P b k E (ev e y).cells.toList 0 cs w hb (by simp [hvs]; omega) h1
  refine Oper.wp_of_skip (w' := w.setRow b (splice cs.toList k (ev e y).cells.toList).toArray) ?_ (hK _ _ _ _ _ kk hw.setCells (put_dst0 ha hd _))
  rw [ha.eval']
  simp only [Nat.add_zero] at hst
  simp [execOp, ho, hx, loc, Instr.storeAt, Instr.sureAddr, storeVar, run_sizeOf hs, hvs, splice, hst]

theorem OpOk.store1 {T b k : Nat} {E : TypeId} {cs cs' : Array Value} {v : Value} (ho : o.op = .store T x y) (hs : szOf X.P T = some 1) (hd : o.dst = none) (hx : ev e x = loc b k) (hv : ev e y = v) (hc : v.cells = #[v]) (h1 : v.oneCell' = true)
    (hfit : Nat.ble (k + 1) cs.size = true) (hcs : (splice cs.toList k [v]).toArray = cs') (kk : K e σ (Res.cells b cs' E :: F)) : OpOk X o e σ (Res.cells b cs E :: F) K :=
  OpOk.store (s := 1) ho hs hd hx hv (by rw [hc]; rfl) (by rw [hc]; intro u hu; simp at hu; subst hu; exact h1) hfit (by rw [hc]; exact hcs) kk
section
variable {T b k : Nat} {E : TypeId} {cs cs' : Array Value} (ho : o.op = .store T x y) (hs : szOf X.P T = some 1) (hd : o.dst = none) (hx : ev e x = loc b k) (hfit : Nat.ble (k + 1) cs.size = true)
include ho hs hd hx hfit
theorem OpOk.storeI {q : IntKind} {i : Int} (hv : ev e y = .int q i) (hcs : (splice cs.toList k [.int q i]).toArray = cs') (kk : K e σ (Res.cells b cs' E :: F)) : OpOk X o e σ (Res.cells b cs E :: F) K := OpOk.store1 ho hs hd hx hv rfl rfl hfit hcs kk
theorem OpOk.storeB {i : Bool} (hv : ev e y = .bool i) (hcs : (splice cs.toList k [.bool i]).toArray = cs') (kk : K e σ (Res.cells b cs' E :: F)) : OpOk X o e σ (Res.cells b cs E :: F) K := OpOk.store1 ho hs hd hx hv rfl rfl hfit hcs kk
theorem OpOk.storeSl {a : Option Addr} {m c : Nat} (hv : ev e y = .slice a m c) (hcs : (splice cs.toList k [.slice a m c]).toArray = cs') (kk : K e σ (Res.cells b cs' E :: F)) : OpOk X o e σ (Res.cells b cs E :: F) K := OpOk.store1 ho hs hd hx hv rfl rfl hfit hcs kk
theorem OpOk.storeLoc {g m : Nat} (hv : ev e y = loc g m) (hcs : (splice cs.toList k [loc g m]).toArray = cs') (kk : K e σ (Res.cells b cs' E :: F)) : OpOk X o e σ (Res.cells b cs E :: F) K := OpOk.store1 ho hs hd hx hv rfl rfl hfit hcs kk
theorem OpOk.storeStr {g : ByteArray} (hv : ev e y = .string g) (hcs : (splice cs.toList k [.string g]).toArray = cs') (kk : K e σ (Res.cells b cs' E :: F)) : OpOk X o e σ (Res.cells b cs E :: F) K := OpOk.store1 ho hs hd hx hv rfl rfl hfit hcs kk
theorem OpOk.storeMap {g : Option Nat} (hv : ev e y = .map g) (hcs : (splice cs.toList k [.map g]).toArray = cs') (kk : K e σ (Res.cells b cs' E :: F)) : OpOk X o e σ (Res.cells b cs E :: F) K := OpOk.store1 ho hs hd hx hv rfl rfl hfit hcs kk
end

theorem World.ownsRow.spliced {w : World} {base E size : Nat} {g n cap : Nat} {xs vs : List Value} {k : Nat} (P : Program) (h : w.ownsRow base E size (.slice (some ⟨g, 0, none⟩) n cap) n xs) (hk : k + vs.length ≤ xs.length) (h1 : ∀ u ∈ vs, u.oneCell' = true) :
    ∃ w', (storeCells ⟨g, k, none⟩ vs 0).run P w = .ok () w' ∧ w'.ownsRow base E size (.slice (some ⟨g, 0, none⟩) n cap) n (splice xs k vs) ∧ w.grownBy w' (some g) ∧ w.drawn ≤ w'.drawn := by
  rcases h.2 with ⟨h', _⟩ | ⟨g', cap', cur, h', hb, hg, hnc, hcm, hcs, htake⟩
  · simp at h'
  · simp only [Value.slice.injEq, Option.some.injEq, Addr.mk.injEq, and_true, true_and] at h'
    obtain ⟨rfl, rfl⟩ := h'
    have hxl : xs.length ≤ cur.size := by rw [← htake]; simp; omega
    have hst := run_storeCells_at P g k E vs 0 cur w hg (by omega) h1
    simp only [Nat.add_zero] at hst
    refine ⟨_, hst, ⟨?_, .inr ⟨g, cap, _, rfl, hb, setRow_heap w g cur _ E _ hg, hnc, hcm, ?_, ?_⟩⟩, ⟨rfl, rfl, rfl, by simp, fun k' _ hk' => setRow_other w g k' _ (fun e => hk' (by simp [e]))⟩, Nat.le_refl _⟩
    · simp only [splice, List.length_append, List.length_take, List.length_drop]
      have := h.1
      omega
    · simp only [List.size_toArray, List.length_append, List.length_take, List.length_drop, Array.length_toList]
      omega
    · have hx := h.1
      have hlen : (cur.toList.take k ++ vs).length = k + vs.length := by simp; omega
      rw [List.take_append, hlen, ← htake, splice, List.take_take, List.drop_take]
      rw [List.take_of_length_le (by rw [hlen]; omega), Nat.min_eq_left (by omega)]

theorem oneCell_splice {xs vs : List Value} {k : Nat} (h : ∀ u ∈ xs, u.oneCell' = true) (h' : ∀ u ∈ vs, u.oneCell' = true) : ∀ u ∈ splice xs k vs, u.oneCell' = true := by
  intro u hu
  simp only [splice, List.mem_append] at hu
  rcases hu with (hu | hu) | hu
  · exact h u (List.mem_of_mem_take hu)
  · exact h' u hu
  · exact h u (List.mem_of_mem_drop hu)

/-- A store into an element of an owned row. -/
theorem OpOk.storeRow {T k s E size m : Nat} {v u : Value} {xs : List Value} (ho : o.op = .store T x y) (hs : szOf X.P T = some s) (hd : o.dst = none) (hx : ev e x = elem v k) (hv : ev e y = u) (hus : u.cells.size = s)
    (h1 : ∀ c ∈ u.cells.toList, c.oneCell' = true) (h0 : 0 < s) (hk : k + s ≤ xs.length) (kk : K e σ (Res.row E size v m (splice xs k u.cells.toList) :: F)) : OpOk X o e σ (Res.row E size v m xs :: F) K := by
  subst hv
  intro w a hw ha K' Q hK
  obtain ⟨hown, hone, hbg⟩ := hw.holds _ (List.mem_cons_self ..)
  rcases id hown.2 with ⟨hv, hm⟩ | ⟨g, cap, cur, rfl, _⟩
  · exfalso; have h2 : xs.length = 0 := by rw [hown.1, hm]; simp
    omega
  · obtain ⟨w', hst, hown', hgr, hdr⟩ := World.ownsRow.spliced X.P hown (k := k) (vs := (ev e y).cells.toList) (by simp only [Array.length_toList]; omega) h1
    have hR : Reach X.w0 X.C X.σ0 σ w' (Res.row E size (.slice (some ⟨g, 0, none⟩) m cap) m (splice xs k (ev e y).cells.toList) :: F) :=
      hw.turn1 (some g) (some g) rfl rfl hgr.os hgr.tape hgr.output hgr.size hdr (fun q hq hne => hgr.block q hq (fun hx => hne (by simp [Res.row, Value.ownBlock]; cases hx; rfl))) ⟨hown', oneCell_splice hone h1, hbg⟩ (fun q hq => .inl hq)
    refine Oper.wp_of_skip (w' := w') ?_ (hK _ _ _ _ _ kk hR (put_dst0 ha hd _))
    rw [ha.eval']
    have hadd : (⟨g, 0, none⟩ : Addr).add k = ⟨g, k, none⟩ := by rw [loc_add]; simp
    simp [execOp, ho, hx, elem, Instr.storeAt, Instr.sureAddr, storeVar, run_sizeOf hs, hus, hadd, hst]

/-- make with as many elements as room. -/
theorem OpOk.make {T E size by_ d m : Nat} {kl kc : IntKind} {z : Value} {zs : List Value} (ho : o.op = .makeSlice T x y) (ht : X.P.underlying T = some (.slice E)) (hs : szOf X.P E = some size) (hby : byOf X.P E = some by_) (hz : zeroOf X.P E = some z)
    (hd : o.dst = some d) (hn : Nat.blt d X.n = true) (hx : ev e x = .int kl (m : Nat)) (hy : ev e y = .int kc (m : Nat)) (hb : by_ * m ≤ 281474976710656) (hby0 : 0 < by_)
    (hzs : (madeCells z.cells (m * size)).toList = zs) (h1 : ∀ u ∈ zs, u.oneCell' = true) (k : ∀ a c, K (upd e d (.slice a m c)) σ (Res.row E size (.slice a m c) m zs :: H)) : OpOk X o e σ H K := by
  subst hzs
  obtain ⟨i, hi, hsz⟩ := szOf_info hs
  have hiz : i.zero = some z := by simpa [zeroOf, hi] using hz
  have hib : i.bytes = by_ := by simpa [byOf, hi] using hby
  have hm : m ≤ 281474976710656 := Nat.le_trans (Nat.le_mul_of_pos_left m hby0) hb
  intro w a hw ha K' Q hK
  obtain ⟨w', hr, hown, hg⟩ := run_make_full (P := X.P) w 0 T E i z size ht hi hiz hsz kl kc m (by rw [hib]; exact hb) (by unfold maxLen; omega) (Nat.zero_le _)
  have hdr : w.drawn ≤ w'.drawn := by
    have h := run_make (P := X.P) w T E i z ht hi hiz kl kc (m : Nat) (m : Nat) (by omega) (Int.le_refl _) (by rw [hib, ← Int.natCast_mul]; omega) (by omega)
    rw [hr] at h
    injection h with _ h; rw [h]; exact Nat.le_refl _
  refine Oper.wp_of_run (w' := w') ?_ (hK _ _ _ _ _ (k _ _) (hw.gain1 (some _) rfl hg.os hg.tape hg.output hg.size hdr (fun q hq => hg.block q hq (by simp)) ⟨hown, h1, hm⟩ (fun b hb => by cases hb; exact Nat.le_refl _)) (put_dst ha hd hn _))
  rw [ha.eval']
  simp [execOp, ho, hx, hy, hr]

/-- make with no element and some room. -/
theorem OpOk.make0 {T E size by_ d m : Nat} {kl kc : IntKind} {z : Value} (ho : o.op = .makeSlice T x y) (ht : X.P.underlying T = some (.slice E)) (hs : szOf X.P E = some size) (hby : byOf X.P E = some by_) (hz : zeroOf X.P E = some z)
    (hd : o.dst = some d) (hn : Nat.blt d X.n = true) (hx : ev e x = .int kl 0) (hy : ev e y = .int kc (m : Nat)) (hb : by_ * m ≤ 281474976710656) (hby0 : 0 < by_)
    (k : ∀ a c, K (upd e d (.slice a 0 c)) σ (Res.row E size (.slice a 0 c) 0 [] :: H)) : OpOk X o e σ H K := by
  obtain ⟨i, hi, hsz⟩ := szOf_info hs
  have hiz : i.zero = some z := by simpa [zeroOf, hi] using hz
  have hib : i.bytes = by_ := by simpa [byOf, hi] using hby
  have hm : m ≤ 281474976710656 := Nat.le_trans (Nat.le_mul_of_pos_left m hby0) hb
  intro w a hw ha K' Q hK
  obtain ⟨w', hr, hown, hg⟩ := run_make_own (P := X.P) w 0 T E i z size ht hi hiz hsz kl kc m (by rw [hib]; exact hb) (by unfold maxLen; omega) (Nat.zero_le _)
  have hdr : w.drawn ≤ w'.drawn := by
    have h := run_make (P := X.P) w T E i z ht hi hiz kl kc 0 (m : Nat) (by omega) (by omega) (by rw [hib, ← Int.natCast_mul]; omega) (by omega)
    rw [hr] at h
    injection h with _ h; rw [h]; exact Nat.le_refl _
  refine Oper.wp_of_run (w' := w') ?_ (hK _ _ _ _ _ (k _ _) (hw.gain1 (some _) rfl hg.os hg.tape hg.output hg.size hdr (fun q hq => hg.block q hq (by simp)) ⟨hown, by simp, Nat.zero_le _⟩ (fun b hb => by cases hb; exact Nat.le_refl _)) (put_dst ha hd hn _))
  rw [ha.eval']
  simp [execOp, ho, hx, hy, hr]

/-- The nil slice is an owned row. -/
theorem Reach.nilRow {w0 : World} {C : List Nat} {σ0 : Store} {w : World} (h : Reach w0 C σ0 σ w H) (E size : Nat) : Reach w0 C σ0 σ w (Res.row E size (.slice none 0 0) 0 [] :: H) :=
  h.gain1 none rfl rfl rfl rfl (Nat.le_refl _) (Nat.le_refl _) (fun _ _ => rfl) ⟨World.ownsRow_nil w 0 E size, by simp, Nat.zero_le _⟩ (fun b hb => by cases hb)

/-- Where the elements to be appended come from. -/
def Source (σ : Store) (H : List Res) (size : Nat) (u : Value) (m : Nat) (ys : List Value) : Prop :=
  RV σ size u m ys ∨ ∃ (E : TypeId) (i : Nat), H[i]? = some (Res.row E size u m ys)

theorem Source.spec {size m : Nat} {u : Value} {ys : List Value} (h : Source σ H size u m ys) {w : World} (hw : Sees σ H w) :
    (u = .slice none 0 0 ∧ m = 0 ∧ ys = []) ∨ ∃ ad c, u = .slice (some ad) m c ∧ ys.length = m * size ∧ (∀ j q, ys[j]? = some q → w.cell? (ad.add j) = some q) ∧ ∀ q ∈ ys, q.oneCell' = true := by
  rcases h with h | ⟨E, i, hi⟩
  · obtain ⟨a, c, rfl, h0, hc⟩ := h.sl
    cases a with
    | none =>
      obtain ⟨rfl, rfl⟩ := h0 rfl
      exact .inl ⟨rfl, rfl, List.eq_nil_of_length_eq_zero (by simpa using h.len)⟩
    | some ad => exact .inr ⟨ad, c, rfl, h.len, fun j q hj => hw.cell (h.cell ad _ c rfl j q hj), h.one⟩
  · obtain ⟨hown, hone, _⟩ := hw.2 _ (List.mem_of_getElem? hi)
    rcases id hown.2 with ⟨rfl, rfl⟩ | ⟨g, cap, cur, rfl, _⟩
    · exact .inl ⟨rfl, rfl, List.eq_nil_of_length_eq_zero (by simpa using hown.1)⟩
    · exact .inr ⟨_, cap, rfl, hown.1, hown.cells (g := g) rfl, hone⟩

theorem append_blk {P : Program} {w w' : World} (base : Nat) (t ty e : TypeId) (i : TypeInfo) (z : Value) (size bytes : Nat) (ht : P.underlying t = some (.slice e)) (hi : P.info? e = some i) (hz : i.zero = some z)
    (hsize : i.size = size) (hby : i.bytes = bytes) {v v' : Value} {n : Nat} {xs : List Value} (hown : w.ownsRow base e size v n xs)
    (a : Addr) (m c : Nat) (news : List Value) (hl : news.length = m * size) (hnews : ∀ j u, news[j]? = some u → w.cell? (a.add j) = some u) (h1 : ∀ u ∈ news, u.oneCell' = true)
    (h63 : n + m ≤ maxLen) (hbytes : (n + m) * bytes ≤ 140737488355328) (hrun : (Builtin.append_ #[t, t] ty #[v, .slice (some a) m c]).run P w = .ok v' w') :
    (v'.ownBlock = v.ownBlock ∨ v'.ownBlock = some w.heap.size) ∧ w.drawn ≤ w'.drawn := by
  subst hsize hby
  have hsmall : n + m ≤ 9223372036854775807 := by simp only [maxLen] at h63; omega
  rcases hown.2 with ⟨rfl, rfl⟩ | ⟨g, cap, cur, rfl, hbg, hg, hnc, hcm, hcs, htake⟩
  · by_cases hm : m = 0
    · subst hm
      have hr : (Builtin.append_ #[t, t] ty #[.slice none 0 0, .slice (some a) 0 c]).run P w = .ok (.slice none 0 0) w := by
        simp [Builtin.append_, run_underlying ht, sizeOf, typeInfo, hi, Builtin.lenOf, Builtin.firstCells, loadCells, loadCellsFrom]
      rw [hrun] at hr; cases hr; exact ⟨.inl rfl, Nat.le_refl _⟩
    · have hr := run_append_nil (P := P) w t ty e i z ht hi hz a m c news hl hnews (by omega) (by omega) (by have hb := hbytes; simp only [Nat.zero_add] at hb; omega)
      rw [hrun] at hr; cases hr; exact ⟨.inr rfl, Nat.le_succ _⟩
  · by_cases hroom : n + m ≤ cap
    · have hfit : n * i.size + news.length ≤ cur.size := by rw [hl, hcs, ← Nat.add_mul]; exact Nat.mul_le_mul_right _ hroom
      have hr := run_append_room (P := P) w t ty e i ht hi g n cap cur hg a m c news hl hnews h1 hroom hfit
      rw [hrun] at hr; cases hr; exact ⟨.inl rfl, Nat.le_refl _⟩
    · have holds : ∀ j u, xs[j]? = some u → w.cell? ((⟨g, 0, none⟩ : Addr).add j) = some u := hown.cells (g := g) rfl
      have hr := run_append_grow (P := P) w t ty e i z ht hi hz ⟨g, 0, none⟩ n cap xs hown.1 holds a m c news hl hnews (by omega) (by omega) (growslice_fits (by omega) hbytes)
      rw [hrun] at hr; cases hr; exact ⟨.inr rfl, Nat.le_succ _⟩

/-- append to an owned row. -/
theorem OpOk.append {T E size by_ d m n : Nat} {z v u : Value} {xs ys : List Value} {ty : TypeId} (ho : o.op = .call { callee := .builtin .append, args := #[x, y], argTypes := #[T, ty] }) (hty : ty = T) (ht : X.P.underlying T = some (.slice E)) (hs : szOf X.P E = some size) (hby : byOf X.P E = some by_) (hz : zeroOf X.P E = some z)
    (hd : o.dst = some d) (hn : Nat.blt d X.n = true) (hsz : 0 < size) (hzs : z.cells.size = size) (hx : ev e x = v) (hy : ev e y = u) (hsrc : Source σ F size u m ys) (hb0 : (n + m) * by_ ≤ 140737488355328) (hby0 : 0 < by_)
    (k : ∀ a c, K (upd e d (.slice a (n + m) c)) σ (Res.row E size (.slice a (n + m) c) (n + m) (xs ++ ys) :: F)) : OpOk X o e σ (Res.row E size v n xs :: F) K := by
  subst hty
  obtain ⟨i, hi, hsi⟩ := szOf_info hs
  have hiz : i.zero = some z := by simpa [zeroOf, hi] using hz
  have hib : i.bytes = by_ := by simpa [byOf, hi] using hby
  have hm0 : n + m ≤ 140737488355328 := Nat.le_trans (Nat.le_mul_of_pos_right _ hby0) hb0
  have hm : n + m ≤ maxLen := by unfold maxLen; omega
  intro w a hw ha K' Q hK
  obtain ⟨hown, hone, hbg⟩ := hw.holds _ (List.mem_cons_self ..)
  have hF : Sees σ F w := ⟨hw.fit, fun r hr => hw.holds r (List.mem_cons_of_mem _ hr)⟩
  rcases hsrc.spec hF with ⟨rfl, rfl, rfl⟩ | ⟨ad, c, rfl, hl, hc, h1⟩
  · have hr := run_append_owned_none (P := X.P) (w := w) 0 ty o.type E i size ht hi v n xs hown
    obtain ⟨av, cv, rfl, _, _⟩ := isSl_row hown
    have hk := k av cv
    rw [List.append_nil, Nat.add_zero] at hk
    refine Oper.wp_of_run (w' := w) (v := .slice av n cv) ?_ (hK _ _ _ _ _ hk hw (put_dst ha hd hn _))
    rw [ha.eval']
    simp [execOp, ho, resolve, invoke, builtin, hx, hy, hr]
  · obtain ⟨v', w', hr, hown', hg, _⟩ := run_append_own (P := X.P) w 0 ty o.type E i z size by_ ht hi hiz hsi hib hzs hsz v n xs hown ad m c ys hl hc h1 hm hb0 (Nat.zero_le _)
    have hdr : w.drawn ≤ w'.drawn := (append_blk 0 ty o.type E i z size by_ ht hi hiz hsi hib hown ad m c ys hl hc h1 hm hb0 hr).2
    have hone' : ∀ q ∈ xs ++ ys, q.oneCell' = true := fun q hq => by
      rcases List.mem_append.1 hq with hq | hq
      · exact hone q hq
      · exact h1 q hq
    have hbk : ∀ b, v'.ownBlock = some b → v.ownBlock = some b ∨ w.heap.size ≤ b := fun b hb => by
      rcases Nat.lt_or_ge b w.heap.size with hlt | hge
      · refine .inl (Classical.byContradiction fun hne => ?_)
        rcases (append_blk 0 ty o.type E i z size by_ ht hi hiz hsi hib hown ad m c ys hl hc h1 hm hb0 hr).1 with h2 | h2
        · exact hne (h2 ▸ hb)
        · rw [h2] at hb; cases hb; omega
      · exact .inr hge
    have hR : Reach X.w0 X.C X.σ0 σ w' (Res.row E size v' (n + m) (xs ++ ys) :: F) :=
      hw.turn1 (Value.ownBlock v) (Value.ownBlock v') rfl rfl hg.os hg.tape hg.output hg.size hdr (fun q hq hne => hg.block q hq (fun hx => hne hx.symm)) ⟨hown', hone', by omega⟩ hbk
    obtain ⟨av, cv, rfl, _, _⟩ := isSl_row hown'
    refine Oper.wp_of_run (w' := w') (v := .slice av (n + m) cv) ?_ (hK _ _ _ _ _ (k av cv) hR (put_dst ha hd hn _))
    rw [ha.eval']
    simp [execOp, ho, resolve, invoke, builtin, hx, hy, hr]
/-- A slice written out: a new row. -/
theorem OpOk.buildSlice {T E size d m : Nat} {parts : Array (Nat × Operand)} {z : Value} {cs : Array Value} (ho : o.op = .buildSlice T m parts) (ht : X.P.underlying T = some (.slice E)) (hs : szOf X.P E = some size) (hz : zeroOf X.P E = some z)
    (hd : o.dst = some d) (hn : Nat.blt d X.n = true) (h0 : m * size ≠ 0) (hbig : m * size ≤ 16777216)
    (hf : Instr.fill (fun i => some (i * size, size)) ((Array.range (m * size)).map (z.cells[· % z.cells.size]!)) (parts.toList.map fun x => (x.1, ev e x.2)) = some cs) (hcs : cs.size = m * size) (hmax : m ≤ 281474976710656) (h1 : ∀ u ∈ cs.toList, u.oneCell' = true)
    (k : ∀ a c, K (upd e d (.slice a m c)) σ (Res.row E size (.slice a m c) m cs.toList :: H)) : OpOk X o e σ H K := by
  intro w a hw ha K' Q hK
  have hR : Reach X.w0 X.C X.σ0 σ (w.alloc (.cells cs E)) (Res.row E size (.slice (some ⟨w.heap.size, 0, none⟩) m m) m cs.toList :: H) :=
    hw.gain1 (some _) rfl rfl rfl rfl (by simp) (Nat.le_refl _) (fun k hk => heap_alloc_old w _ k hk)
      ⟨⟨by simpa using hcs, .inr ⟨w.heap.size, m, cs, rfl, Nat.zero_le _, heap_alloc_new w _, Nat.le_refl _, (by unfold maxLen; omega), hcs, by rw [← hcs, ← Array.length_toList, List.take_length]⟩⟩, h1, hmax⟩ (fun b hb => by cases hb; exact Nat.le_refl _)
  refine Oper.wp_of_run (w' := w.alloc (.cells cs E)) (v := .slice (some ⟨w.heap.size, 0, none⟩) m m) ?_ (hK _ _ _ _ _ (k _ _) hR (put_dst ha hd hn _))
  rw [ha.eval']
  have hbig' : ¬ (16777216 < m * size) := by omega
  simp [execOp, ho, Instr.buildSlice, run_underlying ht, run_sizeOf hs, hbig', run_zeroValue hz, h0, hf, newRow]

/-- A call by a contract. -/
theorem OpOk.call {f d : Nat} {as : Array Operand} {ts : Array TypeId} {first cap : Array Value} {args : List Value} {Post : Value → Store → List Res → Prop} {H1 : List Res} (hc : Con X.P f args.toArray σ H1 Post) (ho : o.op = .call { callee := .value x, args := as, argTypes := ts })
    (hx : ev e x = .func (.func f) first cap) (hp : plainF X.P f = true) (hargs : first.toList ++ (as.toList.map (ev e) ++ cap.toList) = args) (hd : o.dst = some d) (hn : Nat.blt d X.n = true) (hH : H1 ++ F = H)
    (k : ∀ r σ' H1', σ.le σ' → Post r σ' H1' → K (upd e d r) σ' (H1' ++ F)) : OpOk X o e σ H K := by
  subst hargs hH
  intro w a hw ha K' Q hK
  unfold Oper.wp
  have hr : (execOp a.eval o).run X.P w = .ok (.enter f (first.toList ++ (as.toList.map (ev e) ++ cap.toList)).toArray) w := by
    rw [ha.eval']
    have hl : (first.toList ++ (as.toList.map (ev e) ++ cap.toList)).toArray = first ++ (as.map (ev e) ++ cap) := by
      apply Array.ext'; simp
    rw [hl]
    simp [execOp, ho, resolve, hx, Deferred.ofValue, invoke, run_callFunc hp, Array.append_assoc]
  rw [hr, Oper.upon_enter]
  have hsub : Reach w (blks H1) σ σ w H1 := by
    have h1 := hw.sub (List.sublist_append_left H1 F)
    exact ⟨rfl, rfl, rfl, Nat.le_refl _, fun _ _ _ => rfl, Store.le.refl _, h1.fit, fun b o hb => .inl hb, h1.holds, fun r hr b hb => .inl (mem_blks.2 ⟨r, hr, hb⟩), h1.nodup, h1.apart, Nat.le_refl _⟩
  refine (hc w hsub).mono fun ex w' ⟨r, σ', H', he, hpost, hreach⟩ => ?_
  subst he
  exact hK _ _ _ _ _ (k r σ' H' hreach.le hpost) (hw.call hreach) (put_dst ha hd hn _)

/-- A call whose result nobody takes. -/
theorem OpOk.call0 {f : Nat} {as : Array Operand} {ts : Array TypeId} {first cap : Array Value} {args : List Value} {Post : Value → Store → List Res → Prop} {H1 : List Res} (hc : Con X.P f args.toArray σ H1 Post) (ho : o.op = .call { callee := .value x, args := as, argTypes := ts })
    (hx : ev e x = .func (.func f) first cap) (hp : plainF X.P f = true) (hargs : first.toList ++ (as.toList.map (ev e) ++ cap.toList) = args) (hd : o.dst = none) (hH : H1 ++ F = H)
    (k : ∀ r σ' H1', σ.le σ' → Post r σ' H1' → K e σ' (H1' ++ F)) : OpOk X o e σ H K := by
  subst hargs hH
  intro w a hw ha K' Q hK
  unfold Oper.wp
  have hr : (execOp a.eval o).run X.P w = .ok (.enter f (first.toList ++ (as.toList.map (ev e) ++ cap.toList)).toArray) w := by
    rw [ha.eval']
    have hl : (first.toList ++ (as.toList.map (ev e) ++ cap.toList)).toArray = first ++ (as.map (ev e) ++ cap) := by
      apply Array.ext'; simp
    rw [hl]
    simp [execOp, ho, resolve, hx, Deferred.ofValue, invoke, run_callFunc hp, Array.append_assoc]
  rw [hr, Oper.upon_enter]
  have hsub : Reach w (blks H1) σ σ w H1 := by
    have h1 := hw.sub (List.sublist_append_left H1 F)
    exact ⟨rfl, rfl, rfl, Nat.le_refl _, fun _ _ _ => rfl, Store.le.refl _, h1.fit, fun b o hb => .inl hb, h1.holds, fun r hr b hb => .inl (mem_blks.2 ⟨r, hr, hb⟩), h1.nodup, h1.apart, Nat.le_refl _⟩
  refine (hc w hsub).mono fun ex w' ⟨r, σ', H', he, hpost, hreach⟩ => ?_
  subst he
  exact hK _ _ _ _ _ (k r σ' H' hreach.le hpost) (hw.call hreach) (put_dst0 ha hd _)
end

/-! ### Sealing -/
theorem Reach.sealRow {w0 : World} {C : List Nat} {σ0 σ : Store} {w : World} {F : List Res} {E size n : Nat} {v : Value} {xs : List Value} (h : Reach w0 C σ0 σ w (Res.row E size v n xs :: F)) :
    ∃ σ', Reach w0 C σ0 σ' w F ∧ σ.le σ' ∧ RV σ' size v n xs := by
  obtain ⟨hown, hone, hbg⟩ := h.holds _ (List.mem_cons_self ..)
  have hsl := isSl_row hown
  rcases id hown.2 with ⟨rfl, rfl⟩ | ⟨g, cap, cur, rfl, _, hg, h1, h2, h3, h4⟩
  · have hx : xs = [] := List.eq_nil_of_length_eq_zero (by simpa using hown.1)
    subst hx
    exact ⟨σ, h.sub (List.sublist_cons_self _ _), Store.le.refl _, RV.nil σ size⟩
  · obtain ⟨hr, hle⟩ := h.sealB (b := g) rfl hg
    refine ⟨_, hr, hle, ⟨hsl, hown.1, ?_, hone, hbg⟩⟩
    intro a m c hv j u hj
    cases hv
    rw [loc_add]
    unfold Store.cell
    simp only [Store.with, if_true]
    rw [← h4, List.getElem?_take] at hj
    split at hj
    · simpa using hj
    · cases hj

section
variable {X : Ctx} {ops : Array Oper} {Q : QP} {e : Env} {σ : Store} {F : List Res} {c : Code} {l : List Oper} {E size n : Nat} {v : Value} {xs : List Value}
theorem TC.sealRow (k : ∀ σ', σ.le σ' → RV σ' size v n xs → TC X Q c e σ' F) : TC X Q c e σ (Res.row E size v n xs :: F) := fun w a hw ha => by
  obtain ⟨σ', h1, h2, h3⟩ := hw.sealRow
  exact k σ' h2 h3 w a h1 ha
theorem TL.sealRow (k : ∀ σ', σ.le σ' → RV σ' size v n xs → TL X ops Q l e σ' F) : TL X ops Q l e σ (Res.row E size v n xs :: F) := fun w a hw ha => by
  obtain ⟨σ', h1, h2, h3⟩ := hw.sealRow
  exact k σ' h2 h3 w a h1 ha
theorem TC.nilRow (E size : Nat) {H : List Res} (k : TC X Q c e σ (Res.row E size (.slice none 0 0) 0 [] :: H)) : TC X Q c e σ H := fun w a hw ha => k w a (hw.nilRow E size) ha
theorem TL.nilRow (E size : Nat) {H : List Res} (k : TL X ops Q l e σ (Res.row E size (.slice none 0 0) 0 [] :: H)) : TL X ops Q l e σ H := fun w a hw ha => k w a (hw.nilRow E size) ha
/-- What is known of a row that is owned. -/
theorem TC.isSl {H : List Res} {i : Nat} (hi : H[i]? = some (Res.row E size v n xs)) (k : IsSl v n → n ≤ 281474976710656 → xs.length = n * size → TC X Q c e σ H) : TC X Q c e σ H := fun w a hw ha => by
  have h := hw.holds _ (List.mem_of_getElem? hi)
  exact k (isSl_row h.1) h.2.2 h.1.1 w a hw ha
theorem TL.isSl {H : List Res} {i : Nat} (hi : H[i]? = some (Res.row E size v n xs)) (k : IsSl v n → n ≤ 281474976710656 → xs.length = n * size → TL X ops Q l e σ H) : TL X ops Q l e σ H := fun w a hw ha => by
  have h := hw.holds _ (List.mem_of_getElem? hi)
  exact k (isSl_row h.1) h.2.2 h.1.1 w a hw ha
end

/-! ### Regions that draw their order -/
def after? (ops : Array Oper) : Nat → Nat → Nat → Bool
  | 0, _, _ => false
  | f + 1, j, i => match ops[j]? with
    | some o => o.after.toList.any fun e => Region.binds .any e && (e.on == i || after? ops f e.on i)
    | none => false

section lateness
variable {P : Program} {ops : Array Oper} {Q : Exit → Act → World → Prop} {S : World → Prop} {late : List Nat}

/-- Whatever order is picked from here on; S holds behind each operation but the late ones. -/
def wpAnyL (P : Program) (ops : Array Oper) (Q : Exit → Act → World → Prop) (S : World → Prop) (late : List Nat) : Nat → Array Bool → Act → World → Prop
  | 0, listed, a, w => Region.ready .any ops listed = [] ∧ Q .normal a w
  | fuel + 1, listed, a, w =>
    (Region.ready .any ops listed = [] → Q .normal a w) ∧
    ∀ i ∈ Region.ready .any ops listed, wpOp P ops Q i (fun a' w' => (late.contains i = false → S w → S w') ∧ wpAnyL P ops Q S late fuel (listed.setIfInBounds i true) a' w') a w

theorem wpAny_of_late : ∀ (fuel : Nat) (listed : Array Bool) (a : Act) (w : World), wpAnyL P ops Q S late fuel listed a w → wpAny P .any ops Q fuel listed a w
  | 0, _, _, _, h => h
  | fuel + 1, _, _, _, h => ⟨h.1, fun i hi => wpOp_mono (fun a' w' h' => wpAny_of_late fuel _ a' w' h'.2) (h.2 i hi)⟩

def Closed (ops : Array Oper) (listed : Array Bool) : Prop := ∀ k o, ops[k]? = some o → listed.getD k false = true → ∀ e ∈ o.after, Region.binds .any e = true → listed.getD e.on false = true

theorem closed_start (ops : Array Oper) (n : Nat) : Closed ops (Array.replicate n false) := fun k o _ h => by
  simp only [Array.getD_eq_getD_getElem?, Array.getElem?_replicate] at h
  split at h <;> simp at h

theorem getD_true_lt {l : Array Bool} {i : Nat} (h : l.getD i false = true) : i < l.size := by
  rcases Nat.lt_or_ge i l.size with h' | h'
  · exact h'
  · simp [Array.getD_eq_getD_getElem?, Array.getElem?_eq_none h'] at h

theorem ready_deps {listed : Array Bool} {j : Nat} (h : j ∈ Region.ready .any ops listed) : ∃ o, ops[j]? = some o ∧ ∀ e ∈ o.after, Region.binds .any e = true → listed.getD e.on false = true := by
  obtain ⟨_, oj, hoj, hall⟩ := mem_ready.1 h
  exact ⟨oj, hoj, fun e he hb => by have := hall e he hb; simpa using this⟩

theorem Closed.step {listed : Array Bool} (hc : Closed ops listed) {j : Nat} (hj : j ∈ Region.ready .any ops listed) : Closed ops (listed.setIfInBounds j true) := by
  have up : ∀ i, listed.getD i false = true → (listed.setIfInBounds j true).getD i false = true := fun i hi => getD_set_true hi
  obtain ⟨o', ho', hdeps⟩ := ready_deps hj
  intro k o hk hl e he hb
  by_cases hkj : j = k
  · subst hkj
    rw [ho'] at hk; cases hk
    exact up _ (hdeps e he hb)
  · rw [getD_set_ne false hkj] at hl
    exact up _ (hc k o hk hl e he hb)

theorem Closed.after {listed : Array Bool} (hc : Closed ops listed) : ∀ (f j i : Nat), (∀ o, ops[j]? = some o → ∀ e ∈ o.after, Region.binds .any e = true → listed.getD e.on false = true) → after? ops f j i = true → listed.getD i false = true
  | 0, _, _, _, h => by simp [after?] at h
  | f + 1, j, i, hd, h => by
    unfold after? at h
    split at h
    · rename_i o ho
      simp only [List.any_eq_true, Bool.and_eq_true, Bool.or_eq_true, beq_iff_eq] at h
      obtain ⟨e, he, hb, h⟩ := h
      have he' : e ∈ o.after := by simpa using he
      have hl := hd o ho e he' hb
      rcases h with rfl | h
      · exact hl
      · exact hc.after f e.on i (fun o' ho' e' he'' hb' => hc e.on o' ho' hl e' he'' hb') h
    · cases h

theorem wpAnyL_first {i : Nat} {oi : Oper} {v : Value} (hi : ops[i]? = some oi) (hsel : ∀ (j : Nat) (o : Oper) cs b, ops[j]? = some o → o.op ≠ .select cs b)
    (hQ : ∀ c a w, Q (.panic c) (a.put oi.dst v) w → Q (.panic c) a w) (hlate : ∀ j ∈ late, ∃ f, after? ops f j i = true) :
    ∀ (fuel : Nat) (listed : Array Bool) (a : Act) (w : World), Closed ops listed →
      (∀ j oj, ops[j]? = some oj → j ≠ i → listed.getD j true = false → (∀ e ∈ oj.after, Region.binds .any e = true → e.on ≠ i) → oi.apart ops oj = true) →
      i ∈ Region.ready .any ops listed → YieldsIf P ops S oi v a → S w →
      wpAnyL P ops Q S late fuel (listed.setIfInBounds i true) (a.put oi.dst v) w → wpAnyL P ops Q S late (fuel + 1) listed a w := by
  intro fuel
  induction fuel with
  | zero =>
    intro listed a w _ _ hr hy hS H
    refine ⟨fun h => (by rw [h] at hr; cases hr), fun j hj => ?_⟩
    by_cases hji : j = i
    · subst hji; exact hy.wpOp hi hS ⟨fun _ h => h, H⟩
    · have := ready_mono hj hji
      rw [H.1] at this
      cases this
  | succ fuel ih =>
    intro listed a w hcl hfree hr hy hS H
    refine ⟨fun h => (by rw [h] at hr; cases hr), fun j hj => ?_⟩
    by_cases hji : j = i
    · subst hji; exact hy.wpOp hi hS ⟨fun _ h => h, H⟩
    · have hnl : late.contains j = false := by
        cases hl : late.contains j with
        | false => rfl
        | true =>
          obtain ⟨f, hf⟩ := hlate j (by simpa using hl)
          obtain ⟨oj, hoj, hd⟩ := ready_deps hj
          have h1 := hcl.after f j i (fun o ho => by rw [hoj] at ho; cases ho; exact hd) hf
          have h0 := (mem_ready.1 hr).1
          have hlt := getD_true_lt h1
          simp [Array.getD_eq_getD_getElem?, hlt] at h0 h1
          rw [h0] at h1; cases h1
      have h1 := H.2 j (ready_mono hj hji)
      obtain ⟨hjun, oj, hoj, hall⟩ := mem_ready.1 hj
      have hnot : ∀ e ∈ oj.after, Region.binds .any e = true → e.on ≠ i := fun e he hb heq => by
        have h1 := hall e he hb
        have h0 := (mem_ready.1 hr).1
        rw [heq] at h1
        rcases Nat.lt_or_ge i listed.size with h' | h'
        · simp [h'] at h0 h1; rw [h0] at h1; cases h1
        · simp [Array.getElem?_eq_none h'] at h1
      have h2 := wpOp_putIf hoj (hfree j oj hoj hji hjun hnot) (fun cs b => hsel i oi cs b hi) (fun cs b => hsel j oj cs b hoj) hQ hy h1
      have hfree' : ∀ k ok, ops[k]? = some ok → k ≠ i → (listed.setIfInBounds j true).getD k true = false →
          (∀ e ∈ ok.after, Region.binds .any e = true → e.on ≠ i) → oi.apart ops ok = true := fun k ok hk hki hun hno => by
        refine hfree k ok hk hki ?_ hno
        by_cases hjk : j = k
        · subst hjk; exact hjun
        · rw [getD_set_ne true hjk] at hun; exact hun
      refine wpOp_mono (fun a' w' h3 => ⟨h3.2.1, ih (listed.setIfInBounds j true) a' w' (hcl.step hj) hfree' (ready_mono hr (Ne.symm hji)) h3.1 (h3.2.1 hnl hS) ?_⟩) h2
      rw [Array.setIfInBounds_comm _ _ hji]
      exact h3.2.2
/-- An operation that looks at no world. -/
theorem wpAnyL_firstP {i : Nat} {oi : Oper} {v : Value} (hi : ops[i]? = some oi) (hsel : ∀ (j : Nat) (o : Oper) cs b, ops[j]? = some o → o.op ≠ .select cs b)
    (hQ : ∀ c a w, Q (.panic c) (a.put oi.dst v) w → Q (.panic c) a w) :
    ∀ (fuel : Nat) (listed : Array Bool) (a : Act) (w : World), Closed ops listed →
      (∀ j oj, ops[j]? = some oj → j ≠ i → listed.getD j true = false → (∀ e ∈ oj.after, Region.binds .any e = true → e.on ≠ i) → oi.apart ops oj = true) →
      i ∈ Region.ready .any ops listed → Yields P ops oi v a →
      wpAnyL P ops Q S late fuel (listed.setIfInBounds i true) (a.put oi.dst v) w → wpAnyL P ops Q S late (fuel + 1) listed a w := by
  intro fuel
  induction fuel with
  | zero =>
    intro listed a w _ _ hr hy H
    refine ⟨fun h => (by rw [h] at hr; cases hr), fun j hj => ?_⟩
    by_cases hji : j = i
    · subst hji; exact hy.wpOp hi ⟨fun _ h => h, H⟩
    · have := ready_mono hj hji
      rw [H.1] at this
      cases this
  | succ fuel ih =>
    intro listed a w hcl hfree hr hy H
    refine ⟨fun h => (by rw [h] at hr; cases hr), fun j hj => ?_⟩
    by_cases hji : j = i
    · subst hji; exact hy.wpOp hi ⟨fun _ h => h, H⟩
    · have h1 := H.2 j (ready_mono hj hji)
      obtain ⟨hjun, oj, hoj, hall⟩ := mem_ready.1 hj
      have hnot : ∀ e ∈ oj.after, Region.binds .any e = true → e.on ≠ i := fun e he hb heq => by
        have h1 := hall e he hb
        have h0 := (mem_ready.1 hr).1
        rw [heq] at h1
        rcases Nat.lt_or_ge i listed.size with h' | h'
        · simp [h'] at h0 h1; rw [h0] at h1; cases h1
        · simp [Array.getElem?_eq_none h'] at h1
      have h2 := wpOp_put hoj (hfree j oj hoj hji hjun hnot) (fun cs b => hsel i oi cs b hi) (fun cs b => hsel j oj cs b hoj) hQ hy h1
      have hfree' : ∀ k ok, ops[k]? = some ok → k ≠ i → (listed.setIfInBounds j true).getD k true = false →
          (∀ e ∈ ok.after, Region.binds .any e = true → e.on ≠ i) → oi.apart ops ok = true := fun k ok hk hki hun hno => by
        refine hfree k ok hk hki ?_ hno
        by_cases hjk : j = k
        · subst hjk; exact hjun
        · rw [getD_set_ne true hjk] at hun; exact hun
      refine wpOp_mono (fun a' w' h3 => ⟨h3.2.1, ih (listed.setIfInBounds j true) a' w' (hcl.step hj) hfree' (ready_mono hr (Ne.symm hji)) h3.1 ?_⟩) h2
      rw [Array.setIfInBounds_comm _ _ hji]
      exact h3.2.2
end lateness

def TA (X : Ctx) (ops : Array Oper) (Q : QP) (σr : Store) (Hr : List Res) (late : List Nat) (fuel : Nat) (listed : Array Bool) (e : Env) (σ : Store) (H : List Res) : Prop :=
  ∀ w a, Reach X.w0 X.C X.σ0 σ w H → Sees σr Hr w → Closed ops listed → St X.n e a → wpAnyL X.P ops (Exit.noPanic (low X Q)) (Sees σr Hr) late fuel listed a w

/-- As TA, behind the late operation. -/
def TZ (X : Ctx) (ops : Array Oper) (Q : QP) (σr : Store) (Hr : List Res) (late : List Nat) (fuel : Nat) (listed : Array Bool) (e : Env) (σ : Store) (H : List Res) : Prop :=
  ∀ w a, Reach X.w0 X.C X.σ0 σ w H → St X.n e a → wpAnyL X.P ops (Exit.noPanic (low X Q)) (Sees σr Hr) late fuel listed a w

section draw
variable {X : Ctx} {ops : Array Oper} {Q : QP} {e : Env} {σ σr : Store} {H Hr : List Res} {late : List Nat} {fuel : Nat} {listed : Array Bool}

theorem TC.draw {id : Nat} (late : List Nat) (hm : X.P.follows .mixedOrders = true) (h : TA X ops Q σ H late ops.size (Array.replicate ops.size false) e σ H) : TC X Q (.region id ops true) e σ H := fun w a hw ha =>
  Go.wp_mono (wp_region_any hm (wpAny_of_late _ _ _ _ (h w.drew a hw.drew hw.drew.sees (closed_start _ _) ha))) fun ex a w h => by
    cases ex <;> first | exact h | exact h.elim

/-- An operation that only reads what the region began with is taken first. -/
theorem TA.take (i : Nat) {oi : Oper} {v : Value} {d : Nat} (hi : ops[i]? = some oi) (hs : Region.noSelect ops = true) (hf : Region.free .any ops listed i = true) (hr : (Region.ready .any ops listed).contains i = true)
    (hl : late.all (fun j => after? ops ops.size j i) = true) (hg : oi.guard = none) (hv : OpVal X.P X.n oi e σr Hr v) (hd : oi.dst = some d) (hn : Nat.blt d X.n = true)
    (k : TA X ops Q σr Hr late fuel (listed.setIfInBounds i true) (upd e d v) σ H) : TA X ops Q σr Hr late (fuel + 1) listed e σ H := fun w a hw hS hcl ha => by
  have hr' : i ∈ Region.ready .any ops listed := by simpa using hr
  refine wpAnyL_first hi (Region.noSelect_spec hs) (fun c a w h => h.elim) (fun j hj => ⟨ops.size, (List.all_eq_true.1 hl) j hj⟩) fuel listed a w hcl (Region.free_spec hi hf) hr'
    (.inl ⟨by simp [Region.wanted, hg], fun w' hw' => by rw [ha.eval']; exact hv w' hw'⟩) hS ?_
  rw [hd]
  exact k w _ hw hS (hcl.step hr') (ha.put (by simpa [Nat.blt_eq] using hn) v)

/-- An operation that looks at no memory is taken first. -/
theorem TA.takeP (i : Nat) {oi : Oper} {v : Value} {d : Nat} (hi : ops[i]? = some oi) (hs : Region.noSelect ops = true) (hf : Region.free .any ops listed i = true) (hr : (Region.ready .any ops listed).contains i = true)
    (hg : oi.guard = none) (hv : OpVal X.P X.n oi e (fun _ => none) [] v) (hd : oi.dst = some d) (hn : Nat.blt d X.n = true)
    (k : TA X ops Q σr Hr late fuel (listed.setIfInBounds i true) (upd e d v) σ H) : TA X ops Q σr Hr late (fuel + 1) listed e σ H := fun w a hw hS hcl ha => by
  have hr' : i ∈ Region.ready .any ops listed := by simpa using hr
  refine wpAnyL_firstP hi (Region.noSelect_spec hs) (fun c a w h => h.elim) fuel listed a w hcl (Region.free_spec hi hf) hr'
    (.inl ⟨by simp [Region.wanted, hg], fun w' => by rw [ha.eval']; exact hv w' ⟨fun _ _ h => (by cases h), fun _ h => (by cases h)⟩⟩) ?_
  rw [hd]
  exact k w _ hw hS (hcl.step hr') (ha.put (by simpa [Nat.blt_eq] using hn) v)

theorem wpOp_of {P : Program} {Q : Exit → Act → World → Prop} {i : Nat} {oi : Oper} {a : Act} {w : World} {K : Act → World → Prop} (hi : ops[i]? = some oi) (hg : oi.guard = none) (h : oi.wp P a w K Q) : wpOp P ops Q i K a w := by
  unfold wpOp
  simp only [hi, Region.wanted, hg, if_true]
  exact .inl h

/-- The one operation that may come up next: what the region began with is seen behind it. -/
theorem TA.act (i : Nat) {oi : Oper} (hr : Region.ready .any ops listed = [i]) (hi : ops[i]? = some oi) (hg : oi.guard = none)
    (h : OpOk X oi e σ H fun e' σ' H' => (∀ w, Sees σ' H' w → Sees σr Hr w) ∧ TA X ops Q σr Hr late fuel (listed.setIfInBounds i true) e' σ' H') : TA X ops Q σr Hr late (fuel + 1) listed e σ H := fun w a hw hS hcl ha => by
  refine ⟨fun h0 => (by rw [hr] at h0; cases h0), fun j hj => ?_⟩
  have hst := hcl.step hj
  rw [hr] at hj
  simp at hj; subst hj
  exact wpOp_of hi hg (h w a hw ha _ _ fun e' σ' H' a' w' ⟨hs, hk⟩ hw' ha' => ⟨fun _ _ => hs w' hw'.sees, hk w' a' hw' (hs w' hw'.sees) hst ha'⟩)

theorem TA.act2 (i j : Nat) {oi oj : Oper} (hr : Region.ready .any ops listed = [i, j]) (hi : ops[i]? = some oi) (hj : ops[j]? = some oj) (hgi : oi.guard = none) (hgj : oj.guard = none)
    (h : OpOk X oi e σ H fun e' σ' H' => (∀ w, Sees σ' H' w → Sees σr Hr w) ∧ TA X ops Q σr Hr late fuel (listed.setIfInBounds i true) e' σ' H')
    (h' : OpOk X oj e σ H fun e' σ' H' => (∀ w, Sees σ' H' w → Sees σr Hr w) ∧ TA X ops Q σr Hr late fuel (listed.setIfInBounds j true) e' σ' H') : TA X ops Q σr Hr late (fuel + 1) listed e σ H := fun w a hw hS hcl ha => by
  refine ⟨fun h0 => (by rw [hr] at h0; cases h0), fun q hq => ?_⟩
  have hst := hcl.step hq
  rw [hr] at hq
  simp at hq
  rcases hq with rfl | rfl
  · exact wpOp_of hi hgi (h w a hw ha _ _ fun e' σ' H' a' w' ⟨hs, hk⟩ hw' ha' => ⟨fun _ _ => hs w' hw'.sees, hk w' a' hw' (hs w' hw'.sees) hst ha'⟩)
  · exact wpOp_of hj hgj (h' w a hw ha _ _ fun e' σ' H' a' w' ⟨hs, hk⟩ hw' ha' => ⟨fun _ _ => hs w' hw'.sees, hk w' a' hw' (hs w' hw'.sees) hst ha'⟩)

/-- A late operation. -/
theorem TA.last (i : Nat) {oi : Oper} (hr : Region.ready .any ops listed = [i]) (hl : late.contains i = true) (hi : ops[i]? = some oi) (hg : oi.guard = none)
    (h : OpOk X oi e σ H fun e' σ' H' => TZ X ops Q σr Hr late fuel (listed.setIfInBounds i true) e' σ' H') : TA X ops Q σr Hr late (fuel + 1) listed e σ H := fun w a hw hS hcl ha => by
  refine ⟨fun h0 => (by rw [hr] at h0; cases h0), fun j hj => ?_⟩
  rw [hr] at hj
  simp at hj; subst hj
  exact wpOp_of hi hg (h w a hw ha _ _ fun e' σ' H' a' w' hk hw' ha' => ⟨fun h0 => (by rw [hl] at h0; cases h0), hk w' a' hw' ha'⟩)

theorem TZ.last (i : Nat) {oi : Oper} (hr : Region.ready .any ops listed = [i]) (hl : late.contains i = true) (hi : ops[i]? = some oi) (hg : oi.guard = none)
    (h : OpOk X oi e σ H fun e' σ' H' => TZ X ops Q σr Hr late fuel (listed.setIfInBounds i true) e' σ' H') : TZ X ops Q σr Hr late (fuel + 1) listed e σ H := fun w a hw ha => by
  refine ⟨fun h0 => (by rw [hr] at h0; cases h0), fun j hj => ?_⟩
  rw [hr] at hj
  simp at hj; subst hj
  exact wpOp_of hi hg (h w a hw ha _ _ fun e' σ' H' a' w' hk hw' ha' => ⟨fun h0 => (by rw [hl] at h0; cases h0), hk w' a' hw' ha'⟩)

theorem TA.front (i : Nat) {r : Res} {F : List Res} (hi : H[i]? = some r) (hF : H.eraseIdx i = F) (h : TA X ops Q σr Hr late fuel listed e σ (r :: F)) : TA X ops Q σr Hr late fuel listed e σ H := fun w a hw hS hc ha => h w a (hw.perm (front_perm hi hF)) hS hc ha
theorem TZ.front (i : Nat) {r : Res} {F : List Res} (hi : H[i]? = some r) (hF : H.eraseIdx i = F) (h : TZ X ops Q σr Hr late fuel listed e σ (r :: F)) : TZ X ops Q σr Hr late fuel listed e σ H := fun w a hw ha => h w a (hw.perm (front_perm hi hF)) ha
theorem TA.isSl {E size n : Nat} {v : Value} {xs : List Value} {i : Nat} (hi : H[i]? = some (Res.row E size v n xs)) (k : IsSl v n → n ≤ 281474976710656 → xs.length = n * size → TA X ops Q σr Hr late fuel listed e σ H) : TA X ops Q σr Hr late fuel listed e σ H := fun w a hw => by
  have h := hw.holds _ (List.mem_of_getElem? hi)
  exact k (isSl_row h.1) h.2.2 h.1.1 w a hw
theorem TZ.done (hr : Region.ready .any ops listed = []) (h : Q .normal e σ H) : TZ X ops Q σr Hr late fuel listed e σ H := fun w a hw ha => by
  have hq : low X Q .normal a w := ⟨e, σ, H, ha, hw, h⟩
  cases fuel with
  | zero => exact ⟨hr, hq⟩
  | succ f => exact ⟨fun _ => hq, by rw [hr]; simp⟩

theorem TA.done (hr : Region.ready .any ops listed = []) (h : Q .normal e σ H) : TA X ops Q σr Hr late fuel listed e σ H := fun w a hw _ _ ha => TZ.done hr h w a hw ha

theorem sees_of {σ σ' : Store} {H H' : List Res} (hle : σ.le σ') (hs : ∀ r ∈ H, r ∈ H') (w : World) (h : Sees σ' H' w) : Sees σ H w :=
  ⟨fun b o hb => h.1 b o (hle b o hb), fun r hr => h.2 r (hs r hr)⟩
end draw

end Go.E
