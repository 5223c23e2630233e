/- Maps, and ranges over them; equality of structs; unsigned numbers. Plain lemmas over any program; no condition. -/
import Derived.Test.YtcidppnlhhkhhaaDec5
import Derived.Maps.RangeRun
import Derived.Laws.StructEq
set_option linter.unusedVariables false
set_option linter.unusedSimpArgs false
namespace Go.E
open Go

/-! ### Finite maps -/
structure FM (K V : Type) where
  f : K → Option V
  n : Nat
section
variable {K V : Type}
def FM.emp : FM K V := ⟨fun _ => none, 0⟩
def FM.put [DecidableEq K] (m : FM K V) (k : K) (v : V) : FM K V := ⟨fun x => if x = k then some v else m.f x, if (m.f k).isSome then m.n else m.n + 1⟩
def FM.get (m : FM K V) (k : K) (d : V) : V := (m.f k).getD d
def FM.has (m : FM K V) (k : K) : Bool := (m.f k).isSome
/-- A list of a map's entries. -/
structure Rep (l : List (K × V)) (m : FM K V) : Prop where
  mem : ∀ k v, (k, v) ∈ l ↔ m.f k = some v
  len : l.length = m.n
  nodup : (l.map Prod.fst).Nodup
theorem Rep.emp : Rep ([] : List (K × V)) FM.emp := ⟨by simp [FM.emp], rfl, by simp⟩
theorem Rep.perm {l l' : List (K × V)} {m : FM K V} (h : Rep l m) (hp : l'.Perm l) : Rep l' m := ⟨fun k v => by rw [hp.mem_iff]; exact h.mem k v, by rw [hp.length_eq]; exact h.len, (hp.map _).nodup_iff.2 h.nodup⟩
theorem Rep.not {l : List (K × V)} {m : FM K V} (h : Rep l m) {k : K} : k ∉ l.map Prod.fst ↔ m.f k = none := by
  constructor
  · intro hn
    cases hk : m.f k with
    | none => rfl
    | some v => exact absurd (List.mem_map.2 ⟨_, (h.mem k v).2 hk, rfl⟩) hn
  · intro hk hm
    obtain ⟨⟨k', v⟩, h1, rfl⟩ := List.mem_map.1 hm
    have := (h.mem k' v).1 h1
    simp only at hk; rw [hk] at this; cases this
end
/-- What the map at a block holds. -/
structure MapAt {K V : Type} (enc : K → Value) (encV : V → Value) (w : World) (b : Nat) (zs : List (MapEntry × (K × V))) (clock : Nat) : Prop where
  at_ : ∃ es, w.heap[b]? = some (.map es clock) ∧ es.toList = zs.map Prod.fst
  key : ∀ z ∈ zs, z.1.key = enc z.2.1
  val : ∀ z ∈ zs, z.1.val = encV z.2.2
  born : ∀ z ∈ zs, z.1.born < clock
  nodup : (zs.map (·.1.born)).Nodup
def MapIs {K V : Type} (enc : K → Value) (encV : V → Value) (b : Nat) (m : FM K V) (w : World) : Prop := ∃ zs clock, Rep (zs.map Prod.snd) m ∧ MapAt enc encV w b zs clock
theorem MapIs.keep {K V : Type} {enc : K → Value} {encV : V → Value} {b : Nat} {m : FM K V} {w w' : World} (h : MapIs enc encV b m w) (hb : w'.heap[b]? = w.heap[b]?) : MapIs enc encV b m w' := by
  obtain ⟨zs, c, h1, ⟨es, h2, h3⟩, h4, h5, h6, h7⟩ := h
  exact ⟨zs, c, h1, ⟨es, by rw [hb]; exact h2, h3⟩, h4, h5, h6, h7⟩
/-- A map, or nil. -/
def Res.mapB {K V : Type} (enc : K → Value) (encV : V → Value) (b : Option Nat) (m : FM K V) : Res where
  bl := b.toList
  holds w := (b = none → m = FM.emp) ∧ ∀ k, b = some k → MapIs enc encV k m w
  lt w k hk h := by obtain ⟨_, _, _, ⟨_, h, _⟩, _⟩ := h.2 k (Option.mem_toList.1 hk); exact (Array.getElem?_eq_some_iff.1 h).1
  keep w w' hb h := ⟨h.1, fun k hk => (h.2 k hk).keep (hb k (Option.mem_toList.2 hk))⟩
/-- A range under way. -/
def Res.rngN {K V : Type} (it : Nat) (m : FM K V) (left : List (K × V)) (last : Option (K × V)) : Res where
  bl := [it]
  holds w := (m = FM.emp ∧ left = [] ∧ last = none) ∧ w.heap[it]? = some (.mapIter none 0 #[] 0)
  lt w k hk h := by rw [List.mem_singleton.1 hk]; exact (Array.getElem?_eq_some_iff.1 h.2).1
  keep w w' hb h := ⟨h.1, by rw [hb it (List.mem_singleton.2 rfl)]; exact h.2⟩
def Res.rngS {K V : Type} (enc : K → Value) (encV : V → Value) (b it : Nat) (m : FM K V) (left : List (K × V)) (last : Option (K × V)) : Res where
  bl := [b, it]
  holds w := b ≠ it ∧ ∃ zs clock seen, Rep (zs.map Prod.snd) m ∧ MapAt enc encV w b zs clock ∧ w.heap[it]? = some (.mapIter (some b) clock seen clock) ∧
    left.Perm ((zs.filter fun z => !seen.contains z.1.born).map Prod.snd) ∧ ∀ x, last = some x → ∃ z ∈ zs, ∃ s : Array Nat, seen = s.push z.1.born ∧ z.2 = x
  lt w k hk h := by
    obtain ⟨_, zs, c, seen, _, ⟨⟨_, h, _⟩, _⟩, h', _⟩ := h
    simp at hk
    rcases hk with rfl | rfl
    · exact (Array.getElem?_eq_some_iff.1 h).1
    · exact (Array.getElem?_eq_some_iff.1 h').1
  keep w w' hb h := by
    obtain ⟨hne, zs, c, seen, h1, ⟨⟨es, h2, h3⟩, h4, h5, h6, h7⟩, h8, h9⟩ := h
    exact ⟨hne, zs, c, seen, h1, ⟨⟨es, by rw [hb b (by simp)]; exact h2, h3⟩, h4, h5, h6, h7⟩, by rw [hb it (by simp)]; exact h8, h9⟩

def Res.rng {K V : Type} (enc : K → Value) (encV : V → Value) (b : Option Nat) (it : Nat) (m : FM K V) (left : List (K × V)) (last : Option (K × V)) : Res := match b with
  | none => Res.rngN it m left last
  | some b => Res.rngS enc encV b it m left last
structure KeyL {K : Type} [DecidableEq K] (P : Program) (T : TypeId) (enc : K → Value) : Prop where
  check : ∀ x c w, (Instr.checkKey c 10000 T (enc x)).run P w = .ok () w
  find : ∀ x (l : List K) (es : List MapEntry) w, es.map (·.key) = l.map enc → ∃ r, (Instr.findKey T (enc x) es).run P w = .ok r w ∧
    (x ∉ l → r = none) ∧ (x ∈ l → ∃ i m, r = some (i, m.val) ∧ es[i]? = some m ∧ l[i]? = some x)
  stays : ∀ x w, (Instr.keyThatStays (enc x) (enc x)).run P w = .ok (enc x) w
theorem findNow_law {K : Type} [DecidableEq K] {d : TypeDesc} {enc : K → Value} (h : ∀ x y, Instr.sameNow d (enc x) (enc y) = some (decide (x = y))) (x : K) : ∀ (l : List K) (es : List MapEntry) (i : Nat), es.map (·.key) = l.map enc → ∃ r, Instr.findNow d (enc x) es i = some r ∧
    (x ∉ l → r = none) ∧ (x ∈ l → ∃ j m, r = some (i + j, m.val) ∧ es[j]? = some m ∧ l[j]? = some x)
  | [], [], i, _ => ⟨none, rfl, fun _ => rfl, fun h => by simp at h⟩
  | [], _ :: _, i, h => by simp at h
  | _ :: _, [], i, h => by simp at h
  | y :: l, m :: es, i, hk => by
    simp only [List.map_cons, List.cons.injEq] at hk
    obtain ⟨h1, h2⟩ := hk
    unfold Instr.findNow
    rw [h1, h]
    by_cases hxy : x = y
    · subst hxy
      simp only [decide_true]
      exact ⟨_, rfl, fun h => absurd (List.mem_cons_self ..) h, fun _ => ⟨0, m, rfl, rfl, rfl⟩⟩
    · rw [decide_eq_false hxy]
      obtain ⟨r, h3, h4, h5⟩ := findNow_law h x l es (i + 1) h2
      refine ⟨r, h3, fun hn => h4 fun hm => hn (List.mem_cons_of_mem _ hm), fun hm => ?_⟩
      obtain ⟨j, m', e1, e2, e3⟩ := h5 ((List.mem_cons.1 hm).resolve_left hxy)
      exact ⟨j + 1, m', by rw [e1]; congr 2; omega, by simpa using e2, by simpa using e3⟩
theorem KeyL.now {K : Type} [DecidableEq K] {P : Program} {T : TypeId} {d : TypeDesc} {enc : K → Value} (hT : P.underlying T = some d) (h : ∀ x y, Instr.sameNow d (enc x) (enc y) = some (decide (x = y))) (hc : ∀ x c w, (Instr.checkKey c 10000 T (enc x)).run P w = .ok () w) (hs : ∀ x, Instr.sameBits 10000 (enc x) (enc x) = true) : KeyL P T enc where
  check := hc
  find x l es w he := by
    obtain ⟨r, h1, h2, h3⟩ := findNow_law h x l es 0 he
    refine ⟨r, by simp [Instr.findKey, run_underlying hT, h1], h2, fun hm => ?_⟩
    obtain ⟨j, m, e1, e2⟩ := h3 hm
    exact ⟨j, m, by rw [e1, Nat.zero_add], e2⟩
  stays x w := by simp [Instr.keyThatStays, hs]
theorem findAsking_law {K : Type} [DecidableEq K] {P : Program} {T : TypeId} {enc : K → Value} (h : ∀ x y w, (Op.equal T (enc x) (enc y)).run P w = .ok (decide (x = y)) w) (x : K) (w : World) : ∀ (l : List K) (es : List MapEntry) (i : Nat), es.map (·.key) = l.map enc → ∃ r, (Instr.findAsking T (enc x) es i).run P w = .ok r w ∧
    (x ∉ l → r = none) ∧ (x ∈ l → ∃ j m, r = some (i + j, m.val) ∧ es[j]? = some m ∧ l[j]? = some x)
  | [], [], i, _ => ⟨none, by simp [Instr.findAsking], fun _ => rfl, fun h => by simp at h⟩
  | [], _ :: _, i, h => by simp at h
  | _ :: _, [], i, h => by simp at h
  | y :: l, m :: es, i, hk => by
    simp only [List.map_cons, List.cons.injEq] at hk
    obtain ⟨h1, h2⟩ := hk
    unfold Instr.findAsking
    rw [h1]
    by_cases hxy : x = y
    · subst hxy
      exact ⟨some (i, m.val), by simp [h], fun h => absurd (List.mem_cons_self ..) h, fun _ => ⟨0, m, rfl, rfl, rfl⟩⟩
    · obtain ⟨r, h3, h4, h5⟩ := findAsking_law h x w l es (i + 1) h2
      refine ⟨r, by simp [h, hxy, h3], fun hn => h4 fun hm => hn (List.mem_cons_of_mem _ hm), fun hm => ?_⟩
      obtain ⟨j, m', e1, e2, e3⟩ := h5 ((List.mem_cons.1 hm).resolve_left hxy)
      exact ⟨j + 1, m', by rw [e1]; congr 2; omega, by simpa using e2, by simpa using e3⟩
/-- Keys that are asked for by ==: structs. -/
theorem KeyL.asking {K : Type} [DecidableEq K] {P : Program} {T : TypeId} {d : TypeDesc} {enc : K → Value} (hT : P.underlying T = some d) (hn : ∀ x y, Instr.sameNow d (enc x) (enc y) = none) (h : ∀ x y w, (Op.equal T (enc x) (enc y)).run P w = .ok (decide (x = y)) w) (hc : ∀ x c w, (Instr.checkKey c 10000 T (enc x)).run P w = .ok () w) (hs : ∀ x, Instr.sameBits 10000 (enc x) (enc x) = true) : KeyL P T enc where
  check := hc
  find x l es w he := by
    cases l with
    | nil =>
      have : es = [] := by cases es <;> simp_all
      subst this
      exact ⟨none, by simp [Instr.findKey, run_underlying hT, Instr.findNow], fun _ => rfl, fun h => by simp at h⟩
    | cons y l =>
      obtain ⟨r, h1, h2, h3⟩ := findAsking_law h x w (y :: l) es 0 he
      cases es with
      | nil => simp at he
      | cons m es =>
        have hk : m.key = enc y := by simp at he; exact he.1
        refine ⟨r, by simp [Instr.findKey, run_underlying hT, Instr.findNow, hk, hn, h1], h2, fun hm => ?_⟩
        obtain ⟨j, m', e1, e2⟩ := h3 hm
        exact ⟨j, m', by rw [e1, Nat.zero_add], e2⟩
  stays x w := by simp [Instr.keyThatStays, hs]
theorem keyL_int {P : Program} {T : TypeId} (hT : P.underlying T = some (.int .i64)) : KeyL P T keyI :=
  KeyL.now hT (fun x y => by simp only [Instr.sameNow, keyI, if_true]; congr 1) (fun x c w => run_checkKey_int hT 9999 x c w) (fun x => by unfold keyI; rw [Instr.sameBits]; simp)
def keyS (x : List UInt8) : Value := .string (bs x)
theorem bs_beq' (l m : List UInt8) : (bs l == bs m) = decide (l = m) := by
  rw [Bool.eq_iff_iff, decide_eq_true_iff, MapKept.bytes_beq]
  exact ⟨bs_inj, fun h => by rw [h]⟩
theorem run_checkKey_str {P : Program} {K : TypeId} (hK : P.underlying K = some .string) (d : Nat) (x : List UInt8) (c : Bool) (w : World) : (Instr.checkKey c (d + 1) K (keyS x)).run P w = .ok () w := by
  simp [Instr.checkKey, run_underlying hK, keyS]
theorem keyL_str {P : Program} {T : TypeId} (hT : P.underlying T = some .string) : KeyL P T keyS :=
  KeyL.now hT (fun x y => by
    simp only [Instr.sameNow, keyS, bs_beq']) (fun x c w => run_checkKey_str hT 9999 x c w) (fun x => by unfold keyS; rw [Instr.sameBits, bs_beq']; simp)

section
variable {X : Ctx} {e : Env} {σ : Store} {H F : List Res} {o : Oper} {x y z : Operand} {C : Env → Store → List Res → Prop} {K V : Type} {enc : K → Value} {encV : V → Value}
theorem OpOk.makeMapB {T d : Nat} (ho : o.op = .makeMap T none) (hd : o.dst = some d) (hn : Nat.blt d X.n = true) (k : ∀ b, C (upd e d (.map (some b))) σ (Res.mapB enc encV (some b) FM.emp :: H)) : OpOk X o e σ H C := by
  intro w a hw ha K' Q hK
  refine Oper.wp_of_run (w' := w.alloc (.map #[] 0)) (v := .map (some w.heap.size)) ?_ (hK _ _ _ _ _ (k w.heap.size) (hw.gain1 (some _) rfl rfl rfl rfl (by simp) (Nat.le_refl _) (fun k hk => heap_alloc_old w _ hk) ⟨fun h => (by cases h), fun k hk => by cases hk; exact ⟨[], 0, Rep.emp, ⟨#[], heap_alloc_new w _, rfl⟩, by simp, by simp, by simp, by simp⟩⟩ (fun b hb => by cases hb; exact Nat.le_refl _)) (put_dst ha hd hn _))
  simp [execOp, ho, Instr.makeMap]
theorem mapB_sees {b i : Nat} {m : FM K V} {w : World} (hi : H[i]? = some (Res.mapB enc encV (some b) m)) (hw : Sees σ H w) : ∃ zs clock, Rep (zs.map Prod.snd) m ∧ MapAt enc encV w b zs clock := (hw.2 _ (List.mem_of_getElem? hi)).2 b rfl
theorem mapB_nil {i : Nat} {m : FM K V} {w : World} (hi : H[i]? = some (Res.mapB enc encV none m)) (hw : Sees σ H w) : m = FM.emp := (hw.2 _ (List.mem_of_getElem? hi)).1 rfl
theorem MapAt.keys {b clock : Nat} {w : World} {zs : List (MapEntry × (K × V))} (h : MapAt enc encV w b zs clock) : (zs.map Prod.fst).map (·.key) = ((zs.map Prod.snd).map Prod.fst).map enc := by
  rw [List.map_map, List.map_map, List.map_map]
  exact List.map_congr_left fun z hz => h.key z hz
theorem look_run [DecidableEq K] {P : Program} {KT : Nat} {b : Nat} {m : FM K V} {w : World} {zs : List (MapEntry × (K × V))} {clock : Nat} (hR : Rep (zs.map Prod.snd) m) (hM : MapAt enc encV w b zs clock) (KL : KeyL P KT enc) (q : K) {es : Array MapEntry} (he : es.toList = zs.map Prod.fst) :
    (m.f q = none ∧ (Instr.findKey KT (enc q) es.toList).run P w = .ok none w) ∨ ∃ i z, m.f q = some z.2.2 ∧ zs[i]? = some z ∧ z.2.1 = q ∧ (Instr.findKey KT (enc q) es.toList).run P w = .ok (some (i, encV z.2.2)) w := by
  obtain ⟨r, k1, k2, k3⟩ := KL.find q ((zs.map Prod.snd).map Prod.fst) es.toList w (by rw [he]; exact hM.keys)
  by_cases hq : q ∈ (zs.map Prod.snd).map Prod.fst
  · obtain ⟨i, m', e1, e2, e3⟩ := k3 hq
    rw [e1] at k1
    rw [he, List.getElem?_map] at e2
    cases hz : zs[i]? with
    | none => rw [hz] at e2; simp at e2
    | some z =>
      rw [hz] at e2
      simp only [Option.map_some, Option.some.injEq] at e2
      rw [List.getElem?_map, List.getElem?_map, hz] at e3
      simp only [Option.map_some, Option.some.injEq] at e3
      have hzm := List.mem_of_getElem? hz
      refine .inr ⟨i, z, ?_, hz, e3, ?_⟩
      · rw [← e3, ← hR.mem]; exact List.mem_map.2 ⟨z, hzm, rfl⟩
      · rw [k1, ← e2, hM.val z hzm]
  · rw [k2 hq] at k1
    exact .inl ⟨hR.not.1 hq, k1⟩
theorem OpVal.lookB [DecidableEq K] {P : Program} {n T KT ET i : Nat} {b : Option Nat} {m : FM K V} {q : K} (d : V) (ho : o.op = .lookup T x y true) (ht : P.underlying T = some (.map KT ET)) (hz : zeroOf P ET = some (encV d)) (hx : ev e x = .map b) (hi : H[i]? = some (Res.mapB enc encV b m)) (hy : ev e y = enc q) (KL : KeyL P KT enc) :
    OpVal P n o e σ H (.tuple #[encV (m.get q d), .bool (m.has q)]) := fun w hw => by
  cases b with
  | none =>
    obtain rfl := mapB_nil hi hw
    obtain ⟨r, k1, k2, _⟩ := KL.find q [] [] w rfl
    rw [k2 (by simp)] at k1
    simp [execOp, ho, hx, hy, Instr.lookup, run_underlying ht, KL.check, k1, run_zeroValue hz, FM.get, FM.has, FM.emp]
  | some b =>
    obtain ⟨zs, clock, hR, hM⟩ := mapB_sees hi hw
    obtain ⟨es, h1, h2⟩ := hM.at_
    have hg : (getObj b).run P w = .ok (.map es clock) w := run_getObj_map' h1
    rcases look_run hR hM KL q h2 with ⟨h3, h4⟩ | ⟨j, z, h3, _, _, h4⟩
    · simp [execOp, ho, hx, hy, Instr.lookup, run_underlying ht, hg, KL.check, h4, run_zeroValue hz, FM.get, FM.has, h3]
    · simp [execOp, ho, hx, hy, Instr.lookup, run_underlying ht, hg, KL.check, h4, FM.get, FM.has, h3]
theorem OpVal.lookB1 [DecidableEq K] {P : Program} {n T KT ET i : Nat} {b : Option Nat} {m : FM K V} {q : K} (d : V) (ho : o.op = .lookup T x y false) (ht : P.underlying T = some (.map KT ET)) (hz : zeroOf P ET = some (encV d)) (hx : ev e x = .map b) (hi : H[i]? = some (Res.mapB enc encV b m)) (hy : ev e y = enc q) (KL : KeyL P KT enc) :
    OpVal P n o e σ H (encV (m.get q d)) := fun w hw => by
  cases b with
  | none =>
    obtain rfl := mapB_nil hi hw
    obtain ⟨r, k1, k2, _⟩ := KL.find q [] [] w rfl
    rw [k2 (by simp)] at k1
    simp [execOp, ho, hx, hy, Instr.lookup, run_underlying ht, KL.check, k1, run_zeroValue hz, FM.get, FM.has, FM.emp]
  | some b =>
    obtain ⟨zs, clock, hR, hM⟩ := mapB_sees hi hw
    obtain ⟨es, h1, h2⟩ := hM.at_
    have hg : (getObj b).run P w = .ok (.map es clock) w := run_getObj_map' h1
    rcases look_run hR hM KL q h2 with ⟨h3, h4⟩ | ⟨j, z, h3, _, _, h4⟩
    · simp [execOp, ho, hx, hy, Instr.lookup, run_underlying ht, hg, KL.check, h4, run_zeroValue hz, FM.get, h3]
    · simp [execOp, ho, hx, hy, Instr.lookup, run_underlying ht, hg, KL.check, h4, FM.get, h3]
theorem OpVal.lenB {P : Program} {n T KT ET i : Nat} {b : Option Nat} {m : FM K V} (ho : o.op = .call { callee := .builtin .len, args := #[x], argTypes := #[T] }) (ht : P.underlying T = some (.map KT ET)) (hx : ev e x = .map b) (hi : H[i]? = some (Res.mapB enc encV b m)) :
    OpVal P n o e σ H (.int .i64 (m.n : Nat)) := fun w hw => by
  cases b with
  | none =>
    obtain rfl := mapB_nil hi hw
    simp [execOp, ho, resolve, invoke, builtin, hx, Builtin.len_, run_underlying ht, goInt, FM.emp]
  | some b =>
    obtain ⟨zs, clock, hR, hM⟩ := mapB_sees hi hw
    obtain ⟨es, h1, h2⟩ := hM.at_
    have hl : es.size = m.n := by have := congrArg List.length h2; have h3 := hR.len; simp at this h3; omega
    have hg : (getObj b).run P w = .ok (.map es clock) w := run_getObj_map' h1
    simp [execOp, ho, resolve, invoke, builtin, hx, Builtin.len_, run_underlying ht, hg, goInt, hl]
theorem OpOk.updB [DecidableEq K] {T KT ET : Nat} {b : Nat} {m : FM K V} (q : K) (v : V) (ho : o.op = .mapUpdate T x y z) (ht : X.P.underlying T = some (.map KT ET)) (hd : o.dst = none) (hx : ev e x = .map (some b)) (hy : ev e y = enc q) (hz : ev e z = encV v) (KL : KeyL X.P KT enc)
    (k : C e σ (Res.mapB enc encV (some b) (m.put q v) :: F)) : OpOk X o e σ (Res.mapB enc encV (some b) m :: F) C := by
  intro w a hw ha K' Q hK
  obtain ⟨zs, clock, hR, hM⟩ := (hw.holds _ (List.mem_cons_self ..)).2 b rfl
  obtain ⟨es, h1, h2⟩ := hM.at_
  have hg : (getObj b).run X.P w = .ok (.map es clock) w := run_getObj_map' h1
  have hblt : b < w.heap.size := (Array.getElem?_eq_some_iff.1 h1).1
  have key : ∀ es' clock' (zs' : List (MapEntry × (K × V))), es'.toList = zs'.map Prod.fst → Rep (zs'.map Prod.snd) (m.put q v) → (∀ z ∈ zs', z.1.key = enc z.2.1) → (∀ z ∈ zs', z.1.val = encV z.2.2) → (∀ z ∈ zs', z.1.born < clock') → (zs'.map (·.1.born)).Nodup →
      Reach X.w0 X.C X.σ0 σ { w with heap := w.heap.setIfInBounds b (.map es' clock') } (Res.mapB enc encV (some b) (m.put q v) :: F) := fun es' clock' zs' g1 g2 g3 g4 g5 g6 =>
    hw.turn1 (some _) (some _) rfl rfl rfl rfl rfl (by simp) (Nat.le_refl _) (fun k hk hne => by
      have : b ≠ k := fun hx => hne (by rw [hx])
      simp [Array.getElem?_setIfInBounds, this]) ⟨fun h => (by cases h), fun k hk => by cases hk; exact ⟨zs', clock', g2, ⟨es', by simp [Array.getElem?_setIfInBounds, hblt], g1⟩, g3, g4, g5, g6⟩⟩ (fun c hc => .inl (by cases hc; rfl))
  rcases look_run hR hM KL q h2 with ⟨h3, h4⟩ | ⟨j, u, h3, hj, hu, h4⟩
  · refine Oper.wp_of_skip (w' := { w with heap := w.heap.setIfInBounds b (.map (es.push { key := enc q, val := encV v, born := clock }) (clock + 1)) }) ?_ (hK _ _ _ _ _ k (key _ _ (zs ++ [({ key := enc q, val := encV v, born := clock }, (q, v))]) ?_ ?_ ?_ ?_ ?_ ?_) (put_dst0 ha hd _))
    · rw [ha.eval']
      simp [execOp, ho, hx, hy, hz, Instr.mapUpdate, run_underlying ht, hg, KL.check, h4, run_setObj_map' _ h1]
    · simp [h2]
    · rw [List.map_append]
      refine ⟨fun k' v' => ?_, ?_, ?_⟩
      · have := hR.mem k' v'
        simp only [FM.put, List.mem_append, this, List.map_cons, List.map_nil, List.mem_singleton, Prod.mk.injEq]
        by_cases hk : k' = q
        · subst hk; simp [h3]; exact eq_comm
        · simp [hk]
      · have := hR.len
        simp only [List.length_append, FM.put, h3, List.length_map, List.length_singleton] at this ⊢
        simp; omega
      · have := hR.not.2 h3
        rw [List.map_append, List.nodup_append]
        refine ⟨hR.nodup, by simp, fun a ha c hc => ?_⟩
        simp at hc; subst hc; intro e; subst e; exact this ha
    · intro z hz
      rcases List.mem_append.1 hz with hz | hz
      · exact hM.key z hz
      · simp at hz; subst hz; rfl
    · intro z hz
      rcases List.mem_append.1 hz with hz | hz
      · exact hM.val z hz
      · simp at hz; subst hz; rfl
    · intro z hz
      rcases List.mem_append.1 hz with hz | hz
      · have := hM.born z hz; omega
      · simp at hz; subst hz; simp
    · rw [List.map_append, List.nodup_append]
      refine ⟨hM.nodup, by simp, fun a ha c hc => ?_⟩
      simp at hc; subst hc
      obtain ⟨z, hz, rfl⟩ := List.mem_map.1 ha
      have := hM.born z hz
      omega
  · have hum := List.mem_of_getElem? hj
    have hes : es[j]? = some u.1 := by
      rw [← Array.getElem?_toList, h2, List.getElem?_map, hj]; rfl
    have hlt : j < es.size := (Array.getElem?_eq_some_iff.1 hes).1
    have huk : u.1.key = enc q := by rw [hM.key u hum, hu]
    have hfst : ∀ i z, (zs.modify j fun p => ({ p.1 with key := enc q, val := encV v }, (q, v)))[i]? = some z → ∃ p, zs[i]? = some p ∧ ((i = j ∧ z = ({ p.1 with key := enc q, val := encV v }, (q, v))) ∨ (i ≠ j ∧ z = p)) := by
      intro i z hz
      rw [List.getElem?_modify] at hz
      cases hp : zs[i]? with
      | none => rw [hp] at hz; simp at hz
      | some p =>
        rw [hp] at hz
        refine ⟨p, rfl, ?_⟩
        by_cases hij : j = i
        · subst hij; simp at hz; exact .inl ⟨rfl, hz.symm⟩
        · simp [hij] at hz; exact .inr ⟨fun h => hij h.symm, hz.symm⟩
    have hkeys : ((zs.modify j fun p => ({ p.1 with key := enc q, val := encV v }, (q, v))).map Prod.snd).map Prod.fst = (zs.map Prod.snd).map Prod.fst := by
      apply List.ext_getElem?
      intro i
      simp only [List.getElem?_map, List.getElem?_modify]
      by_cases hij : j = i
      · subst hij; simp [hj, hu]
      · simp [hij]
    refine Oper.wp_of_skip (w' := { w with heap := w.heap.setIfInBounds b (.map (es.modify j fun m => { m with key := enc q, val := encV v }) clock) }) ?_ (hK _ _ _ _ _ k (key _ _ (zs.modify j fun p => ({ p.1 with key := enc q, val := encV v }, (q, v))) ?_ ?_ ?_ ?_ ?_ ?_) (put_dst0 ha hd _))
    · rw [ha.eval']
      simp [execOp, ho, hx, hy, hz, Instr.mapUpdate, run_underlying ht, hg, KL.check, h4, run_setObj_map' _ h1, hes, huk, KL.stays]
    · apply List.ext_getElem?
      intro i
      rw [Array.getElem?_toList, Array.getElem?_modify, List.getElem?_map, List.getElem?_modify, ← Array.getElem?_toList, h2, List.getElem?_map]
      by_cases hij : j = i
      · subst hij; simp [hj]
      · simp [hij]
    · refine ⟨fun k' v' => ?_, ?_, by rw [hkeys]; exact hR.nodup⟩
      · simp only [FM.put]
        have hin : ∀ k' v', (k', v') ∈ (zs.modify j fun p => ({ p.1 with key := enc q, val := encV v }, (q, v))).map Prod.snd → (k' = q ∧ v' = v) ∨ (k' ≠ q ∧ (k', v') ∈ zs.map Prod.snd) := by
          intro k' v' hm
          obtain ⟨z, hz, hzk⟩ := List.mem_map.1 hm
          obtain ⟨i, hi⟩ := List.mem_iff_getElem?.1 hz
          obtain ⟨p, hp, ⟨_, rfl⟩ | ⟨hij, rfl⟩⟩ := hfst i z hi
          · simp at hzk; exact .inl ⟨hzk.1.symm, hzk.2.symm⟩
          · refine .inr ⟨fun hk => ?_, List.mem_map.2 ⟨z, List.mem_of_getElem? hp, hzk⟩⟩
            have h5 : ((zs.map Prod.snd).map Prod.fst)[i]? = some q := by simp [hp, hzk, hk]
            have h6 : ((zs.map Prod.snd).map Prod.fst)[j]? = some q := by simp [hj, hu]
            obtain ⟨hi5, e5⟩ := List.getElem?_eq_some_iff.1 h5
            obtain ⟨hi6, e6⟩ := List.getElem?_eq_some_iff.1 h6
            exact hij ((List.nodup_iff_pairwise_ne.1 hR.nodup |> List.pairwise_iff_getElem.1) |> fun hpw => by
              rcases Nat.lt_trichotomy i j with h | h | h
              · exact absurd (e5.trans e6.symm) (hpw i j hi5 hi6 h)
              · exact h
              · exact absurd (e6.trans e5.symm) (hpw j i hi6 hi5 h))
        have hout1 : (q, v) ∈ (zs.modify j fun p => ({ p.1 with key := enc q, val := encV v }, (q, v))).map Prod.snd :=
          List.mem_of_getElem? (i := j) (by simp [List.getElem?_modify, hj])
        by_cases hk : k' = q
        · subst hk
          simp only [if_true, Option.some.injEq]
          constructor
          · intro hm
            rcases hin _ _ hm with h | h
            · exact h.2.symm
            · exact absurd rfl h.1
          · rintro rfl; exact hout1
        · rw [if_neg hk, ← hR.mem]
          constructor
          · intro hm
            rcases hin _ _ hm with h | h
            · exact absurd h.1 hk
            · exact h.2
          · intro hm
            obtain ⟨z, hz, hzk⟩ := List.mem_map.1 hm
            obtain ⟨i, hi⟩ := List.mem_iff_getElem?.1 hz
            have hij : j ≠ i := by
              rintro rfl
              rw [hj] at hi
              cases hi
              rw [hzk] at hu
              exact hk hu
            exact List.mem_of_getElem? (i := i) (by simp [List.getElem?_modify, hij, hi, hzk])
      · have := hR.len
        simp only [FM.put, h3, Option.isSome_some, if_true, List.length_map, List.length_modify] at this ⊢
        exact this
    · intro z hz
      obtain ⟨i, hi⟩ := List.mem_iff_getElem?.1 hz
      obtain ⟨p, hp, ⟨_, rfl⟩ | ⟨_, rfl⟩⟩ := hfst i z hi
      · rfl
      · exact hM.key z (List.mem_of_getElem? hp)
    · intro z hz
      obtain ⟨i, hi⟩ := List.mem_iff_getElem?.1 hz
      obtain ⟨p, hp, ⟨_, rfl⟩ | ⟨_, rfl⟩⟩ := hfst i z hi
      · rfl
      · exact hM.val z (List.mem_of_getElem? hp)
    · intro z hz
      obtain ⟨i, hi⟩ := List.mem_iff_getElem?.1 hz
      obtain ⟨p, hp, ⟨_, rfl⟩ | ⟨_, rfl⟩⟩ := hfst i z hi
      · exact hM.born p (List.mem_of_getElem? hp)
      · exact hM.born z (List.mem_of_getElem? hp)
    · have : (zs.modify j fun p => ({ p.1 with key := enc q, val := encV v }, (q, v))).map (·.1.born) = zs.map (·.1.born) := by
        apply List.ext_getElem?
        intro i
        simp only [List.getElem?_map, List.getElem?_modify]
        by_cases hij : j = i
        · subst hij; simp [hj]
        · simp [hij]
      rw [this]; exact hM.nodup

/-! ### Ranges -/
theorem OpOk.rangeB {T KT ET d : Nat} {b : Option Nat} {m : FM K V} (ho : o.op = .range T x) (ht : X.P.underlying T = some (.map KT ET)) (hd : o.dst = some d) (hn : Nat.blt d X.n = true) (hx : ev e x = .map b)
    (k : ∀ it l, Rep l m → C (upd e d (.pointer (some ⟨it, 0, none⟩))) σ (Res.rng enc encV b it m l none :: F)) : OpOk X o e σ (Res.mapB enc encV b m :: F) C := by
  intro w a hw ha K' Q hK
  cases b with
  | none =>
    obtain rfl := (hw.holds _ (List.mem_cons_self ..)).1 rfl
    have hrun := run_range_nilMap (P := X.P) w T KT ET ht
    refine Oper.wp_of_run (v := .pointer (some ⟨w.heap.size, 0, none⟩)) ?_ (hK _ _ _ _ _ (k w.heap.size [] Rep.emp) (hw.turn (w' := w.alloc (.mapIter none 0 #[] 0)) rfl rfl rfl (by simp) (Nat.le_refl _) (fun k hk _ => heap_alloc_old w _ hk) ⟨⟨rfl, rfl, rfl⟩, heap_alloc_new w _⟩ ?_ ?_) (put_dst ha hd hn _))
    · rw [ha.eval']
      simp [execOp, ho, hx, hrun]
    · intro k hk
      simp [Res.rng, Res.rngN] at hk
      right; omega
    · simp [Res.rng, Res.rngN]
  | some b =>
    obtain ⟨zs, clock, hR, hM⟩ := (hw.holds _ (List.mem_cons_self ..)).2 b rfl
    obtain ⟨es, h1, h2⟩ := hM.at_
    have hblt : b < w.heap.size := (Array.getElem?_eq_some_iff.1 h1).1
    have hrun := run_range_map (P := X.P) w T KT ET b es clock ht h1
    have hold : ∀ k, k < w.heap.size → (w.alloc (.mapIter (some b) clock #[] clock)).heap[k]? = w.heap[k]? := fun k hk => heap_alloc_old w _ hk
    refine Oper.wp_of_run (v := .pointer (some ⟨w.heap.size, 0, none⟩)) ?_ (hK _ _ _ _ _ (k w.heap.size (zs.map Prod.snd) hR) (hw.turn (w' := w.alloc (.mapIter (some b) clock #[] clock)) rfl rfl rfl (by simp) (Nat.le_refl _) (fun k hk _ => hold k hk) ?_ ?_ ?_) (put_dst ha hd hn _))
    · rw [ha.eval']
      simp [execOp, ho, hx, hrun]
    · refine ⟨by omega, zs, clock, #[], hR, ⟨⟨es, by rw [hold b hblt]; exact h1, h2⟩, hM.key, hM.val, hM.born, hM.nodup⟩, heap_alloc_new w _, ?_, by simp⟩
      rw [List.filter_eq_self.2 (by simp)]
    · intro k hk
      simp [Res.rng, Res.rngS] at hk
      rcases hk with rfl | rfl
      · left; simp [Res.mapB]
      · right; exact Nat.le_refl _
    · simp [Res.rng, Res.rngS]; omega
theorem OpOk.nextB {T d : Nat} {b : Option Nat} {it : Nat} {m : FM K V} {left : List (K × V)} {last : Option (K × V)} (ho : o.op = .next x false) (hty : o.type = T) (hd : o.dst = some d) (hn : Nat.blt d X.n = true) (hx : ev e x = .pointer (some ⟨it, 0, none⟩))
    (k0 : left = [] → C (upd e d (.tuple #[.bool false])) σ (Res.rng enc encV b it m [] last :: F))
    (k1 : ∀ l1 p l2, left = l1 ++ p :: l2 → C (upd e d (.tuple #[.bool true, enc p.1, encV p.2])) σ (Res.rng enc encV b it m (l1 ++ l2) (some p) :: F)) : OpOk X o e σ (Res.rng enc encV b it m left last :: F) C := by
  intro w a hw ha K' Q hK
  cases b with
  | none =>
    obtain ⟨⟨_, rfl, _⟩, hit⟩ := hw.holds _ (List.mem_cons_self ..)
    refine Oper.wp_of_run (v := .tuple #[.bool false]) ?_ (hK _ _ _ _ _ (k0 rfl) hw (put_dst ha hd hn _))
    rw [ha.eval']
    simp [execOp, ho, hx, Instr.next, getObj, Sem.run, hit, Result.andThen]
  | some b =>
    obtain ⟨hne, zs, clock, seen, hR, hM, hit, hleft, hlast⟩ := hw.holds _ (List.mem_cons_self ..)
    obtain ⟨es, h1, h2⟩ := hM.at_
    have hmem : ∀ x ∈ es.toList, x.born < clock := fun x hx => by
      rw [h2] at hx
      obtain ⟨z, hz, rfl⟩ := List.mem_map.1 hx
      exact hM.born z hz
    have hfil : (leftOf es seen).toList = (zs.filter fun z => !seen.contains z.1.born).map Prod.fst := by
      unfold leftOf
      rw [Array.toList_filter, h2, List.filter_map]
      rfl
    rcases run_next_at (P := X.P) w o.type it b clock clock seen es clock hit h1 hmem (Nat.le_refl _) with ⟨h0, hrun⟩ | ⟨en, hen, w1, hal, hrun⟩
    · have hl0 : left = [] := by
        have : (zs.filter fun z => !seen.contains z.1.born) = [] := by
          have h3 := congrArg List.length hfil
          rw [List.length_map, Array.length_toList, h0] at h3
          exact List.eq_nil_of_length_eq_zero h3.symm
        rw [this] at hleft
        exact hleft.eq_nil
      subst hl0
      refine Oper.wp_of_run (v := .tuple #[.bool false]) ?_ (hK _ _ _ _ _ (k0 rfl) hw (put_dst ha hd hn _))
      rw [ha.eval']
      simp [execOp, ho, hx, hrun]
    · rw [hfil] at hen
      obtain ⟨z, hz, rfl⟩ := List.mem_map.1 hen
      obtain ⟨hzm, hzs⟩ := List.mem_filter.1 hz
      have hzl : z.2 ∈ left := hleft.mem_iff.2 (List.mem_map.2 ⟨z, hz, rfl⟩)
      obtain ⟨l1, l2, rfl⟩ := List.append_of_mem hzl
      have hw1 : Reach X.w0 X.C X.σ0 σ w1 (Res.rng enc encV (some b) it m (l1 ++ z.2 :: l2) last :: F) := by
        rcases hal with rfl | rfl
        · exact hw
        · exact hw.drew
      have hb1 : w1.heap[b]? = some (.map es clock) := by rcases hal with rfl | rfl <;> exact h1
      have hi1 : w1.heap[it]? = some (.mapIter (some b) clock seen clock) := by rcases hal with rfl | rfl <;> exact hit
      have hblt : b < w1.heap.size := (Array.getElem?_eq_some_iff.1 hb1).1
      have hilt : it < w1.heap.size := (Array.getElem?_eq_some_iff.1 hi1).1
      obtain ⟨A, B, hAB⟩ := List.append_of_mem hz
      have hnew : (zs.filter fun u => !(seen.push z.1.born).contains u.1.born) = A ++ B := by
        have e1 : (zs.filter fun u => !(seen.push z.1.born).contains u.1.born) = (zs.filter fun u => !seen.contains u.1.born).filter fun u => !(u.1.born == z.1.born) := by
          rw [List.filter_filter]
          congr 1
          funext u
          rw [Bool.eq_iff_iff]
          simp [not_or]
          grind
        have hnd : ((A ++ z :: B).map (·.1.born)).Nodup := by
          rw [← hAB]
          exact ((List.filter_sublist (l := zs)).map _).nodup hM.nodup
        rw [e1, hAB, List.filter_append, List.filter_cons]
        simp only [beq_self_eq_true, Bool.not_true, Bool.false_eq_true, if_false]
        rw [List.map_append, List.map_cons, List.nodup_append, List.nodup_cons] at hnd
        obtain ⟨_, ⟨n1, _⟩, n2⟩ := hnd
        rw [List.filter_eq_self.2, List.filter_eq_self.2]
        · intro u hu
          have : u.1.born ≠ z.1.born := fun h => n1 (by rw [← h]; exact List.mem_map.2 ⟨u, hu, rfl⟩)
          simpa using this
        · intro u hu
          have : u.1.born ≠ z.1.born := n2 _ (List.mem_map.2 ⟨u, hu, rfl⟩) _ (List.mem_cons_self ..)
          simpa using this
      refine Oper.wp_of_run (v := .tuple #[.bool true, enc z.2.1, encV z.2.2]) (w' := ChangeMaps.setBlock w1 it (.mapIter (some b) clock (seen.push z.1.born) clock)) ?_ (hK _ _ _ _ _ (k1 l1 z.2 l2 rfl) (hw1.turn ?_ ?_ ?_ ?_ (Nat.le_refl _) ?_ ?_ ?_ ?_) (put_dst ha hd hn _))
      · rw [ha.eval']
        simp [execOp, ho, hx, hrun, hM.key z hzm, hM.val z hzm]
      · rfl
      · rfl
      · rfl
      · simp [ChangeMaps.setBlock]
      · intro k hk hkn
        simp [Res.rng, Res.rngS] at hkn
        have hik : ¬ it = k := fun h => hkn.2 h.symm
        simp [ChangeMaps.setBlock, Array.getElem?_setIfInBounds, hik]
      · refine ⟨hne, zs, clock, seen.push z.1.born, hR, ⟨⟨es, ?_, h2⟩, hM.key, hM.val, hM.born, hM.nodup⟩, ?_, ?_, ?_⟩
        · have hib : ¬ it = b := fun h => hne h.symm
          simp [ChangeMaps.setBlock, Array.getElem?_setIfInBounds, hib]; exact hb1
        · simp [ChangeMaps.setBlock, Array.getElem?_setIfInBounds, hilt]
        · rw [hnew]
          rw [hAB] at hleft
          have h5 : (z.2 :: (l1 ++ l2)).Perm (z.2 :: ((A ++ B).map Prod.snd)) := by
            refine List.perm_middle.symm.trans (hleft.trans ?_)
            rw [List.map_append, List.map_cons, List.map_append]
            exact List.perm_middle
          exact h5.cons_inv
        · rintro x hx
          cases hx
          exact ⟨z, hzm, seen, rfl, rfl⟩
      · intro k hk; exact .inl hk
      · simp [Res.rng, Res.rngS]; exact hne
theorem OpVal.entryB {P : Program} {n i : Nat} {b : Option Nat} {it : Nat} {m : FM K V} {left : List (K × V)} {p : K × V} (ho : o.op = .entry x) (hx : ev e x = .pointer (some ⟨it, 0, none⟩)) (hi : H[i]? = some (Res.rng enc encV b it m left (some p))) : OpVal P n o e σ H (.tuple #[enc p.1, encV p.2]) := fun w hw => by
  cases b with
  | none =>
    obtain ⟨⟨_, _, h⟩, _⟩ := hw.2 _ (List.mem_of_getElem? hi)
    cases h
  | some b =>
    obtain ⟨hne, zs, clock, seen, hR, hM, hit, hleft, hlast⟩ := hw.2 _ (List.mem_of_getElem? hi)
    obtain ⟨z, hz, s, rfl, rfl⟩ := hlast p rfl
    obtain ⟨es, h1, h2⟩ := hM.at_
    have hrun := run_entry_at (P := P) w it b clock s es clock z.1 hit h1 (by rw [h2]; exact List.mem_map.2 ⟨z, hz, rfl⟩) (by rw [h2, List.map_map]; exact hM.nodup)
    simp [execOp, ho, hx, hrun, hM.key z hz, hM.val z hz]
theorem Reach.unrng {w0 : World} {Cb : List Nat} {σ0 : Store} {w : World} {b : Option Nat} {it : Nat} {m : FM K V} {left : List (K × V)} {last : Option (K × V)} (h : Reach w0 Cb σ0 σ w (Res.rng enc encV b it m left last :: F)) : Reach w0 Cb σ0 σ w (Res.mapB enc encV b m :: F) := by
  have hh := h.holds _ (List.mem_cons_self ..)
  refine h.turn rfl rfl rfl (Nat.le_refl _) (Nat.le_refl _) (fun _ _ _ => rfl) ?_ (fun k hk => .inl ?_) (by cases b <;> simp [Res.mapB])
  · cases b with
    | none => obtain ⟨⟨rfl, _⟩, _⟩ := hh; exact ⟨fun _ => rfl, fun k hk => by cases hk⟩
    | some b => obtain ⟨hne, zs, clock, seen, hR, hM, _⟩ := hh; exact ⟨fun h => (by cases h), fun k hk => by cases hk; exact ⟨zs, clock, hR, hM⟩⟩
  · cases b with
    | none => simp [Res.mapB] at hk
    | some b => simp [Res.mapB] at hk; simp [Res.rng, Res.rngS, hk]
end
end Go.E
