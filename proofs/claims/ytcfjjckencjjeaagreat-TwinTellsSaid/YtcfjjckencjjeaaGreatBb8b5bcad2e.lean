/- Parts of a proof, one behind the other: what a machine reaches, functions decompiled, plain lemmas. Conditions stand with each lemma. -/
import Derived.Test.YtcfjjckencjjeaaGreatBfe2174d4b5
import Derived.Maps.RangeRun
import Derived.Laws.StructEq
import Derived.Laws.BytesArg
import Derived.Lib.Bytealg
import Derived.Shelf.SlSortCmp.NoneTotal

/- Dec6 -/
section
/- Maps, and ranges over them; equality of structs; unsigned numbers. Plain lemmas over any program; no condition. -/
set_option linter.unusedVariables false
set_option linter.unusedSimpArgs false
namespace Go.E
open Go

/-! ### Finite maps -/
structure FM (K V : Type) where
  f : K → Option V
  n : Nat
section
variable {K V : Type}
def FM.emp : FM K V := ⟨fun _ => none, 0⟩
def FM.put [DecidableEq K] (m : FM K V) (k : K) (v : V) : FM K V := ⟨fun x => if x = k then some v else m.f x, if (m.f k).isSome then m.n else m.n + 1⟩
def FM.get (m : FM K V) (k : K) (d : V) : V := (m.f k).getD d
def FM.has (m : FM K V) (k : K) : Bool := (m.f k).isSome
/-- A list of a map's entries. -/
structure Rep (l : List (K × V)) (m : FM K V) : Prop where
  mem : ∀ k v, (k, v) ∈ l ↔ m.f k = some v
  len : l.length = m.n
  nodup : (l.map Prod.fst).Nodup
theorem Rep.emp : Rep ([] : List (K × V)) FM.emp := ⟨by simp [FM.emp], rfl, by simp⟩
theorem Rep.not {l : List (K × V)} {m : FM K V} (h : Rep l m) {k : K} : k ∉ l.map Prod.fst ↔ m.f k = none := by
  constructor
  · intro hn
    cases hk : m.f k with
    | none => rfl
    | some v => exact absurd (List.mem_map.2 ⟨_, (h.mem k v).2 hk, rfl⟩) hn
  · intro hk hm
    obtain ⟨⟨k', v⟩, h1, rfl⟩ := List.mem_map.1 hm
    have := (h.mem k' v).1 h1
    simp only at hk; rw [hk] at this; cases this
end
/-- What the map at a block holds. -/
structure MapAt {K V : Type} (enc : K → Value) (encV : V → Value) (w : World) (b : Nat) (zs : List (MapEntry × (K × V))) (clock : Nat) : Prop where
  at_ : ∃ es, w.heap[b]? = some (.map es clock) ∧ es.toList = zs.map Prod.fst
  key : ∀ z ∈ zs, z.1.key = enc z.2.1
  val : ∀ z ∈ zs, z.1.val = encV z.2.2
  born : ∀ z ∈ zs, z.1.born < clock
  nodup : (zs.map (·.1.born)).Nodup
def MapIs {K V : Type} (enc : K → Value) (encV : V → Value) (b : Nat) (m : FM K V) (w : World) : Prop := ∃ zs clock, Rep (zs.map Prod.snd) m ∧ MapAt enc encV w b zs clock
theorem MapIs.keep {K V : Type} {enc : K → Value} {encV : V → Value} {b : Nat} {m : FM K V} {w w' : World} (h : MapIs enc encV b m w) (hb : w'.heap[b]? = w.heap[b]?) : MapIs enc encV b m w' := by
  obtain ⟨zs, c, h1, ⟨es, h2, h3⟩, h4, h5, h6, h7⟩ := h
  exact ⟨zs, c, h1, ⟨es, by rw [hb]; exact h2, h3⟩, h4, h5, h6, h7⟩
/-- A map, or nil. -/
def Res.mapB {K V : Type} (enc : K → Value) (encV : V → Value) (b : Option Nat) (m : FM K V) : Res where
  bl := b.toList
  holds w := (b = none → m = FM.emp) ∧ ∀ k, b = some k → MapIs enc encV k m w
  lt w k hk h := by obtain ⟨_, _, _, ⟨_, h, _⟩, _⟩ := h.2 k (Option.mem_toList.1 hk); exact (Array.getElem?_eq_some_iff.1 h).1
  keep w w' hb h := ⟨h.1, fun k hk => (h.2 k hk).keep (hb k (Option.mem_toList.2 hk))⟩
structure KeyL {K : Type} [DecidableEq K] (P : Program) (T : TypeId) (enc : K → Value) : Prop where
  check : ∀ x c w, (Instr.checkKey c 10000 T (enc x)).run P w = .ok () w
  find : ∀ x (l : List K) (es : List MapEntry) w, es.map (·.key) = l.map enc → ∃ r, (Instr.findKey T (enc x) es).run P w = .ok r w ∧
    (x ∉ l → r = none) ∧ (x ∈ l → ∃ i m, r = some (i, m.val) ∧ es[i]? = some m ∧ l[i]? = some x)
  stays : ∀ x w, (Instr.keyThatStays (enc x) (enc x)).run P w = .ok (enc x) w
theorem findNow_law {K : Type} [DecidableEq K] {d : TypeDesc} {enc : K → Value} (h : ∀ x y, Instr.sameNow d (enc x) (enc y) = some (decide (x = y))) (x : K) : ∀ (l : List K) (es : List MapEntry) (i : Nat), es.map (·.key) = l.map enc → ∃ r, Instr.findNow d (enc x) es i = some r ∧
    (x ∉ l → r = none) ∧ (x ∈ l → ∃ j m, r = some (i + j, m.val) ∧ es[j]? = some m ∧ l[j]? = some x)
  | [], [], i, _ => ⟨none, rfl, fun _ => rfl, fun h => by simp at h⟩
  | [], _ :: _, i, h => by simp at h
  | _ :: _, [], i, h => by simp at h
  | y :: l, m :: es, i, hk => by
    simp only [List.map_cons, List.cons.injEq] at hk
    obtain ⟨h1, h2⟩ := hk
    unfold Instr.findNow
    rw [h1, h]
    by_cases hxy : x = y
    · subst hxy
      simp only [decide_true]
      exact ⟨_, rfl, fun h => absurd (List.mem_cons_self ..) h, fun _ => ⟨0, m, rfl, rfl, rfl⟩⟩
    · rw [decide_eq_false hxy]
      obtain ⟨r, h3, h4, h5⟩ := findNow_law h x l es (i + 1) h2
      refine ⟨r, h3, fun hn => h4 fun hm => hn (List.mem_cons_of_mem _ hm), fun hm => ?_⟩
      obtain ⟨j, m', e1, e2, e3⟩ := h5 ((List.mem_cons.1 hm).resolve_left hxy)
      exact ⟨j + 1, m', by rw [e1]; congr 2; omega, by simpa using e2, by simpa using e3⟩
theorem findAsking_law {K : Type} [DecidableEq K] {P : Program} {T : TypeId} {enc : K → Value} (h : ∀ x y w, (Op.equal T (enc x) (enc y)).run P w = .ok (decide (x = y)) w) (x : K) (w : World) : ∀ (l : List K) (es : List MapEntry) (i : Nat), es.map (·.key) = l.map enc → ∃ r, (Instr.findAsking T (enc x) es i).run P w = .ok r w ∧
    (x ∉ l → r = none) ∧ (x ∈ l → ∃ j m, r = some (i + j, m.val) ∧ es[j]? = some m ∧ l[j]? = some x)
  | [], [], i, _ => ⟨none, by simp [Instr.findAsking], fun _ => rfl, fun h => by simp at h⟩
  | [], _ :: _, i, h => by simp at h
  | _ :: _, [], i, h => by simp at h
  | y :: l, m :: es, i, hk => by
    simp only [List.map_cons, List.cons.injEq] at hk
    obtain ⟨h1, h2⟩ := hk
    unfold Instr.findAsking
    rw [h1]
    by_cases hxy : x = y
    · subst hxy
      exact ⟨some (i, m.val), by simp [h], fun h => absurd (List.mem_cons_self ..) h, fun _ => ⟨0, m, rfl, rfl, rfl⟩⟩
    · obtain ⟨r, h3, h4, h5⟩ := findAsking_law h x w l es (i + 1) h2
      refine ⟨r, by simp [h, hxy, h3], fun hn => h4 fun hm => hn (List.mem_cons_of_mem _ hm), fun hm => ?_⟩
      obtain ⟨j, m', e1, e2, e3⟩ := h5 ((List.mem_cons.1 hm).resolve_left hxy)
      exact ⟨j + 1, m', by rw [e1]; congr 2; omega, by simpa using e2, by simpa using e3⟩
/-- Keys that are asked for by ==: structs. -/
theorem KeyL.asking {K : Type} [DecidableEq K] {P : Program} {T : TypeId} {d : TypeDesc} {enc : K → Value} (hT : P.underlying T = some d) (hn : ∀ x y, Instr.sameNow d (enc x) (enc y) = none) (h : ∀ x y w, (Op.equal T (enc x) (enc y)).run P w = .ok (decide (x = y)) w) (hc : ∀ x c w, (Instr.checkKey c 10000 T (enc x)).run P w = .ok () w) (hs : ∀ x, Instr.sameBits 10000 (enc x) (enc x) = true) : KeyL P T enc where
  check := hc
  find x l es w he := by
    cases l with
    | nil =>
      have : es = [] := by cases es <;> simp_all
      subst this
      exact ⟨none, by simp [Instr.findKey, run_underlying hT, Instr.findNow], fun _ => rfl, fun h => by simp at h⟩
    | cons y l =>
      obtain ⟨r, h1, h2, h3⟩ := findAsking_law h x w (y :: l) es 0 he
      cases es with
      | nil => simp at he
      | cons m es =>
        have hk : m.key = enc y := by simp at he; exact he.1
        refine ⟨r, by simp [Instr.findKey, run_underlying hT, Instr.findNow, hk, hn, h1], h2, fun hm => ?_⟩
        obtain ⟨j, m', e1, e2⟩ := h3 hm
        exact ⟨j, m', by rw [e1, Nat.zero_add], e2⟩
  stays x w := by simp [Instr.keyThatStays, hs]
section
variable {X : Ctx} {e : Env} {σ : Store} {H F : List Res} {o : Oper} {x y z : Operand} {C : Env → Store → List Res → Prop} {K V : Type} {enc : K → Value} {encV : V → Value}
theorem OpOk.makeMapB {T d : Nat} (ho : o.op = .makeMap T none) (hd : o.dst = some d) (hn : Nat.blt d X.n = true) (k : ∀ b, C (upd e d (.map (some b))) σ (Res.mapB enc encV (some b) FM.emp :: H)) : OpOk X o e σ H C := by
  intro u0 C0 τ0 w a hw ha K' Q hK
  refine Oper.wp_of_run (w' := w.alloc (.map #[] 0)) (v := .map (some w.heap.size)) ?_ (hK _ _ _ _ _ (k w.heap.size) (hw.gain1 (some _) rfl rfl rfl rfl (by simp) (Nat.le_refl _) (fun k hk => alloc_old w _ _ hk) ⟨fun h => (by cases h), fun k hk => by cases hk; exact ⟨[], 0, Rep.emp, ⟨#[], heap_alloc_new w _, rfl⟩, by simp, by simp, by simp, by simp⟩⟩ (fun b hb => by cases hb; exact Nat.le_refl _)) (put_dst ha hd hn _))
  simp [execOp, ho, Instr.makeMap]
theorem mapB_sees {b i : Nat} {m : FM K V} {w : World} (hi : H[i]? = some (Res.mapB enc encV (some b) m)) (hw : Sees σ H w) : ∃ zs clock, Rep (zs.map Prod.snd) m ∧ MapAt enc encV w b zs clock := (hw.2 _ (List.mem_of_getElem? hi)).2 b rfl
theorem mapB_nil {i : Nat} {m : FM K V} {w : World} (hi : H[i]? = some (Res.mapB enc encV none m)) (hw : Sees σ H w) : m = FM.emp := (hw.2 _ (List.mem_of_getElem? hi)).1 rfl
theorem MapAt.keys {b clock : Nat} {w : World} {zs : List (MapEntry × (K × V))} (h : MapAt enc encV w b zs clock) : (zs.map Prod.fst).map (·.key) = ((zs.map Prod.snd).map Prod.fst).map enc := by
  rw [List.map_map, List.map_map, List.map_map]
  exact List.map_congr_left fun z hz => h.key z hz
theorem look_run [DecidableEq K] {P : Program} {KT : Nat} {b : Nat} {m : FM K V} {w : World} {zs : List (MapEntry × (K × V))} {clock : Nat} (hR : Rep (zs.map Prod.snd) m) (hM : MapAt enc encV w b zs clock) (KL : KeyL P KT enc) (q : K) {es : Array MapEntry} (he : es.toList = zs.map Prod.fst) :
    (m.f q = none ∧ (Instr.findKey KT (enc q) es.toList).run P w = .ok none w) ∨ ∃ i z, m.f q = some z.2.2 ∧ zs[i]? = some z ∧ z.2.1 = q ∧ (Instr.findKey KT (enc q) es.toList).run P w = .ok (some (i, encV z.2.2)) w := by
  obtain ⟨r, k1, k2, k3⟩ := KL.find q ((zs.map Prod.snd).map Prod.fst) es.toList w (by rw [he]; exact hM.keys)
  by_cases hq : q ∈ (zs.map Prod.snd).map Prod.fst
  · obtain ⟨i, m', e1, e2, e3⟩ := k3 hq
    rw [e1] at k1
    rw [he, List.getElem?_map] at e2
    cases hz : zs[i]? with
    | none => rw [hz] at e2; simp at e2
    | some z =>
      rw [hz] at e2
      simp only [Option.map_some, Option.some.injEq] at e2
      rw [List.getElem?_map, List.getElem?_map, hz] at e3
      simp only [Option.map_some, Option.some.injEq] at e3
      have hzm := List.mem_of_getElem? hz
      refine .inr ⟨i, z, ?_, hz, e3, ?_⟩
      · rw [← e3, ← hR.mem]; exact List.mem_map.2 ⟨z, hzm, rfl⟩
      · rw [k1, ← e2, hM.val z hzm]
  · rw [k2 hq] at k1
    exact .inl ⟨hR.not.1 hq, k1⟩
theorem OpVal.lookB [DecidableEq K] {P : Program} {n T KT ET i : Nat} {b : Option Nat} {m : FM K V} {q : K} (d : V) (ho : o.op = .lookup T x y true) (ht : P.underlying T = some (.map KT ET)) (hz : zeroOf P ET = some (encV d)) (hx : ev e x = .map b) (hi : H[i]? = some (Res.mapB enc encV b m)) (hy : ev e y = enc q) (KL : KeyL P KT enc) :
    OpVal P n o e σ H (.tuple #[encV (m.get q d), .bool (m.has q)]) := fun w hw => by
  cases b with
  | none =>
    obtain rfl := mapB_nil hi hw
    obtain ⟨r, k1, k2, _⟩ := KL.find q [] [] w rfl
    rw [k2 (by simp)] at k1
    simp [execOp, ho, hx, hy, Instr.lookup, run_underlying ht, KL.check, k1, run_zeroValue hz, FM.get, FM.has, FM.emp]
  | some b =>
    obtain ⟨zs, clock, hR, hM⟩ := mapB_sees hi hw
    obtain ⟨es, h1, h2⟩ := hM.at_
    have hg : (getObj b).run P w = .ok (.map es clock) w := run_getObj_map' h1
    rcases look_run hR hM KL q h2 with ⟨h3, h4⟩ | ⟨j, z, h3, _, _, h4⟩
    · simp [execOp, ho, hx, hy, Instr.lookup, run_underlying ht, hg, KL.check, h4, run_zeroValue hz, FM.get, FM.has, h3]
    · simp [execOp, ho, hx, hy, Instr.lookup, run_underlying ht, hg, KL.check, h4, FM.get, FM.has, h3]
theorem OpVal.lenB {P : Program} {n T KT ET i : Nat} {b : Option Nat} {m : FM K V} (ho : o.op = .call { callee := .builtin .len, args := #[x], argTypes := #[T] }) (ht : P.underlying T = some (.map KT ET)) (hx : ev e x = .map b) (hi : H[i]? = some (Res.mapB enc encV b m)) :
    OpVal P n o e σ H (.int .i64 (m.n : Nat)) := fun w hw => by
  cases b with
  | none =>
    obtain rfl := mapB_nil hi hw
    simp [execOp, ho, resolve, invoke, builtin, hx, Builtin.len_, run_underlying ht, goInt, FM.emp]
  | some b =>
    obtain ⟨zs, clock, hR, hM⟩ := mapB_sees hi hw
    obtain ⟨es, h1, h2⟩ := hM.at_
    have hl : es.size = m.n := by have := congrArg List.length h2; have h3 := hR.len; simp at this h3; omega
    have hg : (getObj b).run P w = .ok (.map es clock) w := run_getObj_map' h1
    simp [execOp, ho, resolve, invoke, builtin, hx, Builtin.len_, run_underlying ht, hg, goInt, hl]
theorem OpOk.updB [DecidableEq K] {T KT ET : Nat} {b : Nat} {m : FM K V} (q : K) (v : V) (ho : o.op = .mapUpdate T x y z) (ht : X.P.underlying T = some (.map KT ET)) (hd : o.dst = none) (hx : ev e x = .map (some b)) (hy : ev e y = enc q) (hz : ev e z = encV v) (KL : KeyL X.P KT enc)
    (k : C e σ (Res.mapB enc encV (some b) (m.put q v) :: F)) : OpOk X o e σ (Res.mapB enc encV (some b) m :: F) C := by
  intro u0 C0 τ0 w a hw ha K' Q hK
  obtain ⟨zs, clock, hR, hM⟩ := (hw.holds _ (List.mem_cons_self ..)).2 b rfl
  obtain ⟨es, h1, h2⟩ := hM.at_
  have hg : (getObj b).run X.P w = .ok (.map es clock) w := run_getObj_map' h1
  have hblt : b < w.heap.size := (Array.getElem?_eq_some_iff.1 h1).1
  have key : ∀ es' clock' (zs' : List (MapEntry × (K × V))), es'.toList = zs'.map Prod.fst → Rep (zs'.map Prod.snd) (m.put q v) → (∀ z ∈ zs', z.1.key = enc z.2.1) → (∀ z ∈ zs', z.1.val = encV z.2.2) → (∀ z ∈ zs', z.1.born < clock') → (zs'.map (·.1.born)).Nodup →
      Reach u0 C0 τ0 σ { w with heap := w.heap.setIfInBounds b (.map es' clock') } (Res.mapB enc encV (some b) (m.put q v) :: F) := fun es' clock' zs' g1 g2 g3 g4 g5 g6 =>
    hw.turn1 (some _) (some _) rfl rfl rfl rfl rfl (by simp) (Nat.le_refl _) (fun k hk hne => by
      have : b ≠ k := fun hx => hne (by rw [hx])
      simp [Array.getElem?_setIfInBounds, this]) ⟨fun h => (by cases h), fun k hk => by cases hk; exact ⟨zs', clock', g2, ⟨es', by simp [Array.getElem?_setIfInBounds, hblt], g1⟩, g3, g4, g5, g6⟩⟩ (fun c hc => .inl (by cases hc; rfl))
  rcases look_run hR hM KL q h2 with ⟨h3, h4⟩ | ⟨j, u, h3, hj, hu, h4⟩
  · refine Oper.wp_of_skip (w' := { w with heap := w.heap.setIfInBounds b (.map (es.push { key := enc q, val := encV v, born := clock }) (clock + 1)) }) ?_ (hK _ _ _ _ _ k (key _ _ (zs ++ [({ key := enc q, val := encV v, born := clock }, (q, v))]) ?_ ?_ ?_ ?_ ?_ ?_) (put_dst0 ha hd _))
    · rw [ha.eval']
      simp [execOp, ho, hx, hy, hz, Instr.mapUpdate, run_underlying ht, hg, KL.check, h4, run_setObj_map' _ h1]
    · simp [h2]
    · rw [List.map_append]
      refine ⟨fun k' v' => ?_, ?_, ?_⟩
      · have := hR.mem k' v'
        simp only [FM.put, List.mem_append, this, List.map_cons, List.map_nil, List.mem_singleton, Prod.mk.injEq]
        by_cases hk : k' = q
        · subst hk; simp [h3]; exact eq_comm
        · simp [hk]
      · have := hR.len
        simp only [List.length_append, FM.put, h3, List.length_map, List.length_singleton] at this ⊢
        simp; omega
      · have := hR.not.2 h3
        rw [List.map_append, List.nodup_append]
        refine ⟨hR.nodup, by simp, fun a ha c hc => ?_⟩
        simp at hc; subst hc; intro e; subst e; exact this ha
    · intro z hz
      rcases List.mem_append.1 hz with hz | hz
      · exact hM.key z hz
      · simp at hz; subst hz; rfl
    · intro z hz
      rcases List.mem_append.1 hz with hz | hz
      · exact hM.val z hz
      · simp at hz; subst hz; rfl
    · intro z hz
      rcases List.mem_append.1 hz with hz | hz
      · have := hM.born z hz; omega
      · simp at hz; subst hz; simp
    · rw [List.map_append, List.nodup_append]
      refine ⟨hM.nodup, by simp, fun a ha c hc => ?_⟩
      simp at hc; subst hc
      obtain ⟨z, hz, rfl⟩ := List.mem_map.1 ha
      have := hM.born z hz
      omega
  · have hum := List.mem_of_getElem? hj
    have hes : es[j]? = some u.1 := by
      rw [← Array.getElem?_toList, h2, List.getElem?_map, hj]; rfl
    have hlt : j < es.size := (Array.getElem?_eq_some_iff.1 hes).1
    have huk : u.1.key = enc q := by rw [hM.key u hum, hu]
    have hfst : ∀ i z, (zs.modify j fun p => ({ p.1 with key := enc q, val := encV v }, (q, v)))[i]? = some z → ∃ p, zs[i]? = some p ∧ ((i = j ∧ z = ({ p.1 with key := enc q, val := encV v }, (q, v))) ∨ (i ≠ j ∧ z = p)) := by
      intro i z hz
      rw [List.getElem?_modify] at hz
      cases hp : zs[i]? with
      | none => rw [hp] at hz; simp at hz
      | some p =>
        rw [hp] at hz
        refine ⟨p, rfl, ?_⟩
        by_cases hij : j = i
        · subst hij; simp at hz; exact .inl ⟨rfl, hz.symm⟩
        · simp [hij] at hz; exact .inr ⟨fun h => hij h.symm, hz.symm⟩
    have hkeys : ((zs.modify j fun p => ({ p.1 with key := enc q, val := encV v }, (q, v))).map Prod.snd).map Prod.fst = (zs.map Prod.snd).map Prod.fst := by
      apply List.ext_getElem?
      intro i
      simp only [List.getElem?_map, List.getElem?_modify]
      by_cases hij : j = i
      · subst hij; simp [hj, hu]
      · simp [hij]
    refine Oper.wp_of_skip (w' := { w with heap := w.heap.setIfInBounds b (.map (es.modify j fun m => { m with key := enc q, val := encV v }) clock) }) ?_ (hK _ _ _ _ _ k (key _ _ (zs.modify j fun p => ({ p.1 with key := enc q, val := encV v }, (q, v))) ?_ ?_ ?_ ?_ ?_ ?_) (put_dst0 ha hd _))
    · rw [ha.eval']
      simp [execOp, ho, hx, hy, hz, Instr.mapUpdate, run_underlying ht, hg, KL.check, h4, run_setObj_map' _ h1, hes, huk, KL.stays]
    · apply List.ext_getElem?
      intro i
      rw [Array.getElem?_toList, Array.getElem?_modify, List.getElem?_map, List.getElem?_modify, ← Array.getElem?_toList, h2, List.getElem?_map]
      by_cases hij : j = i
      · subst hij; simp [hj]
      · simp [hij]
    · refine ⟨fun k' v' => ?_, ?_, by rw [hkeys]; exact hR.nodup⟩
      · simp only [FM.put]
        have hin : ∀ k' v', (k', v') ∈ (zs.modify j fun p => ({ p.1 with key := enc q, val := encV v }, (q, v))).map Prod.snd → (k' = q ∧ v' = v) ∨ (k' ≠ q ∧ (k', v') ∈ zs.map Prod.snd) := by
          intro k' v' hm
          obtain ⟨z, hz, hzk⟩ := List.mem_map.1 hm
          obtain ⟨i, hi⟩ := List.mem_iff_getElem?.1 hz
          obtain ⟨p, hp, ⟨_, rfl⟩ | ⟨hij, rfl⟩⟩ := hfst i z hi
          · simp at hzk; exact .inl ⟨hzk.1.symm, hzk.2.symm⟩
          · refine .inr ⟨fun hk => ?_, List.mem_map.2 ⟨z, List.mem_of_getElem? hp, hzk⟩⟩
            have h5 : ((zs.map Prod.snd).map Prod.fst)[i]? = some q := by simp [hp, hzk, hk]
            have h6 : ((zs.map Prod.snd).map Prod.fst)[j]? = some q := by simp [hj, hu]
            obtain ⟨hi5, e5⟩ := List.getElem?_eq_some_iff.1 h5
            obtain ⟨hi6, e6⟩ := List.getElem?_eq_some_iff.1 h6
            exact hij ((List.nodup_iff_pairwise_ne.1 hR.nodup |> List.pairwise_iff_getElem.1) |> fun hpw => by
              rcases Nat.lt_trichotomy i j with h | h | h
              · exact absurd (e5.trans e6.symm) (hpw i j hi5 hi6 h)
              · exact h
              · exact absurd (e6.trans e5.symm) (hpw j i hi6 hi5 h))
        have hout1 : (q, v) ∈ (zs.modify j fun p => ({ p.1 with key := enc q, val := encV v }, (q, v))).map Prod.snd :=
          List.mem_of_getElem? (i := j) (by simp [List.getElem?_modify, hj])
        by_cases hk : k' = q
        · subst hk
          simp only [if_true, Option.some.injEq]
          constructor
          · intro hm
            rcases hin _ _ hm with h | h
            · exact h.2.symm
            · exact absurd rfl h.1
          · rintro rfl; exact hout1
        · rw [if_neg hk, ← hR.mem]
          constructor
          · intro hm
            rcases hin _ _ hm with h | h
            · exact absurd h.1 hk
            · exact h.2
          · intro hm
            obtain ⟨z, hz, hzk⟩ := List.mem_map.1 hm
            obtain ⟨i, hi⟩ := List.mem_iff_getElem?.1 hz
            have hij : j ≠ i := by
              rintro rfl
              rw [hj] at hi
              cases hi
              rw [hzk] at hu
              exact hk hu
            exact List.mem_of_getElem? (i := i) (by simp [List.getElem?_modify, hij, hi, hzk])
      · have := hR.len
        simp only [FM.put, h3, Option.isSome_some, if_true, List.length_map, List.length_modify] at this ⊢
        exact this
    · intro z hz
      obtain ⟨i, hi⟩ := List.mem_iff_getElem?.1 hz
      obtain ⟨p, hp, ⟨_, rfl⟩ | ⟨_, rfl⟩⟩ := hfst i z hi
      · rfl
      · exact hM.key z (List.mem_of_getElem? hp)
    · intro z hz
      obtain ⟨i, hi⟩ := List.mem_iff_getElem?.1 hz
      obtain ⟨p, hp, ⟨_, rfl⟩ | ⟨_, rfl⟩⟩ := hfst i z hi
      · rfl
      · exact hM.val z (List.mem_of_getElem? hp)
    · intro z hz
      obtain ⟨i, hi⟩ := List.mem_iff_getElem?.1 hz
      obtain ⟨p, hp, ⟨_, rfl⟩ | ⟨_, rfl⟩⟩ := hfst i z hi
      · exact hM.born p (List.mem_of_getElem? hp)
      · exact hM.born z (List.mem_of_getElem? hp)
    · have : (zs.modify j fun p => ({ p.1 with key := enc q, val := encV v }, (q, v))).map (·.1.born) = zs.map (·.1.born) := by
        apply List.ext_getElem?
        intro i
        simp only [List.getElem?_map, List.getElem?_modify]
        by_cases hij : j = i
        · subst hij; simp [hj]
        · simp [hij]
      rw [this]; exact hM.nodup

/-! ### Ranges -/
end
end Go.E
end

/- Dec7 -/
section
/- Equality of structs, structs as keys, unsigned numbers. Plain lemmas over any program; no condition. -/
set_option linter.unusedVariables false
set_option linter.unusedSimpArgs false
namespace Go.E
open Go

/-! ### Structs compared -/
abbrev FT := Bool × TypeId × Nat
def fieldsB (P : Program) (T : TypeId) : List FT := (P.fieldsOf T).toList.map fun f => (f.name == "_", f.type, f.offset)
/-- Equality told type by type. -/
def EqAt (P : Program) (n : Nat) (T : TypeId) (u v : Value) (b : Bool) : Prop := ∀ d w, (Op.equalIn (d + n) T u v).run P w = .ok b w
inductive EqC (P : Program) (n : Nat) (xs ys : Array Value) : List FT → Bool → Prop
  | nil : EqC P n xs ys [] true
  | one {t o : Nat} {ts : List FT} {u v : Value} {b q : Bool} (hA : aggOf P t = some false) (hu : xs[o]? = some u) (hv : ys[o]? = some v) (he : EqAt P n t u v b) (k : EqC P n xs ys ts q) : EqC P n xs ys ((false, t, o) :: ts) (b && q)
  | agg {t o s : Nat} {ts : List FT} {us vs : Array Value} {b q : Bool} (hA : aggOf P t = some true) (hz : szOf P t = some s) (hu : xs.extract o (o + s) = us) (hv : ys.extract o (o + s) = vs) (he : EqAt P n t (.agg us) (.agg vs) b) (k : EqC P n xs ys ts q) : EqC P n xs ys ((false, t, o) :: ts) (b && q)
theorem EqAt.up {P : Program} {n m : Nat} {T : TypeId} {u v : Value} {b : Bool} (h : EqAt P n T u v b) (hm : n ≤ m) : EqAt P m T u v b := fun d w => by
  have := h (d + (m - n)) w
  rwa [show d + (m - n) + n = d + m by omega] at this
theorem EqC.run {P : Program} {n : Nat} {xs ys : Array Value} {ts : List FT} {q : Bool} (h : EqC P n xs ys ts q) : ∀ (fs : List Field), (fs.map fun f => (f.name == "_", f.type, f.offset)) = ts → ∀ d w, (Op.eqFields (d + n) xs ys fs).run P w = .ok q w := by
  induction h with
  | nil => intro fs hf d w; have : fs = [] := by simpa using hf
           subst this; simp [Op.eqFields]
  | @one t o ts u v b q hA hu hv he k ih =>
    intro fs hf d w
    cases fs with
    | nil => simp at hf
    | cons f fs =>
      simp only [List.map_cons, List.cons.injEq, Prod.mk.injEq] at hf
      obtain ⟨⟨h1, h2, h3⟩, h4⟩ := hf
      have h1 : f.name ≠ "_" := by simpa using h1
      simp only [Op.eqFields, h1, h2, h3, ne_eq, not_false_eq_true, if_true, Sem.run_bind, run_part_one hA hu, run_part_one hA hv, Result.andThen_ok, he d w]
      cases b
      · simp
      · simp [ih fs h4 d w]
  | @agg t o s ts us vs b q hA hz hu hv he k ih =>
    intro fs hf d w
    cases fs with
    | nil => simp at hf
    | cons f fs =>
      simp only [List.map_cons, List.cons.injEq, Prod.mk.injEq] at hf
      obtain ⟨⟨h1, h2, h3⟩, h4⟩ := hf
      have h1 : f.name ≠ "_" := by simpa using h1
      simp only [Op.eqFields, h1, h2, h3, ne_eq, not_false_eq_true, if_true, Sem.run_bind, run_part_agg hA hz, hu, hv, Result.andThen_ok, he d w]
      cases b
      · simp
      · simp [ih fs h4 d w]
theorem EqAt.struct {P : Program} {n : Nat} {T : TypeId} {xs ys : Array Value} {ts : List FT} {q : Bool} (hu : P.underlying T = some (.struct (P.fieldsOf T))) (hp : P.stoodInHeld T = false) (hf : fieldsB P T = ts) (h : EqC P n xs ys ts q) : EqAt P (n + 1) T (.agg xs) (.agg ys) q := fun d w => by
  rw [← Nat.add_assoc, run_equalIn_struct w (d + n) T xs ys hu hp]
  exact h.run _ hf d w
theorem EqAt.of {P : Program} {n : Nat} {T : TypeId} {u v : Value} {b b' : Bool} (h : EqAt P n T u v b) (e : b = b') : EqAt P n T u v b' := e ▸ h
theorem EqAt.int {P : Program} {T : TypeId} {k : IntKind} (hT : P.underlying T = some (.int k)) (a b : Int) : EqAt P 1 T (.int k a) (.int k b) (decide (a = b)) := fun d w => by
  rw [run_equalIn_int w d T k k a b hT]; rfl
theorem EqAt.bool {P : Program} {T : TypeId} (hT : P.underlying T = some .bool) (a b : Bool) : EqAt P 1 T (.bool a) (.bool b) (decide (a = b)) := fun d w => by
  rw [run_equalIn_bool w d T a b hT]; cases a <;> cases b <;> rfl
theorem EqAt.str {P : Program} {T : TypeId} (hT : P.underlying T = some .string) (a b : List UInt8) : EqAt P 1 T (.string (bs a)) (.string (bs b)) (decide (a = b)) := fun d w => by
  rw [run_equalIn_string w d T (bs a) (bs b) hT, bs_beq]
theorem EqAt.set {P : Program} {T E : TypeId} (hT : P.underlying T = some (.array 4 E)) (hE : P.underlying E = some (.int .u64)) (hA : aggOf P E = some false) (hz : szOf P E = some 1) (a b : BSet) : EqAt P 2 T (.agg (setA a)) (.agg (setA b)) (decide (a = b)) := fun d w => by
  have h := run_eqArr4 (P := P) (k := .u64) d hT hE hA hz (a.a : Nat) (a.b : Nat) (a.c : Nat) (a.d : Nat) (b.a : Nat) (b.b : Nat) (b.c : Nat) (b.d : Nat) w
  rw [show decide (a = b) = decide (((a.a : Nat) : Int) = (b.a : Nat) ∧ ((a.b : Nat) : Int) = (b.b : Nat) ∧ ((a.c : Nat) : Int) = (b.c : Nat) ∧ ((a.d : Nat) : Int) = (b.d : Nat)) from by rw [decide_eq_decide]; exact BSet.eq_iff a b]
  exact h
section
variable {P : Program} {n m : Nat} {e : Env} {σ : Store} {H : List Res} {o : Oper} {x y : Operand} {T T' : TypeId} {xs ys : Array Value} {p : Prop} [Decidable p]
theorem OpVal.eqlSt (ho : o.op = .binOp .eql T x y T') (hx : ev e x = .agg xs) (hy : ev e y = .agg ys) (hg : P.eqGuardType P.depth T = false) (h : EqAt P m T (.agg xs) (.agg ys) (decide p)) (hm : Nat.ble m 10000 = true) : OpVal P n o e σ H (.bool (decide p)) := fun w _ => by
  have hm := Nat.le_of_ble_eq_true hm
  have h1 := h (10000 - m) w
  rw [Nat.sub_add_cancel hm] at h1
  simp only [execOp, ho, hx, hy, Sem.run_bind, run_eqGuard_agg _ _ _ _ _ _ _ hg, Result.andThen_ok]
  rw [run_eql_agg' (by simp) h1 rfl]; rfl
theorem OpVal.neqSt (ho : o.op = .binOp .neq T x y T') (hx : ev e x = .agg xs) (hy : ev e y = .agg ys) (hg : P.eqGuardType P.depth T = false) (h : EqAt P m T (.agg xs) (.agg ys) (decide p)) (hm : Nat.ble m 10000 = true) : OpVal P n o e σ H (.bool (decide (¬ p))) := fun w _ => by
  have hm := Nat.le_of_ble_eq_true hm
  have h1 := h (10000 - m) w
  rw [Nat.sub_add_cancel hm] at h1
  simp only [execOp, ho, hx, hy, Sem.run_bind, run_eqGuard_agg _ _ _ _ _ _ _ hg, Result.andThen_ok, decide_not]
  rw [run_neq_agg' (by simp) h1 rfl]; rfl
end
/-! ### Structs as keys -/
def CkAt (P : Program) (n : Nat) (T : TypeId) (v : Value) : Prop := ∀ d c w, (Instr.checkKey c (d + n) T v).run P w = .ok () w
inductive CkC (P : Program) (n : Nat) (xs : Array Value) : List FT → Prop
  | nil : CkC P n xs []
  | one {t o : Nat} {ts : List FT} {u : Value} (hA : aggOf P t = some false) (hu : xs[o]? = some u) (he : CkAt P n t u) (k : CkC P n xs ts) : CkC P n xs ((false, t, o) :: ts)
  | agg {t o s : Nat} {ts : List FT} {us : Array Value} (hA : aggOf P t = some true) (hz : szOf P t = some s) (hu : xs.extract o (o + s) = us) (he : CkAt P n t (.agg us)) (k : CkC P n xs ts) : CkC P n xs ((false, t, o) :: ts)
theorem CkAt.up {P : Program} {n m : Nat} {T : TypeId} {u : Value} (h : CkAt P n T u) (hm : n ≤ m) : CkAt P m T u := fun d c w => by
  have := h (d + (m - n)) c w
  rwa [show d + (m - n) + n = d + m by omega] at this
theorem CkAt.int {P : Program} {T : TypeId} {k : IntKind} (hT : P.underlying T = some (.int k)) (a : Int) : CkAt P 1 T (.int k a) := fun d c w => by simp [Instr.checkKey, run_underlying hT]
theorem CkAt.str {P : Program} {T : TypeId} (hT : P.underlying T = some .string) (a : ByteArray) : CkAt P 1 T (.string a) := fun d c w => by simp [Instr.checkKey, run_underlying hT]
theorem run_forIn_unit {P : Program} {α : Type} {w : World} (f : α → PUnit → Sem (ForInStep PUnit)) : ∀ (l : List α), (∀ a ∈ l, (f a PUnit.unit).run P w = .ok (.yield PUnit.unit) w) → (forIn l PUnit.unit f).run P w = .ok PUnit.unit w
  | [], _ => by simp
  | a :: l, h => by
    rw [List.forIn_cons, Sem.run_bind, h a (List.mem_cons_self ..), Result.andThen_ok]
    exact run_forIn_unit f l fun b hb => h b (List.mem_cons_of_mem _ hb)
theorem CkAt.set {P : Program} {T E : TypeId} (hT : P.underlying T = some (.array 4 E)) (hE : P.underlying E = some (.int .u64)) (hA : aggOf P E = some false) (hz : szOf P E = some 1) (s : BSet) : CkAt P 2 T (.agg (setA s)) := fun d c w => by
  have h0 : ∀ a, (Instr.checkKey c (d + 1) E (.int .u64 a)).run P w = .ok () w := fun a => CkAt.int hE a d c w
  rw [Instr.checkKey]
  simp only [Sem.run_bind, run_underlying hT, Result.andThen_ok, Std.Legacy.Range.forIn_eq_forIn_range', Std.Legacy.Range.size, Nat.sub_zero, Nat.add_sub_cancel, Nat.div_one]
  rw [run_forIn_unit]
  · rfl
  intro i hi
  have hi4 : i < 4 := by
    have := List.mem_range'.1 hi
    omega
  have hp : (part E (setA s) i).run P w = .ok (.int .u64 (s.word i : Nat)) w := run_part_one hA (setA_get s hi4) w
  simp only [Sem.run_bind, run_sizeOf hz, Result.andThen_ok, Nat.mul_one, hp, h0, Sem.run_pure]
theorem CkC.all {P : Program} {n : Nat} {xs : Array Value} {ts : List FT} (h : CkC P n xs ts) : ∀ (fs : List Field), (fs.map fun f => (f.name == "_", f.type, f.offset)) = ts → ∀ f ∈ fs, f.name ≠ "_" ∧ ∃ v, (∀ w, (part f.type xs f.offset).run P w = .ok v w) ∧ CkAt P n f.type v := by
  induction h with
  | nil => intro fs hf; have : fs = [] := by simpa using hf
           subst this; simp
  | @one t o ts u hA hu he k ih =>
    intro fs hf
    cases fs with
    | nil => simp
    | cons f fs =>
      simp only [List.map_cons, List.cons.injEq, Prod.mk.injEq] at hf
      obtain ⟨⟨h1, h2, h3⟩, h4⟩ := hf
      intro g hg
      rcases List.mem_cons.1 hg with rfl | hg
      · exact ⟨by simpa using h1, u, fun w => by rw [h2, h3]; exact run_part_one hA hu w, by rw [h2]; exact he⟩
      · exact ih fs h4 g hg
  | @agg t o s ts us hA hz hu he k ih =>
    intro fs hf
    cases fs with
    | nil => simp
    | cons f fs =>
      simp only [List.map_cons, List.cons.injEq, Prod.mk.injEq] at hf
      obtain ⟨⟨h1, h2, h3⟩, h4⟩ := hf
      intro g hg
      rcases List.mem_cons.1 hg with rfl | hg
      · exact ⟨by simpa using h1, _, fun w => by rw [h2, h3, run_part_agg hA hz, hu], by rw [h2]; exact he⟩
      · exact ih fs h4 g hg
theorem CkAt.struct {P : Program} {n : Nat} {T : TypeId} {xs : Array Value} {ts : List FT} (hu : P.underlying T = some (.struct (P.fieldsOf T))) (hf : fieldsB P T = ts) (h : CkC P n xs ts) : CkAt P (n + 1) T (.agg xs) := fun d c w => by
  have := h.all _ hf
  rw [← Nat.add_assoc, Instr.checkKey]
  simp only [Sem.run_bind, run_underlying hu, Result.andThen_ok]
  rw [← Array.forIn_toList, run_forIn_unit]
  · rfl
  intro f hf
  obtain ⟨h1, v, h2, h3⟩ := this f hf
  simp only [h1, ne_eq, not_false_eq_true, if_true, Sem.run_bind, h2, Result.andThen_ok, h3 d c w, Sem.run_pure]
def Bits (v : Value) : Prop := ∀ n, Instr.sameBits n v v = true
theorem sameBits_agg {cs : Array Value} (h : ∀ u ∈ cs.toList, Bits u) (n : Nat) : Instr.sameBits (n + 1) (.agg cs) (.agg cs) = true := by
  rw [Instr.sameBits]
  simp only [beq_self_eq_true, Bool.true_and, List.all_eq_true]
  rintro ⟨a, b⟩ hab
  have h1 := List.of_mem_zip hab
  have h2 : a = b := by
    obtain ⟨i, hi⟩ := List.mem_iff_getElem?.1 hab
    rw [List.getElem?_zip_eq_some] at hi
    exact Option.some.inj (hi.1.symm.trans hi.2)
  subst h2
  exact h a h1.1 n
theorem Bits.int (k : IntKind) (a : Int) : Bits (.int k a) := fun n => by cases n <;> (rw [Instr.sameBits]; simp)
theorem Bits.str (a : ByteArray) : Bits (.string a) := fun n => by cases n <;> (rw [Instr.sameBits]; exact (MapKept.bytes_beq a a).2 rfl)
theorem KeyL.struct {K : Type} [DecidableEq K] {P : Program} {T : TypeId} {enc : K → List Value} {m k : Nat} {fs : Array Field} (hT : P.underlying T = some (.struct fs)) (h : ∀ x y, EqAt P m T (.agg (enc x).toArray) (.agg (enc y).toArray) (decide (x = y))) (hm : Nat.ble m 10000 = true) (hc : ∀ x, CkAt P k T (.agg (enc x).toArray)) (hk : Nat.ble k 10000 = true)
    (hb : ∀ x, ∀ u ∈ enc x, Bits u) : KeyL P T (fun x => .agg (enc x).toArray) :=
  KeyL.asking hT (fun x y => rfl) (fun x y w => by
    have := h x y (10000 - m) w
    rw [Nat.sub_add_cancel (Nat.le_of_ble_eq_true hm)] at this
    simpa [Op.equal, Op.maxDepth] using this) (fun x c w => by
    have := hc x (10000 - k) c w
    rwa [Nat.sub_add_cancel (Nat.le_of_ble_eq_true hk)] at this) (fun x => sameBits_agg (by simpa using hb x) 9999)
/-! ### Unsigned numbers of 64 bits -/
def u64add (a b : Nat) : Nat := (a + b) % 18446744073709551616
def u64and (a b : Nat) : Nat := (BitVec.ofNat 64 a &&& BitVec.ofNat 64 b).toNat
def u64shl (a b : Nat) : Nat := a * 2 ^ (min b 64) % 18446744073709551616
def u64shr (a b : Nat) : Nat := a / 2 ^ (min b 64)
theorem wrap_u64 (a : Int) : IntKind.u64.wrap a = a % 18446744073709551616 := by simp [IntKind.wrap, IntKind.bits, IntKind.signed]
theorem bv_of (a : Nat) : BitVec.ofInt IntKind.u64.bits (a : Int) = BitVec.ofNat 64 a := by simp [IntKind.bits, BitVec.ofInt_natCast]
theorem wrap_bv (b : BitVec 64) : IntKind.u64.wrap (b.toNat : Int) = (b.toNat : Int) := by rw [wrap_u64]; have := b.isLt; omega
section
variable {P : Program} {n : Nat} {e : Env} {σ : Store} {H : List Res} {o : Oper} {x y : Operand} {T T' : TypeId} {a b : Nat}
theorem OpVal.addU (ho : o.op = .binOp .add T x y T') (hx : ev e x = .int .u64 (a : Nat)) (hy : ev e y = .int .u64 (b : Nat)) : OpVal P n o e σ H (.int .u64 ((u64add a b : Nat) : Int)) := by
  have := OpVal.addW (P := P) (n := n) (σ := σ) (H := H) ho hx hy
  rw [wrap_u64] at this
  rw [show ((u64add a b : Nat) : Int) = ((a : Int) + (b : Int)) % 18446744073709551616 from by unfold u64add; omega]; exact this
theorem OpVal.andU (ho : o.op = .binOp .and T x y T') (hx : ev e x = .int .u64 (a : Nat)) (hy : ev e y = .int .u64 (b : Nat)) : OpVal P n o e σ H (.int .u64 ((u64and a b : Nat) : Int)) := .bin ho hx hy fun w => by
  simp only [binOp, ne_eq, not_true_eq_false, if_false, Op.intBits, bv_of]
  exact congrArg (fun z => Result.ok (Value.int .u64 z) w) (wrap_bv (BitVec.ofNat 64 a &&& BitVec.ofNat 64 b))
theorem OpVal.shlU {k : IntKind} (ho : o.op = .binOp .shl T x y T') (hx : ev e x = .int .u64 (a : Nat)) (hy : ev e y = .int k (b : Nat)) : OpVal P n o e σ H (.int .u64 ((u64shl a b : Nat) : Int)) := fun w _ => by
  have h0 : ¬ (b : Int) < 0 := by omega
  simp only [execOp, ho, hx, hy, Sem.run_bind, run_eqGuard_int, Result.andThen_ok, binOp, Op.shift, h0, if_false, Int.toNat_natCast, wrap_u64, u64shl, IntKind.bits]
  rw [show (a : Int) * 2 ^ min b 64 % 18446744073709551616 = ((a * 2 ^ min b 64 % 18446744073709551616 : Nat) : Int) from by rw [Int.natCast_emod, Int.natCast_mul, Int.natCast_pow]; rfl]; rfl
theorem OpVal.shrU {k : IntKind} (ho : o.op = .binOp .shr T x y T') (hx : ev e x = .int .u64 (a : Nat)) (hy : ev e y = .int k (b : Nat)) : OpVal P n o e σ H (.int .u64 ((u64shr a b : Nat) : Int)) := fun w _ => by
  have h0 : ¬ (b : Int) < 0 := by omega
  have h2 : (a : Int).fdiv (2 ^ min b 64) = ((a / 2 ^ min b 64 : Nat) : Int) := by
    rw [Int.fdiv_eq_ediv_of_nonneg _ (by exact_mod_cast Nat.zero_le _)]; exact_mod_cast rfl
  simp only [execOp, ho, hx, hy, Sem.run_bind, run_eqGuard_int, Result.andThen_ok, binOp, Op.shift, h0, if_false, Int.toNat_natCast, u64shr, IntKind.bits, h2]; rfl
theorem OpVal.neqU {k : IntKind} (ho : o.op = .binOp .neq T x y T') (hx : ev e x = .int k (a : Nat)) (hy : ev e y = .int k (b : Nat)) : OpVal P n o e σ H (.bool (decide (a ≠ b))) := by
  have := OpVal.neq (P := P) (n := n) (σ := σ) (H := H) ho hx hy
  rwa [show decide ((a : Int) ≠ (b : Int)) = decide (a ≠ b) from by rw [decide_eq_decide]; omega] at this
theorem OpVal.lssU {k : IntKind} (ho : o.op = .binOp .lss T x y T') (hx : ev e x = .int k (a : Nat)) (hy : ev e y = .int k (b : Nat)) : OpVal P n o e σ H (.bool (decide (a < b))) := by
  have := OpVal.lss (P := P) (n := n) (σ := σ) (H := H) ho hx hy
  rwa [show decide ((a : Int) < (b : Int)) = decide (a < b) from by rw [decide_eq_decide]; omega] at this
theorem OpVal.gtrU {k : IntKind} (ho : o.op = .binOp .gtr T x y T') (hx : ev e x = .int k (a : Nat)) (hy : ev e y = .int k (b : Nat)) : OpVal P n o e σ H (.bool (decide (b < a))) := by
  have := OpVal.gtr (P := P) (n := n) (σ := σ) (H := H) ho hx hy
  rwa [show decide ((b : Int) < (a : Int)) = decide (b < a) from by rw [decide_eq_decide]; omega] at this
end
end Go.E
end

/- Dec8 -/
section
/- More words: rounds in any order, copies, bytes made a text, parts of rows. Plain lemmas over any program; no condition. -/
set_option linter.unusedVariables false
set_option linter.unusedSimpArgs false
namespace Go.E
open Go
def unitV (_ : Unit) : Value := .agg #[]
def encW (x : Nat) : List Value := [.int .u64 (x : Nat)]
theorem encW_len (x : Nat) : (encW x).length = 1 := rfl
theorem encW_one : ∀ x, ∀ u ∈ encW x, u.oneCell' = true := fun x u hu => by simp [encW] at hu; subst hu; rfl
/-! ### Cells of a slice, whoever owns it -/
def Rdb (w : World) (v : Value) (xs : List Value) : Prop := ∀ a m c, v = .slice (some a) m c → ∀ j u, xs[j]? = some u → w.cell? (a.add j) = some u
theorem rdb_RS {α : Type} {σ : Store} {H : List Res} {size : Nat} {enc : α → List Value} {v : Value} {l : List α} {w : World} (h : RS σ size enc v l) (hw : Sees σ H w) : Rdb w v (l.flatMap enc) := fun a m c hv j u hj => hw.cell (h.rv.cell a m c hv j u hj)
theorem rdb_row {α : Type} {σ : Store} {H : List Res} {E size q : Nat} {enc : α → List Value} {v : Value} {l : List α} {w : World} (hq : H[q]? = some (Res.rowS E size enc v l)) (hw : Sees σ H w) : Rdb w v (l.flatMap enc) := by
  intro a m c hv j u hj
  have hown := (hw.2 _ (List.mem_of_getElem? hq)).1
  subst hv
  obtain ⟨h1, h2⟩ := hown
  rcases h2 with ⟨h2, _⟩ | ⟨g, cap, cur, h2, _, hg, h3, h4, h5, h6⟩
  · cases h2
  · cases h2
    rw [loc_add]
    have hj2 := (List.getElem?_eq_some_iff.1 hj).1
    rw [← h6, List.getElem?_take] at hj
    split at hj
    · simp only [World.cell?, hg, Option.isSome_none, Bool.false_eq_true, if_false, Nat.zero_add]
      rw [← Array.getElem?_toList]; exact hj
    · cases hj
theorem OpVal.bytesStr {P : Program} {n : Nat} {e : Env} {σ : Store} {H : List Res} {o : Oper} {x : Operand} {S T E m c : Nat} {a : Option Addr} {l : List UInt8} (ho : o.op = .convert S T x) (hs : P.underlying S = some (.slice E)) (he : P.underlying E = some (.int .u8)) (ht : P.underlying T = some .string)
    (hx : ev e x = .slice a m c) (hl : IsSl (.slice a m c) l.length) (hr : ∀ w, Sees σ H w → Rdb w (.slice a m c) (l.flatMap encU8)) : OpVal P n o e σ H (.string (bs l)) := fun w hw => by
  obtain ⟨a', c', hv, hn, hc⟩ := hl
  cases hv
  cases a with
  | none =>
    obtain ⟨h1, _⟩ := hn rfl
    have hl0 : l = [] := List.eq_nil_of_length_eq_zero h1
    subst hl0
    have := run_convert_bytes_nil (P := P) w S E hs he 0 c T ht
    simp only [execOp, ho, hx]
    simp only [List.length_nil, Sem.run_bind, this, Result.andThen_ok, Sem.run_pure]
    rfl
  | some ad =>
    have hcell := hr w hw ad _ c rfl
    have h1 : (loadCells ad l.length).run P w = .ok ((l.map fun b => (b.toNat : Int)).map (Value.int .u8)).toArray w := by
      have := run_loadCells_list (P := P) w ad ((l.map fun b => (b.toNat : Int)).map (Value.int .u8)) (fun j v hj => hcell j v (by rw [encU8_map]; simpa using hj))
      simpa using this
    have h2 := run_convert_bytes_string (P := P) w S T E (some ad) l.length c hs he ht
    have h3 := run_bytesToString (P := P) w ad l.length c (l.map fun b => (b.toNat : Int)) h1
    have h4 : (⟨(ByteArray.empty.data ++ (((l.map fun b => (b.toNat : Int)).map fun n => UInt8.ofNat n.toNat)).toArray)⟩ : ByteArray) = bs l := by
      simp [bs, ByteArray.empty, ByteArray.emptyWithCapacity, Function.comp_def]
      rfl
    rw [foldl_push_bytes, h4] at h3
    simp only [execOp, ho, hx, Sem.run_bind, h2, h3, Result.andThen_ok, Sem.run_pure]
/-! ### Strings compared by the library -/
theorem OpVal.cmpStr {P : Program} {n : Nat} {e : Env} {σ : Store} {H : List Res} {o : Oper} {x p q : Operand} {ts : Array TypeId} {J : FuncId} {fn : Func} {a b : List UInt8} (ho : o.op = .call { callee := .value x, args := #[p, q], argTypes := ts }) (hx : ev e x = .func (.func J) #[] #[]) (hf : P.funcs[J]? = some fn) (hname : (fn.name == "runtime.NumGoroutine") = false)
    (hb : fn.body.isNone = true) (hn : Extern.findNext fn = none) (he : Extern.find fn = some Extern.BytealgCompare.compare) (hp : ev e p = .string (bs a)) (hq : ev e q = .string (bs b)) : OpVal P n o e σ H (.int .i64 (Lib.compareBytes a b)) := fun w _ => by
  have h := run_callFunc_extern hf hname hb hn he #[.string (bs a), .string (bs b)] w
  rw [Lib.run_compareString] at h
  simp [execOp, ho, resolve, Deferred.ofValue, invoke, hx, hp, hq, h, Result.andThen, bs_list]

/-! ### A part of a row of one's own, looked at through a slice of its own -/
structure VwOk (v u : Value) (size k n : Nat) : Prop where
  sl : IsSl u n
  el : ∀ j, j < n → elem u (j * size) = elem v ((k + j) * size)
theorem vw_of {a : Option Addr} {m c size k : Nat} (h : IsSl (.slice a m c) m) (hk : k ≤ m) : ∃ (a' : Option Addr) (c' : Nat), VwOk (.slice a m c) (.slice a' (m - k) c') size k (m - k) ∧
    ∀ {P : Program} {n : Nat} {e : Env} {σ : Store} {H : List Res} {o : Oper} {x z : Operand} {T E : TypeId} {kk : IntKind} (_ : o.op = .slice T x (some z) none none) (_ : P.underlying T = some (.slice E)) (_ : szOf P E = some size) (_ : ev e x = .slice a m c) (_ : ev e z = .int kk (k : Nat)), OpVal P n o e σ H (.slice a' (m - k) c') := by
  obtain ⟨a1, c1, hv, hn, hc⟩ := h
  cases hv
  refine ⟨if c = k then a else a.map (·.add (k * size)), c - k, ⟨⟨_, _, rfl, fun ha => ?_, by omega⟩, fun j hj => ?_⟩, ?_⟩
  · split at ha
    · obtain ⟨h1, h2⟩ := hn ha; omega
    · cases a with
      | none => obtain ⟨h1, h2⟩ := hn rfl; omega
      | some ad => simp at ha
  · have hck : ¬ c = k := by omega
    rw [if_neg hck]
    cases a with
    | none => obtain ⟨h1, h2⟩ := hn rfl; omega
    | some ad => simp only [elem, Option.map_some]; rw [add_add, Nat.add_mul]
  · intro P n e σ H o x z T E kk ho hT hs hx hz w _
    have hsz := run_sizeOf (P := P) hs
    have hrun : (Instr.slice T (.slice a m c) (some (.int kk k)) none none).run P w = .ok (.slice (if c = k then a else a.map (·.add (k * size))) (m - k) (c - k)) w := by
      simp [Instr.slice, Instr.sliceBounds, Instr.sliceBound, asIntOf, run_underlying hT, hsz]
      intro hlt; omega
    simp [execOp, ho, hx, hz, Instr.sliceAt, run_underlying hT, hrun]
theorem OpVal.elVw {P : Program} {n : Nat} {e : Env} {σ : Store} {H : List Res} {o : Oper} {v u : Value} {size k m j : Nat} (hv : VwOk v u size k m) (hj : j < m) (h : OpVal P n o e σ H (elem u (j * size))) : OpVal P n o e σ H (elem v ((k + j) * size)) := hv.el j hj ▸ h
theorem zeroCells_flat {α : Type} {enc : α → List Value} {size : Nat} {z : Value} (x0 : α) (hz : z.cells.toList = enc x0) (hl : ∀ x, (enc x).length = size) (m : Nat) (h0 : 0 < size) : (Builtin.zeroCells z.cells m).toList = (List.replicate m x0).flatMap enc := by
  have := madeCells_flat z x0 hz m (by rw [hl]; exact h0)
  rw [hl] at this
  rw [← this]
  have hzs : z.cells.size = size := by rw [← Array.length_toList, hz, hl]
  simp [Builtin.zeroCells, madeCells, hzs]
theorem splice_end {α : Type} {enc : α → List Value} {size : Nat} (hl : ∀ x, (enc x).length = size) (l : List α) (k : Nat) (x0 : α) (hk : k ≤ l.length) :
    splice (l.flatMap enc) (k * size) ((List.replicate (l.length - k) x0).flatMap enc) = (l.take k ++ List.replicate (l.length - k) x0).flatMap enc := by
  rw [List.flatMap_append, splice, take_flat hl]
  have h1 : ((List.replicate (l.length - k) x0).flatMap enc).length = (l.length - k) * size := by rw [flatMap_len hl, List.length_replicate]
  rw [h1]
  have h2 : (l.flatMap enc).length = l.length * size := flatMap_len hl l
  rw [List.drop_of_length_le (by rw [h2, ← Nat.add_mul]; exact Nat.mul_le_mul_right _ (by omega)), List.append_nil]
/-- clear of the end of a row of one's own. -/
theorem OpOk.clearV {X : Ctx} {e : Env} {σ : Store} {F : List Res} {o : Oper} {x : Operand} {K : Env → Store → List Res → Prop} {α : Type} {T E size k m' : Nat} {enc : α → List Value} {zv v u : Value} {l : List α} (x0 : α) (ho : o.op = .call { callee := .builtin .clear, args := #[x], argTypes := #[T] }) (ht : X.P.underlying T = some (.slice E)) (hz : zeroOf X.P E = some zv)
    (hd : o.dst = none) (hx : ev e x = u) (hv : VwOk v u size k m') (hm : l.length - k = m') (hk : k ≤ l.length) (hl : ∀ x, (enc x).length = size) (h0 : 0 < size) (hz0 : zv.cells.toList = enc x0) (h1 : ∀ x, ∀ u ∈ enc x, u.oneCell' = true)
    (kk : K e σ (Res.rowS E size enc v (l.take k ++ List.replicate (l.length - k) x0) :: F)) : OpOk X o e σ (Res.rowS E size enc v l :: F) K := by
  subst hm
  intro u0 C0 τ0 w a hw ha K' Q hK
  obtain ⟨hown, hone, hbg⟩ := hw.holds _ (List.mem_cons_self ..)
  have hlen : (l.take k ++ List.replicate (l.length - k) x0).length = l.length := by simp; omega
  obtain ⟨a', c', rfl, hn, hc⟩ := hv.sl
  by_cases hkl : k = l.length
  · subst hkl
    have e1 : l.take l.length ++ List.replicate (l.length - l.length) x0 = l := by simp
    rw [e1] at kk
    have hrun : (Builtin.clear_ #[T] o.type #[.slice a' (l.length - l.length) c']).run X.P w = .ok (.tuple #[]) w := by
      rw [Nat.sub_self]
      cases a' <;> simp [Builtin.clear_, run_underlying ht]
    refine Oper.wp_of_run (v := .tuple #[]) (w' := w) ?_ (hK _ _ _ _ _ kk hw (by rw [hd]; exact ⟨ha, rfl⟩))
    rw [ha.eval']
    rw [Nat.sub_self] at hrun
    simp [execOp, ho, resolve, invoke, builtin, hx, hrun]
  · have hj : 0 < l.length - k := by omega
    have hel := hv.el 0 hj
    cases a' with
    | none => obtain ⟨h2, _⟩ := hn rfl; omega
    | some ad =>
      rcases id hown.2 with ⟨hvn, hmn⟩ | ⟨g, cap, cur, rfl, _⟩
      · omega
      · simp only [elem, Nat.zero_mul, Nat.add_zero] at hel
        have had : ad = ⟨g, k * size, none⟩ := by
          have h3 : (ad.add 0) = (⟨g, 0, none⟩ : Addr).add (k * size) := by injection hel with h; injection h
          rw [loc_add] at h3
          simpa [Addr.add] using h3
        subst had
        have hzl := zeroCells_flat (size := size) x0 hz0 hl (l.length - k) h0
        obtain ⟨w', hst, hown', hgr, hdr⟩ := World.ownsRow.spliced X.P hown (k := k * size) (vs := (List.replicate (l.length - k) x0).flatMap enc) (by rw [flatMap_len hl, flatMap_len hl, List.length_replicate, ← Nat.add_mul]; exact Nat.mul_le_mul_right _ (by omega)) (fun u hu => by
          obtain ⟨q, _, hq⟩ := List.mem_flatMap.1 hu
          exact h1 q u hq)
        rw [splice_end hl l k x0 hk] at hown'
        have hrun : (Builtin.clear_ #[T] o.type #[.slice (some ⟨g, k * size, none⟩) (l.length - k) c']).run X.P w = .ok (.tuple #[]) w' := by
          have hne : l.length - k ≠ 0 := by omega
          simp only [Builtin.clear_]
          simp [run_underlying ht, run_zeroValue hz, hzl, hst]
        have hR : Reach u0 C0 τ0 σ w' (Res.rowS E size enc (.slice (some ⟨g, 0, none⟩) l.length cap) (l.take k ++ List.replicate (l.length - k) x0) :: F) := by
          refine hw.turn1 (some g) (some g) rfl rfl hgr.os hgr.tape hgr.output hgr.size hdr (fun q hq hne => hgr.block q hq (fun hx => hne (by cases hx; rfl))) ?_ (fun q hq => .inl hq)
          show _ ∧ _ ∧ _
          rw [hlen]
          refine ⟨hown', fun u hu => ?_, hbg⟩
          obtain ⟨q, _, hq⟩ := List.mem_flatMap.1 hu
          exact h1 q u hq
        refine Oper.wp_of_run (v := .tuple #[]) (w' := w') ?_ (hK _ _ _ _ _ kk hR (by rw [hd]; exact ⟨ha, rfl⟩))
        rw [ha.eval']
        simp [execOp, ho, resolve, invoke, builtin, hx, hrun]
/-! ### A part of an array variable, lent -/
theorem RS.ofCells {α : Type} {τ : Store} {b k m E : Nat} {cs : Array Value} {enc : α → List Value} {l : List α} (h : τ b = some (.cells cs E (0, 0))) (hl : ∀ x, (enc x).length = 1) (h1 : ∀ x, ∀ u ∈ enc x, u.oneCell' = true) (hk : (cs.toList.drop k).take m = l.flatMap enc) (hm : l.length = m) (hb : Nat.ble l.length 281474976710656 = true) : RS τ 1 enc (.slice (some ⟨b, k, none⟩) m m) l := by
  subst hm
  refine ⟨⟨⟨_, _, rfl, (fun h => by cases h), Nat.le_refl _⟩, flatMap_len hl l, ?_, fun u hu => ?_, Nat.le_of_ble_eq_true hb⟩, hl⟩
  · intro a m c hv j u hj
    cases hv
    rw [loc_add]
    unfold Store.cell
    simp only [h, Option.isSome_none, Bool.false_eq_true, if_false]
    rw [← hk, List.getElem?_take] at hj
    split at hj
    · rw [List.getElem?_drop, Array.getElem?_toList] at hj; exact hj
    · cases hj
  · obtain ⟨q, _, hq⟩ := List.mem_flatMap.1 hu
    exact h1 q u hq
theorem Con.lendC {P : Program} {f : FuncId} {args : Array Value} {σ : Store} {F : List Res} {r : Value} {b E : Nat} {cs : Array Value}
    (h : ∀ τ, σ.le τ → τ b = some (.cells cs E (0, 0)) → Con P f args τ F (KeepP r τ F)) : Con P f args σ (Res.cells b cs E :: F) (KeepP r σ (Res.cells b cs E :: F)) := by
  intro w hw
  have ho : w.heap[b]? = some (.cells cs E (0, 0)) := hw.holds _ (List.mem_cons_self ..)
  obtain ⟨h1, h2⟩ := hw.sealB (b := b) rfl ho
  have h3 : σ.with b (.cells cs E (0, 0)) b = some (.cells cs E (0, 0)) := by simp [Store.with]
  generalize σ.with b (.cells cs E (0, 0)) = τ at h1 h2 h3
  have h0 : Reach w (blks F) τ τ w F := ⟨rfl, rfl, rfl, Nat.le_refl _, fun _ _ _ => rfl, Store.le.refl _, h1.fit, fun b o hb => .inl hb, h1.holds, fun r hr b hb => .inl (mem_blks.2 ⟨r, hr, hb⟩), h1.nodup, h1.apart, Nat.le_refl _⟩
  refine (h τ h2 h3 w h0).mono fun ex w' ⟨r', σ', H', he, ⟨e1, e2, e3⟩, k⟩ => ?_
  subst e1 e2 e3
  refine ⟨r', σ, _, he, ⟨rfl, rfl, rfl⟩, ?_⟩
  have hb : b < w.heap.size ∧ b ∉ blks H' := by
    refine ⟨(Array.getElem?_eq_some_iff.1 ho).1, fun hx => ?_⟩
    have hnd := hw.nodup
    simp only [blks, List.flatMap_cons] at hnd
    exact (nodup_app.1 hnd).2.2 b (by simp [Res.cells]) hx
  have hframe : ∀ i, i < w.heap.size → i ∉ blks H' → w'.heap[i]? = w.heap[i]? := k.frame
  refine ⟨k.os, k.tape, k.output, k.size, ?_, Store.le.refl _, fun b o hs => k.fit b o (h2 b o hs), fun b o hs => .inl hs, ?_, ?_, ?_, ?_, k.drawn⟩
  · intro i hi hn
    refine hframe i hi fun hx => hn ?_
    obtain ⟨r2, hr2, hb2⟩ := mem_blks.1 hx
    exact mem_blks.2 ⟨r2, List.mem_cons_of_mem _ hr2, hb2⟩
  · intro r2 hr2
    rcases List.mem_cons.1 hr2 with rfl | hr2
    · exact (Res.cells b cs E).keep w w' (fun c hc => by rw [List.mem_singleton.1 hc]; exact hframe b hb.1 hb.2) ho
    · exact k.holds r2 hr2
  · intro r2 hr2 b hb2
    exact .inl (mem_blks.2 ⟨r2, hr2, hb2⟩)
  · exact hw.nodup
  · intro r2 hr2 b hb2
    exact hw.apart r2 hr2 b hb2
theorem OpVal.sliceArr {P : Program} {n : Nat} {e : Env} {σ : Store} {H : List Res} {o : Oper} {x : Operand} {T E m b k s : Nat} (ho : o.op = .slice T x none none none) (ht : P.underlying T = some (.array m E)) (hs : szOf P E = some s) (hx : ev e x = loc b k) : OpVal P n o e σ H (.slice (some ⟨b, k, none⟩) m m) := fun w _ => by
  have hsz := run_sizeOf (P := P) hs
  simp [execOp, ho, hx, loc, Instr.sliceAt, Instr.sureAddr, run_underlying ht, Instr.slice, Instr.sliceBounds, Instr.sliceBound, hsz, Addr.add]
theorem mem_pick {H B : List Res} (is : List Nat) (h : is.map (fun i => H[i]?) = B.map some) {r : Res} (hr : r ∈ B) : r ∈ H := by
  have h1 : some r ∈ B.map some := List.mem_map.2 ⟨r, hr, rfl⟩
  rw [← h] at h1
  obtain ⟨i, _, hi⟩ := List.mem_map.1 h1
  exact List.mem_of_getElem? hi
end Go.E
end

/- Data2 -/
section
/- More plain data, and how they lie in cells. No program, no condition. -/
set_option linter.unusedVariables false
set_option linter.unusedSimpArgs false
namespace Go.E
open Go

structure Tip where
  state : Int
  out : List UInt8
  deriving DecidableEq
def Tip.zero : Tip := ⟨0, []⟩
def encTip (x : Tip) : List Value := [.int .i64 x.state, .string (bs x.out)]
theorem encTip_len (x : Tip) : (encTip x).length = 2 := rfl
theorem encTip_one : ∀ x, ∀ u ∈ encTip x, u.oneCell' = true := fun x u hu => by
  simp [encTip] at hu
  rcases hu with rfl | rfl <;> rfl
structure Arc where
  frm : Int
  to : Int
  set : BSet
  out : List UInt8
  copy : Bool
  deriving DecidableEq
def Arc.zero : Arc := ⟨0, 0, BSet.zero, [], false⟩
def encArc (x : Arc) : List Value := [.int .i64 x.frm, .int .i64 x.to, .int .u64 ((x.set.a : Nat) : Int), .int .u64 ((x.set.b : Nat) : Int), .int .u64 ((x.set.c : Nat) : Int), .int .u64 ((x.set.d : Nat) : Int), .string (bs x.out), .bool x.copy]
theorem encArc_len (x : Arc) : (encArc x).length = 8 := rfl
theorem encArc_one : ∀ x, ∀ u ∈ encArc x, u.oneCell' = true := fun x u hu => by
  simp [encArc] at hu
  rcases hu with rfl | rfl | rfl | rfl | rfl | rfl | rfl | rfl <;> rfl
structure FPair where
  state : Int
  out : List UInt8
  deriving DecidableEq
def FPair.zero : FPair := ⟨0, []⟩
structure Span where
  frm : Int
  to : Int
  deriving DecidableEq
def Span.zero : Span := ⟨0, 0⟩
/-- A transducer. -/
structure Fst where
  states : Int
  starts : List Tip
  ends : List Tip
  arcs : List Arc
  deriving DecidableEq
def Fst.zero : Fst := ⟨0, [], [], []⟩
end Go.E
end

/- F1 -/
section
/- Decompiled: what a transducer relates. -/
set_option linter.unusedVariables false
set_option linter.unusedSimpArgs false
namespace Go.Proofs.YtcfjjckencjjeaaGreat
open Go Go.E Go.E.OpVal Go.E.OpOk Go.Proofs.Tryz
set_option maxRecDepth 100000
private theorem ag22 : Go.E.aggOf Tryz.prog 22 = some false := by kernel_rfl
private theorem ag23 : Go.E.aggOf Tryz.prog 23 = some false := by kernel_rfl
private theorem ag3 : Go.E.aggOf Tryz.prog 3 = some false := by kernel_rfl
private theorem ag38 : Go.E.aggOf Tryz.prog 38 = some true := by kernel_rfl
private theorem ag43 : Go.E.aggOf Tryz.prog 43 = some true := by kernel_rfl
private theorem ag9 : Go.E.aggOf Tryz.prog 9 = some false := by kernel_rfl
private theorem eg36 : Tryz.prog.eqGuardType Tryz.prog.depth 36 = false := by kernel_rfl
private theorem fo25_0 : Go.E.foOf Tryz.prog 25 0 = some 0 := by kernel_rfl
private theorem fo25_1 : Go.E.foOf Tryz.prog 25 1 = some 1 := by kernel_rfl
private theorem fo25_2 : Go.E.foOf Tryz.prog 25 2 = some 2 := by kernel_rfl
private theorem fo25_3 : Go.E.foOf Tryz.prog 25 3 = some 3 := by kernel_rfl
private theorem fo38_0 : Go.E.foOf Tryz.prog 38 0 = some 0 := by kernel_rfl
private theorem fo38_1 : Go.E.foOf Tryz.prog 38 1 = some 1 := by kernel_rfl
private theorem fo38_2 : Go.E.foOf Tryz.prog 38 2 = some 2 := by kernel_rfl
private theorem fo38_3 : Go.E.foOf Tryz.prog 38 3 = some 6 := by kernel_rfl
private theorem fo43_0 : Go.E.foOf Tryz.prog 43 0 = some 0 := by kernel_rfl
private theorem fo43_1 : Go.E.foOf Tryz.prog 43 1 = some 1 := by kernel_rfl
private theorem pf40 : Go.E.plainF Tryz.prog 40 = true := by kernel_rfl
private theorem pf51 : Go.E.plainF Tryz.prog 51 = true := by kernel_rfl
private theorem pf52 : Go.E.plainF Tryz.prog 52 = true := by kernel_rfl
private theorem sz38 : Go.E.szOf Tryz.prog 38 = some 8 := by kernel_rfl
private theorem sz43 : Go.E.szOf Tryz.prog 43 = some 2 := by kernel_rfl
private theorem ze38 : Go.E.zeroOf Tryz.prog 38 = some (.agg #[.int .i64 0, .int .i64 0, .int .u64 0, .int .u64 0, .int .u64 0, .int .u64 0, .string ByteArray.empty, .bool false]) := by kernel_rfl
private theorem ze43 : Go.E.zeroOf Tryz.prog 43 = some (.agg #[.int .i64 0, .string ByteArray.empty]) := by kernel_rfl

noncomputable def fst_state (x0 : Int) (x1 : Int) : Option (Bool) :=
 iteO (decide (0 ≤ x0)) (some (decide (x0 < x1))) (some false)
theorem fst_state_con {σ : Store} {x0 : Int} {x1 : Int}  {r : Bool} (hh : fst_state x0 x1 = some r) :
  Con Tryz.prog 52 #[.int .i64 x0, .int .i64 x1] σ [] (PureP (.bool r) σ) := by
 dsimp only [fst_state] at hh
 refine Con.mk (n := 12) Tryz.func52 z z z (fun w0 => ?_)
 refine TC.a (TL.j z z (TL.en (TC.a (TL.i z z (TL.w z (OpVal.leq z z z) (TL.j z z (TL.split 7 z (fun h101 => ?_) (fun h101 => ?_))))))))
 ·replace hh := iteO_t h101 hh
  replace h101 := of_decide_eq_true h101
  refine TL.g z (moveI (.inl z) z) (TL.g z (moveI (.inl z) z) (TL.g z (OpVal.lss z z z) (TL.w z (pickTB z z z) (TL.j z z (TL.en (TC.ret ?_))))))
  obtain rfl := so hh
  exact rq [4] ⟨z, z, z⟩
 ·replace hh := iteO_f h101 hh
  replace h101 := of_decide_eq_false h101
  refine TL.f z (TL.f z (TL.f z (TL.w z (pickFB z z z) (TL.j z z (TL.en (TC.ret ?_))))))
  obtain rfl := so hh
  exact rq [4] ⟨z, z, z⟩

noncomputable def fst_rightTips_b1 (x0 : List Tip) (x1 : Int) (k104 : Nat) : Option ((Nat) ⊕ (Bool)) :=
 iteO (decide (((k104 : Nat) : Int) < ((x0.length : Nat) : Int))) (bnd (fst_state ((nth x0 k104 Tip.zero).state) x1) (fun v17 => iteO (!v17) (fin (some false)) (iteO (decide (1024 < ((((nth x0 k104 Tip.zero).out).length : Nat) : Int))) (fin (some false)) (nxt (k104 + 1))))) (fin (some true))
noncomputable def fst_rightTips (x0 : List Tip) (x1 : Int) : Option (Bool) :=
 iteO (decide (1024 < ((x0.length : Nat) : Int))) (some false) (iter (fun q : Nat => fst_rightTips_b1 x0 x1 q) 0)
theorem fst_rightTips_con {σ : Store} {x0 : List Tip} {a0_0 : Option Addr} {c0_0 : Nat} {x1 : Int} (f0_0 : RS σ 2 encTip (.slice a0_0 x0.length c0_0) x0) {r : Bool} (hh : fst_rightTips x0 x1 = some r) :
  Con Tryz.prog 51 #[.slice a0_0 x0.length c0_0, .int .i64 x1] σ [] (PureP (.bool r) σ) := by
 dsimp only [fst_rightTips] at hh
 have f0_0b := f0_0.rv.big
 refine Con.mk (n := 28) Tryz.func51 z z z (fun w0 => ?_)
 refine TC.a (TL.j z z (TL.en (TC.seq (TC.a (TL.s z z (TL.w z (lenC z underlying22 z) (TL.w z (OpVal.gtr z z z) (TL.en (TC.cD z hh (fun h101 hh => ?_) (fun h101 hh => ?_))))))))))
 ·refine TC.a (TL.j z z (TL.en (TC.ret (S.r ?_))))
  obtain rfl := so hh
  exact rq [4] ⟨z, z, z⟩
 ·refine TC.skip (S.n (TC.seq (TC.a (TL.s z z (TL.w z (lenC z underlying22 z) (TL.i z z (TL.en (TC.block (TC.loopG (α := (Nat) × (Unit)) (rgs [(4, 1), (6, 1), (12, 16)]) (fun g => [(12, .int .i64 ((g.1 : Nat) : Int))]) (fun g => []) (fun g => σ) (fun g => iter (fun q : Nat => fst_rightTips_b1 x0 x1 q) g.1 = some r) (fun g => rounds (fun q : Nat => fst_rightTips_b1 x0 x1 q) g.1) (0, ()) (Sub.pre 0 z) z (by repeat (first | exact trivial | refine ⟨z, ?_⟩)) hh (fun g1 j1 hg1 => ?_))))))))))
  obtain ⟨k104, _⟩ := g1
  have hh := hg1; clear hg1
  try dsimp only
  obtain ⟨z1, hh, hR1⟩ := iter_e hh
  dsimp only [fst_rightTips_b1] at hh
  refine TC.a (TL.w z (OpVal.lss z z z) (TL.en (TC.seq (TC.cD z hh (fun h105 hh => ?_) (fun h105 hh => ?_)))))
  ·refine TC.skip (S.n (TC.seq (TC.block (TC.a (TL.w z (indexN z underlying22 sz43 z z f0_0.rv.sl (by omega)) (TL.w z (loadSA Tip.zero z ag43 sz43 z f0_0 (by omega) (by omega)) (TL.op z (OpOk.alloc z ze43 z z (fun b106 => ?_)))))))))
   refine TL.op z (storeAll z sz43 z z z z z z ?_)
   refine TL.en (TC.a (TL.w z (fieldLoc z fo43_0 z) (TL.w z (loadLoc z ag3 z (i := 0) z z) (TL.i z z ?_))))
   obtain ⟨v17, u17, hh⟩ := bnd_e hh
   refine TL.op z (callP (fst_state_con u17) z z pf52 z z z ?_)
   refine TL.w z (OpVal.not z z) (TL.j z z (TL.split 21 z (fun h108 => ?_) (fun h108 => ?_)))
   ·replace hh := iteO_t h108 hh
    refine TL.f z (TL.f z (TL.f z (TL.f z (TL.w z (pickTB z z z) (TL.en (TC.t z (TC.a (TL.j z z (TL.en (TC.rt 0 (B.r (S.r (S.r ?_)))))))))))))
    replace hh := fin_x hR1 hh
    refine B.r (S.r ?_)
    obtain rfl := so hh
    exact rq [4] ⟨z, z, z⟩
   ·replace hh := iteO_f h108 hh
    refine TL.g z (fieldLoc z fo43_1 z) (TL.g z (loadLoc z ag9 z (i := 0) z z) (TL.g z (lenBs z underlying9 z) (TL.g z (OpVal.gtr z z z) (TL.w z (pickFB z z z) (TL.en (TC.cD z hh (fun h109 hh => ?_) (fun h109 hh => ?_)))))))
    ·refine TC.a (TL.j z z (TL.en (TC.rt 0 (B.r (S.r (S.r ?_))))))
     replace hh := fin_x hR1 hh
     refine B.r (S.r ?_)
     obtain rfl := so hh
     exact rq [4] ⟨z, z, z⟩
    ·refine TC.skip (B.n (S.n (TC.region (TL.w z (OpVal.succ z z z (by omega)) (TL.i z z (TL.en ?_))))))
     obtain ⟨hh, hlt110⟩ := nxt_x hR1 hh
     exact lf ((k104 + 1), ()) hlt110 hh (Sub.pre 0 z)
  ·refine TC.exit (S.x (S.x ?_))
   replace hh := fin_x hR1 hh
   refine TC.exitHere (S.n (TC.a (TL.j z z (TL.en (TC.ret ?_)))))
   obtain rfl := so hh
   exact rq [4] ⟨z, z, z⟩

noncomputable def fst_Check_b1 (x0 : Fst) (k110 : Nat) : Option ((Nat) ⊕ (Int)) :=
 iteO (decide (((k110 : Nat) : Int) < ((x0.arcs.length : Nat) : Int))) (bnd (fst_state ((nth x0.arcs k110 Arc.zero).frm) x0.states) (fun v46 => iteO (!v46) (fin (some 1)) (bnd (fst_state ((nth x0.arcs k110 Arc.zero).to) x0.states) (fun v53 => iteO (!v53) (fin (some 1)) (iteO (decide ((nth x0.arcs k110 Arc.zero).set = BSet.zero)) (fin (some 1)) (iteO (decide (1024 < ((((nth x0.arcs k110 Arc.zero).out).length : Nat) : Int))) (fin (some 1)) (nxt (k110 + 1)))))))) (fin (some 0))
noncomputable def fst_Check (x0 : Fst) : Option (Int) :=
 iteO (decide (x0.states < 0)) (some 1) (iteO (decide (1024 < x0.states)) (some 1) (iteO (decide (16384 < ((x0.arcs.length : Nat) : Int))) (some 1) (bnd (fst_rightTips x0.starts x0.states) (fun v22 => iteO (!v22) (some 1) (bnd (fst_rightTips x0.ends x0.states) (fun v29 => iteO (!v29) (some 1) (iter (fun q : Nat => fst_Check_b1 x0 q) 0)))))))
theorem fst_Check_con {σ : Store} {x0 : Fst} {a0_0 : Option Addr} {c0_0 : Nat} {a0_1 : Option Addr} {c0_1 : Nat} {a0_2 : Option Addr} {c0_2 : Nat} (f0_0 : RS σ 2 encTip (.slice a0_0 x0.starts.length c0_0) x0.starts) (f0_1 : RS σ 2 encTip (.slice a0_1 x0.ends.length c0_1) x0.ends) (f0_2 : RS σ 8 encArc (.slice a0_2 x0.arcs.length c0_2) x0.arcs) {r : Int} (hh : fst_Check x0 = some r) :
  Con Tryz.prog 37 #[.agg #[.int .i64 x0.states, .slice a0_0 x0.starts.length c0_0, .slice a0_1 x0.ends.length c0_1, .slice a0_2 x0.arcs.length c0_2]] σ [] (PureP (.int .i64 r) σ) := by
 dsimp only [fst_Check] at hh
 have f0_0b := f0_0.rv.big
 have f0_1b := f0_1.rv.big
 have f0_2b := f0_2.rv.big
 refine Con.mk (n := 67) Tryz.func37 z z z (fun w0 => ?_)
 refine TC.a (TL.op z (boxA z z z z (fun b101 => ?_)))
 refine TL.i z z (TL.en (TC.seq (TC.a (TL.w z (fieldLoc z fo25_0 z) (TL.w z (loadLoc z ag3 z (i := 0) z z) (TL.w z (OpVal.lss z z z) (TL.j z z (TL.split 8 z (fun h103 => ?_) (fun h103 => ?_)))))))))
 ·replace hh := iteO_t h103 hh
  replace h103 := of_decide_eq_true h103
  refine TL.f z (TL.f z (TL.f z (TL.w z (pickTB z z z) (TL.j z z (TL.f z (TL.f z (TL.f z (TL.f z (TL.w z (pickTB z z z) (TL.en (TC.t z (TC.a (TL.i z z (TL.en (TC.rt 0 ?_)))))))))))))))
  refine S.r ?_
  obtain rfl := so hh
  exact rq [2] ⟨z, z, z⟩
 ·replace hh := iteO_f h103 hh
  replace h103 := of_decide_eq_false h103
  refine TL.g z (fieldLoc z fo25_0 z) (TL.g z (loadLoc z ag3 z (i := 0) z z) (TL.g z (OpVal.gtr z z z) (TL.w z (pickFB z z z) (TL.j z z (TL.split 13 z (fun h104 => ?_) (fun h104 => ?_))))))
  ·replace hh := iteO_t h104 hh
   replace h104 := of_decide_eq_true h104
   refine TL.f z (TL.f z (TL.f z (TL.f z (TL.w z (pickTB z z z) (TL.en (TC.t z (TC.a (TL.i z z (TL.en (TC.rt 0 (S.r ?_)))))))))))
   obtain rfl := so hh
   exact rq [2] ⟨z, z, z⟩
  ·replace hh := iteO_f h104 hh
   replace h104 := of_decide_eq_false h104
   refine TL.g z (fieldLoc z fo25_3 z) (TL.g z (loadLoc z ag23 z (i := 0) z z) (TL.g z (lenC z underlying23 z) (TL.g z (OpVal.gtr z z z) (TL.w z (pickFB z z z) (TL.en (TC.cD z hh (fun h105 hh => ?_) (fun h105 hh => ?_)))))))
   ·refine TC.a (TL.i z z (TL.en (TC.rt 0 (S.r ?_))))
    obtain rfl := so hh
    exact rq [2] ⟨z, z, z⟩
   ·refine TC.skip (S.n (TC.seq (TC.a (TL.w z (fieldLoc z fo25_1 z) (TL.w z (loadLoc z ag22 z (i := 0) z z) (TL.w z (fieldLoc z fo25_0 z) (TL.w z (loadLoc z ag3 z (i := 0) z z) ?_)))))))
    obtain ⟨v22, u22, hh⟩ := bnd_e hh
    refine TL.op z (callP (fst_rightTips_con f0_0 u22) z z pf51 z z z ?_)
    refine TL.w z (OpVal.not z z) (TL.j z z (TL.split 25 z (fun h106 => ?_) (fun h106 => ?_)))
    ·replace hh := iteO_t h106 hh
     refine TL.f z (TL.f z (TL.f z (TL.f z (TL.f z (TL.f z (TL.w z (pickTB z z z) (TL.en (TC.t z (TC.a (TL.i z z (TL.en (TC.rt 0 (S.r ?_)))))))))))))
     obtain rfl := so hh
     exact rq [2] ⟨z, z, z⟩
    ·replace hh := iteO_f h106 hh
     refine TL.g z (fieldLoc z fo25_2 z) (TL.g z (loadLoc z ag22 z (i := 0) z z) (TL.g z (fieldLoc z fo25_0 z) (TL.g z (loadLoc z ag3 z (i := 0) z z) ?_)))
     obtain ⟨v29, u29, hh⟩ := bnd_e hh
     refine TL.gon z z z z z (callP (fst_rightTips_con f0_1 u29) z z pf51 z z z ?_)
     refine TL.g z (OpVal.not z z) (TL.w z (pickFB z z z) (TL.en (TC.cB z hh (fun h107 hh => ?_) (fun h107 hh => ?_))))
     ·refine TC.a (TL.i z z (TL.en (TC.rt 0 (S.r ?_))))
      obtain rfl := so hh
      exact rq [2] ⟨z, z, z⟩
     ·refine TC.skip (S.n (TC.seq (TC.a (TL.w z (fieldLoc z fo25_3 z) (TL.w z (loadLoc z ag23 z (i := 0) z z) (TL.w z (lenC z underlying23 z) (TL.i z z (TL.en (TC.block (TC.loopG (α := (Nat) × (Unit)) (rgs [(2, 1), (4, 1), (36, 31)]) (fun g => [(36, .int .i64 ((g.1 : Nat) : Int))]) (fun g => [Res.cells b101 #[.int .i64 x0.states, .slice a0_0 x0.starts.length c0_0, .slice a0_1 x0.ends.length c0_1, .slice a0_2 x0.arcs.length c0_2] 25]) (fun g => σ) (fun g => iter (fun q : Nat => fst_Check_b1 x0 q) g.1 = some r) (fun g => rounds (fun q : Nat => fst_Check_b1 x0 q) g.1) (0, ()) (Sub.pre 1 z) z (by repeat (first | exact trivial | refine ⟨z, ?_⟩)) hh (fun g1 j1 hg1 => ?_)))))))))))
      obtain ⟨k110, _⟩ := g1
      have hh := hg1; clear hg1
      try dsimp only
      obtain ⟨z1, hh, hR1⟩ := iter_e hh
      dsimp only [fst_Check_b1] at hh
      refine TC.a (TL.w z (OpVal.lss z z z) (TL.en (TC.seq (TC.cD z hh (fun h111 hh => ?_) (fun h111 hh => ?_)))))
      ·refine TC.skip (S.n (TC.seq (TC.block (TC.a (TL.w z (indexN z underlying23 sz38 z z f0_2.rv.sl (by omega)) (TL.w z (loadSA Arc.zero z ag38 sz38 z f0_2 (by omega) (by omega)) (TL.op z (OpOk.alloc z ze38 z z (fun b112 => ?_)))))))))
       refine TL.op z (storeAll z sz38 z z z z z z ?_)
       refine TL.en (TC.a (TL.w z (fieldLoc z fo38_0 z) (TL.w z (loadLoc z ag3 z (i := 0) z z) (TL.w z (fieldLoc z fo25_0 z) (TL.w z (loadLoc z ag3 z (i := 1) z z) ?_)))))
       obtain ⟨v46, u46, hh⟩ := bnd_e hh
       refine TL.op z (callP (fst_state_con u46) z z pf52 z z z ?_)
       refine TL.w z (OpVal.not z z) (TL.j z z (TL.split 46 z (fun h114 => ?_) (fun h114 => ?_)))
       ·replace hh := iteO_t h114 hh
        refine TL.f z (TL.f z (TL.f z (TL.f z (TL.f z (TL.f z (TL.w z (pickTB z z z) (TL.j z z (TL.f z (TL.f z (TL.f z (TL.f z (TL.w z (pickTB z z z) (TL.j z z (TL.f z (TL.f z ?_)))))))))))))))
        refine TL.f z (TL.f z (TL.w z (pickTB z z z) (TL.en (TC.t z (TC.a (TL.i z z (TL.en (TC.rt 0 (B.r (S.r (S.r ?_)))))))))))
        replace hh := fin_x hR1 hh
        refine B.r (S.r ?_)
        obtain rfl := so hh
        exact rq [2] ⟨z, z, z⟩
       ·replace hh := iteO_f h114 hh
        refine TL.g z (fieldLoc z fo38_1 z) (TL.g z (loadLoc z ag3 z (i := 0) z z) (TL.g z (fieldLoc z fo25_0 z) (TL.g z (loadLoc z ag3 z (i := 1) z z) ?_)))
        obtain ⟨v53, u53, hh⟩ := bnd_e hh
        refine TL.gon z z z z z (callP (fst_state_con u53) z z pf52 z z z ?_)
        refine TL.g z (OpVal.not z z) (TL.w z (pickFB z z z) (TL.j z z (TL.split 54 z (fun h115 => ?_) (fun h115 => ?_))))
        ·replace hh := iteO_t h115 hh
         refine TL.f z (TL.f z (TL.f z (TL.f z (TL.w z (pickTB z z z) (TL.j z z (TL.f z (TL.f z (TL.f z (TL.f z (TL.w z (pickTB z z z) (TL.en (TC.t z (TC.a (TL.i z z (TL.en ?_)))))))))))))))
         refine TC.rt 0 (B.r (S.r (S.r ?_)))
         replace hh := fin_x hR1 hh
         refine B.r (S.r ?_)
         obtain rfl := so hh
         exact rq [2] ⟨z, z, z⟩
        ·replace hh := iteO_f h115 hh
         refine TL.g z (fieldLoc z fo38_2 z) (TL.g z (loadLocA z ag36 sz36 z (i := 0) z z z) (TL.g z (buildArrL z underlying36 sz34 ze36 z) (TL.g z (eqlSet (s := (nth x0.arcs k110 Arc.zero).set) (t := BSet.zero) z underlying36 underlying34 ag34 sz34 eg36 z z) (TL.w z (pickFB z z z) (TL.j z z (TL.split 60 z (fun h116 => ?_) (fun h116 => ?_)))))))
         ·replace hh := iteO_t h116 hh
          replace h116 := of_decide_eq_true h116
          refine TL.f z (TL.f z (TL.f z (TL.f z (TL.w z (pickTB z z z) (TL.en (TC.t z (TC.a (TL.i z z (TL.en (TC.rt 0 (B.r (S.r (S.r ?_)))))))))))))
          replace hh := fin_x hR1 hh
          refine B.r (S.r ?_)
          obtain rfl := so hh
          exact rq [2] ⟨z, z, z⟩
         ·replace hh := iteO_f h116 hh
          replace h116 := of_decide_eq_false h116
          refine TL.g z (fieldLoc z fo38_3 z) (TL.g z (loadLoc z ag9 z (i := 0) z z) (TL.g z (lenBs z underlying9 z) (TL.g z (OpVal.gtr z z z) (TL.w z (pickFB z z z) (TL.en (TC.cD z hh (fun h117 hh => ?_) (fun h117 hh => ?_)))))))
          ·refine TC.a (TL.i z z (TL.en (TC.rt 0 (B.r (S.r (S.r ?_))))))
           replace hh := fin_x hR1 hh
           refine B.r (S.r ?_)
           obtain rfl := so hh
           exact rq [2] ⟨z, z, z⟩
          ·refine TC.skip (B.n (S.n (TC.region (TL.w z (OpVal.succ z z z (by omega)) (TL.i z z (TL.en ?_))))))
           obtain ⟨hh, hlt118⟩ := nxt_x hR1 hh
           exact lf ((k110 + 1), ()) hlt118 hh (Sub.f [1] 1)
      ·refine TC.exit (S.x (S.x ?_))
       replace hh := fin_x hR1 hh
       refine TC.exitHere (S.n (TC.a (TL.i z z (TL.en (TC.rt 0 ?_)))))
       obtain rfl := so hh
       exact rq [2] ⟨z, z, z⟩

noncomputable def whittleref15_tips_b1 (x0 : List Tip) (x1 : Int) (k103 : Nat) : Option ((Nat) ⊕ (Bool)) :=
 iteO (decide (((k103 : Nat) : Int) < ((x0.length : Nat) : Int))) (iteO (decide (((nth x0 k103 Tip.zero).state) < 0)) (fin (some false)) (iteO (decide (x1 ≤ ((nth x0 k103 Tip.zero).state))) (fin (some false)) (iteO (decide (1024 < ((((nth x0 k103 Tip.zero).out).length : Nat) : Int))) (fin (some false)) (nxt (k103 + 1))))) (fin (some (decide (((x0.length : Nat) : Int) ≤ 1024))))
noncomputable def whittleref15_tips (x0 : List Tip) (x1 : Int) : Option (Bool) :=
 iter (fun q : Nat => whittleref15_tips_b1 x0 x1 q) 0
theorem whittleref15_tips_con {σ : Store} {x0 : List Tip} {a0_0 : Option Addr} {c0_0 : Nat} {x1 : Int} (f0_0 : RS σ 2 encTip (.slice a0_0 x0.length c0_0) x0) {r : Bool} (hh : whittleref15_tips x0 x1 = some r) :
  Con Tryz.prog 40 #[.slice a0_0 x0.length c0_0, .int .i64 x1] σ [] (PureP (.bool r) σ) := by
 dsimp only [whittleref15_tips] at hh
 have f0_0b := f0_0.rv.big
 refine Con.mk (n := 39) Tryz.func40 z z z (fun w0 => ?_)
 refine TC.a (TL.j z z (TL.en (TC.seq (TC.a (TL.i z z (TL.en (TC.block (TC.loopG (α := (Nat) × (Unit)) (rgs [(4, 32)]) (fun g => [(5, .int .i64 ((g.1 : Nat) : Int))]) (fun g => []) (fun g => σ) (fun g => iter (fun q : Nat => whittleref15_tips_b1 x0 x1 q) g.1 = some r) (fun g => rounds (fun q : Nat => whittleref15_tips_b1 x0 x1 q) g.1) (0, ()) (Sub.pre 0 z) z (by repeat (first | exact trivial | refine ⟨z, ?_⟩)) hh (fun g1 j1 hg1 => ?_)))))))))
 obtain ⟨k103, _⟩ := g1
 have hh := hg1; clear hg1
 try dsimp only
 obtain ⟨z1, hh, hR1⟩ := iter_e hh
 dsimp only [whittleref15_tips_b1] at hh
 refine TC.seq (TC.a (TL.i z z (TL.s z z (TL.w z (lenC z underlying22 z) (TL.w z (OpVal.lss z z z) (TL.en (TC.cD z hh (fun h104 hh => ?_) (fun h104 hh => ?_))))))))
 ·refine TC.skip (S.n (TC.seq (TC.block (TC.a (TL.s z z (TL.i z z (TL.w z (indexN z underlying22 sz43 z z f0_0.rv.sl (by omega)) (TL.w z (fieldElem z fo43_0 z f0_0.rv.sl (by omega)) (TL.w z (loadS Tip.zero z ag3 z f0_0 (by omega) (by omega) z) (TL.w z (OpVal.lss z z z) (TL.j z z (TL.split 18 z (fun h105 => ?_) (fun h105 => ?_)))))))))))))
  ·replace hh := iteO_t h105 hh
   replace h105 := of_decide_eq_true h105
   refine TL.f z (TL.f z (TL.f z (TL.f z (TL.f z (TL.f z (TL.f z (TL.w z (pickTB z z z) (TL.j z z (TL.f z (TL.f z (TL.f z (TL.f z (TL.f z (TL.f z (TL.f z ?_)))))))))))))))
   refine TL.w z (pickTB z z z) (TL.en (TC.t z (TC.a (TL.j z z (TL.en (TC.ret (B.r (S.r (S.r ?_)))))))))
   replace hh := fin_x hR1 hh
   refine B.r (S.r ?_)
   obtain rfl := so hh
   exact rq [4] ⟨z, z, z⟩
  ·replace hh := iteO_f h105 hh
   replace h105 := of_decide_eq_false h105
   refine TL.g z (moveSl (.inl z) z) (TL.g z (moveI (.inl z) z) (TL.g z (indexN z underlying22 sz43 z z f0_0.rv.sl (by omega)) (TL.g z (fieldElem z fo43_0 z f0_0.rv.sl (by omega)) (TL.g z (loadS Tip.zero z ag3 z f0_0 (by omega) (by omega) z) (TL.g z (moveI (.inl z) z) (TL.g z (OpVal.geq z z z) (TL.w z (pickFB z z z) (TL.j z z (TL.split 27 z (fun h106 => ?_) (fun h106 => ?_))))))))))
   ·replace hh := iteO_t h106 hh
    replace h106 := of_decide_eq_true h106
    refine TL.f z (TL.f z (TL.f z (TL.f z (TL.f z (TL.f z (TL.f z (TL.w z (pickTB z z z) (TL.en (TC.t z (TC.a (TL.j z z (TL.en (TC.ret (B.r (S.r ?_)))))))))))))))
    refine S.r ?_
    replace hh := fin_x hR1 hh
    refine B.r (S.r ?_)
    obtain rfl := so hh
    exact rq [4] ⟨z, z, z⟩
   ·replace hh := iteO_f h106 hh
    replace h106 := of_decide_eq_false h106
    refine TL.g z (moveSl (.inl z) z) (TL.g z (moveI (.inl z) z) (TL.g z (indexN z underlying22 sz43 z z f0_0.rv.sl (by omega)) (TL.g z (fieldElem z fo43_1 z f0_0.rv.sl (by omega)) (TL.g z (loadS Tip.zero z ag9 z f0_0 (by omega) (by omega) z) (TL.g z (lenBs z underlying9 z) (TL.g z (OpVal.gtr z z z) (TL.w z (pickFB z z z) (TL.en (TC.cD z hh (fun h107 hh => ?_) (fun h107 hh => ?_))))))))))
    ·refine TC.a (TL.j z z (TL.en (TC.ret (B.r (S.r (S.r ?_))))))
     replace hh := fin_x hR1 hh
     refine B.r (S.r ?_)
     obtain rfl := so hh
     exact rq [4] ⟨z, z, z⟩
    ·refine TC.skip (B.n (S.n (TC.region (TL.i z z (TL.w z (OpVal.succ z z z (by omega)) (TL.i z z (TL.en ?_)))))))
     obtain ⟨hh, hlt108⟩ := nxt_x hR1 hh
     exact lf ((k103 + 1), ()) hlt108 hh (Sub.pre 0 z)
 ·refine TC.exit (S.x (S.x ?_))
  replace hh := fin_x hR1 hh
  refine TC.exitHere (S.n (TC.a (TL.s z z (TL.w z (lenC z underlying22 z) (TL.w z (OpVal.leq z z z) (TL.j z z (TL.en (TC.ret ?_))))))))
  obtain rfl := so hh
  exact rq [4] ⟨z, z, z⟩

noncomputable def whittleref15_Right_b1 (x0 : Fst) (k110 : Nat) : Option ((Nat) ⊕ (Bool)) :=
 iteO (decide (((k110 : Nat) : Int) < ((x0.arcs.length : Nat) : Int))) (iteO (decide (((nth x0.arcs k110 Arc.zero).frm) < 0)) (fin (some false)) (iteO (decide (x0.states ≤ ((nth x0.arcs k110 Arc.zero).frm))) (fin (some false)) (iteO (decide (((nth x0.arcs k110 Arc.zero).to) < 0)) (fin (some false)) (iteO (decide (x0.states ≤ ((nth x0.arcs k110 Arc.zero).to))) (fin (some false)) (iteO (decide ((nth x0.arcs k110 Arc.zero).set = BSet.zero)) (fin (some false)) (iteO (decide (1024 < ((((nth x0.arcs k110 Arc.zero).out).length : Nat) : Int))) (fin (some false)) (nxt (k110 + 1)))))))) (fin (some true))
noncomputable def whittleref15_Right (x0 : Fst) : Option (Bool) :=
 iteO (decide (x0.states < 0)) (some false) (iteO (decide (1024 < x0.states)) (some false) (bnd (whittleref15_tips x0.starts x0.states) (fun v16 => iteO (!v16) (some false) (bnd (whittleref15_tips x0.ends x0.states) (fun v24 => iteO (!v24) (some false) (iteO (decide (16384 < ((x0.arcs.length : Nat) : Int))) (some false) (iter (fun q : Nat => whittleref15_Right_b1 x0 q) 0)))))))
theorem whittleref15_Right_con {σ : Store} {x0 : Fst} {a0_0 : Option Addr} {c0_0 : Nat} {a0_1 : Option Addr} {c0_1 : Nat} {a0_2 : Option Addr} {c0_2 : Nat} (f0_0 : RS σ 2 encTip (.slice a0_0 x0.starts.length c0_0) x0.starts) (f0_1 : RS σ 2 encTip (.slice a0_1 x0.ends.length c0_1) x0.ends) (f0_2 : RS σ 8 encArc (.slice a0_2 x0.arcs.length c0_2) x0.arcs) {r : Bool} (hh : whittleref15_Right x0 = some r) :
  Con Tryz.prog 26 #[.agg #[.int .i64 x0.states, .slice a0_0 x0.starts.length c0_0, .slice a0_1 x0.ends.length c0_1, .slice a0_2 x0.arcs.length c0_2]] σ [] (PureP (.bool r) σ) := by
 dsimp only [whittleref15_Right] at hh
 have f0_0b := f0_0.rv.big
 have f0_1b := f0_1.rv.big
 have f0_2b := f0_2.rv.big
 refine Con.mk (n := 81) Tryz.func26 z z z (fun w0 => ?_)
 refine TC.a (TL.op z (boxA z z z z (fun b101 => ?_)))
 refine TL.j z z (TL.en (TC.seq (TC.a (TL.w z (fieldLoc z fo25_0 z) (TL.w z (loadLoc z ag3 z (i := 0) z z) (TL.w z (OpVal.lss z z z) (TL.j z z (TL.split 8 z (fun h103 => ?_) (fun h103 => ?_)))))))))
 ·replace hh := iteO_t h103 hh
  replace h103 := of_decide_eq_true h103
  refine TL.f z (TL.f z (TL.f z (TL.w z (pickTB z z z) (TL.j z z (TL.f z (TL.f z (TL.f z (TL.f z (TL.f z (TL.f z (TL.w z (pickTB z z z) (TL.j z z (TL.f z (TL.f z (TL.f z ?_)))))))))))))))
  refine TL.f z (TL.f z (TL.f z (TL.w z (pickTB z z z) (TL.j z z (TL.f z (TL.f z (TL.f z (TL.f z (TL.w z (pickTB z z z) (TL.en (TC.t z (TC.a (TL.j z z (TL.en (TC.rt 0 ?_)))))))))))))))
  refine S.r ?_
  obtain rfl := so hh
  exact rq [2] ⟨z, z, z⟩
 ·replace hh := iteO_f h103 hh
  replace h103 := of_decide_eq_false h103
  refine TL.g z (fieldLoc z fo25_0 z) (TL.g z (loadLoc z ag3 z (i := 0) z z) (TL.g z (OpVal.gtr z z z) (TL.w z (pickFB z z z) (TL.j z z (TL.split 13 z (fun h104 => ?_) (fun h104 => ?_))))))
  ·replace hh := iteO_t h104 hh
   replace h104 := of_decide_eq_true h104
   refine TL.f z (TL.f z (TL.f z (TL.f z (TL.f z (TL.f z (TL.w z (pickTB z z z) (TL.j z z (TL.f z (TL.f z (TL.f z (TL.f z (TL.f z (TL.f z (TL.w z (pickTB z z z) (TL.j z z ?_)))))))))))))))
   refine TL.f z (TL.f z (TL.f z (TL.f z (TL.w z (pickTB z z z) (TL.en (TC.t z (TC.a (TL.j z z (TL.en (TC.rt 0 (S.r ?_)))))))))))
   obtain rfl := so hh
   exact rq [2] ⟨z, z, z⟩
  ·replace hh := iteO_f h104 hh
   replace h104 := of_decide_eq_false h104
   refine TL.g z (fieldLoc z fo25_1 z) (TL.g z (loadLoc z ag22 z (i := 0) z z) (TL.g z (fieldLoc z fo25_0 z) (TL.g z (loadLoc z ag3 z (i := 0) z z) ?_)))
   obtain ⟨v16, u16, hh⟩ := bnd_e hh
   refine TL.gon z z z z z (callP (whittleref15_tips_con f0_0 u16) z z pf40 z z z ?_)
   refine TL.g z (OpVal.not z z) (TL.w z (pickFB z z z) (TL.j z z (TL.split 21 z (fun h105 => ?_) (fun h105 => ?_))))
   ·replace hh := iteO_t h105 hh
    refine TL.f z (TL.f z (TL.f z (TL.f z (TL.f z (TL.f z (TL.w z (pickTB z z z) (TL.j z z (TL.f z (TL.f z (TL.f z (TL.f z (TL.w z (pickTB z z z) (TL.en (TC.t z (TC.a ?_)))))))))))))))
    refine TL.j z z (TL.en (TC.rt 0 (S.r ?_)))
    obtain rfl := so hh
    exact rq [2] ⟨z, z, z⟩
   ·replace hh := iteO_f h105 hh
    refine TL.g z (fieldLoc z fo25_2 z) (TL.g z (loadLoc z ag22 z (i := 0) z z) (TL.g z (fieldLoc z fo25_0 z) (TL.g z (loadLoc z ag3 z (i := 0) z z) ?_)))
    obtain ⟨v24, u24, hh⟩ := bnd_e hh
    refine TL.gon z z z z z (callP (whittleref15_tips_con f0_1 u24) z z pf40 z z z ?_)
    refine TL.g z (OpVal.not z z) (TL.w z (pickFB z z z) (TL.j z z (TL.split 29 z (fun h106 => ?_) (fun h106 => ?_))))
    ·replace hh := iteO_t h106 hh
     refine TL.f z (TL.f z (TL.f z (TL.f z (TL.w z (pickTB z z z) (TL.en (TC.t z (TC.a (TL.j z z (TL.en (TC.rt 0 (S.r ?_)))))))))))
     obtain rfl := so hh
     exact rq [2] ⟨z, z, z⟩
    ·replace hh := iteO_f h106 hh
     refine TL.g z (fieldLoc z fo25_3 z) (TL.g z (loadLoc z ag23 z (i := 0) z z) (TL.g z (lenC z underlying23 z) (TL.g z (OpVal.gtr z z z) (TL.w z (pickFB z z z) (TL.en (TC.cD z hh (fun h107 hh => ?_) (fun h107 hh => ?_)))))))
     ·refine TC.a (TL.j z z (TL.en (TC.rt 0 (S.r ?_))))
      obtain rfl := so hh
      exact rq [2] ⟨z, z, z⟩
     ·refine TC.skip (S.n (TC.seq (TC.a (TL.i z z (TL.en (TC.block (TC.loopG (α := (Nat) × (Unit)) (rgs [(2, 3), (35, 46)]) (fun g => [(3, .int .i64 ((g.1 : Nat) : Int))]) (fun g => [Res.cells b101 #[.int .i64 x0.states, .slice a0_0 x0.starts.length c0_0, .slice a0_1 x0.ends.length c0_1, .slice a0_2 x0.arcs.length c0_2] 25]) (fun g => σ) (fun g => iter (fun q : Nat => whittleref15_Right_b1 x0 q) g.1 = some r) (fun g => rounds (fun q : Nat => whittleref15_Right_b1 x0 q) g.1) (0, ()) (Sub.pre 1 z) z (by repeat (first | exact trivial | refine ⟨z, ?_⟩)) hh (fun g1 j1 hg1 => ?_))))))))
      obtain ⟨k110, _⟩ := g1
      have hh := hg1; clear hg1
      try dsimp only
      obtain ⟨z1, hh, hR1⟩ := iter_e hh
      dsimp only [whittleref15_Right_b1] at hh
      refine TC.seq (TC.a (TL.i z z (TL.w z (fieldLoc z fo25_3 z) (TL.w z (loadLoc z ag23 z (i := 0) z z) (TL.w z (lenC z underlying23 z) (TL.w z (OpVal.lss z z z) (TL.en (TC.cD z hh (fun h111 hh => ?_) (fun h111 hh => ?_)))))))))
      ·refine TC.skip (S.n (TC.seq (TC.block (TC.a (TL.w z (fieldLoc z fo25_3 z) (TL.w z (loadLoc z ag23 z (i := 0) z z) (TL.i z z (TL.w z (indexN z underlying23 sz38 z z f0_2.rv.sl (by omega)) (TL.w z (loadSA Arc.zero z ag38 sz38 z f0_2 (by omega) (by omega)) (TL.op z (OpOk.alloc z ze38 z z (fun b112 => ?_))))))))))))
       refine TL.op z (storeAll z sz38 z z z z z z ?_)
       refine TL.en (TC.a (TL.w z (fieldLoc z fo38_0 z) (TL.w z (loadLoc z ag3 z (i := 0) z z) (TL.w z (OpVal.lss z z z) (TL.j z z (TL.split 50 z (fun h114 => ?_) (fun h114 => ?_)))))))
       ·replace hh := iteO_t h114 hh
        replace h114 := of_decide_eq_true h114
        refine TL.f z (TL.f z (TL.f z (TL.f z (TL.f z (TL.w z (pickTB z z z) (TL.j z z (TL.f z (TL.f z (TL.f z (TL.w z (pickTB z z z) (TL.j z z (TL.f z (TL.f z (TL.f z (TL.f z ?_)))))))))))))))
        refine TL.f z (TL.w z (pickTB z z z) (TL.j z z (TL.f z (TL.f z (TL.f z (TL.f z (TL.w z (pickTB z z z) (TL.j z z (TL.f z (TL.f z (TL.f z (TL.f z (TL.w z (pickTB z z z) (TL.en (TC.t z ?_)))))))))))))))
        refine TC.a (TL.j z z (TL.en (TC.rt 0 (B.r (S.r (S.r ?_))))))
        replace hh := fin_x hR1 hh
        refine B.r (S.r ?_)
        obtain rfl := so hh
        exact rq [2] ⟨z, z, z⟩
       ·replace hh := iteO_f h114 hh
        replace h114 := of_decide_eq_false h114
        refine TL.g z (fieldLoc z fo38_0 z) (TL.g z (loadLoc z ag3 z (i := 0) z z) (TL.g z (fieldLoc z fo25_0 z) (TL.g z (loadLoc z ag3 z (i := 1) z z) (TL.g z (OpVal.geq z z z) (TL.w z (pickFB z z z) (TL.j z z (TL.split 57 z (fun h115 => ?_) (fun h115 => ?_))))))))
        ·replace hh := iteO_t h115 hh
         replace h115 := of_decide_eq_true h115
         refine TL.f z (TL.f z (TL.f z (TL.w z (pickTB z z z) (TL.j z z (TL.f z (TL.f z (TL.f z (TL.f z (TL.f z (TL.w z (pickTB z z z) (TL.j z z (TL.f z (TL.f z (TL.f z (TL.f z ?_)))))))))))))))
         refine TL.w z (pickTB z z z) (TL.j z z (TL.f z (TL.f z (TL.f z (TL.f z (TL.w z (pickTB z z z) (TL.en (TC.t z (TC.a (TL.j z z (TL.en (TC.rt 0 (B.r (S.r (S.r ?_)))))))))))))))
         replace hh := fin_x hR1 hh
         refine B.r (S.r ?_)
         obtain rfl := so hh
         exact rq [2] ⟨z, z, z⟩
        ·replace hh := iteO_f h115 hh
         replace h115 := of_decide_eq_false h115
         refine TL.g z (fieldLoc z fo38_1 z) (TL.g z (loadLoc z ag3 z (i := 0) z z) (TL.g z (OpVal.lss z z z) (TL.w z (pickFB z z z) (TL.j z z (TL.split 62 z (fun h116 => ?_) (fun h116 => ?_))))))
         ·replace hh := iteO_t h116 hh
          replace h116 := of_decide_eq_true h116
          refine TL.f z (TL.f z (TL.f z (TL.f z (TL.f z (TL.w z (pickTB z z z) (TL.j z z (TL.f z (TL.f z (TL.f z (TL.f z (TL.w z (pickTB z z z) (TL.j z z (TL.f z (TL.f z (TL.f z ?_)))))))))))))))
          refine TL.f z (TL.w z (pickTB z z z) (TL.en (TC.t z (TC.a (TL.j z z (TL.en (TC.rt 0 (B.r (S.r (S.r ?_))))))))))
          replace hh := fin_x hR1 hh
          refine B.r (S.r ?_)
          obtain rfl := so hh
          exact rq [2] ⟨z, z, z⟩
         ·replace hh := iteO_f h116 hh
          replace h116 := of_decide_eq_false h116
          refine TL.g z (fieldLoc z fo38_1 z) (TL.g z (loadLoc z ag3 z (i := 0) z z) (TL.g z (fieldLoc z fo25_0 z) (TL.g z (loadLoc z ag3 z (i := 1) z z) (TL.g z (OpVal.geq z z z) (TL.w z (pickFB z z z) (TL.j z z (TL.split 69 z (fun h117 => ?_) (fun h117 => ?_))))))))
          ·replace hh := iteO_t h117 hh
           replace h117 := of_decide_eq_true h117
           refine TL.f z (TL.f z (TL.f z (TL.f z (TL.w z (pickTB z z z) (TL.j z z (TL.f z (TL.f z (TL.f z (TL.f z (TL.w z (pickTB z z z) (TL.en (TC.t z (TC.a (TL.j z z (TL.en ?_)))))))))))))))
           refine TC.rt 0 (B.r (S.r (S.r ?_)))
           replace hh := fin_x hR1 hh
           refine B.r (S.r ?_)
           obtain rfl := so hh
           exact rq [2] ⟨z, z, z⟩
          ·replace hh := iteO_f h117 hh
           replace h117 := of_decide_eq_false h117
           refine TL.g z (fieldLoc z fo38_2 z) (TL.g z (loadLocA z ag36 sz36 z (i := 0) z z z) (TL.g z (buildArrL z underlying36 sz34 ze36 z) (TL.g z (eqlSet (s := (nth x0.arcs k110 Arc.zero).set) (t := BSet.zero) z underlying36 underlying34 ag34 sz34 eg36 z z) (TL.w z (pickFB z z z) (TL.j z z (TL.split 75 z (fun h118 => ?_) (fun h118 => ?_)))))))
           ·replace hh := iteO_t h118 hh
            replace h118 := of_decide_eq_true h118
            refine TL.f z (TL.f z (TL.f z (TL.f z (TL.w z (pickTB z z z) (TL.en (TC.t z (TC.a (TL.j z z (TL.en (TC.rt 0 (B.r (S.r (S.r ?_)))))))))))))
            replace hh := fin_x hR1 hh
            refine B.r (S.r ?_)
            obtain rfl := so hh
            exact rq [2] ⟨z, z, z⟩
           ·replace hh := iteO_f h118 hh
            replace h118 := of_decide_eq_false h118
            refine TL.g z (fieldLoc z fo38_3 z) (TL.g z (loadLoc z ag9 z (i := 0) z z) (TL.g z (lenBs z underlying9 z) (TL.g z (OpVal.gtr z z z) (TL.w z (pickFB z z z) (TL.en (TC.cD z hh (fun h119 hh => ?_) (fun h119 hh => ?_)))))))
            ·refine TC.a (TL.j z z (TL.en (TC.rt 0 (B.r (S.r (S.r ?_))))))
             replace hh := fin_x hR1 hh
             refine B.r (S.r ?_)
             obtain rfl := so hh
             exact rq [2] ⟨z, z, z⟩
            ·refine TC.skip (B.n (S.n (TC.region (TL.i z z (TL.w z (OpVal.succ z z z (by omega)) (TL.i z z (TL.en ?_)))))))
             obtain ⟨hh, hlt120⟩ := nxt_x hR1 hh
             exact lf ((k110 + 1), ()) hlt120 hh (Sub.f [1] 1)
      ·refine TC.exit (S.x (S.x ?_))
       replace hh := fin_x hR1 hh
       refine TC.exitHere (S.n (TC.a (TL.j z z (TL.en (TC.rt 0 ?_)))))
       obtain rfl := so hh
       exact rq [2] ⟨z, z, z⟩

end Go.Proofs.YtcfjjckencjjeaaGreat
end

/- F2 -/
section
/- Decompiled: what the library and the program compare by. -/
set_option linter.unusedVariables false
set_option linter.unusedSimpArgs false
namespace Go.Proofs.YtcfjjckencjjeaaGreat
open Go Go.E Go.E.OpVal Go.E.OpOk Go.Proofs.Tryz
set_option maxRecDepth 100000
private theorem fo38_4 : Go.E.foOf Tryz.prog 38 4 = some 7 := by kernel_rfl
private theorem pf100 : Go.E.plainF Tryz.prog 100 = true := by kernel_rfl
private theorem pf66 : Go.E.plainF Tryz.prog 66 = true := by kernel_rfl
private theorem pf67 : Go.E.plainF Tryz.prog 67 = true := by kernel_rfl
private theorem pf68 : Go.E.plainF Tryz.prog 68 = true := by kernel_rfl
private theorem pf72 : Go.E.plainF Tryz.prog 72 = true := by kernel_rfl
private theorem pf73 : Go.E.plainF Tryz.prog 73 = true := by kernel_rfl
private theorem pf77 : Go.E.plainF Tryz.prog 77 = true := by kernel_rfl
private theorem pf78 : Go.E.plainF Tryz.prog 78 = true := by kernel_rfl
private theorem pf80 : Go.E.plainF Tryz.prog 80 = true := by kernel_rfl
private theorem sz3 : Go.E.szOf Tryz.prog 3 = some 1 := by kernel_rfl
private theorem ze3 : Go.E.zeroOf Tryz.prog 3 = some (.int .i64 0) := by kernel_rfl

noncomputable def internal_bytealg_CompareString (x0 : List UInt8) (x1 : List UInt8) : Option (Int) :=
 some (Lib.compareBytes x0 x1)
theorem internal_bytealg_CompareString_con {σ : Store} {x0 : List UInt8} {x1 : List UInt8}  {r : Int} (hh : internal_bytealg_CompareString x0 x1 = some r) :
  Con Tryz.prog 78 #[.string (bs x0), .string (bs x1)] σ [] (PureP (.int .i64 r) σ) := by
 dsimp only [internal_bytealg_CompareString] at hh
 refine Con.mk (n := 8) Tryz.func78 z z z (fun w0 => ?_)
 refine TC.a (TL.i z z (TL.en (TC.a (TL.w z (moveStr (.inl z) z) (TL.w z (moveStr (.inl z) z) (TL.w z (cmpStr z z Tryz.func91 (by kernel_rfl) (by kernel_rfl) (by kernel_rfl) (by kernel_rfl) z z) (TL.i z z (TL.en (TC.ret ?_)))))))))
 obtain rfl := so hh
 exact rq [4] ⟨z, z, z⟩

noncomputable def strings_Compare (x0 : List UInt8) (x1 : List UInt8) : Option (Int) :=
 bnd (internal_bytealg_CompareString x0 x1) (fun v4 => some v4)
theorem strings_Compare_con {σ : Store} {x0 : List UInt8} {x1 : List UInt8}  {r : Int} (hh : strings_Compare x0 x1 = some r) :
  Con Tryz.prog 68 #[.string (bs x0), .string (bs x1)] σ [] (PureP (.int .i64 r) σ) := by
 dsimp only [strings_Compare] at hh
 refine Con.mk (n := 8) Tryz.func68 z z z (fun w0 => ?_)
 refine TC.a (TL.i z z (TL.en (TC.a (TL.w z (moveStr (.inl z) z) (TL.w z (moveStr (.inl z) z) ?_)))))
 obtain ⟨v4, u4, hh⟩ := bnd_e hh
 refine TL.op z (callP (internal_bytealg_CompareString_con u4) z z pf78 z z z ?_)
 refine TL.i z z (TL.en (TC.ret ?_))
 obtain rfl := so hh
 exact rq [4] ⟨z, z, z⟩

noncomputable def cmp_isNaN (x0 : Int) : Option (Bool) :=
 some (decide (x0 ≠ x0))
theorem cmp_isNaN_con {σ : Store} {x0 : Int}  {r : Bool} (hh : cmp_isNaN x0 = some r) :
  Con Tryz.prog 77 #[.int .i64 x0] σ [] (PureP (.bool r) σ) := by
 dsimp only [cmp_isNaN] at hh
 refine Con.mk (n := 6) Tryz.func77 z z z (fun w0 => ?_)
 refine TC.a (TL.j z z (TL.en (TC.a (TL.i z z (TL.i z z (TL.w z (OpVal.neq z z z) (TL.j z z (TL.en (TC.ret ?_)))))))))
 obtain rfl := so hh
 exact rq [2] ⟨z, z, z⟩

noncomputable def cmp_Compare (x0 : Int) (x1 : Int) : Option (Int) :=
 bnd (cmp_isNaN x0) (fun v3 => bnd (cmp_isNaN x1) (fun v6 => iteO v3 (iteO v6 (some 0) (some (-1))) (iteO v6 (some 1) (iteO (decide (x0 < x1)) (some (-1)) (iteO (decide (x1 < x0)) (some 1) (some 0))))))
theorem cmp_Compare_con {σ : Store} {x0 : Int} {x1 : Int}  {r : Int} (hh : cmp_Compare x0 x1 = some r) :
  Con Tryz.prog 67 #[.int .i64 x0, .int .i64 x1] σ [] (PureP (.int .i64 r) σ) := by
 dsimp only [cmp_Compare] at hh
 refine Con.mk (n := 20) Tryz.func67 z z z (fun w0 => ?_)
 refine TC.a (TL.i z z (TL.en (TC.a (TL.i z z ?_))))
 obtain ⟨v3, u3, hh⟩ := bnd_e hh
 refine TL.op z (callP (cmp_isNaN_con u3) z z pf77 z z z ?_)
 refine TL.j z z (TL.en (TC.a (TL.i z z ?_)))
 obtain ⟨v6, u6, hh⟩ := bnd_e hh
 refine TL.op z (callP (cmp_isNaN_con u6) z z pf77 z z z ?_)
 refine TL.j z z (TL.en (TC.seq (TC.a (TL.j z z (TL.en (TC.cB z hh (fun h101 hh => ?_) (fun h101 hh => ?_)))))))
 ·refine TC.seq (TC.a (TL.j z z (TL.en (TC.cB z hh (fun h102 hh => ?_) (fun h102 hh => ?_)))))
  ·refine TC.a (TL.i z z (TL.en (TC.ret (S.r (S.r ?_)))))
   obtain rfl := so hh
   exact rq [4] ⟨z, z, z⟩
  ·refine TC.skip (S.n (TC.a (TL.i z z (TL.en (TC.ret (S.r ?_))))))
   obtain rfl := so hh
   exact rq [4] ⟨z, z, z⟩
 ·refine TC.skip (S.n (TC.seq (TC.a (TL.j z z (TL.en (TC.cB z hh (fun h103 hh => ?_) (fun h103 hh => ?_)))))))
  ·refine TC.a (TL.i z z (TL.en (TC.ret (S.r ?_))))
   obtain rfl := so hh
   exact rq [4] ⟨z, z, z⟩
  ·refine TC.skip (S.n (TC.seq (TC.a (TL.i z z (TL.i z z (TL.w z (OpVal.lss z z z) (TL.en (TC.cD z hh (fun h104 hh => ?_) (fun h104 hh => ?_)))))))))
   ·refine TC.a (TL.i z z (TL.en (TC.ret (S.r ?_))))
    obtain rfl := so hh
    exact rq [4] ⟨z, z, z⟩
   ·refine TC.skip (S.n (TC.seq (TC.a (TL.i z z (TL.i z z (TL.w z (OpVal.gtr z z z) (TL.en (TC.cD z hh (fun h105 hh => ?_) (fun h105 hh => ?_)))))))))
    ·refine TC.a (TL.i z z (TL.en (TC.ret (S.r ?_))))
     obtain rfl := so hh
     exact rq [4] ⟨z, z, z⟩
    ·refine TC.skip (S.n (TC.a (TL.i z z (TL.en (TC.ret ?_)))))
     obtain rfl := so hh
     exact rq [4] ⟨z, z, z⟩

noncomputable def isNaNU (x0 : Nat) : Option (Bool) :=
 some (decide (x0 ≠ x0))
theorem isNaNU_con {σ : Store} {x0 : Nat}  {r : Bool} (hh : isNaNU x0 = some r) :
  Con Tryz.prog 100 #[.int .u64 ((x0 : Nat) : Int)] σ [] (PureP (.bool r) σ) := by
 dsimp only [isNaNU] at hh
 refine Con.mk (n := 6) Tryz.func100 z z z (fun w0 => ?_)
 refine TC.a (TL.j z z (TL.en (TC.a (TL.i z z (TL.i z z (TL.w z (neqU z z z) (TL.j z z (TL.en (TC.ret ?_)))))))))
 obtain rfl := so hh
 exact rq [2] ⟨z, z, z⟩

noncomputable def compareU (x0 : Nat) (x1 : Nat) : Option (Int) :=
 bnd (isNaNU x0) (fun v3 => bnd (isNaNU x1) (fun v6 => iteO v3 (iteO v6 (some 0) (some (-1))) (iteO v6 (some 1) (iteO (decide (x0 < x1)) (some (-1)) (iteO (decide (x1 < x0)) (some 1) (some 0))))))
theorem compareU_con {σ : Store} {x0 : Nat} {x1 : Nat}  {r : Int} (hh : compareU x0 x1 = some r) :
  Con Tryz.prog 80 #[.int .u64 ((x0 : Nat) : Int), .int .u64 ((x1 : Nat) : Int)] σ [] (PureP (.int .i64 r) σ) := by
 dsimp only [compareU] at hh
 refine Con.mk (n := 20) Tryz.func80 z z z (fun w0 => ?_)
 refine TC.a (TL.i z z (TL.en (TC.a (TL.i z z ?_))))
 obtain ⟨v3, u3, hh⟩ := bnd_e hh
 refine TL.op z (callP (isNaNU_con u3) z z pf100 z z z ?_)
 refine TL.j z z (TL.en (TC.a (TL.i z z ?_)))
 obtain ⟨v6, u6, hh⟩ := bnd_e hh
 refine TL.op z (callP (isNaNU_con u6) z z pf100 z z z ?_)
 refine TL.j z z (TL.en (TC.seq (TC.a (TL.j z z (TL.en (TC.cB z hh (fun h101 hh => ?_) (fun h101 hh => ?_)))))))
 ·refine TC.seq (TC.a (TL.j z z (TL.en (TC.cB z hh (fun h102 hh => ?_) (fun h102 hh => ?_)))))
  ·refine TC.a (TL.i z z (TL.en (TC.ret (S.r (S.r ?_)))))
   obtain rfl := so hh
   exact rq [4] ⟨z, z, z⟩
  ·refine TC.skip (S.n (TC.a (TL.i z z (TL.en (TC.ret (S.r ?_))))))
   obtain rfl := so hh
   exact rq [4] ⟨z, z, z⟩
 ·refine TC.skip (S.n (TC.seq (TC.a (TL.j z z (TL.en (TC.cB z hh (fun h103 hh => ?_) (fun h103 hh => ?_)))))))
  ·refine TC.a (TL.i z z (TL.en (TC.ret (S.r ?_))))
   obtain rfl := so hh
   exact rq [4] ⟨z, z, z⟩
  ·refine TC.skip (S.n (TC.seq (TC.a (TL.i z z (TL.i z z (TL.w z (lssU z z z) (TL.en (TC.cD z hh (fun h104 hh => ?_) (fun h104 hh => ?_)))))))))
   ·refine TC.a (TL.i z z (TL.en (TC.ret (S.r ?_))))
    obtain rfl := so hh
    exact rq [4] ⟨z, z, z⟩
   ·refine TC.skip (S.n (TC.seq (TC.a (TL.i z z (TL.i z z (TL.w z (gtrU z z z) (TL.en (TC.cD z hh (fun h105 hh => ?_) (fun h105 hh => ?_)))))))))
    ·refine TC.a (TL.i z z (TL.en (TC.ret (S.r ?_))))
     obtain rfl := so hh
     exact rq [4] ⟨z, z, z⟩
    ·refine TC.skip (S.n (TC.a (TL.i z z (TL.en (TC.ret ?_)))))
     obtain rfl := so hh
     exact rq [4] ⟨z, z, z⟩

noncomputable def fst_number (x0 : Bool) : Option (Int) :=
 iteO x0 (some 1) (some 0)
theorem fst_number_con {σ : Store} {x0 : Bool}  {r : Int} (hh : fst_number x0 = some r) :
  Con Tryz.prog 73 #[.bool x0] σ [] (PureP (.int .i64 r) σ) := by
 dsimp only [fst_number] at hh
 refine Con.mk (n := 4) Tryz.func73 z z z (fun w0 => ?_)
 refine TC.a (TL.i z z (TL.en (TC.seq (TC.a (TL.j z z (TL.en (TC.cB z hh (fun h101 hh => ?_) (fun h101 hh => ?_))))))))
 ·refine TC.a (TL.i z z (TL.en (TC.ret (S.r ?_))))
  obtain rfl := so hh
  exact rq [2] ⟨z, z, z⟩
 ·refine TC.skip (S.n (TC.a (TL.i z z (TL.en (TC.ret ?_)))))
  obtain rfl := so hh
  exact rq [2] ⟨z, z, z⟩

noncomputable def cmp_Or_b1 (x0 : List Int) (k103 : Nat) : Option ((Nat) ⊕ (Int)) :=
 iteO (decide (((k103 : Nat) : Int) < ((x0.length : Nat) : Int))) (iteO (decide ((nth x0 k103 (0 : Int)) ≠ 0)) (fin (some (nth x0 k103 (0 : Int)))) (nxt (k103 + 1))) (fin (some 0))
noncomputable def cmp_Or (x0 : List Int) : Option (Int) :=
 iter (fun q : Nat => cmp_Or_b1 x0 q) 0
theorem cmp_Or_con {σ : Store} {x0 : List Int} {a0_0 : Option Addr} {c0_0 : Nat} (f0_0 : RS σ 1 Go.E.encI (.slice a0_0 x0.length c0_0) x0) {r : Int} (hh : cmp_Or x0 = some r) :
  Con Tryz.prog 66 #[.slice a0_0 x0.length c0_0] σ [] (PureP (.int .i64 r) σ) := by
 dsimp only [cmp_Or] at hh
 have f0_0b := f0_0.rv.big
 refine Con.mk (n := 18) Tryz.func66 z z z (fun w0 => ?_)
 refine TC.a (TL.i z z (TL.en (TC.a (TL.i z z (TL.en (TC.seq (TC.a (TL.s z z (TL.w z (lenC z underlying68 z) (TL.i z z (TL.en (TC.block (TC.loopG (α := (Nat) × (Unit)) (rgs [(2, 1), (5, 1), (8, 9)]) (fun g => [(8, .int .i64 ((g.1 : Nat) : Int))]) (fun g => []) (fun g => σ) (fun g => iter (fun q : Nat => cmp_Or_b1 x0 q) g.1 = some r) (fun g => rounds (fun q : Nat => cmp_Or_b1 x0 q) g.1) (0, ()) (Sub.pre 0 z) z (by repeat (first | exact trivial | refine ⟨z, ?_⟩)) hh (fun g1 j1 hg1 => ?_))))))))))))))
 obtain ⟨k103, _⟩ := g1
 have hh := hg1; clear hg1
 try dsimp only
 obtain ⟨z1, hh, hR1⟩ := iter_e hh
 dsimp only [cmp_Or_b1] at hh
 refine TC.a (TL.w z (OpVal.lss z z z) (TL.en (TC.seq (TC.cD z hh (fun h104 hh => ?_) (fun h104 hh => ?_)))))
 ·refine TC.skip (S.n (TC.seq (TC.block (TC.a (TL.w z (indexN z underlying68 sz3 z z f0_0.rv.sl (by omega)) (TL.w z (loadS1 (0 : Int) z ag3 z f0_0 (by omega) z) (TL.i z z (TL.en (TC.a (TL.i z z (TL.i z z (TL.w z (OpVal.neq z z z) (TL.en (TC.cD z hh (fun h105 hh => ?_) (fun h105 hh => ?_)))))))))))))))
  ·refine TC.a (TL.i z z (TL.i z z (TL.en (TC.ret (B.r (S.r (S.r ?_)))))))
   replace hh := fin_x hR1 hh
   refine B.r (S.r ?_)
   obtain rfl := so hh
   exact rq [2] ⟨z, z, z⟩
  ·refine TC.skip (B.n (S.n (TC.region (TL.w z (OpVal.succ z z z (by omega)) (TL.i z z (TL.en ?_))))))
   obtain ⟨hh, hlt106⟩ := nxt_x hR1 hh
   exact lf ((k103 + 1), ()) hlt106 hh (Sub.pre 0 z)
 ·refine TC.exit (S.x (S.x ?_))
  replace hh := fin_x hR1 hh
  refine TC.exitHere (S.n (TC.a (TL.i z z (TL.i z z (TL.en (TC.ret ?_))))))
  obtain rfl := so hh
  exact rq [2] ⟨z, z, z⟩

noncomputable def fst_compareTips (x0 : Tip) (x1 : Tip) : Option (Int) :=
 bnd (cmp_Compare x0.state x1.state) (fun v8 => bnd (strings_Compare x0.out x1.out) (fun v13 => bnd (cmp_Or [v8, v13]) (fun v15 => some v15)))
theorem fst_compareTips_con {σ : Store} {x0 : Tip} {x1 : Tip}  {r : Int} (hh : fst_compareTips x0 x1 = some r) :
  Con Tryz.prog 56 #[.agg #[.int .i64 x0.state, .string (bs x0.out)], .agg #[.int .i64 x1.state, .string (bs x1.out)]] σ [] (PureP (.int .i64 r) σ) := by
 dsimp only [fst_compareTips] at hh
 refine Con.mk (n := 17) Tryz.func56 z z z (fun w0 => ?_)
 refine TC.a (TL.op z (boxA z z z z (fun b101 => ?_)))
 refine TL.op z (boxA z z z z (fun b103 => ?_))
 refine TL.i z z (TL.en (TC.seq ?_))
 obtain ⟨v8, u8, hh⟩ := bnd_e hh
 obtain ⟨v13, u13, hh⟩ := bnd_e hh
 obtain ⟨v15, u15, hh⟩ := bnd_e hh
 refine TC.draw [] (by kernel_rfl) (TA.a 0 z (fieldLoc z fo43_0 z) z (TA.b 1 z (loadLoc z ag3 z (i := 1) z z) z (TA.a 2 z (fieldLoc z fo43_0 z) z (TA.b 3 z (loadLoc z ag3 z (i := 0) z z) z (TA.a 5 z (fieldLoc z fo43_1 z) z (TA.b 6 z (loadLoc z ag9 z (i := 1) z z) z (TA.a 7 z (fieldLoc z fo43_1 z) z (TA.b 8 z (loadLoc z ag9 z (i := 0) z z) z (TA.ac 4 z (callP (cmp_Compare_con u8) z z pf67 z z z (k0 ?_)))))))))))
 refine TA.ac 9 z (callP (strings_Compare_con u13) z z pf68 z z z (k0 ?_))
 refine TA.ac 10 z (OpOk.lit (enc := Go.E.encI) [v8, v13] z underlying68 sz3 ze3 z z z Go.E.encI_len (by decide) (by decide) (0 : Int) z (by decide) z (by decide) Go.E.encI_one (fun a110 c111 => (k1 ?_)))
 refine TA.ac 11 z (callK (Con.lend Go.E.encI_len (fun _ hle114 hr113 => cmp_Or_con hr113 u15)) z z pf66 z z z z (k1 ?_))
 refine TA.a 12 z (moveI (.inr z) z) z (TA.dn (S.n (TC.rt 0 ?_)))
 obtain rfl := so hh
 exact rq [4] ⟨z, z, z⟩

noncomputable def compareUs_b1 (x0 : List Nat) (x1 : List Nat) (k103 : Nat) : Option ((Nat) ⊕ (Int)) :=
 iteO (decide (((k103 : Nat) : Int) < ((x0.length : Nat) : Int))) (iteO (decide (((x1.length : Nat) : Int) ≤ ((k103 : Nat) : Int))) (fin (some 1)) (grd (k103 < x1.length) (bnd (compareU (nth x0 k103 (0 : Nat)) (nth x1 k103 (0 : Nat))) (fun v23 => iteO (decide (v23 ≠ 0)) (fin (some v23)) (nxt (k103 + 1)))))) (fin (iteO (decide (((x0.length : Nat) : Int) < ((x1.length : Nat) : Int))) (some (-1)) (some 0)))
noncomputable def compareUs (x0 : List Nat) (x1 : List Nat) : Option (Int) :=
 iter (fun q : Nat => compareUs_b1 x0 x1 q) 0
theorem compareUs_con {σ : Store} {x0 : List Nat} {a0_0 : Option Addr} {c0_0 : Nat} {x1 : List Nat} {a1_0 : Option Addr} {c1_0 : Nat} (f0_0 : RS σ 1 encW (.slice a0_0 x0.length c0_0) x0) (f1_0 : RS σ 1 encW (.slice a1_0 x1.length c1_0) x1) {r : Int} (hh : compareUs x0 x1 = some r) :
  Con Tryz.prog 72 #[.slice a0_0 x0.length c0_0, .slice a1_0 x1.length c1_0] σ [] (PureP (.int .i64 r) σ) := by
 dsimp only [compareUs] at hh
 have f0_0b := f0_0.rv.big
 have f1_0b := f1_0.rv.big
 refine Con.mk (n := 36) Tryz.func72 z z z (fun w0 => ?_)
 refine TC.a (TL.i z z (TL.en (TC.seq (TC.a (TL.s z z (TL.w z (lenC z underlying113 z) (TL.i z z (TL.en (TC.block (TC.loopG (α := (Nat) × (Unit)) (rgs [(4, 5), (11, 20)]) (fun g => [(11, .int .i64 ((g.1 : Nat) : Int))]) (fun g => []) (fun g => σ) (fun g => iter (fun q : Nat => compareUs_b1 x0 x1 q) g.1 = some r) (fun g => rounds (fun q : Nat => compareUs_b1 x0 x1 q) g.1) (0, ()) (Sub.pre 0 z) z (by repeat (first | exact trivial | refine ⟨z, ?_⟩)) hh (fun g1 j1 hg1 => ?_)))))))))))
 obtain ⟨k103, _⟩ := g1
 have hh := hg1; clear hg1
 try dsimp only
 obtain ⟨z1, hh, hR1⟩ := iter_e hh
 dsimp only [compareUs_b1] at hh
 refine TC.a (TL.w z (OpVal.lss z z z) (TL.en (TC.seq (TC.cD z hh (fun h104 hh => ?_) (fun h104 hh => ?_)))))
 ·refine TC.skip (S.n (TC.seq (TC.block (TC.a (TL.i z z (TL.w z (indexN z underlying113 sz34 z z f0_0.rv.sl (by omega)) (TL.w z (loadS1 (0 : Nat) z ag34 z f0_0 (by omega) z) (TL.i z z (TL.i z z (TL.en (TC.seq (TC.a (TL.i z z (TL.s z z (TL.w z (lenC z underlying113 z) ?_)))))))))))))))
  refine TL.w z (OpVal.geq z z z) (TL.en (TC.cD z hh (fun h105 hh => ?_) (fun h105 hh => ?_)))
  ·refine TC.a (TL.i z z (TL.en (TC.ret (S.r (B.r (S.r (S.r ?_)))))))
   replace hh := fin_x hR1 hh
   refine B.r (S.r ?_)
   obtain rfl := so hh
   exact rq [4] ⟨z, z, z⟩
  ·refine TC.skip (S.n (TC.a (TL.s z z (TL.i z z ?_))))
   have u18 := grd_c hh
   replace hh := grd_t hh
   refine TL.w z (indexN z underlying113 sz34 z z f1_0.rv.sl (by omega)) (TL.w z (loadS1 (0 : Nat) z ag34 z f1_0 (by omega) z) (TL.i z z (TL.en (TC.a (TL.i z z (TL.i z z ?_))))))
   obtain ⟨v23, u23, hh⟩ := bnd_e hh
   refine TL.op z (callP (compareU_con u23) z z pf80 z z z ?_)
   refine TL.i z z (TL.en (TC.a (TL.i z z (TL.w z (OpVal.neq z z z) (TL.en (TC.cD z hh (fun h106 hh => ?_) (fun h106 hh => ?_)))))))
   ·refine TC.a (TL.i z z (TL.i z z (TL.en (TC.ret (B.r (S.r (S.r ?_)))))))
    replace hh := fin_x hR1 hh
    refine B.r (S.r ?_)
    obtain rfl := so hh
    exact rq [4] ⟨z, z, z⟩
   ·refine TC.skip (B.n (S.n (TC.region (TL.w z (OpVal.succ z z z (by omega)) (TL.i z z (TL.en ?_))))))
    obtain ⟨hh, hlt107⟩ := nxt_x hR1 hh
    exact lf ((k103 + 1), ()) hlt107 hh (Sub.pre 0 z)
 ·refine TC.exit (S.x (S.x ?_))
  replace hh := fin_x hR1 hh
  refine TC.exitHere (S.n (TC.seq (TC.a (TL.s z z (TL.w z (lenC z underlying113 z) (TL.s z z (TL.w z (lenC z underlying113 z) (TL.w z (OpVal.lss z z z) (TL.en (TC.cD z hh (fun h108 hh => ?_) (fun h108 hh => ?_)))))))))))
  ·refine TC.a (TL.i z z (TL.en (TC.ret (S.r ?_))))
   obtain rfl := so hh
   exact rq [4] ⟨z, z, z⟩
  ·refine TC.skip (S.n (TC.a (TL.i z z (TL.en (TC.ret ?_)))))
   obtain rfl := so hh
   exact rq [4] ⟨z, z, z⟩

noncomputable def fst_compareArcs (x0 : Arc) (x1 : Arc) : Option (Int) :=
 bnd (cmp_Compare x0.frm x1.frm) (fun v8 => bnd (cmp_Compare x0.to x1.to) (fun v13 => bnd (compareUs [x0.set.a, x0.set.b, x0.set.c, x0.set.d] [x1.set.a, x1.set.b, x1.set.c, x1.set.d]) (fun v18 => bnd (strings_Compare x0.out x1.out) (fun v23 => bnd (fst_number x0.copy) (fun v26 => bnd (fst_number x1.copy) (fun v29 => bnd (cmp_Compare v26 v29) (fun v30 => bnd (cmp_Or [v8, v13, v18, v23, v30]) (fun v32 => some v32))))))))
theorem fst_compareArcs_con {σ : Store} {x0 : Arc} {x1 : Arc}  {r : Int} (hh : fst_compareArcs x0 x1 = some r) :
  Con Tryz.prog 58 #[.agg #[.int .i64 x0.frm, .int .i64 x0.to, .int .u64 ((x0.set.a : Nat) : Int), .int .u64 ((x0.set.b : Nat) : Int), .int .u64 ((x0.set.c : Nat) : Int), .int .u64 ((x0.set.d : Nat) : Int), .string (bs x0.out), .bool x0.copy], .agg #[.int .i64 x1.frm, .int .i64 x1.to, .int .u64 ((x1.set.a : Nat) : Int), .int .u64 ((x1.set.b : Nat) : Int), .int .u64 ((x1.set.c : Nat) : Int), .int .u64 ((x1.set.d : Nat) : Int), .string (bs x1.out), .bool x1.copy]] σ [] (PureP (.int .i64 r) σ) := by
 dsimp only [fst_compareArcs] at hh
 refine Con.mk (n := 34) Tryz.func58 z z z (fun w0 => ?_)
 refine TC.a (TL.op z (boxA z z z z (fun b101 => ?_)))
 refine TL.op z (boxA z z z z (fun b103 => ?_))
 refine TL.i z z (TL.en (TC.seq ?_))
 obtain ⟨v8, u8, hh⟩ := bnd_e hh
 obtain ⟨v13, u13, hh⟩ := bnd_e hh
 obtain ⟨v18, u18, hh⟩ := bnd_e hh
 obtain ⟨v23, u23, hh⟩ := bnd_e hh
 obtain ⟨v26, u26, hh⟩ := bnd_e hh
 obtain ⟨v29, u29, hh⟩ := bnd_e hh
 obtain ⟨v30, u30, hh⟩ := bnd_e hh
 obtain ⟨v32, u32, hh⟩ := bnd_e hh
 refine TC.draw [] (by kernel_rfl) (TA.a 0 z (fieldLoc z fo38_0 z) z (TA.b 1 z (loadLoc z ag3 z (i := 1) z z) z (TA.a 2 z (fieldLoc z fo38_0 z) z (TA.b 3 z (loadLoc z ag3 z (i := 0) z z) z (TA.a 5 z (fieldLoc z fo38_1 z) z (TA.b 6 z (loadLoc z ag3 z (i := 1) z z) z (TA.a 7 z (fieldLoc z fo38_1 z) z (TA.b 8 z (loadLoc z ag3 z (i := 0) z z) z (TA.a 10 z (fieldLoc z fo38_2 z) z (TA.b 11 z (sliceArr z underlying36 sz34 z) z (TA.a 12 z (fieldLoc z fo38_2 z) z (TA.b 13 z (sliceArr z underlying36 sz34 z) z (TA.a 15 z (fieldLoc z fo38_3 z) z (TA.b 16 z (loadLoc z ag9 z (i := 1) z z) z (TA.a 17 z (fieldLoc z fo38_3 z) z ?_)))))))))))))))
 refine TA.b 18 z (loadLoc z ag9 z (i := 0) z z) z (TA.a 20 z (fieldLoc z fo38_4 z) z (TA.b 21 z (loadLoc z ag4 z (i := 1) z z) z (TA.a 23 z (fieldLoc z fo38_4 z) z (TA.b 24 z (loadLoc z ag4 z (i := 0) z z) z (TA.ac 4 z (callP (cmp_Compare_con u8) z z pf67 z z z (k0 ?_)))))))
 refine TA.ac 9 z (callP (cmp_Compare_con u13) z z pf67 z z z (k0 ?_))
 refine TA.front 1 z z (TA.ac 14 z (callK (Con.lendC (fun _ hle116 hr114 => Con.lendC (fun _ hle117 hr115 => compareUs_con (RS.ofCells (l := [x0.set.a, x0.set.b, x0.set.c, x0.set.d]) (hle117 _ _ hr114) encW_len encW_one z z z) (RS.ofCells (l := [x1.set.a, x1.set.b, x1.set.c, x1.set.d]) hr115 encW_len encW_one z z z) u18))) z z pf72 z z z z ⟨(fun w h => sees_of (Store.le.refl _) (fun r hr => mem_pick [1, 0] z hr) w h), ?_⟩))
 refine TA.ac 19 z (callP (strings_Compare_con u23) z z pf68 z z z ⟨(fun w h => sees_of (Store.le.refl _) (fun r hr => mem_pick [1, 0] z hr) w h), ?_⟩)
 refine TA.ac 22 z (callP (fst_number_con u26) z z pf73 z z z ⟨(fun w h => sees_of (Store.le.refl _) (fun r hr => mem_pick [1, 0] z hr) w h), ?_⟩)
 refine TA.ac 25 z (callP (fst_number_con u29) z z pf73 z z z ⟨(fun w h => sees_of (Store.le.refl _) (fun r hr => mem_pick [1, 0] z hr) w h), ?_⟩)
 refine TA.ac 26 z (callP (cmp_Compare_con u30) z z pf67 z z z ⟨(fun w h => sees_of (Store.le.refl _) (fun r hr => mem_pick [1, 0] z hr) w h), ?_⟩)
 refine TA.ac 27 z (OpOk.lit (enc := Go.E.encI) [v8, v13, v18, v23, v30] z underlying68 sz3 ze3 z z z Go.E.encI_len (by decide) (by decide) (0 : Int) z (by decide) z (by decide) Go.E.encI_one (fun a118 c119 => ⟨(fun w h => sees_of (Store.le.refl _) (fun r hr => mem_pick [2, 1] z hr) w h), ?_⟩))
 refine TA.ac 28 z (callK (Con.lend Go.E.encI_len (fun _ hle122 hr121 => cmp_Or_con hr121 u32)) z z pf66 z z z z ⟨(fun w h => sees_of (Store.le.refl _) (fun r hr => mem_pick [2, 1] z hr) w h), ?_⟩)
 refine TA.a 29 z (moveI (.inr z) z) z (TA.dn (S.n (TC.rt 0 ?_)))
 obtain rfl := so hh
 exact rq [4] ⟨z, z, z⟩

end Go.Proofs.YtcfjjckencjjeaaGreat
end

/- Dec9 -/
section
/- The library's sort, by the kit's contract, in the engine's words. Plain lemmas over any program; no condition. -/
set_option linter.unusedVariables false
set_option linter.unusedSimpArgs false
namespace Go.E
open Go Go.Sort Go.Proofs Go.Shelf

theorem Reach.grown {w w' : World} {σ : Store} {H : List Res} (h : Reach w [] (fun _ => none) σ w' H) : ∃ q os', w' = grow (w.drewN q) os' := by
  refine ⟨w'.drawn - w.drawn, w'.heap.extract w.heap.size w'.heap.size, ?_⟩
  have h1 : w'.heap = w.heap ++ w'.heap.extract w.heap.size w'.heap.size := by
    apply Array.ext_getElem?
    intro i
    rw [Array.getElem?_append]
    split
    · rename_i hi; exact h.frame i hi (by simp)
    · rename_i hi
      by_cases hl : i < w'.heap.size
      · rw [Array.getElem?_extract_of_lt (by omega)]; simp only [show w.heap.size + (i - w.heap.size) = i by omega]; exact Array.getElem?_eq_getElem hl
      · rw [Array.getElem?_eq_none (by omega), Array.getElem?_eq_none (by simp; omega)]
  have h2 := h.drawn
  cases w' with
  | mk heap tape drawn os output =>
    have e1 := h.os; have e2 := h.tape; have e3 := h.output
    simp only at h1 h2 e1 e2 e3
    simp only [grow, World.drewN]
    rw [World.mk.injEq]
    exact ⟨h1, e2, by omega, e1, e3⟩
theorem reach_nil (w : World) : Reach w [] (fun _ => none) (fun _ => none) w [] :=
  ⟨rfl, rfl, rfl, Nat.le_refl _, fun _ _ _ => rfl, Store.le.refl _, (fun _ _ h => by cases h), (fun _ _ h => by cases h), by simp, by simp, by simp [blks], by simp, Nat.le_refl _⟩

section
variable {α : Type} [Inhabited α] {P : Program}
theorem cmpLays1_of {g : Nat} {enc : α → Value} {cf : α → α → Int} {blk off size : Nat} {w : World} (h : ∀ x y τ, Con P g #[enc x, enc y] τ [] (PureP (.int .i64 (cf x y)) τ)) : CmpLays1 P g #[] enc cf blk off size w := by
  intro m os dk _ x y
  refine (h x y (fun _ => none) _ (reach_nil _)).mono fun e w' ⟨r, σ', H', he, ⟨hr, _, _⟩, k⟩ => ⟨by rw [he, hr], Reach.grown k⟩
theorem cmpLays_of {g k : Nat} {enc : α → List Value} {cf : α → α → Int} {blk off size : Nat} {w : World} (h : ∀ x y τ, Con P g #[.agg (enc x).toArray, .agg (enc y).toArray] τ [] (PureP (.int .i64 (cf x y)) τ)) : CmpLays P g #[] enc k cf blk off size w := by
  intro m os dk _ x y
  refine (h x y (fun _ => none) _ (reach_nil _)).mono fun e w' ⟨r, σ', H', he, ⟨hr, _, _⟩, k⟩ => ⟨by rw [he, hr], Reach.grown k⟩
end

theorem getBang {α : Type} [Inhabited α] (l : List α) (i : Nat) (h : i < l.length) : l.toArray[i]! = l[i] := by simp [h]
theorem Reach.sorted {w0 : World} {C : List Nat} {σ0 σ : Store} {w : World} {F : List Res} {E size n cap g m : Nat} {xs xs' : List Value} {os : Array Obj} (h : Reach w0 C σ0 σ w (Res.row E size (.slice (some ⟨g, 0, none⟩) n cap) n xs :: F)) (hl : xs'.length = xs.length) (h1 : ∀ u ∈ xs', u.oneCell' = true) :
    Reach w0 C σ0 σ (grow (putRow (id : Value → Value) (Sort.ahead w m) g 0 xs'.toArray) os) (Res.row E size (.slice (some ⟨g, 0, none⟩) n cap) n xs' :: F) := by
  obtain ⟨hown, hone, hbg⟩ := h.holds _ (List.mem_cons_self ..)
  obtain ⟨hlen, hc⟩ := hown
  rcases hc with ⟨hc, _⟩ | ⟨g', cap', cur, hv, hb0, hg, h3, h4, h5, h6⟩
  · cases hc
  cases hv
  have hgl : g < w.heap.size := (Array.getElem?_eq_some_iff.1 hg).1
  have hnew : (grow (putRow (id : Value → Value) (Sort.ahead w m) g 0 xs'.toArray) os).heap[g]? = some (.cells (putCells (id : Value → Value) 0 xs'.toArray cur) E) := by
    rw [heap_grow_old _ _ (by simpa using hgl)]
    simp [putRow, mapBlock, Sort.ahead, Array.getElem?_modify, hg, onCells]
  have hold : ∀ k, k < w.heap.size → k ≠ g → (grow (putRow (id : Value → Value) (Sort.ahead w m) g 0 xs'.toArray) os).heap[k]? = w.heap[k]? := by
    intro k hk hne
    rw [heap_grow_old _ _ (by simpa using hk)]
    have : g ≠ k := fun e => hne e.symm
    simp [putRow, mapBlock, Sort.ahead, Array.getElem?_modify, this]
  have hcur : xs.length ≤ cur.size := by
    have := congrArg List.length h6
    simp at this; omega
  refine h.turn1 (some g) (some g) rfl rfl rfl rfl rfl (by simp [grow]) (by simp [grow, putRow, mapBlock, Sort.ahead]) (fun k hk hne => hold k hk fun e => hne (by rw [e])) ⟨⟨by rw [hl]; exact hlen, .inr ⟨g, cap, _, rfl, hb0, hnew, h3, h4, by simp [putCells, h5], ?_⟩⟩, h1, hbg⟩ (fun b hb => .inl hb)
  apply List.ext_getElem?
  intro i
  by_cases hi : i < n * size
  · have hi2 : i < xs'.length := by rw [hl, hlen]; exact hi
    rw [List.getElem?_take_of_lt hi, Array.getElem?_toList]
    simp [putCells, hi2, show i < cur.size by omega]
  · rw [List.getElem?_take_eq_none (by omega), List.getElem?_eq_none (by omega)]
theorem holds_row {w : World} {E size n cap g : Nat} {xs : List Value} (h : w.ownsRow 0 E size (.slice (some ⟨g, 0, none⟩) n cap) n xs) : Holds (id : Value → Value) w g 0 xs.toArray ∧ g < w.heap.size := by
  obtain ⟨hlen, hc⟩ := h
  rcases hc with ⟨hc, _⟩ | ⟨g', cap', cur, hv, hb0, hg, h3, h4, h5, h6⟩
  · cases hc
  cases hv
  refine ⟨fun j hj => ?_, (Array.getElem?_eq_some_iff.1 hg).1⟩
  have hj' : j < xs.length := by simpa using hj
  refine ⟨?_, by simp [World.frozen?, hg]⟩
  have h7 : (cur.toList.take (n * size))[j]? = xs[j]? := by rw [h6]
  rw [List.getElem?_take_of_lt (by omega)] at h7
  simp only [World.cell?, hg, Nat.zero_add, Option.isSome_none, Bool.false_eq_true, if_false]
  rw [← Array.getElem?_toList, h7]
  simp [hj']
theorem putRow_id {α : Type} [Inhabited α] (enc : α → Value) (w : World) (g : Nat) (l : List α) : putRow enc w g 0 l.toArray = putRow (id : Value → Value) w g 0 (l.map enc).toArray := by
  unfold putRow
  congr 1
  funext c
  unfold putCells
  apply Array.ext_getElem?
  intro i
  simp only [Array.getElem?_mapIdx]
  cases hc : c[i]? with
  | none => rfl
  | some v =>
    simp only [Option.map_some, Nat.zero_le, true_and, Nat.zero_add, Nat.sub_zero, List.size_toArray, List.length_map]
    split
    · rename_i hi; simp [hi]
    · rfl
theorem flatK_list {α : Type} [Inhabited α] {enc : α → List Value} {k : Nat} (hk : ∀ x, (enc x).length = k) (l : List α) : flatK enc k l.toArray = (l.flatMap enc).toArray := by
  have hl : (l.flatMap enc).length = l.length * k := flatMap_len hk l
  refine ext_get! (by simp [hl]) fun t ht => ?_
  have ht' : t < l.length * k := by simpa using ht
  have k0 : 0 < k := by rcases Nat.eq_zero_or_pos k with h | h
                        · subst h; simp at ht'
                        · exact h
  have hd : t / k < l.length := Nat.div_lt_of_lt_mul (by rw [Nat.mul_comm]; exact ht')
  have hm : t % k < k := Nat.mod_lt _ k0
  rw [get_flatK _ _ _ _ (by simpa using ht'), getBang l _ hd]
  have h2 := flatMap_get hk l (t / k) (t % k) l[t / k] (List.getElem?_eq_getElem hd) hm
  rw [Nat.div_add_mod' t k] at h2
  have hb : t < (l.flatMap enc).toArray.size := by simpa [hl] using ht'
  have h3 : (l.flatMap enc).toArray[t]! = (enc l[t / k])[t % k]! := by
    rw [getElem!_pos (l.flatMap enc).toArray t hb]
    have h4 : (l.flatMap enc)[t]? = some ((l.flatMap enc).toArray[t]'hb) := by rw [← List.getElem?_toArray]; exact Array.getElem?_eq_getElem hb
    rw [h2] at h4
    have hlt : t % k < (enc l[t / k]).length := by rw [hk]; exact hm
    rw [List.getElem?_eq_getElem hlt, Option.some.injEq] at h4
    rw [getElem!_pos (enc l[t / k]) (t % k) hlt, h4]
  rw [h3]

/-- What the sort leaves. -/
def sortL {α : Type} (cf : α → α → Int) (l : List α) : List α := l.mergeSort fun x y => !decide (cf y x < 0)
def SortP {α : Type} (E size : Nat) (enc : α → List Value) (a : Option Addr) (c : Nat) (l l' : List α) (σ : Store) : Value → Store → List Res → Prop := fun v σ' H' => v = .tuple #[] ∧ σ = σ' ∧ H' = [Res.rowS E size enc (.slice a l.length c) l']
/-- An order that tells apart whatever is not the same. -/
structure TotalCmp {α : Type} (cf : α → α → Int) : Prop where
  swo : SWO (ltOf cf)
  tot : ∀ x y, ltOf cf x y = false → ltOf cf y x = false → x = y
section
variable {α : Type} [Inhabited α] {P : Program} {ρ : Ren}
theorem Con.sort1 (L : SlLaysF.n6 P ρ) (L0 : SlLaysF0.n6 P ρ) {enc : α → Value} {encL : α → List Value} {cf : α → α → Int} {f g E c : Nat} {a : Option Addr} {l : List α} {σ : Store} (hf : ρ.f 6 = f) (he : ∀ x, encL x = [enc x]) (h1 : OneCell enc) (hO : TotalCmp cf)
    (eg : ∀ args w, (callFunc g args).run P w = .ok (.enter g args) w) (hc : ∀ x y τ, Con P g #[enc x, enc y] τ [] (PureP (.int .i64 (cf x y)) τ)) :
    Con P f #[.slice a l.length c, .func (.func g) #[] #[]] σ [Res.rowS E 1 encL (.slice a l.length c) l] (SortP E 1 encL a c l (sortL cf l) σ) := by
  subst hf
  have hflat : ∀ l : List α, l.flatMap encL = l.map enc := fun l => by
    induction l with
    | nil => rfl
    | cons x l ih => rw [List.flatMap_cons, ih, he]; rfl
  have hlen : (sortL cf l).length = l.length := List.length_mergeSort _
  intro w hw
  obtain ⟨hown, hone, hbg⟩ := hw.holds _ (List.mem_cons_self ..)
  have hsl := isSl_row hown
  rcases id hown.2 with ⟨hn, hm⟩ | ⟨g', cap', cur, hv, hb0, hg, h3, h4, h5, h6⟩
  · have hl0 : l = [] := List.eq_nil_of_length_eq_zero hm
    subst hl0
    refine (AnyF.slices_SortFunc_none L0 a c (.func (.func g) #[] #[]) w).mono fun e w' ⟨h1, h2⟩ => ⟨_, σ, _, h1, ⟨rfl, rfl, rfl⟩, ?_⟩
    subst h2
    rw [show sortL cf ([] : List α) = [] from by simp [sortL]]
    exact hw
  · cases hv
    have hH := holds_row hown
    rw [hflat] at hH
    have hHe : Holds enc w g' 0 l.toArray := fun j hj => by
      have := hH.1 j (by simpa using hj)
      have hj' : j < l.length := by simpa using hj
      simpa [hj'] using this
    have hsz : l.toArray.size < 4611686018427387904 := by simp; omega
    have := Any.slices_SortFunc_total L enc h1 cf hO.swo g #[] g' 0 c l.toArray w eg (cmpLays1_of hc) hHe hH.2 hsz hO.tot
    refine this.mono fun e w' ⟨h7, n, os, h8⟩ => ⟨_, σ, _, h7, ⟨rfl, rfl, rfl⟩, ?_⟩
    subst h8
    have h9 : (l.toArray.toList.mergeSort fun x y => !(ltOf cf) y x) = sortL cf l := rfl
    rw [h9]
    unfold sortWorld
    rw [putRow_id]
    have := Reach.sorted (h := hw) (m := n) (os := os) (xs' := (sortL cf l).map enc) (by rw [hflat, List.length_map, List.length_map, hlen]) (fun u hu => by
      obtain ⟨x, _, rfl⟩ := List.mem_map.1 hu
      exact h1 x)
    unfold Res.rowS
    rw [hflat (sortL cf l), hlen]
    exact this
theorem Con.sortK (L : SlLaysF0.n6 P ρ) {k : Nat} {enc : α → List Value} {cf : α → α → Int} {f g E c : Nat} {a : Option Addr} {l : List α} {σ : Store} (hf : ρ.f 6 = f) (aE : ∀ w, (isAgg (ρ.t 24)).run P w = .ok true w) (zE : ∀ w, (Go.sizeOf (ρ.t 24)).run P w = .ok k w) (hk : ∀ x, (enc x).length = k) (h1 : ∀ x, ∀ u ∈ enc x, u.oneCell' = true) (hO : TotalCmp cf)
    (eg : ∀ args w, (callFunc g args).run P w = .ok (.enter g args) w) (hc : ∀ x y τ, Con P g #[.agg (enc x).toArray, .agg (enc y).toArray] τ [] (PureP (.int .i64 (cf x y)) τ)) :
    Con P f #[.slice a l.length c, .func (.func g) #[] #[]] σ [Res.rowS E k enc (.slice a l.length c) l] (SortP E k enc a c l (sortL cf l) σ) := by
  subst hf
  have hlen : (sortL cf l).length = l.length := List.length_mergeSort _
  intro w hw
  obtain ⟨hown, hone, hbg⟩ := hw.holds _ (List.mem_cons_self ..)
  rcases id hown.2 with ⟨hn, hm⟩ | ⟨g', cap', cur, hv, hb0, hg, h3, h4, h5, h6⟩
  · have hl0 : l = [] := List.eq_nil_of_length_eq_zero hm
    subst hl0
    refine (AnyF.slices_SortFunc_none L a c (.func (.func g) #[] #[]) w).mono fun e w' ⟨h1, h2⟩ => ⟨_, σ, _, h1, ⟨rfl, rfl, rfl⟩, ?_⟩
    subst h2
    rw [show sortL cf ([] : List α) = [] from by simp [sortL]]
    exact hw
  · cases hv
    have hH := holds_row hown
    have hHe : HoldsK enc k w g' 0 l.toArray := by
      unfold HoldsK; rw [flatK_list hk]; exact hH.1
    have hsz : l.toArray.size < 4611686018427387904 := by simp; omega
    have := AnyQ.slices_SortFunc_total L k aE zE enc hk h1 cf hO.swo g #[] g' 0 c l.toArray w eg (cmpLays_of hc) hHe hH.2 hsz hO.tot
    refine this.mono fun e w' ⟨h7, n, os, h8⟩ => ⟨_, σ, _, h7, ⟨rfl, rfl, rfl⟩, ?_⟩
    subst h8
    have h9 : (l.toArray.toList.mergeSort fun x y => !(ltOf cf) y x) = sortL cf l := rfl
    rw [h9]
    unfold sortWorldK putRowK
    rw [flatK_list hk]
    have := Reach.sorted (h := hw) (m := n) (os := os) (xs' := (sortL cf l).flatMap enc) (by rw [flatMap_len hk, flatMap_len hk, hlen]) (fun u hu => by
      obtain ⟨x, _, hx⟩ := List.mem_flatMap.1 hu
      exact h1 x u hx)
    unfold Res.rowS
    rw [hlen]
    exact this
end
end Go.E
end

/- Pl -/
section
/- Plain lemmas on rounds. No program, no condition. -/
set_option linter.unusedVariables false
set_option linter.unusedSimpArgs false
namespace Go.E
open Go

section
variable {S R : Type} {step : S → Option (S ⊕ R)}
/-- Rounds that count, and may stop at the first that tells. -/
theorem iter_any {y no : R} (f : Nat → S) (p : Nat → Bool) (n : Nat) (hs : ∀ k, k < n → p k = false → step (f k) = some (.inl (f (k + 1)))) (hy : ∀ k, k < n → p k = true → step (f k) = some (.inr y))
    (hd : step (f n) = some (.inr no)) : ∀ k, k ≤ n → iter step (f k) = some (bif (List.range n).any (fun i => decide (k ≤ i) && p i) then y else no) := by
  intro k hk
  obtain ⟨m, rfl⟩ : ∃ m, k = n - m := ⟨n - k, by omega⟩
  induction m with
  | zero =>
    have : (List.range n).any (fun i => decide (n - 0 ≤ i) && p i) = false := by
      rw [List.any_eq_false]; intro i hi; have := List.mem_range.1 hi; simp; omega
    rw [this]; exact iter_done hd
  | succ m ih =>
    by_cases h : m < n
    · have e : n - (m + 1) + 1 = n - m := by omega
      cases hp : p (n - (m + 1)) with
      | true =>
        have : (List.range n).any (fun i => decide (n - (m + 1) ≤ i) && p i) = true := by
          rw [List.any_eq_true]; exact ⟨n - (m + 1), List.mem_range.2 (by omega), by simp [hp]⟩
        rw [this]; exact iter_done (hy _ (by omega) hp)
      | false =>
        have h1 := hs (n - (m + 1)) (by omega) hp
        rw [e] at h1
        have : (List.range n).any (fun i => decide (n - (m + 1) ≤ i) && p i) = (List.range n).any (fun i => decide (n - m ≤ i) && p i) := by
          rw [Bool.eq_iff_iff, List.any_eq_true, List.any_eq_true]
          constructor
          · rintro ⟨i, hi, hx⟩
            simp only [Bool.and_eq_true, decide_eq_true_eq] at hx
            refine ⟨i, hi, ?_⟩
            have : i ≠ n - (m + 1) := fun h => by rw [h, hp] at hx; exact absurd hx.2 Bool.false_ne_true
            simp [hx.2]; omega
          · rintro ⟨i, hi, hx⟩
            simp only [Bool.and_eq_true, decide_eq_true_eq] at hx
            exact ⟨i, hi, by simp [hx.2]; omega⟩
        rw [this]
        exact iter_next h1 (ih (by omega))
    · have e : n - (m + 1) = n - m := by omega
      rw [e]; exact ih (by omega)
theorem iter_any0 {y no : R} (f : Nat → S) (p : Nat → Bool) (n : Nat) (hs : ∀ k, k < n → p k = false → step (f k) = some (.inl (f (k + 1)))) (hy : ∀ k, k < n → p k = true → step (f k) = some (.inr y))
    (hd : step (f n) = some (.inr no)) : iter step (f 0) = some (bif (List.range n).any p then y else no) := by
  have := iter_any f p n hs hy hd 0 (by omega)
  simpa using this
theorem iter_seq0 {r : R} (f : Nat → S) (n : Nat) (hs : ∀ k, k < n → step (f k) = some (.inl (f (k + 1)))) (hd : step (f n) = some (.inr r)) : iter step (f 0) = some r := iter_seq f n hs hd 0 (by omega)
end

/-- What a list's elements tell, asked by place. -/
theorem range_any {α : Type} (l : List α) (d : α) (p : α → Bool) : (List.range l.length).any (fun i => p (nth l i d)) = l.any p := by
  rw [Bool.eq_iff_iff, List.any_eq_true, List.any_eq_true]
  constructor
  · rintro ⟨i, hi, h⟩
    have hi := List.mem_range.1 hi
    exact ⟨nth l i d, List.mem_of_getElem? (getD_some l hi d), h⟩
  · rintro ⟨x, hx, h⟩
    obtain ⟨i, hi, rfl⟩ := List.getElem_of_mem hx
    refine ⟨i, List.mem_range.2 hi, ?_⟩
    have : nth l i d = l[i] := by have := getD_some l hi d; rw [List.getElem?_eq_getElem hi] at this; exact (Option.some.inj this).symm
    rw [this]; exact h
theorem take_snoc {α : Type} (l : List α) {k : Nat} (h : k < l.length) (d : α) : l.take (k + 1) = l.take k ++ [nth l k d] := by
  rw [List.take_add_one, getD_some l h d]; rfl
theorem nth_mem' {α : Type} {l : List α} {i : Nat} (h : i < l.length) (d : α) : nth l i d ∈ l := List.mem_of_getElem? (getD_some l h d)
end Go.E
end

/- Ord -/
section
/- Whole orders. Plain lemmas, no condition. -/
set_option linter.unusedVariables false
set_option linter.unusedSimpArgs false
namespace Go.Proofs.YtcfjjckencjjeaaGreat
open Go Go.E Go.Sort
set_option maxRecDepth 100000

structure GoodCmp {α : Type} (c : α → α → Int) : Prop where
  eq : ∀ x y, c x y = 0 ↔ x = y
  anti : ∀ x y, c x y < 0 ↔ 0 < c y x
  trans : ∀ x y z, c x y < 0 → c y z < 0 → c x z < 0
theorem GoodCmp.total {α : Type} {c : α → α → Int} (h : GoodCmp c) : TotalCmp c where
  swo := {
    irrefl := fun x => by have := (h.eq x x).2 rfl; simp [ltOf, this]
    trans := fun x y z h1 h2 => by
      simp only [ltOf, decide_eq_true_eq] at *
      exact h.trans x y z h1 h2
    ntrans := fun x y z h1 h2 => by
      simp only [ltOf, decide_eq_false_iff_not] at *
      intro h3
      by_cases e1 : x = y
      · subst e1; exact h2 h3
      · by_cases e2 : y = z
        · subst e2; exact h1 h3
        · have n1 : c x y ≠ 0 := fun e => e1 ((h.eq _ _).1 e)
          have n2 : c y z ≠ 0 := fun e => e2 ((h.eq _ _).1 e)
          have h4 : c z y < 0 := (h.anti _ _).2 (by omega)
          exact h1 (h.trans _ _ _ h3 h4) }
  tot := fun x y h1 h2 => by
    simp only [ltOf, decide_eq_false_iff_not] at *
    refine (h.eq x y).1 ?_
    have := (h.anti y x)
    omega
def corI (a b : Int) : Int := if a ≠ 0 then a else b
theorem GoodCmp.lex {α β γ : Type} {c : β → β → Int} {d : γ → γ → Int} (hc : GoodCmp c) (hd : GoodCmp d) (f : α → β) (g : α → γ) (hfg : ∀ x y, f x = f y → g x = g y → x = y) : GoodCmp fun x y => corI (c (f x) (f y)) (d (g x) (g y)) where
  eq x y := by
    unfold corI
    by_cases h : c (f x) (f y) = 0
    · have hf := (hc.eq _ _).1 h
      simp only [h, ne_eq, not_true_eq_false, if_false, hd.eq]
      exact ⟨fun hg => hfg x y hf hg, fun e => by rw [e]⟩
    · simp only [ne_eq, h, not_false_eq_true, if_true, false_iff]
      intro e; subst e; exact h ((hc.eq _ _).2 rfl)
  anti x y := by
    unfold corI
    have h1 := hc.anti (f x) (f y)
    have h2 := hc.anti (f y) (f x)
    have h3 := hd.anti (g x) (g y)
    by_cases h : c (f x) (f y) = 0
    · have hf := (hc.eq _ _).1 h
      have h' : c (f y) (f x) = 0 := (hc.eq _ _).2 hf.symm
      simp only [h, h', ne_eq, not_true_eq_false, if_false]; exact h3
    · have h' : c (f y) (f x) ≠ 0 := fun e => h ((hc.eq _ _).2 ((hc.eq _ _).1 e).symm)
      simp only [h, h', ne_eq, not_false_eq_true, if_true]; exact h1
  trans x y z := by
    unfold corI
    intro h1 h2
    by_cases a : c (f x) (f y) = 0
    · have ea := (hc.eq _ _).1 a
      rw [a] at h1; simp only [ne_eq, not_true_eq_false, if_false] at h1
      rw [ea]
      by_cases b : c (f y) (f z) = 0
      · rw [b] at h2 ⊢
        simp only [ne_eq, not_true_eq_false, if_false] at h2 ⊢
        exact hd.trans _ _ _ h1 h2
      · simp only [ne_eq, b, not_false_eq_true, if_true] at h2 ⊢; exact h2
    · simp only [ne_eq, a, not_false_eq_true, if_true] at h1
      by_cases b : c (f y) (f z) = 0
      · have eb := (hc.eq _ _).1 b
        rw [← eb]
        simp only [ne_eq, a, not_false_eq_true, if_true]; exact h1
      · simp only [ne_eq, b, not_false_eq_true, if_true] at h2
        have h3 := hc.trans _ _ _ h1 h2
        have h4 : c (f x) (f z) ≠ 0 := by omega
        simp only [ne_eq, h4, not_false_eq_true, if_true]; exact h3
def cmpI (x y : Int) : Int := if x < y then -1 else if y < x then 1 else 0
theorem cmpI_good : GoodCmp cmpI where
  eq x y := by unfold cmpI; (repeat' split) <;> omega
  anti x y := by unfold cmpI; (repeat' split) <;> omega
  trans x y z := by unfold cmpI; (repeat' split) <;> omega
def cmpN (x y : Nat) : Int := if x < y then -1 else if y < x then 1 else 0
theorem cmpN_good : GoodCmp cmpN where
  eq x y := by unfold cmpN; (repeat' split) <;> omega
  anti x y := by unfold cmpN; (repeat' split) <;> omega
  trans x y z := by unfold cmpN; (repeat' split) <;> omega
theorem cmpB_eq : ∀ a b : List UInt8, Lib.compareBytes a b = 0 ↔ a = b
  | [], [] => by simp [Lib.compareBytes]
  | [], _ :: _ => by simp [Lib.compareBytes]
  | _ :: _, [] => by simp [Lib.compareBytes]
  | x :: a, y :: b => by
    simp only [Lib.compareBytes]
    split
    · rename_i h; simp; intro e; subst e; exact absurd h (UInt8.lt_irrefl _)
    · rename_i h
      split
      · rename_i h'; simp; intro e; subst e; exact absurd h' (UInt8.lt_irrefl _)
      · rename_i h'
        have : x = y := UInt8.le_antisymm (UInt8.not_lt.1 h') (UInt8.not_lt.1 h)
        subst this
        simp [cmpB_eq a b]
theorem cmpB_anti : ∀ a b : List UInt8, Lib.compareBytes a b < 0 ↔ 0 < Lib.compareBytes b a
  | [], [] => by simp [Lib.compareBytes]
  | [], _ :: _ => by simp [Lib.compareBytes]
  | _ :: _, [] => by simp [Lib.compareBytes]
  | x :: a, y :: b => by
    simp only [Lib.compareBytes]
    by_cases h : x < y
    · have h' : ¬ y < x := fun h2 => UInt8.lt_irrefl _ (UInt8.lt_trans h h2)
      simp [h, h']
    · by_cases h' : y < x
      · simp [h, h']
      · simp [h, h', cmpB_anti a b]
theorem cmpB_trans : ∀ a b c : List UInt8, Lib.compareBytes a b < 0 → Lib.compareBytes b c < 0 → Lib.compareBytes a c < 0
  | [], [], c, h, _ => by simp [Lib.compareBytes] at h
  | [], _ :: _, [], _, h => by simp [Lib.compareBytes] at h
  | [], _ :: _, _ :: _, _, _ => by simp [Lib.compareBytes]
  | _ :: _, [], c, h, _ => by simp [Lib.compareBytes] at h
  | _ :: _, _ :: _, [], _, h => by simp [Lib.compareBytes] at h
  | x :: a, y :: b, z :: c, h1, h2 => by
    simp only [Lib.compareBytes] at *
    by_cases hxy : x < y
    · by_cases hyz : y < z
      · have := UInt8.lt_trans hxy hyz; simp [this]
      · by_cases hzy : z < y
        · simp [hyz, hzy] at h2
        · have : y = z := UInt8.le_antisymm (UInt8.not_lt.1 hzy) (UInt8.not_lt.1 hyz)
          subst this; simp [hxy]
    · by_cases hyx : y < x
      · simp [hxy, hyx] at h1
      · have : x = y := UInt8.le_antisymm (UInt8.not_lt.1 hyx) (UInt8.not_lt.1 hxy)
        subst this
        simp only [UInt8.lt_irrefl, if_false] at h1
        by_cases hyz : x < z
        · simp [hyz]
        · by_cases hzy : z < x
          · simp [hyz, hzy] at h2
          · simp only [hyz, hzy, if_false] at h2 ⊢
            exact cmpB_trans a b c h1 h2
theorem cmpB_good : GoodCmp Lib.compareBytes := ⟨cmpB_eq, cmpB_anti, cmpB_trans⟩
def cmpBool (x y : Bool) : Int := cmpI (if x then 1 else 0) (if y then 1 else 0)
theorem cmpBool_good : GoodCmp cmpBool where
  eq x y := by cases x <;> cases y <;> decide
  anti x y := by cases x <;> cases y <;> decide
  trans x y z := by cases x <;> cases y <;> cases z <;> decide

theorem lt_dec {k n : Nat} (h : k < n) : decide (((k : Nat) : Int) < ((n : Nat) : Int)) = true := decide_eq_true (by omega)
theorem cmpI_lt {x y : Int} : cmpI x y < 0 ↔ x < y := by unfold cmpI; (repeat' split) <;> omega
end Go.Proofs.YtcfjjckencjjeaaGreat
end

/- F2p -/
section
/- What the program compares by: whole orders. Plain. -/
set_option linter.unusedVariables false
set_option linter.unusedSimpArgs false
namespace Go.Proofs.YtcfjjckencjjeaaGreat
open Go Go.E Go.Sort
set_option maxRecDepth 100000

theorem cmp_Compare_eq (x y : Int) : cmp_Compare x y = some (cmpI x y) := by
  unfold cmp_Compare cmp_isNaN cmpI
  simp only [bnd, Option.bind_some, ne_eq, not_true_eq_false, decide_false, iteO_false]
  by_cases h : x < y
  · simp [h]
  · by_cases h' : y < x <;> simp [h, h']
theorem compareU_eq (x y : Nat) : compareU x y = some (cmpN x y) := by
  unfold compareU isNaNU cmpN
  simp only [bnd, Option.bind_some, ne_eq, not_true_eq_false, decide_false, iteO_false]
  by_cases h : x < y
  · simp [h]
  · by_cases h' : y < x <;> simp [h, h']
theorem strings_Compare_eq (x y : List UInt8) : strings_Compare x y = some (Lib.compareBytes x y) := rfl
def orL : List Int → Int
  | [] => 0
  | a :: l => corI a (orL l)
theorem cmp_Or_from (l : List Int) : ∀ m k, l.length = k + m → iter (fun q : Nat => cmp_Or_b1 l q) k = some (orL (l.drop k)) := by
  intro m
  induction m with
  | zero =>
    intro k hk
    refine iter_done ?_
    rw [List.drop_of_length_le (by omega)]
    simp only [cmp_Or_b1, decide_eq_false (show ¬ ((k : Nat) : Int) < ((l.length : Nat) : Int) by omega), iteO_false]; rfl
  | succ m ih =>
    intro k hk
    have hlt : k < l.length := by omega
    have hd : l.drop k = nth l k 0 :: l.drop (k + 1) := by
      rw [List.drop_eq_getElem_cons hlt]
      have := getD_some l hlt 0
      rw [List.getElem?_eq_getElem hlt, Option.some.injEq] at this
      rw [this]
    rw [hd, orL, corI]
    by_cases h : nth l k 0 ≠ 0
    · rw [if_pos h]
      refine iter_done ?_
      simp only [cmp_Or_b1, decide_eq_true (show ((k : Nat) : Int) < ((l.length : Nat) : Int) by omega), iteO_true, decide_eq_true h]; rfl
    · rw [if_neg h]
      refine iter_next (s' := k + 1) ?_ (ih (k + 1) (by omega))
      simp only [cmp_Or_b1, decide_eq_true (show ((k : Nat) : Int) < ((l.length : Nat) : Int) by omega), iteO_true, decide_eq_false h]; rfl
theorem cmp_Or_eq (l : List Int) : cmp_Or l = some (orL l) := by
  unfold cmp_Or; rw [cmp_Or_from l l.length 0 (by omega), List.drop_zero]

def cmpTip (x y : Tip) : Int := corI (cmpI x.state y.state) (corI (Lib.compareBytes x.out y.out) 0)
theorem compareTips_eq (x y : Tip) : fst_compareTips x y = some (cmpTip x y) := by
  unfold fst_compareTips
  rw [bnd_some (cmp_Compare_eq _ _), bnd_some (strings_Compare_eq _ _), bnd_some (cmp_Or_eq _)]; rfl
theorem corI_zero (a : Int) : corI a 0 = a := by unfold corI; split <;> omega
theorem cmpTip_good : GoodCmp cmpTip := by
  have := GoodCmp.lex cmpI_good cmpB_good Tip.state Tip.out (fun x y h1 h2 => by cases x; cases y; simp_all)
  have e : cmpTip = fun x y => corI (cmpI x.state y.state) (Lib.compareBytes x.out y.out) := by
    funext x y; unfold cmpTip; rw [corI_zero]
  rw [e]; exact this
def cmpSet (s t : BSet) : Int := corI (cmpN s.a t.a) (corI (cmpN s.b t.b) (corI (cmpN s.c t.c) (cmpN s.d t.d)))
theorem compareUs_four (a b c d a' b' c' d' : Nat) : compareUs [a, b, c, d] [a', b', c', d'] = some (corI (cmpN a a') (corI (cmpN b b') (corI (cmpN c c') (cmpN d d')))) := by
  have st : ∀ (k x y : Nat), k < 4 → nth [a, b, c, d] k 0 = x → nth [a', b', c', d'] k 0 = y → (cmpN x y ≠ 0 → iter (fun q : Nat => compareUs_b1 [a, b, c, d] [a', b', c', d'] q) k = some (cmpN x y)) ∧ (∀ r, cmpN x y = 0 → iter (fun q : Nat => compareUs_b1 [a, b, c, d] [a', b', c', d'] q) (k + 1) = some r → iter (fun q : Nat => compareUs_b1 [a, b, c, d] [a', b', c', d'] q) k = some r) := by
    intro k x y hk hx hy
    have e1 : ((k : Nat) : Int) < (([a, b, c, d].length : Nat) : Int) := by simp; omega
    have e2 : ¬ (([a', b', c', d'].length : Nat) : Int) ≤ ((k : Nat) : Int) := by simp; omega
    refine ⟨fun h => iter_done ?_, fun r h hr => iter_next (s' := k + 1) ?_ hr⟩
    · simp only [compareUs_b1, decide_eq_true e1, iteO_true, decide_eq_false e2, iteO_false]
      rw [grd_mk (by simp; omega), hx, hy, bnd_some (compareU_eq _ _), decide_eq_true h]; rfl
    · simp only [compareUs_b1, decide_eq_true e1, iteO_true, decide_eq_false e2, iteO_false]
      rw [grd_mk (by simp; omega), hx, hy, bnd_some (compareU_eq _ _), h]; rfl
  have fi : iter (fun q : Nat => compareUs_b1 [a, b, c, d] [a', b', c', d'] q) 4 = some 0 := iter_done (by simp [compareUs_b1])
  have go : ∀ (k x y : Nat) (r : Int), k < 4 → nth [a, b, c, d] k 0 = x → nth [a', b', c', d'] k 0 = y → iter (fun q : Nat => compareUs_b1 [a, b, c, d] [a', b', c', d'] q) (k + 1) = some r → iter (fun q : Nat => compareUs_b1 [a, b, c, d] [a', b', c', d'] q) k = some (corI (cmpN x y) r) := by
    intro k x y r hk hx hy hr
    obtain ⟨h1, h2⟩ := st k x y hk hx hy
    by_cases h : cmpN x y = 0
    · rw [show corI (cmpN x y) r = r from by simp [corI, h]]; exact h2 r h hr
    · rw [show corI (cmpN x y) r = cmpN x y from by simp [corI, h]]; exact h1 h
  have h3 := go 3 d d' 0 (by omega) rfl rfl fi
  rw [corI_zero] at h3
  exact go 0 a a' _ (by omega) rfl rfl (go 1 b b' _ (by omega) rfl rfl (go 2 c c' _ (by omega) rfl rfl h3))
theorem cmpSet_good : GoodCmp cmpSet := by
  have h1 := GoodCmp.lex (α := Nat × Nat) cmpN_good cmpN_good Prod.fst Prod.snd (fun x y h1 h2 => Prod.ext h1 h2)
  have h2 := GoodCmp.lex (α := Nat × Nat × Nat) cmpN_good h1 Prod.fst Prod.snd (fun x y h1 h2 => Prod.ext h1 h2)
  have h3 := GoodCmp.lex (α := BSet) cmpN_good h2 BSet.a (fun s => (s.b, s.c, s.d)) (fun x y h1 h2 => by
    cases x; cases y; simp_all)
  exact h3
def cmpArc (x y : Arc) : Int := corI (cmpI x.frm y.frm) (corI (cmpI x.to y.to) (corI (cmpSet x.set y.set) (corI (Lib.compareBytes x.out y.out) (corI (cmpBool x.copy y.copy) 0))))
theorem fst_number_eq (b : Bool) : fst_number b = some (if b then 1 else 0) := by cases b <;> rfl
theorem compareArcs_eq (x y : Arc) : fst_compareArcs x y = some (cmpArc x y) := by
  unfold fst_compareArcs
  rw [bnd_some (cmp_Compare_eq _ _), bnd_some (cmp_Compare_eq _ _), bnd_some (compareUs_four ..), bnd_some (strings_Compare_eq _ _), bnd_some (fst_number_eq _), bnd_some (fst_number_eq _), bnd_some (cmp_Compare_eq _ _), bnd_some (cmp_Or_eq _)]; rfl
theorem cmpArc_good : GoodCmp cmpArc := by
  have h1 := GoodCmp.lex (α := List UInt8 × Bool) cmpB_good cmpBool_good Prod.fst Prod.snd (fun x y h1 h2 => Prod.ext h1 h2)
  have h2 := GoodCmp.lex (α := BSet × List UInt8 × Bool) cmpSet_good h1 Prod.fst Prod.snd (fun x y h1 h2 => Prod.ext h1 h2)
  have h3 := GoodCmp.lex (α := Int × BSet × List UInt8 × Bool) cmpI_good h2 Prod.fst Prod.snd (fun x y h1 h2 => Prod.ext h1 h2)
  have h4 := GoodCmp.lex (α := Arc) cmpI_good h3 Arc.frm (fun s => (s.to, s.set, s.out, s.copy)) (fun x y h1 h2 => by
    cases x; cases y; simp_all)
  have e : cmpArc = fun x y => corI (cmpI x.frm y.frm) (corI (cmpI x.to y.to) (corI (cmpSet x.set y.set) (corI (Lib.compareBytes x.out y.out) (cmpBool x.copy y.copy)))) := by
    funext x y; unfold cmpArc; rw [corI_zero]
  rw [e]; exact h4
end Go.Proofs.YtcfjjckencjjeaaGreat
end

/- F3s -/
section
/- The library's sort at the types that the program sorts. Conditions: none. -/
set_option linter.unusedVariables false
set_option linter.unusedSimpArgs false
namespace Go.Proofs.YtcfjjckencjjeaaGreat
open Go Go.E
set_option maxRecDepth 100000
instance : Inhabited Tip := ⟨Tip.zero⟩
instance : Inhabited Arc := ⟨Arc.zero⟩
theorem sortT_con {σ : Store} {a : Option Addr} {c : Nat} {l : List Tip} : Con Tryz.prog 64 #[.slice a l.length c, .func (.func 56) #[] #[]] σ [Res.rowS 43 2 encTip (.slice a l.length c) l] (SortP 43 2 encTip a c l (sortL cmpTip l) σ) :=
  Con.sortK (k := 2) layT0 rfl Tryz.isAgg43 Tryz.sizeOf43 encTip_len encTip_one cmpTip_good.total (fun args w => run_callFunc (by kernel_rfl) args w) (fun x y τ => fst_compareTips_con (compareTips_eq x y))
theorem sortA_con {σ : Store} {a : Option Addr} {c : Nat} {l : List Arc} : Con Tryz.prog 70 #[.slice a l.length c, .func (.func 58) #[] #[]] σ [Res.rowS 38 8 encArc (.slice a l.length c) l] (SortP 38 8 encArc a c l (sortL cmpArc l) σ) :=
  Con.sortK (k := 8) layA0 rfl Tryz.isAgg38 Tryz.sizeOf38 encArc_len encArc_one cmpArc_good.total (fun args w => run_callFunc (by kernel_rfl) args w) (fun x y τ => fst_compareArcs_con (compareArcs_eq x y))
end Go.Proofs.YtcfjjckencjjeaaGreat
end

/- Dec10 -/
section
/- More of rows in a row. Plain lemmas over any program; no condition. -/
set_option linter.unusedVariables false
set_option linter.unusedSimpArgs false
namespace Go.E
open Go
section
variable {β : Type} {E' E size : Nat} {enc : β → List Value} {v : Value}
theorem sees_nestX {σ : Store} {H : List Res} {q i : Nat} {z : List (NP β)} (hq : H[q]? = some (Res.nestX E' E size enc v z i)) (w : World) (h : Sees σ H w) : Sees σ [Res.rowS E' 1 encN v z] w :=
  ⟨h.1, fun r hr => by
    simp at hr; subst hr
    exact h.2 _ (List.mem_of_getElem? hq) _ (List.mem_cons_self ..)⟩
theorem isSl_nestX {σ : Store} {H : List Res} {q i : Nat} {z : List (NP β)} {l : List (List β)} (hq : H[q]? = some (Res.nestX E' E size enc v z i)) (hZ : Zn z l) (w : World) (h : Sees σ H w) : IsSl v l.length ∧ l.length ≤ 281474976710656 := by
  have := isSl_seen (H := H) (sees_nestX hq w h)
  rw [hZ.len] at this; exact this
end
/-- A drawn region of which only a part of the resources stays as it is. -/
theorem TC.drawR {X : Ctx} {Q : QP} {id : Nat} {ops : Array Oper} {e : Env} {σ : Store} {H Hr : List Res} (hs : ∀ r ∈ Hr, r ∈ H) (late : List Nat) (hm : X.P.follows .mixedOrders = true) (h : TA X ops Q σ Hr late ops.size (Array.replicate ops.size false) e σ H) (hnd : noDeferB ops = true := by kernel_rfl) : TC X Q (.region id ops true) e σ H := fun w a hw ha =>
  Go.wpIn_mono (wpIn_region_any hm (wpAny_of_late _ _ _ _ (h (noDefer_of hnd) w.drew a hw.drew (sees_of (Store.le.refl _) hs _ hw.drew.sees) (closed_start _ _) ha))) fun ex a w h => by
    cases ex <;> first | exact h | exact h.elim
section
variable {P : Program} {n : Nat} {e : Env} {σ : Store} {H : List Res} {o : Oper} {x y : Operand} {T T' : TypeId} {k : IntKind} {a b : Int}
theorem OpVal.quoW (ho : o.op = .binOp .quo T x y T') (hx : ev e x = .int k a) (hy : ev e y = .int k b) (h : b ≠ 0) : OpVal P n o e σ H (.int k (k.wrap (a.tdiv b))) := .bin ho hx hy fun w => by simp [binOp, Op.intDiv, h]
end
theorem bytesLess_eq : ∀ l m : List UInt8, Op.bytesLess l m = decide (Lib.compareBytes l m < 0)
  | [], [] => by simp [Op.bytesLess, Lib.compareBytes]
  | _ :: _, [] => by simp [Op.bytesLess, Lib.compareBytes]
  | [], _ :: _ => by simp [Op.bytesLess, Lib.compareBytes]
  | a :: x, b :: y => by
    simp only [Op.bytesLess, Lib.compareBytes, bytesLess_eq x y]
    by_cases h : a < b
    · simp [h]
    · by_cases h' : b < a
      · have : ¬ a = b := fun e => by subst e; exact h h'
        simp [h, h', this]
      · have : a = b := UInt8.le_antisymm (UInt8.not_lt.1 h') (UInt8.not_lt.1 h)
        subst this
        simp [h]
theorem OpVal.lssBs {P : Program} {n : Nat} {e : Env} {σ : Store} {H : List Res} {o : Oper} {x y : Operand} {l m : List UInt8} {T T' : TypeId} (ho : o.op = .binOp .lss T x y T') (hx : ev e x = .string (bs l)) (hy : ev e y = .string (bs m)) : OpVal P n o e σ H (.bool (decide (Lib.compareBytes l m < 0))) := fun w _ => by
  simp only [execOp, ho, hx, hy, Sem.run_bind, run_eqGuard_str, Result.andThen_ok, binOp, Op.stringOp, ByteArray.toList_eq, bs_list, bytesLess_eq, Sem.run_pure]
/-- A word of a set that lies within a variable. -/
theorem OpVal.loadWordAt {P : Program} {n : Nat} {e : Env} {σ : Store} {H : List Res} {o : Oper} {x : Operand} {T b E i j off : Nat} {cs : Array Value} (s : BSet) (ho : o.op = .load T x) (hA : aggOf P T = some false) (hx : ev e x = loc b (off + i * 1)) (hi : H[j]? = some (Res.cells b cs E)) (hk : i < 4)
    (hc : (cs.toList.drop off).take 4 = s.vals) : OpVal P n o e σ H (.int .u64 ((s.word i : Nat) : Int)) := by
  refine OpVal.loadLoc ho hA hx hi ?_
  have h1 : ((cs.toList.drop off).take 4)[i]? = some (.int .u64 ((s.word i : Nat) : Int)) := by
    rw [hc]
    match i, hk with
    | 0, _ => rfl
    | 1, _ => rfl
    | 2, _ => rfl
    | 3, _ => rfl
  rw [List.getElem?_take, if_pos hk, List.getElem?_drop] at h1
  rw [Nat.mul_one]; simpa using h1
end Go.E
end

/- F3 -/
section
/- Decompiled: things in order, each once; what goes in; what comes out. -/
set_option linter.unusedVariables false
set_option linter.unusedSimpArgs false
namespace Go.Proofs.YtcfjjckencjjeaaGreat
open Go Go.E Go.E.OpVal Go.E.OpOk Go.Proofs.Tryz
set_option maxRecDepth 100000
private theorem ag25 : Go.E.aggOf Tryz.prog 25 = some true := by kernel_rfl
private theorem by38 : Go.E.byOf Tryz.prog 38 = some 72 := by kernel_rfl
private theorem by43 : Go.E.byOf Tryz.prog 43 = some 24 := by kernel_rfl
private theorem eg38 : Tryz.prog.eqGuardType Tryz.prog.depth 38 = false := by kernel_rfl
private theorem eg43 : Tryz.prog.eqGuardType Tryz.prog.depth 43 = false := by kernel_rfl
private theorem es38 (x y : Arc) : Go.E.EqAt Tryz.prog 3 38 (.agg (Go.E.encArc x).toArray) (.agg (Go.E.encArc y).toArray) (decide (x = y)) :=
 (EqAt.struct (ts := [(false, 3, 0), (false, 3, 1), (false, 36, 2), (false, 9, 6), (false, 4, 7)]) (by kernel_rfl) (by kernel_rfl) (by kernel_rfl) (EqC.one (by kernel_rfl) rfl rfl (EqAt.int underlying3 x.frm y.frm |>.up (by decide)) (EqC.one (by kernel_rfl) rfl rfl (EqAt.int underlying3 x.to y.to |>.up (by decide)) (EqC.agg (s := 4) (us := Go.E.setA x.set) (vs := Go.E.setA y.set) (by kernel_rfl) (by kernel_rfl) rfl rfl (EqAt.set underlying36 underlying34 (by kernel_rfl) (by kernel_rfl) x.set y.set) (EqC.one (by kernel_rfl) rfl rfl (EqAt.str underlying9 x.out y.out |>.up (by decide)) (EqC.one (by kernel_rfl) rfl rfl (EqAt.bool underlying4 x.copy y.copy |>.up (by decide)) EqC.nil)))))).of (by rw [Bool.eq_iff_iff]; cases x; cases y; simp)
private theorem es43 (x y : Tip) : Go.E.EqAt Tryz.prog 2 43 (.agg (Go.E.encTip x).toArray) (.agg (Go.E.encTip y).toArray) (decide (x = y)) :=
 (EqAt.struct (ts := [(false, 3, 0), (false, 9, 1)]) (by kernel_rfl) (by kernel_rfl) (by kernel_rfl) (EqC.one (by kernel_rfl) rfl rfl (EqAt.int underlying3 x.state y.state) (EqC.one (by kernel_rfl) rfl rfl (EqAt.str underlying9 x.out y.out) EqC.nil))).of (by rw [Bool.eq_iff_iff]; cases x; cases y; simp)
private theorem pf37 : Go.E.plainF Tryz.prog 37 = true := by kernel_rfl
private theorem pf55 : Go.E.plainF Tryz.prog 55 = true := by kernel_rfl
private theorem pf57 : Go.E.plainF Tryz.prog 57 = true := by kernel_rfl
private theorem pf63 : Go.E.plainF Tryz.prog 63 = true := by kernel_rfl
private theorem pf64 : Go.E.plainF Tryz.prog 64 = true := by kernel_rfl
private theorem pf65 : Go.E.plainF Tryz.prog 65 = true := by kernel_rfl
private theorem pf69 : Go.E.plainF Tryz.prog 69 = true := by kernel_rfl
private theorem pf70 : Go.E.plainF Tryz.prog 70 = true := by kernel_rfl
private theorem pf71 : Go.E.plainF Tryz.prog 71 = true := by kernel_rfl
private theorem pl25 : Go.E.plOf Tryz.prog 25 = some #[(0, 1), (1, 1), (2, 1), (3, 1)] := by kernel_rfl
private theorem sz25 : Go.E.szOf Tryz.prog 25 = some 4 := by kernel_rfl
private theorem ze25 : Go.E.zeroOf Tryz.prog 25 = some (.agg #[.int .i64 0, .slice none 0 0, .slice none 0 0, .slice none 0 0]) := by kernel_rfl

theorem cloneT_con {σ : Store} {a : Option Addr} {c : Nat} {l : List Tip} (hl : RS σ 2 encTip (.slice a l.length c) l) (hsz : l.length * 24 ≤ 140737488355328) :
  Con Tryz.prog 63 #[.slice a l.length c] σ [] (RowP 43 2 encTip l σ) := by
 have hb := hl.rv.big
 refine Con.mk (n := 8) Tryz.func63 z z z (fun w0 => ?_)
 refine TC.a (TL.s z z (TL.nilS 43 2 encTip (TL.en (TC.seq (TC.a (TL.s z z (TL.w z (eqlNilSl z underlying22 z z) (TL.en (TC.cond z (fun h2 => ?_) (fun h2 => ?_))))))))))
 ·refine TC.a (TL.s z z (TL.nilS 43 2 encTip (TL.en (TC.ret (S.r ?_)))))
  cases a with
  | some _ => simp at h2
  | none =>
   obtain rfl := hl.none_nil
   exact ret1R z z
 ·refine TC.skip (S.n (TC.a (TL.op z (lit0 (enc := encTip) z z underlying22 sz43 z z (fun a4 c5 => ?_)))))
  refine TL.s z z (TL.op z (appendS z z underlying22 sz43 by43 ze43 z z (by decide) z z z (.inl hl) (by simpa using hsz) (by decide) (fun a7 c8 => ?_)))
  exact TL.s z z (TL.en (TC.ret (ret1R z z)))

noncomputable def compactT_j1 (k125 : Nat) (l128 : List Tip) (k130 : Nat) : Option (((List Tip) × Nat × Nat) ⊕ ((Nat) ⊕ ((List Tip)))) :=
 nxt (l128, k130, (k125 + 1))
noncomputable def compactT_b2 (x0 : List Tip) (k105 : Nat) (l122 : List Tip) (k124 : Nat) (k125 : Nat) : Option (((List Tip) × Nat × Nat) ⊕ ((Nat) ⊕ ((List Tip)))) :=
 iteO (decide (((k125 : Nat) : Int) < (((x0.length - k105) : Nat) : Int))) (grd (k125 < (x0.length - k105)) (grd (0 ≤ (IntKind.i64.wrap (((k125 : Nat) : Int) - 1)) ∧ (IntKind.i64.wrap (((k125 : Nat) : Int) - 1)) < ((x0.length - k105) : Nat)) (iteO (decide (¬ ((nth l122 (k105 + k125) Tip.zero) = (nth l122 (k105 + (IntKind.i64.wrap (((k125 : Nat) : Int) - 1)).toNat) Tip.zero)))) (grd (k125 < (x0.length - k105)) (grd (k124 < l122.length) (compactT_j1 k125 (l122.set k124 (nth l122 (k105 + k125) Tip.zero)) (k124 + 1)))) (compactT_j1 k125 l122 k124)))) (fin (grd (k124 ≤ x0.length) (grd (k124 ≤ (l122.take k124 ++ List.replicate (l122.length - k124) Tip.zero).length) (fin (some ((l122.take k124 ++ List.replicate (l122.length - k124) Tip.zero).take k124))))))
noncomputable def compactT_b1 (x0 : List Tip) (k105 : Nat) : Option ((Nat) ⊕ ((List Tip))) :=
 iteO (decide (((k105 : Nat) : Int) < ((x0.length : Nat) : Int))) (grd (0 ≤ (IntKind.i64.wrap (((k105 : Nat) : Int) - 1)) ∧ (IntKind.i64.wrap (((k105 : Nat) : Int) - 1)) < (x0.length : Int)) (iteO (decide ((nth x0 k105 Tip.zero) = (nth x0 ((IntKind.i64.wrap (((k105 : Nat) : Int) - 1)).toNat) Tip.zero))) (grd (k105 ≤ x0.length) (iter (fun q : (List Tip) × Nat × Nat => compactT_b2 x0 k105 q.1 q.2.1 q.2.2) (x0, k105, 1))) (nxt (k105 + 1)))) (fin (some x0))
noncomputable def compactT (x0 : List Tip) : Option ((List Tip)) :=
 iteO (decide (((x0.length : Nat) : Int) < 2)) (some x0) (iter (fun q : Nat => compactT_b1 x0 q) 1)
theorem compactT_con {σ : Store} {x0 : List Tip} {a0_1 : Option Addr} {c0_2 : Nat}  {r : (List Tip)} (hh : compactT x0 = some r) :
  Con Tryz.prog 65 #[.slice a0_1 x0.length c0_2] σ [Res.rowS 43 2 encTip (.slice a0_1 x0.length c0_2) x0] (fun v σ' H' => ∃ (a1 : Option Addr), ∃ (c1 : Nat), v = .slice a1 r.length c1 ∧ σ = σ' ∧ H' = [Res.rowS 43 2 encTip (.slice a1 r.length c1) r]) := by
 dsimp only [compactT] at hh
 refine Con.mk (n := 61) Tryz.func65 z z z (fun w0 => ?_)
 refine TC.a (TL.s z z (TL.en (TC.seq (TC.a (TL.s z z (TL.w z (lenC z underlying22 z) (TL.w z (OpVal.lss z z z) (TL.en (TC.cD z hh (fun h102 hh => ?_) (fun h102 hh => ?_))))))))))
 ·refine TC.a (TL.s z z (TL.s z z (TL.en (TC.ret (S.r ?_)))))
  obtain rfl := so hh
  exact ro [Res.rowS 43 2 encTip (.slice a0_1 x0.length c0_2) x0] z (RVs.tmp z RVs.nil) ⟨a0_1, c0_2, z, z, z⟩
 ·refine TC.skip (S.n (TC.seq (TC.a (TL.i z z (TL.en (TC.block (TC.loopG (α := (Nat) × (Unit)) (rgs [(2, 4), (10, 50)]) (fun g => [(3, .int .i64 ((g.1 : Nat) : Int))]) (fun g => [Res.rowS 43 2 encTip (.slice a0_1 x0.length c0_2) x0]) (fun g => σ) (fun g => iter (fun q : Nat => compactT_b1 x0 q) g.1 = some r) (fun g => rounds (fun q : Nat => compactT_b1 x0 q) g.1) (1, ()) (Sub.pre 1 z) z (by repeat (first | exact trivial | refine ⟨z, ?_⟩)) hh (fun g1 j1 hg1 => ?_))))))))
  obtain ⟨k105, _⟩ := g1
  have hh := hg1; clear hg1
  try dsimp only
  obtain ⟨z1, hh, hR1⟩ := iter_e hh
  dsimp only [compactT_b1] at hh
  refine TC.isSl (i := 0) z (fun _ hb106 _ => ?_)
  refine TC.seq (TC.a (TL.i z z (TL.s z z (TL.w z (lenC z underlying22 z) (TL.w z (OpVal.lss z z z) (TL.en (TC.cD z hh (fun h107 hh => ?_) (fun h107 hh => ?_))))))))
  ·refine TC.skip (S.n (TC.seq (TC.block (TC.seq ?_))))
   have u19 := grd_c hh
   replace hh := grd_t hh
   refine TC.draw [] (by kernel_rfl) (TA.a 0 z (moveSl (.inl z) z) z (TA.a 1 z (moveI (.inl z) z) z (TA.isSl (i := 0) z (fun hs110 _ _ => ?_))))
   refine TA.b 2 z (indexN z underlying22 sz43 z z hs110 (by omega)) z (TA.b 3 z (loadOA Tip.zero z ag43 sz43 z (q := 0) z encTip_len (by omega) (by omega)) z (TA.a 4 z (moveSl (.inl z) z) z (TA.a 5 z (moveI (.inl z) z) z (TA.a 6 z (subW z z z) z (TA.isSl (i := 0) z (fun hs111 _ _ => ?_))))))
   refine TA.b 7 z (OpVal.index z underlying22 sz43 z z hs111 u19.1 u19.2) z (TA.b 8 z (loadOA Tip.zero z ag43 sz43 z (q := 0) z encTip_len (by omega) (by omega)) z (TA.a 9 z (eqlSt (p := (nth x0 k105 Tip.zero) = (nth x0 ((IntKind.i64.wrap (((k105 : Nat) : Int) - 1)).toNat) Tip.zero)) z z z eg43 (es43 (nth x0 k105 Tip.zero) (nth x0 ((IntKind.i64.wrap (((k105 : Nat) : Int) - 1)).toNat) Tip.zero)) z) z (TA.dn (S.n (TC.cD z hh (fun h112 hh => ?_) (fun h112 hh => ?_))))))
   ·refine TC.a (TL.s z z (TL.i z z ?_))
    have u24 := grd_c hh
    replace hh := grd_t hh
    refine TL.isSl (i := 0) z (fun hs113 _ _ => ?_)
    obtain ⟨a113, c113, hv113, ho113⟩ := vw_of (k := k105) (size := 2) hs113 (by omega)
    refine TL.w z (ho113 z underlying22 sz43 z z) (TL.s z z (TL.en (TC.seq (TC.a (TL.i z z (TL.en (TC.block (TC.loopG (α := ((List Tip) × Nat × Nat) × (Unit)) (rgs [(3, 1), (5, 1), (29, 25)]) (fun g => [(3, .int .i64 ((g.1.2.1 : Nat) : Int)), (5, .int .i64 ((g.1.2.2 : Nat) : Int))]) (fun g => [Res.rowS 43 2 encTip (.slice a0_1 x0.length c0_2) g.1.1]) (fun g => σ) (fun g => iter (fun q : (List Tip) × Nat × Nat => compactT_b2 x0 k105 q.1 q.2.1 q.2.2) g.1 = some z1 ∧ g.1.1.length = x0.length) (fun g => rounds (fun q : (List Tip) × Nat × Nat => compactT_b2 x0 k105 q.1 q.2.1 q.2.2) g.1) ((x0, k105, 1), ()) (Sub.pre 1 z) z (by repeat (first | exact trivial | refine ⟨z, ?_⟩)) ⟨hh, z⟩ (fun g2 j2 hg2 => ?_)))))))))
    obtain ⟨⟨l122, k124, k125⟩, _⟩ := g2
    obtain ⟨hh, hn123⟩ := hg2
    try dsimp only at hn123 ⊢
    obtain ⟨z2, hh, hR2⟩ := iter_e hh
    dsimp only [compactT_b2] at hh
    have hn123b := hn123
    refine TC.isSl (i := 0) z (fun _ hb126 _ => ?_)
    refine TC.seq (TC.a (TL.i z z (TL.s z z (TL.w z (lenC z underlying22 z) (TL.w z (OpVal.lss z z z) (TL.en (TC.cD z hh (fun h127 hh => ?_) (fun h127 hh => ?_))))))))
    ·refine TC.skip (S.n (TC.cutG (α := ((List Tip) × Nat) × (Unit)) (rgs [(3, 1), (35, 19)]) (fun g => [(3, .int .i64 ((g.1.2 : Nat) : Int))]) (fun g => [Res.rowS 43 2 encTip (.slice a0_1 x0.length c0_2) g.1.1]) (fun g => σ) (fun g => compactT_j1 k125 g.1.1 g.1.2 = some z2 ∧ g.1.1.length = x0.length) ?_ (fun g j hg => ?_)))
     ·skip
      refine TC.block (TC.seq ?_)
      have u33 := grd_c hh
      replace hh := grd_t hh
      have u38 := grd_c hh
      replace hh := grd_t hh
      refine TC.draw [] (by kernel_rfl) (TA.a 0 z (moveSl (.inl z) z) z (TA.a 1 z (moveI (.inl z) z) z (TA.b 2 z (elVw hv113 (by omega) (indexN z underlying22 sz43 z z hv113.sl (by omega))) z (TA.b 3 z (loadOA Tip.zero z ag43 sz43 z (q := 0) z encTip_len (by omega) (by omega)) z (TA.a 4 z (moveSl (.inl z) z) z (TA.a 5 z (moveI (.inl z) z) z (TA.a 6 z (subW z z z) z (TA.b 7 z (elVw hv113 (by omega) (OpVal.index z underlying22 sz43 z z hv113.sl u38.1 u38.2)) z (TA.b 8 z (loadOA Tip.zero z ag43 sz43 z (q := 0) z encTip_len (by omega) (by omega)) z (TA.a 9 z (neqSt (p := (nth l122 (k105 + k125) Tip.zero) = (nth l122 (k105 + (IntKind.i64.wrap (((k125 : Nat) : Int) - 1)).toNat) Tip.zero)) z z z eg43 (es43 (nth l122 (k105 + k125) Tip.zero) (nth l122 (k105 + (IntKind.i64.wrap (((k125 : Nat) : Int) - 1)).toNat) Tip.zero)) z) z (TA.dn (S.n (TC.cD z hh (fun h131 hh => ?_) (fun h131 hh => ?_))))))))))))))
      ·refine TC.a (TL.s z z (TL.i z z (TL.s z z (TL.i z z ?_))))
       have u45 := grd_c hh
       replace hh := grd_t hh
       refine TL.w z (elVw hv113 (by omega) (indexN z underlying22 sz43 z z hv113.sl (by omega))) (TL.w z (loadOA Tip.zero z ag43 sz43 z (q := 0) z encTip_len (by omega) (by omega)) ?_)
       have u47 := grd_c hh
       replace hh := grd_t hh
       refine TL.isSl (i := 0) z (fun hs132 _ _ => ?_)
       refine TL.w z (indexN z underlying22 sz43 z z hs132 (by omega)) ?_
       have hn133 : (l122.set k124 (nth l122 (k105 + k125) Tip.zero)).length = x0.length := by rw [List.length_set]; exact hn123
       refine TL.op z (storeS (nth l122 (k105 + k125) Tip.zero) z sz43 z z z z encTip_len encTip_one (by omega) (by omega) ?_)
       exact TL.en (TC.region (TL.i z z (TL.w z (OpVal.succ z z z (by omega)) (TL.i z z (TL.nil (B.n (S.n (cf (((l122.set k124 (nth l122 (k105 + k125) Tip.zero)), (k124 + 1)), ()) ⟨hh, hn133⟩ (Sub.pre 1 z)))))))))
      ·exact TC.skip (B.n (S.n (cf ((l122, k124), ()) ⟨hh, hn123⟩ (Sub.pre 1 z))))
     ·skip
      obtain ⟨⟨l128, k130⟩, _⟩ := g
      obtain ⟨hh, hn129⟩ := hg
      try dsimp only at hn129 ⊢
      dsimp only [compactT_j1] at hh
      have hn129b := hn129
      refine TC.isSl (i := 0) z (fun _ hb134 _ => ?_)
      refine TC.region (TL.i z z (TL.w z (OpVal.succ z z z (by omega)) (TL.i z z (TL.en ?_))))
      obtain ⟨hh, hlt135⟩ := nxt_x hR2 hh
      exact lf ((l128, k130, (k125 + 1)), ()) hlt135 ⟨hh, hn129⟩ (Sub.pre 1 z)
    ·refine TC.exit (S.x (S.x ?_))
     replace hh := fin_x hR2 hh
     refine TC.exitHere (S.n (TC.a (TL.s z z (TL.i z z ?_))))
     have u57 := grd_c hh
     replace hh := grd_t hh
     refine TL.isSl (i := 0) z (fun hs136 _ _ => ?_)
     rw [hn123] at hs136
     obtain ⟨a136, c136, hv136, ho136⟩ := vw_of (k := k124) (size := 2) hs136 (by omega)
     refine TL.w z (ho136 z underlying22 sz43 z z) ?_
     have hn137 : (l122.take k124 ++ List.replicate (l122.length - k124) Tip.zero).length = x0.length := by simp only [List.length_append, List.length_take, List.length_replicate]; try simp only [List.length_replicate] at *; omega
     refine TL.op z (clearV (k := k124) Tip.zero z underlying22 ze43 z z hv136 (by omega) (by omega) encTip_len (by decide) z encTip_one ?_)
     refine TL.en (TC.a (TL.s z z (TL.i z z ?_)))
     rw [← hn137]
     have u61 := grd_c hh
     replace hh := grd_t hh
     refine TL.op z (cutS z underlying22 sz43 z z z z z (by omega) encTip_len ?_)
     refine TL.s z z (TL.en (TC.ret (B.r (S.r (S.r ?_)))))
     replace hh := fin_x hR1 hh
     refine B.r (S.r ?_)
     obtain rfl := so hh
     exact ro [Res.rowS 43 2 encTip (.slice a0_1 ((l122.take k124 ++ List.replicate (l122.length - k124) Tip.zero).take k124).length c0_2) ((l122.take k124 ++ List.replicate (l122.length - k124) Tip.zero).take k124)] z (RVs.tmp z RVs.nil) ⟨a0_1, c0_2, z, z, z⟩
   ·refine TC.skip (B.n (S.n (TC.region (TL.i z z (TL.w z (OpVal.succ z z z (by omega)) (TL.i z z (TL.en ?_)))))))
    obtain ⟨hh, hlt138⟩ := nxt_x hR1 hh
    exact lf ((k105 + 1), ()) hlt138 hh (Sub.pre 1 z)
  ·refine TC.exit (S.x (S.x ?_))
   replace hh := fin_x hR1 hh
   refine TC.exitHere (S.n (TC.a (TL.s z z (TL.s z z (TL.en (TC.ret ?_))))))
   obtain rfl := so hh
   exact ro [Res.rowS 43 2 encTip (.slice a0_1 x0.length c0_2) x0] z (RVs.tmp z RVs.nil) ⟨a0_1, c0_2, z, z, z⟩

theorem cloneA_con {σ : Store} {a : Option Addr} {c : Nat} {l : List Arc} (hl : RS σ 8 encArc (.slice a l.length c) l) (hsz : l.length * 72 ≤ 140737488355328) :
  Con Tryz.prog 69 #[.slice a l.length c] σ [] (RowP 38 8 encArc l σ) := by
 have hb := hl.rv.big
 refine Con.mk (n := 8) Tryz.func69 z z z (fun w0 => ?_)
 refine TC.a (TL.s z z (TL.nilS 38 8 encArc (TL.en (TC.seq (TC.a (TL.s z z (TL.w z (eqlNilSl z underlying23 z z) (TL.en (TC.cond z (fun h2 => ?_) (fun h2 => ?_))))))))))
 ·refine TC.a (TL.s z z (TL.nilS 38 8 encArc (TL.en (TC.ret (S.r ?_)))))
  cases a with
  | some _ => simp at h2
  | none =>
   obtain rfl := hl.none_nil
   exact ret1R z z
 ·refine TC.skip (S.n (TC.a (TL.op z (lit0 (enc := encArc) z z underlying23 sz38 z z (fun a4 c5 => ?_)))))
  refine TL.s z z (TL.op z (appendS z z underlying23 sz38 by38 ze38 z z (by decide) z z z (.inl hl) (by simpa using hsz) (by decide) (fun a7 c8 => ?_)))
  exact TL.s z z (TL.en (TC.ret (ret1R z z)))

noncomputable def compactA_j1 (k125 : Nat) (l128 : List Arc) (k130 : Nat) : Option (((List Arc) × Nat × Nat) ⊕ ((Nat) ⊕ ((List Arc)))) :=
 nxt (l128, k130, (k125 + 1))
noncomputable def compactA_b2 (x0 : List Arc) (k105 : Nat) (l122 : List Arc) (k124 : Nat) (k125 : Nat) : Option (((List Arc) × Nat × Nat) ⊕ ((Nat) ⊕ ((List Arc)))) :=
 iteO (decide (((k125 : Nat) : Int) < (((x0.length - k105) : Nat) : Int))) (grd (k125 < (x0.length - k105)) (grd (0 ≤ (IntKind.i64.wrap (((k125 : Nat) : Int) - 1)) ∧ (IntKind.i64.wrap (((k125 : Nat) : Int) - 1)) < ((x0.length - k105) : Nat)) (iteO (decide (¬ ((nth l122 (k105 + k125) Arc.zero) = (nth l122 (k105 + (IntKind.i64.wrap (((k125 : Nat) : Int) - 1)).toNat) Arc.zero)))) (grd (k125 < (x0.length - k105)) (grd (k124 < l122.length) (compactA_j1 k125 (l122.set k124 (nth l122 (k105 + k125) Arc.zero)) (k124 + 1)))) (compactA_j1 k125 l122 k124)))) (fin (grd (k124 ≤ x0.length) (grd (k124 ≤ (l122.take k124 ++ List.replicate (l122.length - k124) Arc.zero).length) (fin (some ((l122.take k124 ++ List.replicate (l122.length - k124) Arc.zero).take k124))))))
noncomputable def compactA_b1 (x0 : List Arc) (k105 : Nat) : Option ((Nat) ⊕ ((List Arc))) :=
 iteO (decide (((k105 : Nat) : Int) < ((x0.length : Nat) : Int))) (grd (0 ≤ (IntKind.i64.wrap (((k105 : Nat) : Int) - 1)) ∧ (IntKind.i64.wrap (((k105 : Nat) : Int) - 1)) < (x0.length : Int)) (iteO (decide ((nth x0 k105 Arc.zero) = (nth x0 ((IntKind.i64.wrap (((k105 : Nat) : Int) - 1)).toNat) Arc.zero))) (grd (k105 ≤ x0.length) (iter (fun q : (List Arc) × Nat × Nat => compactA_b2 x0 k105 q.1 q.2.1 q.2.2) (x0, k105, 1))) (nxt (k105 + 1)))) (fin (some x0))
noncomputable def compactA (x0 : List Arc) : Option ((List Arc)) :=
 iteO (decide (((x0.length : Nat) : Int) < 2)) (some x0) (iter (fun q : Nat => compactA_b1 x0 q) 1)
theorem compactA_con {σ : Store} {x0 : List Arc} {a0_1 : Option Addr} {c0_2 : Nat}  {r : (List Arc)} (hh : compactA x0 = some r) :
  Con Tryz.prog 71 #[.slice a0_1 x0.length c0_2] σ [Res.rowS 38 8 encArc (.slice a0_1 x0.length c0_2) x0] (fun v σ' H' => ∃ (a1 : Option Addr), ∃ (c1 : Nat), v = .slice a1 r.length c1 ∧ σ = σ' ∧ H' = [Res.rowS 38 8 encArc (.slice a1 r.length c1) r]) := by
 dsimp only [compactA] at hh
 refine Con.mk (n := 61) Tryz.func71 z z z (fun w0 => ?_)
 refine TC.a (TL.s z z (TL.en (TC.seq (TC.a (TL.s z z (TL.w z (lenC z underlying23 z) (TL.w z (OpVal.lss z z z) (TL.en (TC.cD z hh (fun h102 hh => ?_) (fun h102 hh => ?_))))))))))
 ·refine TC.a (TL.s z z (TL.s z z (TL.en (TC.ret (S.r ?_)))))
  obtain rfl := so hh
  exact ro [Res.rowS 38 8 encArc (.slice a0_1 x0.length c0_2) x0] z (RVs.tmp z RVs.nil) ⟨a0_1, c0_2, z, z, z⟩
 ·refine TC.skip (S.n (TC.seq (TC.a (TL.i z z (TL.en (TC.block (TC.loopG (α := (Nat) × (Unit)) (rgs [(2, 4), (10, 50)]) (fun g => [(3, .int .i64 ((g.1 : Nat) : Int))]) (fun g => [Res.rowS 38 8 encArc (.slice a0_1 x0.length c0_2) x0]) (fun g => σ) (fun g => iter (fun q : Nat => compactA_b1 x0 q) g.1 = some r) (fun g => rounds (fun q : Nat => compactA_b1 x0 q) g.1) (1, ()) (Sub.pre 1 z) z (by repeat (first | exact trivial | refine ⟨z, ?_⟩)) hh (fun g1 j1 hg1 => ?_))))))))
  obtain ⟨k105, _⟩ := g1
  have hh := hg1; clear hg1
  try dsimp only
  obtain ⟨z1, hh, hR1⟩ := iter_e hh
  dsimp only [compactA_b1] at hh
  refine TC.isSl (i := 0) z (fun _ hb106 _ => ?_)
  refine TC.seq (TC.a (TL.i z z (TL.s z z (TL.w z (lenC z underlying23 z) (TL.w z (OpVal.lss z z z) (TL.en (TC.cD z hh (fun h107 hh => ?_) (fun h107 hh => ?_))))))))
  ·refine TC.skip (S.n (TC.seq (TC.block (TC.seq ?_))))
   have u19 := grd_c hh
   replace hh := grd_t hh
   refine TC.draw [] (by kernel_rfl) (TA.a 0 z (moveSl (.inl z) z) z (TA.a 1 z (moveI (.inl z) z) z (TA.isSl (i := 0) z (fun hs110 _ _ => ?_))))
   refine TA.b 2 z (indexN z underlying23 sz38 z z hs110 (by omega)) z (TA.b 3 z (loadOA Arc.zero z ag38 sz38 z (q := 0) z encArc_len (by omega) (by omega)) z (TA.a 4 z (moveSl (.inl z) z) z (TA.a 5 z (moveI (.inl z) z) z (TA.a 6 z (subW z z z) z (TA.isSl (i := 0) z (fun hs111 _ _ => ?_))))))
   refine TA.b 7 z (OpVal.index z underlying23 sz38 z z hs111 u19.1 u19.2) z (TA.b 8 z (loadOA Arc.zero z ag38 sz38 z (q := 0) z encArc_len (by omega) (by omega)) z (TA.a 9 z (eqlSt (p := (nth x0 k105 Arc.zero) = (nth x0 ((IntKind.i64.wrap (((k105 : Nat) : Int) - 1)).toNat) Arc.zero)) z z z eg38 (es38 (nth x0 k105 Arc.zero) (nth x0 ((IntKind.i64.wrap (((k105 : Nat) : Int) - 1)).toNat) Arc.zero)) z) z (TA.dn (S.n (TC.cD z hh (fun h112 hh => ?_) (fun h112 hh => ?_))))))
   ·refine TC.a (TL.s z z (TL.i z z ?_))
    have u24 := grd_c hh
    replace hh := grd_t hh
    refine TL.isSl (i := 0) z (fun hs113 _ _ => ?_)
    obtain ⟨a113, c113, hv113, ho113⟩ := vw_of (k := k105) (size := 8) hs113 (by omega)
    refine TL.w z (ho113 z underlying23 sz38 z z) (TL.s z z (TL.en (TC.seq (TC.a (TL.i z z (TL.en (TC.block (TC.loopG (α := ((List Arc) × Nat × Nat) × (Unit)) (rgs [(3, 1), (5, 1), (29, 25)]) (fun g => [(3, .int .i64 ((g.1.2.1 : Nat) : Int)), (5, .int .i64 ((g.1.2.2 : Nat) : Int))]) (fun g => [Res.rowS 38 8 encArc (.slice a0_1 x0.length c0_2) g.1.1]) (fun g => σ) (fun g => iter (fun q : (List Arc) × Nat × Nat => compactA_b2 x0 k105 q.1 q.2.1 q.2.2) g.1 = some z1 ∧ g.1.1.length = x0.length) (fun g => rounds (fun q : (List Arc) × Nat × Nat => compactA_b2 x0 k105 q.1 q.2.1 q.2.2) g.1) ((x0, k105, 1), ()) (Sub.pre 1 z) z (by repeat (first | exact trivial | refine ⟨z, ?_⟩)) ⟨hh, z⟩ (fun g2 j2 hg2 => ?_)))))))))
    obtain ⟨⟨l122, k124, k125⟩, _⟩ := g2
    obtain ⟨hh, hn123⟩ := hg2
    try dsimp only at hn123 ⊢
    obtain ⟨z2, hh, hR2⟩ := iter_e hh
    dsimp only [compactA_b2] at hh
    have hn123b := hn123
    refine TC.isSl (i := 0) z (fun _ hb126 _ => ?_)
    refine TC.seq (TC.a (TL.i z z (TL.s z z (TL.w z (lenC z underlying23 z) (TL.w z (OpVal.lss z z z) (TL.en (TC.cD z hh (fun h127 hh => ?_) (fun h127 hh => ?_))))))))
    ·refine TC.skip (S.n (TC.cutG (α := ((List Arc) × Nat) × (Unit)) (rgs [(3, 1), (35, 19)]) (fun g => [(3, .int .i64 ((g.1.2 : Nat) : Int))]) (fun g => [Res.rowS 38 8 encArc (.slice a0_1 x0.length c0_2) g.1.1]) (fun g => σ) (fun g => compactA_j1 k125 g.1.1 g.1.2 = some z2 ∧ g.1.1.length = x0.length) ?_ (fun g j hg => ?_)))
     ·skip
      refine TC.block (TC.seq ?_)
      have u33 := grd_c hh
      replace hh := grd_t hh
      have u38 := grd_c hh
      replace hh := grd_t hh
      refine TC.draw [] (by kernel_rfl) (TA.a 0 z (moveSl (.inl z) z) z (TA.a 1 z (moveI (.inl z) z) z (TA.b 2 z (elVw hv113 (by omega) (indexN z underlying23 sz38 z z hv113.sl (by omega))) z (TA.b 3 z (loadOA Arc.zero z ag38 sz38 z (q := 0) z encArc_len (by omega) (by omega)) z (TA.a 4 z (moveSl (.inl z) z) z (TA.a 5 z (moveI (.inl z) z) z (TA.a 6 z (subW z z z) z (TA.b 7 z (elVw hv113 (by omega) (OpVal.index z underlying23 sz38 z z hv113.sl u38.1 u38.2)) z (TA.b 8 z (loadOA Arc.zero z ag38 sz38 z (q := 0) z encArc_len (by omega) (by omega)) z (TA.a 9 z (neqSt (p := (nth l122 (k105 + k125) Arc.zero) = (nth l122 (k105 + (IntKind.i64.wrap (((k125 : Nat) : Int) - 1)).toNat) Arc.zero)) z z z eg38 (es38 (nth l122 (k105 + k125) Arc.zero) (nth l122 (k105 + (IntKind.i64.wrap (((k125 : Nat) : Int) - 1)).toNat) Arc.zero)) z) z (TA.dn (S.n (TC.cD z hh (fun h131 hh => ?_) (fun h131 hh => ?_))))))))))))))
      ·refine TC.a (TL.s z z (TL.i z z (TL.s z z (TL.i z z ?_))))
       have u45 := grd_c hh
       replace hh := grd_t hh
       refine TL.w z (elVw hv113 (by omega) (indexN z underlying23 sz38 z z hv113.sl (by omega))) (TL.w z (loadOA Arc.zero z ag38 sz38 z (q := 0) z encArc_len (by omega) (by omega)) ?_)
       have u47 := grd_c hh
       replace hh := grd_t hh
       refine TL.isSl (i := 0) z (fun hs132 _ _ => ?_)
       refine TL.w z (indexN z underlying23 sz38 z z hs132 (by omega)) ?_
       have hn133 : (l122.set k124 (nth l122 (k105 + k125) Arc.zero)).length = x0.length := by rw [List.length_set]; exact hn123
       refine TL.op z (storeS (nth l122 (k105 + k125) Arc.zero) z sz38 z z z z encArc_len encArc_one (by omega) (by omega) ?_)
       exact TL.en (TC.region (TL.i z z (TL.w z (OpVal.succ z z z (by omega)) (TL.i z z (TL.nil (B.n (S.n (cf (((l122.set k124 (nth l122 (k105 + k125) Arc.zero)), (k124 + 1)), ()) ⟨hh, hn133⟩ (Sub.pre 1 z)))))))))
      ·exact TC.skip (B.n (S.n (cf ((l122, k124), ()) ⟨hh, hn123⟩ (Sub.pre 1 z))))
     ·skip
      obtain ⟨⟨l128, k130⟩, _⟩ := g
      obtain ⟨hh, hn129⟩ := hg
      try dsimp only at hn129 ⊢
      dsimp only [compactA_j1] at hh
      have hn129b := hn129
      refine TC.isSl (i := 0) z (fun _ hb134 _ => ?_)
      refine TC.region (TL.i z z (TL.w z (OpVal.succ z z z (by omega)) (TL.i z z (TL.en ?_))))
      obtain ⟨hh, hlt135⟩ := nxt_x hR2 hh
      exact lf ((l128, k130, (k125 + 1)), ()) hlt135 ⟨hh, hn129⟩ (Sub.pre 1 z)
    ·refine TC.exit (S.x (S.x ?_))
     replace hh := fin_x hR2 hh
     refine TC.exitHere (S.n (TC.a (TL.s z z (TL.i z z ?_))))
     have u57 := grd_c hh
     replace hh := grd_t hh
     refine TL.isSl (i := 0) z (fun hs136 _ _ => ?_)
     rw [hn123] at hs136
     obtain ⟨a136, c136, hv136, ho136⟩ := vw_of (k := k124) (size := 8) hs136 (by omega)
     refine TL.w z (ho136 z underlying23 sz38 z z) ?_
     have hn137 : (l122.take k124 ++ List.replicate (l122.length - k124) Arc.zero).length = x0.length := by simp only [List.length_append, List.length_take, List.length_replicate]; try simp only [List.length_replicate] at *; omega
     refine TL.op z (clearV (k := k124) Arc.zero z underlying23 ze38 z z hv136 (by omega) (by omega) encArc_len (by decide) z encArc_one ?_)
     refine TL.en (TC.a (TL.s z z (TL.i z z ?_)))
     rw [← hn137]
     have u61 := grd_c hh
     replace hh := grd_t hh
     refine TL.op z (cutS z underlying23 sz38 z z z z z (by omega) encArc_len ?_)
     refine TL.s z z (TL.en (TC.ret (B.r (S.r (S.r ?_)))))
     replace hh := fin_x hR1 hh
     refine B.r (S.r ?_)
     obtain rfl := so hh
     exact ro [Res.rowS 38 8 encArc (.slice a0_1 ((l122.take k124 ++ List.replicate (l122.length - k124) Arc.zero).take k124).length c0_2) ((l122.take k124 ++ List.replicate (l122.length - k124) Arc.zero).take k124)] z (RVs.tmp z RVs.nil) ⟨a0_1, c0_2, z, z, z⟩
   ·refine TC.skip (B.n (S.n (TC.region (TL.i z z (TL.w z (OpVal.succ z z z (by omega)) (TL.i z z (TL.en ?_)))))))
    obtain ⟨hh, hlt138⟩ := nxt_x hR1 hh
    exact lf ((k105 + 1), ()) hlt138 hh (Sub.pre 1 z)
  ·refine TC.exit (S.x (S.x ?_))
   replace hh := fin_x hR1 hh
   refine TC.exitHere (S.n (TC.a (TL.s z z (TL.s z z (TL.en (TC.ret ?_))))))
   obtain rfl := so hh
   exact ro [Res.rowS 38 8 encArc (.slice a0_1 x0.length c0_2) x0] z (RVs.tmp z RVs.nil) ⟨a0_1, c0_2, z, z, z⟩

noncomputable def onceT (x0 : List Tip) : Option ((List Tip)) :=
 grd (x0.length * 24 ≤ 140737488355328) (bnd (compactT (sortL cmpTip x0)) (fun v9 => some v9))
def onceT_P (σ : Store) (r : (List Tip)) : Value → Store → List Res → Prop := fun v σ' H' =>
 ∃ (a1 : Option Addr), ∃ (c1 : Nat),  v = .slice a1 r.length c1 ∧ σ = σ' ∧ H' = [Res.rowS 43 2 encTip (.slice a1 r.length c1) r]
theorem onceT_con {σ : Store} {x0 : List Tip} {a0_0 : Option Addr} {c0_0 : Nat} (f0_0 : RS σ 2 encTip (.slice a0_0 x0.length c0_0) x0) {r : (List Tip)} (hh : onceT x0 = some r) :
  Con Tryz.prog 55 #[.slice a0_0 x0.length c0_0, .func (.func 56) #[] #[]] σ [] (onceT_P σ r) := by
 dsimp only [onceT] at hh
 have f0_0b := f0_0.rv.big
 refine Con.mk (n := 13) Tryz.func55 z z z (fun w0 => ?_)
 refine TC.a (TL.s z z (TL.en (TC.a (TL.s z z ?_))))
 have u3 := grd_c hh
 replace hh := grd_t hh
 refine TL.op z (OpOk.call (cloneT_con f0_0 u3) z z pf63 z z z z ?_)
 rintro _ _ _ _ ⟨⟨a101, c102, rfl⟩, rfl, rfl⟩
 refine TL.s z z (TL.en (TC.a (TL.s z z (TL.w z (moveFn (.inl z) z) ?_))))
 have hn104 : (sortL cmpTip x0).length = x0.length := List.length_mergeSort _
 refine TL.op z (OpOk.call (sortT_con (l := x0)) z z pf64 z z z z ?_)
 rintro _ _ _ _ ⟨rfl, rfl, rfl⟩
 refine TL.en (TC.a (TL.s z z ?_))
 rw [← hn104]
 obtain ⟨v9, u9, hh⟩ := bnd_e hh
 refine TL.op z (OpOk.call (compactT_con u9) z z pf65 z z z z ?_)
 rintro _ _ _ hle105 ⟨a105_1, c105_2, rfl, rfl, rfl⟩
 refine TL.s z z (TL.en (TC.ret ?_))
 obtain rfl := so hh
 exact ro [Res.rowS 43 2 encTip (.slice a105_1 v9.length c105_2) v9] z (RVs.tmp z RVs.nil) ⟨a105_1, c105_2, z, z, z⟩

noncomputable def onceA (x0 : List Arc) : Option ((List Arc)) :=
 grd (x0.length * 72 ≤ 140737488355328) (bnd (compactA (sortL cmpArc x0)) (fun v9 => some v9))
def onceA_P (σ : Store) (r : (List Arc)) : Value → Store → List Res → Prop := fun v σ' H' =>
 ∃ (a1 : Option Addr), ∃ (c1 : Nat),  v = .slice a1 r.length c1 ∧ σ = σ' ∧ H' = [Res.rowS 38 8 encArc (.slice a1 r.length c1) r]
theorem onceA_con {σ : Store} {x0 : List Arc} {a0_0 : Option Addr} {c0_0 : Nat} (f0_0 : RS σ 8 encArc (.slice a0_0 x0.length c0_0) x0) {r : (List Arc)} (hh : onceA x0 = some r) :
  Con Tryz.prog 57 #[.slice a0_0 x0.length c0_0, .func (.func 58) #[] #[]] σ [] (onceA_P σ r) := by
 dsimp only [onceA] at hh
 have f0_0b := f0_0.rv.big
 refine Con.mk (n := 13) Tryz.func57 z z z (fun w0 => ?_)
 refine TC.a (TL.s z z (TL.en (TC.a (TL.s z z ?_))))
 have u3 := grd_c hh
 replace hh := grd_t hh
 refine TL.op z (OpOk.call (cloneA_con f0_0 u3) z z pf69 z z z z ?_)
 rintro _ _ _ _ ⟨⟨a101, c102, rfl⟩, rfl, rfl⟩
 refine TL.s z z (TL.en (TC.a (TL.s z z (TL.w z (moveFn (.inl z) z) ?_))))
 have hn104 : (sortL cmpArc x0).length = x0.length := List.length_mergeSort _
 refine TL.op z (OpOk.call (sortA_con (l := x0)) z z pf70 z z z z ?_)
 rintro _ _ _ _ ⟨rfl, rfl, rfl⟩
 refine TL.en (TC.a (TL.s z z ?_))
 rw [← hn104]
 obtain ⟨v9, u9, hh⟩ := bnd_e hh
 refine TL.op z (OpOk.call (compactA_con u9) z z pf71 z z z z ?_)
 rintro _ _ _ hle105 ⟨a105_1, c105_2, rfl, rfl, rfl⟩
 refine TL.s z z (TL.en (TC.ret ?_))
 obtain rfl := so hh
 exact ro [Res.rowS 38 8 encArc (.slice a105_1 v9.length c105_2) v9] z (RVs.tmp z RVs.nil) ⟨a105_1, c105_2, z, z, z⟩

noncomputable def fst_Sort (x0 : Fst) : Option (Fst × Int) :=
 bnd (fst_Check x0) (fun v5 => iteO (decide (v5 ≠ 0)) (some ((⟨0, ([] : List Tip), ([] : List Tip), ([] : List Arc)⟩ : Fst), 1)) (bnd (onceT x0.starts) (fun v14 => bnd (onceT x0.ends) (fun v17 => bnd (onceA x0.arcs) (fun v20 => some ((⟨x0.states, v14, v17, v20⟩ : Fst), 0))))))
def fst_Sort_P (σ : Store) (r : Fst × Int) : Value → Store → List Res → Prop := fun v σ' H' =>
 ∃ (a1 : Option Addr), ∃ (c1 : Nat), ∃ (a2 : Option Addr), ∃ (c2 : Nat), ∃ (a3 : Option Addr), ∃ (c3 : Nat),  v = .tuple #[.agg #[.int .i64 r.1.states, .slice a1 r.1.starts.length c1, .slice a2 r.1.ends.length c2, .slice a3 r.1.arcs.length c3], .int .i64 r.2] ∧ RS σ' 2 encTip (.slice a1 r.1.starts.length c1) r.1.starts ∧ RS σ' 2 encTip (.slice a2 r.1.ends.length c2) r.1.ends ∧ RS σ' 8 encArc (.slice a3 r.1.arcs.length c3) r.1.arcs ∧ H' = []
theorem fst_Sort_con {σ : Store} {x0 : Fst} {a0_0 : Option Addr} {c0_0 : Nat} {a0_1 : Option Addr} {c0_1 : Nat} {a0_2 : Option Addr} {c0_2 : Nat} (f0_0 : RS σ 2 encTip (.slice a0_0 x0.starts.length c0_0) x0.starts) (f0_1 : RS σ 2 encTip (.slice a0_1 x0.ends.length c0_1) x0.ends) (f0_2 : RS σ 8 encArc (.slice a0_2 x0.arcs.length c0_2) x0.arcs) {r : Fst × Int} (hh : fst_Sort x0 = some r) :
  Con Tryz.prog 39 #[.agg #[.int .i64 x0.states, .slice a0_0 x0.starts.length c0_0, .slice a0_1 x0.ends.length c0_1, .slice a0_2 x0.arcs.length c0_2]] σ [] (fst_Sort_P σ r) := by
 dsimp only [fst_Sort] at hh
 have f0_0b := f0_0.rv.big
 have f0_1b := f0_1.rv.big
 have f0_2b := f0_2.rv.big
 refine Con.mk (n := 20) Tryz.func39 z z z (fun w0 => ?_)
 refine TC.a (TL.op z (boxA z z z z (fun b101 => ?_)))
 refine TL.op z (OpOk.alloc z ze25 z z (fun b103 => ?_))
 refine TL.i z z (TL.en (TC.seq (TC.a (TL.w z (loadAll z ag25 sz25 z (i := 1) z z) ?_))))
 obtain ⟨v5, u5, hh⟩ := bnd_e hh
 refine TL.op z (callP (fst_Check_con (x0 := x0) f0_0 f0_1 f0_2 u5) z z pf37 z z z ?_)
 refine TL.w z (OpVal.neq z z z) (TL.en (TC.cD z hh (fun h105 hh => ?_) (fun h105 hh => ?_)))
 ·refine TC.a (TL.w z (buildL z pl25 ze25 z) (TL.op z (storeAll z sz25 z z z z z z ?_)))
  refine TL.i z z (TL.en (TC.rt 1 (S.r ?_)))
  obtain rfl := so hh
  exact ro [] z (RVs.agg ag25 sz25 z (i := 0) z z (RVs.tmp z RVs.nil)) ⟨none, 0, none, 0, none, 0, z, (RS.nilF _ encTip encTip_len), (RS.nilF _ encTip encTip_len), (RS.nilF _ encArc encArc_len), z⟩
 ·refine TC.skip (S.n (TC.seq ?_))
  obtain ⟨v14, u14, hh⟩ := bnd_e hh
  obtain ⟨v17, u17, hh⟩ := bnd_e hh
  obtain ⟨v20, u20, hh⟩ := bnd_e hh
  refine TC.draw [12, 13] (by kernel_rfl) (TA.a 0 z (fieldLoc z fo25_0 z) z (TA.b 1 z (loadLoc z ag3 z (i := 1) z z) z (TA.a 2 z (fieldLoc z fo25_1 z) z (TA.b 3 z (loadLoc z ag22 z (i := 1) z z) z (TA.a 5 z (fieldLoc z fo25_2 z) z (TA.b 6 z (loadLoc z ag22 z (i := 1) z z) z (TA.a 8 z (fieldLoc z fo25_3 z) z (TA.b 9 z (loadLoc z ag23 z (i := 1) z z) z (TA.ac 4 z (OpOk.call (onceT_con f0_0 u14) z z pf55 z z z z ?_))))))))))
  rintro _ _ _ hle112 ⟨a112_1, c112_1, rfl, rfl, rfl⟩
  refine k1 (TA.ac 7 z (OpOk.call (onceT_con f0_1 u17) z z pf55 z z z z ?_))
  rintro _ _ _ hle114 ⟨a114_1, c114_1, rfl, rfl, rfl⟩
  refine k2 (TA.ac 10 z (OpOk.call (onceA_con f0_2 u20) z z pf57 z z z z ?_))
  rintro _ _ _ hle116 ⟨a116_1, c116_1, rfl, rfl, rfl⟩
  refine k3 (TA.a 11 z (buildL z pl25 ze25 z) z (TA.front 3 z z (TA.last 12 (by kernel_rfl) z z z (storeAll z sz25 z z z z z z ?_))))
  refine TZ.v 13 (by kernel_rfl) z z z (moveI (.inr z) z) z z (TZ.done (by kernel_rfl) (S.n (TC.front 3 z z (TC.sealS encTip_len (fun τ120 hle119 hr118 => ?_)))))
  have hr118b := hr118.rv.big
  refine TC.front 2 z z (TC.sealS encTip_len (fun τ123 hle122 hr121 => ?_))
  replace hr118 := hr118.mono hle122
  have hr121b := hr121.rv.big
  refine TC.front 1 z z (TC.sealS encArc_len (fun τ126 hle125 hr124 => ?_))
  replace hr118 := hr118.mono hle125
  replace hr121 := hr121.mono hle125
  have hr124b := hr124.rv.big
  refine TC.rt 1 ?_
  obtain rfl := so hh
  exact ro [] z (RVs.agg ag25 sz25 z (i := 0) z z (RVs.tmp z RVs.nil)) ⟨a112_1, c112_1, a114_1, c114_1, a116_1, c116_1, z, hr118, hr121, hr124, z⟩

end Go.Proofs.YtcfjjckencjjeaaGreat
end

/- Dec13 -/
section
/- A part of a slice that is only read, by both its ends. Plain lemmas over any program; no condition. -/
set_option linter.unusedVariables false
set_option linter.unusedSimpArgs false
namespace Go.E
open Go
section
variable {α : Type} {σ : Store} {size m c : Nat} {enc : α → List Value} {a : Option Addr} {l : List α}
theorem RS.takeF (h : RS σ size enc (.slice a m c) l) (j : Nat) (hj : j ≤ l.length) : RS σ size enc (.slice a (l.take j).length c) (l.take j) := by
  have hlj : (l.take j).length = j := by rw [List.length_take]; omega
  obtain ⟨a1, c1, hv, hn, hc⟩ := h.rv.sl
  cases hv
  rw [hlj]
  refine ⟨⟨⟨a, c, by rw [hlj], fun ha => ?_, by omega⟩, by rw [flatMap_len h.len], ?_, fun u hu => h.rv.one u (by rw [take_flat h.len] at hu; exact List.mem_of_mem_take hu), by have := h.rv.big; omega⟩, h.len⟩
  · obtain ⟨h1, h2⟩ := hn ha; exact ⟨by omega, h2⟩
  · intro ad m' c' hv i u hi
    cases hv
    rw [take_flat h.len, List.getElem?_take] at hi
    split at hi
    · exact h.rv.cell ad _ c rfl i u hi
    · cases hi
theorem RS.dropF (h : RS σ size enc (.slice a m c) l) (i : Nat) (hi : i ≤ l.length) : RS σ size enc (.slice (if c = i then a else a.map (·.add (i * size))) (l.drop i).length (c - i)) (l.drop i) := by
  have hlj : (l.drop i).length = l.length - i := by rw [List.length_drop]
  obtain ⟨a1, c1, hv, hn, hc⟩ := h.rv.sl
  cases hv
  rw [hlj]
  refine ⟨⟨⟨_, _, by rw [hlj], fun ha => ?_, by omega⟩, by rw [flatMap_len h.len], ?_, fun u hu => h.rv.one u (by rw [drop_flat h.len] at hu; exact List.mem_of_mem_drop hu), by have := h.rv.big; omega⟩, h.len⟩
  · split at ha
    · obtain ⟨h1, h2⟩ := hn ha; omega
    · cases a with
      | none => obtain ⟨h1, h2⟩ := hn rfl; omega
      | some ad => simp at ha
  · intro ad m' c' hv j u hj
    rw [drop_flat h.len, List.getElem?_drop] at hj
    have hjl := (List.getElem?_eq_some_iff.1 hj).1
    rw [flatMap_len h.len] at hjl
    have hil : i < l.length := by
      rcases Nat.lt_or_ge i l.length with h1 | h1
      · exact h1
      · have := Nat.mul_le_mul_right size h1; omega
    have hci : ¬ c = i := by omega
    rw [if_neg hci] at hv
    cases a with
    | none => simp at hv
    | some a0 =>
      simp only [Option.map_some, Value.slice.injEq, Option.some.injEq] at hv
      obtain ⟨rfl, _⟩ := hv
      rw [add_add]
      exact h.rv.cell a0 _ c rfl _ u hj
theorem RS.sub (h : RS σ size enc (.slice a m c) l) (i j : Nat) (hij : i ≤ j ∧ j ≤ l.length) : ∃ (a' : Option Addr) (c' : Nat), RS σ size enc (.slice a' ((l.take j).drop i).length c') ((l.take j).drop i) ∧
    ∀ {P : Program} {n : Nat} {e : Env} {H : List Res} {o : Oper} {x y z : Operand} {T E : TypeId} {k k' : IntKind} (_ : o.op = .slice T x (some z) (some y) none) (_ : P.underlying T = some (.slice E)) (_ : szOf P E = some size) (_ : ev e x = .slice a m c) (_ : ev e z = .int k (i : Nat)) (_ : ev e y = .int k' (j : Nat)), OpVal P n o e σ H (.slice a' ((l.take j).drop i).length c') := by
  have hlj : (l.take j).length = j := by rw [List.length_take]; omega
  have hll : ((l.take j).drop i).length = j - i := by rw [List.length_drop, hlj]
  refine ⟨_, _, (h.takeF j hij.2).dropF i (by omega), ?_⟩
  obtain ⟨a1, c1, hv, hn, hc⟩ := h.rv.sl
  cases hv
  rw [hll]
  intro P n e H o x y z T E k k' ho hT hs hx hz hy w _
  have hsz := run_sizeOf (P := P) hs
  have hrun : (Instr.slice T (.slice a l.length c) (some (.int k i)) (some (.int k' j)) none).run P w = .ok (.slice (if c = i then a else a.map (·.add (i * size))) (j - i) (c - i)) w := by
    simp [Instr.slice, Instr.sliceBounds, Instr.sliceBound, asIntOf, run_underlying hT, hsz]
    rw [if_pos (show j ≤ c by omega), if_pos hij.1]
  simp [execOp, ho, hx, hz, hy, Instr.sliceAt, run_underlying hT, hrun]
end
end Go.E
end

/- Dec14 -/
section
/- A function stored in a variable. Plain lemmas over any program; no condition. -/
set_option linter.unusedVariables false
set_option linter.unusedSimpArgs false
namespace Go.E
open Go
theorem OpOk.storeFn {X : Ctx} {e : Env} {σ : Store} {F : List Res} {o : Oper} {x y : Operand} {K : Env → Store → List Res → Prop} {T b k : Nat} {E : TypeId} {cs cs' : Array Value} {f : Fn} {xs ys : Array Value} (ho : o.op = .store T x y) (hs : szOf X.P T = some 1) (hd : o.dst = none) (hx : ev e x = loc b k) (hfit : Nat.ble (k + 1) cs.size = true)
    (hv : ev e y = .func f xs ys) (hcs : (splice cs.toList k [.func f xs ys]).toArray = cs') (kk : K e σ (Res.cells b cs' E :: F)) : OpOk X o e σ (Res.cells b cs E :: F) K := OpOk.store1 ho hs hd hx hv rfl rfl hfit hcs kk
/-- A variable that is only read from now on. -/
def SC (σ : Store) (b : Nat) (cs : Array Value) (E : TypeId) : Prop := σ b = some (.cells cs E (0, 0))
theorem SC.mono {σ τ : Store} {b : Nat} {cs : Array Value} {E : TypeId} (h : SC σ b cs E) (hle : σ.le τ) : SC τ b cs E := hle _ _ h
theorem SC.big {σ : Store} {b : Nat} {cs : Array Value} {E : TypeId} (_ : SC σ b cs E) : True := True.intro
theorem SC.sees {σ : Store} {b : Nat} {cs : Array Value} {E : TypeId} {H : List Res} (h : SC σ b cs E) : ∀ w, Sees σ H w → Sees σ (Res.cells b cs E :: H) w := fun w hw => ⟨hw.1, fun r hr => by
  rcases List.mem_cons.1 hr with rfl | hr
  · exact hw.1 _ _ h
  · exact hw.2 _ hr⟩
theorem Reach.sealC {w0 : World} {C : List Nat} {σ0 σ : Store} {w : World} {b : Nat} {cs : Array Value} {E : TypeId} {F : List Res} (h : Reach w0 C σ0 σ w (Res.cells b cs E :: F)) : ∃ σ', Reach w0 C σ0 σ' w F ∧ σ.le σ' ∧ SC σ' b cs E := by
  have hb : w.heap[b]? = some (.cells cs E (0, 0)) := h.holds _ (List.mem_cons_self ..)
  have := h.sealB (b := b) rfl hb
  exact ⟨_, this.1, this.2, by unfold SC Store.with; simp⟩
/-- Two whole numbers, bit by bit. -/
def iand (k : IntKind) (a b : Int) : Int := k.wrap (BitVec.ofInt k.bits a &&& BitVec.ofInt k.bits b).toNat
theorem OpVal.andI {P : Program} {n : Nat} {o : Oper} {e : Env} {σ : Store} {H : List Res} {x y : Operand} {T T' : TypeId} {k : IntKind} {a b : Int} (ho : o.op = .binOp .and T x y T') (hx : ev e x = .int k a) (hy : ev e y = .int k b) : OpVal P n o e σ H (.int k (iand k a b)) := .bin ho hx hy fun w => by
  simp only [binOp, ne_eq, not_true_eq_false, if_false, Op.intBits]
  rfl
end Go.E
end

/- Rng -/
section
/- Ranging over functions: what a call of yield does; an iterator's contract; the loop. Plain lemmas over any program; no condition. -/
set_option linter.unusedVariables false
set_option linter.unusedSimpArgs false
namespace Go.E
open Go

/-- What stands for a state, in the sealed store and among what is owned. -/
structure YSpec (S : Type) where
  R : S → Store → Res → Prop
  mono : ∀ {s σ σ' r}, R s σ r → σ.le σ' → R s σ' r
def YR {S : Type} (Z : YSpec S) (s : S) (σ : Store) (r : Res) : Prop := Z.R s σ r
theorem YR.mono {S : Type} {Z : YSpec S} {s : S} {σ σ' : Store} {r : Res} (h : YR Z s σ r) (hle : σ.le σ') : YR Z s σ' r := Z.mono h hle

/-- What a call of yield does. -/
def YOk (P : Program) (l : Nat) {S α : Type} (A : α → Store → List Value → Prop) (Z : YSpec S) (Y : S → α → Option (S × Bool)) : Prop :=
  ∀ s x σ r args w s' b, Y s x = some (s', b) → A x σ args → YR Z s σ r → Reach w r.bl σ σ w [r] →
    YieldAt (fence none) 0 P l args.toArray w fun e w' => e = .returned (.bool b) ∧ ∃ σ' r', YR Z s' σ' r' ∧ Reach w r.bl σ σ' w' [r']

/-- An iterator's contract: whatever a call of yield does. -/
def IterOk (P : Program) (f : FuncId) (lb : List Value) {S α : Type} (A : α → Store → List Value → Prop) (Y : S → α → Option (S × Bool)) (σ : Store) (Hc : List Res) (s s' : S) (Post : Store → List Res → Prop) : Prop :=
  ∀ (l : Nat) (Z : YSpec S) (r : Res), YOk P l A Z Y → YR Z s σ r →
    Con P f (.func (.yield l) #[] #[] :: lb).toArray σ (r :: Hc) fun _ σ' H' => ∃ r' Hc', H' = r' :: Hc' ∧ YR Z s' σ' r' ∧ Post σ' Hc'

/-- A call of yield. -/
theorem OpOk.callY {X : Ctx} {e : Env} {σ : Store} {H F : List Res} {o : Oper} {x : Operand} {K : Env → Store → List Res → Prop} {l d : Nat} {opds : Array Operand} {ts : Array TypeId} {S α : Type} {A : α → Store → List Value → Prop} {Z : YSpec S} {Y : S → α → Option (S × Bool)} {s : S} {q : S × Bool} {v : α} {r : Res}
    (hY : YOk X.P l A Z Y) (hs : YR Z s σ r) (he : Y s v = some q) (ho : o.op = .call { callee := .value x, args := opds, argTypes := ts })
    (hx : ev e x = .func (.yield l) #[] #[]) (hA : A v σ (opds.toList.map (ev e))) (hd : o.dst = some d) (hn : Nat.blt d X.n = true) (hH : r :: F = H)
    (k : ∀ σ' r', σ.le σ' → YR Z q.1 σ' r' → K (upd e d (.bool q.2)) σ' (r' :: F)) : OpOk X o e σ H K := by
  subst hH
  obtain ⟨s', b⟩ := q
  intro u0 C0 τ0 w a hw ha K' Q hK
  have hbl : blks [r] = r.bl := by simp [blks]
  have hself : Reach w r.bl σ σ w [r] := by
    have := (hw.sub (H' := [r]) (by simp)).self
    rwa [hbl] at this
  obtain ⟨fn, tmps, assign, body, hrun, hround⟩ := hY s v σ r _ w s' b he hA hs hself
  have hr : (execOp a.eval o).run X.P w = .ok (.round l fn tmps assign body) w := by
    rw [ha.eval']
    have hl : (opds.toList.map (ev e)).toArray = opds.map (ev e) := by apply Array.ext'; simp
    rw [hl] at hrun
    simp [execOp, ho, resolve, hx, Deferred.ofValue, invoke, hrun]
  refine Oper.wp_run hr (fun _ => by simp) ?_
  rw [Oper.uponIn_round]
  refine ⟨fun h => (by cases h), RoundIn.mono (R := fun e w' => e = .returned (.bool b) ∧ ∃ σ' r', YR Z s' σ' r' ∧ Reach w r.bl σ σ' w' [r']) hround ?_⟩
  rintro ex w' ⟨rfl, σ', r', h1, h2⟩
  refine hK _ _ _ _ _ (k σ' r' h2.le h1) (Reach.call (H1 := [r]) (H1' := [r']) hw (by rw [hbl]; exact h2)) (put_dst ha hd hn _)

/-! ### The loop -/
/-- The record of a loop, opds a resource. -/
def Res.lrec (b : Nat) (o : Obj) : Res := ⟨[b], fun w => w.heap[b]? = some o, fun w k hk h => by simp at hk; subst hk; exact (Array.getElem?_eq_some_iff.1 h).1, fun w w' hb h => by rw [hb b (by simp)]; exact h⟩

/-- A loop's record turns. -/
theorem Reach.turnRec {w0 : World} {C : List Nat} {σ0 σ : Store} {w : World} {l : Nat} {o o' : Obj} {F : List Res} (h : Reach w0 C σ0 σ w (Res.lrec l o :: F)) : Reach w0 C σ0 σ (w.putObj l o') (Res.lrec l o' :: F) := by
  have hl : w.heap[l]? = some o := h.holds _ (List.mem_cons_self ..)
  refine h.turn rfl rfl rfl (by simp [World.putObj]) (Nat.le_refl _) (fun k _ hk => World.putObj_heap_other (fun e => hk (by simp [Res.lrec, e]))) (World.putObj_heap_same (Array.getElem?_eq_some_iff.1 hl).1) (fun b hb => .inl hb) (by simp [Res.lrec])
/-- One resource out of several. -/
theorem Reach.tail {w0 : World} {C : List Nat} {σ0 σ : Store} {w : World} {r : Res} {F : List Res} (h : Reach w0 C σ0 σ w (r :: F)) : Reach w (blks F) σ σ w F := (h.sub (List.sublist_cons_self ..)).self
theorem Reach.callT {w0 : World} {C : List Nat} {σ0 σ σ' : Store} {w w' : World} {r : Res} {F F' : List Res} (h : Reach w0 C σ0 σ w (r :: F)) (k : Reach w (blks F) σ σ' w' F') : Reach w0 C σ0 σ' w' (r :: F') := by
  have h1 : Reach w0 C σ0 σ w (F ++ [r]) := h.perm (List.perm_append_singleton r F)
  exact (h1.call k).perm (List.perm_append_singleton r F').symm

def bindE (e : Env) (ps : List Tmp) (vs : List Value) : Env := (ps.zip vs).foldl (fun e p => upd e p.1 p.2) e
theorem St.binds {n : Nat} : ∀ (ps : List Tmp) (vs : List Value) {e : Env} {t : Array Value}, (∀ p ∈ ps, p < n) → St n e { tmps := t, defers := [] } → St n (bindE e ps vs) { tmps := (ps.zip vs).foldl (fun t p => t.setIfInBounds p.1 p.2) t, defers := [] }
  | [], _, _, _, _, h => h
  | _ :: _, [], _, _, _, h => h
  | p :: ps, v :: vs, e, t, hp, h => by
    have h1 := h.put (hp p (List.mem_cons_self ..)) v
    exact St.binds ps vs (fun q hq => hp q (List.mem_cons_of_mem _ hq)) h1

@[reducible] def asgQ (K : Env → Store → List Res → Prop) : QP := fun ex => match ex with
  | .normal => K
  | _ => fun _ _ _ => False
/-- How a round may end: off its end, or by a jump of a list. -/
@[reducible] def rndQ (J : List Code) (K : Nat → Store → List Res → Prop) : QP := fun ex _ σ H => match ex with
  | .normal => K 0 σ H
  | .ret => ∃ j, J[j]? = some .ret ∧ K (j + 1) σ H
  | .exit i => ∃ j, J[j]? = some (.exit i) ∧ K (j + 1) σ H
  | .goto i => ∃ j, J[j]? = some (.goto i) ∧ K (j + 1) σ H
  | _ => False
/-- A round opds an answer of yield: what jump is pending (0: none), and the state. -/
def stepY {S α : Type} (B : S → α → Option (Nat × S)) (p : Nat × S) (x : α) : Option ((Nat × S) × Bool) :=
  if p.1 = 0 then (B p.2 x).bind fun q => some (q, q.1 == 0) else none
theorem stepY_some {S α : Type} {B : S → α → Option (Nat × S)} {p p' : Nat × S} {x : α} {b : Bool} (h : stepY B p x = some (p', b)) : p.1 = 0 ∧ B p.2 x = some p' ∧ b = (p'.1 == 0) := by
  unfold stepY at h
  split at h
  · rename_i h0
    cases hb : B p.2 x with
    | none => simp [hb] at h
    | some q => simp [hb] at h; exact ⟨h0, by rw [h.1], by rw [← h.2, h.1]⟩
  · cases h

abbrev mkRec (fn : FuncId) (tmps : Array Value) (ps : Array Tmp) (assign body : Code) (D : Nat) (st : LoopState) (pe : Option Code) : Loop := { state := st, pending := pe, fn, tmps, params := ps, assign, body, defers := D }
def recOf (rec : LoopState → Option Code → Loop) (J : List Code) (j : Nat) : Obj := .loop (if j = 0 then rec .ready none else rec .done (J[j - 1]?))

/-- The state of the rounds: the loop's record, and what stands for the state. -/
def rndZ {S : Type} (l : Nat) (rec : LoopState → Option Code → Loop) (J : List Code) (σs : Store) (G : S → Store → List Res → Prop) (hG : ∀ {s σ σ' H}, G s σ H → σ.le σ' → G s σ' H) : YSpec (Nat × S) where
  R p σ r := ∃ Hs, r = Res.star (Res.lrec l (recOf rec J p.1) :: Hs) ∧ G p.2 σ Hs ∧ σs.le σ ∧ (p.1 ≠ 0 → ∃ c, J[p.1 - 1]? = some c)
  mono := fun ⟨Hs, h1, h2, h3, h4⟩ hle => ⟨Hs, h1, hG h2 hle, h3.trans hle, h4⟩

theorem rec_far {w0 : World} {C : List Nat} {σ0 σ : Store} {w : World} {l : Nat} {o : Obj} {F : List Res} (h : Reach w0 C σ0 σ w (Res.lrec l o :: F)) : l ∉ blks F ∧ σ l = none := by
  have hn := h.nodup
  simp only [blks, List.flatMap_cons, Res.lrec, List.cons_append, List.nil_append, List.nodup_cons] at hn
  exact ⟨hn.1, h.apart _ (List.mem_cons_self ..) l (by simp [Res.lrec])⟩

theorem yOk_of {P : Program} {n l : Nat} {S α : Type} {A : α → Store → List Value → Prop} {J : List Code} {B : S → α → Option (Nat × S)} {σs : Store} {G : S → Store → List Res → Prop} {hG : ∀ {s σ σ' H}, G s σ H → σ.le σ' → G s σ' H} {fn : FuncId} {ps : Array Tmp} {assign body : Code} {e : Env} {tmps : Array Value} {D : Nat}
    (hst : St n e { tmps := tmps, defers := [] }) (hps : ∀ p ∈ ps.toList, p < n) (hA : ∀ x σ vs, A x σ vs → vs.length = ps.size)
    (hbody : ∀ (w0 : World) (C : List Nat) (τ σ : Store) (s : S) (x : α) (q : Nat × S) (vs : List Value) (Hs : List Res), B s x = some q → σs.le σ → A x σ vs → G s σ Hs →
      TC ⟨P, w0, C, τ, n, some l, none⟩ (asgQ fun e σ H => ∀ w0 C τ, TC ⟨P, w0, C, τ, n, some l, none⟩ (rndQ J fun j σ H => q.1 = j ∧ G q.2 σ H) body e σ H) assign (bindE e ps.toList vs) σ Hs) :
    YOk P l A (rndZ l (mkRec fn tmps ps assign body D) J σs G hG) (stepY B) := by
  rintro p x σ r args w p' b hy hax ⟨Hs, rfl, hg, hle, -⟩ hw
  obtain ⟨hp0, hB, rfl⟩ := stepY_some hy
  rw [hp0] at hw
  have hw1 : Reach w (Res.star (Res.lrec l (recOf (mkRec fn tmps ps assign body D) J 0) :: Hs)).bl σ σ w (Res.lrec l (.loop (mkRec fn tmps ps assign body D .ready none)) :: Hs) := by
    have := hw.unstar
    rw [List.append_nil] at this
    exact this
  have hlen := hA x σ args hax
  have hl1 : w.heap[l]? = some (.loop (mkRec fn tmps ps assign body D .ready none)) := hw1.holds _ (List.mem_cons_self ..)
  have hy := run_yield (P := P) (args := args.toArray) hl1 (by simpa using hlen)
  refine ⟨fn, _, assign, body, hy, roundIn_of_wpIn trivial ?_⟩
  have hz : (ps.zip args.toArray).foldl (fun t (p, v) => t.setIfInBounds p v) tmps = (ps.toList.zip args).foldl (fun t p => t.setIfInBounds p.1 p.2) tmps := by
    rw [← Array.foldl_toList, Array.toList_zip]
  have hS : St n (bindE e ps.toList args) { tmps := (ps.zip args.toArray).foldl (fun t (p, v) => t.setIfInBounds p v) tmps, defers := [] } := by
    rw [hz]; exact St.binds _ _ hps hst
  refine wpIn_mono (hbody w (blks Hs) σ σ p.2 x p' args Hs hB hle hax hg w _ ⟨hw1.tail, ⟨fun _ => ⟨[], rfl, List.nodup_nil, by simp⟩, (fun _ h => by cases h), fun l' hl' => ?_⟩⟩ hS) ?_
  · cases hl'; exact ⟨rfl, ⟨_, hl1⟩, (rec_far hw1).1, (rec_far hw1).2⟩
  rintro ex a2 w2 ⟨e2, σ2, H2, hS2, hw2, hq2⟩
  cases ex with
  | normal =>
    have hw2' := hw1.callT hw2.toReach
    have hl2 : w2.heap[l]? = some (.loop (mkRec fn tmps ps assign body D .ready none)) := hw2'.holds _ (List.mem_cons_self ..)
    have hw3 := hw2'.turnRec (o' := .loop (mkRec fn tmps ps assign body D .busy none))
    have hl3 : (w2.putObj l (.loop (mkRec fn tmps ps assign body D .busy none))).heap[l]? = some (.loop (mkRec fn tmps ps assign body D .busy none)) := hw3.holds _ (List.mem_cons_self ..)
    have hd2 : a2.defers = [] := (hw2.marks.rc l rfl).1
    refine ⟨_, run_beginRound hl2 rfl, ?_⟩
    refine wpIn_mono (hq2 _ (blks H2) σ2 _ a2 ⟨hw3.tail, ⟨fun _ => ⟨[], by rw [hd2]; rfl, List.nodup_nil, by simp⟩, (fun _ h => by cases h), fun l' hl' => ?_⟩⟩ hS2) ?_
    · cases hl'; exact ⟨hd2, ⟨_, hl3⟩, (rec_far hw3).1, (rec_far hw3).2⟩
    rintro ex a4 w4 ⟨e4, σ4, H4, hS4, hw4, hq4⟩
    have hw4' := hw3.callT hw4.toReach
    have hl4 : w4.heap[l]? = some (.loop (mkRec fn tmps ps assign body D .busy none)) := hw4'.holds _ (List.mem_cons_self ..)
    have fin : ∀ (jump : Option Code) (j : Nat), p'.1 = j → (j = 0 → jump = none) → (j ≠ 0 → jump = J[j - 1]? ∧ ∃ c, jump = some c) → G p'.2 σ4 H4 → ∃ v w', (Instr.endRound l jump).run P w4 = .ok v w' ∧ (Ending.returned v = .returned (.bool (p'.1 == 0)) ∧ ∃ σ' r', YR (rndZ l (mkRec fn tmps ps assign body D) J σs G hG) p' σ' r' ∧ Reach w (Res.star (Res.lrec l (recOf (mkRec fn tmps ps assign body D) J p.1) :: Hs)).bl σ σ' w' [r']) := fun jump j h1 h2 h3 h4 => by
      have h6 : Obj.loop (mkRec fn tmps ps assign body D (if jump.isNone then .ready else .done) jump) = recOf (mkRec fn tmps ps assign body D) J p'.1 := by
        unfold recOf
        rw [h1]
        by_cases h0 : j = 0
        · rw [if_pos h0, h2 h0]; rfl
        · obtain ⟨h7, c, h8⟩ := h3 h0
          rw [if_neg h0, ← h7, h8]; rfl
      refine ⟨_, _, run_endRound jump hl4, ?_, σ4, Res.star (Res.lrec l (recOf (mkRec fn tmps ps assign body D) J p'.1) :: H4), ⟨H4, rfl, h4, hle.trans hw4'.le, fun h => ?_⟩, ?_⟩
      · rw [h1]
        by_cases h0 : j = 0
        · rw [h2 h0, h0]; rfl
        · obtain ⟨_, c, hc⟩ := h3 h0
          rw [hc]; simp [h0]
      · rw [h1] at h ⊢
        obtain ⟨h5, c, h6⟩ := h3 h
        exact ⟨c, by rw [← h5, h6]⟩
      · have h5 := hw4'.turnRec (o' := .loop (mkRec fn tmps ps assign body D (if jump.isNone then .ready else .done) jump))
        show Reach w _ σ σ4 (w4.putObj l (.loop (mkRec fn tmps ps assign body D (if jump.isNone then .ready else .done) jump))) _
        rw [h6] at h5 ⊢
        rw [hp0]
        exact Reach.star (G := Res.lrec l (recOf (mkRec fn tmps ps assign body D) J p'.1) :: H4) (F := []) (by rw [List.append_nil]; exact h5)
    cases ex with
    | normal => exact fin none 0 hq4.1 (fun _ => rfl) (fun h => absurd rfl h) hq4.2
    | ret => obtain ⟨j, hj, h1, h2⟩ := hq4; exact fin (some .ret) (j + 1) h1 (fun h => by cases h) (fun _ => ⟨by simpa using hj.symm, _, rfl⟩) h2
    | exit i => obtain ⟨j, hj, h1, h2⟩ := hq4; exact fin (some (.exit i)) (j + 1) h1 (fun h => by cases h) (fun _ => ⟨by simpa using hj.symm, _, rfl⟩) h2
    | goto i => obtain ⟨j, hj, h1, h2⟩ := hq4; exact fin (some (.goto i)) (j + 1) h1 (fun h => by cases h) (fun _ => ⟨by simpa using hj.symm, _, rfl⟩) h2
    | panic c => exact hq4.elim
    | outgrown => exact hq4.elim
  | exit i => exact hq2.elim
  | goto i => exact hq2.elim
  | ret => exact hq2.elim
  | panic c => exact hq2.elim
  | outgrown => exact hq2.elim

/-- What comes behind the loop. -/
@[reducible] def jmpQ (X : Ctx) (Q : QP) (J : List Code) : Nat → Env → Store → List Res → Prop
  | 0 => Q .normal
  | j + 1 => fun e σ H => ∀ c, J[j]? = some c → TC X Q c e σ H

/-- A range over a function. -/
theorem TC.rangeFunc {X : Ctx} {Q : QP} {e : Env} {σ : Store} {H Hs Hc : List Res} {S α : Type} {g : Operand} {ps : Array Tmp} {assign body : Code} {f : Nat} {lb : List Value} {A : α → Store → List Value → Prop}
    (J : List Code) (B : S → α → Option (Nat × S)) (G : S → Store → List Res → Prop) {s : S} {q : Nat × S} {PostC : Store → List Res → Prop}
    (hg : ev e g = .func (.func f) #[] lb.toArray) (hp : plainF X.P f = true) (hH : Hs ++ Hc = H) (hps : ps.toList.all (fun p => Nat.blt p X.n) = true)
    (hG : ∀ {s σ σ' H}, G s σ H → σ.le σ' → G s σ' H) (h0 : G s σ Hs) (hA : ∀ x σ vs, A x σ vs → vs.length = ps.size)
    (hit : IterOk X.P f lb A (stepY B) σ Hc (0, s) q PostC)
    (hbody : ∀ (l : Nat) (w0 : World) (C : List Nat) (τ σ' : Store) (s : S) (x : α) (q : Nat × S) (vs : List Value) (Hs : List Res), B s x = some q → σ.le σ' → A x σ' vs → G s σ' Hs →
      TC ⟨X.P, w0, C, τ, X.n, some l, none⟩ (asgQ fun e σ H => ∀ w0 C τ, TC ⟨X.P, w0, C, τ, X.n, some l, none⟩ (rndQ J fun j σ H => q.1 = j ∧ G q.2 σ H) body e σ H) assign (bindE e ps.toList vs) σ' Hs)
    (hdone : ∀ σ' Hs' Hc', σ.le σ' → G q.2 σ' Hs' → PostC σ' Hc' → jmpQ X Q J q.1 e σ' (Hs' ++ Hc')) (hown : X.own = none := by rfl) : TC X Q (.rangeFunc g ps assign body) e σ H := by
  subst hH
  intro w a hw ha
  have hps' : ∀ p ∈ ps.toList, p < X.n := fun p hp => by
    have := List.all_eq_true.1 hps p hp
    simpa [Nat.blt_eq] using this
  refine wpIn_rangeFunc fun fn _ => ?_
  have key : ∀ (l D : Nat) (w1 : World) (a1 : Act), a1.tmps = a.tmps → RM X a1 σ w1 (Res.lrec l (.loop (mkRec fn a.tmps ps assign body D .ready none)) :: (Hs ++ Hc)) →
      CallsIn (fence X.rnd) 0 X.P f (#[.func (.yield l) #[] #[]] ++ lb.toArray) w1 (rangePost (fence X.rnd) 0 X.P l (low X Q) a1) := by
    intro l D w1 a1 ht hw1
    have hcon := hit l (rndZ l (mkRec fn a.tmps ps assign body D) J σ G hG) (Res.star (Res.lrec l (recOf (mkRec fn a.tmps ps assign body D) J 0) :: Hs))
      (yOk_of ⟨ha.size, ha.get⟩ hps' hA (hbody l)) ⟨Hs, rfl, h0, Store.le.refl _, fun h => absurd rfl h⟩
    have hst : RM X a1 σ w1 (Res.star (Res.lrec l (recOf (mkRec fn a.tmps ps assign body D) J 0) :: Hs) :: Hc) := hw1.by fun _ k => Reach.star (G := Res.lrec l (recOf (mkRec fn a.tmps ps assign body D) J 0) :: Hs) (F := Hc) k
    have hcall := hcon w1 hst.self
    have hargs : (Value.func (.yield l) #[] #[] :: lb).toArray = #[.func (.yield l) #[] #[]] ++ lb.toArray := by apply Array.ext'; simp
    rw [hargs] at hcall
    refine calls_fence.2 (hcall.mono ?_)
    rintro ex w2 ⟨v, σ2, H2, rfl, ⟨r', Hc', rfl, ⟨Hs', rfl, hg2, hle, hJ⟩, hpc⟩, hw2⟩
    have hw3 : RM X a1 σ2 w2 (Res.lrec l (recOf (mkRec fn a.tmps ps assign body D) J q.1) :: (Hs' ++ Hc')) := (hst.step hw2 rfl).by fun _ k => k.unstar
    have hl : w2.heap[l]? = some (recOf (mkRec fn a.tmps ps assign body D) J q.1) := hw3.holds _ (List.mem_cons_self ..)
    have hS1 : St X.n e a1 := ⟨by rw [ht]; exact ha.size, fun t => by rw [ht]; exact ha.get t⟩
    have hw5 : ∀ o', RM X a1 σ2 (w2.putObj l o') (Hs' ++ Hc') := fun o' => hw3.step ((hw3.self.turnRec (o' := o')).sub (List.sublist_cons_self ..)) rfl
    have hfin := hdone σ2 Hs' Hc' hle hg2 hpc
    unfold recOf at hl
    cases hq : q.1 with
    | zero =>
      rw [hq] at hl hfin
      exact ⟨none, _, run_endLoop hl (by simp), e, σ2, _, hS1, hw5 _, hfin⟩
    | succ j =>
      rw [hq] at hl hfin hJ
      obtain ⟨c, hc⟩ := hJ (by simp)
      simp only [Nat.add_sub_cancel, Nat.succ_ne_zero, if_false] at hl hc
      rw [hc] at hl
      exact ⟨some c, _, run_endLoop hl (by simp), hfin c hc _ a1 (hw5 _) hS1⟩
  have hnew : ∀ k, k < w.heap.size ∨ True := fun _ => .inr trivial
  have hres : ∀ l w1, (resolve a.eval (rangeCall g l) 0).run X.P w1 = .ok { target := .fn (.func f) lb.toArray, args := #[.func (.yield l) #[] #[]] } w1 := fun l w1 => by
    rw [ha.eval']
    simp only [resolve, hg]
    simp [go_sem, Deferred.ofValue, ev]
  have hinv : ∀ l w1, (invoke (.fn (.func f) lb.toArray) #[.func (.yield l) #[] #[]]).run X.P w1 = .ok (.enter f (#[.func (.yield l) #[] #[]] ++ lb.toArray)) w1 := fun l w1 => by
    simp [invoke, run_callFunc hp]
  cases hr : X.rnd with
  | none =>
    refine ⟨w.heap.size + 1, _, _, _, _, f, _, _, run_enterLoop_outer _ _ _ _ _, hres _ _, fun _ _ => trivial, hinv _ _, (fun h => by cases h), hr ▸ key (w.heap.size + 1) w.heap.size _ _ rfl ?_⟩
    have hsz : ((w.alloc (.deferred (some []))).heap.size) = w.heap.size + 1 := by simp
    have hold : ∀ k, k < w.heap.size → ((w.alloc (.deferred (some []))).alloc (.loop (mkRec fn a.tmps ps assign body w.heap.size .ready none))).heap[k]? = w.heap[k]? := fun k hk => by
      rw [alloc_old _ _ _ (by omega), alloc_old _ _ _ hk]
    have hR : Reach w (blks (Hs ++ Hc)) σ σ ((w.alloc (.deferred (some []))).alloc (.loop (mkRec fn a.tmps ps assign body w.heap.size .ready none))) (Res.lrec (w.heap.size + 1) (.loop (mkRec fn a.tmps ps assign body w.heap.size .ready none)) :: (Hs ++ Hc)) :=
      hw.self.gain rfl rfl rfl (by simp; omega) (Nat.le_refl _) hold (by
        have := World.alloc_heap_new (w.alloc (.deferred (some []))) (.loop (mkRec fn a.tmps ps assign body w.heap.size .ready none))
        rw [hsz] at this; exact this) (fun b hb => by simp [Res.lrec] at hb; omega) (by simp [Res.lrec])
    have h1 := hw.step hR (a' := a) rfl
    refine ⟨h1.toReach, ⟨fun _ => ?_, (fun _ h => by rw [hown] at h; cases h), fun l hl => by rw [hr] at hl; cases hl⟩⟩
    obtain ⟨Ds, g1, g2, g3⟩ := h1.marks.ex hown
    obtain ⟨Ds0, g10, g20, g30⟩ := hw.marks.ex hown
    have hDs : Ds = Ds0 := by
      have := g1.symm.trans g10
      have h2 : ∀ (A B : List Nat), A.map (fun D => ({ target := .collected D, args := #[] } : Deferred)) = B.map (fun D => ({ target := .collected D, args := #[] } : Deferred)) → A = B := fun A => by
        induction A with
        | nil => intro B h; cases B with
          | nil => rfl
          | cons b B => simp at h
        | cons a A ih => intro B h; cases B with
          | nil => simp at h
          | cons b B => simp only [List.map_cons, List.cons.injEq, Deferred.mk.injEq, Target.collected.injEq, and_true] at h; rw [h.1, ih B h.2]
      exact h2 _ _ this
    subst hDs
    refine ⟨w.heap.size :: Ds, by simp [g1], List.nodup_cons.2 ⟨fun hx => ?_, g2⟩, fun D hD => ?_⟩
    · have := (Array.getElem?_eq_some_iff.1 (g30 _ hx).1).1; omega
    · rcases List.mem_cons.1 hD with rfl | hD
      · refine ⟨?_, hw.size, fun hx => ?_, ?_⟩
        · rw [alloc_old _ _ _ (by omega)]; exact World.alloc_heap_new w _
        · simp only [blks, List.flatMap_cons, Res.lrec, List.cons_append, List.nil_append, List.mem_cons] at hx
          rcases hx with hx | hx
          · omega
          · obtain ⟨r, hr', hb⟩ := mem_blks.1 hx
            have := hw.block_lt hr' hb; omega
        · cases hs : σ w.heap.size with
          | none => rfl
          | some o => have := (Array.getElem?_eq_some_iff.1 (hw.fit _ _ hs)).1; omega
      · exact g3 D hD
  | some l0 =>
    obtain ⟨hd0, ⟨r0, h1⟩, h2, h3⟩ := hw.marks.rc l0 hr
    refine ⟨w.heap.size, _, _, _, _, f, _, _, run_enterLoop_inner h1 _ _ _ _ _, hres _ _, fun _ _ => trivial, hinv _ _, (fun h => by cases h), hr ▸ key w.heap.size r0.defers _ a rfl ?_⟩
    refine hw.step (hw.self.gain rfl rfl rfl (by simp) (Nat.le_refl _) (fun k hk => alloc_old _ _ _ hk) (World.alloc_heap_new w _) (fun b hb => by simp [Res.lrec] at hb; omega) (by simp [Res.lrec])) rfl
end Go.E
end

/- Rng2 -/
section
/- Ranging over functions, as the decompiled texts say it. Plain lemmas over any program; no condition. -/
set_option linter.unusedVariables false
set_option linter.unusedSimpArgs false
namespace Go.E
open Go

theorem TC.rangeG {X : Ctx} {Q : QP} {e : Env} {σ : Store} {H Hs Hc : List Res} {S α : Type} {g : Operand} {ps : Array Tmp} {assign body : Code} {f : Nat} {lb : List Value} {A : α → Store → List Value → Prop}
    (J : List Code) (B : S → α → Option (Nat × S)) (G : S → Store → List Res → Prop) {s : S} {q : Nat × S} {PostC : Store → List Res → Prop}
    (hg : ev e g = .func (.func f) #[] lb.toArray) (hp : plainF X.P f = true) (hH : Hs ++ Hc = H) (hps : ps.toList.all (fun p => Nat.blt p X.n) = true)
    (hG : ∀ {s σ σ' H}, G s σ H → σ.le σ' → G s σ' H) (h0 : G s σ Hs) (hA : ∀ x σ vs, A x σ vs → vs.length = ps.size)
    (hit : IterOk X.P f lb A (stepY B) σ Hc (0, s) q PostC)
    (hbody : ∀ (l : Nat) (w0 : World) (C : List Nat) (τ σ' : Store) (s : S) (x : α) (q : Nat × S) (vs : List Value) (Hs : List Res), B s x = some q → σ.le σ' → A x σ' vs → G s σ' Hs →
      TC ⟨X.P, w0, C, τ, X.n, some l, none⟩ (asgQ fun e σ H => ∀ w0 C τ, TC ⟨X.P, w0, C, τ, X.n, some l, none⟩ (rndQ J fun j σ H => q.1 = j ∧ ∃ F, Sub F H ∧ G q.2 σ F) body e σ H) assign (bindE e ps.toList vs) σ' Hs)
    (hdone : ∀ σ' Hs' Hc', σ.le σ' → G q.2 σ' Hs' → PostC σ' Hc' → jmpQ X Q J q.1 e σ' (Hs' ++ Hc')) (hown : X.own = none := by rfl) : TC X Q (.rangeFunc g ps assign body) e σ H := by
  refine TC.rangeFunc J B G hg hp hH hps hG h0 hA hit (fun l w0 C τ σ' s x q vs Hs h1 h2 h3 h4 => (hbody l w0 C τ σ' s x q vs Hs h1 h2 h3 h4).weak fun ex e σ H h => ?_) hdone hown
  cases ex with
  | normal =>
    refine fun w0 C τ => TC.weakR ((h w0 C τ).weak fun ex e σ H h => ?_)
    cases ex with
    | normal => obtain ⟨h1, F, hs, hg⟩ := h; exact ⟨F, hs, h1, hg⟩
    | ret => obtain ⟨j, hj, h1, F, hs, hg⟩ := h; exact ⟨F, hs, j, hj, h1, hg⟩
    | exit i => obtain ⟨j, hj, h1, F, hs, hg⟩ := h; exact ⟨F, hs, j, hj, h1, hg⟩
    | goto i => obtain ⟨j, hj, h1, F, hs, hg⟩ := h; exact ⟨F, hs, j, hj, h1, hg⟩
    | panic c => exact h.elim
    | outgrown => exact h.elim
  | exit i => exact h
  | goto i => exact h
  | ret => exact h
  | panic c => exact h
  | outgrown => exact h

theorem asg_n {K : Env → Store → List Res → Prop} {e : Env} {σ : Store} {H : List Res} (h : K e σ H) : asgQ K .normal e σ H := h
theorem rnd_n {J : List Code} {K : Nat → Store → List Res → Prop} {e : Env} {σ : Store} {H : List Res} (h : K 0 σ H) : rndQ J K .normal e σ H := h
theorem rnd_r {J : List Code} {K : Nat → Store → List Res → Prop} {e : Env} {σ : Store} {H : List Res} (j : Nat) (hj : J[j]? = some .ret) (h : K (j + 1) σ H) : rndQ J K .ret e σ H := ⟨j, hj, h⟩
/-- By the jump that is pending. -/
def jsel {α : Type} : Nat → Option α → (Nat → Option α) → Option α
  | 0, a, _ => a
  | n + 1, _, b => b n
theorem jmp_split {X : Ctx} {Q : QP} {J : List Code} {n : Nat} {e : Env} {σ : Store} {H : List Res} {α : Type} {a : Option α} {b : Nat → Option α} {r : α} (hh : jsel n a b = some r)
    (h0 : a = some r → Q .normal e σ H) (h1 : ∀ m c, b m = some r → J[m]? = some c → TC X Q c e σ H) : jmpQ X Q J n e σ H := by
  cases n with
  | zero => exact h0 hh
  | succ m => exact fun c hc => h1 m c hh hc
theorem jl_split {X : Ctx} {Q : QP} {J : List Code} {c0 c : Code} {m : Nat} {e : Env} {σ : Store} {H : List Res} {α : Type} {a : Option α} {b : Nat → Option α} {r : α} (hh : jsel m a b = some r) (hc : (c0 :: J)[m]? = some c)
    (h0 : a = some r → TC X Q c0 e σ H) (h1 : ∀ m, b m = some r → J[m]? = some c → TC X Q c e σ H) : TC X Q c e σ H := by
  cases m with
  | zero => simp at hc; subst hc; exact h0 hh
  | succ m => exact h1 m hh (by simpa using hc)
theorem jl_nil {X : Ctx} {Q : QP} {c : Code} {m : Nat} {e : Env} {σ : Store} {H : List Res} (hc : ([] : List Code)[m]? = some c) : TC X Q c e σ H := by simp at hc
end Go.E
end
