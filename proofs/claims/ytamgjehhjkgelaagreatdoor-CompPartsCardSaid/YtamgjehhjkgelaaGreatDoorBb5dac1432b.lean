/- Parts of a proof, one behind the other: what a machine reaches, functions decompiled, plain lemmas. Conditions stand with each lemma. -/
import Derived.Test.YtamgjehhjkgelaaGreatDoorB8c52fea6f4
import Derived.Maps.RangeRun
import Derived.Laws.StructEq
import Derived.Laws.BytesArg
import Derived.Lib.Bytealg
import Derived.Shelf.SlSortCmp.NoneTotal
import Derived.Shelf.Sort.Plain
import Derived.Shelf.Slices.In.SortNone
import Derived.Test.YtamgjehhjkgelaaGreatDoorProg

set_option linter.unusedVariables false
set_option linter.unusedSimpArgs false
set_option linter.unusedSectionVars false
set_option maxRecDepth 100000

section
namespace Go.E
open Go
structure FM (K V : Type) where
  f : K → Option V
  n : Nat
section
variable {K V : Type}
def FM.emp : FM K V := ⟨fun _ => none, 0⟩
def FM.put [DecidableEq K] (m : FM K V) (k : K) (v : V) : FM K V := ⟨fun x => if x = k then some v else m.f x, if (m.f k).isSome then m.n else m.n + 1⟩
def FM.get (m : FM K V) (k : K) (d : V) : V := (m.f k).getD d
def FM.has (m : FM K V) (k : K) : Bool := (m.f k).isSome
structure Rep (l : List (K × V)) (m : FM K V) : Prop where
  mem : ∀ k v, (k, v) ∈ l ↔ m.f k = some v
  len : l.length = m.n
  nodup : (l.map Prod.fst).Nodup
theorem Rep.emp : Rep ([] : List (K × V)) FM.emp := ⟨by simp [FM.emp], rfl, by simp⟩
theorem Rep.perm {l l' : List (K × V)} {m : FM K V} (h : Rep l m) (hp : l'.Perm l) : Rep l' m := ⟨fun k v => by rw [hp.mem_iff]; exact h.mem k v, by rw [hp.length_eq]; exact h.len, (hp.map _).nodup_iff.2 h.nodup⟩
theorem Rep.not {l : List (K × V)} {m : FM K V} (h : Rep l m) {k : K} : k ∉ l.map Prod.fst ↔ m.f k = none := by
  constructor
  · intro hn
    cases hk : m.f k with
    | none => rfl
    | some v => exact absurd (List.mem_map.2 ⟨_, (h.mem k v).2 hk, rfl⟩) hn
  · intro hk hm
    obtain ⟨⟨k', v⟩, h1, rfl⟩ := List.mem_map.1 hm
    have := (h.mem k' v).1 h1
    simp only at hk; rw [hk] at this; cases this
end
structure MapAt {K V : Type} (enc : K → Value) (encV : V → Value) (w : World) (b : Nat) (zs : List (MapEntry × (K × V))) (clock : Nat) : Prop where
  at_ : ∃ es, w.heap[b]? = some (.map es clock) ∧ es.toList = zs.map Prod.fst
  key : ∀ z ∈ zs, z.1.key = enc z.2.1
  val : ∀ z ∈ zs, z.1.val = encV z.2.2
  born : ∀ z ∈ zs, z.1.born < clock
  nodup : (zs.map (·.1.born)).Nodup
def MapIs {K V : Type} (enc : K → Value) (encV : V → Value) (b : Nat) (m : FM K V) (w : World) : Prop := ∃ zs clock, Rep (zs.map Prod.snd) m ∧ MapAt enc encV w b zs clock
theorem MapIs.keep {K V : Type} {enc : K → Value} {encV : V → Value} {b : Nat} {m : FM K V} {w w' : World} (h : MapIs enc encV b m w) (hb : w'.heap[b]? = w.heap[b]?) : MapIs enc encV b m w' := by
  obtain ⟨zs, c, h1, ⟨es, h2, h3⟩, h4, h5, h6, h7⟩ := h
  exact ⟨zs, c, h1, ⟨es, by rw [hb]; exact h2, h3⟩, h4, h5, h6, h7⟩
def Res.mapB {K V : Type} (enc : K → Value) (encV : V → Value) (b : Option Nat) (m : FM K V) : Res where
  bl := b.toList
  holds w := (b = none → m = FM.emp) ∧ ∀ k, b = some k → MapIs enc encV k m w
  lt w k hk h := by obtain ⟨_, _, _, ⟨_, h, _⟩, _⟩ := h.2 k (Option.mem_toList.1 hk); exact (Array.getElem?_eq_some_iff.1 h).1
  keep w w' hb h := ⟨h.1, fun k hk => (h.2 k hk).keep (hb k (Option.mem_toList.2 hk))⟩
def Res.rngN {K V : Type} (it : Nat) (m : FM K V) (left : List (K × V)) (last : Option (K × V)) : Res where
  bl := [it]
  holds w := (m = FM.emp ∧ left = [] ∧ last = none) ∧ w.heap[it]? = some (.mapIter none 0 #[] 0)
  lt w k hk h := by rw [List.mem_singleton.1 hk]; exact (Array.getElem?_eq_some_iff.1 h.2).1
  keep w w' hb h := ⟨h.1, by rw [hb it (List.mem_singleton.2 rfl)]; exact h.2⟩
def Res.rngS {K V : Type} (enc : K → Value) (encV : V → Value) (b it : Nat) (m : FM K V) (left : List (K × V)) (last : Option (K × V)) : Res where
  bl := [b, it]
  holds w := b ≠ it ∧ ∃ zs clock seen, Rep (zs.map Prod.snd) m ∧ MapAt enc encV w b zs clock ∧ w.heap[it]? = some (.mapIter (some b) clock seen clock) ∧
    left.Perm ((zs.filter fun z => !seen.contains z.1.born).map Prod.snd) ∧ ∀ x, last = some x → ∃ z ∈ zs, ∃ s : Array Nat, seen = s.push z.1.born ∧ z.2 = x
  lt w k hk h := by
    obtain ⟨_, zs, c, seen, _, ⟨⟨_, h, _⟩, _⟩, h', _⟩ := h
    simp at hk
    rcases hk with rfl | rfl
    · exact (Array.getElem?_eq_some_iff.1 h).1
    · exact (Array.getElem?_eq_some_iff.1 h').1
  keep w w' hb h := by
    obtain ⟨hne, zs, c, seen, h1, ⟨⟨es, h2, h3⟩, h4, h5, h6, h7⟩, h8, h9⟩ := h
    exact ⟨hne, zs, c, seen, h1, ⟨⟨es, by rw [hb b (by simp)]; exact h2, h3⟩, h4, h5, h6, h7⟩, by rw [hb it (by simp)]; exact h8, h9⟩
def Res.rng {K V : Type} (enc : K → Value) (encV : V → Value) (b : Option Nat) (it : Nat) (m : FM K V) (left : List (K × V)) (last : Option (K × V)) : Res := match b with
  | none => Res.rngN it m left last
  | some b => Res.rngS enc encV b it m left last
structure KeyL {K : Type} [DecidableEq K] (P : Program) (T : TypeId) (enc : K → Value) : Prop where
  check : ∀ x c w, (Instr.checkKey c 10000 T (enc x)).run P w = .ok () w
  find : ∀ x (l : List K) (es : List MapEntry) w, es.map (·.key) = l.map enc → ∃ r, (Instr.findKey T (enc x) es).run P w = .ok r w ∧
    (x ∉ l → r = none) ∧ (x ∈ l → ∃ i m, r = some (i, m.val) ∧ es[i]? = some m ∧ l[i]? = some x)
  stays : ∀ x w, (Instr.keyThatStays (enc x) (enc x)).run P w = .ok (enc x) w
theorem findNow_law {K : Type} [DecidableEq K] {d : TypeDesc} {enc : K → Value} (h : ∀ x y, Instr.sameNow d (enc x) (enc y) = some (decide (x = y))) (x : K) : ∀ (l : List K) (es : List MapEntry) (i : Nat), es.map (·.key) = l.map enc → ∃ r, Instr.findNow d (enc x) es i = some r ∧
    (x ∉ l → r = none) ∧ (x ∈ l → ∃ j m, r = some (i + j, m.val) ∧ es[j]? = some m ∧ l[j]? = some x)
  | [], [], i, _ => ⟨none, rfl, fun _ => rfl, fun h => by simp at h⟩
  | [], _ :: _, i, h => by simp at h
  | _ :: _, [], i, h => by simp at h
  | y :: l, m :: es, i, hk => by
    simp only [List.map_cons, List.cons.injEq] at hk
    obtain ⟨h1, h2⟩ := hk
    unfold Instr.findNow
    rw [h1, h]
    by_cases hxy : x = y
    · subst hxy
      simp only [decide_true]
      exact ⟨_, rfl, fun h => absurd (List.mem_cons_self ..) h, fun _ => ⟨0, m, rfl, rfl, rfl⟩⟩
    · rw [decide_eq_false hxy]
      obtain ⟨r, h3, h4, h5⟩ := findNow_law h x l es (i + 1) h2
      refine ⟨r, h3, fun hn => h4 fun hm => hn (List.mem_cons_of_mem _ hm), fun hm => ?_⟩
      obtain ⟨j, m', e1, e2, e3⟩ := h5 ((List.mem_cons.1 hm).resolve_left hxy)
      exact ⟨j + 1, m', by rw [e1]; congr 2; omega, by simpa using e2, by simpa using e3⟩
theorem KeyL.now {K : Type} [DecidableEq K] {P : Program} {T : TypeId} {d : TypeDesc} {enc : K → Value} (hT : P.underlying T = some d) (h : ∀ x y, Instr.sameNow d (enc x) (enc y) = some (decide (x = y))) (hc : ∀ x c w, (Instr.checkKey c 10000 T (enc x)).run P w = .ok () w) (hs : ∀ x, Instr.sameBits 10000 (enc x) (enc x) = true) : KeyL P T enc where
  check := hc
  find x l es w he := by
    obtain ⟨r, h1, h2, h3⟩ := findNow_law h x l es 0 he
    refine ⟨r, by simp [Instr.findKey, run_underlying hT, h1], h2, fun hm => ?_⟩
    obtain ⟨j, m, e1, e2⟩ := h3 hm
    exact ⟨j, m, by rw [e1, Nat.zero_add], e2⟩
  stays x w := by simp [Instr.keyThatStays, hs]
theorem findAsking_law {K : Type} [DecidableEq K] {P : Program} {T : TypeId} {enc : K → Value} (h : ∀ x y w, (Op.equal T (enc x) (enc y)).run P w = .ok (decide (x = y)) w) (x : K) (w : World) : ∀ (l : List K) (es : List MapEntry) (i : Nat), es.map (·.key) = l.map enc → ∃ r, (Instr.findAsking T (enc x) es i).run P w = .ok r w ∧
    (x ∉ l → r = none) ∧ (x ∈ l → ∃ j m, r = some (i + j, m.val) ∧ es[j]? = some m ∧ l[j]? = some x)
  | [], [], i, _ => ⟨none, by simp [Instr.findAsking], fun _ => rfl, fun h => by simp at h⟩
  | [], _ :: _, i, h => by simp at h
  | _ :: _, [], i, h => by simp at h
  | y :: l, m :: es, i, hk => by
    simp only [List.map_cons, List.cons.injEq] at hk
    obtain ⟨h1, h2⟩ := hk
    unfold Instr.findAsking
    rw [h1]
    by_cases hxy : x = y
    · subst hxy
      exact ⟨some (i, m.val), by simp [h], fun h => absurd (List.mem_cons_self ..) h, fun _ => ⟨0, m, rfl, rfl, rfl⟩⟩
    · obtain ⟨r, h3, h4, h5⟩ := findAsking_law h x w l es (i + 1) h2
      refine ⟨r, by simp [h, hxy, h3], fun hn => h4 fun hm => hn (List.mem_cons_of_mem _ hm), fun hm => ?_⟩
      obtain ⟨j, m', e1, e2, e3⟩ := h5 ((List.mem_cons.1 hm).resolve_left hxy)
      exact ⟨j + 1, m', by rw [e1]; congr 2; omega, by simpa using e2, by simpa using e3⟩
theorem KeyL.asking {K : Type} [DecidableEq K] {P : Program} {T : TypeId} {d : TypeDesc} {enc : K → Value} (hT : P.underlying T = some d) (hn : ∀ x y, Instr.sameNow d (enc x) (enc y) = none) (h : ∀ x y w, (Op.equal T (enc x) (enc y)).run P w = .ok (decide (x = y)) w) (hc : ∀ x c w, (Instr.checkKey c 10000 T (enc x)).run P w = .ok () w) (hs : ∀ x, Instr.sameBits 10000 (enc x) (enc x) = true) : KeyL P T enc where
  check := hc
  find x l es w he := by
    cases l with
    | nil =>
      have : es = [] := by cases es <;> simp_all
      subst this
      exact ⟨none, by simp [Instr.findKey, run_underlying hT, Instr.findNow], fun _ => rfl, fun h => by simp at h⟩
    | cons y l =>
      obtain ⟨r, h1, h2, h3⟩ := findAsking_law h x w (y :: l) es 0 he
      cases es with
      | nil => simp at he
      | cons m es =>
        have hk : m.key = enc y := by simp at he; exact he.1
        refine ⟨r, by simp [Instr.findKey, run_underlying hT, Instr.findNow, hk, hn, h1], h2, fun hm => ?_⟩
        obtain ⟨j, m', e1, e2⟩ := h3 hm
        exact ⟨j, m', by rw [e1, Nat.zero_add], e2⟩
  stays x w := by simp [Instr.keyThatStays, hs]
def keyS (x : List UInt8) : Value := .string (bs x)
theorem bs_beq' (l m : List UInt8) : (bs l == bs m) = decide (l = m) := by
  rw [Bool.eq_iff_iff, decide_eq_true_iff, MapKept.bytes_beq]
  exact ⟨bs_inj, fun h => by rw [h]⟩
theorem run_checkKey_str {P : Program} {K : TypeId} (hK : P.underlying K = some .string) (d : Nat) (x : List UInt8) (c : Bool) (w : World) : (Instr.checkKey c (d + 1) K (keyS x)).run P w = .ok () w := by
  simp [Instr.checkKey, run_underlying hK, keyS]
theorem keyL_str {P : Program} {T : TypeId} (hT : P.underlying T = some .string) : KeyL P T keyS :=
  KeyL.now hT (fun x y => by
    simp only [Instr.sameNow, keyS, bs_beq']) (fun x c w => run_checkKey_str hT 9999 x c w) (fun x => by unfold keyS; rw [Instr.sameBits, bs_beq']; simp)
section
variable {X : Ctx} {e : Env} {σ : Store} {H F : List Res} {o : Oper} {x y z : Operand} {C : Env → Store → List Res → Prop} {K V : Type} {enc : K → Value} {encV : V → Value}
theorem OpOk.makeMapB {T d : Nat} (ho : o.op = .makeMap T none) (hd : o.dst = some d) (hn : Nat.blt d X.n = true) (k : ∀ b, C (upd e d (.map (some b))) σ (Res.mapB enc encV (some b) FM.emp :: H)) : OpOk X o e σ H C := by
  intro u0 C0 τ0 w a hw ha K' Q hK
  refine Oper.wp_of_run (w' := w.alloc (.map #[] 0)) (v := .map (some w.heap.size)) ?_ (hK _ _ _ _ _ (k w.heap.size) (hw.gain1 (some _) rfl rfl rfl rfl (by simp) (Nat.le_refl _) (fun k hk => alloc_old w _ _ hk) ⟨fun h => (by cases h), fun k hk => by cases hk; exact ⟨[], 0, Rep.emp, ⟨#[], heap_alloc_new w _, rfl⟩, by simp, by simp, by simp, by simp⟩⟩ (fun b hb => by cases hb; exact Nat.le_refl _)) (put_dst ha hd hn _))
  simp [execOp, ho, Instr.makeMap]
theorem mapB_sees {b i : Nat} {m : FM K V} {w : World} (hi : H[i]? = some (Res.mapB enc encV (some b) m)) (hw : Sees σ H w) : ∃ zs clock, Rep (zs.map Prod.snd) m ∧ MapAt enc encV w b zs clock := (hw.2 _ (List.mem_of_getElem? hi)).2 b rfl
theorem mapB_nil {i : Nat} {m : FM K V} {w : World} (hi : H[i]? = some (Res.mapB enc encV none m)) (hw : Sees σ H w) : m = FM.emp := (hw.2 _ (List.mem_of_getElem? hi)).1 rfl
theorem MapAt.keys {b clock : Nat} {w : World} {zs : List (MapEntry × (K × V))} (h : MapAt enc encV w b zs clock) : (zs.map Prod.fst).map (·.key) = ((zs.map Prod.snd).map Prod.fst).map enc := by
  rw [List.map_map, List.map_map, List.map_map]
  exact List.map_congr_left fun z hz => h.key z hz
theorem look_run [DecidableEq K] {P : Program} {KT : Nat} {b : Nat} {m : FM K V} {w : World} {zs : List (MapEntry × (K × V))} {clock : Nat} (hR : Rep (zs.map Prod.snd) m) (hM : MapAt enc encV w b zs clock) (KL : KeyL P KT enc) (q : K) {es : Array MapEntry} (he : es.toList = zs.map Prod.fst) :
    (m.f q = none ∧ (Instr.findKey KT (enc q) es.toList).run P w = .ok none w) ∨ ∃ i z, m.f q = some z.2.2 ∧ zs[i]? = some z ∧ z.2.1 = q ∧ (Instr.findKey KT (enc q) es.toList).run P w = .ok (some (i, encV z.2.2)) w := by
  obtain ⟨r, k1, k2, k3⟩ := KL.find q ((zs.map Prod.snd).map Prod.fst) es.toList w (by rw [he]; exact hM.keys)
  by_cases hq : q ∈ (zs.map Prod.snd).map Prod.fst
  · obtain ⟨i, m', e1, e2, e3⟩ := k3 hq
    rw [e1] at k1
    rw [he, List.getElem?_map] at e2
    cases hz : zs[i]? with
    | none => rw [hz] at e2; simp at e2
    | some z =>
      rw [hz] at e2
      simp only [Option.map_some, Option.some.injEq] at e2
      rw [List.getElem?_map, List.getElem?_map, hz] at e3
      simp only [Option.map_some, Option.some.injEq] at e3
      have hzm := List.mem_of_getElem? hz
      refine .inr ⟨i, z, ?_, hz, e3, ?_⟩
      · rw [← e3, ← hR.mem]; exact List.mem_map.2 ⟨z, hzm, rfl⟩
      · rw [k1, ← e2, hM.val z hzm]
  · rw [k2 hq] at k1
    exact .inl ⟨hR.not.1 hq, k1⟩
theorem OpVal.lookB [DecidableEq K] {P : Program} {n T KT ET i : Nat} {b : Option Nat} {m : FM K V} {q : K} (d : V) (ho : o.op = .lookup T x y true) (ht : P.underlying T = some (.map KT ET)) (hz : zeroOf P ET = some (encV d)) (hx : ev e x = .map b) (hi : H[i]? = some (Res.mapB enc encV b m)) (hy : ev e y = enc q) (KL : KeyL P KT enc) :
    OpVal P n o e σ H (.tuple #[encV (m.get q d), .bool (m.has q)]) := fun w hw => by
  cases b with
  | none =>
    obtain rfl := mapB_nil hi hw
    obtain ⟨r, k1, k2, _⟩ := KL.find q [] [] w rfl
    rw [k2 (by simp)] at k1
    simp [execOp, ho, hx, hy, Instr.lookup, run_underlying ht, KL.check, k1, run_zeroValue hz, FM.get, FM.has, FM.emp]
  | some b =>
    obtain ⟨zs, clock, hR, hM⟩ := mapB_sees hi hw
    obtain ⟨es, h1, h2⟩ := hM.at_
    have hg : (getObj b).run P w = .ok (.map es clock) w := run_getObj_map' h1
    rcases look_run hR hM KL q h2 with ⟨h3, h4⟩ | ⟨j, z, h3, _, _, h4⟩
    · simp [execOp, ho, hx, hy, Instr.lookup, run_underlying ht, hg, KL.check, h4, run_zeroValue hz, FM.get, FM.has, h3]
    · simp [execOp, ho, hx, hy, Instr.lookup, run_underlying ht, hg, KL.check, h4, FM.get, FM.has, h3]
theorem OpVal.lenB {P : Program} {n T KT ET i : Nat} {b : Option Nat} {m : FM K V} (ho : o.op = .call { callee := .builtin .len, args := #[x], argTypes := #[T] }) (ht : P.underlying T = some (.map KT ET)) (hx : ev e x = .map b) (hi : H[i]? = some (Res.mapB enc encV b m)) :
    OpVal P n o e σ H (.int .i64 (m.n : Nat)) := fun w hw => by
  cases b with
  | none =>
    obtain rfl := mapB_nil hi hw
    simp [execOp, ho, resolve, invoke, builtin, hx, Builtin.len_, run_underlying ht, goInt, FM.emp]
  | some b =>
    obtain ⟨zs, clock, hR, hM⟩ := mapB_sees hi hw
    obtain ⟨es, h1, h2⟩ := hM.at_
    have hl : es.size = m.n := by have := congrArg List.length h2; have h3 := hR.len; simp at this h3; omega
    have hg : (getObj b).run P w = .ok (.map es clock) w := run_getObj_map' h1
    simp [execOp, ho, resolve, invoke, builtin, hx, Builtin.len_, run_underlying ht, hg, goInt, hl]
theorem OpOk.updB [DecidableEq K] {T KT ET : Nat} {b : Nat} {m : FM K V} (q : K) (v : V) (ho : o.op = .mapUpdate T x y z) (ht : X.P.underlying T = some (.map KT ET)) (hd : o.dst = none) (hx : ev e x = .map (some b)) (hy : ev e y = enc q) (hz : ev e z = encV v) (KL : KeyL X.P KT enc)
    (k : C e σ (Res.mapB enc encV (some b) (m.put q v) :: F)) : OpOk X o e σ (Res.mapB enc encV (some b) m :: F) C := by
  intro u0 C0 τ0 w a hw ha K' Q hK
  obtain ⟨zs, clock, hR, hM⟩ := (hw.holds _ (List.mem_cons_self ..)).2 b rfl
  obtain ⟨es, h1, h2⟩ := hM.at_
  have hg : (getObj b).run X.P w = .ok (.map es clock) w := run_getObj_map' h1
  have hblt : b < w.heap.size := (Array.getElem?_eq_some_iff.1 h1).1
  have key : ∀ es' clock' (zs' : List (MapEntry × (K × V))), es'.toList = zs'.map Prod.fst → Rep (zs'.map Prod.snd) (m.put q v) → (∀ z ∈ zs', z.1.key = enc z.2.1) → (∀ z ∈ zs', z.1.val = encV z.2.2) → (∀ z ∈ zs', z.1.born < clock') → (zs'.map (·.1.born)).Nodup →
      Reach u0 C0 τ0 σ { w with heap := w.heap.setIfInBounds b (.map es' clock') } (Res.mapB enc encV (some b) (m.put q v) :: F) := fun es' clock' zs' g1 g2 g3 g4 g5 g6 =>
    hw.turn1 (some _) (some _) rfl rfl rfl rfl rfl (by simp) (Nat.le_refl _) (fun k hk hne => by
      have : b ≠ k := fun hx => hne (by rw [hx])
      simp [Array.getElem?_setIfInBounds, this]) ⟨fun h => (by cases h), fun k hk => by cases hk; exact ⟨zs', clock', g2, ⟨es', by simp [Array.getElem?_setIfInBounds, hblt], g1⟩, g3, g4, g5, g6⟩⟩ (fun c hc => .inl (by cases hc; rfl))
  rcases look_run hR hM KL q h2 with ⟨h3, h4⟩ | ⟨j, u, h3, hj, hu, h4⟩
  · refine Oper.wp_of_skip (w' := { w with heap := w.heap.setIfInBounds b (.map (es.push { key := enc q, val := encV v, born := clock }) (clock + 1)) }) ?_ (hK _ _ _ _ _ k (key _ _ (zs ++ [({ key := enc q, val := encV v, born := clock }, (q, v))]) ?_ ?_ ?_ ?_ ?_ ?_) (put_dst0 ha hd _))
    · rw [ha.eval']
      simp [execOp, ho, hx, hy, hz, Instr.mapUpdate, run_underlying ht, hg, KL.check, h4, run_setObj_map' _ h1]
    · simp [h2]
    · rw [List.map_append]
      refine ⟨fun k' v' => ?_, ?_, ?_⟩
      · have := hR.mem k' v'
        simp only [FM.put, List.mem_append, this, List.map_cons, List.map_nil, List.mem_singleton, Prod.mk.injEq]
        by_cases hk : k' = q
        · subst hk; simp [h3]; exact eq_comm
        · simp [hk]
      · have := hR.len
        simp only [List.length_append, FM.put, h3, List.length_map, List.length_singleton] at this ⊢
        simp; omega
      · have := hR.not.2 h3
        rw [List.map_append, List.nodup_append]
        refine ⟨hR.nodup, by simp, fun a ha c hc => ?_⟩
        simp at hc; subst hc; intro e; subst e; exact this ha
    · intro z hz
      rcases List.mem_append.1 hz with hz | hz
      · exact hM.key z hz
      · simp at hz; subst hz; rfl
    · intro z hz
      rcases List.mem_append.1 hz with hz | hz
      · exact hM.val z hz
      · simp at hz; subst hz; rfl
    · intro z hz
      rcases List.mem_append.1 hz with hz | hz
      · have := hM.born z hz; omega
      · simp at hz; subst hz; simp
    · rw [List.map_append, List.nodup_append]
      refine ⟨hM.nodup, by simp, fun a ha c hc => ?_⟩
      simp at hc; subst hc
      obtain ⟨z, hz, rfl⟩ := List.mem_map.1 ha
      have := hM.born z hz
      omega
  · have hum := List.mem_of_getElem? hj
    have hes : es[j]? = some u.1 := by
      rw [← Array.getElem?_toList, h2, List.getElem?_map, hj]; rfl
    have hlt : j < es.size := (Array.getElem?_eq_some_iff.1 hes).1
    have huk : u.1.key = enc q := by rw [hM.key u hum, hu]
    have hfst : ∀ i z, (zs.modify j fun p => ({ p.1 with key := enc q, val := encV v }, (q, v)))[i]? = some z → ∃ p, zs[i]? = some p ∧ ((i = j ∧ z = ({ p.1 with key := enc q, val := encV v }, (q, v))) ∨ (i ≠ j ∧ z = p)) := by
      intro i z hz
      rw [List.getElem?_modify] at hz
      cases hp : zs[i]? with
      | none => rw [hp] at hz; simp at hz
      | some p =>
        rw [hp] at hz
        refine ⟨p, rfl, ?_⟩
        by_cases hij : j = i
        · subst hij; simp at hz; exact .inl ⟨rfl, hz.symm⟩
        · simp [hij] at hz; exact .inr ⟨fun h => hij h.symm, hz.symm⟩
    have hkeys : ((zs.modify j fun p => ({ p.1 with key := enc q, val := encV v }, (q, v))).map Prod.snd).map Prod.fst = (zs.map Prod.snd).map Prod.fst := by
      apply List.ext_getElem?
      intro i
      simp only [List.getElem?_map, List.getElem?_modify]
      by_cases hij : j = i
      · subst hij; simp [hj, hu]
      · simp [hij]
    refine Oper.wp_of_skip (w' := { w with heap := w.heap.setIfInBounds b (.map (es.modify j fun m => { m with key := enc q, val := encV v }) clock) }) ?_ (hK _ _ _ _ _ k (key _ _ (zs.modify j fun p => ({ p.1 with key := enc q, val := encV v }, (q, v))) ?_ ?_ ?_ ?_ ?_ ?_) (put_dst0 ha hd _))
    · rw [ha.eval']
      simp [execOp, ho, hx, hy, hz, Instr.mapUpdate, run_underlying ht, hg, KL.check, h4, run_setObj_map' _ h1, hes, huk, KL.stays]
    · apply List.ext_getElem?
      intro i
      rw [Array.getElem?_toList, Array.getElem?_modify, List.getElem?_map, List.getElem?_modify, ← Array.getElem?_toList, h2, List.getElem?_map]
      by_cases hij : j = i
      · subst hij; simp [hj]
      · simp [hij]
    · refine ⟨fun k' v' => ?_, ?_, by rw [hkeys]; exact hR.nodup⟩
      · simp only [FM.put]
        have hin : ∀ k' v', (k', v') ∈ (zs.modify j fun p => ({ p.1 with key := enc q, val := encV v }, (q, v))).map Prod.snd → (k' = q ∧ v' = v) ∨ (k' ≠ q ∧ (k', v') ∈ zs.map Prod.snd) := by
          intro k' v' hm
          obtain ⟨z, hz, hzk⟩ := List.mem_map.1 hm
          obtain ⟨i, hi⟩ := List.mem_iff_getElem?.1 hz
          obtain ⟨p, hp, ⟨_, rfl⟩ | ⟨hij, rfl⟩⟩ := hfst i z hi
          · simp at hzk; exact .inl ⟨hzk.1.symm, hzk.2.symm⟩
          · refine .inr ⟨fun hk => ?_, List.mem_map.2 ⟨z, List.mem_of_getElem? hp, hzk⟩⟩
            have h5 : ((zs.map Prod.snd).map Prod.fst)[i]? = some q := by simp [hp, hzk, hk]
            have h6 : ((zs.map Prod.snd).map Prod.fst)[j]? = some q := by simp [hj, hu]
            obtain ⟨hi5, e5⟩ := List.getElem?_eq_some_iff.1 h5
            obtain ⟨hi6, e6⟩ := List.getElem?_eq_some_iff.1 h6
            exact hij ((List.nodup_iff_pairwise_ne.1 hR.nodup |> List.pairwise_iff_getElem.1) |> fun hpw => by
              rcases Nat.lt_trichotomy i j with h | h | h
              · exact absurd (e5.trans e6.symm) (hpw i j hi5 hi6 h)
              · exact h
              · exact absurd (e6.trans e5.symm) (hpw j i hi6 hi5 h))
        have hout1 : (q, v) ∈ (zs.modify j fun p => ({ p.1 with key := enc q, val := encV v }, (q, v))).map Prod.snd :=
          List.mem_of_getElem? (i := j) (by simp [List.getElem?_modify, hj])
        by_cases hk : k' = q
        · subst hk
          simp only [if_true, Option.some.injEq]
          constructor
          · intro hm
            rcases hin _ _ hm with h | h
            · exact h.2.symm
            · exact absurd rfl h.1
          · rintro rfl; exact hout1
        · rw [if_neg hk, ← hR.mem]
          constructor
          · intro hm
            rcases hin _ _ hm with h | h
            · exact absurd h.1 hk
            · exact h.2
          · intro hm
            obtain ⟨z, hz, hzk⟩ := List.mem_map.1 hm
            obtain ⟨i, hi⟩ := List.mem_iff_getElem?.1 hz
            have hij : j ≠ i := by
              rintro rfl
              rw [hj] at hi
              cases hi
              rw [hzk] at hu
              exact hk hu
            exact List.mem_of_getElem? (i := i) (by simp [List.getElem?_modify, hij, hi, hzk])
      · have := hR.len
        simp only [FM.put, h3, Option.isSome_some, if_true, List.length_map, List.length_modify] at this ⊢
        exact this
    · intro z hz
      obtain ⟨i, hi⟩ := List.mem_iff_getElem?.1 hz
      obtain ⟨p, hp, ⟨_, rfl⟩ | ⟨_, rfl⟩⟩ := hfst i z hi
      · rfl
      · exact hM.key z (List.mem_of_getElem? hp)
    · intro z hz
      obtain ⟨i, hi⟩ := List.mem_iff_getElem?.1 hz
      obtain ⟨p, hp, ⟨_, rfl⟩ | ⟨_, rfl⟩⟩ := hfst i z hi
      · rfl
      · exact hM.val z (List.mem_of_getElem? hp)
    · intro z hz
      obtain ⟨i, hi⟩ := List.mem_iff_getElem?.1 hz
      obtain ⟨p, hp, ⟨_, rfl⟩ | ⟨_, rfl⟩⟩ := hfst i z hi
      · exact hM.born p (List.mem_of_getElem? hp)
      · exact hM.born z (List.mem_of_getElem? hp)
    · have : (zs.modify j fun p => ({ p.1 with key := enc q, val := encV v }, (q, v))).map (·.1.born) = zs.map (·.1.born) := by
        apply List.ext_getElem?
        intro i
        simp only [List.getElem?_map, List.getElem?_modify]
        by_cases hij : j = i
        · subst hij; simp [hj]
        · simp [hij]
      rw [this]; exact hM.nodup
theorem OpOk.rangeB {T KT ET d : Nat} {b : Option Nat} {m : FM K V} (ho : o.op = .range T x) (ht : X.P.underlying T = some (.map KT ET)) (hd : o.dst = some d) (hn : Nat.blt d X.n = true) (hx : ev e x = .map b)
    (k : ∀ it l, Rep l m → C (upd e d (.pointer (some ⟨it, 0, none⟩))) σ (Res.rng enc encV b it m l none :: F)) : OpOk X o e σ (Res.mapB enc encV b m :: F) C := by
  intro u0 C0 τ0 w a hw ha K' Q hK
  cases b with
  | none =>
    obtain rfl := (hw.holds _ (List.mem_cons_self ..)).1 rfl
    have hrun := run_range_nilMap (P := X.P) w T KT ET ht
    refine Oper.wp_of_run (v := .pointer (some ⟨w.heap.size, 0, none⟩)) ?_ (hK _ _ _ _ _ (k w.heap.size [] Rep.emp) (hw.turn (w' := w.alloc (.mapIter none 0 #[] 0)) rfl rfl rfl (by simp) (Nat.le_refl _) (fun k hk _ => alloc_old w _ _ hk) ⟨⟨rfl, rfl, rfl⟩, heap_alloc_new w _⟩ ?_ ?_) (put_dst ha hd hn _))
    · rw [ha.eval']
      simp [execOp, ho, hx, hrun]
    · intro k hk
      simp [Res.rng, Res.rngN] at hk
      right; omega
    · simp [Res.rng, Res.rngN]
  | some b =>
    obtain ⟨zs, clock, hR, hM⟩ := (hw.holds _ (List.mem_cons_self ..)).2 b rfl
    obtain ⟨es, h1, h2⟩ := hM.at_
    have hblt : b < w.heap.size := (Array.getElem?_eq_some_iff.1 h1).1
    have hrun := run_range_map (P := X.P) w T KT ET b es clock ht h1
    have hold : ∀ k, k < w.heap.size → (w.alloc (.mapIter (some b) clock #[] clock)).heap[k]? = w.heap[k]? := fun k hk => alloc_old w _ _ hk
    refine Oper.wp_of_run (v := .pointer (some ⟨w.heap.size, 0, none⟩)) ?_ (hK _ _ _ _ _ (k w.heap.size (zs.map Prod.snd) hR) (hw.turn (w' := w.alloc (.mapIter (some b) clock #[] clock)) rfl rfl rfl (by simp) (Nat.le_refl _) (fun k hk _ => hold k hk) ?_ ?_ ?_) (put_dst ha hd hn _))
    · rw [ha.eval']
      simp [execOp, ho, hx, hrun]
    · refine ⟨by omega, zs, clock, #[], hR, ⟨⟨es, by rw [hold b hblt]; exact h1, h2⟩, hM.key, hM.val, hM.born, hM.nodup⟩, heap_alloc_new w _, ?_, by simp⟩
      rw [List.filter_eq_self.2 (by simp)]
    · intro k hk
      simp [Res.rng, Res.rngS] at hk
      rcases hk with rfl | rfl
      · left; simp [Res.mapB]
      · right; exact Nat.le_refl _
    · simp [Res.rng, Res.rngS]; omega
theorem OpOk.nextB {T d : Nat} {b : Option Nat} {it : Nat} {m : FM K V} {left : List (K × V)} {last : Option (K × V)} (ho : o.op = .next x false) (hty : o.type = T) (hd : o.dst = some d) (hn : Nat.blt d X.n = true) (hx : ev e x = .pointer (some ⟨it, 0, none⟩))
    (k0 : left = [] → C (upd e d (.tuple #[.bool false])) σ (Res.rng enc encV b it m [] last :: F))
    (k1 : ∀ l1 p l2, left = l1 ++ p :: l2 → C (upd e d (.tuple #[.bool true, enc p.1, encV p.2])) σ (Res.rng enc encV b it m (l1 ++ l2) (some p) :: F)) : OpOk X o e σ (Res.rng enc encV b it m left last :: F) C := by
  intro u0 C0 τ0 w a hw ha K' Q hK
  cases b with
  | none =>
    obtain ⟨⟨_, rfl, _⟩, hit⟩ := hw.holds _ (List.mem_cons_self ..)
    refine Oper.wp_of_run (v := .tuple #[.bool false]) ?_ (hK _ _ _ _ _ (k0 rfl) hw (put_dst ha hd hn _))
    rw [ha.eval']
    simp [execOp, ho, hx, Instr.next, getObj, Sem.run, hit, Result.andThen]
  | some b =>
    obtain ⟨hne, zs, clock, seen, hR, hM, hit, hleft, hlast⟩ := hw.holds _ (List.mem_cons_self ..)
    obtain ⟨es, h1, h2⟩ := hM.at_
    have hmem : ∀ x ∈ es.toList, x.born < clock := fun x hx => by
      rw [h2] at hx
      obtain ⟨z, hz, rfl⟩ := List.mem_map.1 hx
      exact hM.born z hz
    have hfil : (leftOf es seen).toList = (zs.filter fun z => !seen.contains z.1.born).map Prod.fst := by
      unfold leftOf
      rw [Array.toList_filter, h2, List.filter_map]
      rfl
    rcases run_next_at (P := X.P) w o.type it b clock clock seen es clock hit h1 hmem (Nat.le_refl _) with ⟨h0, hrun⟩ | ⟨en, hen, w1, hal, hrun⟩
    · have hl0 : left = [] := by
        have : (zs.filter fun z => !seen.contains z.1.born) = [] := by
          have h3 := congrArg List.length hfil
          rw [List.length_map, Array.length_toList, h0] at h3
          exact List.eq_nil_of_length_eq_zero h3.symm
        rw [this] at hleft
        exact hleft.eq_nil
      subst hl0
      refine Oper.wp_of_run (v := .tuple #[.bool false]) ?_ (hK _ _ _ _ _ (k0 rfl) hw (put_dst ha hd hn _))
      rw [ha.eval']
      simp [execOp, ho, hx, hrun]
    · rw [hfil] at hen
      obtain ⟨z, hz, rfl⟩ := List.mem_map.1 hen
      obtain ⟨hzm, hzs⟩ := List.mem_filter.1 hz
      have hzl : z.2 ∈ left := hleft.mem_iff.2 (List.mem_map.2 ⟨z, hz, rfl⟩)
      obtain ⟨l1, l2, rfl⟩ := List.append_of_mem hzl
      have hw1 : Reach u0 C0 τ0 σ w1 (Res.rng enc encV (some b) it m (l1 ++ z.2 :: l2) last :: F) := by
        rcases hal with rfl | rfl
        · exact hw
        · exact hw.drew
      have hb1 : w1.heap[b]? = some (.map es clock) := by rcases hal with rfl | rfl <;> exact h1
      have hi1 : w1.heap[it]? = some (.mapIter (some b) clock seen clock) := by rcases hal with rfl | rfl <;> exact hit
      have hblt : b < w1.heap.size := (Array.getElem?_eq_some_iff.1 hb1).1
      have hilt : it < w1.heap.size := (Array.getElem?_eq_some_iff.1 hi1).1
      obtain ⟨A, B, hAB⟩ := List.append_of_mem hz
      have hnew : (zs.filter fun u => !(seen.push z.1.born).contains u.1.born) = A ++ B := by
        have e1 : (zs.filter fun u => !(seen.push z.1.born).contains u.1.born) = (zs.filter fun u => !seen.contains u.1.born).filter fun u => !(u.1.born == z.1.born) := by
          rw [List.filter_filter]
          congr 1
          funext u
          rw [Bool.eq_iff_iff]
          simp [not_or]
          grind
        have hnd : ((A ++ z :: B).map (·.1.born)).Nodup := by
          rw [← hAB]
          exact ((List.filter_sublist (l := zs)).map _).nodup hM.nodup
        rw [e1, hAB, List.filter_append, List.filter_cons]
        simp only [beq_self_eq_true, Bool.not_true, Bool.false_eq_true, if_false]
        rw [List.map_append, List.map_cons, List.nodup_append, List.nodup_cons] at hnd
        obtain ⟨_, ⟨n1, _⟩, n2⟩ := hnd
        rw [List.filter_eq_self.2, List.filter_eq_self.2]
        · intro u hu
          have : u.1.born ≠ z.1.born := fun h => n1 (by rw [← h]; exact List.mem_map.2 ⟨u, hu, rfl⟩)
          simpa using this
        · intro u hu
          have : u.1.born ≠ z.1.born := n2 _ (List.mem_map.2 ⟨u, hu, rfl⟩) _ (List.mem_cons_self ..)
          simpa using this
      refine Oper.wp_of_run (v := .tuple #[.bool true, enc z.2.1, encV z.2.2]) (w' := ChangeMaps.setBlock w1 it (.mapIter (some b) clock (seen.push z.1.born) clock)) ?_ (hK _ _ _ _ _ (k1 l1 z.2 l2 rfl) (hw1.turn ?_ ?_ ?_ ?_ (Nat.le_refl _) ?_ ?_ ?_ ?_) (put_dst ha hd hn _))
      · rw [ha.eval']
        simp [execOp, ho, hx, hrun, hM.key z hzm, hM.val z hzm]
      · rfl
      · rfl
      · rfl
      · simp [ChangeMaps.setBlock]
      · intro k hk hkn
        simp [Res.rng, Res.rngS] at hkn
        have hik : ¬ it = k := fun h => hkn.2 h.symm
        simp [ChangeMaps.setBlock, Array.getElem?_setIfInBounds, hik]
      · refine ⟨hne, zs, clock, seen.push z.1.born, hR, ⟨⟨es, ?_, h2⟩, hM.key, hM.val, hM.born, hM.nodup⟩, ?_, ?_, ?_⟩
        · have hib : ¬ it = b := fun h => hne h.symm
          simp [ChangeMaps.setBlock, Array.getElem?_setIfInBounds, hib]; exact hb1
        · simp [ChangeMaps.setBlock, Array.getElem?_setIfInBounds, hilt]
        · rw [hnew]
          rw [hAB] at hleft
          have h5 : (z.2 :: (l1 ++ l2)).Perm (z.2 :: ((A ++ B).map Prod.snd)) := by
            refine List.perm_middle.symm.trans (hleft.trans ?_)
            rw [List.map_append, List.map_cons, List.map_append]
            exact List.perm_middle
          exact h5.cons_inv
        · rintro x hx
          cases hx
          exact ⟨z, hzm, seen, rfl, rfl⟩
      · intro k hk; exact .inl hk
      · simp [Res.rng, Res.rngS]; exact hne
theorem OpVal.entryB {P : Program} {n i : Nat} {b : Option Nat} {it : Nat} {m : FM K V} {left : List (K × V)} {p : K × V} (ho : o.op = .entry x) (hx : ev e x = .pointer (some ⟨it, 0, none⟩)) (hi : H[i]? = some (Res.rng enc encV b it m left (some p))) : OpVal P n o e σ H (.tuple #[enc p.1, encV p.2]) := fun w hw => by
  cases b with
  | none =>
    obtain ⟨⟨_, _, h⟩, _⟩ := hw.2 _ (List.mem_of_getElem? hi)
    cases h
  | some b =>
    obtain ⟨hne, zs, clock, seen, hR, hM, hit, hleft, hlast⟩ := hw.2 _ (List.mem_of_getElem? hi)
    obtain ⟨z, hz, s, rfl, rfl⟩ := hlast p rfl
    obtain ⟨es, h1, h2⟩ := hM.at_
    have hrun := run_entry_at (P := P) w it b clock s es clock z.1 hit h1 (by rw [h2]; exact List.mem_map.2 ⟨z, hz, rfl⟩) (by rw [h2, List.map_map]; exact hM.nodup)
    simp [execOp, ho, hx, hrun, hM.key z hz, hM.val z hz]
theorem Reach.unrng {w0 : World} {Cb : List Nat} {σ0 : Store} {w : World} {b : Option Nat} {it : Nat} {m : FM K V} {left : List (K × V)} {last : Option (K × V)} (h : Reach w0 Cb σ0 σ w (Res.rng enc encV b it m left last :: F)) : Reach w0 Cb σ0 σ w (Res.mapB enc encV b m :: F) := by
  have hh := h.holds _ (List.mem_cons_self ..)
  refine h.turn rfl rfl rfl (Nat.le_refl _) (Nat.le_refl _) (fun _ _ _ => rfl) ?_ (fun k hk => .inl ?_) (by cases b <;> simp [Res.mapB])
  · cases b with
    | none => obtain ⟨⟨rfl, _⟩, _⟩ := hh; exact ⟨fun _ => rfl, fun k hk => by cases hk⟩
    | some b => obtain ⟨hne, zs, clock, seen, hR, hM, _⟩ := hh; exact ⟨fun h => (by cases h), fun k hk => by cases hk; exact ⟨zs, clock, hR, hM⟩⟩
  · cases b with
    | none => simp [Res.mapB] at hk
    | some b => simp [Res.mapB] at hk; simp [Res.rng, Res.rngS, hk]
end
end Go.E
end

section
namespace Go.E
open Go
abbrev FT := Bool × TypeId × Nat
def fieldsB (P : Program) (T : TypeId) : List FT := (P.fieldsOf T).toList.map fun f => (f.name == "_", f.type, f.offset)
def EqAt (P : Program) (n : Nat) (T : TypeId) (u v : Value) (b : Bool) : Prop := ∀ d w, (Op.equalIn (d + n) T u v).run P w = .ok b w
inductive EqC (P : Program) (n : Nat) (xs ys : Array Value) : List FT → Bool → Prop
  | nil : EqC P n xs ys [] true
  | one {t o : Nat} {ts : List FT} {u v : Value} {b q : Bool} (hA : aggOf P t = some false) (hu : xs[o]? = some u) (hv : ys[o]? = some v) (he : EqAt P n t u v b) (k : EqC P n xs ys ts q) : EqC P n xs ys ((false, t, o) :: ts) (b && q)
  | agg {t o s : Nat} {ts : List FT} {us vs : Array Value} {b q : Bool} (hA : aggOf P t = some true) (hz : szOf P t = some s) (hu : xs.extract o (o + s) = us) (hv : ys.extract o (o + s) = vs) (he : EqAt P n t (.agg us) (.agg vs) b) (k : EqC P n xs ys ts q) : EqC P n xs ys ((false, t, o) :: ts) (b && q)
theorem EqAt.up {P : Program} {n m : Nat} {T : TypeId} {u v : Value} {b : Bool} (h : EqAt P n T u v b) (hm : n ≤ m) : EqAt P m T u v b := fun d w => by
  have := h (d + (m - n)) w
  rwa [show d + (m - n) + n = d + m by omega] at this
theorem EqC.run {P : Program} {n : Nat} {xs ys : Array Value} {ts : List FT} {q : Bool} (h : EqC P n xs ys ts q) : ∀ (fs : List Field), (fs.map fun f => (f.name == "_", f.type, f.offset)) = ts → ∀ d w, (Op.eqFields (d + n) xs ys fs).run P w = .ok q w := by
  induction h with
  | nil => intro fs hf d w; have : fs = [] := by simpa using hf
           subst this; simp [Op.eqFields]
  | @one t o ts u v b q hA hu hv he k ih =>
    intro fs hf d w
    cases fs with
    | nil => simp at hf
    | cons f fs =>
      simp only [List.map_cons, List.cons.injEq, Prod.mk.injEq] at hf
      obtain ⟨⟨h1, h2, h3⟩, h4⟩ := hf
      have h1 : f.name ≠ "_" := by simpa using h1
      simp only [Op.eqFields, h1, h2, h3, ne_eq, not_false_eq_true, if_true, Sem.run_bind, run_part_one hA hu, run_part_one hA hv, Result.andThen_ok, he d w]
      cases b
      · simp
      · simp [ih fs h4 d w]
  | @agg t o s ts us vs b q hA hz hu hv he k ih =>
    intro fs hf d w
    cases fs with
    | nil => simp at hf
    | cons f fs =>
      simp only [List.map_cons, List.cons.injEq, Prod.mk.injEq] at hf
      obtain ⟨⟨h1, h2, h3⟩, h4⟩ := hf
      have h1 : f.name ≠ "_" := by simpa using h1
      simp only [Op.eqFields, h1, h2, h3, ne_eq, not_false_eq_true, if_true, Sem.run_bind, run_part_agg hA hz, hu, hv, Result.andThen_ok, he d w]
      cases b
      · simp
      · simp [ih fs h4 d w]
theorem EqAt.struct {P : Program} {n : Nat} {T : TypeId} {xs ys : Array Value} {ts : List FT} {q : Bool} (hu : P.underlying T = some (.struct (P.fieldsOf T))) (hp : P.stoodInHeld T = false) (hf : fieldsB P T = ts) (h : EqC P n xs ys ts q) : EqAt P (n + 1) T (.agg xs) (.agg ys) q := fun d w => by
  rw [← Nat.add_assoc, run_equalIn_struct w (d + n) T xs ys hu hp]
  exact h.run _ hf d w
theorem EqAt.of {P : Program} {n : Nat} {T : TypeId} {u v : Value} {b b' : Bool} (h : EqAt P n T u v b) (e : b = b') : EqAt P n T u v b' := e ▸ h
theorem EqAt.int {P : Program} {T : TypeId} {k : IntKind} (hT : P.underlying T = some (.int k)) (a b : Int) : EqAt P 1 T (.int k a) (.int k b) (decide (a = b)) := fun d w => by
  rw [run_equalIn_int w d T k k a b hT]; rfl
theorem EqAt.bool {P : Program} {T : TypeId} (hT : P.underlying T = some .bool) (a b : Bool) : EqAt P 1 T (.bool a) (.bool b) (decide (a = b)) := fun d w => by
  rw [run_equalIn_bool w d T a b hT]; cases a <;> cases b <;> rfl
theorem EqAt.str {P : Program} {T : TypeId} (hT : P.underlying T = some .string) (a b : List UInt8) : EqAt P 1 T (.string (bs a)) (.string (bs b)) (decide (a = b)) := fun d w => by
  rw [run_equalIn_string w d T (bs a) (bs b) hT, bs_beq]
theorem EqAt.set {P : Program} {T E : TypeId} (hT : P.underlying T = some (.array 4 E)) (hE : P.underlying E = some (.int .u64)) (hA : aggOf P E = some false) (hz : szOf P E = some 1) (a b : BSet) : EqAt P 2 T (.agg (setA a)) (.agg (setA b)) (decide (a = b)) := fun d w => by
  have h := run_eqArr4 (P := P) (k := .u64) d hT hE hA hz (a.a : Nat) (a.b : Nat) (a.c : Nat) (a.d : Nat) (b.a : Nat) (b.b : Nat) (b.c : Nat) (b.d : Nat) w
  rw [show decide (a = b) = decide (((a.a : Nat) : Int) = (b.a : Nat) ∧ ((a.b : Nat) : Int) = (b.b : Nat) ∧ ((a.c : Nat) : Int) = (b.c : Nat) ∧ ((a.d : Nat) : Int) = (b.d : Nat)) from by rw [decide_eq_decide]; exact BSet.eq_iff a b]
  exact h
section
variable {P : Program} {n m : Nat} {e : Env} {σ : Store} {H : List Res} {o : Oper} {x y : Operand} {T T' : TypeId} {xs ys : Array Value} {p : Prop} [Decidable p]
theorem OpVal.eqlSt (ho : o.op = .binOp .eql T x y T') (hx : ev e x = .agg xs) (hy : ev e y = .agg ys) (hg : P.eqGuardType P.depth T = false) (h : EqAt P m T (.agg xs) (.agg ys) (decide p)) (hm : Nat.ble m 10000 = true) : OpVal P n o e σ H (.bool (decide p)) := fun w _ => by
  have hm := Nat.le_of_ble_eq_true hm
  have h1 := h (10000 - m) w
  rw [Nat.sub_add_cancel hm] at h1
  simp only [execOp, ho, hx, hy, Sem.run_bind, run_eqGuard_agg _ _ _ _ _ _ _ hg, Result.andThen_ok]
  rw [run_eql_agg' (by simp) h1 rfl]; rfl
theorem OpVal.neqSt (ho : o.op = .binOp .neq T x y T') (hx : ev e x = .agg xs) (hy : ev e y = .agg ys) (hg : P.eqGuardType P.depth T = false) (h : EqAt P m T (.agg xs) (.agg ys) (decide p)) (hm : Nat.ble m 10000 = true) : OpVal P n o e σ H (.bool (decide (¬ p))) := fun w _ => by
  have hm := Nat.le_of_ble_eq_true hm
  have h1 := h (10000 - m) w
  rw [Nat.sub_add_cancel hm] at h1
  simp only [execOp, ho, hx, hy, Sem.run_bind, run_eqGuard_agg _ _ _ _ _ _ _ hg, Result.andThen_ok, decide_not]
  rw [run_neq_agg' (by simp) h1 rfl]; rfl
end
def CkAt (P : Program) (n : Nat) (T : TypeId) (v : Value) : Prop := ∀ d c w, (Instr.checkKey c (d + n) T v).run P w = .ok () w
inductive CkC (P : Program) (n : Nat) (xs : Array Value) : List FT → Prop
  | nil : CkC P n xs []
  | one {t o : Nat} {ts : List FT} {u : Value} (hA : aggOf P t = some false) (hu : xs[o]? = some u) (he : CkAt P n t u) (k : CkC P n xs ts) : CkC P n xs ((false, t, o) :: ts)
  | agg {t o s : Nat} {ts : List FT} {us : Array Value} (hA : aggOf P t = some true) (hz : szOf P t = some s) (hu : xs.extract o (o + s) = us) (he : CkAt P n t (.agg us)) (k : CkC P n xs ts) : CkC P n xs ((false, t, o) :: ts)
theorem CkAt.up {P : Program} {n m : Nat} {T : TypeId} {u : Value} (h : CkAt P n T u) (hm : n ≤ m) : CkAt P m T u := fun d c w => by
  have := h (d + (m - n)) c w
  rwa [show d + (m - n) + n = d + m by omega] at this
theorem CkAt.int {P : Program} {T : TypeId} {k : IntKind} (hT : P.underlying T = some (.int k)) (a : Int) : CkAt P 1 T (.int k a) := fun d c w => by simp [Instr.checkKey, run_underlying hT]
theorem CkAt.bool {P : Program} {T : TypeId} (hT : P.underlying T = some .bool) (a : Bool) : CkAt P 1 T (.bool a) := fun d c w => by simp [Instr.checkKey, run_underlying hT]
theorem CkAt.str {P : Program} {T : TypeId} (hT : P.underlying T = some .string) (a : ByteArray) : CkAt P 1 T (.string a) := fun d c w => by simp [Instr.checkKey, run_underlying hT]
theorem run_forIn_unit {P : Program} {α : Type} {w : World} (f : α → PUnit → Sem (ForInStep PUnit)) : ∀ (l : List α), (∀ a ∈ l, (f a PUnit.unit).run P w = .ok (.yield PUnit.unit) w) → (forIn l PUnit.unit f).run P w = .ok PUnit.unit w
  | [], _ => by simp
  | a :: l, h => by
    rw [List.forIn_cons, Sem.run_bind, h a (List.mem_cons_self ..), Result.andThen_ok]
    exact run_forIn_unit f l fun b hb => h b (List.mem_cons_of_mem _ hb)
theorem CkAt.set {P : Program} {T E : TypeId} (hT : P.underlying T = some (.array 4 E)) (hE : P.underlying E = some (.int .u64)) (hA : aggOf P E = some false) (hz : szOf P E = some 1) (s : BSet) : CkAt P 2 T (.agg (setA s)) := fun d c w => by
  have h0 : ∀ a, (Instr.checkKey c (d + 1) E (.int .u64 a)).run P w = .ok () w := fun a => CkAt.int hE a d c w
  rw [Instr.checkKey]
  simp only [Sem.run_bind, run_underlying hT, Result.andThen_ok, Std.Legacy.Range.forIn_eq_forIn_range', Std.Legacy.Range.size, Nat.sub_zero, Nat.add_sub_cancel, Nat.div_one]
  rw [run_forIn_unit]
  · rfl
  intro i hi
  have hi4 : i < 4 := by
    have := List.mem_range'.1 hi
    omega
  have hp : (part E (setA s) i).run P w = .ok (.int .u64 (s.word i : Nat)) w := run_part_one hA (setA_get s hi4) w
  simp only [Sem.run_bind, run_sizeOf hz, Result.andThen_ok, Nat.mul_one, hp, h0, Sem.run_pure]
theorem CkC.all {P : Program} {n : Nat} {xs : Array Value} {ts : List FT} (h : CkC P n xs ts) : ∀ (fs : List Field), (fs.map fun f => (f.name == "_", f.type, f.offset)) = ts → ∀ f ∈ fs, f.name ≠ "_" ∧ ∃ v, (∀ w, (part f.type xs f.offset).run P w = .ok v w) ∧ CkAt P n f.type v := by
  induction h with
  | nil => intro fs hf; have : fs = [] := by simpa using hf
           subst this; simp
  | @one t o ts u hA hu he k ih =>
    intro fs hf
    cases fs with
    | nil => simp
    | cons f fs =>
      simp only [List.map_cons, List.cons.injEq, Prod.mk.injEq] at hf
      obtain ⟨⟨h1, h2, h3⟩, h4⟩ := hf
      intro g hg
      rcases List.mem_cons.1 hg with rfl | hg
      · exact ⟨by simpa using h1, u, fun w => by rw [h2, h3]; exact run_part_one hA hu w, by rw [h2]; exact he⟩
      · exact ih fs h4 g hg
  | @agg t o s ts us hA hz hu he k ih =>
    intro fs hf
    cases fs with
    | nil => simp
    | cons f fs =>
      simp only [List.map_cons, List.cons.injEq, Prod.mk.injEq] at hf
      obtain ⟨⟨h1, h2, h3⟩, h4⟩ := hf
      intro g hg
      rcases List.mem_cons.1 hg with rfl | hg
      · exact ⟨by simpa using h1, _, fun w => by rw [h2, h3, run_part_agg hA hz, hu], by rw [h2]; exact he⟩
      · exact ih fs h4 g hg
theorem CkAt.struct {P : Program} {n : Nat} {T : TypeId} {xs : Array Value} {ts : List FT} (hu : P.underlying T = some (.struct (P.fieldsOf T))) (hf : fieldsB P T = ts) (h : CkC P n xs ts) : CkAt P (n + 1) T (.agg xs) := fun d c w => by
  have := h.all _ hf
  rw [← Nat.add_assoc, Instr.checkKey]
  simp only [Sem.run_bind, run_underlying hu, Result.andThen_ok]
  rw [← Array.forIn_toList, run_forIn_unit]
  · rfl
  intro f hf
  obtain ⟨h1, v, h2, h3⟩ := this f hf
  simp only [h1, ne_eq, not_false_eq_true, if_true, Sem.run_bind, h2, Result.andThen_ok, h3 d c w, Sem.run_pure]
def Bits (v : Value) : Prop := ∀ n, Instr.sameBits n v v = true
theorem sameBits_agg {cs : Array Value} (h : ∀ u ∈ cs.toList, Bits u) (n : Nat) : Instr.sameBits (n + 1) (.agg cs) (.agg cs) = true := by
  rw [Instr.sameBits]
  simp only [beq_self_eq_true, Bool.true_and, List.all_eq_true]
  rintro ⟨a, b⟩ hab
  have h1 := List.of_mem_zip hab
  have h2 : a = b := by
    obtain ⟨i, hi⟩ := List.mem_iff_getElem?.1 hab
    rw [List.getElem?_zip_eq_some] at hi
    exact Option.some.inj (hi.1.symm.trans hi.2)
  subst h2
  exact h a h1.1 n
theorem Bits.int (k : IntKind) (a : Int) : Bits (.int k a) := fun n => by cases n <;> (rw [Instr.sameBits]; simp)
theorem Bits.bool (a : Bool) : Bits (.bool a) := fun n => by cases n <;> (rw [Instr.sameBits]; simp)
theorem Bits.str (a : ByteArray) : Bits (.string a) := fun n => by cases n <;> (rw [Instr.sameBits]; exact (MapKept.bytes_beq a a).2 rfl)
theorem KeyL.struct {K : Type} [DecidableEq K] {P : Program} {T : TypeId} {enc : K → List Value} {m k : Nat} {fs : Array Field} (hT : P.underlying T = some (.struct fs)) (h : ∀ x y, EqAt P m T (.agg (enc x).toArray) (.agg (enc y).toArray) (decide (x = y))) (hm : Nat.ble m 10000 = true) (hc : ∀ x, CkAt P k T (.agg (enc x).toArray)) (hk : Nat.ble k 10000 = true)
    (hb : ∀ x, ∀ u ∈ enc x, Bits u) : KeyL P T (fun x => .agg (enc x).toArray) :=
  KeyL.asking hT (fun x y => rfl) (fun x y w => by
    have := h x y (10000 - m) w
    rw [Nat.sub_add_cancel (Nat.le_of_ble_eq_true hm)] at this
    simpa [Op.equal, Op.maxDepth] using this) (fun x c w => by
    have := hc x (10000 - k) c w
    rwa [Nat.sub_add_cancel (Nat.le_of_ble_eq_true hk)] at this) (fun x => sameBits_agg (by simpa using hb x) 9999)
theorem keyL_set {P : Program} {T E : TypeId} (hT : P.underlying T = some (.array 4 E)) (hE : P.underlying E = some (.int .u64)) (hA : aggOf P E = some false) (hz : szOf P E = some 1) : KeyL P T setV :=
  KeyL.asking hT (fun x y => rfl) (fun x y w => by
    have := EqAt.set hT hE hA hz x y 9998 w
    show (Op.equal T (.agg (setA x)) (.agg (setA y))).run P w = _
    simpa [Op.equal, Op.maxDepth] using this) (fun x c w => CkAt.set hT hE hA hz x 9998 c w) (fun x => sameBits_agg (by
    intro u hu
    simp [setA] at hu
    rcases hu with rfl | rfl | rfl | rfl <;> exact Bits.int _ _) 9999)
def u64mul (a b : Nat) : Nat := a * b % 18446744073709551616
def u64and (a b : Nat) : Nat := (BitVec.ofNat 64 a &&& BitVec.ofNat 64 b).toNat
def u64or (a b : Nat) : Nat := (BitVec.ofNat 64 a ||| BitVec.ofNat 64 b).toNat
def u64shl (a b : Nat) : Nat := a * 2 ^ (min b 64) % 18446744073709551616
def u64shr (a b : Nat) : Nat := a / 2 ^ (min b 64)
def u64of (a : Int) : Nat := (a % 18446744073709551616).toNat
theorem wrap_u64 (a : Int) : IntKind.u64.wrap a = a % 18446744073709551616 := by simp [IntKind.wrap, IntKind.bits, IntKind.signed]
theorem u64of_val (a : Int) : ((u64of a : Nat) : Int) = IntKind.u64.wrap a := by rw [wrap_u64, u64of]; omega
theorem bv_of (a : Nat) : BitVec.ofInt IntKind.u64.bits (a : Int) = BitVec.ofNat 64 a := by simp [IntKind.bits, BitVec.ofInt_natCast]
theorem wrap_bv (b : BitVec 64) : IntKind.u64.wrap (b.toNat : Int) = (b.toNat : Int) := by rw [wrap_u64]; have := b.isLt; omega
section
variable {P : Program} {n : Nat} {e : Env} {σ : Store} {H : List Res} {o : Oper} {x y : Operand} {T T' : TypeId} {a b : Nat}
theorem OpVal.mulU (ho : o.op = .binOp .mul T x y T') (hx : ev e x = .int .u64 (a : Nat)) (hy : ev e y = .int .u64 (b : Nat)) : OpVal P n o e σ H (.int .u64 ((u64mul a b : Nat) : Int)) := by
  have := OpVal.mulW (P := P) (n := n) (σ := σ) (H := H) ho hx hy
  rw [wrap_u64] at this
  rw [show ((u64mul a b : Nat) : Int) = ((a : Int) * (b : Int)) % 18446744073709551616 from by unfold u64mul; rw [Int.natCast_emod, Int.natCast_mul]; rfl]; exact this
theorem OpVal.andU (ho : o.op = .binOp .and T x y T') (hx : ev e x = .int .u64 (a : Nat)) (hy : ev e y = .int .u64 (b : Nat)) : OpVal P n o e σ H (.int .u64 ((u64and a b : Nat) : Int)) := .bin ho hx hy fun w => by
  simp only [binOp, ne_eq, not_true_eq_false, if_false, Op.intBits, bv_of]
  exact congrArg (fun z => Result.ok (Value.int .u64 z) w) (wrap_bv (BitVec.ofNat 64 a &&& BitVec.ofNat 64 b))
theorem OpVal.orU (ho : o.op = .binOp .or T x y T') (hx : ev e x = .int .u64 (a : Nat)) (hy : ev e y = .int .u64 (b : Nat)) : OpVal P n o e σ H (.int .u64 ((u64or a b : Nat) : Int)) := .bin ho hx hy fun w => by
  simp only [binOp, ne_eq, not_true_eq_false, if_false, Op.intBits, bv_of]
  exact congrArg (fun z => Result.ok (Value.int .u64 z) w) (wrap_bv (BitVec.ofNat 64 a ||| BitVec.ofNat 64 b))
theorem OpVal.shlU {k : IntKind} (ho : o.op = .binOp .shl T x y T') (hx : ev e x = .int .u64 (a : Nat)) (hy : ev e y = .int k (b : Nat)) : OpVal P n o e σ H (.int .u64 ((u64shl a b : Nat) : Int)) := fun w _ => by
  have h0 : ¬ (b : Int) < 0 := by omega
  simp only [execOp, ho, hx, hy, Sem.run_bind, run_eqGuard_int, Result.andThen_ok, binOp, Op.shift, h0, if_false, Int.toNat_natCast, wrap_u64, u64shl, IntKind.bits]
  rw [show (a : Int) * 2 ^ min b 64 % 18446744073709551616 = ((a * 2 ^ min b 64 % 18446744073709551616 : Nat) : Int) from by rw [Int.natCast_emod, Int.natCast_mul, Int.natCast_pow]; rfl]; rfl
theorem OpVal.shrU {k : IntKind} (ho : o.op = .binOp .shr T x y T') (hx : ev e x = .int .u64 (a : Nat)) (hy : ev e y = .int k (b : Nat)) : OpVal P n o e σ H (.int .u64 ((u64shr a b : Nat) : Int)) := fun w _ => by
  have h0 : ¬ (b : Int) < 0 := by omega
  have h2 : (a : Int).fdiv (2 ^ min b 64) = ((a / 2 ^ min b 64 : Nat) : Int) := by
    rw [Int.fdiv_eq_ediv_of_nonneg _ (by exact_mod_cast Nat.zero_le _)]; exact_mod_cast rfl
  simp only [execOp, ho, hx, hy, Sem.run_bind, run_eqGuard_int, Result.andThen_ok, binOp, Op.shift, h0, if_false, Int.toNat_natCast, u64shr, IntKind.bits, h2]; rfl
theorem OpVal.convU {k : IntKind} {i : Int} {d : TypeDesc} {S : TypeId} (ho : o.op = .convert S T x) (hs : P.underlying S = some d) (ht : P.underlying T = some (.int .u64)) (hx : ev e x = .int k i) : OpVal P n o e σ H (.int .u64 ((u64of i : Nat) : Int)) := by
  rw [u64of_val]; exact OpVal.convInt ho hs ht hx
theorem OpVal.eqlU {k : IntKind} (ho : o.op = .binOp .eql T x y T') (hx : ev e x = .int k (a : Nat)) (hy : ev e y = .int k (b : Nat)) : OpVal P n o e σ H (.bool (decide (a = b))) := OpVal.eqlN ho hx hy
theorem OpVal.neqU {k : IntKind} (ho : o.op = .binOp .neq T x y T') (hx : ev e x = .int k (a : Nat)) (hy : ev e y = .int k (b : Nat)) : OpVal P n o e σ H (.bool (decide (a ≠ b))) := by
  have := OpVal.neq (P := P) (n := n) (σ := σ) (H := H) ho hx hy
  rwa [show decide ((a : Int) ≠ (b : Int)) = decide (a ≠ b) from by rw [decide_eq_decide]; omega] at this
theorem OpVal.lssU {k : IntKind} (ho : o.op = .binOp .lss T x y T') (hx : ev e x = .int k (a : Nat)) (hy : ev e y = .int k (b : Nat)) : OpVal P n o e σ H (.bool (decide (a < b))) := by
  have := OpVal.lss (P := P) (n := n) (σ := σ) (H := H) ho hx hy
  rwa [show decide ((a : Int) < (b : Int)) = decide (a < b) from by rw [decide_eq_decide]; omega] at this
theorem OpVal.gtrU {k : IntKind} (ho : o.op = .binOp .gtr T x y T') (hx : ev e x = .int k (a : Nat)) (hy : ev e y = .int k (b : Nat)) : OpVal P n o e σ H (.bool (decide (b < a))) := by
  have := OpVal.gtr (P := P) (n := n) (σ := σ) (H := H) ho hx hy
  rwa [show decide ((b : Int) < (a : Int)) = decide (b < a) from by rw [decide_eq_decide]; omega] at this
end
end Go.E
end

section
namespace Go.E
open Go
theorem runA_of {K V S R : Type} {step : S → Option (K × V) → Option (S ⊕ R)} {m : FM K V} {l : List (K × V)} {s : S} {r : R} (h : allP (fun q => Rep q m) (fun q => runL step q s) = some r) (hl : Rep l m) : runA step l s = some r :=
  allP_i l (List.Perm.refl _) fun q hq => allP_e h q (hl.perm hq)
def unitV (_ : Unit) : Value := .agg #[]
def encW (x : Nat) : List Value := [.int .u64 (x : Nat)]
theorem encW_len (x : Nat) : (encW x).length = 1 := rfl
theorem encW_one : ∀ x, ∀ u ∈ encW x, u.oneCell' = true := fun x u hu => by simp [encW] at hu; subst hu; rfl
def encSet (x : BSet) : List Value := (setA x).toList
theorem encSet_len (x : BSet) : (encSet x).length = 4 := rfl
theorem encSet_one : ∀ x, ∀ u ∈ encSet x, u.oneCell' = true := setA_one
def Rdb (w : World) (v : Value) (xs : List Value) : Prop := ∀ a m c, v = .slice (some a) m c → ∀ j u, xs[j]? = some u → w.cell? (a.add j) = some u
theorem rdb_row {α : Type} {σ : Store} {H : List Res} {E size q : Nat} {enc : α → List Value} {v : Value} {l : List α} {w : World} (hq : H[q]? = some (Res.rowS E size enc v l)) (hw : Sees σ H w) : Rdb w v (l.flatMap enc) := by
  intro a m c hv j u hj
  have hown := (hw.2 _ (List.mem_of_getElem? hq)).1
  subst hv
  obtain ⟨h1, h2⟩ := hown
  rcases h2 with ⟨h2, _⟩ | ⟨g, cap, cur, h2, _, hg, h3, h4, h5, h6⟩
  · cases h2
  · cases h2
    rw [loc_add]
    have hj2 := (List.getElem?_eq_some_iff.1 hj).1
    rw [← h6, List.getElem?_take] at hj
    split at hj
    · simp only [World.cell?, hg, Option.isSome_none, Bool.false_eq_true, if_false, Nat.zero_add]
      rw [← Array.getElem?_toList]; exact hj
    · cases hj
theorem OpVal.bytesStr {P : Program} {n : Nat} {e : Env} {σ : Store} {H : List Res} {o : Oper} {x : Operand} {S T E m c : Nat} {a : Option Addr} {l : List UInt8} (ho : o.op = .convert S T x) (hs : P.underlying S = some (.slice E)) (he : P.underlying E = some (.int .u8)) (ht : P.underlying T = some .string)
    (hx : ev e x = .slice a m c) (hl : IsSl (.slice a m c) l.length) (hr : ∀ w, Sees σ H w → Rdb w (.slice a m c) (l.flatMap encU8)) : OpVal P n o e σ H (.string (bs l)) := fun w hw => by
  obtain ⟨a', c', hv, hn, hc⟩ := hl
  cases hv
  cases a with
  | none =>
    obtain ⟨h1, _⟩ := hn rfl
    have hl0 : l = [] := List.eq_nil_of_length_eq_zero h1
    subst hl0
    have := run_convert_bytes_nil (P := P) w S E hs he 0 c T ht
    simp only [execOp, ho, hx]
    simp only [List.length_nil, Sem.run_bind, this, Result.andThen_ok, Sem.run_pure]
    rfl
  | some ad =>
    have hcell := hr w hw ad _ c rfl
    have h1 : (loadCells ad l.length).run P w = .ok ((l.map fun b => (b.toNat : Int)).map (Value.int .u8)).toArray w := by
      have := run_loadCells_list (P := P) w ad ((l.map fun b => (b.toNat : Int)).map (Value.int .u8)) (fun j v hj => hcell j v (by rw [encU8_map]; simpa using hj))
      simpa using this
    have h2 := run_convert_bytes_string (P := P) w S T E (some ad) l.length c hs he ht
    have h3 := run_bytesToString (P := P) w ad l.length c (l.map fun b => (b.toNat : Int)) h1
    have h4 : (⟨(ByteArray.empty.data ++ (((l.map fun b => (b.toNat : Int)).map fun n => UInt8.ofNat n.toNat)).toArray)⟩ : ByteArray) = bs l := by
      simp [bs, ByteArray.empty, ByteArray.emptyWithCapacity, Function.comp_def]
      rfl
    rw [foldl_push_bytes, h4] at h3
    simp only [execOp, ho, hx, Sem.run_bind, h2, h3, Result.andThen_ok, Sem.run_pure]
theorem Reach.nilMap {K V : Type} {enc : K → Value} {encV : V → Value} {w0 : World} {C : List Nat} {σ0 σ : Store} {w : World} {F : List Res} (h : Reach w0 C σ0 σ w F) : Reach w0 C σ0 σ w (Res.mapB enc encV none FM.emp :: F) :=
  h.gain rfl rfl rfl (Nat.le_refl _) (Nat.le_refl _) (fun _ _ => rfl) ⟨fun _ => rfl, fun k hk => by cases hk⟩ (fun b hb => by simp [Res.mapB] at hb) (by simp [Res.mapB])
theorem OpVal.cmpStr {P : Program} {n : Nat} {e : Env} {σ : Store} {H : List Res} {o : Oper} {x p q : Operand} {ts : Array TypeId} {J : FuncId} {fn : Func} {a b : List UInt8} (ho : o.op = .call { callee := .value x, args := #[p, q], argTypes := ts }) (hx : ev e x = .func (.func J) #[] #[]) (hf : P.funcs[J]? = some fn) (hname : (fn.name == "runtime.NumGoroutine") = false)
    (hb : fn.body.isNone = true) (hn : Extern.findNext fn = none) (he : Extern.find fn = some Extern.BytealgCompare.compare) (hp : ev e p = .string (bs a)) (hq : ev e q = .string (bs b)) : OpVal P n o e σ H (.int .i64 (Lib.compareBytes a b)) := fun w _ => by
  have h := run_callFunc_extern hf hname hb hn he #[.string (bs a), .string (bs b)] w
  rw [Lib.run_compareString] at h
  simp [execOp, ho, resolve, Deferred.ofValue, invoke, hx, hp, hq, h, Result.andThen, bs_list]
structure VwOk (v u : Value) (size k n : Nat) : Prop where
  sl : IsSl u n
  el : ∀ j, j < n → elem u (j * size) = elem v ((k + j) * size)
theorem vw_of {a : Option Addr} {m c size k : Nat} (h : IsSl (.slice a m c) m) (hk : k ≤ m) : ∃ (a' : Option Addr) (c' : Nat), VwOk (.slice a m c) (.slice a' (m - k) c') size k (m - k) ∧
    ∀ {P : Program} {n : Nat} {e : Env} {σ : Store} {H : List Res} {o : Oper} {x z : Operand} {T E : TypeId} {kk : IntKind} (_ : o.op = .slice T x (some z) none none) (_ : P.underlying T = some (.slice E)) (_ : szOf P E = some size) (_ : ev e x = .slice a m c) (_ : ev e z = .int kk (k : Nat)), OpVal P n o e σ H (.slice a' (m - k) c') := by
  obtain ⟨a1, c1, hv, hn, hc⟩ := h
  cases hv
  refine ⟨if c = k then a else a.map (·.add (k * size)), c - k, ⟨⟨_, _, rfl, fun ha => ?_, by omega⟩, fun j hj => ?_⟩, ?_⟩
  · split at ha
    · obtain ⟨h1, h2⟩ := hn ha; omega
    · cases a with
      | none => obtain ⟨h1, h2⟩ := hn rfl; omega
      | some ad => simp at ha
  · have hck : ¬ c = k := by omega
    rw [if_neg hck]
    cases a with
    | none => obtain ⟨h1, h2⟩ := hn rfl; omega
    | some ad => simp only [elem, Option.map_some]; rw [add_add, Nat.add_mul]
  · intro P n e σ H o x z T E kk ho hT hs hx hz w _
    have hsz := run_sizeOf (P := P) hs
    have hrun : (Instr.slice T (.slice a m c) (some (.int kk k)) none none).run P w = .ok (.slice (if c = k then a else a.map (·.add (k * size))) (m - k) (c - k)) w := by
      simp [Instr.slice, Instr.sliceBounds, Instr.sliceBound, asIntOf, run_underlying hT, hsz]
      intro hlt; omega
    simp [execOp, ho, hx, hz, Instr.sliceAt, run_underlying hT, hrun]
theorem OpVal.elVw {P : Program} {n : Nat} {e : Env} {σ : Store} {H : List Res} {o : Oper} {v u : Value} {size k m j : Nat} (hv : VwOk v u size k m) (hj : j < m) (h : OpVal P n o e σ H (elem u (j * size))) : OpVal P n o e σ H (elem v ((k + j) * size)) := hv.el j hj ▸ h
theorem zeroCells_flat {α : Type} {enc : α → List Value} {size : Nat} {z : Value} (x0 : α) (hz : z.cells.toList = enc x0) (hl : ∀ x, (enc x).length = size) (m : Nat) (h0 : 0 < size) : (Builtin.zeroCells z.cells m).toList = (List.replicate m x0).flatMap enc := by
  have := madeCells_flat z x0 hz m (by rw [hl]; exact h0)
  rw [hl] at this
  rw [← this]
  have hzs : z.cells.size = size := by rw [← Array.length_toList, hz, hl]
  simp [Builtin.zeroCells, madeCells, hzs]
theorem splice_end {α : Type} {enc : α → List Value} {size : Nat} (hl : ∀ x, (enc x).length = size) (l : List α) (k : Nat) (x0 : α) (hk : k ≤ l.length) :
    splice (l.flatMap enc) (k * size) ((List.replicate (l.length - k) x0).flatMap enc) = (l.take k ++ List.replicate (l.length - k) x0).flatMap enc := by
  rw [List.flatMap_append, splice, take_flat hl]
  have h1 : ((List.replicate (l.length - k) x0).flatMap enc).length = (l.length - k) * size := by rw [flatMap_len hl, List.length_replicate]
  rw [h1]
  have h2 : (l.flatMap enc).length = l.length * size := flatMap_len hl l
  rw [List.drop_of_length_le (by rw [h2, ← Nat.add_mul]; exact Nat.mul_le_mul_right _ (by omega)), List.append_nil]
theorem OpOk.clearV {X : Ctx} {e : Env} {σ : Store} {F : List Res} {o : Oper} {x : Operand} {K : Env → Store → List Res → Prop} {α : Type} {T E size k m' : Nat} {enc : α → List Value} {zv v u : Value} {l : List α} (x0 : α) (ho : o.op = .call { callee := .builtin .clear, args := #[x], argTypes := #[T] }) (ht : X.P.underlying T = some (.slice E)) (hz : zeroOf X.P E = some zv)
    (hd : o.dst = none) (hx : ev e x = u) (hv : VwOk v u size k m') (hm : l.length - k = m') (hk : k ≤ l.length) (hl : ∀ x, (enc x).length = size) (h0 : 0 < size) (hz0 : zv.cells.toList = enc x0) (h1 : ∀ x, ∀ u ∈ enc x, u.oneCell' = true)
    (kk : K e σ (Res.rowS E size enc v (l.take k ++ List.replicate (l.length - k) x0) :: F)) : OpOk X o e σ (Res.rowS E size enc v l :: F) K := by
  subst hm
  intro u0 C0 τ0 w a hw ha K' Q hK
  obtain ⟨hown, hone, hbg⟩ := hw.holds _ (List.mem_cons_self ..)
  have hlen : (l.take k ++ List.replicate (l.length - k) x0).length = l.length := by simp; omega
  obtain ⟨a', c', rfl, hn, hc⟩ := hv.sl
  by_cases hkl : k = l.length
  · subst hkl
    have e1 : l.take l.length ++ List.replicate (l.length - l.length) x0 = l := by simp
    rw [e1] at kk
    have hrun : (Builtin.clear_ #[T] o.type #[.slice a' (l.length - l.length) c']).run X.P w = .ok (.tuple #[]) w := by
      rw [Nat.sub_self]
      cases a' <;> simp [Builtin.clear_, run_underlying ht]
    refine Oper.wp_of_run (v := .tuple #[]) (w' := w) ?_ (hK _ _ _ _ _ kk hw (by rw [hd]; exact ⟨ha, rfl⟩))
    rw [ha.eval']
    rw [Nat.sub_self] at hrun
    simp [execOp, ho, resolve, invoke, builtin, hx, hrun]
  · have hj : 0 < l.length - k := by omega
    have hel := hv.el 0 hj
    cases a' with
    | none => obtain ⟨h2, _⟩ := hn rfl; omega
    | some ad =>
      rcases id hown.2 with ⟨hvn, hmn⟩ | ⟨g, cap, cur, rfl, _⟩
      · omega
      · simp only [elem, Nat.zero_mul, Nat.add_zero] at hel
        have had : ad = ⟨g, k * size, none⟩ := by
          have h3 : (ad.add 0) = (⟨g, 0, none⟩ : Addr).add (k * size) := by injection hel with h; injection h
          rw [loc_add] at h3
          simpa [Addr.add] using h3
        subst had
        have hzl := zeroCells_flat (size := size) x0 hz0 hl (l.length - k) h0
        obtain ⟨w', hst, hown', hgr, hdr⟩ := World.ownsRow.spliced X.P hown (k := k * size) (vs := (List.replicate (l.length - k) x0).flatMap enc) (by rw [flatMap_len hl, flatMap_len hl, List.length_replicate, ← Nat.add_mul]; exact Nat.mul_le_mul_right _ (by omega)) (fun u hu => by
          obtain ⟨q, _, hq⟩ := List.mem_flatMap.1 hu
          exact h1 q u hq)
        rw [splice_end hl l k x0 hk] at hown'
        have hrun : (Builtin.clear_ #[T] o.type #[.slice (some ⟨g, k * size, none⟩) (l.length - k) c']).run X.P w = .ok (.tuple #[]) w' := by
          have hne : l.length - k ≠ 0 := by omega
          simp only [Builtin.clear_]
          simp [run_underlying ht, run_zeroValue hz, hzl, hst]
        have hR : Reach u0 C0 τ0 σ w' (Res.rowS E size enc (.slice (some ⟨g, 0, none⟩) l.length cap) (l.take k ++ List.replicate (l.length - k) x0) :: F) := by
          refine hw.turn1 (some g) (some g) rfl rfl hgr.os hgr.tape hgr.output hgr.size hdr (fun q hq hne => hgr.block q hq (fun hx => hne (by cases hx; rfl))) ?_ (fun q hq => .inl hq)
          show _ ∧ _ ∧ _
          rw [hlen]
          refine ⟨hown', fun u hu => ?_, hbg⟩
          obtain ⟨q, _, hq⟩ := List.mem_flatMap.1 hu
          exact h1 q u hq
        refine Oper.wp_of_run (v := .tuple #[]) (w' := w') ?_ (hK _ _ _ _ _ kk hR (by rw [hd]; exact ⟨ha, rfl⟩))
        rw [ha.eval']
        simp [execOp, ho, resolve, invoke, builtin, hx, hrun]
theorem RS.ofCells {α : Type} {τ : Store} {b k m E : Nat} {cs : Array Value} {enc : α → List Value} {l : List α} (h : τ b = some (.cells cs E (0, 0))) (hl : ∀ x, (enc x).length = 1) (h1 : ∀ x, ∀ u ∈ enc x, u.oneCell' = true) (hk : (cs.toList.drop k).take m = l.flatMap enc) (hm : l.length = m) (hb : Nat.ble l.length 281474976710656 = true) : RS τ 1 enc (.slice (some ⟨b, k, none⟩) m m) l := by
  subst hm
  refine ⟨⟨⟨_, _, rfl, (fun h => by cases h), Nat.le_refl _⟩, flatMap_len hl l, ?_, fun u hu => ?_, Nat.le_of_ble_eq_true hb⟩, hl⟩
  · intro a m c hv j u hj
    cases hv
    rw [loc_add]
    unfold Store.cell
    simp only [h, Option.isSome_none, Bool.false_eq_true, if_false]
    rw [← hk, List.getElem?_take] at hj
    split at hj
    · rw [List.getElem?_drop, Array.getElem?_toList] at hj; exact hj
    · cases hj
  · obtain ⟨q, _, hq⟩ := List.mem_flatMap.1 hu
    exact h1 q u hq
theorem Con.lendC {P : Program} {f : FuncId} {args : Array Value} {σ : Store} {F : List Res} {r : Value} {b E : Nat} {cs : Array Value}
    (h : ∀ τ, σ.le τ → τ b = some (.cells cs E (0, 0)) → Con P f args τ F (KeepP r τ F)) : Con P f args σ (Res.cells b cs E :: F) (KeepP r σ (Res.cells b cs E :: F)) := by
  intro w hw
  have ho : w.heap[b]? = some (.cells cs E (0, 0)) := hw.holds _ (List.mem_cons_self ..)
  obtain ⟨h1, h2⟩ := hw.sealB (b := b) rfl ho
  have h3 : σ.with b (.cells cs E (0, 0)) b = some (.cells cs E (0, 0)) := by simp [Store.with]
  generalize σ.with b (.cells cs E (0, 0)) = τ at h1 h2 h3
  have h0 : Reach w (blks F) τ τ w F := ⟨rfl, rfl, rfl, Nat.le_refl _, fun _ _ _ => rfl, Store.le.refl _, h1.fit, fun b o hb => .inl hb, h1.holds, fun r hr b hb => .inl (mem_blks.2 ⟨r, hr, hb⟩), h1.nodup, h1.apart, Nat.le_refl _⟩
  refine (h τ h2 h3 w h0).mono fun ex w' ⟨r', σ', H', he, ⟨e1, e2, e3⟩, k⟩ => ?_
  subst e1 e2 e3
  refine ⟨r', σ, _, he, ⟨rfl, rfl, rfl⟩, ?_⟩
  have hb : b < w.heap.size ∧ b ∉ blks H' := by
    refine ⟨(Array.getElem?_eq_some_iff.1 ho).1, fun hx => ?_⟩
    have hnd := hw.nodup
    simp only [blks, List.flatMap_cons] at hnd
    exact (nodup_app.1 hnd).2.2 b (by simp [Res.cells]) hx
  have hframe : ∀ i, i < w.heap.size → i ∉ blks H' → w'.heap[i]? = w.heap[i]? := k.frame
  refine ⟨k.os, k.tape, k.output, k.size, ?_, Store.le.refl _, fun b o hs => k.fit b o (h2 b o hs), fun b o hs => .inl hs, ?_, ?_, ?_, ?_, k.drawn⟩
  · intro i hi hn
    refine hframe i hi fun hx => hn ?_
    obtain ⟨r2, hr2, hb2⟩ := mem_blks.1 hx
    exact mem_blks.2 ⟨r2, List.mem_cons_of_mem _ hr2, hb2⟩
  · intro r2 hr2
    rcases List.mem_cons.1 hr2 with rfl | hr2
    · exact (Res.cells b cs E).keep w w' (fun c hc => by rw [List.mem_singleton.1 hc]; exact hframe b hb.1 hb.2) ho
    · exact k.holds r2 hr2
  · intro r2 hr2 b hb2
    exact .inl (mem_blks.2 ⟨r2, hr2, hb2⟩)
  · exact hw.nodup
  · intro r2 hr2 b hb2
    exact hw.apart r2 hr2 b hb2
theorem OpVal.sliceArr {P : Program} {n : Nat} {e : Env} {σ : Store} {H : List Res} {o : Oper} {x : Operand} {T E m b k s : Nat} (ho : o.op = .slice T x none none none) (ht : P.underlying T = some (.array m E)) (hs : szOf P E = some s) (hx : ev e x = loc b k) : OpVal P n o e σ H (.slice (some ⟨b, k, none⟩) m m) := fun w _ => by
  have hsz := run_sizeOf (P := P) hs
  simp [execOp, ho, hx, loc, Instr.sliceAt, Instr.sureAddr, run_underlying ht, Instr.slice, Instr.sliceBounds, Instr.sliceBound, hsz, Addr.add]
theorem mem_pick {H B : List Res} (is : List Nat) (h : is.map (fun i => H[i]?) = B.map some) {r : Res} (hr : r ∈ B) : r ∈ H := by
  have h1 : some r ∈ B.map some := List.mem_map.2 ⟨r, hr, rfl⟩
  rw [← h] at h1
  obtain ⟨i, _, hi⟩ := List.mem_map.1 h1
  exact List.mem_of_getElem? hi
end Go.E
end

section
namespace Go.E
open Go Go.Sort Go.Proofs Go.Shelf
theorem Reach.grown {w w' : World} {σ : Store} {H : List Res} (h : Reach w [] (fun _ => none) σ w' H) : ∃ q os', w' = grow (w.drewN q) os' := by
  refine ⟨w'.drawn - w.drawn, w'.heap.extract w.heap.size w'.heap.size, ?_⟩
  have h1 : w'.heap = w.heap ++ w'.heap.extract w.heap.size w'.heap.size := by
    apply Array.ext_getElem?
    intro i
    rw [Array.getElem?_append]
    split
    · rename_i hi; exact h.frame i hi (by simp)
    · rename_i hi
      by_cases hl : i < w'.heap.size
      · rw [Array.getElem?_extract_of_lt (by omega)]; simp only [show w.heap.size + (i - w.heap.size) = i by omega]; exact Array.getElem?_eq_getElem hl
      · rw [Array.getElem?_eq_none (by omega), Array.getElem?_eq_none (by simp; omega)]
  have h2 := h.drawn
  cases w' with
  | mk heap tape drawn os output =>
    have e1 := h.os; have e2 := h.tape; have e3 := h.output
    simp only at h1 h2 e1 e2 e3
    simp only [grow, World.drewN]
    rw [World.mk.injEq]
    exact ⟨h1, e2, by omega, e1, e3⟩
theorem reach_nil (w : World) : Reach w [] (fun _ => none) (fun _ => none) w [] :=
  ⟨rfl, rfl, rfl, Nat.le_refl _, fun _ _ _ => rfl, Store.le.refl _, (fun _ _ h => by cases h), (fun _ _ h => by cases h), by simp, by simp, by simp [blks], by simp, Nat.le_refl _⟩
section
variable {α : Type} [Inhabited α] {P : Program}
theorem cmpLays1_of {g : Nat} {enc : α → Value} {cf : α → α → Int} {blk off size : Nat} {w : World} (h : ∀ x y τ, Con P g #[enc x, enc y] τ [] (PureP (.int .i64 (cf x y)) τ)) : CmpLays1 P g #[] enc cf blk off size w := by
  intro m os dk _ x y
  refine (h x y (fun _ => none) _ (reach_nil _)).mono fun e w' ⟨r, σ', H', he, ⟨hr, _, _⟩, k⟩ => ⟨by rw [he, hr], Reach.grown k⟩
theorem cmpLays_of {g k : Nat} {enc : α → List Value} {cf : α → α → Int} {blk off size : Nat} {w : World} (h : ∀ x y τ, Con P g #[.agg (enc x).toArray, .agg (enc y).toArray] τ [] (PureP (.int .i64 (cf x y)) τ)) : CmpLays P g #[] enc k cf blk off size w := by
  intro m os dk _ x y
  refine (h x y (fun _ => none) _ (reach_nil _)).mono fun e w' ⟨r, σ', H', he, ⟨hr, _, _⟩, k⟩ => ⟨by rw [he, hr], Reach.grown k⟩
end
theorem getBang {α : Type} [Inhabited α] (l : List α) (i : Nat) (h : i < l.length) : l.toArray[i]! = l[i] := by simp [h]
theorem Reach.sorted {w0 : World} {C : List Nat} {σ0 σ : Store} {w : World} {F : List Res} {E size n cap g m : Nat} {xs xs' : List Value} {os : Array Obj} (h : Reach w0 C σ0 σ w (Res.row E size (.slice (some ⟨g, 0, none⟩) n cap) n xs :: F)) (hl : xs'.length = xs.length) (h1 : ∀ u ∈ xs', u.oneCell' = true) :
    Reach w0 C σ0 σ (grow (putRow (id : Value → Value) (Sort.ahead w m) g 0 xs'.toArray) os) (Res.row E size (.slice (some ⟨g, 0, none⟩) n cap) n xs' :: F) := by
  obtain ⟨hown, hone, hbg⟩ := h.holds _ (List.mem_cons_self ..)
  obtain ⟨hlen, hc⟩ := hown
  rcases hc with ⟨hc, _⟩ | ⟨g', cap', cur, hv, hb0, hg, h3, h4, h5, h6⟩
  · cases hc
  cases hv
  have hgl : g < w.heap.size := (Array.getElem?_eq_some_iff.1 hg).1
  have hnew : (grow (putRow (id : Value → Value) (Sort.ahead w m) g 0 xs'.toArray) os).heap[g]? = some (.cells (putCells (id : Value → Value) 0 xs'.toArray cur) E) := by
    rw [heap_grow_old _ _ (by simpa using hgl)]
    simp [putRow, mapBlock, Sort.ahead, Array.getElem?_modify, hg, onCells]
  have hold : ∀ k, k < w.heap.size → k ≠ g → (grow (putRow (id : Value → Value) (Sort.ahead w m) g 0 xs'.toArray) os).heap[k]? = w.heap[k]? := by
    intro k hk hne
    rw [heap_grow_old _ _ (by simpa using hk)]
    have : g ≠ k := fun e => hne e.symm
    simp [putRow, mapBlock, Sort.ahead, Array.getElem?_modify, this]
  have hcur : xs.length ≤ cur.size := by
    have := congrArg List.length h6
    simp at this; omega
  refine h.turn1 (some g) (some g) rfl rfl rfl rfl rfl (by simp [grow]) (by simp [grow, putRow, mapBlock, Sort.ahead]) (fun k hk hne => hold k hk fun e => hne (by rw [e])) ⟨⟨by rw [hl]; exact hlen, .inr ⟨g, cap, _, rfl, hb0, hnew, h3, h4, by simp [putCells, h5], ?_⟩⟩, h1, hbg⟩ (fun b hb => .inl hb)
  apply List.ext_getElem?
  intro i
  by_cases hi : i < n * size
  · have hi2 : i < xs'.length := by rw [hl, hlen]; exact hi
    rw [List.getElem?_take_of_lt hi, Array.getElem?_toList]
    simp [putCells, hi2, show i < cur.size by omega]
  · rw [List.getElem?_take_eq_none (by omega), List.getElem?_eq_none (by omega)]
theorem holds_row {w : World} {E size n cap g : Nat} {xs : List Value} (h : w.ownsRow 0 E size (.slice (some ⟨g, 0, none⟩) n cap) n xs) : Holds (id : Value → Value) w g 0 xs.toArray ∧ g < w.heap.size := by
  obtain ⟨hlen, hc⟩ := h
  rcases hc with ⟨hc, _⟩ | ⟨g', cap', cur, hv, hb0, hg, h3, h4, h5, h6⟩
  · cases hc
  cases hv
  refine ⟨fun j hj => ?_, (Array.getElem?_eq_some_iff.1 hg).1⟩
  have hj' : j < xs.length := by simpa using hj
  refine ⟨?_, by simp [World.frozen?, hg]⟩
  have h7 : (cur.toList.take (n * size))[j]? = xs[j]? := by rw [h6]
  rw [List.getElem?_take_of_lt (by omega)] at h7
  simp only [World.cell?, hg, Nat.zero_add, Option.isSome_none, Bool.false_eq_true, if_false]
  rw [← Array.getElem?_toList, h7]
  simp [hj']
theorem putRow_id {α : Type} [Inhabited α] (enc : α → Value) (w : World) (g : Nat) (l : List α) : putRow enc w g 0 l.toArray = putRow (id : Value → Value) w g 0 (l.map enc).toArray := by
  unfold putRow
  congr 1
  funext c
  unfold putCells
  apply Array.ext_getElem?
  intro i
  simp only [Array.getElem?_mapIdx]
  cases hc : c[i]? with
  | none => rfl
  | some v =>
    simp only [Option.map_some, Nat.zero_le, true_and, Nat.zero_add, Nat.sub_zero, List.size_toArray, List.length_map]
    split
    · rename_i hi; simp [hi]
    · rfl
theorem flatK_list {α : Type} [Inhabited α] {enc : α → List Value} {k : Nat} (hk : ∀ x, (enc x).length = k) (l : List α) : flatK enc k l.toArray = (l.flatMap enc).toArray := by
  have hl : (l.flatMap enc).length = l.length * k := flatMap_len hk l
  refine ext_get! (by simp [hl]) fun t ht => ?_
  have ht' : t < l.length * k := by simpa using ht
  have k0 : 0 < k := by rcases Nat.eq_zero_or_pos k with h | h
                        · subst h; simp at ht'
                        · exact h
  have hd : t / k < l.length := Nat.div_lt_of_lt_mul (by rw [Nat.mul_comm]; exact ht')
  have hm : t % k < k := Nat.mod_lt _ k0
  rw [get_flatK _ _ _ _ (by simpa using ht'), getBang l _ hd]
  have h2 := flatMap_get hk l (t / k) (t % k) l[t / k] (List.getElem?_eq_getElem hd) hm
  rw [Nat.div_add_mod' t k] at h2
  have hb : t < (l.flatMap enc).toArray.size := by simpa [hl] using ht'
  have h3 : (l.flatMap enc).toArray[t]! = (enc l[t / k])[t % k]! := by
    rw [getElem!_pos (l.flatMap enc).toArray t hb]
    have h4 : (l.flatMap enc)[t]? = some ((l.flatMap enc).toArray[t]'hb) := by rw [← List.getElem?_toArray]; exact Array.getElem?_eq_getElem hb
    rw [h2] at h4
    have hlt : t % k < (enc l[t / k]).length := by rw [hk]; exact hm
    rw [List.getElem?_eq_getElem hlt, Option.some.injEq] at h4
    rw [getElem!_pos (enc l[t / k]) (t % k) hlt, h4]
  rw [h3]
def sortL {α : Type} (cf : α → α → Int) (l : List α) : List α := l.mergeSort fun x y => !decide (cf y x < 0)
def SortP {α : Type} (E size : Nat) (enc : α → List Value) (a : Option Addr) (c : Nat) (l l' : List α) (σ : Store) : Value → Store → List Res → Prop := fun v σ' H' => v = .tuple #[] ∧ σ = σ' ∧ H' = [Res.rowS E size enc (.slice a l.length c) l']
structure TotalCmp {α : Type} (cf : α → α → Int) : Prop where
  swo : SWO (ltOf cf)
  tot : ∀ x y, ltOf cf x y = false → ltOf cf y x = false → x = y
section
variable {α : Type} [Inhabited α] {P : Program} {ρ : Ren}
theorem Con.sort1 (L : SlLaysF.n6 P ρ) (L0 : SlLaysF0.n6 P ρ) {enc : α → Value} {encL : α → List Value} {cf : α → α → Int} {f g E c : Nat} {a : Option Addr} {l : List α} {σ : Store} (hf : ρ.f 6 = f) (he : ∀ x, encL x = [enc x]) (h1 : OneCell enc) (hO : TotalCmp cf)
    (eg : ∀ args w, (callFunc g args).run P w = .ok (.enter g args) w) (hc : ∀ x y τ, Con P g #[enc x, enc y] τ [] (PureP (.int .i64 (cf x y)) τ)) :
    Con P f #[.slice a l.length c, .func (.func g) #[] #[]] σ [Res.rowS E 1 encL (.slice a l.length c) l] (SortP E 1 encL a c l (sortL cf l) σ) := by
  subst hf
  have hflat : ∀ l : List α, l.flatMap encL = l.map enc := fun l => by
    induction l with
    | nil => rfl
    | cons x l ih => rw [List.flatMap_cons, ih, he]; rfl
  have hlen : (sortL cf l).length = l.length := List.length_mergeSort _
  intro w hw
  obtain ⟨hown, hone, hbg⟩ := hw.holds _ (List.mem_cons_self ..)
  have hsl := isSl_row hown
  rcases id hown.2 with ⟨hn, hm⟩ | ⟨g', cap', cur, hv, hb0, hg, h3, h4, h5, h6⟩
  · have hl0 : l = [] := List.eq_nil_of_length_eq_zero hm
    subst hl0
    refine (AnyF.slices_SortFunc_none L0 a c (.func (.func g) #[] #[]) w).mono fun e w' ⟨h1, h2⟩ => ⟨_, σ, _, h1, ⟨rfl, rfl, rfl⟩, ?_⟩
    subst h2
    rw [show sortL cf ([] : List α) = [] from by simp [sortL]]
    exact hw
  · cases hv
    have hH := holds_row hown
    rw [hflat] at hH
    have hHe : Holds enc w g' 0 l.toArray := fun j hj => by
      have := hH.1 j (by simpa using hj)
      have hj' : j < l.length := by simpa using hj
      simpa [hj'] using this
    have hsz : l.toArray.size < 4611686018427387904 := by simp; omega
    have := Any.slices_SortFunc_total L enc h1 cf hO.swo g #[] g' 0 c l.toArray w eg (cmpLays1_of hc) hHe hH.2 hsz hO.tot
    refine this.mono fun e w' ⟨h7, n, os, h8⟩ => ⟨_, σ, _, h7, ⟨rfl, rfl, rfl⟩, ?_⟩
    subst h8
    have h9 : (l.toArray.toList.mergeSort fun x y => !(ltOf cf) y x) = sortL cf l := rfl
    rw [h9]
    unfold sortWorld
    rw [putRow_id]
    have := Reach.sorted (h := hw) (m := n) (os := os) (xs' := (sortL cf l).map enc) (by rw [hflat, List.length_map, List.length_map, hlen]) (fun u hu => by
      obtain ⟨x, _, rfl⟩ := List.mem_map.1 hu
      exact h1 x)
    unfold Res.rowS
    rw [hflat (sortL cf l), hlen]
    exact this
theorem Con.sortK (L : SlLaysF0.n6 P ρ) {k : Nat} {enc : α → List Value} {cf : α → α → Int} {f g E c : Nat} {a : Option Addr} {l : List α} {σ : Store} (hf : ρ.f 6 = f) (aE : ∀ w, (isAgg (ρ.t 24)).run P w = .ok true w) (zE : ∀ w, (Go.sizeOf (ρ.t 24)).run P w = .ok k w) (hk : ∀ x, (enc x).length = k) (h1 : ∀ x, ∀ u ∈ enc x, u.oneCell' = true) (hO : TotalCmp cf)
    (eg : ∀ args w, (callFunc g args).run P w = .ok (.enter g args) w) (hc : ∀ x y τ, Con P g #[.agg (enc x).toArray, .agg (enc y).toArray] τ [] (PureP (.int .i64 (cf x y)) τ)) :
    Con P f #[.slice a l.length c, .func (.func g) #[] #[]] σ [Res.rowS E k enc (.slice a l.length c) l] (SortP E k enc a c l (sortL cf l) σ) := by
  subst hf
  have hlen : (sortL cf l).length = l.length := List.length_mergeSort _
  intro w hw
  obtain ⟨hown, hone, hbg⟩ := hw.holds _ (List.mem_cons_self ..)
  rcases id hown.2 with ⟨hn, hm⟩ | ⟨g', cap', cur, hv, hb0, hg, h3, h4, h5, h6⟩
  · have hl0 : l = [] := List.eq_nil_of_length_eq_zero hm
    subst hl0
    refine (AnyF.slices_SortFunc_none L a c (.func (.func g) #[] #[]) w).mono fun e w' ⟨h1, h2⟩ => ⟨_, σ, _, h1, ⟨rfl, rfl, rfl⟩, ?_⟩
    subst h2
    rw [show sortL cf ([] : List α) = [] from by simp [sortL]]
    exact hw
  · cases hv
    have hH := holds_row hown
    have hHe : HoldsK enc k w g' 0 l.toArray := by
      unfold HoldsK; rw [flatK_list hk]; exact hH.1
    have hsz : l.toArray.size < 4611686018427387904 := by simp; omega
    have := AnyQ.slices_SortFunc_total L k aE zE enc hk h1 cf hO.swo g #[] g' 0 c l.toArray w eg (cmpLays_of hc) hHe hH.2 hsz hO.tot
    refine this.mono fun e w' ⟨h7, n, os, h8⟩ => ⟨_, σ, _, h7, ⟨rfl, rfl, rfl⟩, ?_⟩
    subst h8
    have h9 : (l.toArray.toList.mergeSort fun x y => !(ltOf cf) y x) = sortL cf l := rfl
    rw [h9]
    unfold sortWorldK putRowK
    rw [flatK_list hk]
    have := Reach.sorted (h := hw) (m := n) (os := os) (xs' := (sortL cf l).flatMap enc) (by rw [flatMap_len hk, flatMap_len hk, hlen]) (fun u hu => by
      obtain ⟨x, _, hx⟩ := List.mem_flatMap.1 hu
      exact h1 x u hx)
    unfold Res.rowS
    rw [hlen]
    exact this
end
end Go.E
end

section
namespace Go.E
open Go Go.Sort Go.Proofs Go.Shelf
theorem flat_encI (l : List Int) : l.flatMap Go.E.encI = l.map (Value.int .i64) := by
  induction l with
  | nil => rfl
  | cons x l ih => rw [List.flatMap_cons, ih]; rfl
theorem Con.sortInt {P : Program} {ρ : Ren} (L : Lays.n189 P ρ) {f E c : Nat} {a : Option Addr} {l : List Int} {σ : Store} (hf : ρ.f 189 = f) :
    Con P f #[.slice a l.length c] σ [Res.rowS E 1 Go.E.encI (.slice a l.length c) l] (SortP E 1 Go.E.encI a c l (l.mergeSort fun x y => decide (x ≤ y)) σ) := by
  subst hf
  have hlen : (l.mergeSort fun x y => decide (x ≤ y)).length = l.length := List.length_mergeSort _
  intro w hw
  obtain ⟨hown, hone, hbg⟩ := hw.holds _ (List.mem_cons_self ..)
  have hsl := isSl_row hown
  rcases id hown.2 with ⟨hn, hm⟩ | ⟨g', cap', cur, hv, hb0, hg, h3, h4, h5, h6⟩
  · have hl0 : l = [] := List.eq_nil_of_length_eq_zero hm
    subst hl0
    refine (Any.slices_Sort_int_none L a c w).mono fun e w' ⟨h1, h2⟩ => ⟨_, σ, _, h1, ⟨rfl, rfl, rfl⟩, ?_⟩
    subst h2
    rw [show (([] : List Int).mergeSort fun x y => decide (x ≤ y)) = [] from by simp]
    exact hw
  · cases hv
    have hH := holds_row hown
    rw [flat_encI] at hH
    have hHe : Holds (Value.int .i64) w g' 0 l.toArray := fun j hj => by
      have := hH.1 j (by simpa using hj)
      have hj' : j < l.length := by simpa using hj
      simpa [hj'] using this
    have hsz : l.length < 4611686018427387904 := by omega
    have := Any.slices_Sort_int L g' 0 c l w hHe hH.2 hsz
    refine this.mono fun e w' ⟨h7, n, os, h8⟩ => ⟨_, σ, _, h7, ⟨rfl, rfl, rfl⟩, ?_⟩
    subst h8
    rw [putRow_id]
    have := Reach.sorted (h := hw) (m := n) (os := os) (xs' := (l.mergeSort fun x y => decide (x ≤ y)).map (Value.int .i64)) (by rw [flat_encI, List.length_map, List.length_map, hlen]) (fun u hu => by
      obtain ⟨x, _, rfl⟩ := List.mem_map.1 hu
      rfl)
    unfold Res.rowS
    rw [flat_encI (l.mergeSort fun x y => decide (x ≤ y)), hlen]
    exact this
theorem OpOk.make0S {X : Ctx} {e : Env} {σ : Store} {H : List Res} {o : Oper} {x y : Operand} {K : Env → Store → List Res → Prop} {α : Type} {T E size by_ d m : Nat} {kl kc : IntKind} {enc : α → List Value} {z : Value} (ho : o.op = .makeSlice T x y) (ht : X.P.underlying T = some (.slice E)) (hs : szOf X.P E = some size) (hby : byOf X.P E = some by_) (hz : zeroOf X.P E = some z)
    (hd : o.dst = some d) (hn : Nat.blt d X.n = true) (hx : ev e x = .int kl 0) (hy : ev e y = .int kc (m : Nat)) (hb : by_ * m ≤ 281474976710656) (hby0 : 0 < by_)
    (k : ∀ a c, K (upd e d (.slice a ([] : List α).length c)) σ (Res.rowS E size enc (.slice a ([] : List α).length c) [] :: H)) : OpOk X o e σ H K := OpOk.make0 ho ht hs hby hz hd hn hx hy hb hby0 k
theorem Con.lendG {P : Program} {f : FuncId} {args : Array Value} {σ : Store} {F : List Res} {v : Value} {α : Type} {E size : Nat} {enc : α → List Value} {l : List α} {Post : Store → Value → Store → List Res → Prop} (hl : ∀ x, (enc x).length = size)
    (hP : ∀ τ τ' r σ' H', Post τ r σ' H' → σ' = τ ∧ Post τ' r τ' H') (h : ∀ τ, σ.le τ → RS τ size enc v l → Con P f args τ F (Post τ)) : Con P f args σ (Res.rowS E size enc v l :: F) (fun r σ' H' => ∃ H'', Post σ r σ' H'' ∧ H' = H'' ++ [Res.rowS E size enc v l]) := by
  intro w hw
  obtain ⟨τ, h1, h2, h3⟩ := hw.sealRow
  have h0 : Reach w (blks F) τ τ w F := ⟨rfl, rfl, rfl, Nat.le_refl _, fun _ _ _ => rfl, Store.le.refl _, h1.fit, fun b o hb => .inl hb, h1.holds, fun r hr b hb => .inl (mem_blks.2 ⟨r, hr, hb⟩), h1.nodup, h1.apart, Nat.le_refl _⟩
  refine (h τ h2 ⟨h3, hl⟩ w h0).mono fun ex w' ⟨r', σ', H', he, hp, k⟩ => ?_
  obtain ⟨e2, hp'⟩ := hP τ σ r' σ' H' hp
  subst e2
  refine ⟨r', σ, _, he, ⟨H', hp', rfl⟩, ?_⟩
  have hb : ∀ b, b ∈ (Res.rowS E size enc v l).bl → b < w.heap.size ∧ b ∉ blks F := fun b hb => by
    refine ⟨hw.block_lt (List.mem_cons_self ..) hb, fun hx => ?_⟩
    have hnd := hw.nodup
    simp only [blks, List.flatMap_cons] at hnd
    exact (nodup_app.1 hnd).2.2 b hb hx
  have hF : ∀ b, b ∈ blks F → b ∈ blks (Res.rowS E size enc v l :: F) := fun b hx => by
    obtain ⟨r2, hr2, hb2⟩ := mem_blks.1 hx
    exact mem_blks.2 ⟨r2, List.mem_cons_of_mem _ hr2, hb2⟩
  have hframe : ∀ i, i < w.heap.size → i ∉ blks F → w'.heap[i]? = w.heap[i]? := k.frame
  refine ⟨k.os, k.tape, k.output, k.size, fun i hi hn => hframe i hi fun hx => hn (hF i hx), Store.le.refl _, fun b o hs => k.fit b o (h2 b o hs), fun b o hs => .inl hs, ?_, ?_, ?_, ?_, k.drawn⟩
  · intro r2 hr2
    rcases List.mem_append.1 hr2 with hr2 | hr2
    · exact k.holds r2 hr2
    · rw [List.mem_singleton.1 hr2]
      exact (Res.rowS E size enc v l).keep w w' (fun b hbb => hframe b (hb b hbb).1 (hb b hbb).2) (hw.holds _ (List.mem_cons_self ..))
  · intro r2 hr2 b hb2
    rcases List.mem_append.1 hr2 with hr2 | hr2
    · exact (k.own r2 hr2 b hb2).imp (hF b) id
    · rw [List.mem_singleton.1 hr2] at hb2
      exact .inl (mem_blks.2 ⟨_, List.mem_cons_self .., hb2⟩)
  · have e : blks (H' ++ [Res.rowS E size enc v l]) = blks H' ++ (Res.rowS E size enc v l).bl := by simp [blks, List.flatMap_append]
    rw [e, nodup_app]
    refine ⟨k.nodup, ?_, fun b hx hy => ?_⟩
    · have hnd := hw.nodup
      simp only [blks, List.flatMap_cons] at hnd
      exact (nodup_app.1 hnd).1
    · obtain ⟨r2, hr2, hb2⟩ := mem_blks.1 hx
      have := hb b hy
      rcases k.own r2 hr2 b hb2 with h4 | h4
      · exact this.2 h4
      · omega
  · intro r2 hr2 b hb2
    rcases List.mem_append.1 hr2 with hr2 | hr2
    · cases hs : σ b with
      | none => rfl
      | some o => have := k.apart r2 hr2 b hb2; rw [h2 b o hs] at this; cases this
    · rw [List.mem_singleton.1 hr2] at hb2
      exact hw.apart _ (List.mem_cons_self ..) b hb2
end Go.E
end

section
namespace Go.Proofs.YtamgjehhjkgelaaGreatDoor
open Go Go.E
theorem sortInt_con {σ : Store} {a : Option Addr} {c : Nat} {l : List Int} : Con Tryz.prog 107 #[.slice a l.length c] σ [Res.rowS 3 1 Go.E.encI (.slice a l.length c) l] (SortP 3 1 Go.E.encI a c l (l.mergeSort fun x y => decide (x ≤ y)) σ) := Con.sortInt layInt rfl
end Go.Proofs.YtamgjehhjkgelaaGreatDoor
end

section
namespace Go.Proofs.YtamgjehhjkgelaaGreatDoor
open Go
theorem ag3 : Go.E.aggOf Tryz.prog 3 = some false := by kernel_rfl
theorem ag46 : Go.E.aggOf Tryz.prog 46 = some false := by kernel_rfl
theorem ag5 : Go.E.aggOf Tryz.prog 5 = some false := by kernel_rfl
theorem ag53 : Go.E.aggOf Tryz.prog 53 = some false := by kernel_rfl
theorem ag55 : Go.E.aggOf Tryz.prog 55 = some true := by kernel_rfl
theorem ag58 : Go.E.aggOf Tryz.prog 58 = some true := by kernel_rfl
theorem ag59 : Go.E.aggOf Tryz.prog 59 = some false := by kernel_rfl
theorem ag61 : Go.E.aggOf Tryz.prog 61 = some true := by kernel_rfl
theorem by3 : Go.E.byOf Tryz.prog 3 = some 8 := by kernel_rfl
theorem by58 : Go.E.byOf Tryz.prog 58 = some 48 := by kernel_rfl
theorem eg55 : Tryz.prog.eqGuardType Tryz.prog.depth 55 = false := by kernel_rfl
theorem fo132_0 : Go.E.foOf Tryz.prog 132 0 = some 0 := by kernel_rfl
theorem fo58_0 : Go.E.foOf Tryz.prog 58 0 = some 0 := by kernel_rfl
theorem fo58_1 : Go.E.foOf Tryz.prog 58 1 = some 1 := by kernel_rfl
theorem fo58_2 : Go.E.foOf Tryz.prog 58 2 = some 2 := by kernel_rfl
theorem fo61_0 : Go.E.foOf Tryz.prog 61 0 = some 0 := by kernel_rfl
theorem fo61_1 : Go.E.foOf Tryz.prog 61 1 = some 1 := by kernel_rfl
theorem fo61_2 : Go.E.foOf Tryz.prog 61 2 = some 2 := by kernel_rfl
theorem fo61_3 : Go.E.foOf Tryz.prog 61 3 = some 3 := by kernel_rfl
theorem pf61 : Go.E.plainF Tryz.prog 61 = true := by kernel_rfl
theorem pf73 : Go.E.plainF Tryz.prog 73 = true := by kernel_rfl
theorem pf74 : Go.E.plainF Tryz.prog 74 = true := by kernel_rfl
theorem pl132 : Go.E.plOf Tryz.prog 132 = some #[(0, 1)] := by kernel_rfl
theorem pl58 : Go.E.plOf Tryz.prog 58 = some #[(0, 1), (1, 1), (2, 4)] := by kernel_rfl
theorem pl61 : Go.E.plOf Tryz.prog 61 = some #[(0, 1), (1, 1), (2, 1), (3, 1)] := by kernel_rfl
theorem sz3 : Go.E.szOf Tryz.prog 3 = some 1 := by kernel_rfl
theorem sz5 : Go.E.szOf Tryz.prog 5 = some 1 := by kernel_rfl
theorem sz53 : Go.E.szOf Tryz.prog 53 = some 1 := by kernel_rfl
theorem sz55 : Go.E.szOf Tryz.prog 55 = some 4 := by kernel_rfl
theorem sz58 : Go.E.szOf Tryz.prog 58 = some 6 := by kernel_rfl
theorem sz59 : Go.E.szOf Tryz.prog 59 = some 1 := by kernel_rfl
theorem sz61 : Go.E.szOf Tryz.prog 61 = some 4 := by kernel_rfl
theorem ze132 : Go.E.zeroOf Tryz.prog 132 = some (.agg #[.slice none 0 0]) := by kernel_rfl
theorem ze3 : Go.E.zeroOf Tryz.prog 3 = some (.int .i64 0) := by kernel_rfl
theorem ze55 : Go.E.zeroOf Tryz.prog 55 = some (.agg #[.int .u64 0, .int .u64 0, .int .u64 0, .int .u64 0]) := by kernel_rfl
theorem ze58 : Go.E.zeroOf Tryz.prog 58 = some (.agg #[.int .i64 0, .int .i64 0, .int .u64 0, .int .u64 0, .int .u64 0, .int .u64 0]) := by kernel_rfl
theorem ze61 : Go.E.zeroOf Tryz.prog 61 = some (.agg #[.int .i64 0, .slice none 0 0, .slice none 0 0, .slice none 0 0]) := by kernel_rfl
end Go.Proofs.YtamgjehhjkgelaaGreatDoor
end

section
namespace Go.Proofs.YtamgjehhjkgelaaGreatDoor
open Go Go.E
theorem and_one (a : Nat) : a &&& 1 = a % 2 := Nat.and_one_is_mod a
theorem has_con (σ : Store) (s : BSet) (b : Nat) (hs : s.ok) (hb : b < 256) : Con Tryz.prog 62 #[setV s, .int .u8 (b : Nat)] σ [] (PureP (.bool (s.has b)) σ) := by
  have hw : s.word (b / 64) < 18446744073709551616 := BSet.word_lt hs _
  have hw2 : s.word (b / 64) / 2 ^ (b % 64) < 18446744073709551616 := Nat.lt_of_le_of_lt (Nat.div_le_self _ _) hw
  refine Con.mk (n := 14) Tryz.func62 rfl rfl rfl (fun w0 => ?_)
  refine TC.seq ?_
  refine TC.region ?_
  refine TL.op rfl (OpOk.boxA rfl rfl rfl rfl (fun b1 => ?_))
  refine TL.v rfl (OpVal.moveB (.inr rfl) rfl) rfl rfl ?_
  refine TL.nil ?_
  refine S.n ?_
  refine TC.seq ?_
  refine TC.region ?_
  refine TL.v rfl (OpVal.moveI (.inl rfl) rfl) rfl rfl ?_
  refine TL.v rfl (OpVal.quoN (b := 64) rfl rfl rfl (by omega) (by simp only [kmax]; omega)) rfl rfl ?_
  refine TL.v rfl (OpVal.indexArrN rfl Tryz.underlying55 sz53 rfl rfl (by omega)) rfl rfl ?_
  refine TL.v rfl (OpVal.loadWord rfl ag53 rfl (j := 0) rfl (by omega)) rfl rfl ?_
  refine TL.v rfl (OpVal.moveI (.inl rfl) rfl) rfl rfl ?_
  refine TL.v rfl (OpVal.remN (b := 64) rfl rfl rfl (by omega)) rfl rfl ?_
  refine TL.v rfl (OpVal.shrN rfl rfl rfl (by show _ < 64; omega)) rfl rfl ?_
  refine TL.v rfl (OpVal.andN (b := 1) rfl rfl rfl (by omega) (by omega)) rfl rfl ?_
  refine TL.v rfl (OpVal.eqlN (b := 1) rfl rfl rfl) rfl rfl ?_
  refine TL.v rfl (OpVal.moveB (.inr rfl) rfl) rfl rfl ?_
  refine TL.nil ?_
  refine S.n ?_
  refine TC.ret ?_
  -- leaf 1 ret [] H=['q2']
  refine ret1P rfl (congrArg Value.bool ?_)
  unfold BSet.has; rw [decide_eq_decide, and_one]
end Go.Proofs.YtamgjehhjkgelaaGreatDoor
end

section
namespace Go.Proofs.YtamgjehhjkgelaaGreatDoor
open Go Go.E
def stateB (s n : Int) : Bool := decide (0 ≤ s) && decide (s < n)
def riseFrom (n : Int) (l : List Int) (i : Nat) : Bool := stateB (nth l i 0) n && !(decide (0 < i) && decide (nth l i 0 ≤ nth l (i - 1) 0))
def riseB (l : List Int) (n : Int) : Bool := (List.range l.length).all (riseFrom n l)
theorem riseB_no {l : List Int} {st : Int} {k : Nat} (hk : k < l.length) (h : riseFrom st l k = false) : riseB l st = false := by
  unfold riseB
  rw [List.all_eq_false]
  exact ⟨k, by simpa using hk, by simp [h]⟩
theorem riseB_yes {l : List Int} {st : Int} {k : Nat} (hk : l.length ≤ k) (h : ∀ i, i < k → riseFrom st l i = true) : riseB l st = true := by
  unfold riseB
  rw [List.all_eq_true]
  intro i hi
  exact h i (by have := List.mem_range.1 hi; omega)
theorem all_step {p : Nat → Bool} {k : Nat} (h : ∀ i, i < k → p i = true) (hk : p k = true) : ∀ i, i < k + 1 → p i = true := fun i hi => by
  rcases Nat.lt_succ_iff_lt_or_eq.1 hi with h' | rfl
  · exact h i h'
  · exact hk
def edgeB (n : Int) (x : Arrow) : Bool := stateB x.frm n && stateB x.to n && !decide (x.set = BSet.zero)
def checkB (n : Nfa) : Bool := decide (0 ≤ n.states) && decide (n.states ≤ 4096) && decide ((n.edges.length : Int) ≤ 65536) && riseB n.starts n.states && riseB n.ends n.states && n.edges.all (edgeB n.states)
def errB (b : Bool) : Int := if b then 0 else 1
theorem edges_no {n : Nfa} {k : Nat} (hk : k < n.edges.length) (h : edgeB n.states (nth n.edges k Arrow.zero) = false) : n.edges.all (edgeB n.states) = false := by
  rw [List.all_eq_false]
  exact ⟨_, List.mem_of_getElem? (getD_some n.edges hk Arrow.zero), by simp [h]⟩
theorem edges_yes {n : Nfa} (h : ∀ i, i < n.edges.length → edgeB n.states (nth n.edges i Arrow.zero) = true) : n.edges.all (edgeB n.states) = true := by
  rw [List.all_eq_true]
  intro x hx
  obtain ⟨j, hj, rfl⟩ := List.mem_iff_getElem.1 hx
  have h2 := getD_some n.edges hj Arrow.zero
  rw [List.getElem?_eq_getElem hj, Option.some.injEq] at h2
  rw [h2]; exact h j hj
theorem take_succ_nth {α : Type} (l : List α) {k : Nat} (hk : k < l.length) (d : α) : l.take (k + 1) = l.take k ++ [nth l k d] := by
  rw [List.take_add_one, getD_some l hk d]; rfl
end Go.Proofs.YtamgjehhjkgelaaGreatDoor
end

section
namespace Go.Proofs.YtamgjehhjkgelaaGreatDoor
open Go Go.E
def inTo (l : List UInt8) (k : Nat) : Nat → Bool := fun i => (l.take k).any fun u => decide (i = u.toNat)
theorem inTo_zero (l : List UInt8) : BSet.make (inTo l 0) = BSet.zero := by
  rw [show inTo l 0 = fun _ => false from by funext i; simp [inTo]]; exact BSet.make_zero
theorem inTo_succ {l : List UInt8} {k : Nat} (h : k < l.length) : (fun i => inTo l k i || decide (i = (nth l k 0).toNat)) = inTo l (k + 1) := by
  funext i; simp [inTo, take_succ_nth l h 0]
theorem inTo_all (l : List UInt8) : BSet.make (inTo l l.length) = BSet.ofL l := by
  unfold inTo BSet.ofL; rw [List.take_length]
theorem two_pow_lt {a : Nat} (h : a < 64) : 2 ^ a < 18446744073709551616 := Nat.lt_of_le_of_lt (Nat.pow_le_pow_right (by omega) (show a ≤ 63 by omega)) (by decide)
theorem of_con (σ : Store) (a : Option Addr) (c : Nat) (l : List UInt8) (hsz : l.length ≤ 1000000000000) :
    Con Tryz.prog 28 #[.slice a l.length c] σ [Res.rowS 5 1 encU8 (.slice a l.length c) l] (PureP (setV (BSet.ofL l)) σ) := by
  refine Con.mk (n := 23) Tryz.func28 rfl rfl rfl (fun w0 => ?_)
  refine TC.seq ?_
  refine TC.region ?_
  refine TL.op rfl (OpOk.alloc rfl ze55 rfl rfl (fun b1 => ?_))
  refine TL.nil ?_
  refine S.n ?_
  refine TC.seq ?_
  refine TC.region ?_
  refine TL.op rfl (OpOk.alloc rfl ze55 rfl rfl (fun b3 => ?_))
  refine TL.nil ?_
  refine S.n ?_
  refine TC.seq ?_
  refine TC.seq ?_
  refine TC.region ?_
  refine TL.v rfl (OpVal.moveSl (.inl rfl) rfl) rfl rfl ?_
  refine TL.v rfl (OpVal.lenC rfl Tryz.underlying134 rfl) rfl rfl ?_
  refine TL.v rfl (OpVal.moveI (.inl rfl) rfl) rfl rfl ?_
  refine TL.nil ?_
  refine S.n ?_
  refine TC.block ?_
  refine TC.loopF (α := Nat) [5, 8, 9, 10, 11, 12, 13, 14, 15, 16, 17, 18, 19, 20, 21] (fun k => [(8, .int .i64 (k : Nat))]) (fun k => [Res.cells b3 (setA (BSet.make (inTo l k))) 55, Res.cells b1 (setA BSet.zero) 55, Res.rowS 5 1 encU8 (.slice a l.length c) l]) (fun _ => _) (fun k => k ≤ l.length) (fun k => l.length - k) (0) (by first | exact True.intro | omega | (dsimp only; omega) | (simp; done) | (simp; omega)) (by repeat (first | exact trivial | refine ⟨rfl, ?_⟩)) (by rw [inTo_zero]; rfl) (by rfl) (fun g1 j1 hg1 => ?_)
  have hu : (nth l g1 (0 : UInt8)).toNat < 256 := UInt8.toNat_lt _
  have hp := two_pow_lt (Nat.mod_lt (nth l g1 (0 : UInt8)).toNat (show 0 < 64 by omega))
  have hw := BSet.word_lt (BSet.make_ok (inTo l g1)) ((nth l g1 (0 : UInt8)).toNat / 64)
  refine TC.seq ?_
  refine TC.region ?_
  refine TL.v rfl (OpVal.lss rfl rfl rfl) rfl rfl ?_
  refine TL.nil ?_
  refine S.n ?_
  refine TC.seq ?_
  refine TC.condD rfl (fun h5 => ?_) (fun h5 => ?_)
  · try simp only [decide_eq_true_eq, decide_eq_false_iff_not, Bool.not_eq_true', Bool.not_eq_false', Bool.not_eq_eq_eq_not, Bool.not_true, Bool.not_false, Int.not_lt, Int.not_le, Decidable.not_not] at h5
    refine TC.skip ?_
    refine S.n ?_
    refine TC.seq ?_
    refine TC.block ?_
    refine TC.seq ?_
    refine TC.region ?_
    refine TL.isSl (i := 2) rfl (fun hs6 _ _ => ?_)
    refine TL.v rfl (OpVal.indexN rfl Tryz.underlying134 sz5 rfl rfl (by first | assumption | exact (RS.rv (by assumption)).sl) (by omega)) rfl rfl ?_
    refine TL.v rfl (OpVal.loadO1 (0 : UInt8) rfl ag5 rfl (q := 2) rfl encU8_len (by omega) rfl) rfl rfl ?_
    refine TL.v rfl (OpVal.moveI (.inr rfl) rfl) rfl rfl ?_
    refine TL.nil ?_
    refine S.n ?_
    refine TC.region ?_
    refine TL.v rfl (OpVal.moveI (.inl rfl) rfl) rfl rfl ?_
    refine TL.v rfl (OpVal.quoN (b := 64) rfl rfl rfl (by omega) (by simp only [kmax]; omega)) rfl rfl ?_
    refine TL.v rfl (OpVal.indexArrN rfl Tryz.underlying55 sz53 rfl rfl (by omega)) rfl rfl ?_
    refine TL.v rfl (OpVal.loadWord rfl ag53 rfl (j := 0) rfl (by omega)) rfl rfl ?_
    refine TL.v rfl (OpVal.moveI (.inl rfl) rfl) rfl rfl ?_
    refine TL.v rfl (OpVal.remN (b := 64) rfl rfl rfl (by omega)) rfl rfl ?_
    refine TL.v rfl (OpVal.shlN (a := 1) rfl rfl rfl (by show _ < 64; omega) (by simp only [kmax]; omega)) rfl rfl ?_
    refine TL.v rfl (OpVal.orN rfl rfl rfl (by omega) (by omega)) rfl rfl ?_
    refine TL.v rfl (OpVal.indexArrN rfl Tryz.underlying55 sz53 rfl rfl (by omega)) rfl rfl ?_
    refine TL.op rfl (OpOk.storeWord rfl sz53 rfl rfl rfl (by omega) (Nat.or_lt_two_pow (n := 64) hw (by omega)) ?_)
    refine TL.nil ?_
    refine B.n ?_
    refine S.n ?_
    refine TC.region ?_
    refine TL.v rfl (OpVal.succ rfl rfl rfl (by omega)) rfl rfl ?_
    refine TL.v rfl (OpVal.moveI (.inl rfl) rfl) rfl rfl ?_
    refine TL.nil ?_
    refine S.n ?_
    -- leaf 1 next [h5: True] H=['q4', 'q2', 'r0']
    refine ⟨by repeat (first | exact Agr.mask | refine Agr.upd rfl ?_ | refine Agr.maskIn rfl ?_), g1 + 1, ?_, ?_, ?_, ?_, ?_⟩
    · omega
    · first | exact True.intro | omega | (dsimp only; omega) | (simp; done) | (simp; omega)
    · repeat (first | exact trivial | refine ⟨rfl, ?_⟩)
    · rw [BSet.make_or _ hu, inTo_succ (by omega)]
    · rfl
  · try simp only [decide_eq_true_eq, decide_eq_false_iff_not, Bool.not_eq_true', Bool.not_eq_false', Bool.not_eq_eq_eq_not, Bool.not_true, Bool.not_false, Int.not_lt, Int.not_le, Decidable.not_not] at h5
    refine TC.exit ?_
    refine S.x ?_
    refine S.x ?_
    refine TC.exitHere ?_
    refine S.n ?_
    refine TC.seq ?_
    refine TC.region ?_
    refine TL.v rfl (OpVal.loadAll rfl ag55 sz55 rfl (i := 0) rfl rfl) rfl rfl ?_
    refine TL.front 1 rfl rfl ?_
    refine TL.op rfl (OpOk.storeAll rfl sz55 rfl rfl rfl rfl rfl rfl ?_)
    refine TL.nil ?_
    refine S.n ?_
    refine TC.ret ?_
    -- leaf 2 ret [h5: False] H=['q2', 'q4', 'r0']
    obtain rfl : g1 = l.length := by omega
    rw [inTo_all]
    exact retCellP 0 rfl ag55 sz55 rfl rfl rfl rfl
end Go.Proofs.YtamgjehhjkgelaaGreatDoor
end

section
namespace Go.E
open Go
structure IStore where
  rows : List (List Int)
  places : FM (List UInt8) Int
structure ITable where
  of : IStore
structure RTable where
  l : List (List Int)
def ITable.zero : ITable := ⟨⟨[], FM.emp⟩⟩
def RTable.zero : RTable := ⟨[]⟩
end Go.E
end

section
namespace Go.E
open Go
section
variable {β : Type} {E' E size : Nat} {enc : β → List Value} {v : Value}
theorem sees_nestX {σ : Store} {H : List Res} {q i : Nat} {z : List (NP β)} (hq : H[q]? = some (Res.nestX E' E size enc v z i)) (w : World) (h : Sees σ H w) : Sees σ [Res.rowS E' 1 encN v z] w :=
  ⟨h.1, fun r hr => by
    simp at hr; subst hr
    exact h.2 _ (List.mem_of_getElem? hq) _ (List.mem_cons_self ..)⟩
theorem isSl_nestX {σ : Store} {H : List Res} {q i : Nat} {z : List (NP β)} {l : List (List β)} (hq : H[q]? = some (Res.nestX E' E size enc v z i)) (hZ : Zn z l) (w : World) (h : Sees σ H w) : IsSl v l.length ∧ l.length ≤ 281474976710656 := by
  have := isSl_seen (H := H) (sees_nestX hq w h)
  rw [hZ.len] at this; exact this
end
theorem TC.drawR {X : Ctx} {Q : QP} {id : Nat} {ops : Array Oper} {e : Env} {σ : Store} {H Hr : List Res} (hs : ∀ r ∈ Hr, r ∈ H) (late : List Nat) (hm : X.P.follows .mixedOrders = true) (h : TA X ops Q σ Hr late ops.size (Array.replicate ops.size false) e σ H) (hnd : noDeferB ops = true := by kernel_rfl) : TC X Q (.region id ops true) e σ H := fun w a hw ha =>
  Go.wpIn_mono (wpIn_region_any hm (wpAny_of_late _ _ _ _ (h (noDefer_of hnd) w.drew a hw.drew (sees_of (Store.le.refl _) hs _ hw.drew.sees) (closed_start _ _) ha))) fun ex a w h => by
    cases ex <;> first | exact h | exact h.elim
section
variable {P : Program} {n : Nat} {e : Env} {σ : Store} {H : List Res} {o : Oper} {x y : Operand} {T T' : TypeId} {k : IntKind} {a b : Int}
theorem OpVal.quoW (ho : o.op = .binOp .quo T x y T') (hx : ev e x = .int k a) (hy : ev e y = .int k b) (h : b ≠ 0) : OpVal P n o e σ H (.int k (k.wrap (a.tdiv b))) := .bin ho hx hy fun w => by simp [binOp, Op.intDiv, h]
end
theorem bytesLess_eq : ∀ l m : List UInt8, Op.bytesLess l m = decide (Lib.compareBytes l m < 0)
  | [], [] => by simp [Op.bytesLess, Lib.compareBytes]
  | _ :: _, [] => by simp [Op.bytesLess, Lib.compareBytes]
  | [], _ :: _ => by simp [Op.bytesLess, Lib.compareBytes]
  | a :: x, b :: y => by
    simp only [Op.bytesLess, Lib.compareBytes, bytesLess_eq x y]
    by_cases h : a < b
    · simp [h]
    · by_cases h' : b < a
      · have : ¬ a = b := fun e => by subst e; exact h h'
        simp [h, h', this]
      · have : a = b := UInt8.le_antisymm (UInt8.not_lt.1 h') (UInt8.not_lt.1 h)
        subst this
        simp [h]
theorem OpVal.lssBs {P : Program} {n : Nat} {e : Env} {σ : Store} {H : List Res} {o : Oper} {x y : Operand} {l m : List UInt8} {T T' : TypeId} (ho : o.op = .binOp .lss T x y T') (hx : ev e x = .string (bs l)) (hy : ev e y = .string (bs m)) : OpVal P n o e σ H (.bool (decide (Lib.compareBytes l m < 0))) := fun w _ => by
  simp only [execOp, ho, hx, hy, Sem.run_bind, run_eqGuard_str, Result.andThen_ok, binOp, Op.stringOp, ByteArray.toList_eq, bs_list, bytesLess_eq, Sem.run_pure]
theorem OpVal.loadWordAt {P : Program} {n : Nat} {e : Env} {σ : Store} {H : List Res} {o : Oper} {x : Operand} {T b E i j off : Nat} {cs : Array Value} (s : BSet) (ho : o.op = .load T x) (hA : aggOf P T = some false) (hx : ev e x = loc b (off + i * 1)) (hi : H[j]? = some (Res.cells b cs E)) (hk : i < 4)
    (hc : (cs.toList.drop off).take 4 = s.vals) : OpVal P n o e σ H (.int .u64 ((s.word i : Nat) : Int)) := by
  refine OpVal.loadLoc ho hA hx hi ?_
  have h1 : ((cs.toList.drop off).take 4)[i]? = some (.int .u64 ((s.word i : Nat) : Int)) := by
    rw [hc]
    match i, hk with
    | 0, _ => rfl
    | 1, _ => rfl
    | 2, _ => rfl
    | 3, _ => rfl
  rw [List.getElem?_take, if_pos hk, List.getElem?_drop] at h1
  rw [Nat.mul_one]; simpa using h1
end Go.E
end

section
namespace Go.Proofs.YtamgjehhjkgelaaGreatDoor
open Go Go.E Go.E.OpVal Go.E.OpOk Go.Proofs.Tryz
private theorem ag143 : Go.E.aggOf Tryz.prog 143 = some false := by kernel_rfl
private theorem ag47 : Go.E.aggOf Tryz.prog 47 = some false := by kernel_rfl
private theorem by46 : Go.E.byOf Tryz.prog 46 = some 24 := by kernel_rfl
private theorem by5 : Go.E.byOf Tryz.prog 5 = some 1 := by kernel_rfl
private theorem fo150_0 : Go.E.foOf Tryz.prog 150 0 = some 0 := by kernel_rfl
private theorem fo150_1 : Go.E.foOf Tryz.prog 150 1 = some 1 := by kernel_rfl
private theorem fo152_0 : Go.E.foOf Tryz.prog 152 0 = some 0 := by kernel_rfl
private theorem pf107 : Go.E.plainF Tryz.prog 107 = true := by kernel_rfl
private theorem pf108 : Go.E.plainF Tryz.prog 108 = true := by kernel_rfl
private theorem pf109 : Go.E.plainF Tryz.prog 109 = true := by kernel_rfl
private theorem pf78 : Go.E.plainF Tryz.prog 78 = true := by kernel_rfl
private theorem pf79 : Go.E.plainF Tryz.prog 79 = true := by kernel_rfl
private theorem pf80 : Go.E.plainF Tryz.prog 80 = true := by kernel_rfl
private theorem pf81 : Go.E.plainF Tryz.prog 81 = true := by kernel_rfl
private theorem pf82 : Go.E.plainF Tryz.prog 82 = true := by kernel_rfl
private theorem pl150 : Go.E.plOf Tryz.prog 150 = some #[(0, 1), (1, 1)] := by kernel_rfl
private theorem pl152 : Go.E.plOf Tryz.prog 152 = some #[(0, 2)] := by kernel_rfl
private theorem sz46 : Go.E.szOf Tryz.prog 46 = some 1 := by kernel_rfl
private theorem sz47 : Go.E.szOf Tryz.prog 47 = some 1 := by kernel_rfl
private theorem ze150 : Go.E.zeroOf Tryz.prog 150 = some (.agg #[.slice none 0 0, .map none]) := by kernel_rfl
private theorem ze152 : Go.E.zeroOf Tryz.prog 152 = some (.agg #[.slice none 0 0, .map none]) := by kernel_rfl
private theorem ze46 : Go.E.zeroOf Tryz.prog 46 = some (.slice none 0 0) := by kernel_rfl
private theorem ze5 : Go.E.zeroOf Tryz.prog 5 = some (.int .u8 0) := by kernel_rfl
noncomputable def Ee_ (x0 : Int) : Option (Bool) :=
 some (decide (x0 ≠ x0))
theorem F4_ {σ : Store} {x0 : Int}  {r : Bool} (hh : Ee_ x0 = some r) :
  Con Tryz.prog 109 #[.int .i64 x0] σ [] (PureP (.bool r) σ) := by
 dsimp only [Ee_] at hh
 refine Con.mk (n := 6) Tryz.func109 z z z (fun w0 => ?_)
 refine TC.a (TL.j z z (TL.en (TC.a (TL.i z z (TL.i z z (TL.w z (OpVal.neq z z z) (TL.j z z (TL.en (TC.ret ?_)))))))))
 obtain rfl := so hh
 exact rq [2] ⟨z, z, z⟩
noncomputable def A8_ (x0 : Int) (x1 : Int) : Option (Int) :=
 bnd (Ee_ x0) (fun v3 => bnd (Ee_ x1) (fun v6 => iteO v3 (iteO v6 (some 0) (some (-1))) (iteO v6 (some 1) (iteO (decide (x0 < x1)) (some (-1)) (iteO (decide (x1 < x0)) (some 1) (some 0))))))
theorem B3_ {σ : Store} {x0 : Int} {x1 : Int}  {r : Int} (hh : A8_ x0 x1 = some r) :
  Con Tryz.prog 93 #[.int .i64 x0, .int .i64 x1] σ [] (PureP (.int .i64 r) σ) := by
 dsimp only [A8_] at hh
 refine Con.mk (n := 20) Tryz.func93 z z z (fun w0 => ?_)
 refine TC.a (TL.i z z (TL.en (TC.a (TL.i z z ?_))))
 obtain ⟨v3, u3, hh⟩ := bnd_e hh
 refine TL.op z (callP (F4_ u3) z z pf109 z z z ?_)
 refine TL.j z z (TL.en (TC.a (TL.i z z ?_)))
 obtain ⟨v6, u6, hh⟩ := bnd_e hh
 refine TL.op z (callP (F4_ u6) z z pf109 z z z ?_)
 refine TL.j z z (TL.en (TC.seq (TC.a (TL.j z z (TL.en (TC.cB z hh (fun h101 hh => ?_) (fun h101 hh => ?_)))))))
 ·refine TC.seq (TC.a (TL.j z z (TL.en (TC.cB z hh (fun h102 hh => ?_) (fun h102 hh => ?_)))))
  ·refine TC.a (TL.i z z (TL.en (TC.ret (S.r (S.r ?_)))))
   obtain rfl := so hh
   exact rq [4] ⟨z, z, z⟩
  ·refine TC.skip (S.n (TC.a (TL.i z z (TL.en (TC.ret (S.r ?_))))))
   obtain rfl := so hh
   exact rq [4] ⟨z, z, z⟩
 ·refine TC.skip (S.n (TC.seq (TC.a (TL.j z z (TL.en (TC.cB z hh (fun h103 hh => ?_) (fun h103 hh => ?_)))))))
  ·refine TC.a (TL.i z z (TL.en (TC.ret (S.r ?_))))
   obtain rfl := so hh
   exact rq [4] ⟨z, z, z⟩
  ·refine TC.skip (S.n (TC.seq (TC.a (TL.i z z (TL.i z z (TL.w z (OpVal.lss z z z) (TL.en (TC.cD z hh (fun h104 hh => ?_) (fun h104 hh => ?_)))))))))
   ·refine TC.a (TL.i z z (TL.en (TC.ret (S.r ?_))))
    obtain rfl := so hh
    exact rq [4] ⟨z, z, z⟩
   ·refine TC.skip (S.n (TC.seq (TC.a (TL.i z z (TL.i z z (TL.w z (OpVal.gtr z z z) (TL.en (TC.cD z hh (fun h105 hh => ?_) (fun h105 hh => ?_)))))))))
    ·refine TC.a (TL.i z z (TL.en (TC.ret (S.r ?_))))
     obtain rfl := so hh
     exact rq [4] ⟨z, z, z⟩
    ·refine TC.skip (S.n (TC.a (TL.i z z (TL.en (TC.ret ?_)))))
     obtain rfl := so hh
     exact rq [4] ⟨z, z, z⟩
theorem Gh_ {σ : Store} {a : Option Addr} {c : Nat} {l : List Int} (hl : RS σ 1 Go.E.encI (.slice a l.length c) l) (hsz : l.length * 8 ≤ 140737488355328) :
  Con Tryz.prog 82 #[.slice a l.length c] σ [] (RowP 3 1 Go.E.encI l σ) := by
 have hb := hl.rv.big
 refine Con.mk (n := 8) Tryz.func82 z z z (fun w0 => ?_)
 refine TC.a (TL.s z z (TL.nilS 3 1 Go.E.encI (TL.en (TC.seq (TC.a (TL.s z z (TL.w z (eqlNilSl z underlying46 z z) (TL.en (TC.cond z (fun h2 => ?_) (fun h2 => ?_))))))))))
 ·refine TC.a (TL.s z z (TL.nilS 3 1 Go.E.encI (TL.en (TC.ret (S.r ?_)))))
  cases a with
  | some _ => simp at h2
  | none =>
   obtain rfl := hl.none_nil
   exact ret1R z z
 ·refine TC.skip (S.n (TC.a (TL.op z (lit0 (enc := Go.E.encI) z z underlying46 sz3 z z (fun a4 c5 => ?_)))))
  refine TL.s z z (TL.op z (appendS z z underlying46 sz3 by3 ze3 z z (by decide) z z z (.inl hl) (by simpa using hsz) (by decide) (fun a7 c8 => ?_)))
  exact TL.s z z (TL.en (TC.ret (ret1R z z)))
noncomputable def Cd_ (k125 : Nat) (l128 : List Int) (k130 : Nat) : Option (((List Int) × Nat × Nat) ⊕ ((Nat) ⊕ ((List Int)))) :=
 nxt (l128, k130, (k125 + 1))
noncomputable def Co_ (x0 : List Int) (k105 : Nat) (l122 : List Int) (k124 : Nat) (k125 : Nat) : Option (((List Int) × Nat × Nat) ⊕ ((Nat) ⊕ ((List Int)))) :=
 iteO (decide (((k125 : Nat) : Int) < (((x0.length - k105) : Nat) : Int))) (grd (k125 < (x0.length - k105)) (grd (0 ≤ (IntKind.i64.wrap (((k125 : Nat) : Int) - 1)) ∧ (IntKind.i64.wrap (((k125 : Nat) : Int) - 1)) < ((x0.length - k105) : Nat)) (iteO (decide ((nth l122 (k105 + k125) (0 : Int)) ≠ (nth l122 (k105 + (IntKind.i64.wrap (((k125 : Nat) : Int) - 1)).toNat) (0 : Int)))) (grd (k125 < (x0.length - k105)) (grd (k124 < l122.length) (Cd_ k125 (l122.set k124 (nth l122 (k105 + k125) (0 : Int))) (k124 + 1)))) (Cd_ k125 l122 k124)))) (fin (grd (k124 ≤ x0.length) (grd (k124 ≤ (l122.take k124 ++ List.replicate (l122.length - k124) (0 : Int)).length) (fin (some ((l122.take k124 ++ List.replicate (l122.length - k124) (0 : Int)).take k124))))))
noncomputable def Ce_ (x0 : List Int) (k105 : Nat) : Option ((Nat) ⊕ ((List Int))) :=
 iteO (decide (((k105 : Nat) : Int) < ((x0.length : Nat) : Int))) (grd (0 ≤ (IntKind.i64.wrap (((k105 : Nat) : Int) - 1)) ∧ (IntKind.i64.wrap (((k105 : Nat) : Int) - 1)) < (x0.length : Int)) (iteO (decide ((nth x0 k105 (0 : Int)) = (nth x0 ((IntKind.i64.wrap (((k105 : Nat) : Int) - 1)).toNat) (0 : Int)))) (grd (k105 ≤ x0.length) (iter (fun q : (List Int) × Nat × Nat => Co_ x0 k105 q.1 q.2.1 q.2.2) (x0, k105, 1))) (nxt (k105 + 1)))) (fin (some x0))
noncomputable def compactI (x0 : List Int) : Option ((List Int)) :=
 iteO (decide (((x0.length : Nat) : Int) < 2)) (some x0) (iter (fun q : Nat => Ce_ x0 q) 1)
theorem Gr_ {σ : Store} {x0 : List Int} {a0_1 : Option Addr} {c0_2 : Nat}  {r : (List Int)} (hh : compactI x0 = some r) :
  Con Tryz.prog 108 #[.slice a0_1 x0.length c0_2] σ [Res.rowS 3 1 Go.E.encI (.slice a0_1 x0.length c0_2) x0] (fun v σ' H' => ∃ (a1 : Option Addr), ∃ (c1 : Nat), v = .slice a1 r.length c1 ∧ σ = σ' ∧ H' = [Res.rowS 3 1 Go.E.encI (.slice a1 r.length c1) r]) := by
 dsimp only [compactI] at hh
 refine Con.mk (n := 61) Tryz.func108 z z z (fun w0 => ?_)
 refine TC.a (TL.s z z (TL.en (TC.seq (TC.a (TL.s z z (TL.w z (lenC z underlying46 z) (TL.w z (OpVal.lss z z z) (TL.en (TC.cD z hh (fun h102 hh => ?_) (fun h102 hh => ?_))))))))))
 ·refine TC.a (TL.s z z (TL.s z z (TL.en (TC.ret (S.r ?_)))))
  obtain rfl := so hh
  exact ro [Res.rowS 3 1 Go.E.encI (.slice a0_1 x0.length c0_2) x0] z (RVs.tmp z RVs.nil) ⟨a0_1, c0_2, z, z, z⟩
 ·refine TC.skip (S.n (TC.seq (TC.a (TL.i z z (TL.en (TC.block (TC.loopG (α := (Nat) × (Unit)) (rgs [(2, 4), (10, 50)]) (fun g => [(3, .int .i64 ((g.1 : Nat) : Int))]) (fun g => [Res.rowS 3 1 Go.E.encI (.slice a0_1 x0.length c0_2) x0]) (fun g => σ) (fun g => iter (fun q : Nat => Ce_ x0 q) g.1 = some r) (fun g => rounds (fun q : Nat => Ce_ x0 q) g.1) (1, ()) (Sub.pre 1 z) z (by repeat (first | exact trivial | refine ⟨z, ?_⟩)) hh (fun g1 j1 hg1 => ?_))))))))
  obtain ⟨k105, _⟩ := g1
  have hh := hg1; clear hg1
  try dsimp only
  obtain ⟨z1, hh, hR1⟩ := iter_e hh
  dsimp only [Ce_] at hh
  refine TC.isSl (i := 0) z (fun _ hb106 _ => ?_)
  refine TC.seq (TC.a (TL.i z z (TL.s z z (TL.w z (lenC z underlying46 z) (TL.w z (OpVal.lss z z z) (TL.en (TC.cD z hh (fun h107 hh => ?_) (fun h107 hh => ?_))))))))
  ·refine TC.skip (S.n (TC.seq (TC.block (TC.seq ?_))))
   have u19 := grd_c hh
   replace hh := grd_t hh
   refine TC.draw [] (by kernel_rfl) (TA.a 0 z (moveSl (.inl z) z) z (TA.a 1 z (moveI (.inl z) z) z (TA.isSl (i := 0) z (fun hs110 _ _ => ?_))))
   refine TA.b 2 z (indexN z underlying46 sz3 z z hs110 (by omega)) z (TA.b 3 z (loadO1 (0 : Int) z ag3 z (q := 0) z Go.E.encI_len (by omega) z) z (TA.a 4 z (moveSl (.inl z) z) z (TA.a 5 z (moveI (.inl z) z) z (TA.a 6 z (subW z z z) z (TA.isSl (i := 0) z (fun hs111 _ _ => ?_))))))
   refine TA.b 7 z (OpVal.index z underlying46 sz3 z z hs111 u19.1 u19.2) z (TA.b 8 z (loadO1 (0 : Int) z ag3 z (q := 0) z Go.E.encI_len (by omega) z) z (TA.a 9 z (OpVal.eql z z z) z (TA.dn (S.n (TC.cD z hh (fun h112 hh => ?_) (fun h112 hh => ?_))))))
   ·refine TC.a (TL.s z z (TL.i z z ?_))
    have u24 := grd_c hh
    replace hh := grd_t hh
    refine TL.isSl (i := 0) z (fun hs113 _ _ => ?_)
    obtain ⟨a113, c113, hv113, ho113⟩ := vw_of (k := k105) (size := 1) hs113 (by omega)
    refine TL.w z (ho113 z underlying46 sz3 z z) (TL.s z z (TL.en (TC.seq (TC.a (TL.i z z (TL.en (TC.block (TC.loopG (α := ((List Int) × Nat × Nat) × (Unit)) (rgs [(3, 1), (5, 1), (29, 25)]) (fun g => [(3, .int .i64 ((g.1.2.1 : Nat) : Int)), (5, .int .i64 ((g.1.2.2 : Nat) : Int))]) (fun g => [Res.rowS 3 1 Go.E.encI (.slice a0_1 x0.length c0_2) g.1.1]) (fun g => σ) (fun g => iter (fun q : (List Int) × Nat × Nat => Co_ x0 k105 q.1 q.2.1 q.2.2) g.1 = some z1 ∧ g.1.1.length = x0.length) (fun g => rounds (fun q : (List Int) × Nat × Nat => Co_ x0 k105 q.1 q.2.1 q.2.2) g.1) ((x0, k105, 1), ()) (Sub.pre 1 z) z (by repeat (first | exact trivial | refine ⟨z, ?_⟩)) ⟨hh, z⟩ (fun g2 j2 hg2 => ?_)))))))))
    obtain ⟨⟨l122, k124, k125⟩, _⟩ := g2
    obtain ⟨hh, hn123⟩ := hg2
    try dsimp only at hn123 ⊢
    obtain ⟨z2, hh, hR2⟩ := iter_e hh
    dsimp only [Co_] at hh
    have hn123b := hn123
    refine TC.isSl (i := 0) z (fun _ hb126 _ => ?_)
    refine TC.seq (TC.a (TL.i z z (TL.s z z (TL.w z (lenC z underlying46 z) (TL.w z (OpVal.lss z z z) (TL.en (TC.cD z hh (fun h127 hh => ?_) (fun h127 hh => ?_))))))))
    ·refine TC.skip (S.n (TC.cutG (α := ((List Int) × Nat) × (Unit)) (rgs [(3, 1), (35, 19)]) (fun g => [(3, .int .i64 ((g.1.2 : Nat) : Int))]) (fun g => [Res.rowS 3 1 Go.E.encI (.slice a0_1 x0.length c0_2) g.1.1]) (fun g => σ) (fun g => Cd_ k125 g.1.1 g.1.2 = some z2 ∧ g.1.1.length = x0.length) ?_ (fun g j hg => ?_)))
     ·skip
      refine TC.block (TC.seq ?_)
      have u33 := grd_c hh
      replace hh := grd_t hh
      have u38 := grd_c hh
      replace hh := grd_t hh
      refine TC.draw [] (by kernel_rfl) (TA.a 0 z (moveSl (.inl z) z) z (TA.a 1 z (moveI (.inl z) z) z (TA.b 2 z (elVw hv113 (by omega) (indexN z underlying46 sz3 z z hv113.sl (by omega))) z (TA.b 3 z (loadO1 (0 : Int) z ag3 z (q := 0) z Go.E.encI_len (by omega) z) z (TA.a 4 z (moveSl (.inl z) z) z (TA.a 5 z (moveI (.inl z) z) z (TA.a 6 z (subW z z z) z (TA.b 7 z (elVw hv113 (by omega) (OpVal.index z underlying46 sz3 z z hv113.sl u38.1 u38.2)) z (TA.b 8 z (loadO1 (0 : Int) z ag3 z (q := 0) z Go.E.encI_len (by omega) z) z (TA.a 9 z (OpVal.neq z z z) z (TA.dn (S.n (TC.cD z hh (fun h131 hh => ?_) (fun h131 hh => ?_))))))))))))))
      ·refine TC.a (TL.s z z (TL.i z z (TL.s z z (TL.i z z ?_))))
       have u45 := grd_c hh
       replace hh := grd_t hh
       refine TL.w z (elVw hv113 (by omega) (indexN z underlying46 sz3 z z hv113.sl (by omega))) (TL.w z (loadO1 (0 : Int) z ag3 z (q := 0) z Go.E.encI_len (by omega) z) ?_)
       have u47 := grd_c hh
       replace hh := grd_t hh
       refine TL.isSl (i := 0) z (fun hs132 _ _ => ?_)
       refine TL.w z (indexN z underlying46 sz3 z z hs132 (by omega)) ?_
       have hn133 : (l122.set k124 (nth l122 (k105 + k125) (0 : Int))).length = x0.length := by rw [List.length_set]; exact hn123
       refine TL.op z (storeS (nth l122 (k105 + k125) (0 : Int)) z sz3 z z z z Go.E.encI_len Go.E.encI_one (by omega) (by omega) ?_)
       exact TL.en (TC.region (TL.i z z (TL.w z (OpVal.succ z z z (by omega)) (TL.i z z (TL.nil (B.n (S.n (cf (((l122.set k124 (nth l122 (k105 + k125) (0 : Int))), (k124 + 1)), ()) ⟨hh, hn133⟩ (Sub.pre 1 z)))))))))
      ·exact TC.skip (B.n (S.n (cf ((l122, k124), ()) ⟨hh, hn123⟩ (Sub.pre 1 z))))
     ·skip
      obtain ⟨⟨l128, k130⟩, _⟩ := g
      obtain ⟨hh, hn129⟩ := hg
      try dsimp only at hn129 ⊢
      dsimp only [Cd_] at hh
      have hn129b := hn129
      refine TC.isSl (i := 0) z (fun _ hb134 _ => ?_)
      refine TC.region (TL.i z z (TL.w z (OpVal.succ z z z (by omega)) (TL.i z z (TL.en ?_))))
      obtain ⟨hh, hlt135⟩ := nxt_x hR2 hh
      exact lf ((l128, k130, (k125 + 1)), ()) hlt135 ⟨hh, hn129⟩ (Sub.pre 1 z)
    ·refine TC.exit (S.x (S.x ?_))
     replace hh := fin_x hR2 hh
     refine TC.exitHere (S.n (TC.a (TL.s z z (TL.i z z ?_))))
     have u57 := grd_c hh
     replace hh := grd_t hh
     refine TL.isSl (i := 0) z (fun hs136 _ _ => ?_)
     rw [hn123] at hs136
     obtain ⟨a136, c136, hv136, ho136⟩ := vw_of (k := k124) (size := 1) hs136 (by omega)
     refine TL.w z (ho136 z underlying46 sz3 z z) ?_
     have hn137 : (l122.take k124 ++ List.replicate (l122.length - k124) (0 : Int)).length = x0.length := by simp only [List.length_append, List.length_take, List.length_replicate]; try simp only [List.length_replicate] at *; omega
     refine TL.op z (clearV (k := k124) (0 : Int) z underlying46 ze3 z z hv136 (by omega) (by omega) Go.E.encI_len (by decide) z Go.E.encI_one ?_)
     refine TL.en (TC.a (TL.s z z (TL.i z z ?_)))
     rw [← hn137]
     have u61 := grd_c hh
     replace hh := grd_t hh
     refine TL.op z (cutS z underlying46 sz3 z z z z z (by omega) Go.E.encI_len ?_)
     refine TL.s z z (TL.en (TC.ret (B.r (S.r (S.r ?_)))))
     replace hh := fin_x hR1 hh
     refine B.r (S.r ?_)
     obtain rfl := so hh
     exact ro [Res.rowS 3 1 Go.E.encI (.slice a0_1 ((l122.take k124 ++ List.replicate (l122.length - k124) (0 : Int)).take k124).length c0_2) ((l122.take k124 ++ List.replicate (l122.length - k124) (0 : Int)).take k124)] z (RVs.tmp z RVs.nil) ⟨a0_1, c0_2, z, z, z⟩
   ·refine TC.skip (B.n (S.n (TC.region (TL.i z z (TL.w z (OpVal.succ z z z (by omega)) (TL.i z z (TL.en ?_)))))))
    obtain ⟨hh, hlt138⟩ := nxt_x hR1 hh
    exact lf ((k105 + 1), ()) hlt138 hh (Sub.pre 1 z)
  ·refine TC.exit (S.x (S.x ?_))
   replace hh := fin_x hR1 hh
   refine TC.exitHere (S.n (TC.a (TL.s z z (TL.s z z (TL.en (TC.ret ?_))))))
   obtain rfl := so hh
   exact ro [Res.rowS 3 1 Go.E.encI (.slice a0_1 x0.length c0_2) x0] z (RVs.tmp z RVs.nil) ⟨a0_1, c0_2, z, z, z⟩
noncomputable def intern_Sort (x0 : List Int) : Option ((List Int)) :=
 grd (x0.length * 8 ≤ 140737488355328) (bnd (compactI (List.mergeSort x0 fun x y => decide (x ≤ y))) (fun v8 => some v8))
def intern_Sort_P (σ : Store) (r : (List Int)) : Value → Store → List Res → Prop := fun v σ' H' =>
 ∃ (a1 : Option Addr), ∃ (c1 : Nat),  v = .slice a1 r.length c1 ∧ σ = σ' ∧ H' = [Res.rowS 3 1 Go.E.encI (.slice a1 r.length c1) r]
theorem intern_Sort_con {σ : Store} {x0 : List Int} {a0_0 : Option Addr} {c0_0 : Nat} (f0_0 : RS σ 1 Go.E.encI (.slice a0_0 x0.length c0_0) x0) {r : (List Int)} (hh : intern_Sort x0 = some r) :
  Con Tryz.prog 78 #[.slice a0_0 x0.length c0_0] σ [] (intern_Sort_P σ r) := by
 dsimp only [intern_Sort] at hh
 have f0_0b := f0_0.rv.big
 refine Con.mk (n := 10) Tryz.func78 z z z (fun w0 => ?_)
 refine TC.a (TL.s z z (TL.en (TC.a (TL.s z z ?_))))
 have u3 := grd_c hh
 replace hh := grd_t hh
 refine TL.op z (OpOk.call (Gh_ f0_0 u3) z z pf82 z z z z ?_)
 rintro _ _ _ _ ⟨⟨a101, c102, rfl⟩, rfl, rfl⟩
 refine TL.s z z (TL.en (TC.a (TL.s z z ?_)))
 have hn104 : (List.mergeSort x0 fun x y => decide (x ≤ y)).length = x0.length := List.length_mergeSort _
 refine TL.op z (OpOk.call (sortInt_con (l := x0)) z z pf107 z z z z ?_)
 rintro _ _ _ _ ⟨rfl, rfl, rfl⟩
 refine TL.en (TC.a (TL.s z z ?_))
 rw [← hn104]
 obtain ⟨v8, u8, hh⟩ := bnd_e hh
 refine TL.op z (OpOk.call (Gr_ u8) z z pf108 z z z z ?_)
 rintro _ _ _ hle105 ⟨a105_1, c105_2, rfl, rfl, rfl⟩
 refine TL.s z z (TL.en (TC.ret ?_))
 obtain rfl := so hh
 exact ro [Res.rowS 3 1 Go.E.encI (.slice a105_1 v8.length c105_2) v8] z (RVs.tmp z RVs.nil) ⟨a105_1, c105_2, z, z, z⟩
noncomputable def intern_key_b2 (x0 : List Int) (k115 : Nat) (l126 : List UInt8) (k129 : Nat) : Option (((List UInt8) × Nat) ⊕ (((List UInt8) × Nat) ⊕ ((List UInt8)))) :=
 iteO (decide (((k129 : Nat) : Int) < 8)) (grd (0 ≤ IntKind.i64.wrap (8 * ((k129 : Nat) : Int))) (grd ((l126.length + [(toU8 (((u64shr (u64of (nth x0 k115 (0 : Int))) ((IntKind.i64.wrap (8 * ((k129 : Nat) : Int))).toNat)) : Nat) : Int))].length) * 1 ≤ 140737488355328) (nxt ((l126 ++ [(toU8 (((u64shr (u64of (nth x0 k115 (0 : Int))) ((IntKind.i64.wrap (8 * ((k129 : Nat) : Int))).toNat)) : Nat) : Int))]), (k129 + 1))))) (fin (nxt (l126, (k115 + 1))))
noncomputable def intern_key_b1 (x0 : List Int) (l112 : List UInt8) (k115 : Nat) : Option (((List UInt8) × Nat) ⊕ ((List UInt8))) :=
 iteO (decide (((k115 : Nat) : Int) < ((x0.length : Nat) : Int))) (iter (fun q : (List UInt8) × Nat => intern_key_b2 x0 k115 q.1 q.2) (l112, 0)) (fin (some l112))
noncomputable def intern_key (x0 : List Int) : Option ((List UInt8)) :=
 grd (0 ≤ IntKind.i64.wrap (8 * ((x0.length : Nat) : Int)) ∧ 1 * (IntKind.i64.wrap (8 * ((x0.length : Nat) : Int))).toNat ≤ 281474976710656) (iter (fun q : (List UInt8) × Nat => intern_key_b1 x0 q.1 q.2) (([] : List UInt8), 0))
theorem intern_key_con {σ : Store} {x0 : List Int} {a0_0 : Option Addr} {c0_0 : Nat} (f0_0 : RS σ 1 Go.E.encI (.slice a0_0 x0.length c0_0) x0) {r : (List UInt8)} (hh : intern_key x0 = some r) :
  Con Tryz.prog 79 #[.slice a0_0 x0.length c0_0] σ [] (PureP (.string (bs r)) σ) := by
 dsimp only [intern_key] at hh
 have f0_0b := f0_0.rv.big
 refine Con.mk (n := 33) Tryz.func79 z z z (fun w0 => ?_)
 refine TC.a (TL.w z (moveStr (.inr z) z) (TL.en (TC.a (TL.s z z (TL.w z (lenC z underlying46 z) (TL.w z (mulW z z z) ?_))))))
 have u5 := grd_c hh
 replace hh := grd_t hh
 refine TL.op rfl (make0S (enc := encU8) (m := (IntKind.i64.wrap (8 * ((x0.length : Nat) : Int))).toNat) rfl underlying134 sz5 by5 ze5 rfl rfl rfl (by show Value.int _ _ = _; rw [Int.toNat_of_nonneg u5.1]) (by omega) (by decide) (fun a101 c102 => ?_))
 refine TL.s z z (TL.en (TC.seq (TC.a (TL.s z z (TL.w z (lenC z underlying46 z) (TL.i z z (TL.en (TC.block (TC.loopG (α := ((List UInt8) × Nat) × ((Option Addr) × Nat)) (rgs [(3, 1), (5, 2), (13, 18)]) (fun g => [(3, .slice g.2.1 g.1.1.length g.2.2), (13, .int .i64 ((g.1.2 : Nat) : Int))]) (fun g => [Res.rowS 5 1 encU8 (.slice g.2.1 g.1.1.length g.2.2) g.1.1]) (fun g => σ) (fun g => iter (fun q : (List UInt8) × Nat => intern_key_b1 x0 q.1 q.2) g.1 = some r) (fun g => rounds (fun q : (List UInt8) × Nat => intern_key_b1 x0 q.1 q.2) g.1) ((([] : List UInt8), 0), (a101, c102)) (Sub.pre 1 z) z (by repeat (first | exact trivial | refine ⟨z, ?_⟩)) hh (fun g1 j1 hg1 => ?_))))))))))
 obtain ⟨⟨l112, k115⟩, ⟨a113, c114⟩⟩ := g1
 have hh := hg1; clear hg1
 try dsimp only
 obtain ⟨z1, hh, hR1⟩ := iter_e hh
 dsimp only [intern_key_b1] at hh
 refine TC.isSl (i := 0) z (fun _ hb116 _ => ?_)
 refine TC.a (TL.w z (OpVal.lss z z z) (TL.en (TC.seq (TC.cD z hh (fun h117 hh => ?_) (fun h117 hh => ?_)))))
 ·refine TC.skip (S.n (TC.seq (TC.block (TC.a (TL.w z (indexN z underlying46 sz3 z z f0_0.rv.sl (by omega)) (TL.w z (loadS1 (0 : Int) z ag3 z f0_0 (by omega) z) (TL.i z z (TL.en (TC.a (TL.i z z (TL.en (TC.block (TC.loopG (α := ((List UInt8) × Nat) × ((Option Addr) × Nat)) (rgs [(3, 1), (6, 1), (17, 13)]) (fun g => [(3, .slice g.2.1 g.1.1.length g.2.2), (17, .int .i64 ((g.1.2 : Nat) : Int))]) (fun g => [Res.rowS 5 1 encU8 (.slice g.2.1 g.1.1.length g.2.2) g.1.1]) (fun g => σ) (fun g => iter (fun q : (List UInt8) × Nat => intern_key_b2 x0 k115 q.1 q.2) g.1 = some z1) (fun g => rounds (fun q : (List UInt8) × Nat => intern_key_b2 x0 k115 q.1 q.2) g.1) ((l112, 0), (a113, c114)) (Sub.pre 1 z) z (by repeat (first | exact trivial | refine ⟨z, ?_⟩)) hh (fun g2 j2 hg2 => ?_))))))))))))))
  obtain ⟨⟨l126, k129⟩, ⟨a127, c128⟩⟩ := g2
  have hh := hg2; clear hg2
  try dsimp only
  obtain ⟨z2, hh, hR2⟩ := iter_e hh
  dsimp only [intern_key_b2] at hh
  refine TC.isSl (i := 0) z (fun _ hb130 _ => ?_)
  refine TC.a (TL.w z (OpVal.lss z z z) (TL.en (TC.seq (TC.cD z hh (fun h131 hh => ?_) (fun h131 hh => ?_)))))
  ·refine TC.skip (S.n (TC.seq (TC.block (TC.a (TL.i z z (TL.i z z (TL.en (TC.region (TL.s z z (TL.i z z (TL.w z (convU z underlying3 underlying53 z) (TL.i z z (TL.w z (mulW z z z) ?_)))))))))))))
   have u23 := grd_c hh
   replace hh := grd_t hh
   refine TL.w rfl (shrU (b := (IntKind.i64.wrap (8 * ((k129 : Nat) : Int))).toNat) rfl rfl (by show Value.int _ _ = _; rw [Int.toNat_of_nonneg u23])) (TL.w z (convU8 z underlying53 underlying5 z) (TL.op z (OpOk.lit (enc := encU8) [(toU8 (((u64shr (u64of (nth x0 k115 (0 : Int))) ((IntKind.i64.wrap (8 * ((k129 : Nat) : Int))).toNat)) : Nat) : Int))] z underlying134 sz5 ze5 z z z encU8_len (by decide) (by decide) (0 : UInt8) z (by decide) z (by decide) encU8_one (fun a132 c133 => ?_))))
   refine TL.front 1 z z ?_
   have u26 := grd_c hh
   replace hh := grd_t hh
   refine TL.op z (appendS z z underlying134 sz5 by5 ze5 z z (by decide) z z z (.inr ⟨_, 0, z⟩) (by simpa using u26) (by decide) (fun a135 c136 => ?_))
   refine TL.s z z (TL.nil (B.n (S.n (TC.region (TL.w z (OpVal.succ z z z (by omega)) (TL.i z z (TL.en ?_)))))))
   obtain ⟨hh, hlt137⟩ := nxt_x hR2 hh
   exact lf (((l126 ++ [(toU8 (((u64shr (u64of (nth x0 k115 (0 : Int))) ((IntKind.i64.wrap (8 * ((k129 : Nat) : Int))).toNat)) : Nat) : Int))]), (k129 + 1)), (a135, c136)) hlt137 hh (Sub.pre 1 z)
  ·refine TC.exit (S.x (S.x ?_))
   replace hh := fin_x hR2 hh
   refine TC.exitHere (B.n (S.n (TC.region (TL.w z (OpVal.succ z z z (by omega)) (TL.i z z (TL.en ?_))))))
   obtain ⟨hh, hlt138⟩ := nxt_x hR1 hh
   exact lf ((l126, (k115 + 1)), (a127, c128)) hlt138 hh (Sub.pre 1 z)
 ·refine TC.exit (S.x (S.x ?_))
  replace hh := fin_x hR1 hh
  refine TC.exitHere (S.n (TC.a (TL.s z z (TL.isSl (i := 0) z (fun hs139 _ _ => ?_)))))
  refine TL.w z (bytesStr (l := l112) z underlying134 underlying5 underlying9 z hs139 (fun w hw => rdb_row (q := 0) z hw)) (TL.w z (moveStr (.inr z) z) (TL.en (TC.rt 0 ?_)))
  obtain rfl := so hh
  exact rq [2] ⟨z, z, z⟩
noncomputable def intern_store_string_find (x0 : IStore) (x1 : List UInt8) : Option (Int × Bool) :=
 grd (x1.length ≤ 281474976710656) (some ((x0.places.get x1 0), (x0.places.has x1)))
theorem intern_store_string_find_con {σ : Store} {x0 : IStore} {b0_0 : Nat} {Eb0 : Nat} {a0_1 : Option Addr} {c0_2 : Nat} {z0_3 : List (List Int × (pkSl 1 Go.E.encI Go.E.encI_len).P)} {b0_5 : Nat} {x1 : List UInt8} (zf0_4 : ZOk σ (pkSl 1 Go.E.encI Go.E.encI_len) z0_3 x0.rows) {r : Int × Bool} (hh : intern_store_string_find x0 x1 = some r) :
  Con Tryz.prog 80 #[loc b0_0 0, .string (bs x1)] σ [Res.cells b0_0 #[.slice a0_1 x0.rows.length c0_2, .map (some b0_5)] Eb0, Res.rowS 46 1 (pkSl 1 Go.E.encI Go.E.encI_len).en (.slice a0_1 x0.rows.length c0_2) z0_3, Res.mapB keyS keyI (some b0_5) x0.places] (fun v σ' H' => v = .tuple #[.int .i64 r.1, .bool r.2] ∧ σ = σ' ∧ H' = [Res.cells b0_0 #[.slice a0_1 x0.rows.length c0_2, .map (some b0_5)] Eb0, Res.rowS 46 1 (pkSl 1 Go.E.encI Go.E.encI_len).en (.slice a0_1 x0.rows.length c0_2) z0_3, Res.mapB keyS keyI (some b0_5) x0.places]) := by
 dsimp only [intern_store_string_find] at hh
 have zf0_4b := zf0_4.length
 refine Con.mk (n := 19) Tryz.func80 z z z (fun w0 => ?_)
 have x1b := grd_c hh
 replace hh := grd_t hh
 refine TC.a (TL.i z z (TL.j z z (TL.en (TC.a (TL.l z z (TL.w z (nilCheckLoc z z) (TL.w z (fieldLoc z fo150_1 z) (TL.w z (loadLoc z ag143 z (i := 0) z z) (TL.w z (moveStr (.inl z) z) (TL.w z (OpVal.of (lookB 0 (q := x1) z underlying143 ze3 z (i := 2) z z (keyL_str underlying9)) (v' := .tuple #[.int .i64 (x0.places.get x1 0), .bool (x0.places.has x1)]) z) (TL.w z (moveT (.inl z) z) (TL.w z (OpVal.extract z z z) (TL.w z (OpVal.extract z z z) (TL.i z z (TL.j z z (TL.en (TC.a (TL.i z z (TL.j z z (TL.i z z (TL.j z z (TL.en (TC.ret ?_)))))))))))))))))))))))
 obtain rfl := so hh
 exact ro [Res.cells b0_0 #[.slice a0_1 x0.rows.length c0_2, .map (some b0_5)] Eb0, Res.rowS 46 1 (pkSl 1 Go.E.encI Go.E.encI_len).en (.slice a0_1 x0.rows.length c0_2) z0_3, Res.mapB keyS keyI (some b0_5) x0.places] z (RVs.tmp z (RVs.tmp z RVs.nil)) ⟨z, z, z⟩
noncomputable def intern_store_string_add (x0 : IStore) (x1 : List UInt8) (x2 : List Int) : Option (Int × IStore) :=
 grd (x1.length ≤ 281474976710656) (grd ((x0.rows.length + [x2].length) * 24 ≤ 140737488355328) (some (((x0.rows.length : Nat) : Int), (⟨(x0.rows ++ [x2]), (x0.places.put x1 ((x0.rows.length : Nat) : Int))⟩ : IStore))))
theorem intern_store_string_add_con {σ : Store} {x0 : IStore} {b0_0 : Nat} {Eb0 : Nat} {a0_1 : Option Addr} {c0_2 : Nat} {z0_3 : List (List Int × (pkSl 1 Go.E.encI Go.E.encI_len).P)} {b0_5 : Nat} {x1 : List UInt8} {x2 : List Int} {a2_0 : Option Addr} {c2_0 : Nat} (zf0_4 : ZOk σ (pkSl 1 Go.E.encI Go.E.encI_len) z0_3 x0.rows) (f2_0 : RS σ 1 Go.E.encI (.slice a2_0 x2.length c2_0) x2) {r : Int × IStore} (hh : intern_store_string_add x0 x1 x2 = some r) :
  Con Tryz.prog 81 #[loc b0_0 0, .string (bs x1), .slice a2_0 x2.length c2_0] σ [Res.cells b0_0 #[.slice a0_1 x0.rows.length c0_2, .map (some b0_5)] Eb0, Res.rowS 46 1 (pkSl 1 Go.E.encI Go.E.encI_len).en (.slice a0_1 x0.rows.length c0_2) z0_3, Res.mapB keyS keyI (some b0_5) x0.places] (fun v σ' H' => ∃ (ao1 : Option Addr), ∃ (co2 : Nat), ∃ (zo3 : List (List Int × (pkSl 1 Go.E.encI Go.E.encI_len).P)), ∃ (bo5 : Nat), v = .int .i64 r.1 ∧ ZOk σ' (pkSl 1 Go.E.encI Go.E.encI_len) zo3 r.2.rows ∧ H' = [Res.cells b0_0 #[.slice ao1 r.2.rows.length co2, .map (some bo5)] Eb0, Res.rowS 46 1 (pkSl 1 Go.E.encI Go.E.encI_len).en (.slice ao1 r.2.rows.length co2) zo3, Res.mapB keyS keyI (some bo5) r.2.places]) := by
 dsimp only [intern_store_string_add] at hh
 have zf0_4b := zf0_4.length
 have f2_0b := f2_0.rv.big
 refine Con.mk (n := 30) Tryz.func81 z z z (fun w0 => ?_)
 have x1b := grd_c hh
 replace hh := grd_t hh
 refine TC.a (TL.i z z (TL.en (TC.a (TL.l z z (TL.w z (nilCheckLoc z z) (TL.w z (fieldLoc z fo150_0 z) (TL.w z (loadLoc z ag47 z (i := 0) z z) (TL.w z (lenC z underlying47 z) (TL.i z z (TL.en (TC.a (TL.l z z (TL.l z z (TL.w z (nilCheckLoc z z) (TL.w z (fieldLoc z fo150_0 z) (TL.w z (loadLoc z ag47 z (i := 0) z z) (TL.s z z ?_)))))))))))))))))
 have zf108 : ZOk _ (pkSl 1 Go.E.encI Go.E.encI_len) ([(x2, (a2_0, c2_0))] : List (List Int × (pkSl 1 Go.E.encI Go.E.encI_len).P)) [x2] := ZOk.cons (f2_0) (ZOk.nil _ _)
 refine TL.op z (litZ zf108 z underlying47 sz46 z ze46 z z z (by decide) (by decide) z (by decide) z (by decide) (fun a106 c107 => ?_))
 refine TL.front 2 z z ?_
 have u15 := grd_c hh
 replace hh := grd_t hh
 refine TL.op z (appendZ (k := (pkSl 1 Go.E.encI Go.E.encI_len)) zf0_4 zf108 z z underlying47 sz46 by46 ze46 z z (by decide) z z z (.inr ⟨_, 0, z⟩) (by simpa using u15) (by decide) (fun a110 c111 zf112 => ?_))
 refine TL.w z (nilCheckLoc z z) (TL.w z (fieldLoc z fo150_0 z) (TL.front 2 z z (TL.op z (storeSl z sz47 z z z z z ?_))))
 refine TL.en (TC.a (TL.l z z (TL.w z (nilCheckLoc z z) (TL.w z (fieldLoc z fo150_1 z) (TL.w z (loadLoc z ag143 z (i := 0) z z) (TL.w z (moveStr (.inl z) z) (TL.i z z (TL.front 3 z z (TL.op z (updB x1 ((x0.rows.length : Nat) : Int) z underlying143 z z z z (keyL_str underlying9) ?_))))))))))
 refine TL.en (TC.a (TL.i z z (TL.i z z (TL.en (TC.ofSub (Sub.f [2, 2] 3) (TC.ret ?_))))))
 obtain rfl := so hh
 exact ro [Res.cells b0_0 #[.slice a110 ((x0.rows ++ [x2]).length) c111, .map (some b0_5)] Eb0, Res.rowS 46 1 (pkSl 1 Go.E.encI Go.E.encI_len).en (.slice a110 (x0.rows ++ [x2]).length c111) (z0_3 ++ ([(x2, (a2_0, c2_0))] : List (List Int × (pkSl 1 Go.E.encI Go.E.encI_len).P))), Res.mapB keyS keyI (some b0_5) (x0.places.put x1 ((x0.rows.length : Nat) : Int))] z (RVs.tmp z RVs.nil) ⟨a110, c111, (z0_3 ++ ([(x2, (a2_0, c2_0))] : List (List Int × (pkSl 1 Go.E.encI Go.E.encI_len).P))), b0_5, z, zf112, z⟩
noncomputable def intern_New : Option (ITable) :=
 some (⟨(⟨([] : List (List Int)), (FM.emp : FM (List UInt8) Int)⟩ : IStore)⟩ : ITable)
theorem intern_New_con {σ : Store}   {r : ITable} (hh : intern_New = some r) :
  Con Tryz.prog 42 #[] σ [] (fun v σ' H' => ∃ (br6 : Nat), ∃ (ar1 : Option Addr), ∃ (cr2 : Nat), ∃ (zr3 : List (List Int × (pkSl 1 Go.E.encI Go.E.encI_len).P)), ∃ (br5 : Nat), v = loc br6 0 ∧ ZOk σ' (pkSl 1 Go.E.encI Go.E.encI_len) zr3 r.of.rows ∧ H' = [Res.cells br6 #[.slice ar1 r.of.rows.length cr2, .map (some br5)] 152, Res.rowS 46 1 (pkSl 1 Go.E.encI Go.E.encI_len).en (.slice ar1 r.of.rows.length cr2) zr3, Res.mapB keyS keyI (some br5) r.of.places]) := by
 dsimp only [intern_New] at hh
 refine Con.mk (n := 5) Tryz.func42 z z z (fun w0 => ?_)
 refine TC.a (TL.w z (movePtr (.inr z) z) (TL.en (TC.a (TL.op z (makeMapB (enc := keyS) (encV := keyI) z z z (fun b104 => ?_))))))
 refine TL.w z (buildL z pl150 ze150 z) (TL.w z (buildL z pl152 ze152 z) (TL.op z (boxA z z z z (fun b106 => ?_))))
 refine TL.l z z (TL.en (TC.nilS 46 1 (pkSl 1 Go.E.encI Go.E.encI_len).en ?_))
 have zf108 := ZOk.nil σ (pkSl 1 Go.E.encI Go.E.encI_len)
 refine TC.ofSub (Sub.f [2, 1, 2] 3) (TC.ret ?_)
 obtain rfl := so hh
 exact ro [Res.cells b106 #[.slice none (([] : List (List Int)).length) 0, .map (some b104)] 152, Res.rowS 46 1 (pkSl 1 Go.E.encI Go.E.encI_len).en (.slice none ([] : List (List Int)).length 0) [], Res.mapB keyS keyI (some b104) (FM.emp : FM (List UInt8) Int)] z (RVs.tmp z RVs.nil) ⟨b106, none, 0, [], b104, z, zf108, z⟩
noncomputable def intern_Table_Put (x0 : ITable) (x1 : List Int) : Option (Int × Bool × Int × ITable) :=
 bnd (intern_Sort x1) (fun v10 => bnd (intern_key v10) (fun v13 => bnd (intern_store_string_find (⟨x0.of.rows, x0.of.places⟩ : IStore) v13) (fun v19 => iteO v19.2 (some (v19.1, false, 0, (⟨(⟨x0.of.rows, x0.of.places⟩ : IStore)⟩ : ITable))) (iteO (decide (4096 ≤ ((x0.of.rows.length : Nat) : Int))) (some (0, false, 2, (⟨(⟨x0.of.rows, x0.of.places⟩ : IStore)⟩ : ITable))) (bnd (intern_store_string_add (⟨x0.of.rows, x0.of.places⟩ : IStore) v13 v10) (fun v45 => some (v45.1, true, 0, (⟨(⟨v45.2.rows, v45.2.places⟩ : IStore)⟩ : ITable))))))))
theorem intern_Table_Put_con {σ : Store} {x0 : ITable} {b0_0 : Nat} {Eb0 : Nat} {a0_1 : Option Addr} {c0_2 : Nat} {z0_3 : List (List Int × (pkSl 1 Go.E.encI Go.E.encI_len).P)} {b0_5 : Nat} {x1 : List Int} {a1_0 : Option Addr} {c1_0 : Nat} (zf0_4 : ZOk σ (pkSl 1 Go.E.encI Go.E.encI_len) z0_3 x0.of.rows) (f1_0 : RS σ 1 Go.E.encI (.slice a1_0 x1.length c1_0) x1) {r : Int × Bool × Int × ITable} (hh : intern_Table_Put x0 x1 = some r) :
  Con Tryz.prog 43 #[loc b0_0 0, .slice a1_0 x1.length c1_0] σ [Res.cells b0_0 #[.slice a0_1 x0.of.rows.length c0_2, .map (some b0_5)] Eb0, Res.rowS 46 1 (pkSl 1 Go.E.encI Go.E.encI_len).en (.slice a0_1 x0.of.rows.length c0_2) z0_3, Res.mapB keyS keyI (some b0_5) x0.of.places] (fun v σ' H' => ∃ (ao1 : Option Addr), ∃ (co2 : Nat), ∃ (zo3 : List (List Int × (pkSl 1 Go.E.encI Go.E.encI_len).P)), ∃ (bo5 : Nat), v = .tuple #[.int .i64 r.1, .bool r.2.1, .int .i64 r.2.2.1] ∧ ZOk σ' (pkSl 1 Go.E.encI Go.E.encI_len) zo3 r.2.2.2.of.rows ∧ H' = [Res.cells b0_0 #[.slice ao1 r.2.2.2.of.rows.length co2, .map (some bo5)] Eb0, Res.rowS 46 1 (pkSl 1 Go.E.encI Go.E.encI_len).en (.slice ao1 r.2.2.2.of.rows.length co2) zo3, Res.mapB keyS keyI (some bo5) r.2.2.2.of.places]) := by
 dsimp only [intern_Table_Put] at hh
 have zf0_4b := zf0_4.length
 have f1_0b := f1_0.rv.big
 refine Con.mk (n := 40) Tryz.func43 z z z (fun w0 => ?_)
 refine TC.a (TL.i z z (TL.j z z (TL.i z z (TL.en (TC.seq (TC.a (TL.l z z (TL.w z (eqlNil z underlying106 z z) (TL.en (TC.f z (TC.skip (S.n (TC.a (TL.s z z ?_))))))))))))))
 obtain ⟨v10, u10, hh⟩ := bnd_e hh
 refine TL.op z (OpOk.call (intern_Sort_con f1_0 u10) z z pf78 z z z z ?_)
 rintro _ _ _ hle106 ⟨a106_1, c106_1, rfl, rfl, rfl⟩
 refine TL.s z z (TL.en (TC.a (TL.s z z ?_)))
 obtain ⟨v13, u13, hh⟩ := bnd_e hh
 refine TL.op z (callK (Con.lend Go.E.encI_len (fun _ hle109 hr108 => intern_key_con hr108 u13)) z z pf79 z z z z ?_)
 refine TL.w z (moveStr (.inr z) z) (TL.en (TC.seq (TC.a (TL.l z z (TL.w z (nilCheckLoc z z) (TL.w z (fieldLoc z fo152_0 z) (TL.w z (moveStr (.inl z) z) (TL.front 3 z z (TL.front 3 z z (TL.front 3 z z ?_))))))))))
 obtain ⟨v19, u19, hh⟩ := bnd_e hh
 refine TL.op z (OpOk.call (intern_store_string_find_con zf0_4 u19) z z pf80 z z z z ?_)
 rintro _ _ _ hle110 ⟨rfl, rfl, rfl⟩
 refine TL.w z (moveT (.inl z) z) (TL.w z (OpVal.extract z z z) (TL.w z (OpVal.extract z z z) (TL.i z z (TL.j z z (TL.en (TC.a (TL.j z z (TL.en (TC.cB z hh (fun h111 hh => ?_) (fun h111 hh => ?_))))))))))
 ·refine TC.a (TL.i z z (TL.i z z (TL.j z z (TL.i z z (TL.en (TC.ofSub (Sub.f [2, 2, 2] 3) (TC.ret (S.r ?_))))))))
  obtain rfl := so hh
  exact ro [Res.cells b0_0 #[.slice a0_1 x0.of.rows.length c0_2, .map (some b0_5)] Eb0, Res.rowS 46 1 (pkSl 1 Go.E.encI Go.E.encI_len).en (.slice a0_1 x0.of.rows.length c0_2) z0_3, Res.mapB keyS keyI (some b0_5) x0.of.places] z (RVs.tmp z (RVs.tmp z (RVs.tmp z RVs.nil))) ⟨a0_1, c0_2, z0_3, b0_5, z, zf0_4, z⟩
 ·refine TC.skip (S.n (TC.seq (TC.a (TL.l z z (TL.w z (nilCheckLoc z z) (TL.w z (fieldLoc z fo152_0 z) (TL.w z (fieldLoc z fo150_0 z) (TL.w z (loadLoc z ag47 z (i := 0) z z) (TL.w z (lenC z underlying47 z) (TL.w z (OpVal.geq z z z) (TL.en (TC.cD z hh (fun h112 hh => ?_) (fun h112 hh => ?_)))))))))))))
  ·refine TC.a (TL.i z z (TL.j z z (TL.i z z (TL.en (TC.ofSub (Sub.f [2, 2, 2] 3) (TC.ret (S.r ?_)))))))
   obtain rfl := so hh
   exact ro [Res.cells b0_0 #[.slice a0_1 x0.of.rows.length c0_2, .map (some b0_5)] Eb0, Res.rowS 46 1 (pkSl 1 Go.E.encI Go.E.encI_len).en (.slice a0_1 x0.of.rows.length c0_2) z0_3, Res.mapB keyS keyI (some b0_5) x0.of.places] z (RVs.tmp z (RVs.tmp z (RVs.tmp z RVs.nil))) ⟨a0_1, c0_2, z0_3, b0_5, z, zf0_4, z⟩
  ·refine TC.skip (S.n (TC.a (TL.l z z (TL.w z (nilCheckLoc z z) (TL.w z (fieldLoc z fo152_0 z) (TL.w z (moveStr (.inl z) z) (TL.s z z (TL.front 3 z z (TL.sealS Go.E.encI_len (fun τ115 hle114 hr113 => ?_))))))))))
   replace zf0_4 := zf0_4.mono hle114
   have hr113b := hr113.rv.big
   refine TL.front 2 z z (TL.front 2 z z (TL.front 2 z z ?_))
   obtain ⟨v45, u45, hh⟩ := bnd_e hh
   refine TL.op z (OpOk.call (intern_store_string_add_con zf0_4 hr113 u45) z z pf81 z z z z ?_)
   rintro _ τ116 _ hle116 ⟨a116_1, c116_2, z116_3, b116_5, rfl, zf116_4, rfl⟩
   have zf116_4b := zf116_4.length
   refine TL.i z z (TL.j z z (TL.i z z (TL.en (TC.ret ?_))))
   obtain rfl := so hh
   exact ro [Res.cells b0_0 #[.slice a116_1 v45.2.rows.length c116_2, .map (some b116_5)] Eb0, Res.rowS 46 1 (pkSl 1 Go.E.encI Go.E.encI_len).en (.slice a116_1 v45.2.rows.length c116_2) z116_3, Res.mapB keyS keyI (some b116_5) v45.2.places] z (RVs.tmp z (RVs.tmp z (RVs.tmp z RVs.nil))) ⟨a116_1, c116_2, z116_3, b116_5, z, zf116_4, z⟩
noncomputable def intern_Table_Row (x0 : ITable) (x1 : Int) : Option ((List Int) × Int) :=
 iteO (decide (x1 < 0)) (some (([] : List Int), 1)) (iteO (decide (((x0.of.rows.length : Nat) : Int) ≤ x1)) (some (([] : List Int), 1)) (grd (0 ≤ x1 ∧ x1 < (x0.of.rows.length : Int)) (grd ((nth x0.of.rows x1.toNat ([] : List Int)).length * 8 ≤ 140737488355328) (some ((nth x0.of.rows x1.toNat ([] : List Int)), 0)))))
theorem intern_Table_Row_con {σ : Store} {x0 : ITable} {b0_0 : Nat} {Eb0 : Nat} {a0_1 : Option Addr} {c0_2 : Nat} {z0_3 : List (List Int × (pkSl 1 Go.E.encI Go.E.encI_len).P)} {b0_5 : Nat} {x1 : Int} (zf0_4 : ZOk σ (pkSl 1 Go.E.encI Go.E.encI_len) z0_3 x0.of.rows) {r : (List Int) × Int} (hh : intern_Table_Row x0 x1 = some r) :
  Con Tryz.prog 45 #[loc b0_0 0, .int .i64 x1] σ [Res.cells b0_0 #[.slice a0_1 x0.of.rows.length c0_2, .map (some b0_5)] Eb0, Res.rowS 46 1 (pkSl 1 Go.E.encI Go.E.encI_len).en (.slice a0_1 x0.of.rows.length c0_2) z0_3, Res.mapB keyS keyI (some b0_5) x0.of.places] (fun v σ' H' => ∃ (a1 : Option Addr), ∃ (c1 : Nat), v = .tuple #[.slice a1 r.1.length c1, .int .i64 r.2] ∧ σ = σ' ∧ H' = [Res.rowS 3 1 Go.E.encI (.slice a1 r.1.length c1) r.1, Res.cells b0_0 #[.slice a0_1 x0.of.rows.length c0_2, .map (some b0_5)] Eb0, Res.rowS 46 1 (pkSl 1 Go.E.encI Go.E.encI_len).en (.slice a0_1 x0.of.rows.length c0_2) z0_3, Res.mapB keyS keyI (some b0_5) x0.of.places]) := by
 dsimp only [intern_Table_Row] at hh
 have zf0_4b := zf0_4.length
 refine Con.mk (n := 29) Tryz.func45 z z z (fun w0 => ?_)
 refine TC.a (TL.s z z (TL.i z z (TL.en (TC.seq (TC.a (TL.l z z (TL.w z (eqlNil z underlying106 z z) (TL.en (TC.f z (TC.skip (S.n (TC.seq (TC.a (TL.i z z (TL.w z (OpVal.lss z z z) (TL.j z z (TL.split 10 z (fun h104 => ?_) (fun h104 => ?_))))))))))))))))))
 ·replace hh := iteO_t h104 hh
  replace h104 := of_decide_eq_true h104
  refine TL.f z (TL.f z (TL.f z (TL.f z (TL.f z (TL.f z (TL.f z (TL.f z (TL.w z (pickTB z z z) (TL.en (TC.t z (TC.a (TL.s z z (TL.i z z (TL.en (TC.nilS 3 1 Go.E.encI (TC.ret (S.r ?_)))))))))))))))))
  obtain rfl := so hh
  exact ro [Res.rowS 3 1 Go.E.encI (.slice none ([] : List Int).length 0) ([] : List Int), Res.cells b0_0 #[.slice a0_1 x0.of.rows.length c0_2, .map (some b0_5)] Eb0, Res.rowS 46 1 (pkSl 1 Go.E.encI Go.E.encI_len).en (.slice a0_1 x0.of.rows.length c0_2) z0_3, Res.mapB keyS keyI (some b0_5) x0.of.places] z (RVs.tmp z (RVs.tmp z RVs.nil)) ⟨none, 0, z, z, z⟩
 ·replace hh := iteO_f h104 hh
  replace h104 := of_decide_eq_false h104
  refine TL.g z (moveI (.inl z) z) (TL.g z (moveLoc (.inl z) z) (TL.g z (nilCheckLoc z z) (TL.g z (fieldLoc z fo152_0 z) (TL.g z (fieldLoc z fo150_0 z) (TL.g z (loadLoc z ag47 z (i := 0) z z) (TL.g z (lenC z underlying47 z) (TL.g z (OpVal.geq z z z) (TL.w z (pickFB z z z) (TL.en (TC.cD z hh (fun h106 hh => ?_) (fun h106 hh => ?_)))))))))))
  ·refine TC.a (TL.s z z (TL.i z z (TL.en (TC.nilS 3 1 Go.E.encI (TC.ret (S.r ?_))))))
   obtain rfl := so hh
   exact ro [Res.rowS 3 1 Go.E.encI (.slice none ([] : List Int).length 0) ([] : List Int), Res.cells b0_0 #[.slice a0_1 x0.of.rows.length c0_2, .map (some b0_5)] Eb0, Res.rowS 46 1 (pkSl 1 Go.E.encI Go.E.encI_len).en (.slice a0_1 x0.of.rows.length c0_2) z0_3, Res.mapB keyS keyI (some b0_5) x0.of.places] z (RVs.tmp z (RVs.tmp z RVs.nil)) ⟨none, 0, z, z, z⟩
  ·refine TC.skip (S.n (TC.a (TL.l z z (TL.w z (nilCheckLoc z z) (TL.w z (fieldLoc z fo152_0 z) (TL.w z (fieldLoc z fo150_0 z) (TL.w z (loadLoc z ag47 z (i := 0) z z) (TL.i z z ?_))))))))
   have u27 := grd_c hh
   replace hh := grd_t hh
   refine TL.isSl (i := 1) z (fun hs108 _ _ => ?_)
   refine TL.w z (OpVal.index z underlying47 sz46 z z (zf0_4.isSl hs108) u27.1 u27.2) ?_
   obtain ⟨p109, hp109⟩ : ∃ p, p = (nth z0_3 x1.toNat ((pkSl 1 Go.E.encI Go.E.encI_len).d, (pkSl 1 Go.E.encI Go.E.encI_len).dp)).2 := ⟨_, rfl⟩
   have hk109 : RS σ 1 Go.E.encI (.slice p109.1 (nth x0.of.rows x1.toNat ([] : List Int)).length p109.2) (nth x0.of.rows x1.toNat ([] : List Int)) := by rw [hp109]; exact (zf0_4.at (by omega)).2
   refine TL.w z (OpVal.of (hp109 ▸ loadOZ1 zf0_4 z ag46 z (q := 1) z (by omega) z) (v' := .slice p109.1 ((nth x0.of.rows x1.toNat ([] : List Int)).length) p109.2) z) ?_
   have u29 := grd_c hh
   replace hh := grd_t hh
   refine TL.op z (OpOk.call (Gh_ hk109 u29) z z pf82 z z z z ?_)
   rintro _ _ _ _ ⟨⟨a110, c111, rfl⟩, rfl, rfl⟩
   refine TL.s z z (TL.i z z (TL.en (TC.ret ?_)))
   obtain rfl := so hh
   exact ro [Res.rowS 3 1 Go.E.encI (.slice a110 (nth x0.of.rows x1.toNat ([] : List Int)).length c111) (nth x0.of.rows x1.toNat ([] : List Int)), Res.cells b0_0 #[.slice a0_1 x0.of.rows.length c0_2, .map (some b0_5)] Eb0, Res.rowS 46 1 (pkSl 1 Go.E.encI Go.E.encI_len).en (.slice a0_1 x0.of.rows.length c0_2) z0_3, Res.mapB keyS keyI (some b0_5) x0.of.places] z (RVs.tmp z (RVs.tmp z RVs.nil)) ⟨a110, c111, z, z, z⟩
noncomputable def putKeep (x0 : ITable) (x1 : List Int) : Option (Int × Bool × Int × ITable) :=
 bnd (intern_Sort x1) (fun v10 => bnd (intern_key v10) (fun v13 => bnd (intern_store_string_find (⟨x0.of.rows, x0.of.places⟩ : IStore) v13) (fun v19 => iteO v19.2 (some (v19.1, false, 0, (⟨(⟨x0.of.rows, x0.of.places⟩ : IStore)⟩ : ITable))) (iteO (decide (4096 ≤ ((x0.of.rows.length : Nat) : Int))) (some (0, false, 2, (⟨(⟨x0.of.rows, x0.of.places⟩ : IStore)⟩ : ITable))) (bnd (intern_store_string_add (⟨x0.of.rows, x0.of.places⟩ : IStore) v13 v10) (fun v45 => some (v45.1, true, 0, (⟨(⟨v45.2.rows, v45.2.places⟩ : IStore)⟩ : ITable))))))))
theorem putKeep_con {σ : Store} {x0 : ITable} {b0_0 : Nat} {Eb0 : Nat} {a0_1 : Option Addr} {c0_2 : Nat} {z0_3 : List (List Int × (pkSl 1 Go.E.encI Go.E.encI_len).P)} {b0_5 : Nat} {x1 : List Int} {a1_1 : Option Addr} {c1_2 : Nat} (zf0_4 : ZOk σ (pkSl 1 Go.E.encI Go.E.encI_len) z0_3 x0.of.rows) {r : Int × Bool × Int × ITable} (hh : putKeep x0 x1 = some r) :
  Con Tryz.prog 43 #[loc b0_0 0, .slice a1_1 x1.length c1_2] σ [Res.cells b0_0 #[.slice a0_1 x0.of.rows.length c0_2, .map (some b0_5)] Eb0, Res.rowS 46 1 (pkSl 1 Go.E.encI Go.E.encI_len).en (.slice a0_1 x0.of.rows.length c0_2) z0_3, Res.mapB keyS keyI (some b0_5) x0.of.places, Res.rowS 3 1 Go.E.encI (.slice a1_1 x1.length c1_2) x1] (fun v σ' H' => ∃ (ao1 : Option Addr), ∃ (co2 : Nat), ∃ (zo3 : List (List Int × (pkSl 1 Go.E.encI Go.E.encI_len).P)), ∃ (bo5 : Nat), v = .tuple #[.int .i64 r.1, .bool r.2.1, .int .i64 r.2.2.1] ∧ ZOk σ' (pkSl 1 Go.E.encI Go.E.encI_len) zo3 r.2.2.2.of.rows ∧ H' = [Res.cells b0_0 #[.slice ao1 r.2.2.2.of.rows.length co2, .map (some bo5)] Eb0, Res.rowS 46 1 (pkSl 1 Go.E.encI Go.E.encI_len).en (.slice ao1 r.2.2.2.of.rows.length co2) zo3, Res.mapB keyS keyI (some bo5) r.2.2.2.of.places, Res.rowS 3 1 Go.E.encI (.slice a1_1 x1.length c1_2) x1]) := by
 dsimp only [putKeep] at hh
 have zf0_4b := zf0_4.length
 refine Con.mk (n := 40) Tryz.func43 z z z (fun w0 => ?_)
 refine TC.a (TL.i z z (TL.j z z (TL.i z z (TL.en (TC.seq (TC.a (TL.l z z (TL.w z (eqlNil z underlying106 z z) (TL.en (TC.f z (TC.skip (S.n (TC.a (TL.s z z (TL.front 3 z z ?_)))))))))))))))
 obtain ⟨v10, u10, hh⟩ := bnd_e hh
 refine TL.op rfl (OpOk.call (Con.lendG (Post := fun τ => intern_Sort_P τ v10) Go.E.encI_len (by rintro τ τ' r σ' H' ⟨g0, g1, rfl, rfl, rfl⟩; exact ⟨rfl, g0, g1, rfl, rfl, rfl⟩) (fun _ hle_ hr_ => intern_Sort_con hr_ u10)) rfl rfl pf78 rfl rfl rfl rfl ?_)
 rintro _ _ _ hle107 ⟨_, ⟨a107_1, c107_1, rfl, rfl, rfl⟩, rfl⟩
 refine TL.s z z (TL.en (TC.a (TL.s z z ?_)))
 obtain ⟨v13, u13, hh⟩ := bnd_e hh
 refine TL.op z (callK (Con.lend Go.E.encI_len (fun _ hle110 hr109 => intern_key_con hr109 u13)) z z pf79 z z z z ?_)
 refine TL.w z (moveStr (.inr z) z) (TL.en (TC.seq (TC.a (TL.l z z (TL.w z (nilCheckLoc z z) (TL.w z (fieldLoc z fo152_0 z) (TL.w z (moveStr (.inl z) z) (TL.front 4 z z (TL.front 4 z z (TL.front 4 z z ?_))))))))))
 obtain ⟨v19, u19, hh⟩ := bnd_e hh
 refine TL.op z (OpOk.call (intern_store_string_find_con zf0_4 u19) z z pf80 z z z z ?_)
 rintro _ _ _ hle111 ⟨rfl, rfl, rfl⟩
 refine TL.w z (moveT (.inl z) z) (TL.w z (OpVal.extract z z z) (TL.w z (OpVal.extract z z z) (TL.i z z (TL.j z z (TL.en (TC.a (TL.j z z (TL.en (TC.cB z hh (fun h112 hh => ?_) (fun h112 hh => ?_))))))))))
 ·refine TC.a (TL.i z z (TL.i z z (TL.j z z (TL.i z z (TL.en (TC.ofSub (Sub.f [4, 3, 3, 3] 4) (TC.ret (S.r ?_))))))))
  obtain rfl := so hh
  exact ro [Res.cells b0_0 #[.slice a0_1 x0.of.rows.length c0_2, .map (some b0_5)] Eb0, Res.rowS 46 1 (pkSl 1 Go.E.encI Go.E.encI_len).en (.slice a0_1 x0.of.rows.length c0_2) z0_3, Res.mapB keyS keyI (some b0_5) x0.of.places, Res.rowS 3 1 Go.E.encI (.slice a1_1 x1.length c1_2) x1] z (RVs.tmp z (RVs.tmp z (RVs.tmp z RVs.nil))) ⟨a0_1, c0_2, z0_3, b0_5, z, zf0_4, z⟩
 ·refine TC.skip (S.n (TC.seq (TC.a (TL.l z z (TL.w z (nilCheckLoc z z) (TL.w z (fieldLoc z fo152_0 z) (TL.w z (fieldLoc z fo150_0 z) (TL.w z (loadLoc z ag47 z (i := 0) z z) (TL.w z (lenC z underlying47 z) (TL.w z (OpVal.geq z z z) (TL.en (TC.cD z hh (fun h113 hh => ?_) (fun h113 hh => ?_)))))))))))))
  ·refine TC.a (TL.i z z (TL.j z z (TL.i z z (TL.en (TC.ofSub (Sub.f [4, 3, 3, 3] 4) (TC.ret (S.r ?_)))))))
   obtain rfl := so hh
   exact ro [Res.cells b0_0 #[.slice a0_1 x0.of.rows.length c0_2, .map (some b0_5)] Eb0, Res.rowS 46 1 (pkSl 1 Go.E.encI Go.E.encI_len).en (.slice a0_1 x0.of.rows.length c0_2) z0_3, Res.mapB keyS keyI (some b0_5) x0.of.places, Res.rowS 3 1 Go.E.encI (.slice a1_1 x1.length c1_2) x1] z (RVs.tmp z (RVs.tmp z (RVs.tmp z RVs.nil))) ⟨a0_1, c0_2, z0_3, b0_5, z, zf0_4, z⟩
  ·refine TC.skip (S.n (TC.a (TL.l z z (TL.w z (nilCheckLoc z z) (TL.w z (fieldLoc z fo152_0 z) (TL.w z (moveStr (.inl z) z) (TL.s z z (TL.front 3 z z (TL.sealS Go.E.encI_len (fun τ116 hle115 hr114 => ?_))))))))))
   replace zf0_4 := zf0_4.mono hle115
   have hr114b := hr114.rv.big
   refine TL.front 2 z z (TL.front 2 z z (TL.front 2 z z ?_))
   obtain ⟨v45, u45, hh⟩ := bnd_e hh
   refine TL.op z (OpOk.call (intern_store_string_add_con zf0_4 hr114 u45) z z pf81 z z z z ?_)
   rintro _ τ117 _ hle117 ⟨a117_1, c117_2, z117_3, b117_5, rfl, zf117_4, rfl⟩
   have zf117_4b := zf117_4.length
   refine TL.i z z (TL.j z z (TL.i z z (TL.en (TC.ret ?_))))
   obtain rfl := so hh
   exact ro [Res.cells b0_0 #[.slice a117_1 v45.2.rows.length c117_2, .map (some b117_5)] Eb0, Res.rowS 46 1 (pkSl 1 Go.E.encI Go.E.encI_len).en (.slice a117_1 v45.2.rows.length c117_2) z117_3, Res.mapB keyS keyI (some b117_5) v45.2.places, Res.rowS 3 1 Go.E.encI (.slice a1_1 x1.length c1_2) x1] z (RVs.tmp z (RVs.tmp z (RVs.tmp z RVs.nil))) ⟨a117_1, c117_2, z117_3, b117_5, z, zf117_4, z⟩
noncomputable def intern_Table_Size (x0 : ITable) : Option (Int) :=
 some ((x0.of.rows.length : Nat) : Int)
theorem intern_Table_Size_con {σ : Store} {x0 : ITable} {b0_0 : Nat} {Eb0 : Nat} {a0_1 : Option Addr} {c0_2 : Nat} {z0_3 : List (List Int × (pkSl 1 Go.E.encI Go.E.encI_len).P)} {b0_5 : Nat} (zf0_4 : ZOk σ (pkSl 1 Go.E.encI Go.E.encI_len) z0_3 x0.of.rows) {r : Int} (hh : intern_Table_Size x0 = some r) :
  Con Tryz.prog 44 #[loc b0_0 0] σ [Res.cells b0_0 #[.slice a0_1 x0.of.rows.length c0_2, .map (some b0_5)] Eb0, Res.rowS 46 1 (pkSl 1 Go.E.encI Go.E.encI_len).en (.slice a0_1 x0.of.rows.length c0_2) z0_3, Res.mapB keyS keyI (some b0_5) x0.of.places] (fun v σ' H' => v = .int .i64 r ∧ σ = σ' ∧ H' = [Res.cells b0_0 #[.slice a0_1 x0.of.rows.length c0_2, .map (some b0_5)] Eb0, Res.rowS 46 1 (pkSl 1 Go.E.encI Go.E.encI_len).en (.slice a0_1 x0.of.rows.length c0_2) z0_3, Res.mapB keyS keyI (some b0_5) x0.of.places]) := by
 dsimp only [intern_Table_Size] at hh
 have zf0_4b := zf0_4.length
 refine Con.mk (n := 11) Tryz.func44 z z z (fun w0 => ?_)
 refine TC.a (TL.i z z (TL.en (TC.seq (TC.a (TL.l z z (TL.w z (eqlNil z underlying106 z z) (TL.en (TC.f z (TC.skip (S.n (TC.a (TL.l z z (TL.w z (nilCheckLoc z z) (TL.w z (fieldLoc z fo152_0 z) (TL.w z (fieldLoc z fo150_0 z) (TL.w z (loadLoc z ag47 z (i := 0) z z) (TL.w z (lenC z underlying47 z) (TL.i z z (TL.en (TC.ret ?_))))))))))))))))))))
 obtain rfl := so hh
 exact ro [Res.cells b0_0 #[.slice a0_1 x0.of.rows.length c0_2, .map (some b0_5)] Eb0, Res.rowS 46 1 (pkSl 1 Go.E.encI Go.E.encI_len).en (.slice a0_1 x0.of.rows.length c0_2) z0_3, Res.mapB keyS keyI (some b0_5) x0.of.places] z (RVs.tmp z RVs.nil) ⟨z, z, z⟩
end Go.Proofs.YtamgjehhjkgelaaGreatDoor
end

section
namespace Go.Proofs.YtamgjehhjkgelaaGreatDoor
open Go Go.E
theorem edge_con (σ : Store) (b c : Nat) (a : Option Addr) (l : List Arrow) (f t : Int) (s : BSet) (hsz : l.length ≤ 1000000000) :
    Con Tryz.prog 61 #[loc b 0, .int .i64 f, .int .i64 t, setV s] σ [Res.cells b #[.slice a l.length c] 132, Res.rowS 58 6 encE (.slice a l.length c) l] (EdgeP 132 58 b l ⟨f, t, s⟩ σ) := by
  refine Con.mk (n := 21) Tryz.func61 rfl rfl rfl (fun w0 => ?_)
  refine TC.seq ?_
  refine TC.region ?_
  refine TL.op rfl (OpOk.boxA rfl rfl rfl rfl (fun b1 => ?_))
  refine TL.nil ?_
  refine S.n ?_
  refine TC.draw [10, 11, 12, 13] (by kernel_rfl) ?_
  refine TA.takeP 0 rfl (by kernel_rfl) (by kernel_rfl) (by kernel_rfl) rfl (OpVal.moveLoc (.inl rfl) rfl) rfl rfl ?_
  refine TA.takeP 1 rfl (by kernel_rfl) (by kernel_rfl) (by kernel_rfl) rfl (OpVal.moveLoc (.inl rfl) rfl) rfl rfl ?_
  refine TA.takeP 2 rfl (by kernel_rfl) (by kernel_rfl) (by kernel_rfl) rfl (OpVal.nilCheckLoc rfl rfl) rfl rfl ?_
  refine TA.takeP 3 rfl (by kernel_rfl) (by kernel_rfl) (by kernel_rfl) rfl (OpVal.fieldLoc rfl fo132_0 rfl) rfl rfl ?_
  refine TA.take 4 rfl (by kernel_rfl) (by kernel_rfl) (by kernel_rfl) (by kernel_rfl) rfl (OpVal.loadLoc rfl ag59 rfl (i := 1) rfl rfl) rfl rfl ?_
  refine TA.takeP 5 rfl (by kernel_rfl) (by kernel_rfl) (by kernel_rfl) rfl (OpVal.moveI (.inl rfl) rfl) rfl rfl ?_
  refine TA.takeP 6 rfl (by kernel_rfl) (by kernel_rfl) (by kernel_rfl) rfl (OpVal.moveI (.inl rfl) rfl) rfl rfl ?_
  refine TA.take 7 rfl (by kernel_rfl) (by kernel_rfl) (by kernel_rfl) (by kernel_rfl) rfl (OpVal.loadAll rfl ag55 sz55 rfl (i := 0) rfl rfl) rfl rfl ?_
  refine TA.takeP 8 rfl (by kernel_rfl) (by kernel_rfl) (by kernel_rfl) rfl (OpVal.buildL rfl pl58 ze58 rfl) rfl rfl ?_
  refine TA.act 9 (by kernel_rfl) rfl rfl (OpOk.lit (enc := encE) [⟨f, t, s⟩] rfl Tryz.underlying59 sz58 ze58 rfl rfl rfl encE_len (by decide) (by decide) Arrow.zero rfl (by decide) rfl (by decide) encE_one (fun a3 c4 => ⟨(fun w h => sees_of (by first | exact Store.le.refl _ | assumption) (fun r hr => (List.mem_cons_of_mem _ hr)) w h), ?_⟩))
  refine TA.front 3 rfl rfl ?_
  refine TA.last 10 (by kernel_rfl) rfl rfl rfl (OpOk.appendS rfl rfl Tryz.underlying59 sz58 by58 ze58 rfl rfl (by decide) rfl rfl rfl (.inr ⟨_, 0, rfl⟩) (by (try simp only [List.length_cons, List.length_nil, List.length_append]); omega) (by decide) (fun a6 c7 => ?_))
  refine TZ.v 11 (by kernel_rfl) rfl rfl rfl (OpVal.nilCheckLoc rfl rfl) rfl rfl ?_
  refine TZ.v 12 (by kernel_rfl) rfl rfl rfl (OpVal.fieldLoc rfl fo132_0 rfl) rfl rfl ?_
  refine TZ.front 3 rfl rfl ?_
  refine TZ.last 13 (by kernel_rfl) rfl rfl rfl (OpOk.storeSl rfl sz59 rfl rfl rfl rfl rfl ?_)
  refine TZ.done (by kernel_rfl) ?_
  -- leaf 1 end [] H=['q0', 'r0', 'q5', 'q2']
  exact retE (by simp) rfl
def setE (s : BSet) : List Arrow := if s = BSet.zero then [] else [⟨0, 1, s⟩]
def setN (s : BSet) : Nfa := ⟨2, [0], [1], setE s⟩
theorem setE_ok {s : BSet} (h : s.ok) : ∀ x ∈ setE s, x.set.ok := by
  intro x hx
  unfold setE at hx
  split at hx
  · simp at hx
  · simp at hx; subst hx; exact h
theorem G8_ (σ : Store) (s : BSet) (hs : s.ok) : Con Tryz.prog 27 #[setV s] σ [] (NfaR1 (setN s)) := by
  refine Con.mk (n := 19) Tryz.func27 rfl rfl rfl (fun w0 => ?_)
  refine TC.seq ?_
  refine TC.region ?_
  refine TL.op rfl (OpOk.boxA rfl rfl rfl rfl (fun b1 => ?_))
  refine TL.op rfl (OpOk.alloc rfl ze61 rfl rfl (fun b3 => ?_))
  refine TL.nil ?_
  refine S.n ?_
  refine TC.seq ?_
  refine TC.region ?_
  refine TL.v rfl (OpVal.buildL rfl pl132 ze132 rfl) rfl rfl ?_
  refine TL.op rfl (OpOk.boxA rfl rfl rfl rfl (fun b5 => ?_))
  refine TL.nilS 58 6 encE ?_
  refine TL.v rfl (OpVal.moveLoc (.inr rfl) rfl) rfl rfl ?_
  refine TL.nil ?_
  refine S.n ?_
  refine TC.seq ?_
  refine TC.seq ?_
  refine TC.region ?_
  refine TL.v rfl (OpVal.loadAll rfl ag55 sz55 rfl (i := 3) rfl rfl) rfl rfl ?_
  refine TL.v rfl (OpVal.buildArrL rfl Tryz.underlying55 sz53 ze55 rfl) rfl rfl ?_
  refine TL.v rfl (OpVal.neqArr4 rfl Tryz.underlying55 Tryz.underlying53 ag53 sz53 eg55 rfl rfl rfl rfl) rfl rfl ?_
  refine TL.nil ?_
  refine S.n ?_
  refine TC.cond rfl (fun h8 => ?_) (fun h8 => ?_)
  · try simp only [decide_eq_true_eq, decide_eq_false_iff_not, Bool.not_eq_true', Bool.not_eq_false', Bool.not_eq_eq_eq_not, Bool.not_true, Bool.not_false, Int.not_lt, Int.not_le, Decidable.not_not] at h8
    refine TC.region ?_
    refine TL.v rfl (OpVal.moveLoc (.inl rfl) rfl) rfl rfl ?_
    refine TL.v rfl (OpVal.loadAll rfl ag55 sz55 rfl (i := 3) rfl rfl) rfl rfl ?_
    refine TL.front 1 rfl rfl ?_
    refine TL.op rfl (OpOk.callE (edge_con _ _ _ _ [] 0 1 s (by decide)) rfl rfl pf61 rfl rfl rfl rfl (fun a9 c10 => ?_))
    refine TL.nil ?_
    refine S.n ?_
    refine TC.seq ?_
    refine TC.region ?_
    refine TL.op rfl (OpOk.lit (enc := Go.E.encI) [_] rfl Tryz.underlying46 sz3 ze3 rfl rfl rfl encI_len (by decide) (by decide) (0 : Int) rfl (by decide) rfl (by decide) encI_one (fun a11 c12 => ?_))
    refine TL.op rfl (OpOk.lit (enc := Go.E.encI) [_] rfl Tryz.underlying46 sz3 ze3 rfl rfl rfl encI_len (by decide) (by decide) (0 : Int) rfl (by decide) rfl (by decide) encI_one (fun a14 c15 => ?_))
    refine TL.v rfl (OpVal.moveLoc (.inl rfl) rfl) rfl rfl ?_
    refine TL.v rfl (OpVal.nilCheckLoc rfl rfl) rfl rfl ?_
    refine TL.v rfl (OpVal.fieldLoc rfl fo132_0 rfl) rfl rfl ?_
    refine TL.v rfl (OpVal.loadLoc rfl ag59 rfl (i := 2) rfl rfl) rfl rfl ?_
    refine TL.v rfl (OpVal.buildL rfl pl61 ze61 rfl) rfl rfl ?_
    refine TL.front 4 rfl rfl ?_
    refine TL.op rfl (OpOk.storeAll rfl sz61 rfl rfl rfl rfl rfl rfl ?_)
    refine TL.nil ?_
    refine S.n ?_
    refine TC.front 1 rfl rfl ?_
    refine TC.sealS encI_len (fun τ19 hle18 hr17 => ?_)
    refine TC.front 1 rfl rfl ?_
    refine TC.sealS encI_len (fun τ22 hle21 hr20 => ?_)
    replace hr17 := hr17.mono hle21
    refine TC.front 2 rfl rfl ?_
    refine TC.sealS encE_len (fun τ25 hle24 hr23 => ?_)
    replace hr17 := hr17.mono hle24
    replace hr20 := hr20.mono hle24
    refine TC.ret ?_
    -- leaf 1 ret [h8: True] H=['q4', 'q6', 'q2']
    have h0 : ¬ s = BSet.zero := fun hx => h8 ((BSet.zero_iff s).2 hx)
    have hE : setE s = [⟨0, 1, s⟩] := if_neg h0
    exact retNfa1 (p := ⟨a11, c12, a14, c15, a9, c10⟩) 0 rfl ag61 sz61 rfl rfl (by unfold nfaA setN; rw [hE]; rfl) ⟨hr20, hr17, by unfold setN; rw [hE]; exact hr23, setE_ok hs⟩
  · try simp only [decide_eq_true_eq, decide_eq_false_iff_not, Bool.not_eq_true', Bool.not_eq_false', Bool.not_eq_eq_eq_not, Bool.not_true, Bool.not_false, Int.not_lt, Int.not_le, Decidable.not_not] at h8
    refine TC.skip ?_
    refine S.n ?_
    refine TC.seq ?_
    refine TC.region ?_
    refine TL.op rfl (OpOk.lit (enc := Go.E.encI) [_] rfl Tryz.underlying46 sz3 ze3 rfl rfl rfl encI_len (by decide) (by decide) (0 : Int) rfl (by decide) rfl (by decide) encI_one (fun a26 c27 => ?_))
    refine TL.op rfl (OpOk.lit (enc := Go.E.encI) [_] rfl Tryz.underlying46 sz3 ze3 rfl rfl rfl encI_len (by decide) (by decide) (0 : Int) rfl (by decide) rfl (by decide) encI_one (fun a29 c30 => ?_))
    refine TL.v rfl (OpVal.moveLoc (.inl rfl) rfl) rfl rfl ?_
    refine TL.v rfl (OpVal.nilCheckLoc rfl rfl) rfl rfl ?_
    refine TL.v rfl (OpVal.fieldLoc rfl fo132_0 rfl) rfl rfl ?_
    refine TL.v rfl (OpVal.loadLoc rfl ag59 rfl (i := 3) rfl rfl) rfl rfl ?_
    refine TL.v rfl (OpVal.buildL rfl pl61 ze61 rfl) rfl rfl ?_
    refine TL.front 4 rfl rfl ?_
    refine TL.op rfl (OpOk.storeAll rfl sz61 rfl rfl rfl rfl rfl rfl ?_)
    refine TL.nil ?_
    refine S.n ?_
    refine TC.front 1 rfl rfl ?_
    refine TC.sealS encI_len (fun τ34 hle33 hr32 => ?_)
    refine TC.front 1 rfl rfl ?_
    refine TC.sealS encI_len (fun τ37 hle36 hr35 => ?_)
    replace hr32 := hr32.mono hle36
    refine TC.front 1 rfl rfl ?_
    refine TC.sealS encE_len (fun τ40 hle39 hr38 => ?_)
    replace hr32 := hr32.mono hle39
    replace hr35 := hr35.mono hle39
    refine TC.ret ?_
    -- leaf 2 ret [h8: False] H=['q4', 'q6', 'q2']
    have h0 : s = BSet.zero := (BSet.zero_iff s).1 h8
    have hE : setE s = [] := if_pos h0
    exact retNfa1 (p := ⟨a26, c27, a29, c30, none, 0⟩) 0 rfl ag61 sz61 rfl rfl (by unfold nfaA setN; rw [hE]; rfl) ⟨hr35, hr32, by unfold setN; rw [hE]; exact hr38, setE_ok hs⟩
end Go.Proofs.YtamgjehhjkgelaaGreatDoor
end

section
namespace Go.Proofs.YtamgjehhjkgelaaGreatDoor
open Go Go.E
end Go.Proofs.YtamgjehhjkgelaaGreatDoor
end

section
namespace Go.Proofs.YtamgjehhjkgelaaGreatDoor
open Go Go.E
end Go.Proofs.YtamgjehhjkgelaaGreatDoor
end

section
namespace Go.E
open Go
structure Dfa where
  cls : List Int
  next : List (List Int)
  fin : List Bool
def Dfa.zero : Dfa := ⟨[], [], []⟩
structure DfaP where
  a1 : Option Addr
  c1 : Nat
  a2 : Option Addr
  c2 : Nat
  a3 : Option Addr
  c3 : Nat
def DfaP.zero : DfaP := ⟨none, 0, none, 0, none, 0⟩
structure RDfa (σ : Store) (x : Dfa) (p : DfaP) : Prop where
  c : RS σ 1 Go.E.encI (.slice p.a1 x.cls.length p.c1) x.cls
  n : RZ σ (pkSl 1 Go.E.encI encI_len) (.slice p.a2 x.next.length p.c2) x.next
  e : RS σ 1 encB (.slice p.a3 x.fin.length p.c3) x.fin
end Go.E
end

section
namespace Go.E
open Go
def GT {α : Type} (σ : Store) (g : Nat) (enc : α → List Value) (l : List α) : Prop := ∃ E, σ g = some (.cells (l.flatMap enc).toArray E)
theorem GT.mono {α : Type} {σ τ : Store} {g : Nat} {enc : α → List Value} {l : List α} (h : GT σ g enc l) (hle : σ.le τ) : GT τ g enc l := let ⟨E, h⟩ := h; ⟨E, hle _ _ h⟩
theorem flat_one {α : Type} {enc : α → List Value} (hl : ∀ x, (enc x).length = 1) (d : α) : ∀ (l : List α) (i : Nat), i < l.length → (l.flatMap enc)[i]? = (enc (nth l i d))[0]?
  | [], i, h => by simp at h
  | x :: l, 0, _ => by
    have := hl x
    rw [List.flatMap_cons, List.getElem?_append_left (by omega)]
    simp [nth]
  | x :: l, i + 1, h => by
    have h1 := hl x
    rw [List.flatMap_cons, List.getElem?_append_right (by omega), h1, Nat.add_sub_cancel, flat_one hl d l i (by simpa using h)]
    simp [nth]
theorem OpVal.loadG1 {P : Program} {n : Nat} {e : Env} {σ : Store} {H : List Res} {o : Oper} {x : Operand} {α : Type} {T g i : Nat} {enc : α → List Value} {l : List α} {v : Value} (d : α) (ho : o.op = .load T x) (hA : aggOf P T = some false) (hx : ev e x = loc g (0 + i * 1)) (hG : GT σ g enc l) (hi : i < l.length) (hl : ∀ x, (enc x).length = 1) (hv : enc (nth l i d) = [v]) : OpVal P n o e σ H v := fun w hw => by
  obtain ⟨E, hE⟩ := hG
  have h1 := hw.1 _ _ hE
  have hc : w.cell? ⟨g, 0 + i * 1, none⟩ = some v := by
    have h2 := flat_one hl d l i hi
    rw [hv] at h2
    simp only [World.cell?, h1, Option.isSome_none, Bool.false_eq_true, if_false, Nat.zero_add, Nat.mul_one, List.getElem?_toArray]
    rw [h2]; rfl
  rw [Nat.zero_add, Nat.mul_one] at hc hx
  simp [execOp, ho, hx, Instr.loadAt, Instr.sureAddr, loc, run_loadVar_one hA hc]
theorem OpVal.negW {P : Program} {n : Nat} {e : Env} {σ : Store} {H : List Res} {o : Oper} {x : Operand} {T : TypeId} {k : IntKind} {a : Int} (ho : o.op = .unOp .neg T x) (hx : ev e x = .int k a) : OpVal P n o e σ H (.int k (k.wrap (-a))) := fun w _ => by
  simp [execOp, ho, hx, Op.unary, Op.intArith]
theorem OpVal.negU {P : Program} {n : Nat} {e : Env} {σ : Store} {H : List Res} {o : Oper} {x : Operand} {T : TypeId} {a : Nat} (ho : o.op = .unOp .neg T x) (hx : ev e x = .int .u64 (a : Nat)) : OpVal P n o e σ H (.int .u64 ((u64of (-(a : Int)) : Nat) : Int)) := by
  rw [u64of_val]; exact OpVal.negW ho hx
theorem OpVal.indexSet {P : Program} {n : Nat} {e : Env} {σ : Store} {H : List Res} {o : Oper} {x y : Operand} {T E i : Nat} {k : IntKind} {s : BSet} (ho : o.op = .index T x y) (ht : P.underlying T = some (.array 4 E)) (hz : szOf P E = some 1) (hA : aggOf P E = some false) (hx : ev e x = setV s) (hy : ev e y = .int k (i : Nat)) (hi : i < 4) :
    OpVal P n o e σ H (.int .u64 ((s.word i : Nat) : Int)) := fun w _ => by
  have h1 := setA_get s hi
  simp [execOp, ho, hx, hy, setV, Instr.index, asIntOf, run_underlying ht, run_sizeOf hz, part, run_isAgg hA, h1]
  omega
def deB : List UInt8 := [0, 1, 56, 2, 57, 49, 28, 3, 61, 58, 42, 50, 38, 29, 17, 4, 62, 47, 59, 36, 45, 43, 51, 22, 53, 39, 33, 30, 24, 18, 12, 5, 63, 55, 48, 27, 60, 41, 37, 16, 46, 35, 44, 21, 52, 32, 23, 11, 54, 26, 40, 15, 34, 20, 31, 10, 25, 14, 19, 9, 13, 8, 7, 6]
end Go.E
end

section
namespace Go.E
open Go
structure YSpec (S : Type) where
  R : S → Store → Res → Prop
  mono : ∀ {s σ σ' r}, R s σ r → σ.le σ' → R s σ' r
def YR {S : Type} (Z : YSpec S) (s : S) (σ : Store) (r : Res) : Prop := Z.R s σ r
theorem YR.mono {S : Type} {Z : YSpec S} {s : S} {σ σ' : Store} {r : Res} (h : YR Z s σ r) (hle : σ.le σ') : YR Z s σ' r := Z.mono h hle
def YOk (P : Program) (l : Nat) {S α : Type} (A : α → Store → List Value → Prop) (Z : YSpec S) (Y : S → α → Option (S × Bool)) : Prop :=
  ∀ s x σ r args w s' b, Y s x = some (s', b) → A x σ args → YR Z s σ r → Reach w r.bl σ σ w [r] →
    YieldAt (fence none) 0 P l args.toArray w fun e w' => e = .returned (.bool b) ∧ ∃ σ' r', YR Z s' σ' r' ∧ Reach w r.bl σ σ' w' [r']
def IterOk (P : Program) (f : FuncId) (lb : List Value) {S α : Type} (A : α → Store → List Value → Prop) (Y : S → α → Option (S × Bool)) (σ : Store) (Hc : List Res) (s s' : S) (Post : Store → List Res → Prop) : Prop :=
  ∀ (l : Nat) (Z : YSpec S) (r : Res), YOk P l A Z Y → YR Z s σ r →
    Con P f (.func (.yield l) #[] #[] :: lb).toArray σ (r :: Hc) fun _ σ' H' => ∃ r' Hc', H' = r' :: Hc' ∧ YR Z s' σ' r' ∧ Post σ' Hc'
theorem OpOk.callY {X : Ctx} {e : Env} {σ : Store} {H F : List Res} {o : Oper} {x : Operand} {K : Env → Store → List Res → Prop} {l d : Nat} {opds : Array Operand} {ts : Array TypeId} {S α : Type} {A : α → Store → List Value → Prop} {Z : YSpec S} {Y : S → α → Option (S × Bool)} {s : S} {q : S × Bool} {v : α} {r : Res}
    (hY : YOk X.P l A Z Y) (hs : YR Z s σ r) (he : Y s v = some q) (ho : o.op = .call { callee := .value x, args := opds, argTypes := ts })
    (hx : ev e x = .func (.yield l) #[] #[]) (hA : A v σ (opds.toList.map (ev e))) (hd : o.dst = some d) (hn : Nat.blt d X.n = true) (hH : r :: F = H)
    (k : ∀ σ' r', σ.le σ' → YR Z q.1 σ' r' → K (upd e d (.bool q.2)) σ' (r' :: F)) : OpOk X o e σ H K := by
  subst hH
  obtain ⟨s', b⟩ := q
  intro u0 C0 τ0 w a hw ha K' Q hK
  have hbl : blks [r] = r.bl := by simp [blks]
  have hself : Reach w r.bl σ σ w [r] := by
    have := (hw.sub (H' := [r]) (by simp)).self
    rwa [hbl] at this
  obtain ⟨fn, tmps, assign, body, hrun, hround⟩ := hY s v σ r _ w s' b he hA hs hself
  have hr : (execOp a.eval o).run X.P w = .ok (.round l fn tmps assign body) w := by
    rw [ha.eval']
    have hl : (opds.toList.map (ev e)).toArray = opds.map (ev e) := by apply Array.ext'; simp
    rw [hl] at hrun
    simp [execOp, ho, resolve, hx, Deferred.ofValue, invoke, hrun]
  refine Oper.wp_run hr (fun _ => by simp) ?_
  rw [Oper.uponIn_round]
  refine ⟨fun h => (by cases h), RoundIn.mono (R := fun e w' => e = .returned (.bool b) ∧ ∃ σ' r', YR Z s' σ' r' ∧ Reach w r.bl σ σ' w' [r']) hround ?_⟩
  rintro ex w' ⟨rfl, σ', r', h1, h2⟩
  refine hK _ _ _ _ _ (k σ' r' h2.le h1) (Reach.call (H1 := [r]) (H1' := [r']) hw (by rw [hbl]; exact h2)) (put_dst ha hd hn _)
def Res.lrec (b : Nat) (o : Obj) : Res := ⟨[b], fun w => w.heap[b]? = some o, fun w k hk h => by simp at hk; subst hk; exact (Array.getElem?_eq_some_iff.1 h).1, fun w w' hb h => by rw [hb b (by simp)]; exact h⟩
theorem Reach.turnRec {w0 : World} {C : List Nat} {σ0 σ : Store} {w : World} {l : Nat} {o o' : Obj} {F : List Res} (h : Reach w0 C σ0 σ w (Res.lrec l o :: F)) : Reach w0 C σ0 σ (w.putObj l o') (Res.lrec l o' :: F) := by
  have hl : w.heap[l]? = some o := h.holds _ (List.mem_cons_self ..)
  refine h.turn rfl rfl rfl (by simp [World.putObj]) (Nat.le_refl _) (fun k _ hk => World.putObj_heap_other (fun e => hk (by simp [Res.lrec, e]))) (World.putObj_heap_same (Array.getElem?_eq_some_iff.1 hl).1) (fun b hb => .inl hb) (by simp [Res.lrec])
theorem Reach.tail {w0 : World} {C : List Nat} {σ0 σ : Store} {w : World} {r : Res} {F : List Res} (h : Reach w0 C σ0 σ w (r :: F)) : Reach w (blks F) σ σ w F := (h.sub (List.sublist_cons_self ..)).self
theorem Reach.callT {w0 : World} {C : List Nat} {σ0 σ σ' : Store} {w w' : World} {r : Res} {F F' : List Res} (h : Reach w0 C σ0 σ w (r :: F)) (k : Reach w (blks F) σ σ' w' F') : Reach w0 C σ0 σ' w' (r :: F') := by
  have h1 : Reach w0 C σ0 σ w (F ++ [r]) := h.perm (List.perm_append_singleton r F)
  exact (h1.call k).perm (List.perm_append_singleton r F').symm
def bindE (e : Env) (ps : List Tmp) (vs : List Value) : Env := (ps.zip vs).foldl (fun e p => upd e p.1 p.2) e
theorem St.binds {n : Nat} : ∀ (ps : List Tmp) (vs : List Value) {e : Env} {t : Array Value}, (∀ p ∈ ps, p < n) → St n e { tmps := t, defers := [] } → St n (bindE e ps vs) { tmps := (ps.zip vs).foldl (fun t p => t.setIfInBounds p.1 p.2) t, defers := [] }
  | [], _, _, _, _, h => h
  | _ :: _, [], _, _, _, h => h
  | p :: ps, v :: vs, e, t, hp, h => by
    have h1 := h.put (hp p (List.mem_cons_self ..)) v
    exact St.binds ps vs (fun q hq => hp q (List.mem_cons_of_mem _ hq)) h1
@[reducible] def asgQ (K : Env → Store → List Res → Prop) : QP := fun ex => match ex with
  | .normal => K
  | _ => fun _ _ _ => False
@[reducible] def rndQ (J : List Code) (K : Nat → Store → List Res → Prop) : QP := fun ex _ σ H => match ex with
  | .normal => K 0 σ H
  | .ret => ∃ j, J[j]? = some .ret ∧ K (j + 1) σ H
  | .exit i => ∃ j, J[j]? = some (.exit i) ∧ K (j + 1) σ H
  | .goto i => ∃ j, J[j]? = some (.goto i) ∧ K (j + 1) σ H
  | _ => False
def stepY {S α : Type} (B : S → α → Option (Nat × S)) (p : Nat × S) (x : α) : Option ((Nat × S) × Bool) :=
  if p.1 = 0 then (B p.2 x).bind fun q => some (q, q.1 == 0) else none
theorem stepY_some {S α : Type} {B : S → α → Option (Nat × S)} {p p' : Nat × S} {x : α} {b : Bool} (h : stepY B p x = some (p', b)) : p.1 = 0 ∧ B p.2 x = some p' ∧ b = (p'.1 == 0) := by
  unfold stepY at h
  split at h
  · rename_i h0
    cases hb : B p.2 x with
    | none => simp [hb] at h
    | some q => simp [hb] at h; exact ⟨h0, by rw [h.1], by rw [← h.2, h.1]⟩
  · cases h
abbrev mkRec (fn : FuncId) (tmps : Array Value) (ps : Array Tmp) (assign body : Code) (D : Nat) (st : LoopState) (pe : Option Code) : Loop := { state := st, pending := pe, fn, tmps, params := ps, assign, body, defers := D }
def recOf (rec : LoopState → Option Code → Loop) (J : List Code) (j : Nat) : Obj := .loop (if j = 0 then rec .ready none else rec .done (J[j - 1]?))
def rndZ {S : Type} (l : Nat) (rec : LoopState → Option Code → Loop) (J : List Code) (σs : Store) (G : S → Store → List Res → Prop) (hG : ∀ {s σ σ' H}, G s σ H → σ.le σ' → G s σ' H) : YSpec (Nat × S) where
  R p σ r := ∃ Hs, r = Res.star (Res.lrec l (recOf rec J p.1) :: Hs) ∧ G p.2 σ Hs ∧ σs.le σ ∧ (p.1 ≠ 0 → ∃ c, J[p.1 - 1]? = some c)
  mono := fun ⟨Hs, h1, h2, h3, h4⟩ hle => ⟨Hs, h1, hG h2 hle, h3.trans hle, h4⟩
theorem rec_far {w0 : World} {C : List Nat} {σ0 σ : Store} {w : World} {l : Nat} {o : Obj} {F : List Res} (h : Reach w0 C σ0 σ w (Res.lrec l o :: F)) : l ∉ blks F ∧ σ l = none := by
  have hn := h.nodup
  simp only [blks, List.flatMap_cons, Res.lrec, List.cons_append, List.nil_append, List.nodup_cons] at hn
  exact ⟨hn.1, h.apart _ (List.mem_cons_self ..) l (by simp [Res.lrec])⟩
theorem yOk_of {P : Program} {n l : Nat} {S α : Type} {A : α → Store → List Value → Prop} {J : List Code} {B : S → α → Option (Nat × S)} {σs : Store} {G : S → Store → List Res → Prop} {hG : ∀ {s σ σ' H}, G s σ H → σ.le σ' → G s σ' H} {fn : FuncId} {ps : Array Tmp} {assign body : Code} {e : Env} {tmps : Array Value} {D : Nat}
    (hst : St n e { tmps := tmps, defers := [] }) (hps : ∀ p ∈ ps.toList, p < n) (hA : ∀ x σ vs, A x σ vs → vs.length = ps.size)
    (hbody : ∀ (w0 : World) (C : List Nat) (τ σ : Store) (s : S) (x : α) (q : Nat × S) (vs : List Value) (Hs : List Res), B s x = some q → σs.le σ → A x σ vs → G s σ Hs →
      TC ⟨P, w0, C, τ, n, some l, none⟩ (asgQ fun e σ H => ∀ w0 C τ, TC ⟨P, w0, C, τ, n, some l, none⟩ (rndQ J fun j σ H => q.1 = j ∧ G q.2 σ H) body e σ H) assign (bindE e ps.toList vs) σ Hs) :
    YOk P l A (rndZ l (mkRec fn tmps ps assign body D) J σs G hG) (stepY B) := by
  rintro p x σ r args w p' b hy hax ⟨Hs, rfl, hg, hle, -⟩ hw
  obtain ⟨hp0, hB, rfl⟩ := stepY_some hy
  rw [hp0] at hw
  have hw1 : Reach w (Res.star (Res.lrec l (recOf (mkRec fn tmps ps assign body D) J 0) :: Hs)).bl σ σ w (Res.lrec l (.loop (mkRec fn tmps ps assign body D .ready none)) :: Hs) := by
    have := hw.unstar
    rw [List.append_nil] at this
    exact this
  have hlen := hA x σ args hax
  have hl1 : w.heap[l]? = some (.loop (mkRec fn tmps ps assign body D .ready none)) := hw1.holds _ (List.mem_cons_self ..)
  have hy := run_yield (P := P) (args := args.toArray) hl1 (by simpa using hlen)
  refine ⟨fn, _, assign, body, hy, roundIn_of_wpIn trivial ?_⟩
  have hz : (ps.zip args.toArray).foldl (fun t (p, v) => t.setIfInBounds p v) tmps = (ps.toList.zip args).foldl (fun t p => t.setIfInBounds p.1 p.2) tmps := by
    rw [← Array.foldl_toList, Array.toList_zip]
  have hS : St n (bindE e ps.toList args) { tmps := (ps.zip args.toArray).foldl (fun t (p, v) => t.setIfInBounds p v) tmps, defers := [] } := by
    rw [hz]; exact St.binds _ _ hps hst
  refine wpIn_mono (hbody w (blks Hs) σ σ p.2 x p' args Hs hB hle hax hg w _ ⟨hw1.tail, ⟨fun _ => ⟨[], rfl, List.nodup_nil, by simp⟩, (fun _ h => by cases h), fun l' hl' => ?_⟩⟩ hS) ?_
  · cases hl'; exact ⟨rfl, ⟨_, hl1⟩, (rec_far hw1).1, (rec_far hw1).2⟩
  rintro ex a2 w2 ⟨e2, σ2, H2, hS2, hw2, hq2⟩
  cases ex with
  | normal =>
    have hw2' := hw1.callT hw2.toReach
    have hl2 : w2.heap[l]? = some (.loop (mkRec fn tmps ps assign body D .ready none)) := hw2'.holds _ (List.mem_cons_self ..)
    have hw3 := hw2'.turnRec (o' := .loop (mkRec fn tmps ps assign body D .busy none))
    have hl3 : (w2.putObj l (.loop (mkRec fn tmps ps assign body D .busy none))).heap[l]? = some (.loop (mkRec fn tmps ps assign body D .busy none)) := hw3.holds _ (List.mem_cons_self ..)
    have hd2 : a2.defers = [] := (hw2.marks.rc l rfl).1
    refine ⟨_, run_beginRound hl2 rfl, ?_⟩
    refine wpIn_mono (hq2 _ (blks H2) σ2 _ a2 ⟨hw3.tail, ⟨fun _ => ⟨[], by rw [hd2]; rfl, List.nodup_nil, by simp⟩, (fun _ h => by cases h), fun l' hl' => ?_⟩⟩ hS2) ?_
    · cases hl'; exact ⟨hd2, ⟨_, hl3⟩, (rec_far hw3).1, (rec_far hw3).2⟩
    rintro ex a4 w4 ⟨e4, σ4, H4, hS4, hw4, hq4⟩
    have hw4' := hw3.callT hw4.toReach
    have hl4 : w4.heap[l]? = some (.loop (mkRec fn tmps ps assign body D .busy none)) := hw4'.holds _ (List.mem_cons_self ..)
    have fin : ∀ (jump : Option Code) (j : Nat), p'.1 = j → (j = 0 → jump = none) → (j ≠ 0 → jump = J[j - 1]? ∧ ∃ c, jump = some c) → G p'.2 σ4 H4 → ∃ v w', (Instr.endRound l jump).run P w4 = .ok v w' ∧ (Ending.returned v = .returned (.bool (p'.1 == 0)) ∧ ∃ σ' r', YR (rndZ l (mkRec fn tmps ps assign body D) J σs G hG) p' σ' r' ∧ Reach w (Res.star (Res.lrec l (recOf (mkRec fn tmps ps assign body D) J p.1) :: Hs)).bl σ σ' w' [r']) := fun jump j h1 h2 h3 h4 => by
      have h6 : Obj.loop (mkRec fn tmps ps assign body D (if jump.isNone then .ready else .done) jump) = recOf (mkRec fn tmps ps assign body D) J p'.1 := by
        unfold recOf
        rw [h1]
        by_cases h0 : j = 0
        · rw [if_pos h0, h2 h0]; rfl
        · obtain ⟨h7, c, h8⟩ := h3 h0
          rw [if_neg h0, ← h7, h8]; rfl
      refine ⟨_, _, run_endRound jump hl4, ?_, σ4, Res.star (Res.lrec l (recOf (mkRec fn tmps ps assign body D) J p'.1) :: H4), ⟨H4, rfl, h4, hle.trans hw4'.le, fun h => ?_⟩, ?_⟩
      · rw [h1]
        by_cases h0 : j = 0
        · rw [h2 h0, h0]; rfl
        · obtain ⟨_, c, hc⟩ := h3 h0
          rw [hc]; simp [h0]
      · rw [h1] at h ⊢
        obtain ⟨h5, c, h6⟩ := h3 h
        exact ⟨c, by rw [← h5, h6]⟩
      · have h5 := hw4'.turnRec (o' := .loop (mkRec fn tmps ps assign body D (if jump.isNone then .ready else .done) jump))
        show Reach w _ σ σ4 (w4.putObj l (.loop (mkRec fn tmps ps assign body D (if jump.isNone then .ready else .done) jump))) _
        rw [h6] at h5 ⊢
        rw [hp0]
        exact Reach.star (G := Res.lrec l (recOf (mkRec fn tmps ps assign body D) J p'.1) :: H4) (F := []) (by rw [List.append_nil]; exact h5)
    cases ex with
    | normal => exact fin none 0 hq4.1 (fun _ => rfl) (fun h => absurd rfl h) hq4.2
    | ret => obtain ⟨j, hj, h1, h2⟩ := hq4; exact fin (some .ret) (j + 1) h1 (fun h => by cases h) (fun _ => ⟨by simpa using hj.symm, _, rfl⟩) h2
    | exit i => obtain ⟨j, hj, h1, h2⟩ := hq4; exact fin (some (.exit i)) (j + 1) h1 (fun h => by cases h) (fun _ => ⟨by simpa using hj.symm, _, rfl⟩) h2
    | goto i => obtain ⟨j, hj, h1, h2⟩ := hq4; exact fin (some (.goto i)) (j + 1) h1 (fun h => by cases h) (fun _ => ⟨by simpa using hj.symm, _, rfl⟩) h2
    | panic c => exact hq4.elim
    | outgrown => exact hq4.elim
  | exit i => exact hq2.elim
  | goto i => exact hq2.elim
  | ret => exact hq2.elim
  | panic c => exact hq2.elim
  | outgrown => exact hq2.elim
@[reducible] def jmpQ (X : Ctx) (Q : QP) (J : List Code) : Nat → Env → Store → List Res → Prop
  | 0 => Q .normal
  | j + 1 => fun e σ H => ∀ c, J[j]? = some c → TC X Q c e σ H
theorem TC.rangeFunc {X : Ctx} {Q : QP} {e : Env} {σ : Store} {H Hs Hc : List Res} {S α : Type} {g : Operand} {ps : Array Tmp} {assign body : Code} {f : Nat} {lb : List Value} {A : α → Store → List Value → Prop}
    (J : List Code) (B : S → α → Option (Nat × S)) (G : S → Store → List Res → Prop) {s : S} {q : Nat × S} {PostC : Store → List Res → Prop}
    (hg : ev e g = .func (.func f) #[] lb.toArray) (hp : plainF X.P f = true) (hH : Hs ++ Hc = H) (hps : ps.toList.all (fun p => Nat.blt p X.n) = true)
    (hG : ∀ {s σ σ' H}, G s σ H → σ.le σ' → G s σ' H) (h0 : G s σ Hs) (hA : ∀ x σ vs, A x σ vs → vs.length = ps.size)
    (hit : IterOk X.P f lb A (stepY B) σ Hc (0, s) q PostC)
    (hbody : ∀ (l : Nat) (w0 : World) (C : List Nat) (τ σ' : Store) (s : S) (x : α) (q : Nat × S) (vs : List Value) (Hs : List Res), B s x = some q → σ.le σ' → A x σ' vs → G s σ' Hs →
      TC ⟨X.P, w0, C, τ, X.n, some l, none⟩ (asgQ fun e σ H => ∀ w0 C τ, TC ⟨X.P, w0, C, τ, X.n, some l, none⟩ (rndQ J fun j σ H => q.1 = j ∧ G q.2 σ H) body e σ H) assign (bindE e ps.toList vs) σ' Hs)
    (hdone : ∀ σ' Hs' Hc', σ.le σ' → G q.2 σ' Hs' → PostC σ' Hc' → jmpQ X Q J q.1 e σ' (Hs' ++ Hc')) (hown : X.own = none := by rfl) : TC X Q (.rangeFunc g ps assign body) e σ H := by
  subst hH
  intro w a hw ha
  have hps' : ∀ p ∈ ps.toList, p < X.n := fun p hp => by
    have := List.all_eq_true.1 hps p hp
    simpa [Nat.blt_eq] using this
  refine wpIn_rangeFunc fun fn _ => ?_
  have key : ∀ (l D : Nat) (w1 : World) (a1 : Act), a1.tmps = a.tmps → RM X a1 σ w1 (Res.lrec l (.loop (mkRec fn a.tmps ps assign body D .ready none)) :: (Hs ++ Hc)) →
      CallsIn (fence X.rnd) 0 X.P f (#[.func (.yield l) #[] #[]] ++ lb.toArray) w1 (rangePost (fence X.rnd) 0 X.P l (low X Q) a1) := by
    intro l D w1 a1 ht hw1
    have hcon := hit l (rndZ l (mkRec fn a.tmps ps assign body D) J σ G hG) (Res.star (Res.lrec l (recOf (mkRec fn a.tmps ps assign body D) J 0) :: Hs))
      (yOk_of ⟨ha.size, ha.get⟩ hps' hA (hbody l)) ⟨Hs, rfl, h0, Store.le.refl _, fun h => absurd rfl h⟩
    have hst : RM X a1 σ w1 (Res.star (Res.lrec l (recOf (mkRec fn a.tmps ps assign body D) J 0) :: Hs) :: Hc) := hw1.by fun _ k => Reach.star (G := Res.lrec l (recOf (mkRec fn a.tmps ps assign body D) J 0) :: Hs) (F := Hc) k
    have hcall := hcon w1 hst.self
    have hargs : (Value.func (.yield l) #[] #[] :: lb).toArray = #[.func (.yield l) #[] #[]] ++ lb.toArray := by apply Array.ext'; simp
    rw [hargs] at hcall
    refine calls_fence.2 (hcall.mono ?_)
    rintro ex w2 ⟨v, σ2, H2, rfl, ⟨r', Hc', rfl, ⟨Hs', rfl, hg2, hle, hJ⟩, hpc⟩, hw2⟩
    have hw3 : RM X a1 σ2 w2 (Res.lrec l (recOf (mkRec fn a.tmps ps assign body D) J q.1) :: (Hs' ++ Hc')) := (hst.step hw2 rfl).by fun _ k => k.unstar
    have hl : w2.heap[l]? = some (recOf (mkRec fn a.tmps ps assign body D) J q.1) := hw3.holds _ (List.mem_cons_self ..)
    have hS1 : St X.n e a1 := ⟨by rw [ht]; exact ha.size, fun t => by rw [ht]; exact ha.get t⟩
    have hw5 : ∀ o', RM X a1 σ2 (w2.putObj l o') (Hs' ++ Hc') := fun o' => hw3.step ((hw3.self.turnRec (o' := o')).sub (List.sublist_cons_self ..)) rfl
    have hfin := hdone σ2 Hs' Hc' hle hg2 hpc
    unfold recOf at hl
    cases hq : q.1 with
    | zero =>
      rw [hq] at hl hfin
      exact ⟨none, _, run_endLoop hl (by simp), e, σ2, _, hS1, hw5 _, hfin⟩
    | succ j =>
      rw [hq] at hl hfin hJ
      obtain ⟨c, hc⟩ := hJ (by simp)
      simp only [Nat.add_sub_cancel, Nat.succ_ne_zero, if_false] at hl hc
      rw [hc] at hl
      exact ⟨some c, _, run_endLoop hl (by simp), hfin c hc _ a1 (hw5 _) hS1⟩
  have hnew : ∀ k, k < w.heap.size ∨ True := fun _ => .inr trivial
  have hres : ∀ l w1, (resolve a.eval (rangeCall g l) 0).run X.P w1 = .ok { target := .fn (.func f) lb.toArray, args := #[.func (.yield l) #[] #[]] } w1 := fun l w1 => by
    rw [ha.eval']
    simp only [resolve, hg]
    simp [go_sem, Deferred.ofValue, ev]
  have hinv : ∀ l w1, (invoke (.fn (.func f) lb.toArray) #[.func (.yield l) #[] #[]]).run X.P w1 = .ok (.enter f (#[.func (.yield l) #[] #[]] ++ lb.toArray)) w1 := fun l w1 => by
    simp [invoke, run_callFunc hp]
  cases hr : X.rnd with
  | none =>
    refine ⟨w.heap.size + 1, _, _, _, _, f, _, _, run_enterLoop_outer _ _ _ _ _, hres _ _, fun _ _ => trivial, hinv _ _, (fun h => by cases h), hr ▸ key (w.heap.size + 1) w.heap.size _ _ rfl ?_⟩
    have hsz : ((w.alloc (.deferred (some []))).heap.size) = w.heap.size + 1 := by simp
    have hold : ∀ k, k < w.heap.size → ((w.alloc (.deferred (some []))).alloc (.loop (mkRec fn a.tmps ps assign body w.heap.size .ready none))).heap[k]? = w.heap[k]? := fun k hk => by
      rw [alloc_old _ _ _ (by omega), alloc_old _ _ _ hk]
    have hR : Reach w (blks (Hs ++ Hc)) σ σ ((w.alloc (.deferred (some []))).alloc (.loop (mkRec fn a.tmps ps assign body w.heap.size .ready none))) (Res.lrec (w.heap.size + 1) (.loop (mkRec fn a.tmps ps assign body w.heap.size .ready none)) :: (Hs ++ Hc)) :=
      hw.self.gain rfl rfl rfl (by simp; omega) (Nat.le_refl _) hold (by
        have := World.alloc_heap_new (w.alloc (.deferred (some []))) (.loop (mkRec fn a.tmps ps assign body w.heap.size .ready none))
        rw [hsz] at this; exact this) (fun b hb => by simp [Res.lrec] at hb; omega) (by simp [Res.lrec])
    have h1 := hw.step hR (a' := a) rfl
    refine ⟨h1.toReach, ⟨fun _ => ?_, (fun _ h => by rw [hown] at h; cases h), fun l hl => by rw [hr] at hl; cases hl⟩⟩
    obtain ⟨Ds, g1, g2, g3⟩ := h1.marks.ex hown
    obtain ⟨Ds0, g10, g20, g30⟩ := hw.marks.ex hown
    have hDs : Ds = Ds0 := by
      have := g1.symm.trans g10
      have h2 : ∀ (A B : List Nat), A.map (fun D => ({ target := .collected D, args := #[] } : Deferred)) = B.map (fun D => ({ target := .collected D, args := #[] } : Deferred)) → A = B := fun A => by
        induction A with
        | nil => intro B h; cases B with
          | nil => rfl
          | cons b B => simp at h
        | cons a A ih => intro B h; cases B with
          | nil => simp at h
          | cons b B => simp only [List.map_cons, List.cons.injEq, Deferred.mk.injEq, Target.collected.injEq, and_true] at h; rw [h.1, ih B h.2]
      exact h2 _ _ this
    subst hDs
    refine ⟨w.heap.size :: Ds, by simp [g1], List.nodup_cons.2 ⟨fun hx => ?_, g2⟩, fun D hD => ?_⟩
    · have := (Array.getElem?_eq_some_iff.1 (g30 _ hx).1).1; omega
    · rcases List.mem_cons.1 hD with rfl | hD
      · refine ⟨?_, hw.size, fun hx => ?_, ?_⟩
        · rw [alloc_old _ _ _ (by omega)]; exact World.alloc_heap_new w _
        · simp only [blks, List.flatMap_cons, Res.lrec, List.cons_append, List.nil_append, List.mem_cons] at hx
          rcases hx with hx | hx
          · omega
          · obtain ⟨r, hr', hb⟩ := mem_blks.1 hx
            have := hw.block_lt hr' hb; omega
        · cases hs : σ w.heap.size with
          | none => rfl
          | some o => have := (Array.getElem?_eq_some_iff.1 (hw.fit _ _ hs)).1; omega
      · exact g3 D hD
  | some l0 =>
    obtain ⟨hd0, ⟨r0, h1⟩, h2, h3⟩ := hw.marks.rc l0 hr
    refine ⟨w.heap.size, _, _, _, _, f, _, _, run_enterLoop_inner h1 _ _ _ _ _, hres _ _, fun _ _ => trivial, hinv _ _, (fun h => by cases h), hr ▸ key w.heap.size r0.defers _ a rfl ?_⟩
    refine hw.step (hw.self.gain rfl rfl rfl (by simp) (Nat.le_refl _) (fun k hk => alloc_old _ _ _ hk) (World.alloc_heap_new w _) (fun b hb => by simp [Res.lrec] at hb; omega) (by simp [Res.lrec])) rfl
end Go.E
end

section
namespace Go.E
open Go
theorem TC.rangeG {X : Ctx} {Q : QP} {e : Env} {σ : Store} {H Hs Hc : List Res} {S α : Type} {g : Operand} {ps : Array Tmp} {assign body : Code} {f : Nat} {lb : List Value} {A : α → Store → List Value → Prop}
    (J : List Code) (B : S → α → Option (Nat × S)) (G : S → Store → List Res → Prop) {s : S} {q : Nat × S} {PostC : Store → List Res → Prop}
    (hg : ev e g = .func (.func f) #[] lb.toArray) (hp : plainF X.P f = true) (hH : Hs ++ Hc = H) (hps : ps.toList.all (fun p => Nat.blt p X.n) = true)
    (hG : ∀ {s σ σ' H}, G s σ H → σ.le σ' → G s σ' H) (h0 : G s σ Hs) (hA : ∀ x σ vs, A x σ vs → vs.length = ps.size)
    (hit : IterOk X.P f lb A (stepY B) σ Hc (0, s) q PostC)
    (hbody : ∀ (l : Nat) (w0 : World) (C : List Nat) (τ σ' : Store) (s : S) (x : α) (q : Nat × S) (vs : List Value) (Hs : List Res), B s x = some q → σ.le σ' → A x σ' vs → G s σ' Hs →
      TC ⟨X.P, w0, C, τ, X.n, some l, none⟩ (asgQ fun e σ H => ∀ w0 C τ, TC ⟨X.P, w0, C, τ, X.n, some l, none⟩ (rndQ J fun j σ H => q.1 = j ∧ ∃ F, Sub F H ∧ G q.2 σ F) body e σ H) assign (bindE e ps.toList vs) σ' Hs)
    (hdone : ∀ σ' Hs' Hc', σ.le σ' → G q.2 σ' Hs' → PostC σ' Hc' → jmpQ X Q J q.1 e σ' (Hs' ++ Hc')) (hown : X.own = none := by rfl) : TC X Q (.rangeFunc g ps assign body) e σ H := by
  refine TC.rangeFunc J B G hg hp hH hps hG h0 hA hit (fun l w0 C τ σ' s x q vs Hs h1 h2 h3 h4 => (hbody l w0 C τ σ' s x q vs Hs h1 h2 h3 h4).weak fun ex e σ H h => ?_) hdone hown
  cases ex with
  | normal =>
    refine fun w0 C τ => TC.weakR ((h w0 C τ).weak fun ex e σ H h => ?_)
    cases ex with
    | normal => obtain ⟨h1, F, hs, hg⟩ := h; exact ⟨F, hs, h1, hg⟩
    | ret => obtain ⟨j, hj, h1, F, hs, hg⟩ := h; exact ⟨F, hs, j, hj, h1, hg⟩
    | exit i => obtain ⟨j, hj, h1, F, hs, hg⟩ := h; exact ⟨F, hs, j, hj, h1, hg⟩
    | goto i => obtain ⟨j, hj, h1, F, hs, hg⟩ := h; exact ⟨F, hs, j, hj, h1, hg⟩
    | panic c => exact h.elim
    | outgrown => exact h.elim
  | exit i => exact h
  | goto i => exact h
  | ret => exact h
  | panic c => exact h
  | outgrown => exact h
theorem asg_n {K : Env → Store → List Res → Prop} {e : Env} {σ : Store} {H : List Res} (h : K e σ H) : asgQ K .normal e σ H := h
theorem rnd_n {J : List Code} {K : Nat → Store → List Res → Prop} {e : Env} {σ : Store} {H : List Res} (h : K 0 σ H) : rndQ J K .normal e σ H := h
theorem rnd_r {J : List Code} {K : Nat → Store → List Res → Prop} {e : Env} {σ : Store} {H : List Res} (j : Nat) (hj : J[j]? = some .ret) (h : K (j + 1) σ H) : rndQ J K .ret e σ H := ⟨j, hj, h⟩
def jsel {α : Type} : Nat → Option α → (Nat → Option α) → Option α
  | 0, a, _ => a
  | n + 1, _, b => b n
theorem jmp_split {X : Ctx} {Q : QP} {J : List Code} {n : Nat} {e : Env} {σ : Store} {H : List Res} {α : Type} {a : Option α} {b : Nat → Option α} {r : α} (hh : jsel n a b = some r)
    (h0 : a = some r → Q .normal e σ H) (h1 : ∀ m c, b m = some r → J[m]? = some c → TC X Q c e σ H) : jmpQ X Q J n e σ H := by
  cases n with
  | zero => exact h0 hh
  | succ m => exact fun c hc => h1 m c hh hc
theorem jl_split {X : Ctx} {Q : QP} {J : List Code} {c0 c : Code} {m : Nat} {e : Env} {σ : Store} {H : List Res} {α : Type} {a : Option α} {b : Nat → Option α} {r : α} (hh : jsel m a b = some r) (hc : (c0 :: J)[m]? = some c)
    (h0 : a = some r → TC X Q c0 e σ H) (h1 : ∀ m, b m = some r → J[m]? = some c → TC X Q c e σ H) : TC X Q c e σ H := by
  cases m with
  | zero => simp at hc; subst hc; exact h0 hh
  | succ m => exact h1 m hh (by simpa using hc)
theorem jl_nil {X : Ctx} {Q : QP} {c : Code} {m : Nat} {e : Env} {σ : Store} {H : List Res} (hc : ([] : List Code)[m]? = some c) : TC X Q c e σ H := by simp at hc
end Go.E
end

section
namespace Go.Proofs.YtamgjehhjkgelaaGreatDoor
open Go Go.E Go.E.OpVal Go.E.OpOk Go.Proofs.Tryz
private theorem ag48 : Go.E.aggOf Tryz.prog 48 = some false := by kernel_rfl
private theorem ag99 : Go.E.aggOf Tryz.prog 99 = some false := by kernel_rfl
private theorem by55 : Go.E.byOf Tryz.prog 55 = some 32 := by kernel_rfl
private theorem fo50_0 : Go.E.foOf Tryz.prog 50 0 = some 0 := by kernel_rfl
private theorem fo50_1 : Go.E.foOf Tryz.prog 50 1 = some 1 := by kernel_rfl
private theorem fo50_2 : Go.E.foOf Tryz.prog 50 2 = some 2 := by kernel_rfl
private theorem pf106 : Go.E.plainF Tryz.prog 106 = true := by kernel_rfl
private theorem pf28 : Go.E.plainF Tryz.prog 28 = true := by kernel_rfl
private theorem pf62 : Go.E.plainF Tryz.prog 62 = true := by kernel_rfl
private theorem pf75 : Go.E.plainF Tryz.prog 75 = true := by kernel_rfl
private theorem pf76 : Go.E.plainF Tryz.prog 76 = true := by kernel_rfl
private theorem pf77 : Go.E.plainF Tryz.prog 77 = true := by kernel_rfl
private theorem pf84 : Go.E.plainF Tryz.prog 84 = true := by kernel_rfl
noncomputable def An_ (x0 : Nat) : Option (Int) :=
 iteO (decide (x0 = 0)) (some 64) (grd ((u64shr (u64mul (u64and x0 (u64of (-((x0 : Nat) : Int)))) 285870213051353865) 58) < 64) (some (((nth deB (u64shr (u64mul (u64and x0 (u64of (-((x0 : Nat) : Int)))) 285870213051353865) 58) (0 : UInt8)).toNat : Nat) : Int)))
theorem D2_ {σ : Store} {x0 : Nat} (hgl : GT σ 1 encU8 deB) {r : Int} (hh : An_ x0 = some r) :
  Con Tryz.prog 106 #[.int .u64 ((x0 : Nat) : Int)] σ [] (PureP (.int .i64 r) σ) := by
 dsimp only [An_] at hh
 refine Con.mk (n := 14) Tryz.func106 z z z (fun w0 => ?_)
 refine TC.a (TL.i z z (TL.en (TC.seq (TC.a (TL.i z z (TL.w z (eqlU z z z) (TL.en (TC.cD z hh (fun h101 hh => ?_) (fun h101 hh => ?_)))))))))
 ·refine TC.a (TL.i z z (TL.en (TC.ret (S.r ?_))))
  obtain rfl := so hh
  exact rq [2] ⟨z, z, z⟩
 ·refine TC.skip (S.n (TC.a (TL.i z z (TL.i z z (TL.w z (negU z z) (TL.w z (andU z z z) (TL.w z (mulU (b := 285870213051353865) z z z) (TL.w z (shrU (b := 58) z z z) ?_))))))))
  have u11 := grd_c hh
  replace hh := grd_t hh
  refine TL.w z (indexArrN z underlying203 sz5 z z (by omega)) (TL.w z (loadG1 (0 : UInt8) z ag5 z hgl (by simp only [deB, List.length_cons, List.length_nil]; omega) encU8_len z) (TL.w z (convN z underlying5 underlying3 z (by have := UInt8.toNat_lt (nth deB (u64shr (u64mul (u64and x0 (u64of (-((x0 : Nat) : Int)))) 285870213051353865) 58) (0 : UInt8)); simp only [kmax]; omega)) (TL.i z z (TL.en (TC.ret ?_)))))
  obtain rfl := so hh
  exact rq [2] ⟨z, z, z⟩
noncomputable def B6_ (x0 : BSet) (k105 : Nat) : Option ((Nat) ⊕ (UInt8 × Bool)) :=
 iteO (decide (((k105 : Nat) : Int) < 4)) (grd (k105 < 4) (iteO (decide ((BSet.word x0 k105) ≠ 0)) (bnd (An_ (BSet.word x0 k105)) (fun v16 => fin (some ((toU8 (IntKind.i64.wrap ((IntKind.i64.wrap (64 * ((k105 : Nat) : Int))) + v16))), true)))) (nxt (k105 + 1)))) (fin (some ((0 : UInt8), false)))
noncomputable def Dj_ (x0 : BSet) : Option (UInt8 × Bool) :=
 iter (fun q : Nat => B6_ x0 q) 0
theorem F1_ {σ : Store} {x0 : BSet} (hgl : GT σ 1 encU8 deB) {r : UInt8 × Bool} (hh : Dj_ x0 = some r) :
  Con Tryz.prog 77 #[setV x0] σ [] (PureP (.tuple #[.int .u8 ((r.1.toNat : Nat) : Int), .bool r.2]) σ) := by
 dsimp only [Dj_] at hh
 refine Con.mk (n := 20) Tryz.func77 z z z (fun w0 => ?_)
 refine TC.a (TL.op z (boxA z z z z (fun b101 => ?_)))
 refine TL.i z z (TL.j z z (TL.en (TC.seq (TC.a (TL.w z (loadAll z ag55 sz55 z (i := 0) z z) (TL.i z z (TL.en (TC.block (TC.loopG (α := (Nat) × (Unit)) (rgs [(2, 4), (7, 13)]) (fun g => [(7, .int .i64 ((g.1 : Nat) : Int))]) (fun g => []) (fun g => σ) (fun g => iter (fun q : Nat => B6_ x0 q) g.1 = some r) (fun g => rounds (fun q : Nat => B6_ x0 q) g.1) (0, ()) (Sub.pre 0 z) z (by repeat (first | exact trivial | refine ⟨z, ?_⟩)) hh (fun g1 j1 hg1 => ?_))))))))))
 obtain ⟨k105, _⟩ := g1
 have hh := hg1; clear hg1
 try dsimp only
 obtain ⟨z1, hh, hR1⟩ := iter_e hh
 dsimp only [B6_] at hh
 refine TC.a (TL.w z (OpVal.lss z z z) (TL.en (TC.seq (TC.cD z hh (fun h106 hh => ?_) (fun h106 hh => ?_)))))
 ·refine TC.skip (S.n (TC.seq (TC.block (TC.a (TL.i z z ?_)))))
  have u8 := grd_c hh
  replace hh := grd_t hh
  refine TL.w z (indexSet z underlying55 sz53 ag53 z z (by omega)) (TL.i z z (TL.i z z (TL.en (TC.a (TL.i z z (TL.w z (neqU z z z) (TL.en (TC.cD z hh (fun h107 hh => ?_) (fun h107 hh => ?_)))))))))
  ·refine TC.a (TL.i z z (TL.w z (mulW z z z) (TL.i z z ?_)))
   obtain ⟨v16, u16, hh⟩ := bnd_e hh
   refine TL.op z (callP (D2_ hgl u16) z z pf106 z z z ?_)
   refine TL.w z (addW z z z) (TL.w z (convU8 z underlying3 underlying5 z) (TL.i z z (TL.j z z (TL.en (TC.ret (B.r (S.r (S.r ?_))))))))
   replace hh := fin_x hR1 hh
   refine B.r (S.r ?_)
   obtain rfl := so hh
   exact rq [2, 3] ⟨z, z, z⟩
  ·refine TC.skip (B.n (S.n (TC.region (TL.w z (OpVal.succ z z z (by omega)) (TL.i z z (TL.en ?_))))))
   obtain ⟨hh, hlt108⟩ := nxt_x hR1 hh
   exact lf ((k105 + 1), ()) hlt108 hh (Sub.pre 0 z)
 ·refine TC.exit (S.x (S.x ?_))
  replace hh := fin_x hR1 hh
  refine TC.exitHere (S.n (TC.a (TL.i z z (TL.j z z (TL.en (TC.ret ?_))))))
  obtain rfl := so hh
  exact rq [2, 3] ⟨z, z, z⟩
noncomputable def A1_ (x1 : BSet) (z111 : BSet) (k112 : Nat) : Option ((BSet × Nat) ⊕ (BSet)) :=
 iteO (decide (((k112 : Nat) : Int) < 4)) (grd (k112 < 4) (grd (k112 < 4) (grd (k112 < 4) (grd ((u64or (BSet.word z111 k112) (BSet.word x1 k112)) < 18446744073709551616) (nxt ((BSet.setWord z111 k112 (u64or (BSet.word z111 k112) (BSet.word x1 k112))), (k112 + 1))))))) (fin (some z111))
noncomputable def Cl_ (x0 : BSet) (x1 : BSet) : Option (BSet) :=
 iter (fun q : BSet × Nat => A1_ x1 q.1 q.2) (x0, 0)
theorem Fl_ {σ : Store} {x0 : BSet} {x1 : BSet}  {r : BSet} (hh : Cl_ x0 x1 = some r) :
  Con Tryz.prog 76 #[setV x0, setV x1] σ [] (PureP (setV r) σ) := by
 dsimp only [Cl_] at hh
 refine Con.mk (n := 19) Tryz.func76 z z z (fun w0 => ?_)
 refine TC.a (TL.op z (boxA z z z z (fun b101 => ?_)))
 refine TL.op z (boxA z z z z (fun b103 => ?_))
 refine TL.op z (OpOk.alloc z ze55 z z (fun b105 => ?_))
 refine TL.en (TC.seq (TC.a (TL.i z z (TL.en (TC.block (TC.loopG (α := (BSet × Nat) × (Unit)) (rgs [(5, 13)]) (fun g => [(6, .int .i64 ((g.1.2 : Nat) : Int))]) (fun g => [Res.cells b101 (setA g.1.1) 55, Res.cells b103 (setA x1) 55, Res.cells b105 (setA BSet.zero) 55]) (fun g => σ) (fun g => iter (fun q : BSet × Nat => A1_ x1 q.1 q.2) g.1 = some r) (fun g => rounds (fun q : BSet × Nat => A1_ x1 q.1 q.2) g.1) ((x0, 0), ()) (Sub.f [1, 2] 3) z (by repeat (first | exact trivial | refine ⟨z, ?_⟩)) hh (fun g1 j1 hg1 => ?_)))))))
 obtain ⟨⟨z111, k112⟩, _⟩ := g1
 have hh := hg1; clear hg1
 try dsimp only
 obtain ⟨z1, hh, hR1⟩ := iter_e hh
 dsimp only [A1_] at hh
 refine TC.a (TL.w z (OpVal.lss z z z) (TL.en (TC.seq (TC.cD z hh (fun h113 hh => ?_) (fun h113 hh => ?_)))))
 ·refine TC.skip (S.n (TC.seq (TC.block (TC.a (TL.i z z (TL.i z z (TL.en ?_)))))))
  have u9 := grd_c hh
  replace hh := grd_t hh
  have u12 := grd_c hh
  replace hh := grd_t hh
  have u15 := grd_c hh
  replace hh := grd_t hh
  have u16 := grd_c hh
  replace hh := grd_t hh
  refine TC.draw [8] (by kernel_rfl) (TA.a 0 z (moveI (.inl z) z) z (TA.b 1 z (indexArrN z underlying55 sz53 z z (by omega)) z (TA.b 2 z (loadWordAt z111 z ag53 z (j := 0) z (by omega) z) z (TA.a 3 z (moveI (.inl z) z) z (TA.b 4 z (indexArrN z underlying55 sz53 z z (by omega)) z (TA.b 5 z (loadWordAt x1 z ag53 z (j := 1) z (by omega) z) z (TA.a 6 z (orU z z z) z (TA.b 7 z (indexArrN z underlying55 sz53 z z (by omega)) z (TA.last 8 (by kernel_rfl) z z z (storeWord z sz53 z z z (by omega) u16 ?_))))))))))
  refine TZ.done (by kernel_rfl) (B.n (S.n (TC.region (TL.w z (OpVal.succ z z z (by omega)) (TL.i z z (TL.en ?_))))))
  obtain ⟨hh, hlt114⟩ := nxt_x hR1 hh
  exact lf (((BSet.setWord z111 k112 (u64or (BSet.word z111 k112) (BSet.word x1 k112))), (k112 + 1)), ()) hlt114 hh (Sub.f [2, 2, 2] 3)
 ·refine TC.exit (S.x (S.x ?_))
  replace hh := fin_x hR1 hh
  refine TC.exitHere (S.n (TC.a (TL.w z (loadAll z ag55 sz55 z (i := 0) z z) (TL.front 2 z z (TL.op z (storeAll z sz55 z z z z z z ?_))))))
  refine TL.en (TC.rt 1 ?_)
  obtain rfl := so hh
  exact ro [] z (RVs.agg ag55 sz55 z (i := 0) z z RVs.nil) ⟨z, z, z⟩
noncomputable def Cp_ (k112 : Nat) (l115 : List UInt8) : Option (((List UInt8) × Nat) ⊕ ((List UInt8))) :=
 nxt (l115, (k112 + 1))
noncomputable def Cj_ (x0 : List BSet) (x1 : UInt8) (l110 : List UInt8) (k112 : Nat) : Option (((List UInt8) × Nat) ⊕ ((List UInt8))) :=
 iteO (decide (((k112 : Nat) : Int) < ((x0.length : Nat) : Int))) (iteO ((nth x0 k112 BSet.zero).has x1.toNat) (grd (k112 < l110.length) (Cp_ k112 (l110.set k112 (1 : UInt8)))) (Cp_ k112 l110)) (fin (some l110))
noncomputable def E0_ (x0 : List BSet) (x1 : UInt8) : Option ((List UInt8)) :=
 grd (1 * x0.length ≤ 281474976710656) (iter (fun q : (List UInt8) × Nat => Cj_ x0 x1 q.1 q.2) ((List.replicate x0.length (0 : UInt8)), 0))
theorem G3_ {σ : Store} {x0 : List BSet} {a0_0 : Option Addr} {c0_0 : Nat} {x1 : UInt8} (f0_0 : RS σ 4 encSet (.slice a0_0 x0.length c0_0) x0) {r : (List UInt8)} (hh : E0_ x0 x1 = some r) :
  Con Tryz.prog 75 #[.slice a0_0 x0.length c0_0, .int .u8 ((x1.toNat : Nat) : Int)] σ [] (PureP (.string (bs r)) σ) := by
 dsimp only [E0_] at hh
 have f0_0b := f0_0.rv.big
 refine Con.mk (n := 27) Tryz.func75 z z z (fun w0 => ?_)
 refine TC.a (TL.w z (moveStr (.inr z) z) (TL.en (TC.a (TL.s z z (TL.w z (lenC z underlying99 z) ?_)))))
 have u4 := grd_c hh
 replace hh := grd_t hh
 refine TL.op z (makeS2 (enc := encU8) (0 : UInt8) z underlying134 sz5 by5 ze5 z z z z (by omega) (by decide) encU8_len (by decide) z encU8_one (fun a101 c102 => ?_))
 refine TL.s z z (TL.en (TC.seq (TC.a (TL.s z z (TL.w z (lenC z underlying99 z) (TL.i z z (TL.en (TC.block (TC.loopG (α := ((List UInt8) × Nat) × (Unit)) (rgs [(6, 2), (13, 12)]) (fun g => [(13, .int .i64 ((g.1.2 : Nat) : Int))]) (fun g => [Res.rowS 5 1 encU8 (.slice a101 (List.replicate x0.length (0 : UInt8)).length c102) g.1.1]) (fun g => σ) (fun g => iter (fun q : (List UInt8) × Nat => Cj_ x0 x1 q.1 q.2) g.1 = some r ∧ g.1.1.length = (List.replicate x0.length (0 : UInt8)).length) (fun g => rounds (fun q : (List UInt8) × Nat => Cj_ x0 x1 q.1 q.2) g.1) (((List.replicate x0.length (0 : UInt8)), 0), ()) (Sub.pre 1 z) z (by repeat (first | exact trivial | refine ⟨z, ?_⟩)) ⟨hh, z⟩ (fun g1 j1 hg1 => ?_))))))))))
 obtain ⟨⟨l110, k112⟩, _⟩ := g1
 obtain ⟨hh, hn111⟩ := hg1
 try dsimp only at hn111 ⊢
 obtain ⟨z1, hh, hR1⟩ := iter_e hh
 dsimp only [Cj_] at hh
 have hn111b := hn111
 refine TC.isSl (i := 0) z (fun _ hb113 _ => ?_)
 refine TC.a (TL.w z (OpVal.lss z z z) (TL.en (TC.seq (TC.cD z hh (fun h114 hh => ?_) (fun h114 hh => ?_)))))
 ·refine TC.skip (S.n (TC.cutG (α := ((List UInt8)) × (Unit)) (rgs [(6, 2), (15, 9)]) (fun g => []) (fun g => [Res.rowS 5 1 encU8 (.slice a101 (List.replicate x0.length (0 : UInt8)).length c102) g.1]) (fun g => σ) (fun g => Cp_ k112 g.1 = some z1 ∧ g.1.length = (List.replicate x0.length (0 : UInt8)).length) ?_ (fun g j hg => ?_)))
  ·skip
   refine TC.block (TC.a (TL.i z z (TL.w z (indexN z underlying99 sz55 z z f0_0.rv.sl (by omega)) (TL.w z (loadSA BSet.zero z ag55 sz55 z f0_0 (by omega) (by omega)) (TL.op z (OpOk.alloc z ze55 z z (fun b117 => ?_)))))))
   refine TL.i z z (TL.op z (storeAll z sz55 z z z z z z ?_))
   refine TL.en (TC.a (TL.w z (loadAll z ag55 sz55 z (i := 0) z z) (TL.i z z (TL.op z (callP (has_con _ (nth x0 k112 BSet.zero) x1.toNat (BSet.isOk _) (UInt8.toNat_lt _)) z z pf62 z z z ?_)))))
   refine TL.en (TC.cB z hh (fun h119 hh => ?_) (fun h119 hh => ?_))
   ·refine TC.region (TL.s z z (TL.i z z ?_))
    have u21 := grd_c hh
    replace hh := grd_t hh
    refine TL.isSl (i := 1) z (fun hs120 _ _ => ?_)
    refine TL.w z (indexN z underlying134 sz5 z z hs120 (by omega)) (TL.front 1 z z ?_)
    have hn121 : (l110.set k112 (1 : UInt8)).length = (List.replicate x0.length (0 : UInt8)).length := by rw [List.length_set]; exact hn111
    refine TL.op z (storeS (1 : UInt8) z sz5 z z z z encU8_len encU8_one (by omega) (by omega) ?_)
    exact TL.nil (B.n (S.n (cf ((l110.set k112 (1 : UInt8)), ()) ⟨hh, hn121⟩ (Sub.pre 1 z))))
   ·exact TC.skip (B.n (S.n (cf (l110, ()) ⟨hh, hn111⟩ (Sub.f [1] 1))))
  ·skip
   obtain ⟨l115, _⟩ := g
   obtain ⟨hh, hn116⟩ := hg
   try dsimp only at hn116 ⊢
   dsimp only [Cp_] at hh
   have hn116b := hn116
   refine TC.isSl (i := 0) z (fun _ hb122 _ => ?_)
   refine TC.region (TL.w z (OpVal.succ z z z (by omega)) (TL.i z z (TL.en ?_)))
   obtain ⟨hh, hlt123⟩ := nxt_x hR1 hh
   exact lf ((l115, (k112 + 1)), ()) hlt123 ⟨hh, hn116⟩ (Sub.pre 1 z)
 ·refine TC.exit (S.x (S.x ?_))
  replace hh := fin_x hR1 hh
  refine TC.exitHere (S.n (TC.a (TL.s z z (TL.isSl (i := 0) z (fun hs124 _ _ => ?_)))))
  refine TL.w z (bytesStr (l := l110) z underlying134 underlying5 underlying9 z hs124 (fun w hw => rdb_row (q := 0) z hw)) (TL.w z (moveStr (.inr z) z) (TL.en (TC.rt 0 ?_)))
  obtain rfl := so hh
  exact rq [4] ⟨z, z, z⟩
noncomputable def Bt_ (k121 : Nat) (m125 : FM (List UInt8) Int) (l126 : List BSet) (i129 : Int) : Option (((FM (List UInt8) Int) × (List BSet) × Nat) ⊕ ((List BSet) × Int)) :=
 grd (0 ≤ i129 ∧ i129 < (l126.length : Int)) (grd ([(toU8 ((k121 : Nat) : Int))].length ≤ 1000000000000) (bnd (Cl_ (nth l126 i129.toNat BSet.zero) (BSet.ofL [(toU8 ((k121 : Nat) : Int))])) (fun v52 => grd (0 ≤ i129 ∧ i129 < (l126.length : Int)) (nxt (m125, (l126.set i129.toNat v52), (k121 + 1))))))
noncomputable def Bz_ (x0 : List BSet) (m116 : FM (List UInt8) Int) (l118 : List BSet) (k121 : Nat) : Option (((FM (List UInt8) Int) × (List BSet) × Nat) ⊕ ((List BSet) × Int)) :=
 iteO (decide (((k121 : Nat) : Int) < 256)) (bnd (E0_ x0 (toU8 ((k121 : Nat) : Int))) (fun v18 => iteO (!(m116.has v18)) (grd ((l118.length + [BSet.zero].length) * 32 ≤ 140737488355328) (Bt_ k121 (m116.put v18 ((l118.length : Nat) : Int)) (l118 ++ [BSet.zero]) ((l118.length : Nat) : Int))) (Bt_ k121 m116 l118 (m116.get v18 0)))) (fin (some (l118, 0)))
noncomputable def Do_ (x0 : List BSet) : Option ((List BSet) × Int) :=
 iteO (decide (1024 < ((x0.length : Nat) : Int))) (some (([] : List BSet), 2)) (iter (fun q : (FM (List UInt8) Int) × (List BSet) × Nat => Bz_ x0 q.1 q.2.1 q.2.2) ((FM.emp : FM (List UInt8) Int), ([] : List BSet), 0))
def G1_ (σ : Store) (r : (List BSet) × Int) : Value → Store → List Res → Prop := fun v σ' H' =>
 ∃ (a1 : Option Addr), ∃ (c1 : Nat),  v = .tuple #[.slice a1 r.1.length c1, .int .i64 r.2] ∧ RS σ' 4 encSet (.slice a1 r.1.length c1) r.1 ∧ H' = []
theorem Gm_ {σ : Store} {x0 : List BSet} {a0_0 : Option Addr} {c0_0 : Nat} (f0_0 : RS σ 4 encSet (.slice a0_0 x0.length c0_0) x0) {r : (List BSet) × Int} (hh : Do_ x0 = some r) :
  Con Tryz.prog 39 #[.slice a0_0 x0.length c0_0] σ [] (G1_ σ r) := by
 dsimp only [Do_] at hh
 have f0_0b := f0_0.rv.big
 refine Con.mk (n := 52) Tryz.func39 z z z (fun w0 => ?_)
 refine TC.a (TL.s z z (TL.i z z (TL.en (TC.seq (TC.a (TL.s z z (TL.w z (lenC z underlying99 z) (TL.w z (OpVal.gtr z z z) (TL.en (TC.cD z hh (fun h101 hh => ?_) (fun h101 hh => ?_)))))))))))
 ·refine TC.a (TL.s z z (TL.i z z (TL.en (TC.ret (S.r ?_)))))
  obtain rfl := so hh
  exact rq [2, 3] ⟨none, 0, z, (RS.nilF _ encSet encSet_len), z⟩
 ·refine TC.skip (S.n (TC.a (TL.op z (makeMapB (enc := keyS) (encV := keyI) z z z (fun b102 => ?_)))))
  refine TL.w z (moveMap (.inr z) z) (TL.en (TC.a (TL.s z z (TL.en (TC.seq (TC.a (TL.i z z (TL.en (TC.block (TC.nilS 55 4 encSet (TC.loopG (α := ((FM (List UInt8) Int) × (List BSet) × Nat) × ((Option Addr) × Nat)) (rgs [(5, 5), (14, 37)]) (fun g => [(5, .slice g.2.1 g.1.2.1.length g.2.2), (14, .int .i64 ((g.1.2.2 : Nat) : Int))]) (fun g => [Res.mapB keyS keyI (some b102) g.1.1, Res.rowS 55 4 encSet (.slice g.2.1 g.1.2.1.length g.2.2) g.1.2.1]) (fun g => σ) (fun g => iter (fun q : (FM (List UInt8) Int) × (List BSet) × Nat => Bz_ x0 q.1 q.2.1 q.2.2) g.1 = some r) (fun g => rounds (fun q : (FM (List UInt8) Int) × (List BSet) × Nat => Bz_ x0 q.1 q.2.1 q.2.2) g.1) (((FM.emp : FM (List UInt8) Int), ([] : List BSet), 0), (none, 0)) (Sub.f [1] 2) z (by repeat (first | exact trivial | refine ⟨z, ?_⟩)) hh (fun g1 j1 hg1 => ?_))))))))))))
  obtain ⟨⟨m116, l118, k121⟩, ⟨a119, c120⟩⟩ := g1
  have hh := hg1; clear hg1
  try dsimp only
  obtain ⟨z1, hh, hR1⟩ := iter_e hh
  dsimp only [Bz_] at hh
  refine TC.isSl (i := 1) z (fun _ hb123 _ => ?_)
  refine TC.a (TL.w z (OpVal.lss z z z) (TL.en (TC.seq (TC.cD z hh (fun h124 hh => ?_) (fun h124 hh => ?_)))))
  ·refine TC.skip (S.n (TC.seq (TC.block (TC.a (TL.i z z (TL.i z z (TL.en (TC.a (TL.s z z (TL.i z z (TL.w z (convU8 z underlying3 underlying5 z) ?_)))))))))))
   obtain ⟨v18, u18, hh⟩ := bnd_e hh
   refine TL.op z (callP (G3_ f0_0 u18) z z pf75 z z z ?_)
   refine TL.w z (moveStr (.inr z) z) (TL.en (TC.a (TL.w z (moveMap (.inl z) z) (TL.w z (moveStr (.inl z) z) (TL.w z (OpVal.of (lookB 0 (q := v18) z underlying143 ze3 z (i := 0) z z (keyL_str underlying9)) (v' := .tuple #[.int .i64 (m116.get v18 0), .bool (m116.has v18)]) z) (TL.w z (moveT (.inl z) z) (TL.w z (OpVal.extract z z z) (TL.w z (OpVal.extract z z z) (TL.i z z (TL.j z z (TL.en (TC.cutG (α := ((FM (List UInt8) Int) × (List BSet) × Int) × ((Option Addr) × Nat)) (rgs [(5, 1), (8, 1), (27, 11)]) (fun g => [(5, .slice g.2.1 g.1.2.1.length g.2.2), (8, .int .i64 g.1.2.2)]) (fun g => [Res.mapB keyS keyI (some b102) g.1.1, Res.rowS 55 4 encSet (.slice g.2.1 g.1.2.1.length g.2.2) g.1.2.1]) (fun g => σ) (fun g => Bt_ k121 g.1.1 g.1.2.1 g.1.2.2 = some z1) ?_ (fun g j hg => ?_)))))))))))))
   ·skip
    refine TC.a (TL.j z z (TL.w z (OpVal.not z z) (TL.en (TC.cB z hh (fun h130 hh => ?_) (fun h130 hh => ?_)))))
    ·refine TC.a (TL.s z z (TL.w z (lenC z underlying99 z) (TL.i z z (TL.en (TC.a (TL.w z (moveMap (.inl z) z) (TL.w z (moveStr (.inl z) z) (TL.i z z (TL.op z (updB v18 ((l118.length : Nat) : Int) z underlying143 z z z z (keyL_str underlying9) ?_))))))))))
     refine TL.en (TC.region (TL.s z z (TL.w z (buildArrL z underlying55 sz53 ze55 z) (TL.op z (OpOk.lit (enc := encSet) [BSet.zero] z underlying99 sz55 ze55 z z z encSet_len (by decide) (by decide) BSet.zero z (by decide) z (by decide) encSet_one (fun a131 c132 => ?_))))))
     refine TL.front 2 z z ?_
     have u40 := grd_c hh
     replace hh := grd_t hh
     refine TL.op z (appendS z z underlying99 sz55 by55 ze55 z z (by decide) z z z (.inr ⟨_, 0, z⟩) (by simpa using u40) (by decide) (fun a134 c135 => ?_))
     exact TL.s z z (TL.en (cf (((m116.put v18 ((l118.length : Nat) : Int)), (l118 ++ [BSet.zero]), ((l118.length : Nat) : Int)), (a134, c135)) hh (Sub.f [2] 2)))
    ·exact TC.skip (S.n (cf ((m116, l118, (m116.get v18 0)), (a119, c120)) hh (Sub.f [1, 1] 2)))
   ·skip
    obtain ⟨⟨m125, l126, i129⟩, ⟨a127, c128⟩⟩ := g
    have hh := hg; clear hg
    try dsimp only
    dsimp only [Bt_] at hh
    refine TC.isSl (i := 1) z (fun _ hb136 _ => ?_)
    have u46 := grd_c hh
    replace hh := grd_t hh
    have u51 := grd_c hh
    replace hh := grd_t hh
    obtain ⟨v52, u52, hh⟩ := bnd_e hh
    have u53 := grd_c hh
    replace hh := grd_t hh
    refine TC.draw [12] (by kernel_rfl) (TA.a 0 z (moveSl (.inl z) z) z (TA.a 1 z (moveI (.inl z) z) z (TA.a 2 z (moveSl (.inl z) z) z (TA.a 3 z (moveI (.inl z) z) z (TA.isSl (i := 1) z (fun hs143 _ _ => ?_))))))
    refine TA.b 4 z (OpVal.index z underlying99 sz55 z z hs143 u46.1 u46.2) z (TA.b 5 z (loadOA BSet.zero z ag55 sz55 z (q := 1) z encSet_len (by omega) (by omega)) z (TA.a 6 z (moveI (.inl z) z) z (TA.a 7 z (convU8 z underlying3 underlying5 z) z (TA.ac 8 z (OpOk.lit (enc := encU8) [(toU8 ((k121 : Nat) : Int))] z underlying134 sz5 ze5 z z z encU8_len (by decide) (by decide) (0 : UInt8) z (by decide) z (by decide) encU8_one (fun a144 c145 => (k1 ?_)))))))
    refine TA.ac 9 z (callT (of_con _ _ _ [(toU8 ((k121 : Nat) : Int))] u51) z z pf28 z z z z (k0 ?_))
    refine TA.ac 10 z (callP (Fl_ u52) z z pf76 z z z (k0 ?_))
    refine TA.isSl (i := 1) z (fun hs147 _ _ => ?_)
    refine TA.b 11 z (OpVal.index z underlying99 sz55 z z hs147 u53.1 u53.2) z (TA.front 1 z z ?_)
    have hn148 : (l126.set i129.toNat v52).length = l126.length := by rw [List.length_set]
    refine TA.last 12 (by kernel_rfl) z z z (storeS v52 z sz55 z z z z encSet_len encSet_one (by omega) (by omega) ?_)
    refine TZ.done (by kernel_rfl) (B.n (S.n (TC.region (TL.w z (OpVal.succ z z z (by omega)) (TL.i z z ?_)))))
    rw [← hn148]
    refine TL.en ?_
    obtain ⟨hh, hlt149⟩ := nxt_x hR1 hh
    exact lf ((m125, (l126.set i129.toNat v52), (k121 + 1)), (a127, c128)) hlt149 hh (Sub.f [1] 2)
  ·refine TC.exit (S.x (S.x ?_))
   replace hh := fin_x hR1 hh
   refine TC.exitHere (S.n (TC.a (TL.s z z (TL.s z z (TL.i z z (TL.en (TC.front 1 z z (TC.sealS encSet_len (fun τ152 hle151 hr150 => ?_)))))))))
   have hr150b := hr150.rv.big
   refine TC.rt 0 ?_
   obtain rfl := so hh
   exact rq [2, 3] ⟨a119, c120, z, hr150, z⟩
noncomputable def Bs_ (k146 : Nat) (l149 : List Int) : Option (((List Int) × Nat) ⊕ (((List Int) × Int × Nat) ⊕ ((List Int) × Int))) :=
 nxt (l149, (k146 + 1))
noncomputable def Bp_ (x0 : List BSet) (k130 : Nat) (v29 : UInt8 × Bool) (l144 : List Int) (k146 : Nat) : Option (((List Int) × Nat) ⊕ (((List Int) × Int × Nat) ⊕ ((List Int) × Int))) :=
 iteO (decide (((k146 : Nat) : Int) < 256)) (iteO (!((nth x0 k130 BSet.zero).has (toU8 ((k146 : Nat) : Int)).toNat)) (Bs_ k146 l144) (grd (k146 < l144.length) (iteO (decide (0 ≤ (nth l144 k146 (0 : Int)))) (fin (fin (some (([] : List Int), 1)))) (grd (k146 < l144.length) (Bs_ k146 (l144.set k146 ((k130 : Nat) : Int))))))) (fin (nxt (l144, ((v29.1.toNat : Nat) : Int), (k130 + 1))))
noncomputable def By_ (l127 : List Int) (k165 : Nat) : Option ((Nat) ⊕ ((List Int) × Int)) :=
 iteO (decide (((k165 : Nat) : Int) < (((List.replicate 256 (0 : Int)).length : Nat) : Int))) (grd (k165 < l127.length) (iteO (decide ((nth l127 k165 (0 : Int)) < 0)) (fin (some (([] : List Int), 1))) (nxt (k165 + 1)))) (fin (some (l127, 0)))
noncomputable def B0_ (x0 : List BSet) (l127 : List Int) (i129 : Int) (k130 : Nat) : Option (((List Int) × Int × Nat) ⊕ ((List Int) × Int)) :=
 iteO (decide (((k130 : Nat) : Int) < ((x0.length : Nat) : Int))) (bnd (Dj_ (nth x0 k130 BSet.zero)) (fun v29 => iteO (!v29.2) (fin (some (([] : List Int), 1))) (iteO (decide (((v29.1.toNat : Nat) : Int) ≤ i129)) (fin (some (([] : List Int), 1))) (iter (fun q : (List Int) × Nat => Bp_ x0 k130 v29 q.1 q.2) (l127, 0))))) (fin (iter (fun q : Nat => By_ l127 q) 0))
noncomputable def Br_ (x0 : List BSet) (l110 : List Int) (k112 : Nat) : Option (((List Int) × Nat) ⊕ ((List Int) × Int)) :=
 iteO (decide (((k112 : Nat) : Int) < (((List.replicate 256 (0 : Int)).length : Nat) : Int))) (grd (k112 < l110.length) (nxt ((l110.set k112 (-1)), (k112 + 1)))) (fin (iter (fun q : (List Int) × Int × Nat => B0_ x0 q.1 q.2.1 q.2.2) (l110, (-1), 0)))
noncomputable def Dz_ (x0 : List BSet) : Option ((List Int) × Int) :=
 iter (fun q : (List Int) × Nat => Br_ x0 q.1 q.2) ((List.replicate 256 (0 : Int)), 0)
def Gt_ (σ : Store) (r : (List Int) × Int) : Value → Store → List Res → Prop := fun v σ' H' =>
 ∃ (a1 : Option Addr), ∃ (c1 : Nat),  v = .tuple #[.slice a1 r.1.length c1, .int .i64 r.2] ∧ RS σ' 1 Go.E.encI (.slice a1 r.1.length c1) r.1 ∧ H' = []
theorem Gk_ {σ : Store} {x0 : List BSet} {a0_0 : Option Addr} {c0_0 : Nat} (hgl : GT σ 1 encU8 deB) (f0_0 : RS σ 4 encSet (.slice a0_0 x0.length c0_0) x0) {r : (List Int) × Int} (hh : Dz_ x0 = some r) :
  Con Tryz.prog 41 #[.slice a0_0 x0.length c0_0] σ [] (Gt_ σ r) := by
 dsimp only [Dz_] at hh
 have f0_0b := f0_0.rv.big
 refine Con.mk (n := 75) Tryz.func41 z z z (fun w0 => ?_)
 refine TC.a (TL.s z z (TL.i z z (TL.en (TC.a (TL.op z (makeS2 (m := 256) (enc := Go.E.encI) (0 : Int) z underlying46 sz3 by3 ze3 z z z z (by omega) (by decide) Go.E.encI_len (by decide) z Go.E.encI_one (fun a101 c102 => ?_)))))))
 refine TL.s z z (TL.en (TC.seq (TC.a (TL.s z z (TL.w z (lenC z underlying46 z) (TL.i z z (TL.en (TC.block (TC.loopG (α := ((List Int) × Nat) × (Unit)) (rgs [(5, 1), (17, 7)]) (fun g => [(17, .int .i64 ((g.1.2 : Nat) : Int))]) (fun g => [Res.rowS 3 1 Go.E.encI (.slice a101 (List.replicate 256 (0 : Int)).length c102) g.1.1]) (fun g => σ) (fun g => iter (fun q : (List Int) × Nat => Br_ x0 q.1 q.2) g.1 = some r ∧ g.1.1.length = (List.replicate 256 (0 : Int)).length) (fun g => rounds (fun q : (List Int) × Nat => Br_ x0 q.1 q.2) g.1) (((List.replicate 256 (0 : Int)), 0), ()) (Sub.pre 1 z) z (by repeat (first | exact trivial | refine ⟨z, ?_⟩)) ⟨hh, z⟩ (fun g1 j1 hg1 => ?_))))))))))
 obtain ⟨⟨l110, k112⟩, _⟩ := g1
 obtain ⟨hh, hn111⟩ := hg1
 try dsimp only at hn111 ⊢
 obtain ⟨z1, hh, hR1⟩ := iter_e hh
 dsimp only [Br_] at hh
 have hn111b := hn111
 refine TC.isSl (i := 0) z (fun _ hb113 _ => ?_)
 refine TC.a (TL.w z (OpVal.lss z z z) (TL.en (TC.seq (TC.cD z hh (fun h114 hh => ?_) (fun h114 hh => ?_)))))
 ·refine TC.skip (S.n (TC.seq (TC.block (TC.a (TL.i z z (TL.i z z (TL.en (TC.region (TL.s z z (TL.i z z ?_))))))))))
  have u13 := grd_c hh
  replace hh := grd_t hh
  refine TL.isSl (i := 0) z (fun hs115 _ _ => ?_)
  refine TL.w z (indexN z underlying46 sz3 z z hs115 (by omega)) ?_
  have hn116 : (l110.set k112 (-1)).length = (List.replicate 256 (0 : Int)).length := by rw [List.length_set]; exact hn111
  refine TL.op z (storeS (-1) z sz3 z z z z Go.E.encI_len Go.E.encI_one (by omega) (by omega) ?_)
  refine TL.nil (B.n (S.n (TC.region (TL.w z (OpVal.succ z z z (by omega)) (TL.i z z (TL.en ?_))))))
  obtain ⟨hh, hlt117⟩ := nxt_x hR1 hh
  exact lf (((l110.set k112 (-1)), (k112 + 1)), ()) hlt117 ⟨hh, hn116⟩ (Sub.pre 1 z)
 ·refine TC.exit (S.x (S.x ?_))
  replace hh := fin_x hR1 hh
  refine TC.exitHere (S.n (TC.a (TL.i z z (TL.en (TC.seq (TC.a (TL.s z z (TL.w z (lenC z underlying99 z) (TL.i z z (TL.en (TC.block (TC.loopG (α := ((List Int) × Int × Nat) × (Unit)) (rgs [(2, 2), (6, 6), (26, 39)]) (fun g => [(6, .int .i64 g.1.2.1), (26, .int .i64 ((g.1.2.2 : Nat) : Int))]) (fun g => [Res.rowS 3 1 Go.E.encI (.slice a101 (List.replicate 256 (0 : Int)).length c102) g.1.1]) (fun g => σ) (fun g => iter (fun q : (List Int) × Int × Nat => B0_ x0 q.1 q.2.1 q.2.2) g.1 = some r ∧ g.1.1.length = (List.replicate 256 (0 : Int)).length) (fun g => rounds (fun q : (List Int) × Int × Nat => B0_ x0 q.1 q.2.1 q.2.2) g.1) ((l110, (-1), 0), ()) (Sub.pre 1 z) z (by repeat (first | exact trivial | refine ⟨z, ?_⟩)) ⟨hh, hn111⟩ (fun g2 j2 hg2 => ?_)))))))))))))
  obtain ⟨⟨l127, i129, k130⟩, _⟩ := g2
  obtain ⟨hh, hn128⟩ := hg2
  try dsimp only at hn128 ⊢
  obtain ⟨z1, hh, hR1⟩ := iter_e hh
  dsimp only [B0_] at hh
  have hn128b := hn128
  refine TC.isSl (i := 0) z (fun _ hb131 _ => ?_)
  refine TC.a (TL.w z (OpVal.lss z z z) (TL.en (TC.seq (TC.cD z hh (fun h132 hh => ?_) (fun h132 hh => ?_)))))
  ·refine TC.skip (S.n (TC.seq (TC.block (TC.a (TL.i z z (TL.w z (indexN z underlying99 sz55 z z f0_0.rv.sl (by omega)) (TL.w z (loadSA BSet.zero z ag55 sz55 z f0_0 (by omega) (by omega)) (TL.op z (OpOk.alloc z ze55 z z (fun b133 => ?_))))))))))
   refine TL.i z z (TL.op z (storeAll z sz55 z z z z z z ?_))
   refine TL.en (TC.a (TL.w z (loadAll z ag55 sz55 z (i := 0) z z) ?_))
   obtain ⟨v29, u29, hh⟩ := bnd_e hh
   refine TL.op z (callP (F1_ hgl u29) z z pf77 z z z ?_)
   refine TL.w z (moveT (.inl z) z) (TL.w z (OpVal.extract z z z) (TL.w z (OpVal.extract z z z) (TL.i z z (TL.j z z (TL.en (TC.seq (TC.a (TL.j z z (TL.w z (OpVal.not z z) (TL.j z z (TL.split 38 z (fun h135 => ?_) (fun h135 => ?_))))))))))))
   ·replace hh := iteO_t h135 hh
    refine TL.f z (TL.f z (TL.f z (TL.f z (TL.w z (pickTB z z z) (TL.en (TC.t z (TC.a (TL.s z z (TL.i z z (TL.en (TC.rt 0 (S.r (B.r (S.r (S.r ?_)))))))))))))))
    replace hh := fin_x hR1 hh
    refine B.r (S.r ?_)
    obtain rfl := so hh
    exact rq [2, 3] ⟨none, 0, z, (RS.nilF _ Go.E.encI Go.E.encI_len), z⟩
   ·replace hh := iteO_f h135 hh
    refine TL.g z (moveI (.inl z) z) (TL.g z (convN z underlying5 underlying3 z (by have := UInt8.toNat_lt v29.1; simp only [kmax]; omega)) (TL.g z (moveI (.inl z) z) (TL.g z (OpVal.leq z z z) (TL.w z (pickFB z z z) (TL.en (TC.cD z hh (fun h136 hh => ?_) (fun h136 hh => ?_)))))))
    ·refine TC.a (TL.s z z (TL.i z z (TL.en (TC.rt 0 (S.r (B.r (S.r (S.r ?_))))))))
     replace hh := fin_x hR1 hh
     refine B.r (S.r ?_)
     obtain rfl := so hh
     exact rq [2, 3] ⟨none, 0, z, (RS.nilF _ Go.E.encI Go.E.encI_len), z⟩
    ·refine TC.skip (S.n (TC.a (TL.i z z (TL.w z (convN z underlying5 underlying3 z (by have := UInt8.toNat_lt v29.1; simp only [kmax]; omega)) (TL.i z z (TL.en (TC.a (TL.i z z (TL.en (TC.block (TC.loopG (α := ((List Int) × Nat) × (Unit)) (rgs [(2, 2), (11, 1), (46, 18)]) (fun g => [(46, .int .i64 ((g.1.2 : Nat) : Int))]) (fun g => [Res.rowS 3 1 Go.E.encI (.slice a101 (List.replicate 256 (0 : Int)).length c102) g.1.1, Res.cells b133 (setA (nth x0 k130 BSet.zero)) 55]) (fun g => σ) (fun g => iter (fun q : (List Int) × Nat => Bp_ x0 k130 v29 q.1 q.2) g.1 = some z1 ∧ g.1.1.length = (List.replicate 256 (0 : Int)).length) (fun g => rounds (fun q : (List Int) × Nat => Bp_ x0 k130 v29 q.1 q.2) g.1) ((l127, 0), ()) (Sub.f [1] 2) z (by repeat (first | exact trivial | refine ⟨z, ?_⟩)) ⟨hh, hn128⟩ (fun g3 j3 hg3 => ?_))))))))))))
     obtain ⟨⟨l144, k146⟩, _⟩ := g3
     obtain ⟨hh, hn145⟩ := hg3
     try dsimp only at hn145 ⊢
     obtain ⟨z2, hh, hR2⟩ := iter_e hh
     dsimp only [Bp_] at hh
     have hn145b := hn145
     refine TC.isSl (i := 0) z (fun _ hb147 _ => ?_)
     refine TC.a (TL.w z (OpVal.lss z z z) (TL.en (TC.seq (TC.cD z hh (fun h148 hh => ?_) (fun h148 hh => ?_)))))
     ·refine TC.skip (S.n (TC.cutG (α := ((List Int)) × (Unit)) (rgs [(2, 2), (11, 1), (48, 15)]) (fun g => []) (fun g => [Res.rowS 3 1 Go.E.encI (.slice a101 (List.replicate 256 (0 : Int)).length c102) g.1, Res.cells b133 (setA (nth x0 k130 BSet.zero)) 55]) (fun g => σ) (fun g => Bs_ k146 g.1 = some z2 ∧ g.1.length = (List.replicate 256 (0 : Int)).length) ?_ (fun g j hg => ?_)))
      ·skip
       refine TC.block (TC.a (TL.i z z (TL.i z z (TL.en (TC.seq (TC.a (TL.w z (loadAll z ag55 sz55 z (i := 1) z z) (TL.i z z (TL.w z (convU8 z underlying3 underlying5 z) (TL.op z (callP (has_con _ (nth x0 k130 BSet.zero) (toU8 ((k146 : Nat) : Int)).toNat (BSet.isOk _) (UInt8.toNat_lt _)) z z pf62 z z z ?_)))))))))))
       refine TL.w z (OpVal.not z z) (TL.en (TC.cB z hh (fun h151 hh => ?_) (fun h151 hh => ?_)))
       ·exact TC.exit (S.x (TC.exitHere (S.n (cf (l144, ()) ⟨hh, hn145⟩ (Sub.f [1, 1] 2)))))
       ·refine TC.skip (S.n (TC.seq (TC.a (TL.s z z (TL.i z z ?_)))))
        have u59 := grd_c hh
        replace hh := grd_t hh
        refine TL.isSl (i := 0) z (fun hs152 _ _ => ?_)
        refine TL.w z (indexN z underlying46 sz3 z z hs152 (by omega)) (TL.w z (loadO1 (0 : Int) z ag3 z (q := 0) z Go.E.encI_len (by omega) z) (TL.w z (OpVal.geq z z z) (TL.en (TC.cD z hh (fun h153 hh => ?_) (fun h153 hh => ?_)))))
        ·refine TC.a (TL.s z z (TL.i z z (TL.en (TC.rt 0 (S.r (B.r (S.r (S.r ?_))))))))
         replace hh := fin_x hR2 hh
         refine B.r (B.r (S.r (S.r ?_)))
         replace hh := fin_x hR1 hh
         refine B.r (S.r ?_)
         obtain rfl := so hh
         exact rq [2, 3] ⟨none, 0, z, (RS.nilF _ Go.E.encI Go.E.encI_len), z⟩
        ·refine TC.skip (S.n (TC.region (TL.s z z (TL.i z z (TL.i z z ?_)))))
         have u67 := grd_c hh
         replace hh := grd_t hh
         refine TL.isSl (i := 0) z (fun hs154 _ _ => ?_)
         refine TL.w z (indexN z underlying46 sz3 z z hs154 (by omega)) ?_
         have hn155 : (l144.set k146 ((k130 : Nat) : Int)).length = (List.replicate 256 (0 : Int)).length := by rw [List.length_set]; exact hn145
         refine TL.op z (storeS ((k130 : Nat) : Int) z sz3 z z z z Go.E.encI_len Go.E.encI_one (by omega) (by omega) ?_)
         exact TL.nil (B.n (S.n (cf ((l144.set k146 ((k130 : Nat) : Int)), ()) ⟨hh, hn155⟩ (Sub.f [1, 1] 2))))
      ·skip
       obtain ⟨l149, _⟩ := g
       obtain ⟨hh, hn150⟩ := hg
       try dsimp only at hn150 ⊢
       dsimp only [Bs_] at hh
       have hn150b := hn150
       refine TC.isSl (i := 0) z (fun _ hb156 _ => ?_)
       refine TC.region (TL.w z (OpVal.succ z z z (by omega)) (TL.i z z (TL.en ?_)))
       obtain ⟨hh, hlt157⟩ := nxt_x hR2 hh
       exact lf ((l149, (k146 + 1)), ()) hlt157 ⟨hh, hn150⟩ (Sub.f [1, 1] 2)
     ·refine TC.exit (S.x (S.x ?_))
      replace hh := fin_x hR2 hh
      refine TC.exitHere (B.n (S.n (TC.region (TL.w z (OpVal.succ z z z (by omega)) (TL.i z z (TL.en ?_))))))
      obtain ⟨hh, hlt158⟩ := nxt_x hR1 hh
      exact lf ((l144, ((v29.1.toNat : Nat) : Int), (k130 + 1)), ()) hlt158 ⟨hh, hn145⟩ (Sub.pre 1 z)
  ·refine TC.exit (S.x (S.x ?_))
   replace hh := fin_x hR1 hh
   refine TC.exitHere (S.n (TC.seq (TC.a (TL.s z z (TL.w z (lenC z underlying46 z) (TL.i z z (TL.en (TC.block (TC.loopG (α := (Nat) × (Unit)) (rgs [(2, 2), (13, 1), (67, 7)]) (fun g => [(67, .int .i64 ((g.1 : Nat) : Int))]) (fun g => [Res.rowS 3 1 Go.E.encI (.slice a101 (List.replicate 256 (0 : Int)).length c102) l127]) (fun g => σ) (fun g => iter (fun q : Nat => By_ l127 q) g.1 = some r ∧ l127.length = (List.replicate 256 (0 : Int)).length) (fun g => rounds (fun q : Nat => By_ l127 q) g.1) (0, ()) (Sub.pre 1 z) z (by repeat (first | exact trivial | refine ⟨z, ?_⟩)) ⟨hh, hn128⟩ (fun g4 j4 hg4 => ?_))))))))))
   obtain ⟨k165, _⟩ := g4
   obtain ⟨hh, hn164⟩ := hg4
   try dsimp only at hn164 ⊢
   obtain ⟨z1, hh, hR1⟩ := iter_e hh
   dsimp only [By_] at hh
   have hn164b := hn164
   refine TC.isSl (i := 0) z (fun _ hb166 _ => ?_)
   refine TC.a (TL.w z (OpVal.lss z z z) (TL.en (TC.seq (TC.cD z hh (fun h167 hh => ?_) (fun h167 hh => ?_)))))
   ·refine TC.skip (S.n (TC.seq (TC.block (TC.a ?_))))
    have u77 := grd_c hh
    replace hh := grd_t hh
    refine TL.isSl (i := 0) z (fun hs168 _ _ => ?_)
    refine TL.w z (indexN z underlying46 sz3 z z hs168 (by omega)) (TL.w z (loadO1 (0 : Int) z ag3 z (q := 0) z Go.E.encI_len (by omega) z) (TL.i z z (TL.en (TC.a (TL.i z z (TL.w z (OpVal.lss z z z) (TL.en (TC.cD z hh (fun h169 hh => ?_) (fun h169 hh => ?_)))))))))
    ·refine TC.a (TL.s z z (TL.i z z (TL.en (TC.rt 0 (B.r (S.r (S.r ?_)))))))
     replace hh := fin_x hR1 hh
     refine B.r (S.r ?_)
     obtain rfl := so hh
     exact rq [2, 3] ⟨none, 0, z, (RS.nilF _ Go.E.encI Go.E.encI_len), z⟩
    ·refine TC.skip (B.n (S.n (TC.region (TL.w z (OpVal.succ z z z (by omega)) (TL.i z z (TL.en ?_))))))
     obtain ⟨hh, hlt170⟩ := nxt_x hR1 hh
     exact lf ((k165 + 1), ()) hlt170 ⟨hh, hn164⟩ (Sub.pre 1 z)
   ·refine TC.exit (S.x (S.x ?_))
    replace hh := fin_x hR1 hh
    refine TC.exitHere (S.n (TC.a (TL.s z z (TL.s z z (TL.i z z (TL.en ?_))))))
    rw [← hn164]
    refine TC.sealS Go.E.encI_len (fun τ173 hle172 hr171 => ?_)
    have hr171b := hr171.rv.big
    refine TC.ret ?_
    obtain rfl := so hh
    exact rq [2, 3] ⟨a101, c102, z, hr171, z⟩
noncomputable def B7_ (x0 : List Int) (k116 : Nat) (l122 : List BSet) : Option (((List BSet) × Nat) ⊕ ((List BSet) × Int)) :=
 grd (0 ≤ (nth x0 k116 (0 : Int)) ∧ (nth x0 k116 (0 : Int)) < (l122.length : Int)) (grd ([(toU8 ((k116 : Nat) : Int))].length ≤ 1000000000000) (bnd (Cl_ (nth l122 ((nth x0 k116 (0 : Int)).toNat) BSet.zero) (BSet.ofL [(toU8 ((k116 : Nat) : Int))])) (fun v47 => grd (0 ≤ (nth x0 k116 (0 : Int)) ∧ (nth x0 k116 (0 : Int)) < (l122.length : Int)) (nxt ((l122.set ((nth x0 k116 (0 : Int)).toNat) v47), (k116 + 1))))))
noncomputable def At_ (x0 : List Int) (l113 : List BSet) (k116 : Nat) : Option (((List BSet) × Nat) ⊕ ((List BSet) × Int)) :=
 iteO (decide (((k116 : Nat) : Int) < ((x0.length : Nat) : Int))) (iteO (decide ((nth x0 k116 (0 : Int)) < 0)) (fin (some (([] : List BSet), 1))) (iteO (decide (((l113.length : Nat) : Int) < (nth x0 k116 (0 : Int)))) (fin (some (([] : List BSet), 1))) (iteO (decide ((nth x0 k116 (0 : Int)) = ((l113.length : Nat) : Int))) (grd ((l113.length + [BSet.zero].length) * 32 ≤ 140737488355328) (B7_ x0 k116 (l113 ++ [BSet.zero]))) (B7_ x0 k116 l113)))) (fin (some (l113, 0)))
noncomputable def C1_ (x0 : List Int) : Option ((List BSet) × Int) :=
 iteO (decide (((x0.length : Nat) : Int) ≠ 256)) (some (([] : List BSet), 1)) (iter (fun q : (List BSet) × Nat => At_ x0 q.1 q.2) (([] : List BSet), 0))
def G6_ (σ : Store) (r : (List BSet) × Int) : Value → Store → List Res → Prop := fun v σ' H' =>
 ∃ (a1 : Option Addr), ∃ (c1 : Nat),  v = .tuple #[.slice a1 r.1.length c1, .int .i64 r.2] ∧ RS σ' 4 encSet (.slice a1 r.1.length c1) r.1 ∧ H' = []
theorem Fz_ {σ : Store} {x0 : List Int} {a0_0 : Option Addr} {c0_0 : Nat} (f0_0 : RS σ 1 Go.E.encI (.slice a0_0 x0.length c0_0) x0) {r : (List BSet) × Int} (hh : C1_ x0 = some r) :
  Con Tryz.prog 84 #[.slice a0_0 x0.length c0_0] σ [] (G6_ σ r) := by
 dsimp only [C1_] at hh
 have f0_0b := f0_0.rv.big
 refine Con.mk (n := 47) Tryz.func84 z z z (fun w0 => ?_)
 refine TC.a (TL.s z z (TL.i z z (TL.en (TC.seq (TC.a (TL.s z z (TL.w z (lenC z underlying46 z) (TL.w z (OpVal.neq z z z) (TL.en (TC.cD z hh (fun h101 hh => ?_) (fun h101 hh => ?_)))))))))))
 ·refine TC.a (TL.s z z (TL.i z z (TL.en (TC.ret (S.r ?_)))))
  obtain rfl := so hh
  exact rq [2, 3] ⟨none, 0, z, (RS.nilF _ encSet encSet_len), z⟩
 ·refine TC.skip (S.n (TC.a (TL.s z z (TL.en (TC.seq (TC.a (TL.s z z (TL.w z (lenC z underlying46 z) (TL.i z z (TL.en (TC.block (TC.nilS 55 4 encSet (TC.loopG (α := ((List BSet) × Nat) × ((Option Addr) × Nat)) (rgs [(2, 5), (12, 34)]) (fun g => [(4, .slice g.2.1 g.1.1.length g.2.2), (12, .int .i64 ((g.1.2 : Nat) : Int))]) (fun g => [Res.rowS 55 4 encSet (.slice g.2.1 g.1.1.length g.2.2) g.1.1]) (fun g => σ) (fun g => iter (fun q : (List BSet) × Nat => At_ x0 q.1 q.2) g.1 = some r) (fun g => rounds (fun q : (List BSet) × Nat => At_ x0 q.1 q.2) g.1) ((([] : List BSet), 0), (none, 0)) (Sub.pre 1 z) z (by repeat (first | exact trivial | refine ⟨z, ?_⟩)) hh (fun g1 j1 hg1 => ?_))))))))))))))
  obtain ⟨⟨l113, k116⟩, ⟨a114, c115⟩⟩ := g1
  have hh := hg1; clear hg1
  try dsimp only
  obtain ⟨z1, hh, hR1⟩ := iter_e hh
  dsimp only [At_] at hh
  refine TC.isSl (i := 0) z (fun _ hb118 _ => ?_)
  refine TC.a (TL.w z (OpVal.lss z z z) (TL.en (TC.seq (TC.cD z hh (fun h119 hh => ?_) (fun h119 hh => ?_)))))
  ·refine TC.skip (S.n (TC.seq (TC.block (TC.a (TL.i z z (TL.w z (indexN z underlying46 sz3 z z f0_0.rv.sl (by omega)) (TL.w z (loadS1 (0 : Int) z ag3 z f0_0 (by omega) z) (TL.i z z (TL.i z z (TL.en (TC.seq (TC.a (TL.i z z (TL.w z (OpVal.lss z z z) (TL.j z z (TL.split 19 z (fun h120 => ?_) (fun h120 => ?_)))))))))))))))))
   ·replace hh := iteO_t h120 hh
    replace h120 := of_decide_eq_true h120
    refine TL.f z (TL.f z (TL.f z (TL.f z (TL.w z (pickTB z z z) (TL.en (TC.t z (TC.a (TL.s z z (TL.i z z (TL.en (TC.rt 0 (S.r (B.r (S.r (S.r ?_)))))))))))))))
    replace hh := fin_x hR1 hh
    refine B.r (S.r ?_)
    obtain rfl := so hh
    exact rq [2, 3] ⟨none, 0, z, (RS.nilF _ encSet encSet_len), z⟩
   ·replace hh := iteO_f h120 hh
    replace h120 := of_decide_eq_false h120
    refine TL.g z (moveI (.inl z) z) (TL.g z (moveSl (.inl z) z) (TL.g z (lenC z underlying99 z) (TL.g z (OpVal.gtr z z z) (TL.w z (pickFB z z z) (TL.en (TC.cD z hh (fun h121 hh => ?_) (fun h121 hh => ?_)))))))
    ·refine TC.a (TL.s z z (TL.i z z (TL.en (TC.rt 0 (S.r (B.r (S.r (S.r ?_))))))))
     replace hh := fin_x hR1 hh
     refine B.r (S.r ?_)
     obtain rfl := so hh
     exact rq [2, 3] ⟨none, 0, z, (RS.nilF _ encSet encSet_len), z⟩
    ·refine TC.skip (S.n (TC.cutG (α := ((List BSet)) × ((Option Addr) × Nat)) (rgs [(4, 1), (25, 8)]) (fun g => [(4, .slice g.2.1 g.1.length g.2.2)]) (fun g => [Res.rowS 55 4 encSet (.slice g.2.1 g.1.length g.2.2) g.1]) (fun g => σ) (fun g => B7_ x0 k116 g.1 = some z1) ?_ (fun g j hg => ?_)))
     ·skip
      refine TC.a (TL.i z z (TL.s z z (TL.w z (lenC z underlying99 z) (TL.w z (OpVal.eql z z z) (TL.en (TC.cD z hh (fun h125 hh => ?_) (fun h125 hh => ?_)))))))
      ·refine TC.region (TL.s z z (TL.w z (buildArrL z underlying55 sz53 ze55 z) (TL.op z (OpOk.lit (enc := encSet) [BSet.zero] z underlying99 sz55 ze55 z z z encSet_len (by decide) (by decide) BSet.zero z (by decide) z (by decide) encSet_one (fun a126 c127 => ?_)))))
       refine TL.front 1 z z ?_
       have u35 := grd_c hh
       replace hh := grd_t hh
       refine TL.op z (appendS z z underlying99 sz55 by55 ze55 z z (by decide) z z z (.inr ⟨_, 0, z⟩) (by simpa using u35) (by decide) (fun a129 c130 => ?_))
       exact TL.s z z (TL.en (cf ((l113 ++ [BSet.zero]), (a129, c130)) hh (Sub.pre 1 z)))
      ·exact TC.skip (S.n (cf (l113, (a114, c115)) hh (Sub.pre 1 z)))
     ·skip
      obtain ⟨l122, ⟨a123, c124⟩⟩ := g
      have hh := hg; clear hg
      try dsimp only
      dsimp only [B7_] at hh
      refine TC.isSl (i := 0) z (fun _ hb131 _ => ?_)
      have u41 := grd_c hh
      replace hh := grd_t hh
      have u46 := grd_c hh
      replace hh := grd_t hh
      obtain ⟨v47, u47, hh⟩ := bnd_e hh
      have u48 := grd_c hh
      replace hh := grd_t hh
      refine TC.draw [12] (by kernel_rfl) (TA.a 0 z (moveSl (.inl z) z) z (TA.a 1 z (moveI (.inl z) z) z (TA.a 2 z (moveSl (.inl z) z) z (TA.a 3 z (moveI (.inl z) z) z (TA.isSl (i := 0) z (fun hs138 _ _ => ?_))))))
      refine TA.b 4 z (OpVal.index z underlying99 sz55 z z hs138 u41.1 u41.2) z (TA.b 5 z (loadOA BSet.zero z ag55 sz55 z (q := 0) z encSet_len (by omega) (by omega)) z (TA.a 6 z (moveI (.inl z) z) z (TA.a 7 z (convU8 z underlying3 underlying5 z) z (TA.ac 8 z (OpOk.lit (enc := encU8) [(toU8 ((k116 : Nat) : Int))] z underlying134 sz5 ze5 z z z encU8_len (by decide) (by decide) (0 : UInt8) z (by decide) z (by decide) encU8_one (fun a139 c140 => (k1 ?_)))))))
      refine TA.ac 9 z (callT (of_con _ _ _ [(toU8 ((k116 : Nat) : Int))] u46) z z pf28 z z z z (k0 ?_))
      refine TA.ac 10 z (callP (Fl_ u47) z z pf76 z z z (k0 ?_))
      refine TA.isSl (i := 0) z (fun hs142 _ _ => ?_)
      refine TA.b 11 z (OpVal.index z underlying99 sz55 z z hs142 u48.1 u48.2) z ?_
      have hn143 : (l122.set ((nth x0 k116 (0 : Int)).toNat) v47).length = l122.length := by rw [List.length_set]
      refine TA.last 12 (by kernel_rfl) z z z (storeS v47 z sz55 z z z z encSet_len encSet_one (by omega) (by omega) ?_)
      refine TZ.done (by kernel_rfl) (B.n (S.n (TC.region (TL.w z (OpVal.succ z z z (by omega)) (TL.i z z ?_)))))
      rw [← hn143]
      refine TL.en ?_
      obtain ⟨hh, hlt144⟩ := nxt_x hR1 hh
      exact lf (((l122.set ((nth x0 k116 (0 : Int)).toNat) v47), (k116 + 1)), (a123, c124)) hlt144 hh (Sub.pre 1 z)
  ·refine TC.exit (S.x (S.x ?_))
   replace hh := fin_x hR1 hh
   refine TC.exitHere (S.n (TC.a (TL.s z z (TL.s z z (TL.i z z (TL.en (TC.sealS encSet_len (fun τ147 hle146 hr145 => ?_))))))))
   have hr145b := hr145.rv.big
   refine TC.ret ?_
   obtain rfl := so hh
   exact rq [2, 3] ⟨a114, c115, z, hr145, z⟩
noncomputable def Be_ (x0 : Dfa) (k110 : Nat) (k116 : Nat) : Option ((Nat) ⊕ ((Nat) ⊕ (Int))) :=
 iteO (decide (((k116 : Nat) : Int) < (((nth x0.next k110 ([] : List Int)).length : Nat) : Int))) (iteO (decide ((nth (nth x0.next k110 ([] : List Int)) k116 (0 : Int)) < 0)) (fin (fin (some 1))) (iteO (decide (((x0.next.length : Nat) : Int) ≤ (nth (nth x0.next k110 ([] : List Int)) k116 (0 : Int)))) (fin (fin (some 1))) (nxt (k116 + 1)))) (fin (nxt (k110 + 1)))
noncomputable def Bf_ (x0 : Dfa) (v5 : (List BSet) × Int) (k110 : Nat) : Option ((Nat) ⊕ (Int)) :=
 iteO (decide (((k110 : Nat) : Int) < ((x0.next.length : Nat) : Int))) (iteO (decide ((((nth x0.next k110 ([] : List Int)).length : Nat) : Int) ≠ ((v5.1.length : Nat) : Int))) (fin (some 1)) (iter (fun q : Nat => Be_ x0 k110 q) 0)) (fin (some 0))
noncomputable def Dh_ (x0 : Dfa) : Option (Int) :=
 bnd (C1_ x0.cls) (fun v5 => iteO (decide (v5.2 ≠ 0)) (some 1) (iteO (decide (((x0.next.length : Nat) : Int) < 1)) (some 1) (iteO (decide (1024 < ((x0.next.length : Nat) : Int))) (some 1) (iteO (decide (((x0.fin.length : Nat) : Int) ≠ ((x0.next.length : Nat) : Int))) (some 1) (iter (fun q : Nat => Bf_ x0 v5 q) 0)))))
theorem F0_ {σ : Store} {x0 : Dfa} {a0_0 : Option Addr} {c0_0 : Nat} {a0_1 : Option Addr} {c0_1 : Nat} {a0_2 : Option Addr} {c0_2 : Nat} (f0_0 : RS σ 1 Go.E.encI (.slice a0_0 x0.cls.length c0_0) x0.cls) (f0_1 : RZ σ (pkSl 1 Go.E.encI Go.E.encI_len) (.slice a0_1 x0.next.length c0_1) x0.next) (f0_2 : RS σ 1 encB (.slice a0_2 x0.fin.length c0_2) x0.fin) {r : Int} (hh : Dh_ x0 = some r) :
  Con Tryz.prog 48 #[.agg #[.slice a0_0 x0.cls.length c0_0, .slice a0_1 x0.next.length c0_1, .slice a0_2 x0.fin.length c0_2]] σ [] (PureP (.int .i64 r) σ) := by
 dsimp only [Dh_] at hh
 have f0_0b := f0_0.rv.big
 have f0_1b := f0_1.big
 have f0_2b := f0_2.rv.big
 refine Con.mk (n := 63) Tryz.func48 z z z (fun w0 => ?_)
 refine TC.a (TL.op z (boxA z z z z (fun b101 => ?_)))
 refine TL.i z z (TL.en (TC.a (TL.w z (fieldLoc z fo50_0 z) (TL.w z (loadLoc z ag46 z (i := 0) z z) ?_))))
 obtain ⟨v5, u5, hh⟩ := bnd_e hh
 refine TL.op z (OpOk.call (Fz_ f0_0 u5) z z pf84 z z z z ?_)
 rintro _ τ103 _ hle103 ⟨a103_1, c103_1, rfl, hr103_0, rfl⟩
 replace f0_1 := f0_1.mono hle103
 have hr103_0b := hr103_0.rv.big
 refine TL.w z (moveT (.inl z) z) (TL.w z (OpVal.extract z z z) (TL.w z (OpVal.extract z z z) (TL.s z z (TL.i z z (TL.en (TC.a (TL.w z (fieldLoc z fo50_1 z) (TL.w z (loadLoc z ag47 z (i := 0) z z) (TL.w z (lenC z underlying47 z) (TL.i z z (TL.en (TC.seq (TC.a (TL.i z z (TL.w z (OpVal.neq z z z) (TL.j z z (TL.split 21 z (fun h104 => ?_) (fun h104 => ?_))))))))))))))))))
 ·replace hh := iteO_t h104 hh
  replace h104 := of_decide_eq_true h104
  refine TL.f z (TL.f z (TL.w z (pickTB z z z) (TL.j z z (TL.f z (TL.f z (TL.w z (pickTB z z z) (TL.j z z (TL.f z (TL.f z (TL.f z (TL.f z (TL.f z (TL.w z (pickTB z z z) (TL.en (TC.t z (TC.a (TL.i z z (TL.en (TC.ofSub (Sub.pre 0 z) (TC.back (TC.ret (S.r ?_))))))))))))))))))))))
  obtain rfl := so hh
  exact rq [2] ⟨z, z, z⟩
 ·replace hh := iteO_f h104 hh
  replace h104 := of_decide_eq_false h104
  refine TL.g z (moveI (.inl z) z) (TL.g z (OpVal.lss z z z) (TL.w z (pickFB z z z) (TL.j z z (TL.split 25 z (fun h105 => ?_) (fun h105 => ?_)))))
  ·replace hh := iteO_t h105 hh
   replace h105 := of_decide_eq_true h105
   refine TL.f z (TL.f z (TL.w z (pickTB z z z) (TL.j z z (TL.f z (TL.f z (TL.f z (TL.f z (TL.f z (TL.w z (pickTB z z z) (TL.en (TC.t z (TC.a (TL.i z z (TL.en (TC.ofSub (Sub.pre 0 z) (TC.back (TC.ret (S.r ?_))))))))))))))))))
   obtain rfl := so hh
   exact rq [2] ⟨z, z, z⟩
  ·replace hh := iteO_f h105 hh
   replace h105 := of_decide_eq_false h105
   refine TL.g z (moveI (.inl z) z) (TL.g z (OpVal.gtr z z z) (TL.w z (pickFB z z z) (TL.j z z (TL.split 29 z (fun h106 => ?_) (fun h106 => ?_)))))
   ·replace hh := iteO_t h106 hh
    replace h106 := of_decide_eq_true h106
    refine TL.f z (TL.f z (TL.f z (TL.f z (TL.f z (TL.w z (pickTB z z z) (TL.en (TC.t z (TC.a (TL.i z z (TL.en (TC.ofSub (Sub.pre 0 z) (TC.back (TC.ret (S.r ?_))))))))))))))
    obtain rfl := so hh
    exact rq [2] ⟨z, z, z⟩
   ·replace hh := iteO_f h106 hh
    replace h106 := of_decide_eq_false h106
    refine TL.g z (fieldLoc z fo50_2 z) (TL.g z (loadLoc z ag48 z (i := 0) z z) (TL.g z (lenC z underlying48 z) (TL.g z (moveI (.inl z) z) (TL.g z (OpVal.neq z z z) (TL.w z (pickFB z z z) (TL.en (TC.cD z hh (fun h107 hh => ?_) (fun h107 hh => ?_))))))))
    ·refine TC.a (TL.i z z (TL.en (TC.ofSub (Sub.pre 0 z) (TC.back (TC.ret (S.r ?_))))))
     obtain rfl := so hh
     exact rq [2] ⟨z, z, z⟩
    ·refine TC.skip (S.n (TC.seq (TC.a (TL.w z (fieldLoc z fo50_1 z) (TL.w z (loadLoc z ag47 z (i := 0) z z) (TL.w z (lenC z underlying47 z) (TL.i z z (TL.en (TC.block (TC.loopG (α := (Nat) × (Unit)) (rgs [(2, 1), (7, 1), (9, 1), (39, 24)]) (fun g => [(39, .int .i64 ((g.1 : Nat) : Int))]) (fun g => []) (fun g => τ103) (fun g => iter (fun q : Nat => Bf_ x0 v5 q) g.1 = some r) (fun g => rounds (fun q : Nat => Bf_ x0 v5 q) g.1) (0, ()) (Sub.pre 0 z) z (by repeat (first | exact trivial | refine ⟨z, ?_⟩)) hh (fun g1 j1 hg1 => ?_)))))))))))
     obtain ⟨k110, _⟩ := g1
     have hh := hg1; clear hg1
     try dsimp only
     obtain ⟨z1, hh, hR1⟩ := iter_e hh
     dsimp only [Bf_] at hh
     refine TC.a (TL.w z (OpVal.lss z z z) (TL.en (TC.seq (TC.cD z hh (fun h111 hh => ?_) (fun h111 hh => ?_)))))
     ·refine TC.skip (S.n (TC.seq (TC.block (TC.a (TL.w z (indexN z underlying47 sz46 z z f0_1.isSl (by omega)) ?_)))))
      obtain ⟨p112, hk112, hg112⟩ := RZ.seg f0_1 k110 (by omega)
      replace hk112 : RS _ 1 Go.E.encI (.slice p112.1 (nth x0.next k110 ([] : List Int)).length p112.2) (nth x0.next k110 ([] : List Int)) := hk112
      have hk112b := hk112.rv.big
      refine TL.w z (OpVal.of (loadSeg0 z ag46 z hg112 z) (v' := .slice p112.1 ((nth x0.next k110 ([] : List Int)).length) p112.2) z) (TL.s z z (TL.en (TC.seq (TC.a (TL.s z z (TL.w z (lenC z underlying46 z) (TL.s z z (TL.w z (lenC z underlying99 z) (TL.w z (OpVal.neq z z z) (TL.en (TC.cD z hh (fun h113 hh => ?_) (fun h113 hh => ?_))))))))))))
      ·refine TC.a (TL.i z z (TL.en (TC.back (TC.ret (S.r (B.r (S.r (S.r ?_))))))))
       replace hh := fin_x hR1 hh
       refine B.r (S.r ?_)
       obtain rfl := so hh
       exact rq [2] ⟨z, z, z⟩
      ·refine TC.skip (S.n (TC.a (TL.s z z (TL.w z (lenC z underlying46 z) (TL.i z z (TL.en (TC.block (TC.loopG (α := (Nat) × (Unit)) (rgs [(2, 1), (9, 1), (50, 12)]) (fun g => [(50, .int .i64 ((g.1 : Nat) : Int))]) (fun g => []) (fun g => τ103) (fun g => iter (fun q : Nat => Be_ x0 k110 q) g.1 = some z1) (fun g => rounds (fun q : Nat => Be_ x0 k110 q) g.1) (0, ()) (Sub.pre 0 z) z (by repeat (first | exact trivial | refine ⟨z, ?_⟩)) hh (fun g2 j2 hg2 => ?_)))))))))
       obtain ⟨k116, _⟩ := g2
       have hh := hg2; clear hg2
       try dsimp only
       obtain ⟨z2, hh, hR2⟩ := iter_e hh
       dsimp only [Be_] at hh
       refine TC.a (TL.w z (OpVal.lss z z z) (TL.en (TC.seq (TC.cD z hh (fun h117 hh => ?_) (fun h117 hh => ?_)))))
       ·refine TC.skip (S.n (TC.seq (TC.block (TC.a (TL.w z (indexN z underlying46 sz3 z z hk112.rv.sl (by omega)) (TL.w z (loadS1 (0 : Int) z ag3 z hk112 (by omega) z) (TL.i z z (TL.en (TC.a (TL.i z z (TL.w z (OpVal.lss z z z) (TL.j z z (TL.split 56 z (fun h118 => ?_) (fun h118 => ?_))))))))))))))
        ·replace hh := iteO_t h118 hh
         replace h118 := of_decide_eq_true h118
         refine TL.f z (TL.f z (TL.f z (TL.w z (pickTB z z z) (TL.en (TC.t z (TC.a (TL.i z z (TL.en (TC.back (TC.ret (B.r (S.r (S.r ?_)))))))))))))
         replace hh := fin_x hR2 hh
         refine B.r (B.r (S.r (S.r ?_)))
         replace hh := fin_x hR1 hh
         refine B.r (S.r ?_)
         obtain rfl := so hh
         exact rq [2] ⟨z, z, z⟩
        ·replace hh := iteO_f h118 hh
         replace h118 := of_decide_eq_false h118
         refine TL.g z (moveI (.inl z) z) (TL.g z (moveI (.inl z) z) (TL.g z (OpVal.geq z z z) (TL.w z (pickFB z z z) (TL.en (TC.cD z hh (fun h119 hh => ?_) (fun h119 hh => ?_))))))
         ·refine TC.a (TL.i z z (TL.en (TC.back (TC.ret (B.r (S.r (S.r ?_)))))))
          replace hh := fin_x hR2 hh
          refine B.r (B.r (S.r (S.r ?_)))
          replace hh := fin_x hR1 hh
          refine B.r (S.r ?_)
          obtain rfl := so hh
          exact rq [2] ⟨z, z, z⟩
         ·refine TC.skip (B.n (S.n (TC.region (TL.w z (OpVal.succ z z z (by omega)) (TL.i z z (TL.en ?_))))))
          obtain ⟨hh, hlt120⟩ := nxt_x hR2 hh
          exact lf ((k116 + 1), ()) hlt120 hh (Sub.pre 0 z)
       ·refine TC.exit (S.x (S.x ?_))
        replace hh := fin_x hR2 hh
        refine TC.exitHere (B.n (S.n (TC.region (TL.w z (OpVal.succ z z z (by omega)) (TL.i z z (TL.en ?_))))))
        obtain ⟨hh, hlt121⟩ := nxt_x hR1 hh
        exact lf ((k110 + 1), ()) hlt121 hh (Sub.pre 0 z)
     ·refine TC.exit (S.x (S.x ?_))
      replace hh := fin_x hR1 hh
      refine TC.exitHere (S.n (TC.a (TL.i z z (TL.en (TC.back (TC.ret ?_))))))
      obtain rfl := so hh
      exact rq [2] ⟨z, z, z⟩
noncomputable def Bq_ (k120 : Nat) (m124 : FM BSet Int) (l125 : List BSet) : Option (((FM BSet Int) × (List BSet) × Nat) ⊕ ((List BSet))) :=
 nxt (m124, l125, (k120 + 1))
noncomputable def Bx_ (x0 : List Arrow) (m115 : FM BSet Int) (l117 : List BSet) (k120 : Nat) : Option (((FM BSet Int) × (List BSet) × Nat) ⊕ ((List BSet))) :=
 iteO (decide (((k120 : Nat) : Int) < ((x0.length : Nat) : Int))) (iteO (!(m115.has ((nth x0 k120 Arrow.zero).set))) (grd ((l117.length + [(nth x0 k120 Arrow.zero).set].length) * 32 ≤ 140737488355328) (Bq_ k120 (m115.put ((nth x0 k120 Arrow.zero).set) ((l117.length : Nat) : Int)) (l117 ++ [(nth x0 k120 Arrow.zero).set]))) (Bq_ k120 m115 l117)) (fin (some l117))
noncomputable def Dx_ (x0 : List Arrow) : Option ((List BSet)) :=
 iter (fun q : (FM BSet Int) × (List BSet) × Nat => Bx_ x0 q.1 q.2.1 q.2.2) ((FM.emp : FM BSet Int), ([] : List BSet), 0)
def Gw_ (σ : Store) (r : (List BSet)) : Value → Store → List Res → Prop := fun v σ' H' =>
 ∃ (a1 : Option Addr), ∃ (c1 : Nat),  v = .slice a1 r.length c1 ∧ RS σ' 4 encSet (.slice a1 r.length c1) r ∧ H' = []
theorem Gj_ {σ : Store} {x0 : List Arrow} {a0_0 : Option Addr} {c0_0 : Nat} (f0_0 : RS σ 6 encE (.slice a0_0 x0.length c0_0) x0) {r : (List BSet)} (hh : Dx_ x0 = some r) :
  Con Tryz.prog 40 #[.slice a0_0 x0.length c0_0] σ [] (Gw_ σ r) := by
 dsimp only [Dx_] at hh
 have f0_0b := f0_0.rv.big
 refine Con.mk (n := 37) Tryz.func40 z z z (fun w0 => ?_)
 refine TC.a (TL.s z z (TL.en (TC.a (TL.op z (makeMapB (enc := setV) (encV := keyI) z z z (fun b101 => ?_))))))
 refine TL.w z (moveMap (.inr z) z) (TL.en (TC.a (TL.s z z (TL.en (TC.seq (TC.a (TL.s z z (TL.w z (lenC z underlying59 z) (TL.i z z (TL.en (TC.block (TC.nilS 55 4 encSet (TC.loopG (α := ((FM BSet Int) × (List BSet) × Nat) × ((Option Addr) × Nat)) (rgs [(4, 1), (6, 3), (12, 24)]) (fun g => [(4, .slice g.2.1 g.1.2.1.length g.2.2), (12, .int .i64 ((g.1.2.2 : Nat) : Int))]) (fun g => [Res.mapB setV keyI (some b101) g.1.1, Res.rowS 55 4 encSet (.slice g.2.1 g.1.2.1.length g.2.2) g.1.2.1]) (fun g => σ) (fun g => iter (fun q : (FM BSet Int) × (List BSet) × Nat => Bx_ x0 q.1 q.2.1 q.2.2) g.1 = some r) (fun g => rounds (fun q : (FM BSet Int) × (List BSet) × Nat => Bx_ x0 q.1 q.2.1 q.2.2) g.1) (((FM.emp : FM BSet Int), ([] : List BSet), 0), (none, 0)) (Sub.f [1] 2) z (by repeat (first | exact trivial | refine ⟨z, ?_⟩)) hh (fun g1 j1 hg1 => ?_))))))))))))))
 obtain ⟨⟨m115, l117, k120⟩, ⟨a118, c119⟩⟩ := g1
 have hh := hg1; clear hg1
 try dsimp only
 obtain ⟨z1, hh, hR1⟩ := iter_e hh
 dsimp only [Bx_] at hh
 refine TC.isSl (i := 1) z (fun _ hb122 _ => ?_)
 refine TC.a (TL.w z (OpVal.lss z z z) (TL.en (TC.seq (TC.cD z hh (fun h123 hh => ?_) (fun h123 hh => ?_)))))
 ·refine TC.skip (S.n (TC.cutG (α := ((FM BSet Int) × (List BSet)) × ((Option Addr) × Nat)) (rgs [(4, 1), (6, 3), (14, 21)]) (fun g => [(4, .slice g.2.1 g.1.2.length g.2.2)]) (fun g => [Res.mapB setV keyI (some b101) g.1.1, Res.rowS 55 4 encSet (.slice g.2.1 g.1.2.length g.2.2) g.1.2]) (fun g => σ) (fun g => Bq_ k120 g.1.1 g.1.2 = some z1) ?_ (fun g j hg => ?_)))
  ·skip
   refine TC.block (TC.a (TL.w z (indexN z underlying59 sz58 z z f0_0.rv.sl (by omega)) (TL.w z (loadSA Arrow.zero z ag58 sz58 z f0_0 (by omega) (by omega)) (TL.op z (OpOk.alloc z ze58 z z (fun b128 => ?_))))))
   refine TL.op z (storeAll z sz58 z z z z z z ?_)
   refine TL.en (TC.a (TL.w z (moveMap (.inl z) z) (TL.w z (fieldLoc z fo58_2 z) (TL.w z (loadLocA z ag55 sz55 z (i := 0) z z z) (TL.w z (OpVal.of (lookB 0 (q := (nth x0 k120 Arrow.zero).set) z underlying146 ze3 z (i := 1) z z (keyL_set underlying55 underlying53 ag53 sz53)) (v' := .tuple #[.int .i64 (m115.get ((nth x0 k120 Arrow.zero).set) 0), .bool (m115.has ((nth x0 k120 Arrow.zero).set))]) z) (TL.w z (moveT (.inl z) z) (TL.w z (OpVal.extract z z z) (TL.w z (OpVal.extract z z z) (TL.i z z (TL.j z z (TL.en (TC.a (TL.j z z (TL.w z (OpVal.not z z) (TL.en (TC.cB z hh (fun h130 hh => ?_) (fun h130 hh => ?_)))))))))))))))))
   ·refine TC.a (TL.w z (moveMap (.inl z) z) (TL.w z (fieldLoc z fo58_2 z) (TL.w z (loadLocA z ag55 sz55 z (i := 0) z z z) (TL.s z z (TL.w z (lenC z underlying99 z) (TL.front 1 z z (TL.op z (updB ((nth x0 k120 Arrow.zero).set) ((l117.length : Nat) : Int) z underlying146 z z z z (keyL_set underlying55 underlying53 ag53 sz53) ?_))))))))
    refine TL.en (TC.region (TL.s z z (TL.w z (fieldLoc z fo58_2 z) (TL.w z (loadLocA z ag55 sz55 z (i := 1) z z z) (TL.op z (OpOk.lit (enc := encSet) [(nth x0 k120 Arrow.zero).set] z underlying99 sz55 ze55 z z z encSet_len (by decide) (by decide) BSet.zero z (by decide) z (by decide) encSet_one (fun a131 c132 => ?_)))))))
    refine TL.front 3 z z ?_
    have u34 := grd_c hh
    replace hh := grd_t hh
    refine TL.op z (appendS z z underlying99 sz55 by55 ze55 z z (by decide) z z z (.inr ⟨_, 0, z⟩) (by simpa using u34) (by decide) (fun a134 c135 => ?_))
    exact TL.s z z (TL.nil (B.n (S.n (cf (((m115.put ((nth x0 k120 Arrow.zero).set) ((l117.length : Nat) : Int)), (l117 ++ [(nth x0 k120 Arrow.zero).set])), (a134, c135)) hh (Sub.f [2] 2)))))
   ·exact TC.skip (B.n (S.n (cf ((m115, l117), (a118, c119)) hh (Sub.f [2, 2] 2))))
  ·skip
   obtain ⟨⟨m124, l125⟩, ⟨a126, c127⟩⟩ := g
   have hh := hg; clear hg
   try dsimp only
   dsimp only [Bq_] at hh
   refine TC.isSl (i := 1) z (fun _ hb136 _ => ?_)
   refine TC.region (TL.w z (OpVal.succ z z z (by omega)) (TL.i z z (TL.en ?_)))
   obtain ⟨hh, hlt137⟩ := nxt_x hR1 hh
   exact lf ((m124, l125, (k120 + 1)), (a126, c127)) hlt137 hh (Sub.f [1, 1] 2)
 ·refine TC.exit (S.x (S.x ?_))
  replace hh := fin_x hR1 hh
  refine TC.exitHere (S.n (TC.a (TL.s z z (TL.s z z (TL.en (TC.front 1 z z (TC.sealS encSet_len (fun τ140 hle139 hr138 => ?_))))))))
  have hr138b := hr138.rv.big
  refine TC.rt 0 ?_
  obtain rfl := so hh
  exact rq [2] ⟨a118, c119, z, hr138, z⟩
noncomputable def Bw_ (k133 : Nat) (l136 : List Int) : Option (((List Int) × Nat) ⊕ (((List Int) × Nat) ⊕ ((List Int)))) :=
 nxt (l136, (k133 + 1))
noncomputable def Bu_ (x0 : List (List Arrow)) (x1 : List Int) (k117 : Nat) (v4 : UInt8 × Bool) (l130 : List Int) (k133 : Nat) : Option (((List Int) × Nat) ⊕ (((List Int) × Nat) ⊕ ((List Int)))) :=
 iteO (decide (((k133 : Nat) : Int) < (((nth x0 ((nth x1 k117 (0 : Int)).toNat) ([] : List Arrow)).length : Nat) : Int))) (iteO (((nth (nth x0 ((nth x1 k117 (0 : Int)).toNat) ([] : List Arrow)) k133 Arrow.zero).set).has v4.1.toNat) (grd ((l130.length + [(nth (nth x0 ((nth x1 k117 (0 : Int)).toNat) ([] : List Arrow)) k133 Arrow.zero).to].length) * 8 ≤ 140737488355328) (Bw_ k133 (l130 ++ [(nth (nth x0 ((nth x1 k117 (0 : Int)).toNat) ([] : List Arrow)) k133 Arrow.zero).to]))) (Bw_ k133 l130)) (fin (nxt (l130, (k117 + 1))))
noncomputable def Bv_ (x1 : List Int) (x0 : List (List Arrow)) (v4 : UInt8 × Bool) (l114 : List Int) (k117 : Nat) : Option (((List Int) × Nat) ⊕ ((List Int))) :=
 iteO (decide (((k117 : Nat) : Int) < ((x1.length : Nat) : Int))) (grd (0 ≤ (nth x1 k117 (0 : Int)) ∧ (nth x1 k117 (0 : Int)) < (x0.length : Int)) (iter (fun q : (List Int) × Nat => Bu_ x0 x1 k117 v4 q.1 q.2) (l114, 0))) (fin (some l114))
noncomputable def Du_ (x0 : List (List Arrow)) (x1 : List Int) (x2 : BSet) : Option ((List Int)) :=
 bnd (Dj_ x2) (fun v4 => iter (fun q : (List Int) × Nat => Bv_ x1 x0 v4 q.1 q.2) (([] : List Int), 0))
def G2_ (σ : Store) (r : (List Int)) : Value → Store → List Res → Prop := fun v σ' H' =>
 ∃ (a1 : Option Addr), ∃ (c1 : Nat),  v = .slice a1 r.length c1 ∧ σ = σ' ∧ H' = [Res.rowS 3 1 Go.E.encI (.slice a1 r.length c1) r]
theorem Gi_ {σ : Store} {x0 : List (List Arrow)} {a0_0 : Option Addr} {c0_0 : Nat} {x1 : List Int} {a1_0 : Option Addr} {c1_0 : Nat} {x2 : BSet} (hgl : GT σ 1 encU8 deB) (f0_0 : RZ σ (pkSl 6 encE encE_len) (.slice a0_0 x0.length c0_0) x0) (f1_0 : RS σ 1 Go.E.encI (.slice a1_0 x1.length c1_0) x1) {r : (List Int)} (hh : Du_ x0 x1 x2 = some r) :
  Con Tryz.prog 47 #[.slice a0_0 x0.length c0_0, .slice a1_0 x1.length c1_0, setV x2] σ [] (G2_ σ r) := by
 dsimp only [Du_] at hh
 have f0_0b := f0_0.big
 have f1_0b := f1_0.rv.big
 refine Con.mk (n := 46) Tryz.func47 z z z (fun w0 => ?_)
 refine TC.a (TL.op z (boxA z z z z (fun b101 => ?_)))
 refine TL.s z z (TL.en (TC.a (TL.w z (loadAll z ag55 sz55 z (i := 0) z z) ?_)))
 obtain ⟨v4, u4, hh⟩ := bnd_e hh
 refine TL.op z (callP (F1_ hgl u4) z z pf77 z z z ?_)
 refine TL.w z (moveT (.inl z) z) (TL.w z (OpVal.extract z z z) (TL.w z (OpVal.extract z z z) (TL.i z z (TL.j z z (TL.en (TC.a (TL.s z z (TL.en (TC.seq (TC.a (TL.s z z (TL.w z (lenC z underlying46 z) (TL.i z z (TL.en (TC.block (TC.nilS 3 1 Go.E.encI (TC.loopG (α := ((List Int) × Nat) × ((Option Addr) × Nat)) (rgs [(9, 1), (11, 1), (13, 1), (21, 24)]) (fun g => [(9, .slice g.2.1 g.1.1.length g.2.2), (21, .int .i64 ((g.1.2 : Nat) : Int))]) (fun g => [Res.rowS 3 1 Go.E.encI (.slice g.2.1 g.1.1.length g.2.2) g.1.1]) (fun g => σ) (fun g => iter (fun q : (List Int) × Nat => Bv_ x1 x0 v4 q.1 q.2) g.1 = some r) (fun g => rounds (fun q : (List Int) × Nat => Bv_ x1 x0 v4 q.1 q.2) g.1) ((([] : List Int), 0), (none, 0)) (Sub.pre 1 z) z (by repeat (first | exact trivial | refine ⟨z, ?_⟩)) hh (fun g1 j1 hg1 => ?_))))))))))))))))))
 obtain ⟨⟨l114, k117⟩, ⟨a115, c116⟩⟩ := g1
 have hh := hg1; clear hg1
 try dsimp only
 obtain ⟨z1, hh, hR1⟩ := iter_e hh
 dsimp only [Bv_] at hh
 refine TC.isSl (i := 0) z (fun _ hb119 _ => ?_)
 refine TC.a (TL.w z (OpVal.lss z z z) (TL.en (TC.seq (TC.cD z hh (fun h120 hh => ?_) (fun h120 hh => ?_)))))
 ·refine TC.skip (S.n (TC.seq (TC.block (TC.a (TL.w z (indexN z underlying46 sz3 z z f1_0.rv.sl (by omega)) (TL.w z (loadS1 (0 : Int) z ag3 z f1_0 (by omega) z) (TL.i z z (TL.en (TC.a (TL.s z z (TL.i z z ?_)))))))))))
  have u20 := grd_c hh
  replace hh := grd_t hh
  refine TL.w z (OpVal.index z underlying105 sz59 z z f0_0.isSl u20.1 u20.2) ?_
  obtain ⟨p121, hk121, hg121⟩ := RZ.seg f0_0 ((nth x1 k117 (0 : Int)).toNat) (by omega)
  replace hk121 : RS _ 6 encE (.slice p121.1 (nth x0 ((nth x1 k117 (0 : Int)).toNat) ([] : List Arrow)).length p121.2) (nth x0 ((nth x1 k117 (0 : Int)).toNat) ([] : List Arrow)) := hk121
  have hk121b := hk121.rv.big
  refine TL.w z (OpVal.of (loadSeg0 z ag59 z hg121 z) (v' := .slice p121.1 ((nth x0 ((nth x1 k117 (0 : Int)).toNat) ([] : List Arrow)).length) p121.2) z) (TL.w z (lenC z underlying59 z) (TL.i z z (TL.en (TC.block (TC.loopG (α := ((List Int) × Nat) × ((Option Addr) × Nat)) (rgs [(9, 1), (13, 1), (30, 14)]) (fun g => [(9, .slice g.2.1 g.1.1.length g.2.2), (30, .int .i64 ((g.1.2 : Nat) : Int))]) (fun g => [Res.rowS 3 1 Go.E.encI (.slice g.2.1 g.1.1.length g.2.2) g.1.1]) (fun g => σ) (fun g => iter (fun q : (List Int) × Nat => Bu_ x0 x1 k117 v4 q.1 q.2) g.1 = some z1) (fun g => rounds (fun q : (List Int) × Nat => Bu_ x0 x1 k117 v4 q.1 q.2) g.1) ((l114, 0), (a115, c116)) (Sub.pre 1 z) z (by repeat (first | exact trivial | refine ⟨z, ?_⟩)) hh (fun g2 j2 hg2 => ?_))))))
  obtain ⟨⟨l130, k133⟩, ⟨a131, c132⟩⟩ := g2
  have hh := hg2; clear hg2
  try dsimp only
  obtain ⟨z2, hh, hR2⟩ := iter_e hh
  dsimp only [Bu_] at hh
  refine TC.isSl (i := 0) z (fun _ hb134 _ => ?_)
  refine TC.a (TL.w z (OpVal.lss z z z) (TL.en (TC.seq (TC.cD z hh (fun h135 hh => ?_) (fun h135 hh => ?_)))))
  ·refine TC.skip (S.n (TC.cutG (α := ((List Int)) × ((Option Addr) × Nat)) (rgs [(9, 1), (13, 1), (32, 11)]) (fun g => [(9, .slice g.2.1 g.1.length g.2.2)]) (fun g => [Res.rowS 3 1 Go.E.encI (.slice g.2.1 g.1.length g.2.2) g.1]) (fun g => σ) (fun g => Bw_ k133 g.1 = some z2) ?_ (fun g j hg => ?_)))
   ·skip
    refine TC.block (TC.a (TL.w z (indexN z underlying59 sz58 z z hk121.rv.sl (by omega)) (TL.w z (loadSA Arrow.zero z ag58 sz58 z hk121 (by omega) (by omega)) (TL.op z (OpOk.alloc z ze58 z z (fun b139 => ?_))))))
    refine TL.op z (storeAll z sz58 z z z z z z ?_)
    refine TL.en (TC.a (TL.w z (fieldLoc z fo58_2 z) (TL.w z (loadLocA z ag55 sz55 z (i := 0) z z z) (TL.i z z (TL.op z (callP (has_con _ ((nth (nth x0 ((nth x1 k117 (0 : Int)).toNat) ([] : List Arrow)) k133 Arrow.zero).set) v4.1.toNat (BSet.isOk _) (UInt8.toNat_lt _)) z z pf62 z z z ?_))))))
    refine TL.en (TC.cB z hh (fun h141 hh => ?_) (fun h141 hh => ?_))
    ·refine TC.region (TL.s z z (TL.w z (fieldLoc z fo58_1 z) (TL.w z (loadLoc z ag3 z (i := 0) z z) (TL.op z (OpOk.lit (enc := Go.E.encI) [(nth (nth x0 ((nth x1 k117 (0 : Int)).toNat) ([] : List Arrow)) k133 Arrow.zero).to] z underlying46 sz3 ze3 z z z Go.E.encI_len (by decide) (by decide) (0 : Int) z (by decide) z (by decide) Go.E.encI_one (fun a142 c143 => ?_))))))
     refine TL.front 2 z z ?_
     have u37 := grd_c hh
     replace hh := grd_t hh
     refine TL.op z (appendS z z underlying46 sz3 by3 ze3 z z (by decide) z z z (.inr ⟨_, 0, z⟩) (by simpa using u37) (by decide) (fun a145 c146 => ?_))
     exact TL.s z z (TL.nil (B.n (S.n (cf ((l130 ++ [(nth (nth x0 ((nth x1 k117 (0 : Int)).toNat) ([] : List Arrow)) k133 Arrow.zero).to]), (a145, c146)) hh (Sub.pre 1 z)))))
    ·exact TC.skip (B.n (S.n (cf (l130, (a131, c132)) hh (Sub.f [1] 1))))
   ·skip
    obtain ⟨l136, ⟨a137, c138⟩⟩ := g
    have hh := hg; clear hg
    try dsimp only
    dsimp only [Bw_] at hh
    refine TC.isSl (i := 0) z (fun _ hb147 _ => ?_)
    refine TC.region (TL.w z (OpVal.succ z z z (by omega)) (TL.i z z (TL.en ?_)))
    obtain ⟨hh, hlt148⟩ := nxt_x hR2 hh
    exact lf ((l136, (k133 + 1)), (a137, c138)) hlt148 hh (Sub.pre 1 z)
  ·refine TC.exit (S.x (S.x ?_))
   replace hh := fin_x hR2 hh
   refine TC.exitHere (B.n (S.n (TC.region (TL.w z (OpVal.succ z z z (by omega)) (TL.i z z (TL.en ?_))))))
   obtain ⟨hh, hlt149⟩ := nxt_x hR1 hh
   exact lf ((l130, (k117 + 1)), (a131, c132)) hlt149 hh (Sub.pre 1 z)
 ·refine TC.exit (S.x (S.x ?_))
  replace hh := fin_x hR1 hh
  refine TC.exitHere (S.n (TC.a (TL.s z z (TL.s z z (TL.en (TC.ret ?_))))))
  obtain rfl := so hh
  exact ro [Res.rowS 3 1 Go.E.encI (.slice a115 l114.length c116) l114] z (RVs.tmp z RVs.nil) ⟨a115, c116, z, z, z⟩
noncomputable def Ah_ {Sy : Type} (x1 : List BSet) (Y : Sy → Int × BSet → Option (Sy × Bool)) (k111 : Nat) (s112 : Sy) : Option ((Nat × Sy) ⊕ (Sy)) :=
 iteO (decide (((k111 : Nat) : Int) < ((x1.length : Nat) : Int))) (bnd (Y s112 (((k111 : Nat) : Int), (nth x1 k111 BSet.zero))) (fun v14 => iteO (!v14.2) (fin (some v14.1)) (nxt ((k111 + 1), v14.1)))) (fin (some s112))
noncomputable def Av_ {Sy : Type} (Y : Sy → Int × BSet → Option (Sy × Bool)) (s0 : Sy) (x1 : List BSet) : Option (Sy) :=
 iter (fun q : Nat × Sy => Ah_ x1 Y q.1 q.2) (0, s0)
theorem Et_ {Sy : Type} {σ : Store} {Y : Sy → Int × BSet → Option (Sy × Bool)} {s0 : Sy} {x1 : List BSet} {b1_0 : Nat} {Eb1 : Nat} {a1_1 : Option Addr} {c1_2 : Nat} (f1_3 : RS σ 4 encSet (.slice a1_1 x1.length c1_2) x1) {r : Sy} (hh : Av_ Y s0 x1 = some r) :
  IterOk Tryz.prog 83 [loc b1_0 0] (fun (x : Int × BSet) _ vs => vs = [.int .i64 x.1, setV x.2]) Y σ [Res.cells b1_0 #[.slice a1_1 x1.length c1_2] Eb1] s0 r (fun σ' H' => H' = [Res.cells b1_0 #[.slice a1_1 x1.length c1_2] Eb1]) := by
 intro l Z ry0 hY hys
 dsimp only [Av_] at hh
 have f1_3b := f1_3.rv.big
 refine Con.mk (n := 18) Tryz.func83 z z z (fun w0 => ?_)
 refine TC.weakR (TC.a (TL.w z (loadLoc z ag99 z (i := 1) z z) (TL.w z (lenC z underlying99 z) (TL.i z z (TL.en (TC.block (TC.loopG (α := (Nat × Sy) × (Res × Store)) (rgs [(3, 2), (7, 11)]) (fun g => [(7, .int .i64 ((g.1.1 : Nat) : Int))]) (fun g => [Res.cells b1_0 #[.slice a1_1 x1.length c1_2] Eb1, g.2.1]) (fun g => g.2.2) (fun g => iter (fun q : Nat × Sy => Ah_ x1 Y q.1 q.2) g.1 = some r ∧ YR Z g.1.2 g.2.2 g.2.1 ∧ Store.le σ g.2.2) (fun g => rounds (fun q : Nat × Sy => Ah_ x1 Y q.1 q.2) g.1) ((0, s0), (ry0, σ)) (Sub.f [1] 2) z (by repeat (first | exact trivial | refine ⟨z, ?_⟩)) ⟨hh, hys, (Store.le.refl _)⟩ (fun g1 j1 hg1 => ?_))))))))
 obtain ⟨⟨k111, s112⟩, ⟨ry113, τ115⟩⟩ := g1
 obtain ⟨hh, hy114, hle116⟩ := hg1
 try dsimp only at hy114
 dsimp only at hle116
 replace f1_3 := f1_3.mono hle116
 try dsimp only
 obtain ⟨z1, hh, hR1⟩ := iter_e hh
 dsimp only [Ah_] at hh
 skip
 refine TC.a (TL.w z (OpVal.lss z z z) (TL.en (TC.seq (TC.cD z hh (fun h117 hh => ?_) (fun h117 hh => ?_)))))
 ·refine TC.skip (S.n (TC.seq (TC.block (TC.a (TL.i z z (TL.w z (indexN z underlying99 sz55 z z f1_3.rv.sl (by omega)) (TL.w z (loadSA BSet.zero z ag55 sz55 z f1_3 (by omega) (by omega)) (TL.op z (OpOk.alloc z ze55 z z (fun b118 => ?_))))))))))
  refine TL.i z z (TL.op z (storeAll z sz55 z z z z z z ?_))
  refine TL.en (TC.a (TL.w z (OpVal.mv (.inl z)) (TL.i z z (TL.w z (loadAll z ag55 sz55 z (i := 0) z z) ?_))))
  obtain ⟨v14, u14, hh⟩ := bnd_e hh
  refine TL.front 2 z z (TL.op z (callY hY hy114 u14 z z z z z z ?_))
  rintro τ120 ry120 hle120 hy120
  refine TL.w z (OpVal.not z z) (TL.en (TC.cB z hh (fun h121 hh => ?_) (fun h121 hh => ?_)))
  ·refine TC.ofSub (Sub.f [2, 1] 2) (TC.ret (B.r (S.r (S.r ?_))))
   replace hh := fin_x hR1 hh
   refine B.r ?_
   obtain rfl := so hh
   refine ⟨_, Sub.f [1, 1] 2, ?_⟩
   exact ro [ry120, Res.cells b1_0 #[.slice a1_1 x1.length c1_2] Eb1] z RVs.nil ⟨_, _, z, hy120, z⟩
  ·refine TC.skip (B.n (S.n (TC.region (TL.w z (OpVal.succ z z z (by omega)) (TL.i z z (TL.en ?_))))))
   obtain ⟨hh, hlt122⟩ := nxt_x hR1 hh
   exact lf (((k111 + 1), v14.1), (ry120, τ120)) hlt122 ⟨hh, hy120, (hle116.trans hle120)⟩ (Sub.f [2] 2)
 ·refine TC.exit (S.x (S.x ?_))
  replace hh := fin_x hR1 hh
  refine TC.exitHere ?_
  obtain rfl := so hh
  refine ⟨_, Sub.f [1] 2, ?_⟩
  exact RetOk.mk' (rs := []) [ry113, Res.cells b1_0 #[.slice a1_1 x1.length c1_2] Eb1] z (.inr z) RVs.nil (List.sublist_append_left _ _) ⟨_, _, z, hy114, z⟩
noncomputable def B4_ (x0 : List BSet) : Option ((List BSet)) :=
 some x0
theorem Fe_ {σ : Store} {x0 : List BSet} {a0_0 : Option Addr} {c0_0 : Nat} (f0_0 : RS σ 4 encSet (.slice a0_0 x0.length c0_0) x0) {r : (List BSet)} (hh : B4_ x0 = some r) :
  Con Tryz.prog 46 #[.slice a0_0 x0.length c0_0] σ [] (fun v σ' H' => ∃ (br4 : Nat), ∃ (ar1 : Option Addr), ∃ (cr2 : Nat), v = .func (.func 83) #[] #[loc br4 0] ∧ RS σ' 4 encSet (.slice ar1 r.length cr2) r ∧ H' = [Res.cells br4 #[.slice ar1 r.length cr2] 99]) := by
 dsimp only [B4_] at hh
 have f0_0b := f0_0.rv.big
 refine Con.mk (n := 4) Tryz.func46 z z z (fun w0 => ?_)
 refine TC.a (TL.op z (OpOk.box z z z z (fun b103 => ?_)))
 refine TL.w z (OpVal.mv (.inr z)) (TL.en (TC.a (TL.w z (makeFn z) (TL.w z (moveFn (.inr z) z) (TL.en (TC.ret ?_))))))
 obtain rfl := so hh
 exact ro [Res.cells b103 #[.slice a0_0 x0.length c0_0] 99] z (RVs.tmp z RVs.nil) ⟨b103, a0_0, c0_0, z, f0_0, z⟩
end Go.Proofs.YtamgjehhjkgelaaGreatDoor
end

section
namespace Go.E
open Go
structure Tip where
  state : Int
  out : List UInt8
  deriving DecidableEq
def Tip.zero : Tip := ⟨0, []⟩
def encTip (x : Tip) : List Value := [.int .i64 x.state, .string (bs x.out)]
theorem encTip_len (x : Tip) : (encTip x).length = 2 := rfl
theorem encTip_one : ∀ x, ∀ u ∈ encTip x, u.oneCell' = true := fun x u hu => by
  simp [encTip] at hu
  rcases hu with rfl | rfl <;> rfl
theorem encTip_bits : ∀ x, ∀ u ∈ encTip x, Bits u := fun x u hu => by
  simp [encTip] at hu
  rcases hu with rfl | rfl <;> first | exact Bits.int _ _ | exact Bits.str _ | exact Bits.bool _
structure Arc where
  frm : Int
  to : Int
  set : BSet
  out : List UInt8
  copy : Bool
  deriving DecidableEq
def Arc.zero : Arc := ⟨0, 0, BSet.zero, [], false⟩
def encArc (x : Arc) : List Value := [.int .i64 x.frm, .int .i64 x.to, .int .u64 ((x.set.a : Nat) : Int), .int .u64 ((x.set.b : Nat) : Int), .int .u64 ((x.set.c : Nat) : Int), .int .u64 ((x.set.d : Nat) : Int), .string (bs x.out), .bool x.copy]
theorem encArc_len (x : Arc) : (encArc x).length = 8 := rfl
theorem encArc_one : ∀ x, ∀ u ∈ encArc x, u.oneCell' = true := fun x u hu => by
  simp [encArc] at hu
  rcases hu with rfl | rfl | rfl | rfl | rfl | rfl | rfl | rfl <;> rfl
theorem encArc_bits : ∀ x, ∀ u ∈ encArc x, Bits u := fun x u hu => by
  simp [encArc] at hu
  rcases hu with rfl | rfl | rfl | rfl | rfl | rfl | rfl | rfl <;> first | exact Bits.int _ _ | exact Bits.str _ | exact Bits.bool _
structure FPair where
  state : Int
  out : List UInt8
  deriving DecidableEq
def FPair.zero : FPair := ⟨0, []⟩
def encFPair (x : FPair) : List Value := [.int .i64 x.state, .string (bs x.out)]
theorem encFPair_bits : ∀ x, ∀ u ∈ encFPair x, Bits u := fun x u hu => by
  simp [encFPair] at hu
  rcases hu with rfl | rfl <;> first | exact Bits.int _ _ | exact Bits.str _ | exact Bits.bool _
structure Span where
  frm : Int
  to : Int
  deriving DecidableEq
def Span.zero : Span := ⟨0, 0⟩
structure Fst where
  states : Int
  starts : List Tip
  ends : List Tip
  arcs : List Arc
  deriving DecidableEq
def Fst.zero : Fst := ⟨0, [], [], []⟩
end Go.E
end
