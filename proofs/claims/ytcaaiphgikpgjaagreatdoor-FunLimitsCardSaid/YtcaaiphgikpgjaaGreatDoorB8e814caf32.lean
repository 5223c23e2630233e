/- Parts of a proof, one behind the other: what a machine reaches, functions decompiled, plain lemmas. Conditions stand with each lemma. -/
import Derived.Test.YtcaaiphgikpgjaaGreatDoorB7a4fe0d455
import Derived.Test.YtcaaiphgikpgjaaGreatDoorB2793157dae
import Derived.Test.YtcaaiphgikpgjaaGreatDoorB9c75e8297e
import Derived.Test.YtcaaiphgikpgjaaGreatDoorBd514530a1a
import Derived.KernelRfl
import Derived.RangeFuncLeaves
import Derived.Shelf.SlSortCmp.NoneTotal
import Derived.Shelf.Sort.Plain
import Derived.Shelf.SlLaysZI
import Derived.Test.YtcaaiphgikpgjaaGreatDoorChecked

set_option linter.unusedVariables false
set_option linter.unusedSimpArgs false
set_option linter.unusedSectionVars false
set_option maxRecDepth 100000

section
namespace Go.Proofs.YtcaaiphgikpgjaaGreatDoor
open Go Go.E
theorem dv (k n : Nat) : Int.tdiv ((k : Nat) : Int) ((n : Nat) : Int) = ((k / n : Nat) : Int) := rfl
theorem md (k n : Nat) : Int.tmod ((k : Nat) : Int) ((n : Nat) : Int) = ((k % n : Nat) : Int) := rfl
theorem wrS {a : Int} (h : -100000 ≤ a ∧ a ≤ 100000) : IntKind.i64.wrap a = a := wrap64_of (by omega) (by omega)
def ix (n : Nat) (p q : Int) : Nat := p.toNat * n + q.toNat
theorem ix_lt {n : Nat} {p q : Int} (hp : 0 ≤ p ∧ p < n) (hq : 0 ≤ q ∧ q < n) : ix n p q < n * n := by
 have h1 : p.toNat + 1 ≤ n := by omega
 have := Nat.mul_le_mul_right n h1
 rw [Nat.add_mul] at this
 unfold ix; omega
theorem ix_div {n : Nat} {p q : Int} (hq : 0 ≤ q ∧ q < n) : ix n p q / n = p.toNat := by
 have : 0 < n := by omega
 unfold ix
 rw [Nat.mul_comm, Nat.mul_add_div this, Nat.div_eq_of_lt (by omega), Nat.add_zero]
theorem ix_mod {n : Nat} {p q : Int} (hq : 0 ≤ q ∧ q < n) : ix n p q % n = q.toNat := by
 unfold ix
 rw [Nat.mul_comm, Nat.mul_add_mod, Nat.mod_eq_of_lt (by omega)]
theorem ix_inj {n : Nat} {p q p' q' : Int} (hp : 0 ≤ p) (hq : 0 ≤ q ∧ q < n) (hp' : 0 ≤ p') (hq' : 0 ≤ q' ∧ q' < n) (h : ix n p q = ix n p' q') : p = p' ∧ q = q' := by
 have h1 := ix_div (p := p) hq
 have h2 := ix_div (p := p') hq'
 have h3 := ix_mod (p := p) hq
 have h4 := ix_mod (p := p') hq'
 rw [h] at h1 h3
 omega
theorem div_lt {n i : Nat} (hi : i < n * n) : i / n < n := Nat.div_lt_of_lt_mul hi
theorem mod_lt {n i : Nat} (hi : i < n * n) : i % n < n := Nat.mod_lt _ (by
 cases n with
 | zero => simp at hi
 | succ n => omega)
theorem sq_le {n : Nat} (h : n ≤ 32) : n * n ≤ 1024 := Nat.mul_le_mul h h
abbrev ArcI (T : Fst) (n : Nat) (A : List (List Int)) : Prop := Grp (fun i : Nat => (nth T.arcs i Arc.zero).frm) (fun i : Nat => ((i : Nat) : Int)) n A (List.range T.arcs.length)
abbrev EndI (T : Fst) (n : Nat) (E : List (List (List UInt8))) : Prop := Grp Tip.state Tip.out n E T.ends
structure Sta (T : Fst) (n : Nat) (A : List (List Int)) (E : List (List (List UInt8))) : Prop where
 ok : FstOk T
 n32 : n ≤ 32
 st : T.states = ((n : Nat) : Int)
 ar : ArcI T n A
 en : EndI T n E
section
variable {T : Fst} {n : Nat} {A : List (List Int)} {E : List (List (List UInt8))} (hS : Sta T n A E)
include hS
theorem Sta.arc {p : Nat} (hp : p < n) {j : Nat} (hj : j < (nth A p ([] : List Int)).length) : ∃ i : Nat, nth (nth A p ([] : List Int)) j (0 : Int) = ((i : Nat) : Int) ∧ i < T.arcs.length ∧ (nth T.arcs i Arc.zero).frm = ((p : Nat) : Int) := by
 have hm : nth (nth A p ([] : List Int)) j (0 : Int) ∈ nth A p ([] : List Int) := nth_mem' hj 0
 generalize nth (nth A p ([] : List Int)) j (0 : Int) = x at hm
 rw [hS.ar.row p hp, List.mem_map] at hm
 obtain ⟨i, hi, e⟩ := hm
 have := List.mem_filter.1 hi
 exact ⟨i, e.symm, List.mem_range.1 this.1, of_decide_eq_true this.2⟩
theorem Sta.arcs {p : Nat} (hp : p < n) {x : Arc} (hx : x ∈ T.arcs) (e : x.frm = ((p : Nat) : Int)) : ∃ j, j < (nth A p ([] : List Int)).length ∧ nth T.arcs (nth (nth A p ([] : List Int)) j (0 : Int)).toNat Arc.zero = x := by
 obtain ⟨i, hi, e2⟩ := mem_nth (d := Arc.zero) hx
 have hm : ((i : Nat) : Int) ∈ nth A p ([] : List Int) := by
  rw [hS.ar.row p hp, List.mem_map]
  exact ⟨i, List.mem_filter.2 ⟨List.mem_range.2 hi, decide_eq_true (by rw [e2]; exact e)⟩, rfl⟩
 obtain ⟨j, hj, e3⟩ := mem_nth (d := (0 : Int)) hm
 exact ⟨j, hj, by rw [e3, Int.toNat_natCast]; exact e2⟩
theorem Sta.row_len (p : Nat) (hp : p < n) : (nth A p ([] : List Int)).length ≤ 16384 := by
 rw [hS.ar.row p hp, List.length_map]
 have h1 := List.length_filter_le (fun i : Nat => decide ((nth T.arcs i Arc.zero).frm = ((p : Nat) : Int))) (List.range T.arcs.length)
 rw [List.length_range] at h1
 have := hS.ok.arcsN; omega
theorem Sta.end_mem {p : Nat} (hp : p < n) {o : List UInt8} : o ∈ nth E p ([] : List (List UInt8)) ↔ ∃ e ∈ T.ends, e.state = ((p : Nat) : Int) ∧ e.out = o := by
 rw [hS.en.row p hp, List.mem_map]
 constructor
 ·rintro ⟨e, he, rfl⟩
  have := List.mem_filter.1 he
  exact ⟨e, this.1, of_decide_eq_true this.2, rfl⟩
 ·rintro ⟨e, he, h, rfl⟩
  exact ⟨e, List.mem_filter.2 ⟨he, decide_eq_true h⟩, rfl⟩
end
theorem begin_eq {T : Fst} (hT : FstOk T) (h32 : T.states ≤ 32) : ∃ n A E, E1_ T = some ⟨T, A, E, List.replicate (n * n) Hop.zero, [], List.replicate (n * n) 0, [], false⟩ ∧ Sta T n A E := by
 have h0 := hT.st0
 obtain ⟨n, hn⟩ : ∃ n : Nat, T.states = ((n : Nat) : Int) := ⟨T.states.toNat, by omega⟩
 have hn32 : n ≤ 32 := by omega
 have hsq := sq_le hn32
 have hnn : IntKind.i64.wrap (T.states * T.states) = ((n * n : Nat) : Int) := by
  rw [hn, ← Int.natCast_mul]; exact wrS (by omega)
 unfold E1_
 rw [grd_mk ⟨h0, by omega⟩, grd_mk ⟨h0, by omega⟩]
 unfold Eg_
 have hto : T.states.toNat = n := by omega
 rw [hto]
 obtain ⟨r, e, A, E, rfl, h1, h2⟩ := iter_up (step := fun q : (List (List Int)) × Nat => B2_ T q.1 q.2) (fun (l : List (List Int)) k => (l, k)) T.arcs.length
  (fun k l => Grp (fun i : Nat => (nth T.arcs i Arc.zero).frm) (fun i : Nat => ((i : Nat) : Int)) n l (List.range k))
  (fun r => ∃ A E, r = ⟨T, A, E, List.replicate (n * n) Hop.zero, [], List.replicate (n * n) 0, [], false⟩ ∧ ArcI T n A ∧ EndI T n E)
  (fun k l hk hI => by
   have hlen := hI.len
   have hm := hT.arcs _ (nth_mem' hk Arc.zero)
   have hrow : (nth l (nth T.arcs k Arc.zero).frm.toNat []).length ≤ 16384 := by
    rw [hI.at hm.1.1 (by omega), List.length_map]
    have := List.length_filter_le (fun i : Nat => decide ((nth T.arcs i Arc.zero).frm = (nth T.arcs k Arc.zero).frm)) (List.range k)
    rw [List.length_range] at this
    have := hT.arcsN; omega
   refine .inl ⟨l.set (nth T.arcs k Arc.zero).frm.toNat (nth l (nth T.arcs k Arc.zero).frm.toNat [] ++ [((k : Nat) : Int)]), ?_, ?_⟩
   ·show B2_ T l k = _
    unfold B2_ Ec_
    rw [iteO_dt (by omega), grd_mk (by omega), grd_mk (by rw [List.length_singleton]; omega), grd_mk (by omega)]; rfl
   ·rw [List.range_succ]; exact hI.snoc hm.1.1 (by omega))
  (fun l hI => by
   obtain ⟨r, e, E, rfl, h2⟩ := iter_up (step := fun q : (List (List (List UInt8))) × Nat => B5_ T l q.1 q.2) (fun (s : List (List (List UInt8))) k => (s, k)) T.ends.length
    (fun k s => Grp Tip.state Tip.out n s (T.ends.take k)) (fun r => ∃ E, r = ⟨T, l, E, List.replicate (n * n) Hop.zero, [], List.replicate (n * n) 0, [], false⟩ ∧ EndI T n E)
    (fun k s hk hI => by
     have hlen := hI.len
     have hm := hT.ends _ (nth_mem' hk Tip.zero)
     have hrow : (nth s (nth T.ends k Tip.zero).state.toNat []).length ≤ 1024 := by
      rw [hI.at hm.1.1 (by omega), List.length_map]
      have := List.length_filter_le (fun x : Tip => decide (x.state = (nth T.ends k Tip.zero).state)) (T.ends.take k)
      rw [List.length_take] at this
      have := hT.endsN; omega
     refine .inl ⟨s.set (nth T.ends k Tip.zero).state.toNat (nth s (nth T.ends k Tip.zero).state.toNat [] ++ [(nth T.ends k Tip.zero).out]), ?_, ?_⟩
     ·show B5_ T l s k = _
      unfold B5_ Ed_
      rw [iteO_dt (by omega), grd_mk (by omega), grd_mk (by rw [List.length_singleton]; omega), grd_mk (by omega)]; rfl
     ·rw [take_snoc T.ends hk Tip.zero]; exact hI.snoc hm.1.1 (by omega))
    (fun s hI => by
     rw [List.take_length] at hI
     refine ⟨_, ?_, s, rfl, hI⟩
     show B5_ T l s T.ends.length = _
     unfold B5_
     rw [iteO_df (by omega), hnn, Int.toNat_natCast, grd_mk ⟨by omega, by omega⟩, grd_mk ⟨by omega, by omega⟩]; rfl)
    (s0 := List.replicate n []) (by simpa using Grp.nil Tip.state Tip.out n)
   refine ⟨_, ?_, l, E, rfl, hI, h2⟩
   show B2_ T l T.arcs.length = _
   unfold B2_
   rw [iteO_df (by omega), hto, e]; rfl)
  (s0 := List.replicate n []) (by simpa using Grp.nil (fun i : Nat => (nth T.arcs i Arc.zero).frm) (fun i : Nat => ((i : Nat) : Int)) n)
 exact ⟨n, A, E, e, hT, hn32, hn, h1, h2⟩
theorem index_eq {S : Search} {n : Nat} (hn : S.t.states = ((n : Nat) : Int)) (h32 : n ≤ 32) {p q : Int} (hp : 0 ≤ p ∧ p < n) (hq : 0 ≤ q ∧ q < n) : Ba_ S ⟨p, q⟩ = some ((ix n p q : Nat) : Int) := by
 have h1 := ix_lt hp hq
 have h2 := sq_le h32
 have e : p * ((n : Nat) : Int) = ((p.toNat * n : Nat) : Int) := by
  rw [Int.natCast_mul, Int.toNat_of_nonneg hp.1]
 have h3 : p.toNat * n ≤ 1024 := by unfold ix at h1; omega
 unfold Ba_
 dsimp only
 rw [hn, e, wrS (a := ((p.toNat * n : Nat) : Int)) ⟨by omega, by omega⟩, wrS (by omega)]
 congr 1
 unfold ix
 omega
structure StepB (T : Fst) (n i z : Nat) (x y : Int) : Prop where
 x0 : 0 ≤ x
 x1 : x < T.arcs.length
 y0 : 0 ≤ y
 y1 : y < T.arcs.length
 fx : (nth T.arcs x.toNat Arc.zero).frm = ((i / n : Nat) : Int)
 fy : (nth T.arcs y.toNat Arc.zero).frm = ((i % n : Nat) : Int)
 to : ix n (nth T.arcs x.toNat Arc.zero).to (nth T.arcs y.toNat Arc.zero).to = z
 by' : bothS (nth T.arcs x.toNat Arc.zero).set (nth T.arcs y.toNat Arc.zero).set ≠ BSet.zero
structure BkS (T : Fst) (n : Nat) (l : List (List FBack)) (c : Nat) : Prop where
 len : l.length = n * n
 sound : ∀ z, z < n * n → ∀ b ∈ nth l z ([] : List FBack), ∃ i, i < n * n ∧ b.frm = ((i : Nat) : Int) ∧ StepB T n i z b.x b.y
 small : ∀ z, (nth l z ([] : List FBack)).length ≤ c
def Mono (l m : List (List FBack)) : Prop := ∀ z, ∀ b ∈ nth l z ([] : List FBack), b ∈ nth m z ([] : List FBack)
theorem Mono.rfl' (l : List (List FBack)) : Mono l l := fun _ _ h => h
theorem Mono.trans {l m r : List (List FBack)} (h : Mono l m) (k : Mono m r) : Mono l r := fun z b hb => k z b (h z b hb)
def SeenB (l : List (List FBack)) (n i : Nat) (s : List Bool) : Prop := s.length = n * n ∧ ∀ z, nth s z false = true → ∃ b ∈ nth l z ([] : List FBack), b.frm = ((i : Nat) : Int)
section
variable {T : Fst} {n : Nat} {A : List (List Int)} {E : List (List (List UInt8))} (hS : Sta T n A E) {S : Search} (hSt : S.t = T) (hSa : S.arcs = A)
include hS hSt hSa
theorem backs_one {i j k : Nat} (hi : i < n * n) (hj : j < (nth A (i / n) ([] : List Int)).length) (hk : k < (nth A (i % n) ([] : List Int)).length) {l : List (List FBack)} {s : List Bool} {c : Nat} (hl : BkS T n l c) (hc : c ≤ 1000000000000) (hs : SeenB l n i s) :
  ∃ l' s', Ak_ S i j l s k = some (.inl (l', s', k + 1)) ∧ BkS T n l' (c + 1) ∧ SeenB l' n i s' ∧ Mono l l' ∧
   (bothS (nth T.arcs (nth (nth A (i / n) ([] : List Int)) j (0 : Int)).toNat Arc.zero).set (nth T.arcs (nth (nth A (i % n) ([] : List Int)) k (0 : Int)).toNat Arc.zero).set ≠ BSet.zero →
    ∃ b ∈ nth l' (ix n (nth T.arcs (nth (nth A (i / n) ([] : List Int)) j (0 : Int)).toNat Arc.zero).to (nth T.arcs (nth (nth A (i % n) ([] : List Int)) k (0 : Int)).toNat Arc.zero).to) ([] : List FBack), b.frm = ((i : Nat) : Int)) := by
 have hp := div_lt hi
 have hq := mod_lt hi
 have hp0 : (0 : Int) ≤ ((i / n : Nat) : Int) := Int.natCast_nonneg _
 have hq0 : (0 : Int) ≤ ((i % n : Nat) : Int) := Int.natCast_nonneg _
 have hn32 := hS.n32
 have hsq := sq_le hn32
 obtain ⟨u, eu, hu, fu⟩ := hS.arc hp hj
 obtain ⟨v, ev, hv, fv⟩ := hS.arc hq hk
 have hst : S.t.states = ((n : Nat) : Int) := by rw [hSt]; exact hS.st
 have hup := (hS.ok.arcs _ (nth_mem' hu Arc.zero)).2.1
 have hvp := (hS.ok.arcs _ (nth_mem' hv Arc.zero)).2.1
 rw [hS.st] at hup hvp
 have hz := ix_lt hup hvp
 have hlen := hl.len
 have hsl := hs.1
 unfold Ak_
 rw [hst, dv, md, wrS (by omega), Int.toNat_natCast, Int.toNat_natCast, hSa, hSt, iteO_dt (by omega), eu, ev, grd_mk ⟨by omega, by omega⟩, grd_mk ⟨by omega, by omega⟩]
 unfold Cw_ Bd_
 rw [hst, dv, md, wrS (by omega), Int.toNat_natCast, Int.toNat_natCast, hSa, hSt, eu, ev, Int.toNat_natCast, Int.toNat_natCast]
 rw [bnd_some (index_eq (S := S) hst hS.n32 hup hvp), Int.toNat_natCast, grd_mk ⟨by omega, by omega⟩]
 generalize hzz : ix n (nth T.arcs u Arc.zero).to (nth T.arcs v Arc.zero).to = z at hz
 cases hse : nth s z false with
 | true =>
  refine ⟨l, s, rfl, ⟨hl.len, hl.sound, fun y => Nat.le_succ_of_le (hl.small y)⟩, hs, Mono.rfl' l, fun _ => hs.2 z hse⟩
 | false =>
  rw [Bool.not_false, iteO_true, bnd_some (both_eq _ _)]
  by_cases hb : bothS (nth T.arcs u Arc.zero).set (nth T.arcs v Arc.zero).set = BSet.zero
  ·rw [iteO_df (by simpa using hb)]
   exact ⟨l, s, rfl, ⟨hl.len, hl.sound, fun y => Nat.le_succ_of_le (hl.small y)⟩, hs, Mono.rfl' l, fun h => absurd hb h⟩
  ·have hsm := hl.small z
   rw [iteO_dt hb, grd_mk ⟨by omega, by omega⟩, grd_mk ⟨by omega, by omega⟩, grd_mk (by rw [List.length_singleton]; omega), grd_mk ⟨by omega, by omega⟩]
   have hnew : nth (l.set z (nth l z [] ++ [(⟨((i : Nat) : Int), ((u : Nat) : Int), ((v : Nat) : Int)⟩ : FBack)])) z [] = nth l z [] ++ [(⟨((i : Nat) : Int), ((u : Nat) : Int), ((v : Nat) : Int)⟩ : FBack)] := by
    rw [nth_set, if_pos ⟨rfl, by omega⟩]
   have hold : ∀ y, y ≠ z → nth (l.set z (nth l z [] ++ [(⟨((i : Nat) : Int), ((u : Nat) : Int), ((v : Nat) : Int)⟩ : FBack)])) y [] = nth l y [] := fun y hy => by
    rw [nth_set, if_neg (fun h => hy h.1.symm)]
   have hmono : Mono l (l.set z (nth l z [] ++ [(⟨((i : Nat) : Int), ((u : Nat) : Int), ((v : Nat) : Int)⟩ : FBack)])) := fun y b hb => by
    by_cases hy : y = z
    ·subst hy; rw [hnew]; exact List.mem_append_left _ hb
    ·rw [hold y hy]; exact hb
   refine ⟨_, _, rfl, ⟨by rw [List.length_set]; exact hlen, fun y hy b hb' => ?_, fun y => ?_⟩, ⟨by rw [List.length_set]; exact hsl, fun y hy => ?_⟩, hmono, fun _ => ⟨⟨((i : Nat) : Int), ((u : Nat) : Int), ((v : Nat) : Int)⟩, by rw [hnew]; exact List.mem_append_right _ (List.mem_singleton.2 rfl), rfl⟩⟩
   ·by_cases e : y = z
    ·subst e
     rw [hnew] at hb'
     rcases List.mem_append.1 hb' with hb' | hb'
     ·exact hl.sound y hy b hb'
     ·obtain rfl := List.mem_singleton.1 hb'
      exact ⟨i, hi, rfl, ⟨by dsimp only; omega, by dsimp only; omega, by dsimp only; omega, by dsimp only; omega, fu, fv, hzz, hb⟩⟩
    ·rw [hold y e] at hb'; exact hl.sound y hy b hb'
   ·by_cases e : y = z
    ·subst e; rw [hnew, List.length_append, List.length_singleton]; omega
    ·rw [hold y e]; exact Nat.le_succ_of_le (hl.small y)
   ·rw [nth_set] at hy
    by_cases e : z = y
    ·subst e
     exact ⟨⟨((i : Nat) : Int), ((u : Nat) : Int), ((v : Nat) : Int)⟩, by rw [hnew]; exact List.mem_append_right _ (List.mem_singleton.2 rfl), rfl⟩
    ·rw [if_neg (fun h => e h.1)] at hy
     obtain ⟨b, hb1, hb2⟩ := hs.2 y hy
     exact ⟨b, hmono y b hb1, hb2⟩
def DoneB (T : Fst) (n : Nat) (A : List (List Int)) (l : List (List FBack)) (i j k : Nat) : Prop :=
 bothS (nth T.arcs (nth (nth A (i / n) ([] : List Int)) j (0 : Int)).toNat Arc.zero).set (nth T.arcs (nth (nth A (i % n) ([] : List Int)) k (0 : Int)).toNat Arc.zero).set ≠ BSet.zero →
  ∃ b ∈ nth l (ix n (nth T.arcs (nth (nth A (i / n) ([] : List Int)) j (0 : Int)).toNat Arc.zero).to (nth T.arcs (nth (nth A (i % n) ([] : List Int)) k (0 : Int)).toNat Arc.zero).to) ([] : List FBack), b.frm = ((i : Nat) : Int)
omit hS hSt hSa in
theorem DoneB.mono {l m : List (List FBack)} (h : Mono l m) {i j k : Nat} (hd : DoneB T n A l i j k) : DoneB T n A m i j k := fun hb => by
 obtain ⟨b, h1, h2⟩ := hd hb
 exact ⟨b, h _ b h1, h2⟩
theorem backs_in {i j : Nat} (hi : i < n * n) (hj : j < (nth A (i / n) ([] : List Int)).length) {l : List (List FBack)} {s : List Bool} {c : Nat} (hl : BkS T n l c) (hc : c ≤ 900000000000) (hs : SeenB l n i s) :
  ∃ l' s', iter (fun q : (List (List FBack)) × (List Bool) × Nat => Ak_ S i j q.1 q.2.1 q.2.2) (l, s, 0) = some (.inl (l', s', j + 1)) ∧ BkS T n l' (c + 16384) ∧ SeenB l' n i s' ∧ Mono l l' ∧ ∀ k, k < (nth A (i % n) ([] : List Int)).length → DoneB T n A l' i j k := by
 have hq := mod_lt hi
 have hlen := hS.row_len (i % n) hq
 obtain ⟨r, e, l', s', rfl, h1, h2, h3, h4⟩ := iter_up (step := fun q : (List (List FBack)) × (List Bool) × Nat => Ak_ S i j q.1 q.2.1 q.2.2) (fun (q : (List (List FBack)) × (List Bool)) k => (q.1, q.2, k)) (nth A (i % n) ([] : List Int)).length
  (fun k q => BkS T n q.1 (c + k) ∧ SeenB q.1 n i q.2 ∧ Mono l q.1 ∧ ∀ m, m < k → DoneB T n A q.1 i j m)
  (fun r => ∃ l' s', r = .inl (l', s', j + 1) ∧ BkS T n l' (c + 16384) ∧ SeenB l' n i s' ∧ Mono l l' ∧ ∀ k, k < (nth A (i % n) ([] : List Int)).length → DoneB T n A l' i j k)
  (fun k q hk hI => by
   obtain ⟨l', s', e, h1, h2, h3, h4⟩ := backs_one hS hSt hSa hi hj hk hI.1 (by omega) hI.2.1
   refine .inl ⟨(l', s'), e, h1, h2, hI.2.2.1.trans h3, fun m hm => ?_⟩
   by_cases e2 : m = k
   ·subst e2; exact h4
   ·exact (hI.2.2.2 m (by omega)).mono h3)
  (fun q hI => by
   refine ⟨_, ?_, q.1, q.2, rfl, ⟨hI.1.len, hI.1.sound, fun z => Nat.le_trans (hI.1.small z) (by omega)⟩, hI.2.1, hI.2.2.1, hI.2.2.2⟩
   show Ak_ S i j q.1 q.2 (nth A (i % n) ([] : List Int)).length = _
   unfold Ak_
   rw [hSa, hSt, hS.st, md, Int.toNat_natCast, iteO_df (by omega)]; rfl)
  (s0 := (l, s)) ⟨hl, hs, Mono.rfl' l, fun m hm => absurd hm (by omega)⟩
 exact ⟨l', s', e, h1, h2, h3, h4⟩
theorem backs_at {i : Nat} (hi : i < n * n) {l : List (List FBack)} {s : List Bool} {c : Nat} (hl : BkS T n l c) (hc : c ≤ 600000000000) (hs : SeenB l n i s) :
  ∃ l' s', iter (fun q : (List (List FBack)) × (List Bool) × Nat => Ag_ S i q.1 q.2.1 q.2.2) (l, s, 0) = some (.inl (l', s', i + 1)) ∧ BkS T n l' (c + 268435456) ∧ SeenB l' n i s' ∧ Mono l l' ∧ ∀ j k, j < (nth A (i / n) ([] : List Int)).length → k < (nth A (i % n) ([] : List Int)).length → DoneB T n A l' i j k := by
 have hp := div_lt hi
 have hq := mod_lt hi
 have hp0 : (0 : Int) ≤ ((i / n : Nat) : Int) := Int.natCast_nonneg _
 have hq0 : (0 : Int) ≤ ((i % n : Nat) : Int) := Int.natCast_nonneg _
 have hlen := hS.row_len (i / n) hp
 have hn32 := hS.n32
 have hsq := sq_le hn32
 have hal := hS.ar.len
 obtain ⟨r, e, l', s', rfl, h1, h2, h3, h4⟩ := iter_up (step := fun q : (List (List FBack)) × (List Bool) × Nat => Ag_ S i q.1 q.2.1 q.2.2) (fun (q : (List (List FBack)) × (List Bool)) k => (q.1, q.2, k)) (nth A (i / n) ([] : List Int)).length
  (fun j q => BkS T n q.1 (c + j * 16384) ∧ SeenB q.1 n i q.2 ∧ Mono l q.1 ∧ ∀ m k, m < j → k < (nth A (i % n) ([] : List Int)).length → DoneB T n A q.1 i m k)
  (fun r => ∃ l' s', r = .inl (l', s', i + 1) ∧ BkS T n l' (c + 268435456) ∧ SeenB l' n i s' ∧ Mono l l' ∧ ∀ j k, j < (nth A (i / n) ([] : List Int)).length → k < (nth A (i % n) ([] : List Int)).length → DoneB T n A l' i j k)
  (fun j q hj hI => by
   obtain ⟨l', s', e, h1, h2, h3, h4⟩ := backs_in hS hSt hSa hi hj hI.1 (by omega) hI.2.1
   refine .inl ⟨(l', s'), ?_, by rw [Nat.add_mul, Nat.one_mul, ← Nat.add_assoc]; exact h1, h2, hI.2.2.1.trans h3, fun m k hm hk => ?_⟩
   ·show Ag_ S i q.1 q.2 j = _
    unfold Ag_
    rw [hSt, hSa, hS.st, dv, md, wrS (by omega), Int.toNat_natCast, iteO_dt (by omega), grd_mk (by omega), grd_mk ⟨by omega, by omega⟩]
    exact e
   ·by_cases e2 : m = j
    ·subst e2; exact h4 k hk
    ·exact (hI.2.2.2 m k (by omega) hk).mono h3)
  (fun q hI => by
   refine ⟨_, ?_, q.1, q.2, rfl, ⟨hI.1.len, hI.1.sound, fun z => Nat.le_trans (hI.1.small z) (by omega)⟩, hI.2.1, hI.2.2.1, hI.2.2.2⟩
   show Ag_ S i q.1 q.2 (nth A (i / n) ([] : List Int)).length = _
   unfold Ag_
   rw [hSt, hSa, hS.st, dv, wrS (by omega), Int.toNat_natCast, iteO_df (by omega), grd_mk (by omega)]; rfl)
  (s0 := (l, s)) ⟨by rw [Nat.zero_mul]; exact hl, hs, Mono.rfl' l, fun m k hm => absurd hm (by omega)⟩
 exact ⟨l', s', e, h1, h2, h3, h4⟩
structure BackOk (T : Fst) (n : Nat) (l : List (List FBack)) : Prop where
 len : l.length = n * n
 sound : ∀ z, z < n * n → ∀ b ∈ nth l z ([] : List FBack), ∃ i, i < n * n ∧ b.frm = ((i : Nat) : Int) ∧ StepB T n i z b.x b.y
 full : ∀ i, i < n * n → ∀ x ∈ T.arcs, ∀ y ∈ T.arcs, x.frm = ((i / n : Nat) : Int) → y.frm = ((i % n : Nat) : Int) → bothS x.set y.set ≠ BSet.zero → ∃ b ∈ nth l (ix n x.to y.to) ([] : List FBack), b.frm = ((i : Nat) : Int)
theorem backs_eq : ∃ l, Cl_ S = some l ∧ BackOk T n l := by
 have hn32 := hS.n32
 have hsq := sq_le hn32
 have hal := hS.ar.len
 have hnn : IntKind.i64.wrap (S.t.states * S.t.states) = ((n * n : Nat) : Int) := by
  rw [hSt, hS.st, ← Int.natCast_mul]; exact wrS (by omega)
 unfold Cl_
 rw [hnn, Int.toNat_natCast, grd_mk ⟨by omega, by omega⟩, grd_mk ⟨by omega, by omega⟩]
 obtain ⟨l, e, h⟩ := iter_up (step := fun q : (List (List FBack)) × (List Bool) × Nat => As_ S q.1 q.2.1 q.2.2) (fun (q : (List (List FBack)) × (List Bool)) k => (q.1, q.2, k)) (n * n)
  (fun i q => BkS T n q.1 (i * 268435456) ∧ q.2.length = n * n ∧ ∀ m j k, m < i → j < (nth A (m / n) ([] : List Int)).length → k < (nth A (m % n) ([] : List Int)).length → DoneB T n A q.1 m j k)
  (fun l => BackOk T n l)
  (fun i q hi hI => by
   have hp := div_lt hi
   have hp0 : (0 : Int) ≤ ((i / n : Nat) : Int) := Int.natCast_nonneg _
   obtain ⟨l', s', e, h1, h2, h3, h4⟩ := backs_at hS hSt hSa hi hI.1 (by omega) (s := q.2.take 0 ++ List.replicate (q.2.length - 0) false) ⟨by simp; exact hI.2.1, fun z hz => by
    rw [List.take_zero, List.nil_append] at hz
    rw [nth_rep] at hz; cases hz⟩
   refine .inl ⟨(l', s'), ?_, by rw [Nat.add_mul, Nat.one_mul]; exact h1, h2.1, fun m j k hm hj hk => ?_⟩
   ·show As_ S q.1 q.2 i = _
    unfold As_
    rw [hnn, hSt, hSa, hS.st, dv, wrS (by omega), iteO_dt (by omega), grd_mk (by omega), grd_mk ⟨by omega, by omega⟩]
    exact e
   ·by_cases e2 : m = i
    ·subst e2; exact h4 j k hj hk
    ·exact (hI.2.2 m j k (by omega) hj hk).mono h3)
  (fun q hI => by
   refine ⟨q.1, ?_, hI.1.len, hI.1.sound, fun i hi x hx y hy h1 h2 hb => ?_⟩
   ·show As_ S q.1 q.2 (n * n) = _
    unfold As_
    rw [hnn, iteO_df (by omega)]; rfl
   ·obtain ⟨j, hj, ej⟩ := hS.arcs (div_lt hi) hx h1
    obtain ⟨k, hk, ek⟩ := hS.arcs (mod_lt hi) hy h2
    have := hI.2.2 i j k hi hj hk
    unfold DoneB at this
    rw [ej, ek] at this
    exact this hb)
  (s0 := (List.replicate (n * n) [], List.replicate (n * n) false)) ⟨⟨List.length_replicate, fun z hz b hb => (by rw [nth_rep] at hb; cases hb), fun z => by rw [nth_rep]; exact Nat.zero_le _⟩, List.length_replicate, fun m j k hm => absurd hm (by omega)⟩
 exact ⟨l, e, h⟩
end
end Go.Proofs.YtcaaiphgikpgjaaGreatDoor
end

section
namespace Go.Proofs.YtcaaiphgikpgjaaGreatDoor
open Go Go.E
theorem low_bit : ∀ x : Nat, x ≠ 0 → ∃ k m, x = 2 ^ k * (2 * m + 1) := by
 intro x
 induction x using Nat.strongRecOn with
 | _ x ih =>
  intro h0
  by_cases h : x % 2 = 1
  ·exact ⟨0, x / 2, by rw [Nat.pow_zero]; omega⟩
  ·obtain ⟨k, m, e⟩ := ih (x / 2) (by omega) (by omega)
   refine ⟨k + 1, m, ?_⟩
   have : x = 2 * (x / 2) := by omega
   rw [this, e, Nat.pow_succ, Nat.mul_comm (2 ^ k) 2, Nat.mul_assoc]
theorem low_and {k m : Nat} (h : 2 ^ k * (2 * m + 1) < 18446744073709551616) : (2 ^ k * (2 * m + 1)) &&& (18446744073709551616 - 2 ^ k * (2 * m + 1)) = 2 ^ k := by
 have hp : 0 < 2 ^ k := Nat.two_pow_pos k
 have hx : 2 ^ k * (2 * m + 1) = (2 ^ k * (2 * m) + (2 ^ k - 1)) + 1 := by rw [Nat.mul_add]; omega
 have e2 : 18446744073709551616 - 2 ^ k * (2 * m + 1) = 2 ^ 64 - ((2 ^ k * (2 * m) + (2 ^ k - 1)) + 1) := by rw [← hx]
 have hlt : 2 ^ k * (2 * m) + (2 ^ k - 1) < 2 ^ 64 := by
  have : (2 : Nat) ^ 64 = 18446744073709551616 := rfl
  omega
 refine Nat.eq_of_testBit_eq fun i => ?_
 rw [Nat.testBit_and, e2, Nat.testBit_two_pow_sub_succ hlt, Nat.testBit_two_pow_mul_add _ (by omega), Nat.testBit_two_pow, Nat.testBit_two_pow_mul, Nat.testBit_two_pow_sub_one]
 have h64 : k < 64 := by
  apply Decidable.byContradiction
  intro hc
  have h1 : 2 ^ 64 ≤ 2 ^ k := Nat.pow_le_pow_right (by omega) (by omega)
  have h2 : 2 ^ k * 1 ≤ 2 ^ k * (2 * m + 1) := Nat.mul_le_mul_left _ (by omega)
  have h3 : (2 : Nat) ^ 64 = 18446744073709551616 := rfl
  omega
 by_cases h1 : i < k
 ·rw [if_pos h1, decide_eq_false (show ¬ k ≤ i by omega), decide_eq_false (show ¬ k = i by omega)]; rfl
 ·rw [if_neg h1, decide_eq_true (show k ≤ i by omega), Bool.true_and]
  by_cases h2 : i = k
  ·subst h2
   rw [Nat.sub_self, decide_eq_true (show i < 64 by omega), decide_eq_true rfl, Nat.testBit_zero, Nat.testBit_zero]
   rw [decide_eq_true (show (2 * m + 1) % 2 = 1 by omega), decide_eq_false (show ¬ (2 * m) % 2 = 1 by omega)]; rfl
  ·obtain ⟨j, hj⟩ : ∃ j, i - k = j + 1 := ⟨i - k - 1, by omega⟩
   rw [hj, Nat.testBit_succ, Nat.testBit_succ, show (2 * m + 1) / 2 = m by omega, show (2 * m) / 2 = m by omega, decide_eq_false (show ¬ k = i by omega)]
   cases m.testBit j <;> cases decide (i < 64) <;> rfl
theorem deB_pow : ∀ k : Fin 64, u64shr (u64mul (2 ^ k.val) 285870213051353865) 58 < 64 ∧ (nth deB (u64shr (u64mul (2 ^ k.val) 285870213051353865) 58) (0 : UInt8)).toNat = k.val := by decide +kernel
theorem ctz_eq {x : Nat} (h0 : x ≠ 0) (h : x < 18446744073709551616) : ∃ k : Nat, k < 64 ∧ x.testBit k = true ∧ A8_ x = some ((k : Nat) : Int) := by
 obtain ⟨k, m, rfl⟩ := low_bit x h0
 have h64 : k < 64 := by
  apply Decidable.byContradiction
  intro hc
  have h1 : 2 ^ 64 ≤ 2 ^ k := Nat.pow_le_pow_right (by omega) (by omega)
  have h2 : 2 ^ k * 1 ≤ 2 ^ k * (2 * m + 1) := Nat.mul_le_mul_left _ (by omega)
  have h3 : (2 : Nat) ^ 64 = 18446744073709551616 := rfl
  omega
 refine ⟨k, h64, ?_, ?_⟩
 ·rw [Nat.testBit_two_pow_mul, Nat.sub_self, decide_eq_true (Nat.le_refl k), Nat.testBit_zero, decide_eq_true (show (2 * m + 1) % 2 = 1 by omega)]; rfl
 ·have hn : u64of (-((2 ^ k * (2 * m + 1) : Nat) : Int)) = 18446744073709551616 - 2 ^ k * (2 * m + 1) := by
   generalize 2 ^ k * (2 * m + 1) = y at h h0 ⊢
   unfold u64of; omega
  have ha : u64and (2 ^ k * (2 * m + 1)) (u64of (-((2 ^ k * (2 * m + 1) : Nat) : Int))) = 2 ^ k := by
   rw [hn]
   unfold u64and
   rw [BitVec.toNat_and, BitVec.toNat_ofNat, BitVec.toNat_ofNat, Nat.mod_eq_of_lt h, Nat.mod_eq_of_lt (show 18446744073709551616 - 2 ^ k * (2 * m + 1) < 2 ^ 64 by
    have : (2 : Nat) ^ 64 = 18446744073709551616 := rfl
    omega), low_and h]
  obtain ⟨h1, h2⟩ := deB_pow ⟨k, h64⟩
  dsimp only at h1 h2
  unfold A8_
  rw [iteO_df h0, ha, grd_mk h1, h2]
theorem word_lt' (s : BSet) (i : Nat) : s.word i < 18446744073709551616 := BSet.word_lt s.isOk i
theorem has_bitF (s : BSet) (n : Nat) : s.has n = (s.word (n / 64)).testBit (n % 64) := by
 unfold BSet.has; rw [Nat.testBit_eq_decide_div_mod_eq]
theorem first_none : C2_ BSet.zero = some (0, false) := by
 have hb : ∀ k, k < 4 → A1_ BSet.zero k = some (.inl (k + 1)) := fun k hk => by
  unfold A1_
  have : BSet.zero.word k = 0 := by unfold BSet.word BSet.zero; dsimp only; repeat (first | split | rfl)
  rw [iteO_dt (by omega), grd_mk hk, iteO_df (by rw [this]; simp)]; rfl
 unfold C2_
 obtain ⟨r, h, e⟩ := iter_up (step := fun q : Nat => A1_ BSet.zero q) (fun (_ : Unit) k => k) 4 (fun _ _ => True) (fun r => r = ((0 : UInt8), false))
  (fun k s hk _ => .inl ⟨(), hb k hk, trivial⟩) (fun s _ => ⟨_, by
   show A1_ BSet.zero 4 = _
   unfold A1_
   rw [iteO_df (by omega)]; rfl, rfl⟩) (s0 := ()) trivial
 rw [h, e]
theorem first_some {s : BSet} (h0 : s ≠ BSet.zero) : ∃ b : UInt8, C2_ s = some (b, true) ∧ s.has b.toNat = true := by
 unfold C2_
 obtain ⟨r, h, b, rfl, hb⟩ := iter_up (step := fun q : Nat => A1_ s q) (fun (_ : Unit) k => k) 4 (fun k _ => ∀ i, i < k → s.word i = 0) (fun r => ∃ b : UInt8, r = (b, true) ∧ s.has b.toNat = true)
  (fun k u hk hI => by
   show (∃ s', A1_ s k = _ ∧ _) ∨ ∃ r, A1_ s k = _ ∧ _
   unfold A1_
   by_cases hw : s.word k = 0
   ·refine .inl ⟨(), ?_, fun i hi => ?_⟩
    ·rw [iteO_dt (by omega), grd_mk hk, iteO_df (by rw [hw]; simp)]; rfl
    ·by_cases e : i = k
     ·rw [e]; exact hw
     ·exact hI i (by omega)
   ·obtain ⟨j, hj, ht, he⟩ := ctz_eq hw (word_lt' s k)
    have hv : (toU8 (IntKind.i64.wrap ((IntKind.i64.wrap (64 * ((k : Nat) : Int))) + ((j : Nat) : Int)))).toNat = 64 * k + j := by
     rw [wrap64_of (a := 64 * ((k : Nat) : Int)) (by omega) (by omega), wrap64_of (by omega) (by omega)]
     have := toU8_val (64 * ((k : Nat) : Int) + ((j : Nat) : Int))
     rw [wrap_u8] at this
     omega
    refine .inr ⟨(toU8 (IntKind.i64.wrap ((IntKind.i64.wrap (64 * ((k : Nat) : Int))) + ((j : Nat) : Int))), true), ?_, _, rfl, ?_⟩
    ·rw [iteO_dt (by omega), grd_mk hk, iteO_dt hw, he]; rfl
    ·rw [hv, has_bitF, show (64 * k + j) / 64 = k by omega, show (64 * k + j) % 64 = j by omega]; exact ht)
  (fun u hI => by
   refine absurd ?_ h0
   have h1 := hI 0 (by omega)
   have h2 := hI 1 (by omega)
   have h3 := hI 2 (by omega)
   have h4 := hI 3 (by omega)
   rw [← BSet.zero_iff]
   exact ⟨by rw [show s.a = 0 from h1]; rfl, by rw [show s.b = 0 from h2]; rfl, by rw [show s.c = 0 from h3]; rfl, by rw [show s.d = 0 from h4]; rfl⟩) (s0 := ()) (fun i hi => absurd hi (by omega))
 exact ⟨b, h, hb⟩
theorem u64and_ltF (a b : Nat) : u64and a b < 18446744073709551616 := by unfold u64and; exact BitVec.isLt _
theorem has_bitG (s : BSet) (n : Nat) : s.has n = (s.word (n / 64)).testBit (n % 64) := by
 unfold BSet.has; rw [Nat.testBit_eq_decide_div_mod_eq]
theorem both_hasF (a b : BSet) (n : Nat) (hn : n < 256) : (bothS a b).has n = (a.has n && b.has n) := by
 have h : ∃ r, Ct_ a b = some r ∧ ∀ i, i < 4 → r.word i = u64and (a.word i) (b.word i) := by
  unfold Ct_
  exact iter_up (step := fun q : BSet × Nat => A2_ b q.1 q.2) (fun (s : BSet) k => (s, k)) 4 (fun k s => ∀ i, i < 4 → s.word i = if i < k then u64and (a.word i) (b.word i) else a.word i) (fun r => ∀ i, i < 4 → r.word i = u64and (a.word i) (b.word i))
   (fun k s hk hI => .inl ⟨BSet.setWord s k (u64and (BSet.word s k) (BSet.word b k)), by
    show A2_ b s k = _
    unfold A2_
    rw [iteO_dt (by omega), grd_mk hk, grd_mk hk, grd_mk hk, grd_mk (u64and_ltF _ _)]; rfl, fun i hi => by
    rw [BSet.word_set s hk _ i (u64and_ltF _ _) hi]
    have h0 := hI i hi
    have h1 := hI k hk
    rw [if_neg (Nat.lt_irrefl k)] at h1
    by_cases c : i = k
    ·subst c; rw [if_pos rfl, if_pos (by omega), h1]
    ·rw [if_neg c, h0]
     by_cases c2 : i < k
     ·rw [if_pos c2, if_pos (by omega)]
     ·rw [if_neg c2, if_neg (by omega)]⟩)
   (fun s hI => ⟨s, by
    show A2_ b s 4 = _
    unfold A2_
    rw [iteO_df (by omega)]; rfl, fun i hi => by rw [hI i hi, if_pos hi]⟩) (s0 := a) (fun i hi => by rw [if_neg (by omega)])
 obtain ⟨r, h, hw⟩ := h
 have : bothS a b = r := by have := both_eq a b; rw [h] at this; exact (Option.some.inj this).symm
 rw [this, has_bitG, has_bitG, has_bitG, hw _ (by omega)]
 have l1 := BSet.word_lt a.isOk (n / 64)
 have l2 := BSet.word_lt b.isOk (n / 64)
 unfold u64and
 rw [BitVec.toNat_and, BitVec.toNat_ofNat, BitVec.toNat_ofNat, Nat.mod_eq_of_lt l1, Nat.mod_eq_of_lt l2, Nat.testBit_and]
theorem both_nz {a b : BSet} {n : Nat} (hn : n < 256) (ha : a.has n = true) (hb : b.has n = true) : bothS a b ≠ BSet.zero := fun h => by
 have := both_hasF a b n hn
 rw [h, ha, hb, has_bitG] at this
 have hz : BSet.zero.word (n / 64) = 0 := by unfold BSet.word BSet.zero; dsimp only; repeat (first | split | rfl)
 rw [hz, Nat.zero_testBit] at this
 cases this
theorem both_first {a b : BSet} (h : bothS a b ≠ BSet.zero) : ∃ c : UInt8, C2_ (bothS a b) = some (c, true) ∧ a.has c.toNat = true ∧ b.has c.toNat = true := by
 obtain ⟨c, h1, h2⟩ := first_some h
 rw [both_hasF a b _ c.toNat_lt, Bool.and_eq_true] at h2
 exact ⟨c, h1, h2.1, h2.2⟩
end Go.Proofs.YtcaaiphgikpgjaaGreatDoor
end

section
namespace Go.Proofs.YtcaaiphgikpgjaaGreatDoor
open Go Go.E
def castL (D : List Nat) : List Int := D.map fun i : Nat => ((i : Nat) : Int)
theorem castL_len (D : List Nat) : (castL D).length = D.length := List.length_map ..
theorem castL_app (D E : List Nat) : castL (D ++ E) = castL D ++ castL E := List.map_append
theorem drop_nthN (l : List Nat) {k : Nat} (h : k < l.length) : l.drop k = nth l k 0 :: l.drop (k + 1) := drop_nth l h 0
def EndsAt (T : Fst) (n z : Nat) : Prop := ∃ e ∈ T.ends, ∃ f ∈ T.ends, e.state = ((z / n : Nat) : Int) ∧ f.state = ((z % n : Nat) : Int)
structure StepH (T : Fst) (n z : Nat) (h : Hop) (D : List Nat) : Prop where
 x0 : 0 ≤ h.x
 x1 : h.x < T.arcs.length
 y0 : 0 ≤ h.y
 y1 : h.y < T.arcs.length
 fx : (nth T.arcs h.x.toNat Arc.zero).frm = ((z / n : Nat) : Int)
 fy : (nth T.arcs h.y.toNat Arc.zero).frm = ((z % n : Nat) : Int)
 bx : (nth T.arcs h.x.toNat Arc.zero).set.has h.by'.toNat = true
 by' : (nth T.arcs h.y.toNat Arc.zero).set.has h.by'.toNat = true
 to : ix n (nth T.arcs h.x.toNat Arc.zero).to (nth T.arcs h.y.toNat Arc.zero).to ∈ D
def HopAt (T : Fst) (n : Nat) (H : List Hop) (D : List Nat) (z : Nat) : Prop := ((nth H z Hop.zero).last = true ∧ EndsAt T n z) ∨ ((nth H z Hop.zero).last = false ∧ StepH T n z (nth H z Hop.zero) D)
inductive LkD (T : Fst) (n : Nat) (H : List Hop) : List Nat → Prop
 | nil : LkD T n H []
 | push {D : List Nat} {z : Nat} : LkD T n H D → z < n * n → z ∉ D → HopAt T n H D z → LkD T n H (D ++ [z])
theorem HopAt.set {T : Fst} {n : Nat} {H : List Hop} {D : List Nat} {z : Nat} (h : HopAt T n H D z) {y : Nat} (hy : y ≠ z) (v : Hop) : HopAt T n (H.set y v) D z := by
 unfold HopAt at *
 rw [nth_set, if_neg (fun e => hy e.1)]
 exact h
theorem LkD.set {T : Fst} {n : Nat} {H : List Hop} {D : List Nat} (h : LkD T n H D) {y : Nat} (hy : y ∉ D) (v : Hop) : LkD T n (H.set y v) D := by
 induction h with
 | nil => exact .nil
 | @push D z h h1 h2 h3 ih => exact .push (ih fun e => hy (List.mem_append_left _ e)) h1 h2 (h3.set (fun e => hy (List.mem_append_right _ (List.mem_singleton.2 e))) v)
theorem LkD.lt {T : Fst} {n : Nat} {H : List Hop} {D : List Nat} (h : LkD T n H D) : ∀ z ∈ D, z < n * n := by
 induction h with
 | nil => exact fun z hz => absurd hz (List.not_mem_nil)
 | push h h1 h2 h3 ih => exact fun z hz => (List.mem_append.1 hz).elim (ih z) fun e => by rw [List.mem_singleton.1 e]; exact h1
theorem LkD.nd {T : Fst} {n : Nat} {H : List Hop} {D : List Nat} (h : LkD T n H D) : D.Nodup := by
 induction h with
 | nil => exact List.nodup_nil
 | @push D z h h1 h2 h3 ih => exact List.nodup_append.2 ⟨ih, (List.nodup_cons.2 ⟨List.not_mem_nil, List.nodup_nil⟩), fun a ha b hb e => by
   rw [List.mem_singleton.1 hb] at e
   exact h2 (e ▸ ha)⟩
theorem LkD.len {T : Fst} {n : Nat} {H : List Hop} {D : List Nat} (h : LkD T n H D) : D.length ≤ n * n := by
 have := len_of_sub (m := List.range (n * n)) h.nd fun z hz => List.mem_range.2 (h.lt z hz)
 rwa [List.length_range] at this
structure LkI (T : Fst) (n : Nat) (H : List Hop) (D : List Nat) : Prop where
 len : H.length = n * n
 d : LkD T n H D
 live : ∀ z, (nth H z Hop.zero).live = true ↔ z ∈ D
theorem LkI.push {T : Fst} {n : Nat} {H : List Hop} {D : List Nat} (h : LkI T n H D) {z : Nat} (hz : z < n * n) (hn : z ∉ D) {v : Hop} (h1 : v.live = true) (h2 : (v.last = true ∧ EndsAt T n z) ∨ (v.last = false ∧ StepH T n z v D)) : LkI T n (H.set z v) (D ++ [z]) := by
 have hl := h.len
 have hv : nth (H.set z v) z Hop.zero = v := by rw [nth_set, if_pos ⟨rfl, by omega⟩]
 refine ⟨by rw [List.length_set]; exact hl, .push (h.d.set hn v) hz hn ?_, fun y => ?_⟩
 ·unfold HopAt; rw [hv]; exact h2
 ·rw [List.mem_append, List.mem_singleton]
  by_cases e : y = z
  ·subst e; rw [hv, h1]; exact ⟨fun _ => .inr rfl, fun _ => rfl⟩
  ·rw [nth_set, if_neg (fun q => e q.1.symm), h.live y]
   exact ⟨.inl, fun q => q.elim id fun q => absurd q e⟩
section
variable {T : Fst} {n : Nat} {A : List (List Int)} {E : List (List (List UInt8))} (hS : Sta T n A E) {S : Search} (hSt : S.t = T) (hSe : S.ends = E) {l : List (List FBack)} (hl : BackOk T n l)
include hS hSt hl
theorem look_one {m : Nat} {D : List Nat} {H : List Hop} (hI : LkI T n H D) (hm : m + 1 ≤ D.length) {z : Nat} (hz : z ∈ D) {W0 : List Int} (hW0 : (nth W0 0 (0 : Int)).toNat = z) {j : Nat} (hj : j < (nth l z ([] : List FBack)).length) :
  ∃ H' F, Ad_ l W0 S H (castL (D.drop (m + 1))) j = some (.inl (H', castL ((D ++ F).drop (m + 1)), j + 1)) ∧ LkI T n H' (D ++ F) ∧ (nth (nth l z []) j FBack.zero).frm.toNat ∈ D ++ F := by
 have hzl := hI.d.lt z hz
 have hlen := hI.len
 have hsq := sq_le hS.n32
 have hb : nth (nth l z ([] : List FBack)) j FBack.zero ∈ nth l z ([] : List FBack) := nth_mem' hj _
 generalize hbb : nth (nth l z ([] : List FBack)) j FBack.zero = b at hb ⊢
 obtain ⟨i, hi, hf, hs⟩ := hl.sound z hzl b hb
 have hx0 := hs.x0
 have hx1 := hs.x1
 have hy0 := hs.y0
 have hy1 := hs.y1
 have hdl := hI.d.len
 unfold Ad_
 rw [hW0, hbb, hf, Int.toNat_natCast, hSt, iteO_dt (by omega), grd_mk ⟨by omega, by omega⟩]
 cases hv : (nth H i Hop.zero).live with
 | true =>
  refine ⟨H, [], ?_, by rw [List.append_nil]; exact hI, by rw [List.append_nil]; exact (hI.live i).1 hv⟩
  rw [iteO_true, List.append_nil]; rfl
 | false =>
  have hni : i ∉ D := fun q => by rw [(hI.live i).2 q] at hv; cases hv
  obtain ⟨c, e1, c1, c2⟩ := both_first hs.by'
  refine ⟨H.set i ⟨true, false, b.x, b.y, c⟩, [i], ?_, hI.push hi hni rfl (.inr ⟨rfl, hx0, hx1, hy0, hy1, hs.fx, hs.fy, c1, c2, by rw [hs.to]; exact hz⟩), List.mem_append_right _ (List.mem_singleton.2 rfl)⟩
  rw [iteO_false, grd_mk ⟨by omega, by omega⟩, grd_mk ⟨by omega, by omega⟩, bnd_some (both_eq _ _), bnd_some e1, grd_mk ⟨by omega, by omega⟩, grd_mk (by rw [castL_len, List.length_drop, List.length_singleton]; omega)]
  rw [List.drop_append_of_le_length hm, castL_app]; rfl
theorem look_in {m : Nat} {D : List Nat} {H : List Hop} (hI : LkI T n H D) (hm : m < D.length) {z : Nat} (hz : nth D m 0 = z) {W0 : List Int} (hW0 : (nth W0 0 (0 : Int)).toNat = z) :
  ∃ H' F, iter (fun q : (List Hop) × (List Int) × Nat => Ad_ l W0 S q.1 q.2.1 q.2.2) (H, castL (D.drop (m + 1)), 0) = some (.inl (H', castL ((D ++ F).drop (m + 1)))) ∧ LkI T n H' (D ++ F) ∧ ∀ b ∈ nth l z ([] : List FBack), b.frm.toNat ∈ D ++ F := by
 have hzD : z ∈ D := by rw [← hz]; exact nth_mem' hm 0
 obtain ⟨r, e, H', F, rfl, h1, h2⟩ := iter_up (step := fun q : (List Hop) × (List Int) × Nat => Ad_ l W0 S q.1 q.2.1 q.2.2) (fun (q : (List Hop) × (List Int)) k => (q.1, q.2, k)) (nth l z ([] : List FBack)).length
  (fun j q => ∃ F, q.2 = castL ((D ++ F).drop (m + 1)) ∧ LkI T n q.1 (D ++ F) ∧ ∀ k, k < j → (nth (nth l z []) k FBack.zero).frm.toNat ∈ D ++ F)
  (fun r => ∃ H' F, r = .inl (H', castL ((D ++ F).drop (m + 1))) ∧ LkI T n H' (D ++ F) ∧ ∀ b ∈ nth l z ([] : List FBack), b.frm.toNat ∈ D ++ F)
  (fun j q hj hq => by
   obtain ⟨F, h1, h2, h3⟩ := hq
   obtain ⟨H', G, e, h4, h5⟩ := look_one hS hSt hl h2 (m := m) (by rw [List.length_append]; omega) (List.mem_append_left F hzD) hW0 hj
   refine .inl ⟨(H', castL (((D ++ F) ++ G).drop (m + 1))), ?_, F ++ G, by rw [← List.append_assoc], by rw [← List.append_assoc]; exact h4, fun k hk => ?_⟩
   ·show Ad_ l W0 S q.1 q.2 j = _
    rw [h1]; exact e
   ·rw [← List.append_assoc]
    by_cases e2 : k = j
    ·subst e2; exact h5
    ·exact List.mem_append_left _ (h3 k (by omega)))
  (fun q hq => by
   obtain ⟨F, h1, h2, h3⟩ := hq
   refine ⟨.inl (q.1, q.2), ?_, q.1, F, by rw [h1], h2, fun b hb => ?_⟩
   ·show Ad_ l W0 S q.1 q.2 (nth l z ([] : List FBack)).length = _
    unfold Ad_
    rw [hW0, iteO_df (by omega)]; rfl
   ·obtain ⟨k, hk, e2⟩ := mem_nth (d := FBack.zero) hb
    rw [← e2]; exact h3 k hk)
  (s0 := (H, castL (D.drop (m + 1)))) ⟨[], by rw [List.append_nil], by rw [List.append_nil]; exact hI, fun k hk => absurd hk (by omega)⟩
 exact ⟨H', F, e, h1, h2⟩
structure LookOk (T : Fst) (n : Nat) (H : List Hop) (D : List Nat) : Prop where
 i : LkI T n H D
 ends : ∀ z, z < n * n → EndsAt T n z → z ∈ D
 back : ∀ x ∈ T.arcs, ∀ y ∈ T.arcs, bothS x.set y.set ≠ BSet.zero → ix n x.to y.to ∈ D → ix n x.frm y.frm ∈ D
theorem look_wait {H : List Hop} {D : List Nat} (hI : LkI T n H D) (he : ∀ z, z < n * n → EndsAt T n z → z ∈ D) :
  ∃ H' D', iter (fun q : (List Hop) × (List Int) => Aq_ l S q.1 q.2) (H, castL D) = some ⟨S.t, S.arcs, S.ends, H', S.row, S.place, S.text, S.found⟩ ∧ LookOk T n H' D' := by
 have hsq := sq_le hS.n32
 have fin' : ∀ m (q : (List Hop) × (List Int)) D, q.2 = castL (D.drop m) → D.length ≤ m → LkI T n q.1 D → (∀ z ∈ D.take m, ∀ b ∈ nth l z ([] : List FBack), b.frm.toNat ∈ D) → (∀ z, z < n * n → EndsAt T n z → z ∈ D) →
   ∃ r, Aq_ l S q.1 q.2 = some (.inr r) ∧ ∃ H' D', r = (⟨S.t, S.arcs, S.ends, H', S.row, S.place, S.text, S.found⟩ : Search) ∧ LookOk T n H' D' := fun m q D h1 h2 h3 h4 h5 => by
  refine ⟨_, ?_, q.1, D, rfl, h3, h5, fun x hx y hy hb ht => ?_⟩
  ·rw [h1, List.drop_of_length_le h2]
   unfold Aq_
   rw [iteO_df (by show ¬ ((0 : Int) < (((castL []).length : Nat) : Int)); rw [castL_len, List.length_nil]; omega)]; rfl
  ·rw [List.take_of_length_le h2] at h4
   have hxf := (hS.ok.arcs x hx).1
   have hyf := (hS.ok.arcs y hy).1
   rw [hS.st] at hxf hyf
   have hi := ix_lt hxf hyf
   obtain ⟨b, hb1, hb2⟩ := hl.full _ hi x hx y hy (by rw [ix_div hyf]; omega) (by rw [ix_mod hyf]; omega) hb
   have := h4 _ ht b hb1
   rwa [hb2, Int.toNat_natCast] at this
 obtain ⟨r, e, H', D', rfl, h⟩ := iter_up (step := fun q : (List Hop) × (List Int) => Aq_ l S q.1 q.2) (fun (q : (List Hop) × (List Int)) _ => q) (n * n)
  (fun m q => ∃ D, q.2 = castL (D.drop m) ∧ LkI T n q.1 D ∧ (∀ z ∈ D.take m, ∀ b ∈ nth l z ([] : List FBack), b.frm.toNat ∈ D) ∧ ∀ z, z < n * n → EndsAt T n z → z ∈ D)
  (fun r => ∃ H' D', r = (⟨S.t, S.arcs, S.ends, H', S.row, S.place, S.text, S.found⟩ : Search) ∧ LookOk T n H' D')
  (fun m q hm hq => by
   obtain ⟨D, h1, h2, h3, h4⟩ := hq
   by_cases hd : m < D.length
   ·have hz : nth D m 0 ∈ D := nth_mem' hd 0
    have hzl := h2.d.lt _ hz
    have hll := hl.len
    have hW : castL (D.drop m) = ((nth D m 0 : Nat) : Int) :: castL (D.drop (m + 1)) := by rw [drop_nthN D hd]; rfl
    obtain ⟨H', F, e, h5, h6⟩ := look_in hS hSt hl h2 hd rfl (W0 := castL (D.drop m)) (by rw [hW]; rfl)
    refine .inl ⟨(H', castL ((D ++ F).drop (m + 1))), ?_, D ++ F, rfl, h5, fun z hz b hb => ?_, fun z hz he => List.mem_append_left _ (h4 z hz he)⟩
    ·show Aq_ l S q.1 q.2 = _
     unfold Aq_
     have h0 : nth (castL (D.drop m)) 0 (0 : Int) = ((nth D m 0 : Nat) : Int) := by rw [hW]; rfl
     have hd1 : (castL (D.drop m)).drop 1 = castL (D.drop (m + 1)) := by rw [hW]; rfl
     have hcl : (castL (D.drop m)).length = D.length - m := by rw [castL_len, List.length_drop]
     rw [h1, hd1, iteO_dt (by omega), grd_mk ⟨by omega, by omega⟩, h0, grd_mk ⟨by omega, by omega⟩]
     exact e
    ·rw [List.take_append_of_le_length (by omega), take_snoc D hd 0] at hz
     rcases List.mem_append.1 hz with hz | hz
     ·exact List.mem_append_left _ (h3 z hz b hb)
     ·rw [List.mem_singleton.1 hz] at hb
      exact h6 b hb
   ·obtain ⟨r, e, h⟩ := fin' m q D h1 (by omega) h2 h3 h4
    exact .inr ⟨r, e, h⟩)
  (fun q hq => by
   obtain ⟨D, h1, h2, h3, h4⟩ := hq
   exact fin' (n * n) q D h1 h2.d.len h2 h3 h4)
  (s0 := (H, castL D)) ⟨D, by rw [List.drop_zero], hI, fun z hz => absurd hz (by rw [List.take_zero]; exact List.not_mem_nil), he⟩
 exact ⟨H', D', e, h⟩
include hSe
omit hSt hSe hl in
theorem row_pos {p : Nat} (hp : p < n) : 0 < (nth E p ([] : List (List UInt8))).length ↔ ∃ e ∈ T.ends, e.state = ((p : Nat) : Int) := by
 constructor
 ·intro h
  obtain ⟨e, he, h1, h2⟩ := (hS.end_mem hp).1 (nth_mem' h ([] : List UInt8))
  exact ⟨e, he, h1⟩
 ·rintro ⟨e, he, h1⟩
  exact List.length_pos_of_mem ((hS.end_mem hp).2 ⟨e, he, h1, rfl⟩)
theorem look_ends (hH : S.hops = List.replicate (n * n) Hop.zero) :
  ∃ H' D', iter (fun q : (List Hop) × (List Int) × Nat => Ar_ S l q.1 q.2.1 q.2.2) (S.hops, ([] : List Int), 0) = some ⟨S.t, S.arcs, S.ends, H', S.row, S.place, S.text, S.found⟩ ∧ LookOk T n H' D' := by
 have hn32 := hS.n32
 have hsq := sq_le hn32
 have hel := hS.en.len
 have hhl : S.hops.length = n * n := by rw [hH, List.length_replicate]
 obtain ⟨r, e, H', D', rfl, h⟩ := iter_up (step := fun q : (List Hop) × (List Int) × Nat => Ar_ S l q.1 q.2.1 q.2.2) (fun (q : (List Hop) × (List Int)) k => (q.1, q.2, k)) (n * n)
  (fun k q => ∃ D, q.2 = castL D ∧ LkI T n q.1 D ∧ ∀ z, z ∈ D ↔ z < k ∧ EndsAt T n z)
  (fun r => ∃ H' D', r = (⟨S.t, S.arcs, S.ends, H', S.row, S.place, S.text, S.found⟩ : Search) ∧ LookOk T n H' D')
  (fun k q hk hq => by
   obtain ⟨D, h1, h2, h3⟩ := hq
   have hp := div_lt hk
   have hm := mod_lt hk
   have hp0 : (0 : Int) ≤ ((k / n : Nat) : Int) := Int.natCast_nonneg _
   have hq0 : (0 : Int) ≤ ((k % n : Nat) : Int) := Int.natCast_nonneg _
   have hql := h2.len
   have hdl := h2.d.len
   have hno : ¬ EndsAt T n k → (∃ s', some (Sum.inl (q.1, q.2, k + 1)) = some (Sum.inl (β := Search) ((fun (q : (List Hop) × (List Int)) k => (q.1, q.2, k)) s' (k + 1))) ∧ ∃ D, s'.2 = castL D ∧ LkI T n s'.1 D ∧ ∀ z, z ∈ D ↔ z < k + 1 ∧ EndsAt T n z) := fun hne =>
    ⟨q, rfl, D, h1, h2, fun z => (h3 z).trans ⟨fun h => ⟨by omega, h.2⟩, fun h => ⟨by
     by_cases e : z = k
     ·subst e; exact absurd h.2 hne
     ·omega, h.2⟩⟩⟩
   refine .inl ?_
   show ∃ s', Ar_ S l q.1 q.2 k = _ ∧ _
   unfold Ar_ Bx_
   rw [hhl, hSt, hSe, hS.st, dv, md, wrS (by omega), Int.toNat_natCast, Int.toNat_natCast, iteO_dt (by omega), grd_mk (by omega), grd_mk ⟨by omega, by omega⟩]
   by_cases c1 : 0 < (nth E (k / n) ([] : List (List UInt8))).length
   ·rw [iteO_dt (by omega), grd_mk (by omega), grd_mk ⟨by omega, by omega⟩]
    by_cases c2 : 0 < (nth E (k % n) ([] : List (List UInt8))).length
    ·obtain ⟨e, he, e1⟩ := (row_pos hS hp).1 c1
     obtain ⟨f, hf, f1⟩ := (row_pos hS hm).1 c2
     have hE : EndsAt T n k := ⟨e, he, f, hf, e1, f1⟩
     have hkn : k ∉ D := fun h => absurd ((h3 k).1 h).1 (by omega)
     refine ⟨(q.1.set k ⟨true, true, 0, 0, (0 : UInt8)⟩, castL (D ++ [k])), ?_, D ++ [k], rfl, h2.push hk hkn rfl (.inl ⟨rfl, hE⟩), fun z => ?_⟩
     ·rw [iteO_dt (by omega), grd_mk (by omega), grd_mk (by rw [h1, castL_len, List.length_singleton]; omega), h1, castL_app]; rfl
     ·rw [List.mem_append, List.mem_singleton, h3 z]
      constructor
      ·rintro (h | rfl)
       ·exact ⟨by omega, h.2⟩
       ·exact ⟨by omega, hE⟩
      ·intro h
       by_cases e : z = k
       ·exact .inr e
       ·exact .inl ⟨by omega, h.2⟩
    ·rw [iteO_df (by omega)]
     exact hno fun ⟨e, he, f, hf, e1, e2⟩ => c2 ((row_pos hS hm).2 ⟨f, hf, e2⟩)
   ·rw [iteO_df (by omega)]
    exact hno fun ⟨e, he, f, hf, e1, e2⟩ => c1 ((row_pos hS hp).2 ⟨e, he, e1⟩))
  (fun q hq => by
   obtain ⟨D, h1, h2, h3⟩ := hq
   obtain ⟨H', D', e, h⟩ := look_wait hS hSt hl h2 fun z hz he => (h3 z).2 ⟨hz, he⟩
   refine ⟨_, ?_, H', D', rfl, h⟩
   show Ar_ S l q.1 q.2 (n * n) = _
   unfold Ar_
   rw [hhl, iteO_df (by omega), h1, e]; rfl)
  (s0 := (S.hops, ([] : List Int))) ⟨[], rfl, ⟨hhl, .nil, fun z => by rw [hH, nth_rep]; exact ⟨fun h => Bool.noConfusion h, fun h => absurd h List.not_mem_nil⟩⟩, fun z => ⟨fun h => absurd h List.not_mem_nil, fun h => absurd h.1 (by omega)⟩⟩
 exact ⟨H', D', e, h⟩
end
theorem fulook_eq {T : Fst} {n : Nat} {A : List (List Int)} {E : List (List (List UInt8))} (hS : Sta T n A E) {S : Search} (hSt : S.t = T) (hSa : S.arcs = A) (hSe : S.ends = E) (hH : S.hops = List.replicate (n * n) Hop.zero) :
  ∃ H D, C9_ S = some ⟨S.t, S.arcs, S.ends, H, S.row, S.place, S.text, S.found⟩ ∧ LookOk T n H D := by
 obtain ⟨l, e, hl⟩ := backs_eq hS hSt hSa
 obtain ⟨H, D, e2, h⟩ := look_ends hS hSt hSe hl hH
 refine ⟨H, D, ?_, h⟩
 unfold C9_
 rw [e, bnd_mk, e2]
end Go.Proofs.YtcaaiphgikpgjaaGreatDoor
end

section
namespace Go.Proofs.YtcaaiphgikpgjaaGreatDoor
open Go Go.E
theorem fcomes_eq (x : Arc) (b : UInt8) (h : x.out.length ≤ 1000000) : Dj_ x b = some (em x b) := by
 unfold Dj_ em
 cases x.copy with
 | true => rw [iteO_true, grd_mk (by simp only [List.length_singleton]; omega), if_pos rfl]
 | false => rfl
section
variable {T : Fst} {n : Nat} {A : List (List Int)} {E : List (List (List UInt8))} (hS : Sta T n A E) {S : Search} (hSt : S.t = T) (hSe : S.ends = E)
include hS hSt hSe
theorem rest_run (hH : S.hops.length = n * n) {D : List Nat} (hD : LkD T n S.hops D) : ∀ p q : Int, (0 ≤ p ∧ p < n) → (0 ≤ q ∧ q < n) → ix n p q ∈ D → ∀ w0 o1 o2 : List UInt8, w0.length + D.length ≤ 2000 → o1.length ≤ 1025 * w0.length → o2.length ≤ 1025 * w0.length →
  ∃ w m1 m2, ∃ e ∈ T.ends, ∃ f ∈ T.ends, iter (fun q : FPr × (List UInt8) × (List UInt8) × (List UInt8) × Hop => Ap_ S q.1 q.2.1 q.2.2.1 q.2.2.2.1 q.2.2.2.2) (⟨p, q⟩, w0, o1, o2, nth S.hops (ix n p q) Hop.zero) = some (w0 ++ w, o1 ++ (m1 ++ e.out), o2 ++ (m2 ++ f.out)) ∧
   Wy T p w m1 e.state ∧ Wy T q w m2 f.state ∧ w.length < D.length := by
 have hn32 := hS.n32
 have hel := hS.en.len
 have hst : S.t.states = ((n : Nat) : Int) := by rw [hSt]; exact hS.st
 induction hD with
 | nil => exact fun p q _ _ h => absurd h List.not_mem_nil
 | @push D z hd h1 h2 h3 ih =>
  intro p q hp hq hz w0 o1 o2 hw ho1 ho2
  rw [List.length_append, List.length_singleton] at hw ⊢
  rcases List.mem_append.1 hz with hz | hz
  ·obtain ⟨w, m1, m2, e, he, f, hf, e1, k1, k2, k3⟩ := ih p q hp hq hz w0 o1 o2 (by omega) ho1 ho2
   exact ⟨w, m1, m2, e, he, f, hf, e1, k1, k2, by omega⟩
  ·have hz := List.mem_singleton.1 hz
   have d1 := ix_div (p := p) hq
   have d2 := ix_mod (p := p) hq
   rw [hz] at d1 d2 ⊢
   rcases h3 with ⟨g1, g2⟩ | ⟨g1, g2⟩
   ·obtain ⟨e0, he0, f0, hf0, x1, x2⟩ := g2
    have r1 : 0 < (nth E p.toNat ([] : List (List UInt8))).length := (row_pos hS (by omega)).2 ⟨e0, he0, by rw [x1, d1]⟩
    have r2 : 0 < (nth E q.toNat ([] : List (List UInt8))).length := (row_pos hS (by omega)).2 ⟨f0, hf0, by rw [x2, d2]⟩
    obtain ⟨e, he, y1, y2⟩ := (hS.end_mem (by omega)).1 (nth_mem' r1 ([] : List UInt8))
    obtain ⟨f, hf, z1, z2⟩ := (hS.end_mem (by omega)).1 (nth_mem' r2 ([] : List UInt8))
    have b1 := (hS.ok.ends e he).2
    have b2 := (hS.ok.ends f hf).2
    refine ⟨[], [], [], e, he, f, hf, iter_inr ?_, by rw [y1, Int.toNat_of_nonneg hp.1]; exact .nil _, by rw [z1, Int.toNat_of_nonneg hq.1]; exact .nil _, by rw [List.length_nil]; omega⟩
    show Ap_ S ⟨p, q⟩ w0 o1 o2 (nth S.hops z Hop.zero) = _
    unfold Ap_
    rw [g1, iteO_nt, hSe]
    dsimp only
    rw [grd_mk ⟨by omega, by omega⟩, grd_mk r1, grd_mk (by rw [← y2]; omega), grd_mk ⟨by omega, by omega⟩, grd_mk r2, grd_mk (by rw [← z2]; omega), ← y2, ← z2, List.append_nil, List.nil_append, List.nil_append]; rfl
   ·have hx := hS.ok.arcs _ (nth_mem' (l := T.arcs) (show (nth S.hops z Hop.zero).x.toNat < T.arcs.length by have := g2.x0; have := g2.x1; omega) Arc.zero)
    have hy := hS.ok.arcs _ (nth_mem' (l := T.arcs) (show (nth S.hops z Hop.zero).y.toNat < T.arcs.length by have := g2.y0; have := g2.y1; omega) Arc.zero)
    have hxm := nth_mem' (l := T.arcs) (show (nth S.hops z Hop.zero).x.toNat < T.arcs.length by have := g2.x0; have := g2.x1; omega) Arc.zero
    have hym := nth_mem' (l := T.arcs) (show (nth S.hops z Hop.zero).y.toNat < T.arcs.length by have := g2.y0; have := g2.y1; omega) Arc.zero
    obtain ⟨x0, x1, y0, y1, fx, fy, bx, by', to⟩ := g2
    generalize nth S.hops z Hop.zero = h at g1 x0 x1 y0 y1 fx fy bx by' to hx hy hxm hym ⊢
    generalize hX : nth T.arcs h.x.toNat Arc.zero = X at fx bx to hx hxm
    generalize hY : nth T.arcs h.y.toNat Arc.zero = Y at fy by' to hy hym
    rw [hS.st] at hx hy
    have l1 := em_len hS.ok hxm h.by'
    have l2 := em_len hS.ok hym h.by'
    have hlt := hd.lt _ to
    obtain ⟨w, m1, m2, e, he, f, hf, e1, k1, k2, k3⟩ := ih X.to Y.to hx.2.1 hy.2.1 to (w0 ++ [h.by']) (o1 ++ em X h.by') (o2 ++ em Y h.by') (by rw [List.length_append, List.length_singleton]; omega)
     (by rw [List.length_append, List.length_append, List.length_singleton]; omega) (by rw [List.length_append, List.length_append, List.length_singleton]; omega)
    refine ⟨h.by' :: w, em X h.by' ++ m1, em Y h.by' ++ m2, e, he, f, hf, ?_, ?_, ?_, by rw [List.length_cons]; omega⟩
    ·have hstep : Ap_ S ⟨p, q⟩ w0 o1 o2 h = some (.inl ((⟨X.to, Y.to⟩ : FPr), w0 ++ [h.by'], o1 ++ em X h.by', o2 ++ em Y h.by', nth S.hops (ix n X.to Y.to) Hop.zero)) := by
      unfold Ap_ C5_
      rw [g1, iteO_nf, hSt, grd_mk ⟨by omega, by omega⟩, grd_mk ⟨by omega, by omega⟩, grd_mk (by rw [List.length_singleton]; omega), hX, hY, fcomes_eq X h.by' (by omega), bnd_mk, grd_mk (by omega), fcomes_eq Y h.by' (by omega), bnd_mk, grd_mk (by omega),
       index_eq (S := S) hst hn32 hx.2.1 hy.2.1, bnd_mk, Int.toNat_natCast, grd_mk ⟨by omega, by omega⟩]; rfl
     rw [iter_inl (step := fun q : FPr × (List UInt8) × (List UInt8) × (List UInt8) × Hop => Ap_ S q.1 q.2.1 q.2.2.1 q.2.2.2.1 q.2.2.2.2) hstep, e1, List.append_assoc, List.append_assoc, List.append_assoc, List.append_assoc, List.append_assoc]; rfl
    ·have := Wy.cons (t := T) X h.by' hxm bx k1
     rw [fx, d1, Int.toNat_of_nonneg hp.1] at this
     exact this
    ·have := Wy.cons (t := T) Y h.by' hym by' k2
     rw [fy, d2, Int.toNat_of_nonneg hq.1] at this
     exact this
theorem rest_eq {D : List Nat} (hL : LookOk T n S.hops D) {p q : Int} (hp : 0 ≤ p ∧ p < n) (hq : 0 ≤ q ∧ q < n) (hz : ix n p q ∈ D) :
  ∃ w m1 m2, ∃ e ∈ T.ends, ∃ f ∈ T.ends, Cf_ S ⟨p, q⟩ = some (w, m1 ++ e.out, m2 ++ f.out) ∧ Wy T p w m1 e.state ∧ Wy T q w m2 f.state ∧ w.length < n * n := by
 have hlen := hL.i.d.len
 have hsq := sq_le hS.n32
 have hlt := ix_lt hp hq
 have hhl := hL.i.len
 have hst : S.t.states = ((n : Nat) : Int) := by rw [hSt]; exact hS.st
 obtain ⟨w, m1, m2, e, he, f, hf, e1, k1, k2, k3⟩ := rest_run hS hSt hSe hL.i.len hL.i.d p q hp hq hz [] [] [] (by rw [List.length_nil]; omega) (Nat.le_refl _) (Nat.le_refl _)
 refine ⟨w, m1, m2, e, he, f, hf, ?_, k1, k2, by omega⟩
 unfold Cf_ C8_
 rw [index_eq hst hS.n32 hp hq, bnd_mk, grd_mk ⟨by omega, by omega⟩, Int.toNat_natCast, e1]; rfl
omit hSt hSe in
theorem live_iff {H : List Hop} {D : List Nat} (hL : LookOk T n H D) {p q : Int} (hp : 0 ≤ p ∧ p < n) (hq : 0 ≤ q ∧ q < n) : (nth H (ix n p q) Hop.zero).live = true ↔ Jt T p q := by
 rw [hL.i.live]
 constructor
 ·intro h
  obtain ⟨w, m1, m2, e, he, f, hf, _, k1, k2, _⟩ := rest_eq hS (S := ⟨T, A, E, H, [], [], [], false⟩) rfl rfl hL hp hq h
  exact ⟨w, m1, m2, e, he, f, hf, k1, k2⟩
 ·rintro ⟨w, m1, m2, e, he, f, hf, k1, k2⟩
  induction w generalizing p q m1 m2 with
  | nil =>
   have h1 := k1.nil_inv.2
   have h2 := k2.nil_inv.2
   exact hL.ends _ (ix_lt hp hq) ⟨e, he, f, hf, by rw [ix_div hq, h1]; omega, by rw [ix_mod hq, h2]; omega⟩
  | cons b w ih =>
   obtain ⟨x, hx, rfl, bx, o1, r1, _⟩ := k1.cons_inv
   obtain ⟨y, hy, rfl, by', o2, r2, _⟩ := k2.cons_inv
   have hxr := (hS.ok.arcs x hx).2.1
   have hyr := (hS.ok.arcs y hy).2.1
   rw [hS.st] at hxr hyr
   exact hL.back x hx y hy (both_nz b.toNat_lt bx by') (ih hxr hyr _ _ r1 r2)
end
inductive WayR (R : List FBox) : FBox → List UInt8 → Prop
 | root {b : FBox} : b.frm < 0 → WayR R b []
 | step {b : FBox} {w : List UInt8} : 0 ≤ b.frm → b.frm < R.length → WayR R (nth R b.frm.toNat FBox.zero) w → WayR R b (w ++ [b.by'])
theorem nth_appL {α : Type} (l m : List α) (j : Nat) (d : α) (h : j < l.length) : nth (l ++ m) j d = nth l j d := by
 unfold nth; rw [List.getD_eq_getElem?_getD, List.getD_eq_getElem?_getD, List.getElem?_append_left h]
theorem WayR.more {R : List FBox} {b : FBox} {w : List UInt8} (h : WayR R b w) (X : List FBox) : WayR (R ++ X) b w := by
 induction h with
 | root h => exact .root h
 | @step b w h1 h2 h3 ih =>
  refine .step h1 (by rw [List.length_append]; omega) ?_
  rw [nth_appL _ _ _ _ (by omega)]
  exact ih
theorem turn_eq (l : List UInt8) (hl : l.length ≤ 1000000000) : iter (fun q : (List UInt8) × Nat × Int => Av_ q.1 q.2.1 q.2.2) (l, 0, (IntKind.i64.wrap (((l.length : Nat) : Int) - 1))) = some l.reverse := by
 rw [wrap64_of (by omega) (by omega)]
 have nr : ∀ j, j < l.length → nth l.reverse j 0 = nth l (l.length - 1 - j) 0 := fun j hj => by
  unfold nth
  rw [List.getD_eq_getElem?_getD, List.getD_eq_getElem?_getD, List.getElem?_reverse hj]
 obtain ⟨r, e, rfl⟩ := iter_up (step := fun q : (List UInt8) × Nat × Int => Av_ q.1 q.2.1 q.2.2) (fun (m : List UInt8) k => (m, k, ((l.length : Nat) : Int) - 1 - ((k : Nat) : Int))) (l.length / 2)
  (fun k m => m.length = l.length ∧ ∀ j, j < l.length → nth m j 0 = if j < k ∨ l.length ≤ j + k then nth l (l.length - 1 - j) 0 else nth l j 0) (fun r => r = l.reverse)
  (fun k m hk hI => by
   obtain ⟨h1, h2⟩ := hI
   have ei : (((l.length : Nat) : Int) - 1 - ((k : Nat) : Int)).toNat = l.length - 1 - k := by omega
   refine .inl ⟨(m.set k (nth m (l.length - 1 - k) (0 : UInt8))).set (l.length - 1 - k) (nth m k (0 : UInt8)), ?_, by rw [List.length_set, List.length_set]; exact h1, fun j hj => ?_⟩
   ·show Av_ m k (((l.length : Nat) : Int) - 1 - ((k : Nat) : Int)) = some (.inl ((m.set k (nth m (l.length - 1 - k) (0 : UInt8))).set (l.length - 1 - k) (nth m k (0 : UInt8)), k + 1, ((l.length : Nat) : Int) - 1 - ((k + 1 : Nat) : Int)))
    unfold Av_ Db_
    rw [iteO_dt (by omega), grd_mk ⟨by omega, by omega⟩, grd_mk (by omega), grd_mk (by omega), grd_mk (by rw [List.length_set]; exact ⟨by omega, by omega⟩), grd_mk (by omega), ei, wrap64_of (by omega) (by omega)]
    have : ((l.length : Nat) : Int) - 1 - ((k : Nat) : Int) - 1 = ((l.length : Nat) : Int) - 1 - ((k + 1 : Nat) : Int) := by omega
    rw [this]; rfl
   ·rw [nth_set, nth_set, List.length_set, h1]
    by_cases c1 : l.length - 1 - k = j
    ·rw [if_pos ⟨c1, hj⟩, if_pos (.inr (by omega)), h2 k (by omega), if_neg (by omega)]
     congr 1; omega
    ·rw [if_neg (fun h => c1 h.1)]
     by_cases c2 : k = j
     ·subst c2
      rw [if_pos ⟨rfl, hj⟩, if_pos (.inl (by omega)), h2 _ (by omega), if_neg (by omega)]
     ·rw [if_neg (fun h => c2 h.1), h2 j hj]
      by_cases c3 : j < k ∨ l.length ≤ j + k
      ·rw [if_pos c3, if_pos (by omega)]
      ·rw [if_neg c3, if_neg (by omega)])
  (fun m hI => by
   obtain ⟨h1, h2⟩ := hI
   refine ⟨m, ?_, nth_ext 0 (by rw [h1, List.length_reverse]) fun j hj => ?_⟩
   ·show Av_ m (l.length / 2) (((l.length : Nat) : Int) - 1 - ((l.length / 2 : Nat) : Int)) = _
    unfold Av_
    rw [iteO_df (by omega)]; rfl
   ·rw [h1] at hj
    rw [h2 j hj, nr j hj]
    by_cases c : j < l.length / 2 ∨ l.length ≤ j + l.length / 2
    ·rw [if_pos c]
    ·rw [if_neg c]; congr 1; omega)
  (s0 := l) ⟨rfl, fun j hj => by rw [if_neg (by omega)]⟩
 have e0 : ((l.length : Nat) : Int) - 1 - ((0 : Nat) : Int) = ((l.length : Nat) : Int) - 1 := by omega
 rw [e0] at e
 exact e
theorem way_run {S : Search} {b : FBox} {w : List UInt8} (h : WayR S.row b w) : ∀ l : List UInt8, l.length + w.length ≤ 1000000000 → iter (fun q : FBox × (List UInt8) => Au_ S q.1 q.2) (b, l) = some (w ++ l.reverse) := by
 induction h with
 | @root b h =>
  intro l hl
  refine iter_inr ?_
  show Au_ S b l = _
  unfold Au_
  rw [iteO_df (by omega), turn_eq l (by simp at hl; omega)]; rfl
 | @step b w h1 h2 h3 ih =>
  intro l hl
  rw [List.length_append, List.length_singleton] at hl
  have hstep : Au_ S b l = some (.inl (nth S.row b.frm.toNat FBox.zero, l ++ [b.by'])) := by
   unfold Au_
   rw [iteO_dt h1, grd_mk (by rw [List.length_singleton]; omega), grd_mk ⟨h1, h2⟩]; rfl
  rw [iter_inl (step := fun q : FBox × (List UInt8) => Au_ S q.1 q.2) hstep, ih (l ++ [b.by']) (by rw [List.length_append, List.length_singleton]; omega)]
  rw [List.reverse_append, List.append_assoc]; rfl
theorem way_eq {S : Search} {b : FBox} {w : List UInt8} (h : WayR S.row b w) (hw : w.length ≤ 1000000000) : By_ S b = some w := by
 have := way_run h [] (by rw [List.length_nil]; omega)
 unfold By_
 rw [this, List.reverse_nil, List.append_nil]
end Go.Proofs.YtcaaiphgikpgjaaGreatDoor
end

section
namespace Go.Proofs.YtcaaiphgikpgjaaGreatDoor
open Go Go.E
def lagb (b : FBox) : TLag := ⟨b.what.at'.p, b.what.at'.q, b.what.lag.a, b.what.lag.b⟩
def ixb (n : Nat) (b : FBox) : Nat := ix n b.what.at'.p b.what.at'.q
def EndsFit (T : Fst) (l : TLag) : Prop := ∀ e ∈ T.ends, ∀ f ∈ T.ends, e.state = l.p → f.state = l.q → l.a ++ e.out = l.b ++ f.out
structure EntOk (T : Fst) (R : List FBox) (k : Nat) (b : FBox) : Prop where
 way : ∃ w, WayR R b w ∧ RLw T w (lagb b) ∧ w.length ≤ k
 side : b.what.lag.a = [] ∨ b.what.lag.b = []
 fit : EndsFit T (lagb b)
theorem EntOk.more {T : Fst} {R : List FBox} {k : Nat} {b : FBox} (h : EntOk T R k b) (X : List FBox) : EntOk T (R ++ X) k b := by
 obtain ⟨⟨w, h1, h2, h3⟩, h4, h5⟩ := h
 exact ⟨⟨w, h1.more X, h2, h3⟩, h4, h5⟩
structure RowI (T : Fst) (n : Nat) (R : List FBox) (P : List Int) : Prop where
 len : P.length = n * n
 nd : (R.map (ixb n)).Nodup
 pl : ∀ k, k < R.length → nth P (ixb n (nth R k FBox.zero)) 0 = ((k + 1 : Nat) : Int)
 pz : ∀ z, z < n * n → nth P z 0 = 0 ∨ ∃ k, k < R.length ∧ nth P z 0 = ((k + 1 : Nat) : Int) ∧ ixb n (nth R k FBox.zero) = z
 ent : ∀ k, k < R.length → EntOk T R k (nth R k FBox.zero)
structure SI (T : Fst) (n : Nat) (A : List (List Int)) (E : List (List (List UInt8))) (H : List Hop) (S : Search) : Prop where
 t : S.t = T
 a : S.arcs = A
 e : S.ends = E
 h : S.hops = H
 r : RowI T n S.row S.place
 y : S.found = true → Gives T S.text ∧ S.text.length ≤ 2 * (n * n)
 no : S.found = false → S.text = []
def HasL (R : List FBox) (l : TLag) : Prop := ∃ k, k < R.length ∧ lagb (nth R k FBox.zero) = l
theorem HasL.more {R : List FBox} {l : TLag} (h : HasL R l) (X : List FBox) : HasL (R ++ X) l := by
 obtain ⟨k, hk, e⟩ := h
 exact ⟨k, by rw [List.length_append]; omega, by rw [nth_appL _ _ _ _ hk]; exact e⟩
structure MeetR (T : Fst) (n : Nat) (A : List (List Int)) (E : List (List (List UInt8))) (H : List Hop) (S S' : Search) : Prop where
 si : SI T n A E H S'
 row : ∃ X, S'.row = S.row ++ X
 was : S'.found = false → S.found = false
theorem MeetR.trans {T : Fst} {n : Nat} {A : List (List Int)} {E : List (List (List UInt8))} {H : List Hop} {S S' S'' : Search} (h : MeetR T n A E H S S') (k : MeetR T n A E H S' S'') : MeetR T n A E H S S'' := by
 obtain ⟨X, hX⟩ := h.row
 obtain ⟨Y, hY⟩ := k.row
 exact ⟨k.si, ⟨X ++ Y, by rw [hY, hX, List.append_assoc]⟩, fun q => h.was (k.was q)⟩
theorem MeetR.has {T : Fst} {n : Nat} {A : List (List Int)} {E : List (List (List UInt8))} {H : List Hop} {S S' : Search} (h : MeetR T n A E H S S') {l : TLag} (k : HasL S.row l) : HasL S'.row l := by
 obtain ⟨X, hX⟩ := h.row
 rw [hX]; exact k.more X
section
variable {T : Fst} {n : Nat} {A : List (List Int)} {E : List (List (List UInt8))} (hS : Sta T n A E) {H : List Hop}
include hS
theorem RowI.rng {R : List FBox} {P : List Int} (h : RowI T n R P) {k : Nat} (hk : k < R.length) : (0 ≤ (nth R k FBox.zero).what.at'.p ∧ (nth R k FBox.zero).what.at'.p < n) ∧ 0 ≤ (nth R k FBox.zero).what.at'.q ∧ (nth R k FBox.zero).what.at'.q < n := by
 obtain ⟨⟨w, h1, h2, h3⟩, _, _⟩ := h.ent k hk
 have := h2.rng hS.ok
 rw [hS.st] at this
 exact this
theorem RowI.rlen {R : List FBox} {P : List Int} (h : RowI T n R P) : R.length ≤ n * n := by
 have := len_of_sub (m := List.range (n * n)) h.nd fun z hz => by
  obtain ⟨b, hb, e⟩ := List.mem_map.1 hz
  obtain ⟨k, hk, e2⟩ := mem_nth (d := FBox.zero) hb
  have hr := h.rng hS hk
  rw [e2] at hr
  rw [← e]
  exact List.mem_range.2 (ix_lt hr.1 hr.2)
 rwa [List.length_map, List.length_range] at this
omit hS in
theorem RowI.push {R : List FBox} {P : List Int} (h : RowI T n R P) {b : FBox} (hb : ixb n b < n * n) (h0 : ¬ 0 < nth P (ixb n b) 0) (he : EntOk T R R.length b) : RowI T n (R ++ [b]) (P.set (ixb n b) ((R.length + 1 : Nat) : Int)) := by
 have hl := h.len
 have hne : ∀ k, k < R.length → ixb n (nth R k FBox.zero) ≠ ixb n b := fun k hk e => by
  have := h.pl k hk
  rw [e] at this; omega
 have hnew : nth (R ++ [b]) R.length FBox.zero = b := by unfold nth; rw [List.getD_eq_getElem?_getD, List.getElem?_append_right (Nat.le_refl _)]; simp
 refine ⟨by rw [List.length_set]; exact hl, ?_, fun k hk => ?_, fun z hz => ?_, fun k hk => ?_⟩
 ·rw [List.map_append]
  refine List.nodup_append.2 ⟨h.nd, (List.nodup_cons.2 ⟨List.not_mem_nil, List.nodup_nil⟩), fun a ha c hc e => ?_⟩
  obtain ⟨x, hx, e1⟩ := List.mem_map.1 ha
  obtain ⟨k, hk, e2⟩ := mem_nth (d := FBox.zero) hx
  rw [List.mem_singleton.1 hc, ← e1, ← e2] at e
  exact hne k hk e
 ·rw [List.length_append, List.length_singleton] at hk
  by_cases c : k = R.length
  ·subst c
   rw [hnew, nth_set, if_pos ⟨rfl, by omega⟩]
  ·rw [nth_appL _ _ _ _ (by omega), nth_set, if_neg (fun q => hne k (by omega) q.1.symm)]
   exact h.pl k (by omega)
 ·rw [nth_set]
  by_cases c : ixb n b = z
  ·rw [if_pos ⟨c, by omega⟩]
   exact .inr ⟨R.length, by rw [List.length_append, List.length_singleton]; omega, rfl, by rw [hnew]; exact c⟩
  ·rw [if_neg (fun q => c q.1)]
   rcases h.pz z hz with q | ⟨k, hk, q1, q2⟩
   ·exact .inl q
   ·exact .inr ⟨k, by rw [List.length_append]; omega, q1, by rw [nth_appL _ _ _ _ hk]; exact q2⟩
 ·rw [List.length_append, List.length_singleton] at hk
  by_cases c : k = R.length
  ·subst c; rw [hnew]; exact he.more [b]
  ·rw [nth_appL _ _ _ _ (by omega)]
   exact (h.ent k (by omega)).more [b]
omit hS in
theorem SI.told {S : Search} (h : SI T n A E H S) {w : List UInt8} (h1 : Gives T w) (h2 : w.length ≤ 2 * (n * n)) {t a e g} (ht : t = T) (ha : a = A) (he : e = E) (hg : g = H) : MeetR T n A E H S ⟨t, a, e, g, S.row, S.place, w, true⟩ :=
 ⟨⟨ht, ha, he, hg, h.r, fun _ => ⟨h1, h2⟩, fun q => by cases q⟩, ⟨[], by rw [List.append_nil]⟩, fun q => by cases q⟩
omit hS in
theorem SI.same {S : Search} (h : SI T n A E H S) : MeetR T n A E H S S := ⟨h, ⟨[], by rw [List.append_nil]⟩, id⟩
omit hS in
theorem tell_eq (S : Search) {w : List UInt8} (hw : w.length ≤ 1000000000) : Bc_ S w = some ⟨S.t, S.arcs, S.ends, S.hops, S.row, S.place, w, true⟩ := by
 unfold Bc_
 rw [grd_mk (by omega)]
section
variable {S : Search} (hI : SI T n A E H S) {b : FBox} {w : List UInt8} (hw : WayR S.row b w) (hb : RLw T w (lagb b)) (hwl : w.length ≤ S.row.length)
include hI hw hb hwl
theorem meet_in {k : Nat} (hk : k < (nth E b.what.at'.p.toNat ([] : List (List UInt8))).length) :
  ∃ r, iter (fun q : Nat => Ac_ S b k q) 0 = some r ∧ ((r = .inl (k + 1) ∧ ∀ j, j < (nth E b.what.at'.q.toNat ([] : List (List UInt8))).length → b.what.lag.a ++ nth (nth E b.what.at'.p.toNat []) k [] = b.what.lag.b ++ nth (nth E b.what.at'.q.toNat []) j []) ∨ ∃ S', r = .inr S' ∧ S'.found = true ∧ MeetR T n A E H S S') := by
 have hr := hb.rng hS.ok
 have hlen := hb.len hS.ok
 have hrl := hI.r.rlen hS
 have hsq := sq_le hS.n32
 rw [hS.st] at hr
 obtain ⟨⟨p0, p1⟩, q0, q1⟩ := hr
 dsimp only [lagb] at p0 p1 q0 q1 hlen
 have hla := hlen.1
 have hlb := hlen.2
 obtain ⟨e, he, e1, e2⟩ := (hS.end_mem (show b.what.at'.p.toNat < n by omega)).1 (nth_mem' hk ([] : List UInt8))
 have el := (hS.ok.ends e he).2
 refine iter_up (step := fun q : Nat => Ac_ S b k q) (fun (_ : Unit) j => j) (nth E b.what.at'.q.toNat ([] : List (List UInt8))).length
  (fun j _ => ∀ i, i < j → b.what.lag.a ++ nth (nth E b.what.at'.p.toNat []) k [] = b.what.lag.b ++ nth (nth E b.what.at'.q.toNat []) i []) _ (fun j u hj hq => ?_) (fun u hq => ?_) (s0 := ()) (fun i hi => absurd hi (by omega))
 ·obtain ⟨f, hf, f1, f2⟩ := (hS.end_mem (show b.what.at'.q.toNat < n by omega)).1 (nth_mem' hj ([] : List UInt8))
  have fl := (hS.ok.ends f hf).2
  show (∃ s', Ac_ S b k j = _ ∧ _) ∨ ∃ r, Ac_ S b k j = _ ∧ _
  unfold Ac_
  rw [hI.e, iteO_dt (by omega), grd_mk (by rw [← e2]; omega), grd_mk (by rw [← f2]; omega)]
  by_cases c : b.what.lag.a ++ nth (nth E b.what.at'.p.toNat []) k [] = b.what.lag.b ++ nth (nth E b.what.at'.q.toNat []) j []
  ·rw [iteO_df (by simpa using c)]
   refine .inl ⟨(), rfl, fun i hi => ?_⟩
   by_cases e3 : i = j
   ·subst e3; exact c
   ·exact hq i (by omega)
  ·rw [iteO_dt c, way_eq hw (by omega), bnd_mk, tell_eq S (by omega), bnd_mk]
   refine .inr ⟨_, rfl, .inr ⟨_, rfl, rfl, hI.told ?_ (show w.length ≤ _ by omega) hI.t hI.a rfl hI.h⟩⟩
   have := gives_of hb he hf (v := []) (m1 := []) (m2 := []) (by rw [e1, Int.toNat_of_nonneg p0]; exact .nil _) (by rw [f1, Int.toNat_of_nonneg q0]; exact .nil _) (by rw [List.nil_append, List.nil_append, e2, f2]; exact c)
   rwa [List.append_nil] at this
 ·refine ⟨_, ?_, .inl ⟨rfl, hq⟩⟩
  show Ac_ S b k _ = _
  unfold Ac_
  rw [hI.e, iteO_df (by omega)]; rfl
theorem meet_ends (hside : b.what.lag.a = [] ∨ b.what.lag.b = []) (h0 : ¬ 0 < nth S.place (ixb n b) 0) : ∃ S', Bz_ b S ((ixb n b : Nat) : Int) = some S' ∧ MeetR T n A E H S S' ∧ (S'.found = false → HasL S'.row (lagb b)) := by
 have hr := hb.rng hS.ok
 have hrl := hI.r.rlen hS
 have hpl := hI.r.len
 have hel := hS.en.len
 have hsq := sq_le hS.n32
 rw [hS.st] at hr
 have hz := ix_lt hr.1 hr.2
 obtain ⟨⟨p0, p1⟩, q0, q1⟩ := hr
 dsimp only [lagb] at p0 p1 q0 q1 hz
 have hz' : ixb n b < n * n := hz
 unfold Bz_
 rw [hI.e, grd_mk ⟨by omega, by omega⟩]
 refine iter_up (step := fun q : Nat => Ao_ S b ((ixb n b : Nat) : Int) q) (fun (_ : Unit) j => j) (nth E b.what.at'.p.toNat ([] : List (List UInt8))).length
  (fun k _ => ∀ i, i < k → ∀ j, j < (nth E b.what.at'.q.toNat ([] : List (List UInt8))).length → b.what.lag.a ++ nth (nth E b.what.at'.p.toNat []) i [] = b.what.lag.b ++ nth (nth E b.what.at'.q.toNat []) j []) _ (fun k u hk hq => ?_) (fun u hq => ?_) (s0 := ()) (fun i hi => absurd hi (by omega))
 ·obtain ⟨r, e, hr⟩ := meet_in hS hI hw hb hwl hk
  show (∃ s', Ao_ S b ((ixb n b : Nat) : Int) k = _ ∧ _) ∨ ∃ r, Ao_ S b ((ixb n b : Nat) : Int) k = _ ∧ _
  unfold Ao_
  rw [hI.e, iteO_dt (by omega), grd_mk ⟨by omega, by omega⟩, e]
  rcases hr with ⟨rfl, h⟩ | ⟨S', rfl, h1, h2⟩
  ·refine .inl ⟨(), rfl, fun i hi => ?_⟩
   by_cases e3 : i = k
   ·subst e3; exact h
   ·exact hq i (by omega)
  ·exact .inr ⟨S', rfl, h2, fun q => by rw [h1] at q; cases q⟩
 ·have hent : EntOk T S.row S.row.length b := ⟨⟨w, hw, hb, hwl⟩, hside, fun e he f hf e1 e2 => by
   dsimp only [lagb] at e1 e2 ⊢
   obtain ⟨i, hi, x1⟩ := mem_nth (d := ([] : List UInt8)) ((hS.end_mem (show b.what.at'.p.toNat < n by omega)).2 ⟨e, he, by rw [e1, Int.toNat_of_nonneg p0], rfl⟩)
   obtain ⟨j, hj, x2⟩ := mem_nth (d := ([] : List UInt8)) ((hS.end_mem (show b.what.at'.q.toNat < n by omega)).2 ⟨f, hf, by rw [e2, Int.toNat_of_nonneg q0], rfl⟩)
   have := hq i hi j hj
   rwa [x1, x2] at this⟩
  refine ⟨⟨S.t, S.arcs, S.ends, S.hops, S.row ++ [b], S.place.set (ixb n b) ((S.row.length + 1 : Nat) : Int), S.text, S.found⟩, ?_, ⟨⟨hI.t, hI.a, hI.e, hI.h, hI.r.push hz' h0 hent, hI.y, hI.no⟩, ⟨[b], rfl⟩, id⟩, fun _ => ⟨S.row.length, by rw [List.length_append, List.length_singleton]; omega, ?_⟩⟩
  ·show Ao_ S b ((ixb n b : Nat) : Int) _ = _
   unfold Ao_
   rw [hI.e, iteO_df (by omega), grd_mk (by rw [List.length_singleton]; omega), grd_mk ⟨by omega, by omega⟩, Int.toNat_natCast, List.length_append, List.length_singleton]; rfl
  ·show lagb (nth (S.row ++ [b]) S.row.length FBox.zero) = _
   unfold nth; rw [List.getD_eq_getElem?_getD, List.getElem?_append_right (Nat.le_refl _)]; simp
end
theorem meet_eq {D : List Nat} (hL : LookOk T n H D) {S : Search} (hI : SI T n A E H S) {b : FBox} {w : List UInt8} (hw : WayR S.row b w) (hb : RLw T w (lagb b)) (hwl : w.length ≤ S.row.length) :
  ∃ S', Ce_ S b = some S' ∧ MeetR T n A E H S S' ∧ (S'.found = false → Jt T b.what.at'.p b.what.at'.q → HasL S'.row (lagb b)) := by
 have hr := hb.rng hS.ok
 have hap := hb.apart
 have hlen := hb.len hS.ok
 have hrl := hI.r.rlen hS
 have hpl := hI.r.len
 have hsq := sq_le hS.n32
 have hhl := hL.i.len
 have hst : S.t.states = ((n : Nat) : Int) := by rw [hI.t]; exact hS.st
 rw [hS.st] at hr
 have hz := ix_lt hr.1 hr.2
 obtain ⟨⟨p0, p1⟩, q0, q1⟩ := hr
 have hli := live_iff hS hL ⟨p0, p1⟩ ⟨q0, q1⟩
 dsimp only [lagb] at p0 p1 q0 q1 hz hlen hli hap
 have hla := hlen.1
 have hlb := hlen.2
 unfold Ce_
 rw [show b.what.at' = (⟨b.what.at'.p, b.what.at'.q⟩ : FPr) from rfl, index_eq (S := S) hst hS.n32 ⟨p0, p1⟩ ⟨q0, q1⟩, bnd_mk]
 cases hf : S.found with
 | true => exact ⟨S, rfl, hI.same, fun q => by rw [hf] at q; cases q⟩
 | false =>
  rw [iteO_false, hI.h, grd_mk ⟨by omega, by omega⟩, Int.toNat_natCast]
  cases hv : (nth H (ix n b.what.at'.p b.what.at'.q) Hop.zero).live with
  | false =>
   exact ⟨S, rfl, hI.same, fun _ hj => by rw [hli.2 hj] at hv; cases hv⟩
  | true =>
   have hzD := (hL.i.live _).1 hv
   rw [iteO_nt, grd_mk ⟨by omega, by omega⟩]
   obtain ⟨w2, m1, m2, e, he, f, hf', er, k1, k2, k3⟩ := rest_eq hS hI.t hI.e (S := S) (D := D) (by rw [hI.h]; exact hL) ⟨p0, p1⟩ ⟨q0, q1⟩ hzD
   have l1 : (m1 ++ e.out).length ≤ 2000000 := by
    have h1 := k1.len (n := 1024) fun a ha => (hS.ok.arcs a ha).2.2.2
    have h2 := (hS.ok.ends e he).2
    rw [List.length_append]; omega
   have l2 : (m2 ++ f.out).length ≤ 2000000 := by
    have h1 := k2.len (n := 1024) fun a ha => (hS.ok.arcs a ha).2.2.2
    have h2 := (hS.ok.ends f hf').2
    rw [List.length_append]; omega
   by_cases hp : 0 < nth S.place (ix n b.what.at'.p b.what.at'.q) 0
   ·rw [iteO_dt hp]
    rcases hI.r.pz _ hz with q | ⟨k, hk, q1', q2'⟩
    ·rw [q] at hp; exact absurd hp (by omega)
    ·have hrk := hI.r.rng hS hk
     obtain ⟨⟨w', v1, v2, v3⟩, side, fit⟩ := hI.r.ent k hk
     obtain ⟨x1, x2⟩ := ix_inj hrk.1.1 hrk.2 p0 ⟨q0, q1⟩ q2'
     have hlen2 := v2.len hS.ok
     have ek : (IntKind.i64.wrap (nth S.place (ix n b.what.at'.p b.what.at'.q) 0 - 1)).toNat = k := by rw [q1', wrap64_of (by omega) (by omega)]; omega
     have ew : IntKind.i64.wrap (nth S.place (ix n b.what.at'.p b.what.at'.q) 0 - 1) = ((k : Nat) : Int) := by rw [q1', wrap64_of (by omega) (by omega)]; omega
     rw [ek, ew, grd_mk ⟨by omega, by omega⟩]
     generalize hg : nth S.row k FBox.zero = g at x1 x2 v1 v2 side fit hlen2 ⊢
     dsimp only [lagb] at hlen2
     by_cases hc : g.what.lag = b.what.lag
     ·rw [iteO_dt hc]
      exact ⟨S, rfl, hI.same, fun _ _ => ⟨k, hk, by rw [hg]; unfold lagb; rw [x1, x2, hc]⟩⟩
     ·have hla2 := hlen2.1
      have hlb2 := hlen2.2
      rw [iteO_df hc, er, bnd_mk]
      dsimp only
      rw [grd_mk (by omega), grd_mk (by omega)]
      by_cases hd : g.what.lag.a ++ (m1 ++ e.out) = g.what.lag.b ++ (m2 ++ f.out)
      ·rw [iteO_df (by simpa using hd), way_eq hw (by omega), bnd_mk, grd_mk (by omega), tell_eq S (by rw [List.length_append]; omega), bnd_mk]
       refine ⟨_, rfl, hI.told (gives_of hb he hf' k1 k2 fun hq => hc ?_) (by rw [List.length_append]; omega) hI.t hI.a hI.e hI.h, fun q => by cases q⟩
       obtain ⟨z1, z2⟩ := lag_two side hap hd hq
       rw [show g.what.lag = (⟨g.what.lag.a, g.what.lag.b⟩ : SPr) from rfl, z1, z2]
      ·rw [iteO_dt hd, way_eq v1 (by omega), bnd_mk, grd_mk (by omega), tell_eq S (by rw [List.length_append]; omega), bnd_mk]
       refine ⟨_, rfl, hI.told (gives_of v2 he hf' (by rw [show (lagb g).p = b.what.at'.p from x1]; exact k1) (by rw [show (lagb g).q = b.what.at'.q from x2]; exact k2) hd) (by rw [List.length_append]; omega) hI.t hI.a hI.e hI.h, fun q => by cases q⟩
   ·rw [iteO_df hp]
    by_cases ha : b.what.lag.a = []
    ·rw [iteO_df (by simpa using ha)]
     obtain ⟨S', h1, h2, h3⟩ := meet_ends hS hI hw hb hwl (.inl ha) hp
     exact ⟨S', h1, h2, fun q _ => h3 q⟩
    ·rw [iteO_dt ha]
     by_cases hb2 : b.what.lag.b = []
     ·rw [iteO_df (by simpa using hb2)]
      obtain ⟨S', h1, h2, h3⟩ := meet_ends hS hI hw hb hwl (.inr hb2) hp
      exact ⟨S', h1, h2, fun q _ => h3 q⟩
     ·rw [iteO_dt hb2, er, bnd_mk, way_eq hw (by omega), bnd_mk]
      dsimp only
      rw [grd_mk (by omega), tell_eq S (by rw [List.length_append]; omega), bnd_mk]
      exact ⟨_, rfl, hI.told (gives_of hb he hf' k1 k2 (hap.ne ha hb2)) (by rw [List.length_append]; omega) hI.t hI.a hI.e rfl, fun q => by cases q⟩
end
end Go.Proofs.YtcaaiphgikpgjaaGreatDoor
end

section
namespace Go.Proofs.YtcaaiphgikpgjaaGreatDoor
open Go Go.E
def StepDone (T : Fst) (l : TLag) (x y : Arc) (R : List FBox) : Prop := ∀ b : UInt8, x.set.has b.toNat = true → y.set.has b.toNat = true → Jt T x.to y.to → HasL R (lagT x.to y.to (l.a ++ em x b) (l.b ++ em y b))
def AllDone (T : Fst) (l : TLag) (R : List FBox) : Prop := ∀ x ∈ T.arcs, ∀ y ∈ T.arcs, x.frm = l.p → y.frm = l.q → StepDone T l x y R
section
variable {T : Fst} {n : Nat} {A : List (List Int)} {E : List (List (List UInt8))} {H : List Hop}
theorem MeetR.step {S S' : Search} (h : MeetR T n A E H S S') {l : TLag} {x y : Arc} (k : StepDone T l x y S.row) : StepDone T l x y S'.row := fun b h1 h2 h3 => h.has (k b h1 h2 h3)
theorem SI.eta {S S' : Search} (h : SI T n A E H S) (k : SI T n A E H S') : (⟨S.t, S.arcs, S.ends, S.hops, S'.row, S'.place, S'.text, S'.found⟩ : Search) = S' := by
 rw [h.t, h.a, h.e, h.h, ← k.t, ← k.a, ← k.e, ← k.h]
variable (hS : Sta T n A E) {D : List Nat} (hL : LookOk T n H D)
include hS hL
theorem fstep_eq {S : Search} (hI : SI T n A E H S) {k : Nat} (hk : k < S.row.length) {x y : Arc} (hx : x ∈ T.arcs) (hy : y ∈ T.arcs) (ex : x.frm = (lagb (nth S.row k FBox.zero)).p) (ey : y.frm = (lagb (nth S.row k FBox.zero)).q) {b : UInt8} (bx : x.set.has b.toNat = true) (by' : y.set.has b.toNat = true) :
  ∃ S', B3_ S ((k : Nat) : Int) x y b = some S' ∧ MeetR T n A E H S S' ∧ (S'.found = false → Jt T x.to y.to → HasL S'.row (lagT x.to y.to ((lagb (nth S.row k FBox.zero)).a ++ em x b) ((lagb (nth S.row k FBox.zero)).b ++ em y b))) := by
 have hrl := hI.r.rlen hS
 have hsq := sq_le hS.n32
 obtain ⟨⟨w, h1, h2, h3⟩, _, _⟩ := hI.r.ent k hk
 have hlen := h2.len hS.ok
 have l1 := em_len hS.ok hx b
 have l2 := em_len hS.ok hy b
 have ox := (hS.ok.arcs x hx).2.2.2
 have oy := (hS.ok.arcs y hy).2.2.2
 have hla := hlen.1
 have hlb := hlen.2
 unfold lagb at hla hlb ⊢
 dsimp only at hla hlb ⊢
 have hrl2 := RLw.step h2 hx hy ex ey bx by'
 unfold B3_
 rw [Int.toNat_natCast, grd_mk ⟨by omega, by omega⟩, fcomes_eq x b (by omega), bnd_mk, grd_mk (by omega), fcomes_eq y b (by omega), bnd_mk, grd_mk (by omega), lag_eq _ _ (by rw [List.length_append]; omega) (by rw [List.length_append]; omega), bnd_mk]
 obtain ⟨S', e, h4, h5⟩ := meet_eq hS hL hI (b := ⟨⟨⟨x.to, y.to⟩, ⟨(lagS ((nth S.row k FBox.zero).what.lag.a ++ em x b) ((nth S.row k FBox.zero).what.lag.b ++ em y b)).1, (lagS ((nth S.row k FBox.zero).what.lag.a ++ em x b) ((nth S.row k FBox.zero).what.lag.b ++ em y b)).2⟩⟩, ((k : Nat) : Int), b⟩)
  (w := w ++ [b]) (WayR.step (by dsimp only; omega) (by dsimp only; omega) (by dsimp only; rw [Int.toNat_natCast]; exact h1)) hrl2 (by rw [List.length_append, List.length_singleton]; omega)
 refine ⟨S', ?_, h4, h5⟩
 rw [e, bnd_mk, hI.eta h4.si]
theorem on_bytes {S0 : Search} (h0 : SI T n A E H S0) {k : Nat} (hk : k < S0.row.length) {S : Search} (hM : MeetR T n A E H S0 S) {x y : Arc} (hx : x ∈ T.arcs) (hy : y ∈ T.arcs) (ex : x.frm = (lagb (nth S0.row k FBox.zero)).p) (ey : y.frm = (lagb (nth S0.row k FBox.zero)).q)
  {j m : Nat} (hX : nth S0.t.arcs ((nth (nth S0.arcs (nth S0.row k FBox.zero).what.at'.p.toNat ([] : List Int)) j (0 : Int)).toNat) Arc.zero = x) (hY : nth S0.t.arcs ((nth (nth S0.arcs (nth S0.row k FBox.zero).what.at'.q.toNat ([] : List Int)) m (0 : Int)).toNat) Arc.zero = y) :
  ∃ S' r, iter (fun q : (List FBox) × (List Int) × (List UInt8) × Bool × Nat => Al_ (bothS x.set y.set) S0 ((k : Nat) : Int) j m q.1 q.2.1 q.2.2.1 q.2.2.2.1 q.2.2.2.2) (S.row, S.place, S.text, S.found, 0) = some r ∧ Am_ S0 m S'.row S'.place S'.text S'.found = some r ∧ MeetR T n A E H S0 S' ∧ MeetR T n A E H S S' ∧ (S'.found = false → StepDone T (lagb (nth S0.row k FBox.zero)) x y S'.row) := by
 obtain ⟨r, e, S', h1, h2, h3, h4⟩ := iter_up (step := fun q : (List FBox) × (List Int) × (List UInt8) × Bool × Nat => Al_ (bothS x.set y.set) S0 ((k : Nat) : Int) j m q.1 q.2.1 q.2.2.1 q.2.2.2.1 q.2.2.2.2)
  (fun (Z : Search) i => (Z.row, Z.place, Z.text, Z.found, i)) 256
  (fun i Z => MeetR T n A E H S Z ∧ (Z.found = false → ∀ b : UInt8, b.toNat < i → x.set.has b.toNat = true → y.set.has b.toNat = true → Jt T x.to y.to → HasL Z.row (lagT x.to y.to ((lagb (nth S0.row k FBox.zero)).a ++ em x b) ((lagb (nth S0.row k FBox.zero)).b ++ em y b))))
  (fun r => ∃ S', Am_ S0 m S'.row S'.place S'.text S'.found = some r ∧ MeetR T n A E H S0 S' ∧ MeetR T n A E H S S' ∧ (S'.found = false → StepDone T (lagb (nth S0.row k FBox.zero)) x y S'.row))
  (fun i Z hi hZ => by
   have hu : (toU8 ((i : Nat) : Int)).toNat = i := by
    have := toU8_val ((i : Nat) : Int)
    rw [wrap_u8] at this
    omega
   refine .inl ?_
   show ∃ s', Al_ (bothS x.set y.set) S0 ((k : Nat) : Int) j m Z.row Z.place Z.text Z.found i = _ ∧ _
   unfold Al_ Cm_
   rw [iteO_dt (by omega), hu, both_hasF _ _ _ hi, Int.toNat_natCast, hX, hY]
   by_cases c : x.set.has i = true ∧ y.set.has i = true
   ·rw [c.1, c.2, Bool.true_and, iteO_true]
    have hM2 := hM.trans hZ.1
    obtain ⟨X, hXr⟩ := hM2.row
    have hnk : nth Z.row k FBox.zero = nth S0.row k FBox.zero := by rw [hXr, nth_appL _ _ _ _ hk]
    obtain ⟨S', e, h1, h2⟩ := fstep_eq hS hL hZ.1.si (k := k) (by rw [hXr, List.length_append]; omega) hx hy (by rw [hnk]; exact ex) (by rw [hnk]; exact ey) (b := toU8 ((i : Nat) : Int)) (by rw [hu]; exact c.1) (by rw [hu]; exact c.2)
    rw [hnk] at h2
    refine ⟨S', ?_, hZ.1.trans h1, fun hf b hb b1 b2 hj => ?_⟩
    ·rw [h0.eta hZ.1.si, e]; rfl
    ·by_cases c2 : b.toNat = i
     ·have : b = toU8 ((i : Nat) : Int) := UInt8.toNat.inj (by rw [hu]; exact c2)
      rw [this]; exact h2 hf hj
     ·exact h1.has (hZ.2 (h1.was hf) b (by omega) b1 b2 hj)
   ·have : (x.set.has i && y.set.has i) = false := by
     cases h1 : x.set.has i with
     | false => rfl
     | true =>
      cases h2 : y.set.has i with
      | false => rfl
      | true => exact absurd ⟨h1, h2⟩ c
    rw [this, iteO_false]
    refine ⟨Z, rfl, hZ.1, fun hf b hb b1 b2 hj => ?_⟩
    by_cases c2 : b.toNat = i
    ·rw [c2] at b1 b2; exact absurd ⟨b1, b2⟩ c
    ·exact hZ.2 hf b (by omega) b1 b2 hj)
  (fun Z hZ => by
   have hj : ∃ r, Am_ S0 m Z.row Z.place Z.text Z.found = some r := by
    unfold Am_
    cases Z.found with
    | true => exact ⟨_, rfl⟩
    | false => exact ⟨_, rfl⟩
   obtain ⟨r, hr⟩ := hj
   refine ⟨r, ?_, Z, hr, hM.trans hZ.1, hZ.1, fun hf b b1 b2 hj => hZ.2 hf b b.toNat_lt b1 b2 hj⟩
   show Al_ (bothS x.set y.set) S0 ((k : Nat) : Int) j m Z.row Z.place Z.text Z.found 256 = _
   unfold Al_
   rw [iteO_df (by omega), hr]; rfl)
  (s0 := S) ⟨hM.si.same, fun _ b hb => absurd hb (by omega)⟩
 exact ⟨S', r, e, h1, h2, h3, h4⟩
omit hS hL in
theorem on_tail {S0 : Search} (h0 : SI T n A E H S0) {Z : Search} (hZ : SI T n A E H Z) {m : Nat} (hm : m ≤ 16384) : Am_ S0 m Z.row Z.place Z.text Z.found = some (if Z.found = true then .inr (.inr Z) else .inl (Z.row, Z.place, Z.text, Z.found, m + 1)) := by
 unfold Am_
 rw [h0.eta hZ]
 cases hf : Z.found with
 | true => rw [iteO_true, if_pos rfl]; rfl
 | false => rw [iteO_false, if_neg (fun q => Bool.noConfusion q)]; rfl
omit hS hL in
theorem b34 : @Cq_ = @Al_ := rfl
theorem on_pair {S0 : Search} (h0 : SI T n A E H S0) {k : Nat} (hk : k < S0.row.length) {S : Search} (hM : MeetR T n A E H S0 S) {x y : Arc} (hx : x ∈ T.arcs) (hy : y ∈ T.arcs) (ex : x.frm = (lagb (nth S0.row k FBox.zero)).p) (ey : y.frm = (lagb (nth S0.row k FBox.zero)).q)
  {j m : Nat} (hm : m ≤ 16384) (hX : nth S0.t.arcs ((nth (nth S0.arcs (nth S0.row k FBox.zero).what.at'.p.toNat ([] : List Int)) j (0 : Int)).toNat) Arc.zero = x) (hY : nth S0.t.arcs ((nth (nth S0.arcs (nth S0.row k FBox.zero).what.at'.q.toNat ([] : List Int)) m (0 : Int)).toNat) Arc.zero = y) :
  ∃ S', Cn_ S0 ((k : Nat) : Int) j m S.row S.place S.text S.found = some (if S'.found = true then .inr (.inr S') else .inl (S'.row, S'.place, S'.text, S'.found, m + 1)) ∧ MeetR T n A E H S S' ∧ (S'.found = false → StepDone T (lagb (nth S0.row k FBox.zero)) x y S'.row) := by
 have hbytes := on_bytes hS hL h0 hk hM hx hy ex ey hX hY
 unfold Cn_
 rw [Int.toNat_natCast, hX, hY, both_eq, bnd_mk, b34]
 have hloop : ∃ S', iter (fun q : (List FBox) × (List Int) × (List UInt8) × Bool × Nat => Al_ (bothS x.set y.set) S0 ((k : Nat) : Int) j m q.1 q.2.1 q.2.2.1 q.2.2.2.1 q.2.2.2.2) (S.row, S.place, S.text, S.found, 0) = some (if S'.found = true then .inr (.inr S') else .inl (S'.row, S'.place, S'.text, S'.found, m + 1)) ∧ MeetR T n A E H S S' ∧ (S'.found = false → StepDone T (lagb (nth S0.row k FBox.zero)) x y S'.row) := by
  obtain ⟨S', r, e, h1, h2, h3, h4⟩ := hbytes
  rw [on_tail h0 h3.si hm] at h1
  exact ⟨S', by rw [e, ← h1], h3, h4⟩
 cases cx : x.copy with
 | true => rw [iteO_nt]; exact hloop
 | false =>
  cases cy : y.copy with
  | true => rw [iteO_nf, iteO_nt]; exact hloop
  | false =>
   rw [iteO_nf, iteO_nf]
   have emx : ∀ b, em x b = x.out := fun b => by unfold em; rw [cx]; rfl
   have emy : ∀ b, em y b = y.out := fun b => by unfold em; rw [cy]; rfl
   by_cases hz : bothS x.set y.set = BSet.zero
   ·rw [hz, first_none, bnd_mk, iteO_false]
    exact ⟨S, on_tail h0 hM.si hm, hM.si.same, fun _ b b1 b2 => absurd hz (both_nz b.toNat_lt b1 b2)⟩
   ·obtain ⟨c, e1, c1, c2⟩ := both_first hz
    obtain ⟨X, hXr⟩ := hM.row
    have hnk : nth S.row k FBox.zero = nth S0.row k FBox.zero := by rw [hXr, nth_appL _ _ _ _ hk]
    obtain ⟨S', e, h1, h2⟩ := fstep_eq hS hL hM.si (k := k) (by rw [hXr, List.length_append]; omega) hx hy (by rw [hnk]; exact ex) (by rw [hnk]; exact ey) c1 c2
    rw [hnk] at h2
    refine ⟨S', ?_, h1, fun hf b b1 b2 hj => ?_⟩
    ·rw [e1, bnd_mk, iteO_true, h0.eta hM.si, e, bnd_mk, on_tail h0 h1.si hm]
    ·have := h2 hf hj
     rw [emx, emy] at this ⊢
     exact this
theorem on_row {S0 : Search} (h0 : SI T n A E H S0) {k : Nat} (hk : k < S0.row.length) {S : Search} (hM : MeetR T n A E H S0 S) (hf : S.found = false) {x : Arc} (hx : x ∈ T.arcs) (ex : x.frm = (lagb (nth S0.row k FBox.zero)).p) {j : Nat} (hj : j < (nth A (nth S0.row k FBox.zero).what.at'.p.toNat ([] : List Int)).length)
  (hX : nth T.arcs ((nth (nth A (nth S0.row k FBox.zero).what.at'.p.toNat ([] : List Int)) j (0 : Int)).toNat) Arc.zero = x) :
  ∃ S', iter (fun q : (List FBox) × (List Int) × (List UInt8) × Bool × Nat => Ay_ S0 ((k : Nat) : Int) j q.1 q.2.1 q.2.2.1 q.2.2.2.1 q.2.2.2.2) (S.row, S.place, S.text, S.found, 0) = some (if S'.found = true then .inr S' else .inl (S'.row, S'.place, S'.text, S'.found, j + 1)) ∧ MeetR T n A E H S S' ∧ (S'.found = false → ∀ y ∈ T.arcs, y.frm = (lagb (nth S0.row k FBox.zero)).q → StepDone T (lagb (nth S0.row k FBox.zero)) x y S'.row) := by
 have hr := h0.r.rng hS hk
 obtain ⟨⟨p0, p1⟩, q0, q1⟩ := hr
 have hlq := hS.row_len (nth S0.row k FBox.zero).what.at'.q.toNat (by omega)
 have hlp := hS.row_len (nth S0.row k FBox.zero).what.at'.p.toNat (by omega)
 obtain ⟨u, eu, hu, fu⟩ := hS.arc (show (nth S0.row k FBox.zero).what.at'.p.toNat < n by omega) hj
 obtain ⟨r, e, S', rfl, h1, h2⟩ := iter_up (step := fun q : (List FBox) × (List Int) × (List UInt8) × Bool × Nat => Ay_ S0 ((k : Nat) : Int) j q.1 q.2.1 q.2.2.1 q.2.2.2.1 q.2.2.2.2)
  (fun (Z : Search) i => (Z.row, Z.place, Z.text, Z.found, i)) (nth A (nth S0.row k FBox.zero).what.at'.q.toNat ([] : List Int)).length
  (fun m Z => MeetR T n A E H S Z ∧ Z.found = false ∧ ∀ i, i < m → StepDone T (lagb (nth S0.row k FBox.zero)) x (nth T.arcs ((nth (nth A (nth S0.row k FBox.zero).what.at'.q.toNat ([] : List Int)) i (0 : Int)).toNat) Arc.zero) Z.row)
  (fun r => ∃ S', r = (if S'.found = true then .inr S' else .inl (S'.row, S'.place, S'.text, S'.found, j + 1)) ∧ MeetR T n A E H S S' ∧ (S'.found = false → ∀ y ∈ T.arcs, y.frm = (lagb (nth S0.row k FBox.zero)).q → StepDone T (lagb (nth S0.row k FBox.zero)) x y S'.row))
  (fun m Z hm hZ => by
   obtain ⟨v, ev, hv, fv⟩ := hS.arc (show (nth S0.row k FBox.zero).what.at'.q.toNat < n by omega) hm
   have hyv := nth_mem' hv Arc.zero
   obtain ⟨S', e, h1, h2⟩ := on_pair hS hL h0 hk (hM.trans hZ.1) hx hyv ex (by rw [fv]; exact Int.toNat_of_nonneg q0) (j := j) (m := m) (by omega) (by rw [h0.t, h0.a]; exact hX) (by rw [h0.t, h0.a, ev, Int.toNat_natCast])
   have hstep : Ay_ S0 ((k : Nat) : Int) j Z.row Z.place Z.text Z.found m = some (if S'.found = true then .inr (.inr S') else .inl (S'.row, S'.place, S'.text, S'.found, m + 1)) := by
    unfold Ay_
    rw [Int.toNat_natCast, h0.a, h0.t, iteO_dt (by omega), eu, ev, grd_mk ⟨by omega, by omega⟩, grd_mk ⟨by omega, by omega⟩]
    exact e
   cases hf' : S'.found with
   | true =>
    rw [hf', if_pos rfl] at hstep
    exact .inr ⟨_, hstep, S', by rw [hf', if_pos rfl], hZ.1.trans h1, fun q => by rw [hf'] at q; cases q⟩
   | false =>
    rw [if_neg (fun q => by rw [hf'] at q; cases q)] at hstep
    refine .inl ⟨S', hstep, hZ.1.trans h1, hf', fun i hi => ?_⟩
    by_cases c : i = m
    ·subst c; rw [ev, Int.toNat_natCast]; exact h2 hf'
    ·exact h1.step (hZ.2.2 i (by omega)))
  (fun Z hZ => by
   refine ⟨_, ?_, Z, rfl, hZ.1, fun _ y hy ey => ?_⟩
   ·show Ay_ S0 ((k : Nat) : Int) j Z.row Z.place Z.text Z.found (nth A (nth S0.row k FBox.zero).what.at'.q.toNat ([] : List Int)).length = _
    unfold Ay_
    rw [Int.toNat_natCast, h0.a, iteO_df (by omega), if_neg (fun q => by rw [hZ.2.1] at q; cases q)]; rfl
   ·obtain ⟨m, hm, e2⟩ := hS.arcs (show (nth S0.row k FBox.zero).what.at'.q.toNat < n by omega) hy (by rw [ey]; exact (Int.toNat_of_nonneg q0).symm)
    have := hZ.2.2 m hm
    rwa [e2] at this)
  (s0 := S) ⟨hM.si.same, hf, fun i hi => absurd hi (by omega)⟩
 exact ⟨S', e, h1, h2⟩
theorem on_eq {S0 : Search} (h0 : SI T n A E H S0) (hf : S0.found = false) {k : Nat} (hk : k < S0.row.length) :
  ∃ S', Dp_ S0 ((k : Nat) : Int) = some S' ∧ MeetR T n A E H S0 S' ∧ (S'.found = false → AllDone T (lagb (nth S0.row k FBox.zero)) S'.row) := by
 have hr := h0.r.rng hS hk
 have hal := hS.ar.len
 obtain ⟨⟨p0, p1⟩, q0, q1⟩ := hr
 have hlp := hS.row_len (nth S0.row k FBox.zero).what.at'.p.toNat (by omega)
 unfold Dp_
 rw [Int.toNat_natCast, h0.a, grd_mk ⟨by omega, by omega⟩, grd_mk ⟨by omega, by omega⟩]
 obtain ⟨r, e, S', rfl, h1, h2⟩ := iter_up (step := fun q : (List FBox) × (List Int) × (List UInt8) × Bool × Nat => A6_ S0 ((k : Nat) : Int) q.1 q.2.1 q.2.2.1 q.2.2.2.1 q.2.2.2.2)
  (fun (Z : Search) i => (Z.row, Z.place, Z.text, Z.found, i)) (nth A (nth S0.row k FBox.zero).what.at'.p.toNat ([] : List Int)).length
  (fun j Z => MeetR T n A E H S0 Z ∧ Z.found = false ∧ ∀ i, i < j → ∀ y ∈ T.arcs, y.frm = (lagb (nth S0.row k FBox.zero)).q → StepDone T (lagb (nth S0.row k FBox.zero)) (nth T.arcs ((nth (nth A (nth S0.row k FBox.zero).what.at'.p.toNat ([] : List Int)) i (0 : Int)).toNat) Arc.zero) y Z.row)
  (fun S' => ∃ S'', S' = S'' ∧ MeetR T n A E H S0 S'' ∧ (S''.found = false → AllDone T (lagb (nth S0.row k FBox.zero)) S''.row))
  (fun j Z hj hZ => by
   obtain ⟨u, eu, hu, fu⟩ := hS.arc (show (nth S0.row k FBox.zero).what.at'.p.toNat < n by omega) hj
   obtain ⟨S', e, h1, h2⟩ := on_row hS hL h0 hk hZ.1 hZ.2.1 (nth_mem' hu Arc.zero) (by rw [fu]; exact Int.toNat_of_nonneg p0) hj (by rw [eu, Int.toNat_natCast])
   have hstep : A6_ S0 ((k : Nat) : Int) Z.row Z.place Z.text Z.found j = some (if S'.found = true then .inr S' else .inl (S'.row, S'.place, S'.text, S'.found, j + 1)) := by
    unfold A6_
    rw [Int.toNat_natCast, h0.a, iteO_dt (by omega), grd_mk ⟨by omega, by omega⟩]
    exact e
   cases hf' : S'.found with
   | true =>
    rw [hf', if_pos rfl] at hstep
    exact .inr ⟨_, hstep, S', rfl, hZ.1.trans h1, fun q => by rw [hf'] at q; cases q⟩
   | false =>
    rw [if_neg (fun q => by rw [hf'] at q; cases q)] at hstep
    refine .inl ⟨S', hstep, hZ.1.trans h1, hf', fun i hi y hy ey => ?_⟩
    by_cases c : i = j
    ·subst c; rw [eu, Int.toNat_natCast]; exact h2 hf' y hy ey
    ·exact h1.step (hZ.2.2 i (by omega) y hy ey))
  (fun Z hZ => by
   refine ⟨_, ?_, Z, rfl, hZ.1, fun _ x hx y hy ex ey => ?_⟩
   ·show A6_ S0 ((k : Nat) : Int) Z.row Z.place Z.text Z.found (nth A (nth S0.row k FBox.zero).what.at'.p.toNat ([] : List Int)).length = _
    unfold A6_
    rw [Int.toNat_natCast, h0.a, iteO_df (by omega), ← h0.a, h0.eta hZ.1.si]; rfl
   ·obtain ⟨m, hm, e2⟩ := hS.arcs (show (nth S0.row k FBox.zero).what.at'.p.toNat < n by omega) hx (by rw [ex]; exact (Int.toNat_of_nonneg p0).symm)
    have := hZ.2.2 m hm y hy ey
    rwa [e2] at this)
  (s0 := S0) ⟨h0.same, hf, fun i hi => absurd hi (by omega)⟩
 exact ⟨_, e, h1, h2⟩
end
end Go.Proofs.YtcaaiphgikpgjaaGreatDoor
end

section
namespace Go.Proofs.YtcaaiphgikpgjaaGreatDoor
open Go Go.E
section
variable {T : Fst} {n : Nat} {A : List (List Int)} {E : List (List (List UInt8))} {H : List Hop}
theorem MeetR.all {S S' : Search} (h : MeetR T n A E H S S') {l : TLag} (k : AllDone T l S.row) : AllDone T l S'.row := fun x hx y hy ex ey => h.step (k x hx y hy ex ey)
theorem SI.eta' {Z S0 V : Search} (hZ : SI T n A E H Z) (ht : S0.t = T) (ha : S0.arcs = A) (he : S0.ends = E) (hh : V.hops = H) : (⟨S0.t, S0.arcs, S0.ends, V.hops, Z.row, Z.place, Z.text, Z.found⟩ : Search) = Z := by
 rw [ht, ha, he, hh, ← hZ.t, ← hZ.a, ← hZ.e, ← hZ.h]
variable (hS : Sta T n A E) {D : List Nat} (hL : LookOk T n H D) {S0 V : Search} (ht : S0.t = T) (ha : S0.arcs = A) (he : S0.ends = E) (hh : V.hops = H)
include hS hL ht ha he hh
theorem run_first {k : Nat} (hk : k < T.starts.length) {Z : Search} (hZ : SI T n A E H Z) :
  ∃ Z', iter (fun q : (List FBox) × (List Int) × (List UInt8) × Bool × Nat => At_ S0 k V q.1 q.2.1 q.2.2.1 q.2.2.2.1 q.2.2.2.2) (Z.row, Z.place, Z.text, Z.found, 0) = some (.inl (Z'.row, Z'.place, Z'.text, Z'.found, k + 1)) ∧ MeetR T n A E H Z Z' ∧
   (Z'.found = false → ∀ y ∈ T.starts, Jt T (nth T.starts k Tip.zero).state y.state → HasL Z'.row (lagT (nth T.starts k Tip.zero).state y.state (nth T.starts k Tip.zero).out y.out)) := by
 have hkm := nth_mem' hk Tip.zero
 have ok := (hS.ok.starts _ hkm).2
 obtain ⟨r, e, Z', rfl, h1, h2⟩ := iter_up (step := fun q : (List FBox) × (List Int) × (List UInt8) × Bool × Nat => At_ S0 k V q.1 q.2.1 q.2.2.1 q.2.2.2.1 q.2.2.2.2)
  (fun (Z : Search) i => (Z.row, Z.place, Z.text, Z.found, i)) T.starts.length
  (fun j Z' => MeetR T n A E H Z Z' ∧ (Z'.found = false → ∀ i, i < j → Jt T (nth T.starts k Tip.zero).state (nth T.starts i Tip.zero).state → HasL Z'.row (lagT (nth T.starts k Tip.zero).state (nth T.starts i Tip.zero).state (nth T.starts k Tip.zero).out (nth T.starts i Tip.zero).out)))
  (fun r => ∃ Z', r = .inl (Z'.row, Z'.place, Z'.text, Z'.found, k + 1) ∧ MeetR T n A E H Z Z' ∧
   (Z'.found = false → ∀ y ∈ T.starts, Jt T (nth T.starts k Tip.zero).state y.state → HasL Z'.row (lagT (nth T.starts k Tip.zero).state y.state (nth T.starts k Tip.zero).out y.out)))
  (fun j Z' hj hq => by
   have hjm := nth_mem' hj Tip.zero
   have oj := (hS.ok.starts _ hjm).2
   obtain ⟨S', e, h1, h2⟩ := meet_eq hS hL hq.1.si (b := ⟨⟨⟨(nth T.starts k Tip.zero).state, (nth T.starts j Tip.zero).state⟩, ⟨(lagS (nth T.starts k Tip.zero).out (nth T.starts j Tip.zero).out).1, (lagS (nth T.starts k Tip.zero).out (nth T.starts j Tip.zero).out).2⟩⟩, -1, (0 : UInt8)⟩)
    (w := []) (WayR.root (by dsimp only; omega)) (RLw.base hkm hjm) (Nat.zero_le _)
   refine .inl ⟨S', ?_, hq.1.trans h1, fun hf i hi hjt => ?_⟩
   ·show At_ S0 k V Z'.row Z'.place Z'.text Z'.found j = _
    unfold At_
    rw [hq.1.si.eta' ht ha he hh, ht, iteO_dt (by omega), lag_eq _ _ (by omega) (by omega), bnd_mk, e]; rfl
   ·by_cases c : i = j
    ·subst c; exact h2 hf hjt
    ·exact h1.has (hq.2 (h1.was hf) i (by omega) hjt))
  (fun Z' hq => by
   refine ⟨_, ?_, Z', rfl, hq.1, fun hf y hy hjt => ?_⟩
   ·show At_ S0 k V Z'.row Z'.place Z'.text Z'.found T.starts.length = _
    unfold At_
    rw [ht, iteO_df (by omega)]; rfl
   ·obtain ⟨i, hi, e2⟩ := mem_nth (d := Tip.zero) hy
    have := hq.2 hf i hi
    rw [e2] at this
    exact this hjt)
  (s0 := Z) ⟨hZ.same, fun _ i hi => absurd hi (by omega)⟩
 exact ⟨Z', e, h1, h2⟩
theorem run_on {Z : Search} (hZ : SI T n A E H Z) :
  ∃ S', iter (fun q : (List FBox) × (List Int) × (List UInt8) × Bool × Nat => An_ S0 V q.1 q.2.1 q.2.2.1 q.2.2.2.1 q.2.2.2.2) (Z.row, Z.place, Z.text, Z.found, 0) = some S' ∧ MeetR T n A E H Z S' ∧
   (S'.found = false → ∀ k, k < S'.row.length → AllDone T (lagb (nth S'.row k FBox.zero)) S'.row) := by
 have hsq := sq_le hS.n32
 refine iter_up (step := fun q : (List FBox) × (List Int) × (List UInt8) × Bool × Nat => An_ S0 V q.1 q.2.1 q.2.2.1 q.2.2.2.1 q.2.2.2.2)
  (fun (Z : Search) i => (Z.row, Z.place, Z.text, Z.found, i)) (n * n)
  (fun i Z' => MeetR T n A E H Z Z' ∧ (Z'.found = false → ∀ k, k < i → k < Z'.row.length → AllDone T (lagb (nth Z'.row k FBox.zero)) Z'.row)) _ (fun i Z' hi hq => ?_) (fun Z' hq => ?_) (s0 := Z) ⟨hZ.same, fun _ k hk => absurd hk (by omega)⟩
 ·show (∃ s', An_ S0 V Z'.row Z'.place Z'.text Z'.found i = _ ∧ _) ∨ ∃ r, An_ S0 V Z'.row Z'.place Z'.text Z'.found i = _ ∧ _
  unfold An_
  rw [hq.1.si.eta' ht ha he hh]
  by_cases hr : i < Z'.row.length
  ·rw [iteO_dt (by omega)]
   cases hf : Z'.found with
   | true => exact .inr ⟨Z', rfl, hq.1, fun q => by rw [hf] at q; cases q⟩
   | false =>
    obtain ⟨S', e, h1, h2⟩ := on_eq hS hL hq.1.si hf hr
    refine .inl ⟨S', ?_, hq.1.trans h1, fun hf' k hk hkl => ?_⟩
    ·rw [iteO_nf, e, bnd_mk]; rfl
    ·obtain ⟨X, hX⟩ := h1.row
     have hn : nth S'.row k FBox.zero = nth Z'.row k FBox.zero := by rw [hX, nth_appL _ _ _ _ (by omega)]
     rw [hn]
     by_cases c : k = i
     ·subst c; exact h2 hf'
     ·exact h1.all (hq.2 hf k (by omega) (by omega))
  ·rw [iteO_df (by omega)]
   exact .inr ⟨Z', rfl, hq.1, fun hf k hk => hq.2 hf k (by omega) hk⟩
 ·have hrl := hq.1.si.r.rlen hS
  refine ⟨Z', ?_, hq.1, fun hf k hk => hq.2 hf k (by omega) hk⟩
  show An_ S0 V Z'.row Z'.place Z'.text Z'.found (n * n) = _
  unfold An_
  rw [hq.1.si.eta' ht ha he hh, iteO_df (by omega)]; rfl
end
theorem Good.all {T : Fst} {n : Nat} {A : List (List Int)} {E : List (List (List UInt8))} {H : List Hop} {S : Search} (h : SI T n A E H S)
  (h1 : ∀ x ∈ T.starts, ∀ y ∈ T.starts, Jt T x.state y.state → HasL S.row (lagT x.state y.state x.out y.out)) (h2 : ∀ k, k < S.row.length → AllDone T (lagb (nth S.row k FBox.zero)) S.row) : Good T := by
 refine Good.of (HasL S.row) h1 ?_ ?_ ?_ ?_
 ·rintro l ⟨k, hk, rfl⟩ x hx y hy b ex ey b1 b2 hj
  exact h2 k hk x hx y hy ex ey b b1 b2 hj
 ·rintro l ⟨k, hk, rfl⟩
  exact (h.r.ent k hk).side
 ·rintro l l' ⟨k, hk, rfl⟩ ⟨j, hj, rfl⟩ e1 e2
  have hk' := h.r.pl k hk
  have hj' := h.r.pl j hj
  have : ixb n (nth S.row k FBox.zero) = ixb n (nth S.row j FBox.zero) := by
   unfold ixb
   rw [show (nth S.row k FBox.zero).what.at'.p = (nth S.row j FBox.zero).what.at'.p from e1, show (nth S.row k FBox.zero).what.at'.q = (nth S.row j FBox.zero).what.at'.q from e2]
  rw [this] at hk'
  have : k = j := by omega
  rw [this]
 ·rintro l ⟨k, hk, rfl⟩
  exact (h.r.ent k hk).fit
theorem run_eq {T : Fst} {n : Nat} {A : List (List Int)} {E : List (List (List UInt8))} (hS : Sta T n A E) :
  ∃ S', Dd_ ⟨T, A, E, List.replicate (n * n) Hop.zero, [], List.replicate (n * n) 0, [], false⟩ = some S' ∧ ((S'.found = true ∧ Gives T S'.text ∧ S'.text.length ≤ 2 * (n * n)) ∨ (S'.found = false ∧ S'.text = [] ∧ Good T)) := by
 obtain ⟨H, D, e, hL⟩ := fulook_eq hS (S := ⟨T, A, E, List.replicate (n * n) Hop.zero, [], List.replicate (n * n) 0, [], false⟩) rfl rfl rfl rfl
 have h0 : SI T n A E H ⟨T, A, E, H, [], List.replicate (n * n) 0, [], false⟩ := ⟨rfl, rfl, rfl, rfl, ⟨List.length_replicate, List.nodup_nil, fun k hk => absurd hk (Nat.not_lt_zero _), fun z hz => .inl (nth_rep _ _ _), fun k hk => absurd hk (Nat.not_lt_zero _)⟩, fun q => Bool.noConfusion q, fun _ => rfl⟩
 unfold Dd_
 rw [e, bnd_mk]
 dsimp only
 refine iter_up (step := fun q : (List FBox) × (List Int) × (List UInt8) × Bool × Nat => A0_ ⟨T, A, E, List.replicate (n * n) Hop.zero, [], List.replicate (n * n) 0, [], false⟩ ⟨T, A, E, H, [], List.replicate (n * n) 0, [], false⟩ q.1 q.2.1 q.2.2.1 q.2.2.2.1 q.2.2.2.2)
  (fun (Z : Search) i => (Z.row, Z.place, Z.text, Z.found, i)) T.starts.length
  (fun i Z => SI T n A E H Z ∧ (Z.found = false → ∀ k, k < i → ∀ y ∈ T.starts, Jt T (nth T.starts k Tip.zero).state y.state → HasL Z.row (lagT (nth T.starts k Tip.zero).state y.state (nth T.starts k Tip.zero).out y.out)))
  _ (fun k Z hk hq => ?_) (fun Z hq => ?_) (s0 := ⟨T, A, E, H, [], List.replicate (n * n) 0, [], false⟩) ⟨h0, fun _ k hk => absurd hk (by omega)⟩
 ·obtain ⟨Z', e, h1, h2⟩ := run_first hS hL (S0 := ⟨T, A, E, List.replicate (n * n) Hop.zero, [], List.replicate (n * n) 0, [], false⟩) (V := ⟨T, A, E, H, [], List.replicate (n * n) 0, [], false⟩) rfl rfl rfl rfl hk hq.1
  refine .inl ⟨Z', ?_, h1.si, fun hf j hj => ?_⟩
  ·show A0_ _ _ Z.row Z.place Z.text Z.found k = _
   unfold A0_
   rw [iteO_dt (by dsimp only; omega)]
   exact e
  ·by_cases c : j = k
   ·subst c; exact h2 hf
   ·exact fun y hy hjt => h1.has (hq.2 (h1.was hf) j (by omega) y hy hjt)
 ·obtain ⟨S', e, h1, h2⟩ := run_on hS hL (S0 := ⟨T, A, E, List.replicate (n * n) Hop.zero, [], List.replicate (n * n) 0, [], false⟩) (V := ⟨T, A, E, H, [], List.replicate (n * n) 0, [], false⟩) rfl rfl rfl rfl hq.1
  refine ⟨S', ?_, ?_⟩
  ·show A0_ _ _ Z.row Z.place Z.text Z.found T.starts.length = _
   unfold A0_
   rw [iteO_df (by dsimp only; omega), e]; rfl
  ·cases hf : S'.found with
   | true => exact .inl ⟨rfl, h1.si.y hf⟩
   | false =>
    refine .inr ⟨rfl, h1.si.no hf, Good.all h1.si (fun x hx y hy hj => ?_) (h2 hf)⟩
    obtain ⟨k, hk, e2⟩ := mem_nth (d := Tip.zero) hx
    have := hq.2 (h1.was hf) k hk y hy
    rw [e2] at this
    exact h1.has (this hj)
def TwoR (t : Fst) (r : (List UInt8) × Bool × Int) : Prop :=
 (fstB t = false ∧ r = ([], false, 1)) ∨ (fstB t = true ∧ 32 < (trimD t).states ∧ r = ([], false, 2)) ∨
 (fstB t = true ∧ (trimD t).states ≤ 32 ∧ ((∃ w, r = (w, true, 0) ∧ Gives (trimD t) w ∧ ((w.length : Nat) : Int) ≤ 2 * ((trimD t).states * (trimD t).states)) ∨ (r = ([], false, 0) ∧ Good (trimD t))))
theorem two_eq (t : Fst) : ∃ r, D7_ t = some r ∧ TwoR t r := by
 unfold D7_
 rw [trim_eq t, bnd_mk]
 cases hb : fstB t with
 | false =>
  refine ⟨_, ?_, .inl ⟨hb, rfl⟩⟩
  rw [if_neg (fun q => Bool.noConfusion q), iteO_dt (by decide)]
 | true =>
  rw [if_pos rfl, iteO_df (by simp)]
  have hT := trimD_ok ((fstB_iff t).1 hb)
  by_cases h : 32 < (trimD t).states
  ·exact ⟨_, by rw [iteO_dt h], .inr (.inl ⟨hb, h, rfl⟩)⟩
  ·obtain ⟨n, A, E, e, hS⟩ := begin_eq hT (by omega)
   obtain ⟨S', e2, h2⟩ := run_eq hS
   refine ⟨(S'.text, S'.found, 0), by rw [iteO_df h, e, bnd_mk, e2]; rfl, .inr (.inr ⟨hb, by omega, ?_⟩)⟩
   rcases h2 with ⟨h3, h4, h5⟩ | ⟨h3, h4, h5⟩
   ·refine .inl ⟨S'.text, by rw [h3], h4, ?_⟩
    rw [hS.st, ← Int.natCast_mul]; omega
   ·exact .inr ⟨by rw [h3, h4], h5⟩
end Go.Proofs.YtcaaiphgikpgjaaGreatDoor
end

section
namespace Go.Proofs.YtcaaiphgikpgjaaGreatDoor
open Go Go.E Go.E.OpVal Go.E.OpOk Go.Proofs.Tryz
private theorem ag23 : Go.E.aggOf Tryz.prog 23 = some false := by kernel_rfl
private theorem ag25 : Go.E.aggOf Tryz.prog 25 = some true := by kernel_rfl
private theorem by5 : Go.E.byOf Tryz.prog 5 = some 1 := by kernel_rfl
private theorem fo25_0 : Go.E.foOf Tryz.prog 25 0 = some 0 := by kernel_rfl
private theorem fo25_3 : Go.E.foOf Tryz.prog 25 3 = some 3 := by kernel_rfl
private theorem fo59_2 : Go.E.foOf Tryz.prog 59 2 = some 2 := by kernel_rfl
private theorem pf20 : Go.E.plainF Tryz.prog 20 = true := by kernel_rfl
private theorem pf21 : Go.E.plainF Tryz.prog 21 = true := by kernel_rfl
private theorem pf48 : Go.E.plainF Tryz.prog 48 = true := by kernel_rfl
private theorem sz25 : Go.E.szOf Tryz.prog 25 = some 4 := by kernel_rfl
private theorem sz59 : Go.E.szOf Tryz.prog 59 = some 8 := by kernel_rfl
private theorem ze5 : Go.E.zeroOf Tryz.prog 5 = some (.int .u8 0) := by kernel_rfl
noncomputable def B0_ (k117 : Nat) (l121 : List UInt8) : Option (((List UInt8) × Nat) ⊕ ((List UInt8))) :=
 nxt (l121, (k117 + 1))
noncomputable def Ae_ (x0 : BSet) (l114 : List UInt8) (k117 : Nat) : Option (((List UInt8) × Nat) ⊕ ((List UInt8))) :=
 iteO (decide (((k117 : Nat) : Int) < 256)) (grd (k117 < 256) (iteO (x0.has k117) (grd ((l114.length + [(toU8 ((k117 : Nat) : Int))].length) * 1 ≤ 140737488355328) (B0_ k117 (l114 ++ [(toU8 ((k117 : Nat) : Int))]))) (B0_ k117 l114))) (fin (some l114))
noncomputable def Cc_ (x0 : BSet) : Option ((List UInt8)) :=
 iter (fun q : (List UInt8) × Nat => Ae_ x0 q.1 q.2) (([] : List UInt8), 0)
def Fh_ (σ : Store) (r : (List UInt8)) : Value → Store → List Res → Prop := fun v σ' H' =>
 ∃ (a1 : Option Addr), ∃ (c1 : Nat),  v = .slice a1 r.length c1 ∧ σ = σ' ∧ H' = [Res.rowS 5 1 encU8 (.slice a1 r.length c1) r]
theorem Fd_ {σ : Store} {x0 : BSet}  {r : (List UInt8)} (hh : Cc_ x0 = some r) :
  Con Tryz.prog 20 #[setV x0] σ [] (Fh_ σ r) := by
 dsimp only [Cc_] at hh
 refine Con.mk (n := 18) Tryz.func20 z z z (fun w0 => ?_)
 refine TC.a (TL.op z (boxA z z z z (fun b101 => ?_)))
 refine TL.s z z (TL.en (TC.a (TL.s z z (TL.en (TC.seq (TC.a (TL.i z z (TL.en (TC.block (TC.nilS 5 1 encU8 (TC.loopG (α := ((List UInt8) × Nat) × ((Option Addr) × Nat)) (rgs [(3, 14)]) (fun g => [(3, .slice g.2.1 g.1.1.length g.2.2), (4, .int .i64 ((g.1.2 : Nat) : Int))]) (fun g => [Res.cells b101 (setA x0) 57, Res.rowS 5 1 encU8 (.slice g.2.1 g.1.1.length g.2.2) g.1.1]) (fun g => σ) (fun g => iter (fun q : (List UInt8) × Nat => Ae_ x0 q.1 q.2) g.1 = some r) (fun g => rounds (fun q : (List UInt8) × Nat => Ae_ x0 q.1 q.2) g.1) ((([] : List UInt8), 0), (none, 0)) (Sub.f [1] 2) z (by repeat (first | exact trivial | refine ⟨z, ?_⟩)) hh (fun g1 j1 hg1 => ?_))))))))))))
 obtain ⟨⟨l114, k117⟩, ⟨a115, c116⟩⟩ := g1
 have hh := hg1; clear hg1
 try dsimp only
 obtain ⟨z1, hh, hR1⟩ := iter_e hh
 dsimp only [Ae_] at hh
 refine TC.isSl (i := 1) z (fun _ hb119 _ => ?_)
 refine TC.seq (TC.a (TL.i z z (TL.w z (OpVal.lss z z z) (TL.en (TC.cD z hh (fun h120 hh => ?_) (fun h120 hh => ?_))))))
 ·refine TC.skip (S.n (TC.cutG (α := ((List UInt8)) × ((Option Addr) × Nat)) (rgs [(3, 1), (9, 8)]) (fun g => [(3, .slice g.2.1 g.1.length g.2.2)]) (fun g => [Res.cells b101 (setA x0) 57, Res.rowS 5 1 encU8 (.slice g.2.1 g.1.length g.2.2) g.1]) (fun g => σ) (fun g => B0_ k117 g.1 = some z1) ?_ (fun g j hg => ?_)))
  ·skip
   refine TC.block (TC.a (TL.w z (loadAll z ag57 sz57 z (i := 0) z z) (TL.i z z ?_)))
   have u9 := grd_c hh
   replace hh := grd_t hh
   refine TL.op z (callP (rhas_con _ x0 k117 (BSet.isOk _) u9) z z pf48 z z z ?_)
   refine TL.en (TC.cB z hh (fun h124 hh => ?_) (fun h124 hh => ?_))
   ·refine TC.region (TL.s z z (TL.i z z (TL.w z (convU8 z underlying3 underlying5 z) (TL.op z (OpOk.lit (enc := encU8) [(toU8 ((k117 : Nat) : Int))] z underlying53 sz5 ze5 z z z encU8_len (by decide) (by decide) (0 : UInt8) z (by decide) z (by decide) encU8_one (fun a125 c126 => ?_))))))
    refine TL.front 2 z z ?_
    have u14 := grd_c hh
    replace hh := grd_t hh
    refine TL.op z (appendS z z underlying53 sz5 by5 ze5 z z (by decide) z z z (.inr ⟨_, 0, z⟩) (by simpa using u14) (by decide) (fun a128 c129 => ?_))
    exact TL.s z z (TL.nil (B.n (S.n (cf ((l114 ++ [(toU8 ((k117 : Nat) : Int))]), (a128, c129)) hh (Sub.f [2] 2)))))
   ·exact TC.skip (B.n (S.n (cf (l114, (a115, c116)) hh (Sub.f [1, 1] 2))))
  ·skip
   obtain ⟨l121, ⟨a122, c123⟩⟩ := g
   have hh := hg; clear hg
   try dsimp only
   dsimp only [B0_] at hh
   refine TC.isSl (i := 1) z (fun _ hb130 _ => ?_)
   refine TC.region (TL.i z z (TL.w z (OpVal.succ z z z (by omega)) (TL.i z z (TL.en ?_))))
   obtain ⟨hh, hlt131⟩ := nxt_x hR1 hh
   exact lf ((l121, (k117 + 1)), (a122, c123)) hlt131 hh (Sub.f [1, 1] 2)
 ·refine TC.exit (S.x (S.x ?_))
  replace hh := fin_x hR1 hh
  refine TC.exitHere (S.n (TC.a (TL.s z z (TL.s z z (TL.en (TC.ofSub (Sub.f [1] 1) (TC.ret ?_)))))))
  obtain rfl := so hh
  exact ro [Res.rowS 5 1 encU8 (.slice a115 l114.length c116) l114] z (RVs.tmp z RVs.nil) ⟨a115, c116, z, z, z⟩
noncomputable def Bi_ (x0 : Fst) (i103 : Int) : Option (Bool) :=
 bnd (Cr_ x0) (fun v29 => iteO v29 (iteO (decide (((x0.arcs.length : Nat) : Int) ≤ 14)) (iteO (decide (x0.states ≤ 5)) (some (decide (i103 ≤ 40))) (iteO (decide (1024 < x0.states)) (some (decide (i103 ≤ 40))) (some false))) (some false)) (some false))
noncomputable def Aj_ (x0 : Fst) (i108 : Int) (k109 : Nat) : Option ((Int × Nat) ⊕ (Bool)) :=
 iteO (decide (((k109 : Nat) : Int) < ((x0.arcs.length : Nat) : Int))) (iteO (decide (i108 ≤ 40)) (bnd (Cc_ ((nth x0.arcs k109 Arc.zero).set)) (fun v21 => nxt ((IntKind.i64.wrap (i108 + ((v21.length : Nat) : Int))), (k109 + 1)))) (fin (Bi_ x0 i108))) (fin (Bi_ x0 i108))
noncomputable def Cs_ (x0 : Fst) : Option (Bool) :=
 iter (fun q : Int × Nat => Aj_ x0 q.1 q.2) (0, 0)
theorem Fk_ {σ : Store} {x0 : Fst} {a0_0 : Option Addr} {c0_0 : Nat} {a0_1 : Option Addr} {c0_1 : Nat} {a0_2 : Option Addr} {c0_2 : Nat} (f0_0 : RS σ 2 encTip (.slice a0_0 x0.starts.length c0_0) x0.starts) (f0_1 : RS σ 2 encTip (.slice a0_1 x0.ends.length c0_1) x0.ends) (f0_2 : RS σ 8 encArc (.slice a0_2 x0.arcs.length c0_2) x0.arcs) {r : Bool} (hh : Cs_ x0 = some r) :
  Con Tryz.prog 5 #[.agg #[.int .i64 x0.states, .slice a0_0 x0.starts.length c0_0, .slice a0_1 x0.ends.length c0_1, .slice a0_2 x0.arcs.length c0_2]] σ [] (PureP (.bool r) σ) := by
 dsimp only [Cs_] at hh
 have f0_0b := f0_0.rv.big
 have f0_1b := f0_1.rv.big
 have f0_2b := f0_2.rv.big
 refine Con.mk (n := 48) Tryz.func5 z z z (fun w0 => ?_)
 refine TC.a (TL.op z (boxA z z z z (fun b101 => ?_)))
 refine TL.j z z (TL.en (TC.a (TL.i z z (TL.en (TC.cutG (α := (Int) × (Unit)) (rgs [(3, 23)]) (fun g => [(3, .int .i64 g.1)]) (fun g => [Res.cells b101 #[.int .i64 x0.states, .slice a0_0 x0.starts.length c0_0, .slice a0_1 x0.ends.length c0_1, .slice a0_2 x0.arcs.length c0_2] 25]) (fun g => σ) (fun g => Bi_ x0 g.1 = some r) ?_ (fun g j hg => ?_))))))
 ·skip
  refine TC.a (TL.i z z (TL.en (TC.block (TC.loopG (α := (Int × Nat) × (Unit)) (rgs [(3, 23)]) (fun g => [(3, .int .i64 g.1.1), (4, .int .i64 ((g.1.2 : Nat) : Int))]) (fun g => [Res.cells b101 #[.int .i64 x0.states, .slice a0_0 x0.starts.length c0_0, .slice a0_1 x0.ends.length c0_1, .slice a0_2 x0.arcs.length c0_2] 25]) (fun g => σ) (fun g => iter (fun q : Int × Nat => Aj_ x0 q.1 q.2) g.1 = some r) (fun g => rounds (fun q : Int × Nat => Aj_ x0 q.1 q.2) g.1) ((0, 0), ()) (Sub.pre 1 z) z (by repeat (first | exact trivial | refine ⟨z, ?_⟩)) hh (fun g1 j1 hg1 => ?_)))))
  obtain ⟨⟨i108, k109⟩, _⟩ := g1
  have hh := hg1; clear hg1
  try dsimp only
  obtain ⟨z1, hh, hR1⟩ := iter_e hh
  dsimp only [Aj_] at hh
  refine TC.seq (TC.a (TL.i z z (TL.w z (fieldLoc z fo25_3 z) (TL.w z (loadLoc z ag23 z (i := 0) z z) (TL.w z (lenC z underlying23 z) (TL.w z (OpVal.lss z z z) (TL.j z z (TL.split 10 z (fun h110 => ?_) (fun h110 => ?_)))))))))
  ·replace hh := iteO_t h110 hh
   replace h110 := of_decide_eq_true h110
   refine TL.g z (moveI (.inl z) z) (TL.g z (OpVal.leq z z z) (TL.w z (pickTB z z z) (TL.en (TC.cD z hh (fun h111 hh => ?_) (fun h111 hh => ?_)))))
   ·refine TC.skip (S.n (TC.seq (TC.block (TC.region (TL.i z z (TL.w z (fieldLoc z fo25_3 z) (TL.w z (loadLoc z ag23 z (i := 0) z z) (TL.i z z (TL.w z (indexN z underlying23 sz59 z z f0_2.rv.sl (by omega)) (TL.w z (fieldElem z fo59_2 z f0_2.rv.sl (by omega)) (TL.w z (loadSub Arc.zero z ag57 sz57 z f0_2 (by omega) (by omega) (by omega) z z) ?_)))))))))))
    obtain ⟨v21, u21, hh⟩ := bnd_e hh
    refine TL.op z (OpOk.call (Fd_ u21) z z pf20 z z z z ?_)
    rintro _ _ _ hle112 ⟨a112_1, c112_1, rfl, rfl, rfl⟩
    refine TL.w z (lenC z underlying53 z) (TL.w z (addW z z z) (TL.i z z (TL.nil (B.n (S.n (TC.region (TL.i z z (TL.w z (OpVal.succ z z z (by omega)) (TL.i z z (TL.en ?_))))))))))
    obtain ⟨hh, hlt114⟩ := nxt_x hR1 hh
    exact lf (((IntKind.i64.wrap (i108 + ((v21.length : Nat) : Int))), (k109 + 1)), ()) hlt114 hh (Sub.f [1] 1)
   ·refine TC.exit (S.x (S.x ?_))
    replace hh := fin_x hR1 hh
    exact TC.exitHere (S.n (cf (i108, ()) hh (Sub.pre 1 z)))
  ·replace hh := iteO_f h110 hh
   replace h110 := of_decide_eq_false h110
   refine TL.f z (TL.f z (TL.w z (pickFB z z z) (TL.en (TC.f z (TC.exit (S.x (S.x ?_)))))))
   replace hh := fin_x hR1 hh
   exact TC.exitHere (S.n (cf (i108, ()) hh (Sub.pre 1 z)))
 ·skip
  obtain ⟨i103, _⟩ := g
  have hh := hg; clear hg
  try dsimp only
  dsimp only [Bi_] at hh
  refine TC.a (TL.w z (loadAll z ag25 sz25 z (i := 0) z z) ?_)
  obtain ⟨v29, u29, hh⟩ := bnd_e hh
  refine TL.op z (callP (Fl_ (x0 := x0) f0_0 f0_1 f0_2 u29) z z pf21 z z z ?_)
  refine TL.j z z (TL.split 28 z (fun h115 => ?_) (fun h115 => ?_))
  ·replace hh := iteO_t h115 hh
   refine TL.g z (fieldLoc z fo25_3 z) (TL.g z (loadLoc z ag23 z (i := 0) z z) (TL.g z (lenC z underlying23 z) (TL.g z (OpVal.leq z z z) (TL.w z (pickTB z z z) (TL.j z z (TL.split 34 z (fun h116 => ?_) (fun h116 => ?_)))))))
   ·replace hh := iteO_t h116 hh
    replace h116 := of_decide_eq_true h116
    refine TL.g z (fieldLoc z fo25_0 z) (TL.g z (loadLoc z ag3 z (i := 0) z z) (TL.g z (OpVal.leq z z z) (TL.g z (moveB (.inl z) z) (TL.split 38 z (fun h117 => ?_) (fun h117 => ?_)))))
    ·replace hh := iteO_t h117 hh
     replace h117 := of_decide_eq_true h117
     refine TL.f z (TL.f z (TL.f z (TL.g z (pickTB z z z) (TL.w z (pickTB z z z) (TL.j z z (TL.g z (moveI (.inl z) z) (TL.g z (OpVal.leq z z z) (TL.w z (pickTB z z z) (TL.j z z (TL.en (TC.rt 0 ?_)))))))))))
     obtain rfl := so hh
     exact rq [2] ⟨z, z, z⟩
    ·replace hh := iteO_f h117 hh
     replace h117 := of_decide_eq_false h117
     refine TL.g z (fieldLoc z fo25_0 z) (TL.g z (loadLoc z ag3 z (i := 0) z z) (TL.g z (OpVal.gtr z z z) (TL.g z (pickFB z z z) (TL.w z (pickTB z z z) (TL.j z z (TL.split 44 z (fun h118 => ?_) (fun h118 => ?_)))))))
     ·replace hh := iteO_t h118 hh
      replace h118 := of_decide_eq_true h118
      refine TL.g z (moveI (.inl z) z) (TL.g z (OpVal.leq z z z) (TL.w z (pickTB z z z) (TL.j z z (TL.en (TC.rt 0 ?_)))))
      obtain rfl := so hh
      exact rq [2] ⟨z, z, z⟩
     ·replace hh := iteO_f h118 hh
      replace h118 := of_decide_eq_false h118
      refine TL.f z (TL.f z (TL.w z (pickFB z z z) (TL.j z z (TL.en (TC.rt 0 ?_)))))
      obtain rfl := so hh
      exact rq [2] ⟨z, z, z⟩
   ·replace hh := iteO_f h116 hh
    replace h116 := of_decide_eq_false h116
    refine TL.f z (TL.f z (TL.f z (TL.f z (TL.f z (TL.f z (TL.f z (TL.f z (TL.w z (pickFB z z z) (TL.j z z (TL.f z (TL.f z (TL.w z (pickFB z z z) (TL.j z z (TL.en (TC.rt 0 ?_)))))))))))))))
    obtain rfl := so hh
    exact rq [2] ⟨z, z, z⟩
  ·replace hh := iteO_f h115 hh
   refine TL.f z (TL.f z (TL.f z (TL.f z (TL.w z (pickFB z z z) (TL.j z z (TL.f z (TL.f z (TL.f z (TL.f z (TL.f z (TL.f z (TL.f z (TL.f z (TL.w z (pickFB z z z) (TL.j z z (TL.f z (TL.f z (TL.w z (pickFB z z z) (TL.j z z (TL.en (TC.rt 0 ?_)))))))))))))))))))))
   obtain rfl := so hh
   exact rq [2] ⟨z, z, z⟩
end Go.Proofs.YtcaaiphgikpgjaaGreatDoor
end

section
namespace Go.Proofs.YtcaaiphgikpgjaaGreatDoor
open Go Go.E Go.E.OpVal Go.E.OpOk
end Go.Proofs.YtcaaiphgikpgjaaGreatDoor
end

section
namespace Go.Proofs.YtcaaiphgikpgjaaGreatDoor
open Go Go.E
end Go.Proofs.YtcaaiphgikpgjaaGreatDoor
end

section
namespace Go.Proofs.YtcaaiphgikpgjaaGreatDoor
open Go Go.E Go.E.OpVal Go.E.OpOk
end Go.Proofs.YtcaaiphgikpgjaaGreatDoor
end

section
namespace Go.Proofs.YtcaaiphgikpgjaaGreatDoor
open Go Go.E Go.E.OpVal Go.E.OpOk
end Go.Proofs.YtcaaiphgikpgjaaGreatDoor
end

section
namespace Go.E
open Go
end Go.E
end

section
namespace Go.Proofs.YtcaaiphgikpgjaaGreatDoor
open Go Go.E Go.E.OpVal Go.E.OpOk
end Go.Proofs.YtcaaiphgikpgjaaGreatDoor
end

section
namespace Go.Proofs.YtcaaiphgikpgjaaGreatDoor
open Go Go.E Go.E.OpVal Go.E.OpOk Go.Proofs.Tryz
private theorem pf22 : Go.E.plainF Tryz.prog 22 = true := by kernel_rfl
private theorem pf23 : Go.E.plainF Tryz.prog 23 = true := by kernel_rfl
private theorem pf7 : Go.E.plainF Tryz.prog 7 = true := by kernel_rfl
private theorem pl25 : Go.E.plOf Tryz.prog 25 = some #[(0, 1), (1, 1), (2, 1), (3, 1)] := by kernel_rfl
private theorem pl41 : Go.E.plOf Tryz.prog 41 = some #[(0, 1), (1, 1)] := by kernel_rfl
private theorem pl59 : Go.E.plOf Tryz.prog 59 = some #[(0, 1), (1, 1), (2, 4), (6, 1), (7, 1)] := by kernel_rfl
private theorem sz23 : Go.E.szOf Tryz.prog 23 = some 1 := by kernel_rfl
private theorem sz41 : Go.E.szOf Tryz.prog 41 = some 2 := by kernel_rfl
private theorem ze25 : Go.E.zeroOf Tryz.prog 25 = some (.agg #[.int .i64 0, .slice none 0 0, .slice none 0 0, .slice none 0 0]) := by kernel_rfl
private theorem ze41 : Go.E.zeroOf Tryz.prog 41 = some (.agg #[.int .i64 0, .string ByteArray.empty]) := by kernel_rfl
private theorem ze59 : Go.E.zeroOf Tryz.prog 59 = some (.agg #[.int .i64 0, .int .i64 0, .int .u64 0, .int .u64 0, .int .u64 0, .int .u64 0, .string ByteArray.empty, .bool false]) := by kernel_rfl
noncomputable def Ab_ : Option (Bool) :=
 grd ([(97 : UInt8)].length ≤ 1000000000000) (grd ([(97 : UInt8)].length ≤ 1000000000000) (bnd (B9_ (⟨2, [(⟨0, ([] : List UInt8)⟩ : Tip)], [(⟨1, ([] : List UInt8)⟩ : Tip)], [(⟨0, 1, (BSet.ofL [(97 : UInt8)]), ([120] : List UInt8), false⟩ : Arc), (⟨0, 1, (BSet.ofL [(97 : UInt8)]), ([121] : List UInt8), false⟩ : Arc)]⟩ : Fst)) (fun v17 => bnd (D7_ (⟨2, [(⟨0, ([] : List UInt8)⟩ : Tip)], [(⟨1, ([] : List UInt8)⟩ : Tip)], [(⟨0, 1, (BSet.ofL [(97 : UInt8)]), ([120] : List UInt8), false⟩ : Arc), (⟨0, 1, (BSet.ofL [(97 : UInt8)]), ([121] : List UInt8), false⟩ : Arc)]⟩ : Fst)) (fun v24 => grd (1 ≤ [(⟨0, 1, (BSet.ofL [(97 : UInt8)]), ([120] : List UInt8), false⟩ : Arc), (⟨0, 1, (BSet.ofL [(97 : UInt8)]), ([121] : List UInt8), false⟩ : Arc)].length) (bnd (B9_ (⟨2, [(⟨0, ([] : List UInt8)⟩ : Tip)], [(⟨1, ([] : List UInt8)⟩ : Tip)], ([(⟨0, 1, (BSet.ofL [(97 : UInt8)]), ([120] : List UInt8), false⟩ : Arc), (⟨0, 1, (BSet.ofL [(97 : UInt8)]), ([121] : List UInt8), false⟩ : Arc)].take 1)⟩ : Fst)) (fun v38 => iteO (!v17.1) (iteO (decide (v17.2 = 0)) (iteO (decide (v24.1 = ([97] : List UInt8))) (iteO v24.2.1 (iteO (decide (v24.2.2 = v17.2)) (iteO v38.1 (some (decide (v38.2 = v17.2))) (some false)) (some false)) (some false)) (some false)) (some false)) (some false)))))))
set_option maxHeartbeats 8000000 in
theorem Ax_ {σ : Store}  (hgl : GT σ 1 encU8 deB) {r : Bool} (hh : Ab_ = some r) :
  Con Tryz.prog 8 #[] σ [] (PureP (.bool r) σ) := by
 dsimp only [Ab_] at hh
 refine Con.mk (n := 67) Tryz.func8 z z z (fun w0 => ?_)
 refine TC.a (TL.j z z (TL.en (TC.a (TL.w z (buildL z pl41 ze41 z) (TL.op z (OpOk.lit (enc := encTip) [(⟨0, ([] : List UInt8)⟩ : Tip)] z underlying22 sz41 ze41 z z z encTip_len (by decide) (by decide) Tip.zero z (by decide) z (by decide) encTip_one (fun a101 c102 => ?_)))))))
 refine TL.w z (buildL z pl41 ze41 z) (TL.op z (OpOk.lit (enc := encTip) [(⟨1, ([] : List UInt8)⟩ : Tip)] z underlying22 sz41 ze41 z z z encTip_len (by decide) (by decide) Tip.zero z (by decide) z (by decide) encTip_one (fun a104 c105 => ?_)))
 refine TL.op z (OpOk.lit (enc := encU8) [(97 : UInt8)] z underlying53 sz5 ze5 z z z encU8_len (by decide) (by decide) (0 : UInt8) z (by decide) z (by decide) encU8_one (fun a107 c108 => ?_))
 have u7 := grd_c hh
 replace hh := grd_t hh
 refine TL.op z (callT (of_con _ _ _ [(97 : UInt8)] u7) z z pf23 z z z z ?_)
 refine TL.w z (buildL z pl59 ze59 z) (TL.op z (OpOk.lit (enc := encU8) [(97 : UInt8)] z underlying53 sz5 ze5 z z z encU8_len (by decide) (by decide) (0 : UInt8) z (by decide) z (by decide) encU8_one (fun a110 c111 => ?_)))
 have u10 := grd_c hh
 replace hh := grd_t hh
 refine TL.op z (callT (of_con _ _ _ [(97 : UInt8)] u10) z z pf23 z z z z ?_)
 refine TL.w z (buildL z pl59 ze59 z) (TL.op z (OpOk.lit (enc := encArc) [(⟨0, 1, (BSet.ofL [(97 : UInt8)]), ([120] : List UInt8), false⟩ : Arc), (⟨0, 1, (BSet.ofL [(97 : UInt8)]), ([121] : List UInt8), false⟩ : Arc)] z underlying23 sz59 ze59 z z z encArc_len (by decide) (by decide) Arc.zero z (by decide) z (by decide) encArc_one (fun a113 c114 => ?_)))
 refine TL.w z (buildL z pl25 ze25 z) (TL.op z (OpOk.alloc z ze25 z z (fun b116 => ?_)))
 refine TL.op z (storeAll z sz25 z z z z z z ?_)
 refine TL.en (TC.a (TL.w z (loadAll z ag25 sz25 z (i := 0) z z) ?_))
 obtain ⟨v17, u17, hh⟩ := bnd_e hh
 refine TL.front 1 z z (TL.front 2 z z (TL.front 3 z z (TL.op z (callK (Con.lend encTip_len (fun _ hle121 hr118 => Con.lend encTip_len (fun _ hle122 hr119 => Con.lend encArc_len (fun _ hle123 hr120 => Ds_ (x0 := (⟨2, [(⟨0, ([] : List UInt8)⟩ : Tip)], [(⟨1, ([] : List UInt8)⟩ : Tip)], [(⟨0, 1, (BSet.ofL [(97 : UInt8)]), ([120] : List UInt8), false⟩ : Arc), (⟨0, 1, (BSet.ofL [(97 : UInt8)]), ([121] : List UInt8), false⟩ : Arc)]⟩ : Fst)) (((hgl.mono hle121).mono hle122).mono hle123) ((hr118.mono hle122).mono hle123) (hr119.mono hle123) hr120 u17)))) z z pf7 z z z z ?_))))
 refine TL.w z (moveT (.inl z) z) (TL.w z (OpVal.extract z z z) (TL.w z (OpVal.extract z z z) (TL.j z z (TL.i z z (TL.en (TC.a (TL.w z (loadAll z ag25 sz25 z (i := 3) z z) ?_)))))))
 obtain ⟨v24, u24, hh⟩ := bnd_e hh
 refine TL.front 2 z z (TL.front 2 z z (TL.front 2 z z (TL.op z (callK (Con.lend encTip_len (fun _ hle127 hr124 => Con.lend encTip_len (fun _ hle128 hr125 => Con.lend encArc_len (fun _ hle129 hr126 => F1_ (x0 := (⟨2, [(⟨0, ([] : List UInt8)⟩ : Tip)], [(⟨1, ([] : List UInt8)⟩ : Tip)], [(⟨0, 1, (BSet.ofL [(97 : UInt8)]), ([120] : List UInt8), false⟩ : Arc), (⟨0, 1, (BSet.ofL [(97 : UInt8)]), ([121] : List UInt8), false⟩ : Arc)]⟩ : Fst)) (((hgl.mono hle127).mono hle128).mono hle129) ((hr124.mono hle128).mono hle129) (hr125.mono hle129) hr126 u24)))) z z pf22 z z z z ?_))))
 refine TL.w z (moveT (.inl z) z) (TL.w z (OpVal.extract z z z) (TL.w z (OpVal.extract z z z) (TL.w z (OpVal.extract z z z) (TL.w z (moveStr (.inr z) z) (TL.j z z (TL.i z z (TL.en (TC.a (TL.w z (fieldLoc z fo25_3 z) (TL.w z (loadLoc z ag23 z (i := 3) z z) (TL.front 2 z z ?_)))))))))))
 have u34 := grd_c hh
 replace hh := grd_t hh
 refine TL.op z (cutS (i := 1) z underlying23 sz59 z z z z z (by omega) encArc_len ?_)
 refine TL.w z (fieldLoc z fo25_3 z) (TL.front 3 z z (TL.op z (storeSl z sz23 z z z z z ?_)))
 refine TL.en (TC.a (TL.w z (loadAll z ag25 sz25 z (i := 0) z z) ?_))
 obtain ⟨v38, u38, hh⟩ := bnd_e hh
 refine TL.front 1 z z (TL.front 3 z z (TL.front 3 z z (TL.op z (callK (Con.lend encTip_len (fun _ hle133 hr130 => Con.lend encTip_len (fun _ hle134 hr131 => Con.lend encArc_len (fun _ hle135 hr132 => Ds_ (x0 := (⟨2, [(⟨0, ([] : List UInt8)⟩ : Tip)], [(⟨1, ([] : List UInt8)⟩ : Tip)], ([(⟨0, 1, (BSet.ofL [(97 : UInt8)]), ([120] : List UInt8), false⟩ : Arc), (⟨0, 1, (BSet.ofL [(97 : UInt8)]), ([121] : List UInt8), false⟩ : Arc)].take 1)⟩ : Fst)) (((hgl.mono hle133).mono hle134).mono hle135) ((hr130.mono hle134).mono hle135) (hr131.mono hle135) hr132 u38)))) z z pf7 z z z z ?_))))
 refine TL.w z (moveT (.inl z) z) (TL.w z (OpVal.extract z z z) (TL.w z (OpVal.extract z z z) (TL.j z z (TL.i z z (TL.en (TC.a (TL.j z z (TL.w z (OpVal.not z z) (TL.j z z (TL.split 43 z (fun h136 => ?_) (fun h136 => ?_)))))))))))
 ·replace hh := iteO_t h136 hh
  refine TL.g z (moveI (.inl z) z) (TL.g z (OpVal.eql z z z) (TL.w z (pickTB z z z) (TL.j z z (TL.split 47 z (fun h137 => ?_) (fun h137 => ?_)))))
  ·replace hh := iteO_t h137 hh
   replace h137 := of_decide_eq_true h137
   refine TL.g z (moveStr (.inl z) z) (TL.g z (eqlBs z z z) (TL.w z (pickTB z z z) (TL.j z z (TL.split 51 z (fun h138 => ?_) (fun h138 => ?_)))))
   ·replace hh := iteO_t h138 hh
    replace h138 := of_decide_eq_true h138
    refine TL.g z (moveB (.inl z) z) (TL.w z (pickTB z z z) (TL.j z z (TL.split 54 z (fun h139 => ?_) (fun h139 => ?_))))
    ·replace hh := iteO_t h139 hh
     refine TL.g z (moveI (.inl z) z) (TL.g z (moveI (.inl z) z) (TL.g z (OpVal.eql z z z) (TL.w z (pickTB z z z) (TL.j z z (TL.split 59 z (fun h140 => ?_) (fun h140 => ?_))))))
     ·replace hh := iteO_t h140 hh
      replace h140 := of_decide_eq_true h140
      refine TL.g z (moveB (.inl z) z) (TL.w z (pickTB z z z) (TL.j z z (TL.split 62 z (fun h141 => ?_) (fun h141 => ?_))))
      ·replace hh := iteO_t h141 hh
       refine TL.g z (moveI (.inl z) z) (TL.g z (moveI (.inl z) z) (TL.g z (OpVal.eql z z z) (TL.w z (pickTB z z z) (TL.j z z (TL.en (TC.rt 0 ?_))))))
       obtain rfl := so hh
       exact rq [0] ⟨z, z, z⟩
      ·replace hh := iteO_f h141 hh
       refine TL.f z (TL.f z (TL.f z (TL.w z (pickFB z z z) (TL.j z z (TL.en (TC.rt 0 ?_))))))
       obtain rfl := so hh
       exact rq [0] ⟨z, z, z⟩
     ·replace hh := iteO_f h140 hh
      replace h140 := of_decide_eq_false h140
      refine TL.f z (TL.w z (pickFB z z z) (TL.j z z (TL.f z (TL.f z (TL.f z (TL.w z (pickFB z z z) (TL.j z z (TL.en (TC.rt 0 ?_)))))))))
      obtain rfl := so hh
      exact rq [0] ⟨z, z, z⟩
    ·replace hh := iteO_f h139 hh
     refine TL.f z (TL.f z (TL.f z (TL.w z (pickFB z z z) (TL.j z z (TL.f z (TL.w z (pickFB z z z) (TL.j z z (TL.f z (TL.f z (TL.f z (TL.w z (pickFB z z z) (TL.j z z (TL.en (TC.rt 0 ?_))))))))))))))
     obtain rfl := so hh
     exact rq [0] ⟨z, z, z⟩
   ·replace hh := iteO_f h138 hh
    replace h138 := of_decide_eq_false h138
    refine TL.f z (TL.w z (pickFB z z z) (TL.j z z (TL.f z (TL.f z (TL.f z (TL.w z (pickFB z z z) (TL.j z z (TL.f z (TL.w z (pickFB z z z) (TL.j z z (TL.f z (TL.f z (TL.f z (TL.w z (pickFB z z z) (TL.j z z (TL.en (TC.rt 0 ?_)))))))))))))))))
    obtain rfl := so hh
    exact rq [0] ⟨z, z, z⟩
  ·replace hh := iteO_f h137 hh
   replace h137 := of_decide_eq_false h137
   refine TL.f z (TL.f z (TL.w z (pickFB z z z) (TL.j z z (TL.f z (TL.w z (pickFB z z z) (TL.j z z (TL.f z (TL.f z (TL.f z (TL.w z (pickFB z z z) (TL.j z z (TL.f z (TL.w z (pickFB z z z) (TL.j z z (TL.f z (TL.f z (TL.f z (TL.w z (pickFB z z z) (TL.j z z (TL.en (TC.rt 0 ?_)))))))))))))))))))))
   obtain rfl := so hh
   exact rq [0] ⟨z, z, z⟩
 ·replace hh := iteO_f h136 hh
  refine TL.f z (TL.f z (TL.w z (pickFB z z z) (TL.j z z (TL.f z (TL.f z (TL.w z (pickFB z z z) (TL.j z z (TL.f z (TL.w z (pickFB z z z) (TL.j z z (TL.f z (TL.f z (TL.f z (TL.w z (pickFB z z z) (TL.j z z (TL.f z (TL.w z (pickFB z z z) (TL.j z z (TL.f z (TL.f z (TL.f z (TL.w z (pickFB z z z) (TL.j z z (TL.en (TC.rt 0 ?_)))))))))))))))))))))))))
  obtain rfl := so hh
  exact rq [0] ⟨z, z, z⟩
end Go.Proofs.YtcaaiphgikpgjaaGreatDoor
end

section
namespace Go.Proofs.YtcaaiphgikpgjaaGreatDoor
open Go Go.E
def tA : Fst := ⟨2, [⟨0, []⟩], [⟨1, []⟩], [⟨0, 1, BSet.ofL [97], [120], false⟩, ⟨0, 1, BSet.ofL [97], [121], false⟩]⟩
def tB : Fst := ⟨2, [⟨0, []⟩], [⟨1, []⟩], [⟨0, 1, BSet.ofL [97], [120], false⟩]⟩
theorem tA_b : fstB tA = true := by kernel_rfl
theorem tB_b : fstB tB = true := by kernel_rfl
theorem uA0 : useB tA 0 = true := useB_iff.2 ⟨.base ⟨⟨0, []⟩, by simp [tA], rfl⟩, .step (a := 1) (.base ⟨⟨1, []⟩, by simp [tA], rfl⟩) ⟨⟨0, 1, BSet.ofL [97], [120], false⟩, by simp [tA], rfl, rfl⟩⟩
theorem uA1 : useB tA 1 = true := useB_iff.2 ⟨.step (a := 0) (.base ⟨⟨0, []⟩, by simp [tA], rfl⟩) ⟨⟨0, 1, BSet.ofL [97], [120], false⟩, by simp [tA], rfl, rfl⟩, .base ⟨⟨1, []⟩, by simp [tA], rfl⟩⟩
theorem uB0 : useB tB 0 = true := useB_iff.2 ⟨.base ⟨⟨0, []⟩, by simp [tB], rfl⟩, .step (a := 1) (.base ⟨⟨1, []⟩, by simp [tB], rfl⟩) ⟨⟨0, 1, BSet.ofL [97], [120], false⟩, by simp [tB], rfl, rfl⟩⟩
theorem uB1 : useB tB 1 = true := useB_iff.2 ⟨.step (a := 0) (.base ⟨⟨0, []⟩, by simp [tB], rfl⟩) ⟨⟨0, 1, BSet.ofL [97], [120], false⟩, by simp [tB], rfl, rfl⟩, .base ⟨⟨1, []⟩, by simp [tB], rfl⟩⟩
theorem keepA_of {p : Nat → Bool} (h0 : p 0 = true) (h1 : p 1 = true) : keepF p tA = tA := by
 have n0 : numB p 0 = 0 := by unfold numB; rw [show (0 : Int).toNat = 0 from rfl, h0]; rfl
 have n1 : numB p 1 = 1 := by unfold numB; rw [show (1 : Int).toNat = 1 from rfl, h1]; simp [cntB, h0]
 have c2 : cntB p 2 = 2 := by simp [cntB, h0, h1]
 show (⟨((cntB p 2 : Nat) : Int), _, _, _⟩ : Fst) = _
 rw [c2]
 simp only [tA, keepT, keepA, List.filterMap_cons, List.filterMap_nil, n0, n1]
 rfl
theorem keepB_of {p : Nat → Bool} (h0 : p 0 = true) (h1 : p 1 = true) : keepF p tB = tB := by
 have n0 : numB p 0 = 0 := by unfold numB; rw [show (0 : Int).toNat = 0 from rfl, h0]; rfl
 have n1 : numB p 1 = 1 := by unfold numB; rw [show (1 : Int).toNat = 1 from rfl, h1]; simp [cntB, h0]
 have c2 : cntB p 2 = 2 := by simp [cntB, h0, h1]
 show (⟨((cntB p 2 : Nat) : Int), _, _, _⟩ : Fst) = _
 rw [c2]
 simp only [tB, keepT, keepA, List.filterMap_cons, List.filterMap_nil, n0, n1]
 rfl
theorem trimA : trimD tA = tA := by
 unfold trimD
 rw [keepA_of uA0 uA1]
 unfold srt
 rw [Ep_ cmpTip_good (show tA.starts.Pairwise _ from List.pairwise_singleton ..), Ep_ cmpTip_good (show tA.ends.Pairwise _ from List.pairwise_singleton ..), Ep_ cmpArc_good (show tA.arcs.Pairwise _ from List.Pairwise.cons (fun y hy => by rw [List.mem_singleton.1 hy]; decide +kernel) (List.pairwise_singleton ..))]
theorem trimB : trimD tB = tB := by
 unfold trimD
 rw [keepB_of uB0 uB1]
 unfold srt
 rw [Ep_ cmpTip_good (show tB.starts.Pairwise _ from List.pairwise_singleton ..), Ep_ cmpTip_good (show tB.ends.Pairwise _ from List.pairwise_singleton ..), Ep_ cmpArc_good (show tB.arcs.Pairwise _ from List.pairwise_singleton ..)]
theorem has97 : ∀ n : Fin 256, (BSet.ofL [97]).has n.val = true → n.val = 97 := by decide +kernel
theorem rel_a {T : Fst} (hs : T.starts = [⟨0, []⟩]) (he : T.ends = [⟨1, []⟩]) (ha : ∀ a ∈ T.arcs, a.frm = 0 ∧ a.to = 1 ∧ a.set = BSet.ofL [97] ∧ a.copy = false) {w o : List UInt8} (h : Rel T w o) : w = [97] ∧ ∃ a ∈ T.arcs, o = a.out := by
 obtain ⟨x, hx, e, he', m, hw, rfl⟩ := h
 rw [hs] at hx
 rw [he] at he'
 obtain rfl := List.mem_singleton.1 hx
 obtain rfl := List.mem_singleton.1 he'
 cases w with
 | nil => exact absurd hw.nil_inv.2 (by decide)
 | cons b w =>
  obtain ⟨a, ha1, e1, b1, o1, k1, rfl⟩ := hw.cons_inv
  obtain ⟨f1, f2, f3, f4⟩ := ha a ha1
  rw [f2] at k1
  cases w with
  | nil =>
   rw [f3] at b1
   have hb := has97 ⟨b.toNat, b.toNat_lt⟩ b1
   have : b = 97 := UInt8.toNat.inj hb
   rw [this, k1.nil_inv.1]
   refine ⟨rfl, a, ha1, ?_⟩
   unfold em
   rw [f4]; simp
  | cons c w =>
   obtain ⟨a2, ha2, e2, _⟩ := k1.cons_inv
   rw [(ha a2 ha2).1] at e2
   exact absurd e2 (by decide)
theorem relA_of {a : Arc} (ha : a ∈ tA.arcs) (h0 : a.frm = 0) (h1 : a.to = 1) (hb : a.set.has (97 : UInt8).toNat = true) (hc : a.copy = false) : Rel tA [97] a.out := by
 refine ⟨⟨0, []⟩, List.mem_singleton.2 rfl, ⟨1, []⟩, List.mem_singleton.2 rfl, em a 97 ++ [], ?_, by unfold em; rw [hc]; simp⟩
 have := Wy.cons (t := tA) a 97 ha hb (o := []) (q := 1) (w := []) (by rw [h1]; exact .nil _)
 rw [h0] at this
 exact this
theorem arcsA : ∀ a ∈ tA.arcs, a.frm = 0 ∧ a.to = 1 ∧ a.set = BSet.ofL [97] ∧ a.copy = false := fun a ha => by
 rcases List.mem_cons.1 ha with rfl | ha
 ·exact ⟨rfl, rfl, rfl, rfl⟩
 ·rw [List.mem_singleton.1 ha]; exact ⟨rfl, rfl, rfl, rfl⟩
theorem givesA : Gives tA [97] := ⟨[120], [121], by decide, relA_of (List.mem_cons_self ..) rfl rfl (by decide +kernel) rfl, relA_of (List.mem_cons_of_mem _ (List.mem_cons_self ..)) rfl rfl (by decide +kernel) rfl⟩
theorem twoA : D7_ tA = some ([97], true, 0) := by
 obtain ⟨r, e, hr⟩ := two_eq tA
 rw [e]
 rcases hr with ⟨h, _⟩ | ⟨_, h, _⟩ | ⟨_, _, hr⟩
 ·rw [tA_b] at h; cases h
 ·rw [trimA] at h; exact absurd h (by decide)
 ·rw [trimA] at hr
  rcases hr with ⟨w, rfl, ⟨o1, o2, _, h1, _⟩, _⟩ | ⟨_, hg⟩
  ·rw [(rel_a rfl rfl arcsA h1).1]
  ·exact absurd givesA (hg.none _)
theorem twoB : D7_ tB = some ([], false, 0) := by
 obtain ⟨r, e, hr⟩ := two_eq tB
 rw [e]
 rcases hr with ⟨h, _⟩ | ⟨_, h, _⟩ | ⟨_, _, hr⟩
 ·rw [tB_b] at h; cases h
 ·rw [trimB] at h; exact absurd h (by decide)
 ·rw [trimB] at hr
  rcases hr with ⟨w, rfl, ⟨o1, o2, hne, h1, h2⟩, _⟩ | ⟨rfl, hg⟩
  ·have ha : ∀ a ∈ tB.arcs, a.frm = 0 ∧ a.to = 1 ∧ a.set = BSet.ofL [97] ∧ a.copy = false := fun a ha => by
    rw [List.mem_singleton.1 ha]; exact ⟨rfl, rfl, rfl, rfl⟩
   obtain ⟨_, a, a1, a2⟩ := rel_a rfl rfl ha h1
   obtain ⟨_, b, b1, b2⟩ := rel_a rfl rfl ha h2
   refine absurd ?_ hne
   rw [a2, b2, List.mem_singleton.1 a1, List.mem_singleton.1 b1]
  ·rfl
theorem awake19 : Ab_ = some true := by
 unfold Ab_
 rw [grd_mk (by decide), grd_mk (by decide)]
 show bnd (B9_ tA) (fun v17 => bnd (D7_ tA) fun v24 => grd (1 ≤ tA.arcs.length) (bnd (B9_ tB) _)) = _
 unfold B9_
 rw [twoA, twoB]
 rfl
end Go.Proofs.YtcaaiphgikpgjaaGreatDoor
end

section
namespace Go.E
open Go
structure Grow where
  f : Fst
  over : Bool
end Go.E
end

section
namespace Go.E
open Go
def TB (X : Ctx) (R : Exit → Act → World → Prop) (c : Code) (e : Env) (σ : Store) (H : List Res) : Prop :=
  ∀ w a, RM X a σ w H → St X.n e a → c.wpIn (fence X.rnd) 0 X.P R a w
def TLB (X : Ctx) (ops : Array Oper) (R : Exit → Act → World → Prop) (l : List Oper) (e : Env) (σ : Store) (H : List Res) : Prop :=
  ∀ w a, RM X a σ w H → St X.n e a → wpListIn (fence X.rnd) 0 X.P ops R l a w
def endE (w0 : World) (C : List Nat) (σ0 : Store) (Post : Value → Store → List Res → Prop) : Ending → World → Prop :=
  fun e w' => ∃ r σ' H', e = .returned r ∧ Post r σ' H' ∧ Reach w0 C σ0 σ' w' H'
def endR (P : Program) (fn : Func) (w0 : World) (C : List Nat) (σ0 : Store) (Post : Value → Store → List Res → Prop) : Exit → Act → World → Prop :=
  bodyPostM (fence none) 0 P fn (endE w0 C σ0 Post)
theorem startSt {args : List Value} {n : Nat} {fn : Func} (hn : fn.ntmps = n) (ha : Nat.ble args.length n = true) : St n (argEnv args) { tmps := args.toArray ++ Array.replicate (fn.ntmps - args.toArray.size) undef, defers := [] } := by
  have := Nat.le_of_ble_eq_true ha
  refine ⟨?_, fun t => ?_⟩
  · simp [hn]; omega
  · simp only [Array.getD_eq_getD_getElem?, Array.getElem?_append, argEnv, List.getElem?_toArray, List.size_toArray, Array.getElem?_replicate]
    split
    · rfl
    · rename_i hlt
      rw [List.getElem?_eq_none (by omega)]
      split <;> rfl
theorem MarksOk.start {w0 : World} {σ : Store} {H : List Res} {w : World} : MarksOk w0 none (some []) [] σ H w := ⟨(fun h => by cases h), (fun _ h => by cases h; rfl), fun _ h => by cases h⟩
theorem Con.mkD {P : Program} {f : FuncId} {fn : Func} {c : Code} {args : List Value} {n : Nat} {σ : Store} {H : List Res} {Post : Value → Store → List Res → Prop}
    (hf : P.funcs[f]? = some fn) (hb : fn.body = some c) (hn : fn.ntmps = n) (ha : Nat.ble args.length n = true)
    (h : ∀ w0, TB ⟨P, w0, blks H, σ, n, none, some []⟩ (endR P fn w0 (blks H) σ Post) c (argEnv args) σ H) : Con P f args.toArray σ H Post := by
  intro w hw
  exact calls_fence.1 (callsIn_of_wp_marks (F := fence none) (n := 0) hf hb trivial (h w w _ ⟨hw, MarksOk.start⟩ (startSt hn ha)))
def ConD (P : Program) (f : FuncId) (args : Array Value) (σ : Store) (H : List Res) (Post : Value → Store → List Res → Prop) : Prop :=
  ∀ w, Reach w (blks H) σ σ w H → CallsDIn (fence none) 0 P f args .returning w fun e u w' => u = .returning ∧ ∃ r σ' H', e = .returned r ∧ Post r σ' H' ∧ Reach w (blks H) σ σ' w' H'
theorem ConD.mono {P : Program} {f : FuncId} {args : Array Value} {σ : Store} {H : List Res} {Post Post' : Value → Store → List Res → Prop}
    (h : ConD P f args σ H Post) (hp : ∀ r σ' H', σ.le σ' → Post r σ' H' → Post' r σ' H') : ConD P f args σ H Post' := fun w hw =>
  (h w hw).mono fun _ _ _ ⟨h0, r, σ', H', h1, h2, h3⟩ => ⟨h0, r, σ', H', h1, hp _ _ _ h3.le h2, h3⟩
theorem ConD.mk {P : Program} {f : FuncId} {fn : Func} {c : Code} {args : List Value} {n : Nat} {σ : Store} {H : List Res} {Post : Value → Store → List Res → Prop}
    (hf : P.funcs[f]? = some fn) (hb : fn.body = some c) (hn : fn.ntmps = n) (ha : Nat.ble args.length n = true)
    (h : ∀ w0, TC ⟨P, w0, blks H, σ, n, none, some []⟩ (retQ P fn n Post) c (argEnv args) σ H) : ConD P f args.toArray σ H Post := by
  intro w hw
  refine callsDIn_of_wp hf hb trivial (Go.wpIn_mono (h w w _ ⟨hw, MarksOk.start⟩ (startSt hn ha)) ?_)
  rintro ex a w' ⟨e', σ', H', h1, h2, ⟨hex, r, H'', h3, h4, h5⟩⟩
  have hd : a.defers = [] := h2.marks.is _ rfl
  have hfin : a.defers = [] ∧ ∃ v, (results fn a.tmps).run P w' = .ok v w' ∧ (∃ r σ' H', Ending.returned v = .returned r ∧ Post r σ' H' ∧ Reach w (blks H) σ σ' w' H') :=
    ⟨hd, r, h3 w' a h1 h2.holds, r, σ', H'', rfl, h5, h2.toReach.sub h4⟩
  rcases hex with rfl | rfl
  · exact hfin
  · exact hfin
section rules
variable {X : Ctx} {ops : Array Oper} {R : Exit → Act → World → Prop} {Q : QP} {e : Env} {σ : Store} {H F : List Res} {o : Oper} {rest : List Oper} {c c1 c2 : Code} {fn : Func} {Post : Value → Store → List Res → Prop}
theorem endR_ret {P : Program} {w0 : World} {C : List Nat} {σ0 : Store} {n : Nat} : ∀ ex a w, low ⟨P, w0, C, σ0, n, none, some []⟩ (retQ P fn n Post) ex a w → endR P fn w0 C σ0 Post ex a w := by
  rintro ex a w ⟨e, σ, H, h1, h2, ⟨hex, r, H', h3, h4, h5⟩⟩
  have hd : a.defers = [] := h2.marks.is _ rfl
  have hfin : LeavesInM (fence none) 0 P fn a.tmps (endE w0 C σ0 Post) a.defers .returning w := by
    rw [hd]; exact ⟨r, h3 w a h1 h2.holds, r, σ, H', rfl, h5, h2.toReach.sub h4⟩
  rcases hex with rfl | rfl
  · exact hfin
  · exact hfin
def dfrQ (P : Program) (fn : Func) (n : Nat) (Post : Value → Store → List Res → Prop) (f : FuncId) (args : List Value) : QP := fun ex e σ H =>
  (ex = .ret ∨ ex = .normal) ∧ ∃ F, Sub F H ∧ ConD P f args.toArray σ F fun _ σ' H' => RetOk P fn n Post .ret e σ' H'
theorem endR_dfr {P : Program} {w0 : World} {C : List Nat} {σ0 : Store} {n : Nat} {f : FuncId} {cap dargs : List Value} (hp : plainF P f = true) :
    ∀ ex a w, low ⟨P, w0, C, σ0, n, none, some [⟨.fn (.func f) cap.toArray, dargs.toArray⟩]⟩ (dfrQ P fn n Post f (dargs ++ cap)) ex a w → endR P fn w0 C σ0 Post ex a w := by
  rintro ex a w ⟨e, σ, H, h1, h2, hex, F, hs, hcon⟩
  have hd : a.defers = [⟨.fn (.func f) cap.toArray, dargs.toArray⟩] := h2.marks.is _ rfl
  have h3 : Reach w0 C σ0 σ w F := h2.toReach.ofSub hs
  have hfin : LeavesInM (fence none) 0 P fn a.tmps (endE w0 C σ0 Post) a.defers .returning w := by
    rw [hd]
    refine ⟨by simp, .inr ⟨(fun h => by cases h), .func f, cap.toArray, f, (dargs ++ cap).toArray, rfl, ?_, (fun _ _ => trivial), (hcon w h3.self).mono ?_⟩⟩
    · simp [invoke, run_callFunc hp]
    · rintro _ _ w' ⟨rfl, r, σ', H', rfl, ⟨-, v, H'', h4, h5, h6⟩, h7⟩
      have h8 : Reach w0 C σ0 σ' w' H' := by
        have := (show Reach w0 C σ0 σ w (F ++ []) by rwa [List.append_nil]).call h7
        rwa [List.append_nil] at this
      exact ⟨v, h4 w' a h1 h8.holds, v, σ', H'', rfl, h6, h8.sub h5⟩
  rcases hex with rfl | rfl
  · exact hfin
  · exact hfin
theorem TB.seq (hR : ∀ ex a w, low X Q ex a w → R ex a w) (h : TC X (seqQ (TB X R c2) Q) c1 e σ H) : TB X R (.seq c1 c2) e σ H := fun w a hw ha =>
  Go.wpIn_seq (Go.wpIn_mono (h w a hw ha) fun ex a' w' ⟨e', σ', H', h1, h2, h3⟩ => by
    cases ex
    case normal => exact h3 w' a' h2 h1
    all_goals exact hR _ _ _ ⟨e', σ', H', h1, h2, h3⟩)
theorem TB.fin (hR : ∀ ex a w, low X Q ex a w → R ex a w) (h : TC X Q c e σ H) : TB X R c e σ H := fun w a hw ha => Go.wpIn_mono (h w a hw ha) (hR)
theorem TLB.v {v : Value} {d : Nat} (hg : o.guard = none) (h : OpVal X.P X.n o e σ H v) (hd : o.dst = some d) (hn : Nat.blt d X.n = true) (k : TLB X ops R rest (upd e d v) σ H) : TLB X ops R (o :: rest) e σ H := fun w a hw ha =>
  wpListIn_plain hg fun K hK => (OpVal.ok h hd hn (K := fun e' σ' H' => TLB X ops R rest e' σ' H') k).at hw ha fun e' σ' H' a' w' hk hw' ha' => hK a' w' (hk w' a' hw' ha')
theorem TLB.op (hg : o.guard = none) (h : OpOk X o e σ H (TLB X ops R rest)) : TLB X ops R (o :: rest) e σ H := fun w a hw ha =>
  wpListIn_plain hg fun K hK => h.at hw ha fun e' σ' H' a' w' hk hw' ha' => hK a' w' (hk w' a' hw' ha')
theorem TLB.dfr {P : Program} {w0 : World} {C : List Nat} {σ0 : Store} {n : Nat} {f : FuncId} {cap first : Array Value} {x : Operand} {opds : Array Operand} {ts : Array TypeId} {dargs : List Value}
    (hg : o.guard = none) (hop : o.op = .defer { callee := .value x, args := opds, argTypes := ts }) (hx : ev e x = .func (.func f) first cap) (hd : o.dst = none) (ha : first.toList ++ opds.toList.map (ev e) = dargs)
    (hK : ∀ a w, RM ⟨P, w0, C, σ0, n, none, some [⟨.fn (.func f) cap, dargs.toArray⟩]⟩ a σ w H → St n e a → R .normal a w) :
    TLB ⟨P, w0, C, σ0, n, none, some []⟩ ops R [o] e σ H := fun w a hw hst => by
  have ha' : first ++ opds.map (ev e) = dargs.toArray := by apply Array.ext'; rw [← ha]; simp
  refine wpListIn_plain hg fun K hK' => ⟨(fun _ _ => trivial), ?_⟩
  have hs : (o.semAt (fence none).round a.eval).run P w = .ok (.defer ⟨.fn (.func f) cap, dargs.toArray⟩) w := by
    rw [hst.eval', ← ha']
    simp [Oper.semAt, execOp, hop, resolve, hx, Deferred.ofValue]
  show Oper.uponIn _ _ _ _ _ _ _ ((o.semAt (fence none).round a.eval).run P w)
  rw [hs, Oper.uponIn_defer, hd]
  have h0 : a.defers = [] := hw.marks.is _ rfl
  refine hK' _ _ (hK _ _ ⟨?_, ⟨(fun h => by cases h), (fun l h => ?_), fun _ h => by cases h⟩⟩ ⟨hst.size, hst.get⟩)
  · exact hw.toReach
  · cases h; show _ :: a.defers = _; rw [h0]
theorem TB.seqD {id : Nat} {l : List Oper} (h : TLB X l.toArray (fun ex a w => match ex with | .normal => c2.wpIn (fence X.rnd) 0 X.P R a w | ex => R ex a w) l e σ H) : TB X R (.seq (.region id l.toArray false) c2) e σ H := fun w a hw ha =>
  Go.wpIn_seq (Go.wpIn_mono (wpIn_region_lit (h w a hw ha)) fun ex a' w' hq => by cases ex <;> exact hq)
end rules
end Go.E
end

section
namespace Go.Proofs.YtcaaiphgikpgjaaGreatDoor
open Go Go.E Go.E.OpVal Go.E.OpOk Go.Proofs.Tryz
private theorem ag22 : Go.E.aggOf Tryz.prog 22 = some false := by kernel_rfl
private theorem ag4 : Go.E.aggOf Tryz.prog 4 = some false := by kernel_rfl
private theorem ag41 : Go.E.aggOf Tryz.prog 41 = some true := by kernel_rfl
private theorem ag59 : Go.E.aggOf Tryz.prog 59 = some true := by kernel_rfl
private theorem ag9 : Go.E.aggOf Tryz.prog 9 = some false := by kernel_rfl
private theorem by41 : Go.E.byOf Tryz.prog 41 = some 24 := by kernel_rfl
private theorem by59 : Go.E.byOf Tryz.prog 59 = some 72 := by kernel_rfl
private theorem fo25_1 : Go.E.foOf Tryz.prog 25 1 = some 1 := by kernel_rfl
private theorem fo25_2 : Go.E.foOf Tryz.prog 25 2 = some 2 := by kernel_rfl
private theorem fo41_1 : Go.E.foOf Tryz.prog 41 1 = some 1 := by kernel_rfl
private theorem fo59_3 : Go.E.foOf Tryz.prog 59 3 = some 6 := by kernel_rfl
private theorem fo67_0 : Go.E.foOf Tryz.prog 67 0 = some 0 := by kernel_rfl
private theorem fo67_1 : Go.E.foOf Tryz.prog 67 1 = some 4 := by kernel_rfl
private theorem sz22 : Go.E.szOf Tryz.prog 22 = some 1 := by kernel_rfl
private theorem sz33 : Go.E.szOf Tryz.prog 33 = some 1 := by kernel_rfl
private theorem sz4 : Go.E.szOf Tryz.prog 4 = some 1 := by kernel_rfl
noncomputable def Ck_ (x0 : Grow) (x1 : Tip) : Option (Grow) :=
 iteO x0.over (some (⟨(⟨x0.f.states, x0.f.starts, x0.f.ends, x0.f.arcs⟩ : Fst), true⟩ : Grow)) (iteO (decide (1024 ≤ ((x0.f.starts.length : Nat) : Int))) (some (⟨(⟨x0.f.states, x0.f.starts, x0.f.ends, x0.f.arcs⟩ : Fst), true⟩ : Grow)) (iteO (decide (1024 < ((x1.out.length : Nat) : Int))) (some (⟨(⟨x0.f.states, x0.f.starts, x0.f.ends, x0.f.arcs⟩ : Fst), true⟩ : Grow)) (grd ((x0.f.starts.length + [x1].length) * 24 ≤ 140737488355328) (some (⟨(⟨x0.f.states, (x0.f.starts ++ [x1]), x0.f.ends, x0.f.arcs⟩ : Fst), x0.over⟩ : Grow)))))
theorem Ez_ {σ : Store} {x0 : Grow} {b0_0 : Nat} {Eb0 : Nat} {a0_1 : Option Addr} {c0_2 : Nat} {a0_3 : Option Addr} {c0_4 : Nat} {a0_5 : Option Addr} {c0_6 : Nat} {x1 : Tip}  {r : Grow} (hh : Ck_ x0 x1 = some r) :
  Con Tryz.prog 27 #[loc b0_0 0, .agg #[.int .i64 x1.state, .string (bs x1.out)]] σ [Res.cells b0_0 #[.int .i64 x0.f.states, .slice a0_1 x0.f.starts.length c0_2, .slice a0_3 x0.f.ends.length c0_4, .slice a0_5 x0.f.arcs.length c0_6, .bool x0.over] Eb0, Res.rowS 41 2 encTip (.slice a0_1 x0.f.starts.length c0_2) x0.f.starts, Res.rowS 41 2 encTip (.slice a0_3 x0.f.ends.length c0_4) x0.f.ends, Res.rowS 59 8 encArc (.slice a0_5 x0.f.arcs.length c0_6) x0.f.arcs] (fun v σ' H' => ∃ (ao1 : Option Addr), ∃ (co2 : Nat), ∃ (ao3 : Option Addr), ∃ (co4 : Nat), ∃ (ao5 : Option Addr), ∃ (co6 : Nat), v = .tuple #[] ∧ σ = σ' ∧ H' = [Res.cells b0_0 #[.int .i64 r.f.states, .slice ao1 r.f.starts.length co2, .slice ao3 r.f.ends.length co4, .slice ao5 r.f.arcs.length co6, .bool r.over] Eb0, Res.rowS 41 2 encTip (.slice ao1 r.f.starts.length co2) r.f.starts, Res.rowS 41 2 encTip (.slice ao3 r.f.ends.length co4) r.f.ends, Res.rowS 59 8 encArc (.slice ao5 r.f.arcs.length co6) r.f.arcs]) := by
 dsimp only [Ck_] at hh
 refine Con.mk (n := 38) Tryz.func27 z z z (fun w0 => ?_)
 refine TC.weakR (TC.a (TL.op z (boxA z z z z (fun b108 => ?_))))
 refine TL.en (TC.seq (TC.a (TL.l z z (TL.w z (nilCheckLoc z z) (TL.w z (fieldLoc z fo67_1 z) (TL.w z (loadLoc z ag4 z (i := 1) z z) (TL.j z z (TL.split 8 z (fun h110 => ?_) (fun h110 => ?_)))))))))
 ·replace hh := iteO_t h110 hh
  refine TL.f z (TL.f z (TL.f z (TL.f z (TL.f z (TL.f z (TL.f z (TL.w z (pickTB z z z) (TL.j z z (TL.f z (TL.f z (TL.f z (TL.f z (TL.w z (pickTB z z z) (TL.en (TC.t z (TC.a (TL.l z z (TL.w z (nilCheckLoc z z) (TL.w z (fieldLoc z fo67_1 z) (TL.front 1 z z (TL.op z (storeB z sz4 z z z z z ?_))))))))))))))))))))))
  refine TL.en (TC.ofSub (Sub.f [4, 4, 4, 3] 4) (TC.ret (S.r ?_)))
  obtain rfl := so hh
  refine ⟨_, Sub.f [3, 3, 3, 3] 4, ?_⟩
  exact ro [Res.cells b0_0 #[.int .i64 x0.f.states, .slice a0_1 x0.f.starts.length c0_2, .slice a0_3 x0.f.ends.length c0_4, .slice a0_5 x0.f.arcs.length c0_6, .bool true] Eb0, Res.rowS 41 2 encTip (.slice a0_1 x0.f.starts.length c0_2) x0.f.starts, Res.rowS 41 2 encTip (.slice a0_3 x0.f.ends.length c0_4) x0.f.ends, Res.rowS 59 8 encArc (.slice a0_5 x0.f.arcs.length c0_6) x0.f.arcs] z RVs.nil ⟨a0_1, c0_2, a0_3, c0_4, a0_5, c0_6, z, z, z⟩
 ·replace hh := iteO_f h110 hh
  refine TL.g z (moveLoc (.inl z) z) (TL.g z (nilCheckLoc z z) (TL.g z (fieldLoc z fo67_0 z) (TL.g z (fieldLoc z fo25_1 z) (TL.g z (loadLoc z ag22 z (i := 1) z z) (TL.g z (lenC z underlying22 z) (TL.g z (OpVal.geq z z z) (TL.w z (pickFB z z z) (TL.j z z (TL.split 17 z (fun h111 => ?_) (fun h111 => ?_))))))))))
  ·replace hh := iteO_t h111 hh
   replace h111 := of_decide_eq_true h111
   refine TL.f z (TL.f z (TL.f z (TL.f z (TL.w z (pickTB z z z) (TL.en (TC.t z (TC.a (TL.l z z (TL.w z (nilCheckLoc z z) (TL.w z (fieldLoc z fo67_1 z) (TL.front 1 z z (TL.op z (storeB z sz4 z z z z z ?_)))))))))))))
   refine TL.en (TC.ofSub (Sub.f [4, 4, 4, 3] 4) (TC.ret (S.r ?_)))
   obtain rfl := so hh
   refine ⟨_, Sub.f [3, 3, 3, 3] 4, ?_⟩
   exact ro [Res.cells b0_0 #[.int .i64 x0.f.states, .slice a0_1 x0.f.starts.length c0_2, .slice a0_3 x0.f.ends.length c0_4, .slice a0_5 x0.f.arcs.length c0_6, .bool true] Eb0, Res.rowS 41 2 encTip (.slice a0_1 x0.f.starts.length c0_2) x0.f.starts, Res.rowS 41 2 encTip (.slice a0_3 x0.f.ends.length c0_4) x0.f.ends, Res.rowS 59 8 encArc (.slice a0_5 x0.f.arcs.length c0_6) x0.f.arcs] z RVs.nil ⟨a0_1, c0_2, a0_3, c0_4, a0_5, c0_6, z, z, z⟩
  ·replace hh := iteO_f h111 hh
   replace h111 := of_decide_eq_false h111
   refine TL.g z (fieldLoc z fo41_1 z) (TL.g z (loadLoc z ag9 z (i := 0) z z) (TL.g z (lenBs z underlying9 z) (TL.g z (OpVal.gtr z z z) (TL.w z (pickFB z z z) (TL.en (TC.cD z hh (fun h112 hh => ?_) (fun h112 hh => ?_)))))))
   ·refine TC.a (TL.l z z (TL.w z (nilCheckLoc z z) (TL.w z (fieldLoc z fo67_1 z) (TL.front 1 z z (TL.op z (storeB z sz4 z z z z z ?_))))))
    refine TL.en (TC.ofSub (Sub.f [4, 4, 4, 3] 4) (TC.ret (S.r ?_)))
    obtain rfl := so hh
    refine ⟨_, Sub.f [3, 3, 3, 3] 4, ?_⟩
    exact ro [Res.cells b0_0 #[.int .i64 x0.f.states, .slice a0_1 x0.f.starts.length c0_2, .slice a0_3 x0.f.ends.length c0_4, .slice a0_5 x0.f.arcs.length c0_6, .bool true] Eb0, Res.rowS 41 2 encTip (.slice a0_1 x0.f.starts.length c0_2) x0.f.starts, Res.rowS 41 2 encTip (.slice a0_3 x0.f.ends.length c0_4) x0.f.ends, Res.rowS 59 8 encArc (.slice a0_5 x0.f.arcs.length c0_6) x0.f.arcs] z RVs.nil ⟨a0_1, c0_2, a0_3, c0_4, a0_5, c0_6, z, z, z⟩
   ·refine TC.skip (S.n ?_)
    have u33 := grd_c hh
    replace hh := grd_t hh
    refine TC.draw [8, 9, 10, 11, 12] (by kernel_rfl) (TA.a 0 z (moveLoc (.inl z) z) z (TA.a 1 z (moveLoc (.inl z) z) z (TA.a 2 z (nilCheckLoc z z) z (TA.a 3 z (fieldLoc z fo67_0 z) z (TA.a 4 z (fieldLoc z fo25_1 z) z (TA.b 5 z (loadLoc z ag22 z (i := 1) z z) z (TA.b 6 z (loadAll z ag41 sz41 z (i := 0) z z) z (TA.ac 7 z (OpOk.lit (enc := encTip) [x1] z underlying22 sz41 ze41 z z z encTip_len (by decide) (by decide) Tip.zero z (by decide) z (by decide) encTip_one (fun a118 c119 => (k1 ?_)))))))))))
    refine TA.front 3 z z (TA.last 8 (by kernel_rfl) z z z (appendS z z underlying22 sz41 by41 ze41 z z (by decide) z z z (.inr ⟨_, 0, z⟩) (by simpa using u33) (by decide) (fun a121 c122 => ?_)))
    refine TZ.v 9 (by kernel_rfl) z z z (nilCheckLoc z z) z z (TZ.v 10 (by kernel_rfl) z z z (fieldLoc z fo67_0 z) z z (TZ.v 11 (by kernel_rfl) z z z (fieldLoc z fo25_1 z) z z (TZ.front 3 z z (TZ.last 12 (by kernel_rfl) z z z (storeSl z sz22 z z z z z ?_)))))
    refine TZ.done (by kernel_rfl) ?_
    obtain rfl := so hh
    refine ⟨_, Sub.f [5, 5, 3, 3] 4, ?_⟩
    exact RetOk.mk' (rs := []) [Res.cells b0_0 #[.int .i64 x0.f.states, .slice a121 ((x0.f.starts ++ [x1]).length) c122, .slice a0_3 x0.f.ends.length c0_4, .slice a0_5 x0.f.arcs.length c0_6, .bool x0.over] Eb0, Res.rowS 41 2 encTip (.slice a121 (x0.f.starts ++ [x1]).length c122) (x0.f.starts ++ [x1]), Res.rowS 41 2 encTip (.slice a0_3 x0.f.ends.length c0_4) x0.f.ends, Res.rowS 59 8 encArc (.slice a0_5 x0.f.arcs.length c0_6) x0.f.arcs] z (.inr z) RVs.nil (List.sublist_append_left _ _) ⟨a121, c122, a0_3, c0_4, a0_5, c0_6, z, z, z⟩
noncomputable def Dg_ (x0 : Grow) (x1 : Tip) : Option (Grow) :=
 iteO x0.over (some (⟨(⟨x0.f.states, x0.f.starts, x0.f.ends, x0.f.arcs⟩ : Fst), true⟩ : Grow)) (iteO (decide (1024 ≤ ((x0.f.ends.length : Nat) : Int))) (some (⟨(⟨x0.f.states, x0.f.starts, x0.f.ends, x0.f.arcs⟩ : Fst), true⟩ : Grow)) (iteO (decide (1024 < ((x1.out.length : Nat) : Int))) (some (⟨(⟨x0.f.states, x0.f.starts, x0.f.ends, x0.f.arcs⟩ : Fst), true⟩ : Grow)) (grd ((x0.f.ends.length + [x1].length) * 24 ≤ 140737488355328) (some (⟨(⟨x0.f.states, x0.f.starts, (x0.f.ends ++ [x1]), x0.f.arcs⟩ : Fst), x0.over⟩ : Grow)))))
theorem E8_ {σ : Store} {x0 : Grow} {b0_0 : Nat} {Eb0 : Nat} {a0_1 : Option Addr} {c0_2 : Nat} {a0_3 : Option Addr} {c0_4 : Nat} {a0_5 : Option Addr} {c0_6 : Nat} {x1 : Tip}  {r : Grow} (hh : Dg_ x0 x1 = some r) :
  Con Tryz.prog 28 #[loc b0_0 0, .agg #[.int .i64 x1.state, .string (bs x1.out)]] σ [Res.cells b0_0 #[.int .i64 x0.f.states, .slice a0_1 x0.f.starts.length c0_2, .slice a0_3 x0.f.ends.length c0_4, .slice a0_5 x0.f.arcs.length c0_6, .bool x0.over] Eb0, Res.rowS 41 2 encTip (.slice a0_1 x0.f.starts.length c0_2) x0.f.starts, Res.rowS 41 2 encTip (.slice a0_3 x0.f.ends.length c0_4) x0.f.ends, Res.rowS 59 8 encArc (.slice a0_5 x0.f.arcs.length c0_6) x0.f.arcs] (fun v σ' H' => ∃ (ao1 : Option Addr), ∃ (co2 : Nat), ∃ (ao3 : Option Addr), ∃ (co4 : Nat), ∃ (ao5 : Option Addr), ∃ (co6 : Nat), v = .tuple #[] ∧ σ = σ' ∧ H' = [Res.cells b0_0 #[.int .i64 r.f.states, .slice ao1 r.f.starts.length co2, .slice ao3 r.f.ends.length co4, .slice ao5 r.f.arcs.length co6, .bool r.over] Eb0, Res.rowS 41 2 encTip (.slice ao1 r.f.starts.length co2) r.f.starts, Res.rowS 41 2 encTip (.slice ao3 r.f.ends.length co4) r.f.ends, Res.rowS 59 8 encArc (.slice ao5 r.f.arcs.length co6) r.f.arcs]) := by
 dsimp only [Dg_] at hh
 refine Con.mk (n := 38) Tryz.func28 z z z (fun w0 => ?_)
 refine TC.weakR (TC.a (TL.op z (boxA z z z z (fun b108 => ?_))))
 refine TL.en (TC.seq (TC.a (TL.l z z (TL.w z (nilCheckLoc z z) (TL.w z (fieldLoc z fo67_1 z) (TL.w z (loadLoc z ag4 z (i := 1) z z) (TL.j z z (TL.split 8 z (fun h110 => ?_) (fun h110 => ?_)))))))))
 ·replace hh := iteO_t h110 hh
  refine TL.f z (TL.f z (TL.f z (TL.f z (TL.f z (TL.f z (TL.f z (TL.w z (pickTB z z z) (TL.j z z (TL.f z (TL.f z (TL.f z (TL.f z (TL.w z (pickTB z z z) (TL.en (TC.t z (TC.a (TL.l z z (TL.w z (nilCheckLoc z z) (TL.w z (fieldLoc z fo67_1 z) (TL.front 1 z z (TL.op z (storeB z sz4 z z z z z ?_))))))))))))))))))))))
  refine TL.en (TC.ofSub (Sub.f [4, 4, 4, 3] 4) (TC.ret (S.r ?_)))
  obtain rfl := so hh
  refine ⟨_, Sub.f [3, 3, 3, 3] 4, ?_⟩
  exact ro [Res.cells b0_0 #[.int .i64 x0.f.states, .slice a0_1 x0.f.starts.length c0_2, .slice a0_3 x0.f.ends.length c0_4, .slice a0_5 x0.f.arcs.length c0_6, .bool true] Eb0, Res.rowS 41 2 encTip (.slice a0_1 x0.f.starts.length c0_2) x0.f.starts, Res.rowS 41 2 encTip (.slice a0_3 x0.f.ends.length c0_4) x0.f.ends, Res.rowS 59 8 encArc (.slice a0_5 x0.f.arcs.length c0_6) x0.f.arcs] z RVs.nil ⟨a0_1, c0_2, a0_3, c0_4, a0_5, c0_6, z, z, z⟩
 ·replace hh := iteO_f h110 hh
  refine TL.g z (moveLoc (.inl z) z) (TL.g z (nilCheckLoc z z) (TL.g z (fieldLoc z fo67_0 z) (TL.g z (fieldLoc z fo25_2 z) (TL.g z (loadLoc z ag22 z (i := 1) z z) (TL.g z (lenC z underlying22 z) (TL.g z (OpVal.geq z z z) (TL.w z (pickFB z z z) (TL.j z z (TL.split 17 z (fun h111 => ?_) (fun h111 => ?_))))))))))
  ·replace hh := iteO_t h111 hh
   replace h111 := of_decide_eq_true h111
   refine TL.f z (TL.f z (TL.f z (TL.f z (TL.w z (pickTB z z z) (TL.en (TC.t z (TC.a (TL.l z z (TL.w z (nilCheckLoc z z) (TL.w z (fieldLoc z fo67_1 z) (TL.front 1 z z (TL.op z (storeB z sz4 z z z z z ?_)))))))))))))
   refine TL.en (TC.ofSub (Sub.f [4, 4, 4, 3] 4) (TC.ret (S.r ?_)))
   obtain rfl := so hh
   refine ⟨_, Sub.f [3, 3, 3, 3] 4, ?_⟩
   exact ro [Res.cells b0_0 #[.int .i64 x0.f.states, .slice a0_1 x0.f.starts.length c0_2, .slice a0_3 x0.f.ends.length c0_4, .slice a0_5 x0.f.arcs.length c0_6, .bool true] Eb0, Res.rowS 41 2 encTip (.slice a0_1 x0.f.starts.length c0_2) x0.f.starts, Res.rowS 41 2 encTip (.slice a0_3 x0.f.ends.length c0_4) x0.f.ends, Res.rowS 59 8 encArc (.slice a0_5 x0.f.arcs.length c0_6) x0.f.arcs] z RVs.nil ⟨a0_1, c0_2, a0_3, c0_4, a0_5, c0_6, z, z, z⟩
  ·replace hh := iteO_f h111 hh
   replace h111 := of_decide_eq_false h111
   refine TL.g z (fieldLoc z fo41_1 z) (TL.g z (loadLoc z ag9 z (i := 0) z z) (TL.g z (lenBs z underlying9 z) (TL.g z (OpVal.gtr z z z) (TL.w z (pickFB z z z) (TL.en (TC.cD z hh (fun h112 hh => ?_) (fun h112 hh => ?_)))))))
   ·refine TC.a (TL.l z z (TL.w z (nilCheckLoc z z) (TL.w z (fieldLoc z fo67_1 z) (TL.front 1 z z (TL.op z (storeB z sz4 z z z z z ?_))))))
    refine TL.en (TC.ofSub (Sub.f [4, 4, 4, 3] 4) (TC.ret (S.r ?_)))
    obtain rfl := so hh
    refine ⟨_, Sub.f [3, 3, 3, 3] 4, ?_⟩
    exact ro [Res.cells b0_0 #[.int .i64 x0.f.states, .slice a0_1 x0.f.starts.length c0_2, .slice a0_3 x0.f.ends.length c0_4, .slice a0_5 x0.f.arcs.length c0_6, .bool true] Eb0, Res.rowS 41 2 encTip (.slice a0_1 x0.f.starts.length c0_2) x0.f.starts, Res.rowS 41 2 encTip (.slice a0_3 x0.f.ends.length c0_4) x0.f.ends, Res.rowS 59 8 encArc (.slice a0_5 x0.f.arcs.length c0_6) x0.f.arcs] z RVs.nil ⟨a0_1, c0_2, a0_3, c0_4, a0_5, c0_6, z, z, z⟩
   ·refine TC.skip (S.n ?_)
    have u33 := grd_c hh
    replace hh := grd_t hh
    refine TC.draw [8, 9, 10, 11, 12] (by kernel_rfl) (TA.a 0 z (moveLoc (.inl z) z) z (TA.a 1 z (moveLoc (.inl z) z) z (TA.a 2 z (nilCheckLoc z z) z (TA.a 3 z (fieldLoc z fo67_0 z) z (TA.a 4 z (fieldLoc z fo25_2 z) z (TA.b 5 z (loadLoc z ag22 z (i := 1) z z) z (TA.b 6 z (loadAll z ag41 sz41 z (i := 0) z z) z (TA.ac 7 z (OpOk.lit (enc := encTip) [x1] z underlying22 sz41 ze41 z z z encTip_len (by decide) (by decide) Tip.zero z (by decide) z (by decide) encTip_one (fun a118 c119 => (k1 ?_)))))))))))
    refine TA.front 4 z z (TA.last 8 (by kernel_rfl) z z z (appendS z z underlying22 sz41 by41 ze41 z z (by decide) z z z (.inr ⟨_, 0, z⟩) (by simpa using u33) (by decide) (fun a121 c122 => ?_)))
    refine TZ.v 9 (by kernel_rfl) z z z (nilCheckLoc z z) z z (TZ.v 10 (by kernel_rfl) z z z (fieldLoc z fo67_0 z) z z (TZ.v 11 (by kernel_rfl) z z z (fieldLoc z fo25_2 z) z z (TZ.front 3 z z (TZ.last 12 (by kernel_rfl) z z z (storeSl z sz22 z z z z z ?_)))))
    refine TZ.done (by kernel_rfl) ?_
    obtain rfl := so hh
    refine ⟨_, Sub.f [5, 2, 5, 3] 4, ?_⟩
    exact RetOk.mk' (rs := []) [Res.cells b0_0 #[.int .i64 x0.f.states, .slice a0_1 x0.f.starts.length c0_2, .slice a121 ((x0.f.ends ++ [x1]).length) c122, .slice a0_5 x0.f.arcs.length c0_6, .bool x0.over] Eb0, Res.rowS 41 2 encTip (.slice a0_1 x0.f.starts.length c0_2) x0.f.starts, Res.rowS 41 2 encTip (.slice a121 (x0.f.ends ++ [x1]).length c122) (x0.f.ends ++ [x1]), Res.rowS 59 8 encArc (.slice a0_5 x0.f.arcs.length c0_6) x0.f.arcs] z (.inr z) RVs.nil (List.sublist_append_left _ _) ⟨a0_1, c0_2, a121, c122, a0_5, c0_6, z, z, z⟩
noncomputable def Dh_ (x0 : Grow) (x1 : Arc) : Option (Grow) :=
 iteO x0.over (some (⟨(⟨x0.f.states, x0.f.starts, x0.f.ends, x0.f.arcs⟩ : Fst), true⟩ : Grow)) (iteO (decide (16384 ≤ ((x0.f.arcs.length : Nat) : Int))) (some (⟨(⟨x0.f.states, x0.f.starts, x0.f.ends, x0.f.arcs⟩ : Fst), true⟩ : Grow)) (iteO (decide (1024 < ((x1.out.length : Nat) : Int))) (some (⟨(⟨x0.f.states, x0.f.starts, x0.f.ends, x0.f.arcs⟩ : Fst), true⟩ : Grow)) (grd ((x0.f.arcs.length + [x1].length) * 72 ≤ 140737488355328) (some (⟨(⟨x0.f.states, x0.f.starts, x0.f.ends, (x0.f.arcs ++ [x1])⟩ : Fst), x0.over⟩ : Grow)))))
theorem Fa_ {σ : Store} {x0 : Grow} {b0_0 : Nat} {Eb0 : Nat} {a0_1 : Option Addr} {c0_2 : Nat} {a0_3 : Option Addr} {c0_4 : Nat} {a0_5 : Option Addr} {c0_6 : Nat} {x1 : Arc}  {r : Grow} (hh : Dh_ x0 x1 = some r) :
  Con Tryz.prog 32 #[loc b0_0 0, .agg #[.int .i64 x1.frm, .int .i64 x1.to, .int .u64 ((x1.set.a : Nat) : Int), .int .u64 ((x1.set.b : Nat) : Int), .int .u64 ((x1.set.c : Nat) : Int), .int .u64 ((x1.set.d : Nat) : Int), .string (bs x1.out), .bool x1.copy]] σ [Res.cells b0_0 #[.int .i64 x0.f.states, .slice a0_1 x0.f.starts.length c0_2, .slice a0_3 x0.f.ends.length c0_4, .slice a0_5 x0.f.arcs.length c0_6, .bool x0.over] Eb0, Res.rowS 41 2 encTip (.slice a0_1 x0.f.starts.length c0_2) x0.f.starts, Res.rowS 41 2 encTip (.slice a0_3 x0.f.ends.length c0_4) x0.f.ends, Res.rowS 59 8 encArc (.slice a0_5 x0.f.arcs.length c0_6) x0.f.arcs] (fun v σ' H' => ∃ (ao1 : Option Addr), ∃ (co2 : Nat), ∃ (ao3 : Option Addr), ∃ (co4 : Nat), ∃ (ao5 : Option Addr), ∃ (co6 : Nat), v = .tuple #[] ∧ σ = σ' ∧ H' = [Res.cells b0_0 #[.int .i64 r.f.states, .slice ao1 r.f.starts.length co2, .slice ao3 r.f.ends.length co4, .slice ao5 r.f.arcs.length co6, .bool r.over] Eb0, Res.rowS 41 2 encTip (.slice ao1 r.f.starts.length co2) r.f.starts, Res.rowS 41 2 encTip (.slice ao3 r.f.ends.length co4) r.f.ends, Res.rowS 59 8 encArc (.slice ao5 r.f.arcs.length co6) r.f.arcs]) := by
 dsimp only [Dh_] at hh
 refine Con.mk (n := 38) Tryz.func32 z z z (fun w0 => ?_)
 refine TC.weakR (TC.a (TL.op z (boxA z z z z (fun b108 => ?_))))
 refine TL.en (TC.seq (TC.a (TL.l z z (TL.w z (nilCheckLoc z z) (TL.w z (fieldLoc z fo67_1 z) (TL.w z (loadLoc z ag4 z (i := 1) z z) (TL.j z z (TL.split 8 z (fun h110 => ?_) (fun h110 => ?_)))))))))
 ·replace hh := iteO_t h110 hh
  refine TL.f z (TL.f z (TL.f z (TL.f z (TL.f z (TL.f z (TL.f z (TL.w z (pickTB z z z) (TL.j z z (TL.f z (TL.f z (TL.f z (TL.f z (TL.w z (pickTB z z z) (TL.en (TC.t z (TC.a (TL.l z z (TL.w z (nilCheckLoc z z) (TL.w z (fieldLoc z fo67_1 z) (TL.front 1 z z (TL.op z (storeB z sz4 z z z z z ?_))))))))))))))))))))))
  refine TL.en (TC.ofSub (Sub.f [4, 4, 4, 3] 4) (TC.ret (S.r ?_)))
  obtain rfl := so hh
  refine ⟨_, Sub.f [3, 3, 3, 3] 4, ?_⟩
  exact ro [Res.cells b0_0 #[.int .i64 x0.f.states, .slice a0_1 x0.f.starts.length c0_2, .slice a0_3 x0.f.ends.length c0_4, .slice a0_5 x0.f.arcs.length c0_6, .bool true] Eb0, Res.rowS 41 2 encTip (.slice a0_1 x0.f.starts.length c0_2) x0.f.starts, Res.rowS 41 2 encTip (.slice a0_3 x0.f.ends.length c0_4) x0.f.ends, Res.rowS 59 8 encArc (.slice a0_5 x0.f.arcs.length c0_6) x0.f.arcs] z RVs.nil ⟨a0_1, c0_2, a0_3, c0_4, a0_5, c0_6, z, z, z⟩
 ·replace hh := iteO_f h110 hh
  refine TL.g z (moveLoc (.inl z) z) (TL.g z (nilCheckLoc z z) (TL.g z (fieldLoc z fo67_0 z) (TL.g z (fieldLoc z fo25_3 z) (TL.g z (loadLoc z ag23 z (i := 1) z z) (TL.g z (lenC z underlying23 z) (TL.g z (OpVal.geq z z z) (TL.w z (pickFB z z z) (TL.j z z (TL.split 17 z (fun h111 => ?_) (fun h111 => ?_))))))))))
  ·replace hh := iteO_t h111 hh
   replace h111 := of_decide_eq_true h111
   refine TL.f z (TL.f z (TL.f z (TL.f z (TL.w z (pickTB z z z) (TL.en (TC.t z (TC.a (TL.l z z (TL.w z (nilCheckLoc z z) (TL.w z (fieldLoc z fo67_1 z) (TL.front 1 z z (TL.op z (storeB z sz4 z z z z z ?_)))))))))))))
   refine TL.en (TC.ofSub (Sub.f [4, 4, 4, 3] 4) (TC.ret (S.r ?_)))
   obtain rfl := so hh
   refine ⟨_, Sub.f [3, 3, 3, 3] 4, ?_⟩
   exact ro [Res.cells b0_0 #[.int .i64 x0.f.states, .slice a0_1 x0.f.starts.length c0_2, .slice a0_3 x0.f.ends.length c0_4, .slice a0_5 x0.f.arcs.length c0_6, .bool true] Eb0, Res.rowS 41 2 encTip (.slice a0_1 x0.f.starts.length c0_2) x0.f.starts, Res.rowS 41 2 encTip (.slice a0_3 x0.f.ends.length c0_4) x0.f.ends, Res.rowS 59 8 encArc (.slice a0_5 x0.f.arcs.length c0_6) x0.f.arcs] z RVs.nil ⟨a0_1, c0_2, a0_3, c0_4, a0_5, c0_6, z, z, z⟩
  ·replace hh := iteO_f h111 hh
   replace h111 := of_decide_eq_false h111
   refine TL.g z (fieldLoc z fo59_3 z) (TL.g z (loadLoc z ag9 z (i := 0) z z) (TL.g z (lenBs z underlying9 z) (TL.g z (OpVal.gtr z z z) (TL.w z (pickFB z z z) (TL.en (TC.cD z hh (fun h112 hh => ?_) (fun h112 hh => ?_)))))))
   ·refine TC.a (TL.l z z (TL.w z (nilCheckLoc z z) (TL.w z (fieldLoc z fo67_1 z) (TL.front 1 z z (TL.op z (storeB z sz4 z z z z z ?_))))))
    refine TL.en (TC.ofSub (Sub.f [4, 4, 4, 3] 4) (TC.ret (S.r ?_)))
    obtain rfl := so hh
    refine ⟨_, Sub.f [3, 3, 3, 3] 4, ?_⟩
    exact ro [Res.cells b0_0 #[.int .i64 x0.f.states, .slice a0_1 x0.f.starts.length c0_2, .slice a0_3 x0.f.ends.length c0_4, .slice a0_5 x0.f.arcs.length c0_6, .bool true] Eb0, Res.rowS 41 2 encTip (.slice a0_1 x0.f.starts.length c0_2) x0.f.starts, Res.rowS 41 2 encTip (.slice a0_3 x0.f.ends.length c0_4) x0.f.ends, Res.rowS 59 8 encArc (.slice a0_5 x0.f.arcs.length c0_6) x0.f.arcs] z RVs.nil ⟨a0_1, c0_2, a0_3, c0_4, a0_5, c0_6, z, z, z⟩
   ·refine TC.skip (S.n ?_)
    have u33 := grd_c hh
    replace hh := grd_t hh
    refine TC.draw [8, 9, 10, 11, 12] (by kernel_rfl) (TA.a 0 z (moveLoc (.inl z) z) z (TA.a 1 z (moveLoc (.inl z) z) z (TA.a 2 z (nilCheckLoc z z) z (TA.a 3 z (fieldLoc z fo67_0 z) z (TA.a 4 z (fieldLoc z fo25_3 z) z (TA.b 5 z (loadLoc z ag23 z (i := 1) z z) z (TA.b 6 z (loadAll z ag59 sz59 z (i := 0) z z) z (TA.ac 7 z (OpOk.lit (enc := encArc) [x1] z underlying23 sz59 ze59 z z z encArc_len (by decide) (by decide) Arc.zero z (by decide) z (by decide) encArc_one (fun a118 c119 => (k1 ?_)))))))))))
    refine TA.front 5 z z (TA.last 8 (by kernel_rfl) z z z (appendS z z underlying23 sz59 by59 ze59 z z (by decide) z z z (.inr ⟨_, 0, z⟩) (by simpa using u33) (by decide) (fun a121 c122 => ?_)))
    refine TZ.v 9 (by kernel_rfl) z z z (nilCheckLoc z z) z z (TZ.v 10 (by kernel_rfl) z z z (fieldLoc z fo67_0 z) z z (TZ.v 11 (by kernel_rfl) z z z (fieldLoc z fo25_3 z) z z (TZ.front 3 z z (TZ.last 12 (by kernel_rfl) z z z (storeSl z sz23 z z z z z ?_)))))
    refine TZ.done (by kernel_rfl) ?_
    obtain rfl := so hh
    refine ⟨_, Sub.f [1, 5, 5, 3] 4, ?_⟩
    exact RetOk.mk' (rs := []) [Res.cells b0_0 #[.int .i64 x0.f.states, .slice a0_1 x0.f.starts.length c0_2, .slice a0_3 x0.f.ends.length c0_4, .slice a121 ((x0.f.arcs ++ [x1]).length) c122, .bool x0.over] Eb0, Res.rowS 41 2 encTip (.slice a0_1 x0.f.starts.length c0_2) x0.f.starts, Res.rowS 41 2 encTip (.slice a0_3 x0.f.ends.length c0_4) x0.f.ends, Res.rowS 59 8 encArc (.slice a121 (x0.f.arcs ++ [x1]).length c122) (x0.f.arcs ++ [x1])] z (.inr z) RVs.nil (List.sublist_append_left _ _) ⟨a0_1, c0_2, a0_3, c0_4, a121, c122, z, z, z⟩
noncomputable def Bt_ (x0 : Grow) : Option (Fst × Int) :=
 iteO x0.over (some ((⟨0, ([] : List Tip), ([] : List Tip), ([] : List Arc)⟩ : Fst), 2)) (iteO (decide (1024 < x0.f.states)) (some ((⟨0, ([] : List Tip), ([] : List Tip), ([] : List Arc)⟩ : Fst), 2)) (some ((⟨x0.f.states, x0.f.starts, x0.f.ends, x0.f.arcs⟩ : Fst), 0)))
theorem Dc_ {σ : Store} {x0 : Grow} {b0_0 : Nat} {Eb0 : Nat} {a0_1 : Option Addr} {c0_2 : Nat} {a0_3 : Option Addr} {c0_4 : Nat} {a0_5 : Option Addr} {c0_6 : Nat} {b1_0 : Nat} {Eb1 : Nat} {b2_0 : Nat} {Eb2 : Nat} {x2g : Int}  {r : Fst × Int} (hh : Bt_ x0 = some r) :
  ConD Tryz.prog 26 #[loc b0_0 0, loc b1_0 0, loc b2_0 0] σ [Res.cells b0_0 #[.int .i64 x0.f.states, .slice a0_1 x0.f.starts.length c0_2, .slice a0_3 x0.f.ends.length c0_4, .slice a0_5 x0.f.arcs.length c0_6, .bool x0.over] Eb0, Res.rowS 41 2 encTip (.slice a0_1 x0.f.starts.length c0_2) x0.f.starts, Res.rowS 41 2 encTip (.slice a0_3 x0.f.ends.length c0_4) x0.f.ends, Res.rowS 59 8 encArc (.slice a0_5 x0.f.arcs.length c0_6) x0.f.arcs, Res.cells b1_0 #[.int .i64 0, .slice none 0 0, .slice none 0 0, .slice none 0 0] Eb1, Res.cells b2_0 #[.int .i64 x2g] Eb2] (fun v σ' H' => ∃ (ao1 : Option Addr), ∃ (co2 : Nat), ∃ (ao4 : Option Addr), ∃ (co5 : Nat), ∃ (ao7 : Option Addr), ∃ (co8 : Nat), v = .tuple #[] ∧ RS σ' 2 encTip (.slice ao1 r.1.starts.length co2) r.1.starts ∧ RS σ' 2 encTip (.slice ao4 r.1.ends.length co5) r.1.ends ∧ RS σ' 8 encArc (.slice ao7 r.1.arcs.length co8) r.1.arcs ∧ H' = [Res.cells b1_0 #[.int .i64 r.1.states, .slice ao1 r.1.starts.length co2, .slice ao4 r.1.ends.length co5, .slice ao7 r.1.arcs.length co8] Eb1, Res.cells b2_0 #[.int .i64 r.2] Eb2]) := by
 dsimp only [Bt_] at hh
 refine ConD.mk (n := 31) Tryz.func26 z z z (fun w0 => ?_)
 refine TC.weakR (TC.seq (TC.a (TL.l z z (TL.w z (nilCheckLoc z z) (TL.w z (fieldLoc z fo67_1 z) (TL.w z (loadLoc z ag4 z (i := 0) z z) (TL.j z z (TL.split 10 z (fun h110 => ?_) (fun h110 => ?_)))))))))
 ·replace hh := iteO_t h110 hh
  refine TL.f z (TL.f z (TL.f z (TL.f z (TL.f z (TL.f z (TL.w z (pickTB z z z) (TL.en (TC.t z (TC.a (TL.l z z (TL.l z z (TL.w z (buildL z pl25 ze25 z) (TL.w z (nilCheckLoc z z) (TL.front 4 z z (TL.op z (storeAll z sz25 z z z z z z ?_))))))))))))))))
  refine TL.w z (nilCheckLoc z z) (TL.front 5 z z (TL.op z (storeI z sz33 z z z z z ?_)))
  refine TL.en (TC.ofSub (Sub.f [1] 2) (TC.ret (S.r ?_)))
  obtain rfl := so hh
  refine ⟨_, Sub.f [1, 1] 2, ?_⟩
  exact ro [Res.cells b1_0 #[.int .i64 0, .slice none 0 0, .slice none 0 0, .slice none 0 0] Eb1, Res.cells b2_0 #[.int .i64 2] Eb2] z RVs.nil ⟨none, 0, none, 0, none, 0, z, (RS.nilF _ encTip encTip_len), (RS.nilF _ encTip encTip_len), (RS.nilF _ encArc encArc_len), z⟩
 ·replace hh := iteO_f h110 hh
  refine TL.g z (moveLoc (.inl z) z) (TL.g z (nilCheckLoc z z) (TL.g z (fieldLoc z fo67_0 z) (TL.g z (fieldLoc z fo25_0 z) (TL.g z (loadLoc z ag3 z (i := 0) z z) (TL.g z (OpVal.gtr z z z) (TL.w z (pickFB z z z) (TL.en (TC.cD z hh (fun h111 hh => ?_) (fun h111 hh => ?_)))))))))
  ·refine TC.a (TL.l z z (TL.l z z (TL.w z (buildL z pl25 ze25 z) (TL.w z (nilCheckLoc z z) (TL.front 4 z z (TL.op z (storeAll z sz25 z z z z z z ?_)))))))
   refine TL.w z (nilCheckLoc z z) (TL.front 5 z z (TL.op z (storeI z sz33 z z z z z ?_)))
   refine TL.en (TC.ofSub (Sub.f [1] 2) (TC.ret (S.r ?_)))
   obtain rfl := so hh
   refine ⟨_, Sub.f [1, 1] 2, ?_⟩
   exact ro [Res.cells b1_0 #[.int .i64 0, .slice none 0 0, .slice none 0 0, .slice none 0 0] Eb1, Res.cells b2_0 #[.int .i64 2] Eb2] z RVs.nil ⟨none, 0, none, 0, none, 0, z, (RS.nilF _ encTip encTip_len), (RS.nilF _ encTip encTip_len), (RS.nilF _ encArc encArc_len), z⟩
  ·refine TC.skip (S.n (TC.region (TL.l z z (TL.l z z (TL.l z z (TL.w z (nilCheckLoc z z) (TL.w z (fieldLoc z fo67_0 z) (TL.w z (loadLocA z ag25 sz25 z (i := 0) z z z) (TL.w z (nilCheckLoc z z) (TL.front 4 z z (TL.op z (storeAll z sz25 z z z z z z ?_))))))))))))
   refine TL.w z (nilCheckLoc z z) (TL.front 5 z z (TL.op z (storeI z sz33 z z z z z ?_)))
   refine TL.front 3 z z (TL.sealS encTip_len (fun τ114 hle113 hr112 => ?_))
   have hr112b := hr112.rv.big
   refine TL.front 3 z z (TL.sealS encTip_len (fun τ117 hle116 hr115 => ?_))
   replace hr112 := hr112.mono hle116
   have hr115b := hr115.rv.big
   refine TL.front 3 z z (TL.sealS encArc_len (fun τ120 hle119 hr118 => ?_))
   replace hr112 := hr112.mono hle119
   replace hr115 := hr115.mono hle119
   have hr118b := hr118.rv.big
   refine TL.nil ?_
   obtain rfl := so hh
   refine ⟨_, Sub.f [1] 2, ?_⟩
   exact RetOk.mk' (rs := []) [Res.cells b1_0 #[.int .i64 x0.f.states, .slice a0_1 x0.f.starts.length c0_2, .slice a0_3 x0.f.ends.length c0_4, .slice a0_5 x0.f.arcs.length c0_6] Eb1, Res.cells b2_0 #[.int .i64 0] Eb2] z (.inr z) RVs.nil (List.sublist_append_left _ _) ⟨a0_1, c0_2, a0_3, c0_4, a0_5, c0_6, z, hr112, hr115, hr118, z⟩
end Go.Proofs.YtcaaiphgikpgjaaGreatDoor
end

section
namespace Go.E
open Go
@[irreducible] def arrA {α : Type} (enc : α → List Value) (l : List α) : Array Value := (l.flatMap enc).toArray
section
variable {P : Program} {n : Nat} {e : Env} {σ : Store} {H : List Res} {o : Oper} {x y : Operand} {α : Type} {enc : α → List Value} {l : List α}
end
end Go.E
end

section
namespace Go.Proofs.YtcaaiphgikpgjaaGreatDoor
open Go Go.E Go.E.OpVal Go.E.OpOk
end Go.Proofs.YtcaaiphgikpgjaaGreatDoor
end

section
namespace Go.Proofs.YtcaaiphgikpgjaaGreatDoor
open Go Go.E
def endsN (d : Dfa) (m : Nat) : List Int := (List.range m).flatMap fun s => if nth d.fin s false = true then [((s : Nat) : Int)] else []
end Go.Proofs.YtcaaiphgikpgjaaGreatDoor
end

section
namespace Go.Proofs.YtcaaiphgikpgjaaGreatDoor
open Go Go.E
theorem u64or_lt' (a b : Nat) : u64or a b < 18446744073709551616 := (BitVec.ofNat 64 a ||| BitVec.ofNat 64 b).isLt
theorem has_bit' (s : BSet) (n : Nat) : s.has n = (s.word (n / 64)).testBit (n % 64) := by
  unfold BSet.has; rw [Nat.testBit_eq_decide_div_mod_eq]
theorem F5_ {s t : BSet} (h : ∀ n, n < 256 → s.has n = t.has n) : s = t := by
  refine BSet.ext_word fun i hi => Nat.eq_of_testBit_eq fun j => ?_
  by_cases hj : j < 64
  · have h1 := h (64 * i + j) (by omega)
    rw [has_bit', has_bit', show (64 * i + j) / 64 = i by omega, show (64 * i + j) % 64 = j by omega] at h1
    exact h1
  · have h2 : ∀ u : BSet, (u.word i).testBit j = false := fun u => Nat.testBit_lt_two_pow (Nat.lt_of_lt_of_le (BSet.word_lt u.isOk i) (show 2 ^ 64 ≤ 2 ^ j from Nat.pow_le_pow_right (by omega) (by omega)))
    rw [h2, h2]
theorem any_eq (a b : BSet) : Eo_ a b = some (BSet.make fun n => a.has n || b.has n) := by
  have h : ∃ r, Eo_ a b = some r ∧ ∀ i, i < 4 → r.word i = u64or (a.word i) (b.word i) := by
    unfold Eo_
    exact iter_up (step := fun q : BSet × Nat => Ci_ b q.1 q.2) (fun (s : BSet) k => (s, k)) 4 (fun k s => ∀ i, i < 4 → s.word i = if i < k then u64or (a.word i) (b.word i) else a.word i) (fun r => ∀ i, i < 4 → r.word i = u64or (a.word i) (b.word i))
      (fun k s hk hI => .inl ⟨BSet.setWord s k (u64or (BSet.word s k) (BSet.word b k)), by
        show Ci_ b s k = _
        unfold Ci_
        rw [iteO_dt (by omega), grd_mk hk, grd_mk hk, grd_mk hk, grd_mk (u64or_lt' _ _)]; rfl, fun i hi => by
        rw [BSet.word_set s hk _ i (u64or_lt' _ _) hi]
        by_cases e : i = k
        · subst e; rw [if_pos rfl, if_pos (by omega), hI i hi, if_neg (by omega)]
        · rw [if_neg e, hI i hi]
          by_cases e2 : i < k
          · rw [if_pos e2, if_pos (by omega)]
          · rw [if_neg e2, if_neg (by omega)]⟩)
      (fun s hI => ⟨s, by
        show Ci_ b s 4 = _
        unfold Ci_
        rw [iteO_df (by omega)]; rfl, fun i hi => by rw [hI i hi, if_pos hi]⟩) (s0 := a) (fun i hi => by rw [if_neg (by omega)])
  obtain ⟨r, h1, h2⟩ := h
  rw [h1]
  congr 1
  refine F5_ fun n hn => ?_
  have l1 := BSet.word_lt a.isOk (n / 64)
  have l2 := BSet.word_lt b.isOk (n / 64)
  rw [BSet.make_has _ hn, has_bit', has_bit', has_bit', h2 _ (by omega)]
  unfold u64or
  rw [BitVec.toNat_or, BitVec.toNat_ofNat, BitVec.toNat_ofNat, Nat.mod_eq_of_lt l1, Nat.mod_eq_of_lt l2, Nat.testBit_or]
def cntS (o : Option Nat) (n : Int) : Option Nat := o.bind fun k => if n < 0 ∨ (k : Int) < n then none else some (if n = k then k + 1 else k)
def cntF (l : List Int) : Option Nat := l.foldl cntS (some 0)
theorem cntS_none : ∀ l : List Int, l.foldl cntS none = none
  | [] => rfl
  | _ :: l => cntS_none l
theorem cntF_snoc (l : List Int) (n : Int) : cntF (l ++ [n]) = cntS (cntF l) n := by simp [cntF, List.foldl_append]
theorem cntF_none {l m : List Int} (h : cntF l = none) : cntF (l ++ m) = none := by
  unfold cntF at h ⊢; rw [List.foldl_append, h, cntS_none]
theorem cntF_le : ∀ (l : List Int) (j k : Nat), l.foldl cntS (some j) = some k → k ≤ j + l.length
  | [], j, k, h => by cases h; simp
  | n :: l, j, k, h => by
    rw [List.foldl_cons] at h
    by_cases hc : n < 0 ∨ (j : Int) < n
    · rw [show cntS (some j) n = none by simp [cntS, hc], cntS_none] at h; cases h
    · rw [show cntS (some j) n = some (if n = j then j + 1 else j) by simp [cntS, hc]] at h
      have := cntF_le l _ k h
      simp only [List.length_cons]
      split at this <;> omega
def clsF (cls : List Int) (k c : Nat) : Nat → Bool := fun b => decide (b < k) && decide (nth cls b (0 : Int) = ((c : Nat) : Int))
def clsS (cls : List Int) (c : Nat) : BSet := BSet.make fun b => decide (nth cls b (0 : Int) = ((c : Nat) : Int))
structure SetsI (cls : List Int) (k : Nat) (s : List BSet) : Prop where
  cnt : cntF (cls.take k) = some s.length
  sets : ∀ c, c < s.length → nth s c BSet.zero = BSet.make (clsF cls k c)
  low : ∀ b, b < k → 0 ≤ nth cls b (0 : Int) ∧ nth cls b (0 : Int) < ((s.length : Nat) : Int)
  some_ : ∀ c, c < s.length → ∃ b, b < k ∧ nth cls b (0 : Int) = ((c : Nat) : Int)
theorem nth_set' {α : Type} (l : List α) (i j : Nat) (x d : α) (hi : i < l.length) : nth (l.set i x) j d = if j = i then x else nth l j d := by
  unfold nth
  rw [List.getD_eq_getElem?_getD, List.getD_eq_getElem?_getD, List.getElem?_set]
  by_cases h : i = j
  · subst h; rw [if_pos rfl, if_pos rfl, if_pos hi]; rfl
  · rw [if_neg h, if_neg (fun e => h e.symm)]
theorem nth_app_l {α : Type} (l m : List α) (j : Nat) (d : α) (h : j < l.length) : nth (l ++ m) j d = nth l j d := by
  unfold nth; rw [List.getD_eq_getElem?_getD, List.getD_eq_getElem?_getD, List.getElem?_append_left h]
theorem nth_app_e {α : Type} (l : List α) (x d : α) : nth (l ++ [x]) l.length d = x := by
  unfold nth; rw [List.getD_eq_getElem?_getD, List.getElem?_append_right (Nat.le_refl _)]; simp
theorem take_cons' {l : List Int} {k : Nat} (h : k < l.length) : l.take (k + 1) = l.take k ++ [nth l k 0] := by
  rw [List.take_add_one, getD_some l h 0]; rfl
theorem of1' (k : Nat) (hk : k < 256) {n : Nat} (h : n < 256) : (BSet.ofL [toU8 ((k : Nat) : Int)]).has n = decide (n = k) := by
  unfold BSet.ofL
  rw [BSet.make_has _ h]
  have := toU8_val ((k : Nat) : Int)
  rw [wrap_u8] at this
  have e : (toU8 ((k : Nat) : Int)).toNat = k := by omega
  simp [e]
theorem sets_put {cls : List Int} {k : Nat} {s l : List BSet} (hk : k < 256) (hI : SetsI cls k s) {n : Nat} (hn : nth cls k (0 : Int) = ((n : Nat) : Int)) (hle : s.length ≤ l.length) (hl : l.length ≤ s.length + 1) (hnl : n < l.length) (hs : ∀ c, c < s.length → nth l c BSet.zero = nth s c BSet.zero) (hz : s.length < l.length → n = s.length ∧ nth l n BSet.zero = BSet.zero)
    (hc : cntF (cls.take (k + 1)) = some l.length) : SetsI cls (k + 1) (l.set n (BSet.make fun b => (nth l n BSet.zero).has b || (BSet.ofL [toU8 ((k : Nat) : Int)]).has b)) where
  cnt := by rw [List.length_set]; exact hc
  sets := fun c hcl => by
    rw [List.length_set] at hcl
    rw [nth_set' _ _ _ _ _ hnl]
    by_cases e : c = n
    · subst e
      rw [if_pos rfl]
      refine BSet.make_congr fun b hb => ?_
      rw [of1' k hk hb]
      have h0 : (nth l c BSet.zero).has b = clsF cls k c b := by
        by_cases h1 : c < s.length
        · rw [hs c h1, hI.sets c h1, BSet.make_has _ hb]
        · have h2 := hz (by omega)
          rw [h2.2]
          have h3 : clsF cls k c b = false := by
            unfold clsF
            by_cases hbk : b < k
            · have := (hI.low b hbk).2
              rw [decide_eq_false (show ¬ nth cls b (0 : Int) = ((c : Nat) : Int) by omega), Bool.and_false]
            · rw [decide_eq_false hbk, Bool.false_and]
          rw [h3, ← BSet.make_zero, BSet.make_has _ hb]
      rw [h0]
      unfold clsF
      by_cases hb2 : b = k
      · subst hb2; rw [hn]; simp
      · by_cases hb3 : b < k
        · rw [decide_eq_true hb3, decide_eq_true (show b < k + 1 by omega), decide_eq_false hb2, Bool.or_false]
        · rw [decide_eq_false hb3, decide_eq_false (show ¬ b < k + 1 by omega), decide_eq_false hb2]; rfl
    · rw [if_neg e]
      have h1 : c < s.length := by
        by_cases h2 : s.length < l.length
        · have := (hz h2).1; omega
        · omega
      rw [hs c h1, hI.sets c h1]
      refine BSet.make_congr fun b hb => ?_
      unfold clsF
      by_cases hb2 : b = k
      · subst hb2
        rw [decide_eq_false (Nat.lt_irrefl _), hn, decide_eq_false (show ¬ ((n : Nat) : Int) = ((c : Nat) : Int) by omega)]; simp
      · rw [decide_eq_decide.2 (show b < k ↔ b < k + 1 by omega)]
  low := fun b hb => by
    rw [List.length_set]
    by_cases e : b = k
    · subst e; rw [hn]; omega
    · have := hI.low b (by omega); omega
  some_ := fun c hcl => by
    rw [List.length_set] at hcl
    by_cases h1 : c < s.length
    · obtain ⟨b, h2, h3⟩ := hI.some_ c h1; exact ⟨b, by omega, h3⟩
    · have h2 := hz (by omega)
      exact ⟨k, by omega, by rw [hn]; omega⟩
theorem partSets_full (cls : List Int) : ∃ r, Ea_ cls = some r ∧ (((cls.length ≠ 256 ∨ cntF cls = none) ∧ r.2 = 1) ∨ (cls.length = 256 ∧ cntF cls = some r.1.length ∧ r.2 = 0 ∧ (∀ c, c < r.1.length → nth r.1 c BSet.zero = clsS cls c) ∧ ∀ c, c < r.1.length → ∃ b, b < 256 ∧ nth cls b (0 : Int) = ((c : Nat) : Int))) := by
  unfold Ea_
  by_cases h256 : cls.length = 256
  · rw [iteO_df (show ¬ ((cls.length : Nat) : Int) ≠ 256 by omega)]
    obtain ⟨r, h1, h2⟩ := iter_up (step := fun q : List BSet × Nat => Bn_ cls q.1 q.2) (fun (s : List BSet) k => (s, k)) 256 (fun k s => SetsI cls k s) (fun r => (cntF cls = none ∧ r.2 = 1) ∨ (SetsI cls 256 r.1 ∧ r.2 = 0))
      (fun k s hk hI => by
        have hk' : k < cls.length := by omega
        have hsp : cls = cls.take k ++ (nth cls k 0 :: cls.drop (k + 1)) := by
          rw [← List.singleton_append, ← List.append_assoc, ← take_cons' hk', List.take_append_drop]
        have hle := cntF_le _ _ _ hI.cnt
        rw [List.length_take, Nat.zero_add] at hle
        have hstop : (nth cls k 0 < 0 ∨ (s.length : Int) < nth cls k 0) → cntF cls = none := fun hc => by
          rw [hsp, ← List.singleton_append, ← List.append_assoc]
          exact cntF_none (by rw [cntF_snoc, hI.cnt]; simp [cntS, hc])
        have hgo : ∀ l : List BSet, 0 ≤ nth cls k 0 → nth cls k 0 < (l.length : Int) → Df_ cls k l = some (.inl (l.set (nth cls k (0 : Int)).toNat (BSet.make fun b => (nth l (nth cls k (0 : Int)).toNat BSet.zero).has b || (BSet.ofL [toU8 ((k : Nat) : Int)]).has b), k + 1)) := fun l h0 h1 => by
          unfold Df_; rw [grd_mk ⟨h0, h1⟩, grd_mk (by simp), bnd_some (any_eq _ _), grd_mk ⟨h0, h1⟩]; rfl
        show (∃ s', Bn_ cls s k = _ ∧ _) ∨ ∃ r, Bn_ cls s k = _ ∧ _
        unfold Bn_
        rw [iteO_dt (by omega)]
        by_cases c1 : nth cls k 0 < 0
        · right; rw [iteO_dt c1]; exact ⟨_, rfl, .inl ⟨hstop (.inl c1), rfl⟩⟩
        rw [iteO_df c1]
        by_cases c2 : (s.length : Int) < nth cls k 0
        · right; rw [iteO_dt c2]; exact ⟨_, rfl, .inl ⟨hstop (.inr c2), rfl⟩⟩
        rw [iteO_df c2]
        left
        by_cases c3 : nth cls k 0 = (s.length : Int)
        · rw [iteO_dt c3, grd_mk (by simp; omega), hgo _ (by omega) (by simp; omega)]
          refine ⟨_, rfl, sets_put hk hI (n := (nth cls k (0 : Int)).toNat) (by omega) (by simp) (by simp) (by simp; omega) (fun c hc => nth_app_l _ _ _ _ hc) (fun _ => ⟨by omega, ?_⟩) ?_⟩
          · rw [show (nth cls k (0 : Int)).toNat = s.length by omega, nth_app_e]
          · rw [take_cons' hk', cntF_snoc, hI.cnt]; simp [cntS, c3]
        · rw [iteO_df c3, hgo _ (by omega) (by omega)]
          refine ⟨_, rfl, sets_put hk hI (n := (nth cls k (0 : Int)).toNat) (by omega) (Nat.le_refl _) (by omega) (by omega) (fun _ _ => rfl) (fun h => absurd h (Nat.lt_irrefl _)) ?_⟩
          rw [take_cons' hk', cntF_snoc, hI.cnt]; simp [cntS, c3]; omega)
      (fun s hI => ⟨(s, 0), by
        show Bn_ cls s 256 = _
        unfold Bn_
        rw [iteO_df (by omega)]; rfl, .inr ⟨hI, rfl⟩⟩) (s0 := []) ⟨rfl, by simp, by simp, by simp⟩
    refine ⟨r, h1, ?_⟩
    rcases h2 with ⟨h2, h3⟩ | ⟨h2, h3⟩
    · exact .inl ⟨.inr h2, h3⟩
    · have h4 := h2.cnt
      rw [List.take_of_length_le (by omega)] at h4
      refine .inr ⟨h256, h4, h3, fun c hc => ?_, h2.some_⟩
      rw [h2.sets c hc]
      exact BSet.make_congr fun b hb => by unfold clsF; rw [decide_eq_true hb, Bool.true_and]
  · rw [iteO_dt (show ((cls.length : Nat) : Int) ≠ 256 by omega)]
    exact ⟨_, rfl, .inl ⟨.inl h256, rfl⟩⟩
end Go.Proofs.YtcaaiphgikpgjaaGreatDoor
end

section
namespace Go.Proofs.YtcaaiphgikpgjaaGreatDoor
open Go Go.E
theorem partSets_ok (cls : List Int) : ∃ r, Ea_ cls = some r ∧ (((cls.length ≠ 256 ∨ cntF cls = none) ∧ r.2 = 1) ∨ (cls.length = 256 ∧ cntF cls = some r.1.length ∧ r.2 = 0)) := by
  obtain ⟨r, h, h1 | h1⟩ := partSets_full cls
  · exact ⟨r, h, .inl h1⟩
  · exact ⟨r, h, .inr ⟨h1.1, h1.2.1, h1.2.2.1⟩⟩
def goodS (n : Nat) (s : Int) : Bool := decide (0 ≤ s) && decide (s < (n : Int))
def goodR (n m : Nat) (row : List Int) : Bool := decide (row.length = m) && row.all (goodS n)
def rightD (d : Dfa) : Bool := decide (d.cls.length = 256) && (match cntF d.cls with | some m => d.next.all (goodR d.next.length m) | none => false) && decide (1 ≤ d.next.length ∧ d.next.length ≤ 1024) && decide (d.fin.length = d.next.length)
theorem all_snocD {α : Type} (p : α → Bool) (l : List α) (x : α) : (l ++ [x]).all p = (l.all p && p x) := by simp [List.all_append]
theorem all_falseD {α : Type} {p : α → Bool} {l : List α} {k : Nat} (hk : k < l.length) (d : α) (h : p (nth l k d) = false) : l.all p = false := by
  rw [List.all_eq_false]; exact ⟨_, List.mem_of_getElem? (getD_some l hk d), by simp [h]⟩
theorem chk_in (d : Dfa) (k : Nat) : ∃ r, iter (fun q : Nat => Cd_ d k q) 0 = some r ∧ (((nth d.next k []).all (goodS d.next.length) = true ∧ r = .inl (k + 1)) ∨ ((nth d.next k []).all (goodS d.next.length) = false ∧ r = .inr 1)) :=
  iter_for (step := fun q : Nat => Cd_ d k q) (fun (_ : Unit) j => j) (nth d.next k []) 0 (fun pre _ => pre.all (goodS d.next.length) = true) (fun r => ((nth d.next k []).all (goodS d.next.length) = true ∧ r = .inl (k + 1)) ∨ ((nth d.next k []).all (goodS d.next.length) = false ∧ r = .inr 1))
    (fun j s hj hI => by
      simp only [Cd_]
      rw [show decide (((j : Nat) : Int) < (((nth d.next k ([] : List Int)).length : Nat) : Int)) = true from decide_eq_true (by omega), iteO_true]
      by_cases c1 : nth (nth d.next k ([] : List Int)) j (0 : Int) < 0
      · right; rw [decide_eq_true c1, iteO_true]; exact ⟨_, rfl, .inr ⟨all_falseD hj 0 (by simp [goodS]; omega), rfl⟩⟩
      rw [decide_eq_false c1, iteO_false]
      by_cases c2 : ((d.next.length : Nat) : Int) ≤ nth (nth d.next k ([] : List Int)) j (0 : Int)
      · right; rw [decide_eq_true c2, iteO_true]; exact ⟨_, rfl, .inr ⟨all_falseD hj 0 (by simp [goodS]; omega), rfl⟩⟩
      rw [decide_eq_false c2, iteO_false]
      left
      exact ⟨(), rfl, by rw [all_snocD, hI]; simp [goodS]; omega⟩)
    (fun s hI => by
      simp only [Cd_]
      rw [show decide ((((nth d.next k ([] : List Int)).length : Nat) : Int) < (((nth d.next k ([] : List Int)).length : Nat) : Int)) = false from decide_eq_false (by omega), iteO_false]
      exact ⟨_, rfl, .inl ⟨hI, rfl⟩⟩) (s0 := ()) rfl
theorem chk_out (d : Dfa) (v : (List BSet) × Int) : ∃ r, iter (fun q : Nat => Cb_ d v q) 0 = some r ∧ ((d.next.all (goodR d.next.length v.1.length) = true ∧ r = 0) ∨ (d.next.all (goodR d.next.length v.1.length) = false ∧ r = 1)) :=
  iter_for (step := fun q : Nat => Cb_ d v q) (fun (_ : Unit) j => j) d.next [] (fun pre _ => pre.all (goodR d.next.length v.1.length) = true) (fun r => (d.next.all (goodR d.next.length v.1.length) = true ∧ r = 0) ∨ (d.next.all (goodR d.next.length v.1.length) = false ∧ r = 1))
    (fun k s hk hI => by
      simp only [Cb_]
      rw [show decide (((k : Nat) : Int) < ((d.next.length : Nat) : Int)) = true from decide_eq_true (by omega), iteO_true]
      by_cases c1 : (nth d.next k ([] : List Int)).length = v.1.length
      · rw [show decide ((((nth d.next k ([] : List Int)).length : Nat) : Int) ≠ ((v.1.length : Nat) : Int)) = false from decide_eq_false (by omega), iteO_false]
        obtain ⟨r, h1, h2 | h2⟩ := chk_in d k
        · left; rw [h1, h2.2]; exact ⟨(), rfl, by rw [all_snocD, hI]; simp [goodR, c1, h2.1]⟩
        · right; rw [h1, h2.2]; exact ⟨_, rfl, .inr ⟨all_falseD hk [] (by simp only [goodR, h2.1, Bool.and_false]), rfl⟩⟩
      · right
        rw [show decide ((((nth d.next k ([] : List Int)).length : Nat) : Int) ≠ ((v.1.length : Nat) : Int)) = true from decide_eq_true (by omega), iteO_true]
        exact ⟨_, rfl, .inr ⟨all_falseD hk [] (by simp [goodR, c1]), rfl⟩⟩)
    (fun s hI => by
      simp only [Cb_]
      rw [show decide (((d.next.length : Nat) : Int) < ((d.next.length : Nat) : Int)) = false from decide_eq_false (by omega), iteO_false]
      exact ⟨_, rfl, .inl ⟨hI, rfl⟩⟩) (s0 := ()) rfl
theorem dcheck_eq (d : Dfa) : E0_ d = some (if rightD d = true then 0 else 1) := by
  unfold E0_
  obtain ⟨v, hv, h⟩ := partSets_ok d.cls
  rw [bnd_some hv]
  rcases h with ⟨h1, h2⟩ | ⟨h1, h2, h3⟩
  · rw [decide_eq_true (show v.2 ≠ 0 by omega), iteO_true]
    rw [if_neg]
    rcases h1 with h1 | h1
    · simp [rightD, h1]
    · simp [rightD, h1]
  · rw [decide_eq_false (show ¬ v.2 ≠ 0 by omega), iteO_false]
    by_cases c1 : d.next.length < 1
    · rw [show decide (((d.next.length : Nat) : Int) < 1) = true from decide_eq_true (by omega), iteO_true, if_neg]
      simp only [rightD, Bool.and_eq_true, decide_eq_true_eq]; omega
    rw [show decide (((d.next.length : Nat) : Int) < 1) = false from decide_eq_false (by omega), iteO_false]
    by_cases c2 : 1024 < d.next.length
    · rw [show decide (1024 < ((d.next.length : Nat) : Int)) = true from decide_eq_true (by omega), iteO_true, if_neg]
      simp only [rightD, Bool.and_eq_true, decide_eq_true_eq]; omega
    rw [show decide (1024 < ((d.next.length : Nat) : Int)) = false from decide_eq_false (by omega), iteO_false]
    by_cases c3 : d.fin.length = d.next.length
    · rw [show decide (((d.fin.length : Nat) : Int) ≠ ((d.next.length : Nat) : Int)) = false from decide_eq_false (by omega), iteO_false]
      obtain ⟨r, hr, hr2⟩ := chk_out d v
      rw [hr]
      have e : rightD d = d.next.all (goodR d.next.length v.1.length) := by
        simp only [rightD, h1, h2, c3, decide_true, Bool.true_and, Bool.and_true]
        rw [show decide (1 ≤ d.next.length ∧ d.next.length ≤ 1024) = true from decide_eq_true (by omega), Bool.and_true]
      rw [e]
      rcases hr2 with ⟨h4, h5⟩ | ⟨h4, h5⟩
      · rw [h4, h5, if_pos rfl]
      · rw [h4, h5, if_neg (by simp)]
    · rw [show decide (((d.fin.length : Nat) : Int) ≠ ((d.next.length : Nat) : Int)) = true from decide_eq_true (by omega), iteO_true, if_neg]
      simp only [rightD, Bool.and_eq_true, decide_eq_true_eq]; omega
theorem cnt_mem : ∀ (l : List Int) (j m : Nat), l.foldl cntS (some j) = some m → j ≤ m ∧ ∀ n ∈ l, 0 ≤ n ∧ n < (m : Int)
  | [], j, m, h => by cases h; simp
  | n :: l, j, m, h => by
    rw [List.foldl_cons] at h
    by_cases hc : n < 0 ∨ (j : Int) < n
    · rw [show cntS (some j) n = none by simp [cntS, hc], cntS_none] at h; cases h
    · rw [show cntS (some j) n = some (if n = j then j + 1 else j) by simp [cntS, hc]] at h
      obtain ⟨h1, h2⟩ := cnt_mem l _ m h
      refine ⟨by split at h1 <;> omega, fun k hk => ?_⟩
      rcases List.mem_cons.1 hk with rfl | hk
      · split at h1 <;> omega
      · exact h2 k hk
def okS (d : Dfa) (s : Int) : Prop := 0 ≤ s ∧ s < (d.next.length : Int)
def dlt (d : Dfa) (s : Int) (b : UInt8) : Int := nth (nth d.next s.toNat ([] : List Int)) ((nth d.cls b.toNat (0 : Int)).toNat) (0 : Int)
theorem nth_memD {α : Type} {l : List α} {i : Nat} (hi : i < l.length) (d : α) : nth l i d ∈ l := List.mem_of_getElem? (getD_some l hi d)
structure DltOk (d : Dfa) (s : Int) (b : UInt8) : Prop where
  cl : b.toNat < d.cls.length
  c : 0 ≤ nth d.cls b.toNat (0 : Int) ∧ nth d.cls b.toNat (0 : Int) < ((nth d.next s.toNat ([] : List Int)).length : Int)
  nx : okS d (dlt d s b)
  f : 0 ≤ dlt d s b ∧ dlt d s b < (d.fin.length : Int)
theorem dlt_ok {d : Dfa} (h : rightD d = true) {s : Int} (hs : okS d s) (b : UInt8) : DltOk d s b := by
  simp only [rightD, Bool.and_eq_true, decide_eq_true_eq] at h
  obtain ⟨⟨⟨h1, h2⟩, h3⟩, h4⟩ := h
  cases hm : cntF d.cls with
  | none => rw [hm] at h2; cases h2
  | some m =>
    rw [hm] at h2
    have hb := UInt8.toNat_lt b
    have hcl : b.toNat < d.cls.length := by omega
    have hc := (cnt_mem d.cls 0 m hm).2 _ (nth_memD hcl 0)
    obtain ⟨hs0, hs1⟩ := hs
    have hrow := List.all_eq_true.1 h2 _ (nth_memD (l := d.next) (i := s.toNat) (by omega) [])
    simp only [goodR, Bool.and_eq_true, decide_eq_true_eq] at hrow
    obtain ⟨hr1, hr2⟩ := hrow
    have hx := List.all_eq_true.1 hr2 _ (nth_memD (l := nth d.next s.toNat []) (i := (nth d.cls b.toNat (0 : Int)).toNat) (by omega) 0)
    simp only [goodS, Bool.and_eq_true, decide_eq_true_eq] at hx
    exact ⟨hcl, ⟨hc.1, by omega⟩, hx, ⟨hx.1, by have := hx.2; unfold dlt; omega⟩⟩
theorem ok0 {d : Dfa} (h : rightD d = true) : okS d 0 := by
  simp only [rightD, Bool.and_eq_true, decide_eq_true_eq] at h
  exact ⟨by omega, by omega⟩
def runD (d : Dfa) (q : Int) (l : List UInt8) : Int := l.foldl (dlt d) q
theorem runD_ok {d : Dfa} (h : rightD d = true) : ∀ (l : List UInt8) {q : Int}, okS d q → okS d (runD d q l)
  | [], _, hq => hq
  | b :: l, q, hq => by
    rw [runD, List.foldl_cons]; exact runD_ok h l (dlt_ok h hq b).nx
end Go.Proofs.YtcaaiphgikpgjaaGreatDoor
end

section
namespace Go.Proofs.YtcaaiphgikpgjaaGreatDoor
open Go Go.E
def growSt (g : Grow) (x : Tip) : Grow := if g.over = true ∨ 1024 ≤ g.f.starts.length ∨ 1024 < x.out.length then ⟨g.f, true⟩ else ⟨⟨g.f.states, g.f.starts ++ [x], g.f.ends, g.f.arcs⟩, false⟩
def growEn (g : Grow) (x : Tip) : Grow := if g.over = true ∨ 1024 ≤ g.f.ends.length ∨ 1024 < x.out.length then ⟨g.f, true⟩ else ⟨⟨g.f.states, g.f.starts, g.f.ends ++ [x], g.f.arcs⟩, false⟩
def growAr (g : Grow) (x : Arc) : Grow := if g.over = true ∨ 16384 ≤ g.f.arcs.length ∨ 1024 < x.out.length then ⟨g.f, true⟩ else ⟨⟨g.f.states, g.f.starts, g.f.ends, g.f.arcs ++ [x]⟩, false⟩
def lookG (g : Grow) : Fst × Int := if g.over = true ∨ 1024 < g.f.states then (⟨0, [], [], []⟩, 2) else (g.f, 0)
theorem start_eq (g : Grow) (x : Tip) : Ck_ g x = some (growSt g x) := by
  unfold Ck_ growSt
  obtain ⟨⟨n, S, E, A⟩, o⟩ := g
  cases o with
  | true => rw [if_pos (.inl rfl)]; rfl
  | false =>
    dsimp only
    rw [iteO_false]
    by_cases h1 : 1024 ≤ S.length
    · rw [iteO_dt (by omega), if_pos (.inr (.inl h1))]
    · rw [iteO_df (by omega)]
      by_cases h2 : 1024 < x.out.length
      · rw [iteO_dt (by omega), if_pos (.inr (.inr h2))]
      · rw [iteO_df (by omega), grd_mk (by simp only [List.length_singleton]; omega), if_neg (by simp; omega)]
theorem end_eq (g : Grow) (x : Tip) : Dg_ g x = some (growEn g x) := by
  unfold Dg_ growEn
  obtain ⟨⟨n, S, E, A⟩, o⟩ := g
  cases o with
  | true => rw [if_pos (.inl rfl)]; rfl
  | false =>
    dsimp only
    rw [iteO_false]
    by_cases h1 : 1024 ≤ E.length
    · rw [iteO_dt (by omega), if_pos (.inr (.inl h1))]
    · rw [iteO_df (by omega)]
      by_cases h2 : 1024 < x.out.length
      · rw [iteO_dt (by omega), if_pos (.inr (.inr h2))]
      · rw [iteO_df (by omega), grd_mk (by simp only [List.length_singleton]; omega), if_neg (by simp; omega)]
theorem arc_eq (g : Grow) (x : Arc) : Dh_ g x = some (growAr g x) := by
  unfold Dh_ growAr
  obtain ⟨⟨n, S, E, A⟩, o⟩ := g
  cases o with
  | true => rw [if_pos (.inl rfl)]; rfl
  | false =>
    dsimp only
    rw [iteO_false]
    by_cases h1 : 16384 ≤ A.length
    · rw [iteO_dt (by omega), if_pos (.inr (.inl h1))]
    · rw [iteO_df (by omega)]
      by_cases h2 : 1024 < x.out.length
      · rw [iteO_dt (by omega), if_pos (.inr (.inr h2))]
      · rw [iteO_df (by omega), grd_mk (by simp only [List.length_singleton]; omega), if_neg (by simp; omega)]
theorem look_eq (g : Grow) : Bt_ g = some (lookG g) := by
  unfold Bt_ lookG
  obtain ⟨⟨n, S, E, A⟩, o⟩ := g
  cases o with
  | true => rw [if_pos (.inl rfl)]; rfl
  | false =>
    dsimp only
    rw [iteO_false]
    by_cases h : 1024 < n
    · rw [iteO_dt h, if_pos (.inr h)]
    · rw [iteO_df h, if_neg (by simp; omega)]
structure RowOk (d : Dfa) (m s b : Nat) : Prop where
  cl : b < d.cls.length
  c0 : 0 ≤ nth d.cls b (0 : Int)
  c1 : nth d.cls b (0 : Int) < ((m : Nat) : Int)
  n0 : 0 ≤ nth (nth d.next s ([] : List Int)) (nth d.cls b (0 : Int)).toNat (0 : Int)
  n1 : nth (nth d.next s ([] : List Int)) (nth d.cls b (0 : Int)).toNat (0 : Int) < ((d.next.length : Nat) : Int)
theorem right_parts {d : Dfa} (h : rightD d = true) : ∃ m, cntF d.cls = some m ∧ d.cls.length = 256 ∧ 1 ≤ d.next.length ∧ d.next.length ≤ 1024 ∧ d.fin.length = d.next.length ∧ (∀ s, s < d.next.length → (nth d.next s ([] : List Int)).length = m ∧ ∀ c, c < m → 0 ≤ nth (nth d.next s ([] : List Int)) c (0 : Int) ∧ nth (nth d.next s ([] : List Int)) c (0 : Int) < ((d.next.length : Nat) : Int)) := by
  simp only [rightD, Bool.and_eq_true, decide_eq_true_eq] at h
  obtain ⟨⟨⟨h1, h2⟩, h3⟩, h4⟩ := h
  cases hm : cntF d.cls with
  | none => rw [hm] at h2; cases h2
  | some m =>
    rw [hm] at h2
    refine ⟨m, rfl, h1, h3.1, h3.2, h4, fun s hs => ?_⟩
    have hrow := List.all_eq_true.1 h2 _ (nth_memD (l := d.next) (i := s) hs [])
    simp only [goodR, Bool.and_eq_true, decide_eq_true_eq] at hrow
    refine ⟨hrow.1, fun c hc => ?_⟩
    have hx := List.all_eq_true.1 hrow.2 _ (nth_memD (l := nth d.next s []) (i := c) (by omega) 0)
    simp only [goodS, Bool.and_eq_true, decide_eq_true_eq] at hx
    exact hx
structure ByI (d : Dfa) (s k : Nat) (l : List BSet) : Prop where
  len : l.length = 1024
  at_ : ∀ z, z < 1024 → nth l z BSet.zero = BSet.make fun b => decide (nth d.cls b (0 : Int) < ((k : Nat) : Int)) && decide (nth (nth d.next s ([] : List Int)) (nth d.cls b (0 : Int)).toNat (0 : Int) = ((z : Nat) : Int))
end Go.Proofs.YtcaaiphgikpgjaaGreatDoor
end

section
namespace Go.Proofs.YtcaaiphgikpgjaaGreatDoor
open Go Go.E
def shT (n : Int) (l : List Tip) : List Tip := l.map fun x => ⟨x.state + n, x.out⟩
def shA (n : Int) (l : List Arc) : List Arc := l.map fun x => ⟨x.frm + n, x.to + n, x.set, x.out, x.copy⟩
def fAlt (a b : Fst) : Fst := ⟨a.states + b.states, a.starts ++ shT a.states b.starts, a.ends ++ shT a.states b.ends, a.arcs ++ shA a.states b.arcs⟩
theorem mem_shT {n : Int} {l : List Tip} {y : Tip} : y ∈ shT n l ↔ ∃ x ∈ l, y = ⟨x.state + n, x.out⟩ := by
  unfold shT; rw [List.mem_map]
  exact ⟨fun ⟨x, h, e⟩ => ⟨x, h, e.symm⟩, fun ⟨x, h, e⟩ => ⟨x, h, e.symm⟩⟩
theorem mem_shA {n : Int} {l : List Arc} {y : Arc} : y ∈ shA n l ↔ ∃ x ∈ l, y = ⟨x.frm + n, x.to + n, x.set, x.out, x.copy⟩ := by
  unfold shA; rw [List.mem_map]
  exact ⟨fun ⟨x, h, e⟩ => ⟨x, h, e.symm⟩, fun ⟨x, h, e⟩ => ⟨x, h, e.symm⟩⟩
theorem alt_left {a b : Fst} (ha : FstOk a) (hb : FstOk b) : ∀ x ∈ (fAlt a b).arcs, x.frm < a.states → x.to < a.states ∧ (⟨id x.frm, id x.to, x.set, x.out, x.copy⟩ : Arc) ∈ a.arcs := fun x hx h => by
  rcases List.mem_append.1 hx with hx | hx
  · exact ⟨(ha.arcs x hx).2.1.2, hx⟩
  · obtain ⟨y, hy, rfl⟩ := mem_shA.1 hx
    have := (hb.arcs y hy).1.1
    dsimp only at h; omega
theorem alt_right {a b : Fst} (ha : FstOk a) (hb : FstOk b) : ∀ x ∈ (fAlt a b).arcs, a.states ≤ x.frm → a.states ≤ x.to ∧ (⟨x.frm - a.states, x.to - a.states, x.set, x.out, x.copy⟩ : Arc) ∈ b.arcs := fun x hx h => by
  rcases List.mem_append.1 hx with hx | hx
  · have := (ha.arcs x hx).1.2; omega
  · obtain ⟨y, hy, rfl⟩ := mem_shA.1 hx
    have := (hb.arcs y hy).2.1.1
    dsimp only
    refine ⟨by omega, ?_⟩
    rw [show y.frm + a.states - a.states = y.frm by omega, show y.to + a.states - a.states = y.to by omega]; exact hy
theorem rel_alt {a b : Fst} (ha : FstOk a) (hb : FstOk b) {w o : List UInt8} : Rel (fAlt a b) w o ↔ Rel a w o ∨ Rel b w o := by
  constructor
  · rintro ⟨x, hx, e, he, m, hw, rfl⟩
    rcases List.mem_append.1 hx with hx | hx
    · obtain ⟨h1, h2⟩ := Wy.unmap (fun s => s < a.states) id (alt_left ha hb) hw (ha.starts x hx).1.2
      rcases List.mem_append.1 he with he | he
      · exact .inl ⟨x, hx, e, he, m, h2, rfl⟩
      · obtain ⟨y, hy, rfl⟩ := mem_shT.1 he
        have := (hb.ends y hy).1.1
        dsimp only at h1; omega
    · obtain ⟨x', hx', rfl⟩ := mem_shT.1 hx
      obtain ⟨h1, h2⟩ := Wy.unmap (fun s => a.states ≤ s) (fun s => s - a.states) (alt_right ha hb) hw (by have := (hb.starts x' hx').1.1; dsimp only; omega)
      dsimp only at h2
      rw [show x'.state + a.states - a.states = x'.state by omega] at h2
      rcases List.mem_append.1 he with he | he
      · have := (ha.ends e he).1.2; omega
      · obtain ⟨y, hy, rfl⟩ := mem_shT.1 he
        dsimp only at h2
        rw [show y.state + a.states - a.states = y.state by omega] at h2
        exact .inr ⟨x', hx', y, hy, m, h2, rfl⟩
  · rintro (⟨x, hx, e, he, m, hw, rfl⟩ | ⟨x, hx, e, he, m, hw, rfl⟩)
    · exact ⟨x, List.mem_append_left _ hx, e, List.mem_append_left _ he, m, hw.map id (fun y hy => List.mem_append_left _ hy), rfl⟩
    · exact ⟨_, List.mem_append_right _ (mem_shT.2 ⟨x, hx, rfl⟩), _, List.mem_append_right _ (mem_shT.2 ⟨e, he, rfl⟩), m, hw.map (fun s => s + a.states) (fun y hy => List.mem_append_right _ (mem_shA.2 ⟨y, hy, rfl⟩)), rfl⟩
end Go.Proofs.YtcaaiphgikpgjaaGreatDoor
end

section
namespace Go.Proofs.YtcaaiphgikpgjaaGreatDoor
open Go Go.E Go.E.OpVal Go.E.OpOk Go.Proofs.Tryz
private theorem ag33 : Go.E.aggOf Tryz.prog 33 = some false := by kernel_rfl
private theorem fo41_0 : Go.E.foOf Tryz.prog 41 0 = some 0 := by kernel_rfl
private theorem fo59_0 : Go.E.foOf Tryz.prog 59 0 = some 0 := by kernel_rfl
private theorem fo59_1 : Go.E.foOf Tryz.prog 59 1 = some 1 := by kernel_rfl
private theorem fo59_4 : Go.E.foOf Tryz.prog 59 4 = some 7 := by kernel_rfl
private theorem pf24 : Go.E.plainF Tryz.prog 24 = true := by kernel_rfl
private theorem pf26 : Go.E.plainF Tryz.prog 26 = true := by kernel_rfl
private theorem pf27 : Go.E.plainF Tryz.prog 27 = true := by kernel_rfl
private theorem pf28 : Go.E.plainF Tryz.prog 28 = true := by kernel_rfl
private theorem pf32 : Go.E.plainF Tryz.prog 32 = true := by kernel_rfl
private theorem pf33 : Go.E.plainF Tryz.prog 33 = true := by kernel_rfl
private theorem pf34 : Go.E.plainF Tryz.prog 34 = true := by kernel_rfl
private theorem pf35 : Go.E.plainF Tryz.prog 35 = true := by kernel_rfl
private theorem pf36 : Go.E.plainF Tryz.prog 36 = true := by kernel_rfl
private theorem pl67 : Go.E.plOf Tryz.prog 67 = some #[(0, 4), (4, 1)] := by kernel_rfl
private theorem ze33 : Go.E.zeroOf Tryz.prog 33 = some (.int .i64 0) := by kernel_rfl
private theorem ze67 : Go.E.zeroOf Tryz.prog 67 = some (.agg #[.int .i64 0, .slice none 0 0, .slice none 0 0, .slice none 0 0, .bool false]) := by kernel_rfl
noncomputable def Aw_ (x1 : List Tip) (x2 : Int) (i138 : Int) (l140 : List Tip) (l144 : List Tip) (l148 : List Arc) (t151 : Bool) (k152 : Nat) : Option ((Int × (List Tip) × (List Tip) × (List Arc) × Bool × Nat) ⊕ (Grow)) :=
 iteO (decide (((k152 : Nat) : Int) < ((x1.length : Nat) : Int))) (bnd (Ck_ (⟨(⟨i138, l140, l144, l148⟩ : Fst), t151⟩ : Grow) (⟨IntKind.i64.wrap (((nth x1 k152 Tip.zero).state) + x2), (nth x1 k152 Tip.zero).out⟩ : Tip)) (fun v17 => nxt (v17.f.states, v17.f.starts, v17.f.ends, v17.f.arcs, v17.over, (k152 + 1)))) (fin (some (⟨(⟨i138, l140, l144, l148⟩ : Fst), t151⟩ : Grow)))
noncomputable def Cg_ (x0 : Grow) (x1 : List Tip) (x2 : Int) : Option (Grow) :=
 iter (fun q : Int × (List Tip) × (List Tip) × (List Arc) × Bool × Nat => Aw_ x1 x2 q.1 q.2.1 q.2.2.1 q.2.2.2.1 q.2.2.2.2.1 q.2.2.2.2.2) (x0.f.states, x0.f.starts, x0.f.ends, x0.f.arcs, x0.over, 0)
theorem Em_ {σ : Store} {x0 : Grow} {b0_0 : Nat} {Eb0 : Nat} {a0_1 : Option Addr} {c0_2 : Nat} {a0_3 : Option Addr} {c0_4 : Nat} {a0_5 : Option Addr} {c0_6 : Nat} {x1 : List Tip} {a1_0 : Option Addr} {c1_0 : Nat} {x2 : Int} (f1_0 : RS σ 2 encTip (.slice a1_0 x1.length c1_0) x1) {r : Grow} (hh : Cg_ x0 x1 x2 = some r) :
  Con Tryz.prog 34 #[loc b0_0 0, .slice a1_0 x1.length c1_0, .int .i64 x2] σ [Res.cells b0_0 #[.int .i64 x0.f.states, .slice a0_1 x0.f.starts.length c0_2, .slice a0_3 x0.f.ends.length c0_4, .slice a0_5 x0.f.arcs.length c0_6, .bool x0.over] Eb0, Res.rowS 41 2 encTip (.slice a0_1 x0.f.starts.length c0_2) x0.f.starts, Res.rowS 41 2 encTip (.slice a0_3 x0.f.ends.length c0_4) x0.f.ends, Res.rowS 59 8 encArc (.slice a0_5 x0.f.arcs.length c0_6) x0.f.arcs] (fun v σ' H' => ∃ (ao1 : Option Addr), ∃ (co2 : Nat), ∃ (ao3 : Option Addr), ∃ (co4 : Nat), ∃ (ao5 : Option Addr), ∃ (co6 : Nat), v = .tuple #[] ∧ σ = σ' ∧ H' = [Res.cells b0_0 #[.int .i64 r.f.states, .slice ao1 r.f.starts.length co2, .slice ao3 r.f.ends.length co4, .slice ao5 r.f.arcs.length co6, .bool r.over] Eb0, Res.rowS 41 2 encTip (.slice ao1 r.f.starts.length co2) r.f.starts, Res.rowS 41 2 encTip (.slice ao3 r.f.ends.length co4) r.f.ends, Res.rowS 59 8 encArc (.slice ao5 r.f.arcs.length co6) r.f.arcs]) := by
 dsimp only [Cg_] at hh
 have f1_0b := f1_0.rv.big
 refine Con.mk (n := 24) Tryz.func34 z z z (fun w0 => ?_)
 refine TC.a (TL.s z z (TL.w z (lenC z underlying22 z) (TL.i z z (TL.en (TC.block (TC.loopG (α := (Int × (List Tip) × (List Tip) × (List Arc) × Bool × Nat) × ((Option Addr) × Nat × (Option Addr) × Nat × (Option Addr) × Nat)) (rgs [(7, 1), (10, 14)]) (fun g => [(10, .int .i64 ((g.1.2.2.2.2.2 : Nat) : Int))]) (fun g => [Res.cells b0_0 #[.int .i64 g.1.1, .slice g.2.1 g.1.2.1.length g.2.2.1, .slice g.2.2.2.1 g.1.2.2.1.length g.2.2.2.2.1, .slice g.2.2.2.2.2.1 g.1.2.2.2.1.length g.2.2.2.2.2.2, .bool g.1.2.2.2.2.1] Eb0, Res.rowS 41 2 encTip (.slice g.2.1 g.1.2.1.length g.2.2.1) g.1.2.1, Res.rowS 41 2 encTip (.slice g.2.2.2.1 g.1.2.2.1.length g.2.2.2.2.1) g.1.2.2.1, Res.rowS 59 8 encArc (.slice g.2.2.2.2.2.1 g.1.2.2.2.1.length g.2.2.2.2.2.2) g.1.2.2.2.1]) (fun g => σ) (fun g => iter (fun q : Int × (List Tip) × (List Tip) × (List Arc) × Bool × Nat => Aw_ x1 x2 q.1 q.2.1 q.2.2.1 q.2.2.2.1 q.2.2.2.2.1 q.2.2.2.2.2) g.1 = some r) (fun g => rounds (fun q : Int × (List Tip) × (List Tip) × (List Arc) × Bool × Nat => Aw_ x1 x2 q.1 q.2.1 q.2.2.1 q.2.2.2.1 q.2.2.2.2.1 q.2.2.2.2.2) g.1) ((x0.f.states, x0.f.starts, x0.f.ends, x0.f.arcs, x0.over, 0), (a0_1, c0_2, a0_3, c0_4, a0_5, c0_6)) (Sub.f [3, 3, 3, 3] 4) z (by repeat (first | exact trivial | refine ⟨z, ?_⟩)) hh (fun g1 j1 hg1 => ?_)))))))
 obtain ⟨⟨i138, l140, l144, l148, t151, k152⟩, ⟨a141, c142, a145, c146, a149, c150⟩⟩ := g1
 have hh := hg1; clear hg1
 try dsimp only
 obtain ⟨z1, hh, hR1⟩ := iter_e hh
 dsimp only [Aw_] at hh
 refine TC.isSl (i := 1) z (fun _ hb153 _ => ?_)
 refine TC.isSl (i := 2) z (fun _ hb154 _ => ?_)
 refine TC.isSl (i := 3) z (fun _ hb155 _ => ?_)
 refine TC.a (TL.w z (OpVal.lss z z z) (TL.en (TC.seq (TC.cD z hh (fun h156 hh => ?_) (fun h156 hh => ?_)))))
 ·refine TC.skip (S.n (TC.seq (TC.block (TC.a (TL.w z (indexN z underlying22 sz41 z z f1_0.rv.sl (by omega)) (TL.w z (loadSA Tip.zero z ag41 sz41 z f1_0 (by omega) (by omega)) (TL.op z (OpOk.alloc z ze41 z z (fun b157 => ?_)))))))))
  refine TL.op z (storeAll z sz41 z z z z z z ?_)
  refine TL.en (TC.region (TL.l z z (TL.w z (fieldLoc z fo41_0 z) (TL.w z (loadLoc z ag3 z (i := 0) z z) (TL.i z z (TL.w z (addW z z z) (TL.w z (fieldLoc z fo41_1 z) (TL.w z (loadLoc z ag9 z (i := 0) z z) (TL.w z (buildL z pl41 ze41 z) (TL.front 4 z z (TL.front 4 z z (TL.front 4 z z (TL.front 4 z z ?_)))))))))))))
  obtain ⟨v17, u17, hh⟩ := bnd_e hh
  refine TL.op z (OpOk.call (Ez_ u17) z z pf27 z z z z ?_)
  rintro _ _ _ hle159 ⟨a159_1, c159_2, a159_3, c159_4, a159_5, c159_6, rfl, rfl, rfl⟩
  refine TL.nil (B.n (S.n (TC.region (TL.w z (OpVal.succ z z z (by omega)) (TL.i z z (TL.en ?_))))))
  obtain ⟨hh, hlt163⟩ := nxt_x hR1 hh
  exact lf ((v17.f.states, v17.f.starts, v17.f.ends, v17.f.arcs, v17.over, (k152 + 1)), (a159_1, c159_2, a159_3, c159_4, a159_5, c159_6)) hlt163 hh (Sub.f [3, 3, 3, 3] 4)
 ·refine TC.exit (S.x (S.x ?_))
  replace hh := fin_x hR1 hh
  refine TC.exitHere ?_
  obtain rfl := so hh
  exact RetOk.mk' (rs := []) [Res.cells b0_0 #[.int .i64 i138, .slice a141 l140.length c142, .slice a145 l144.length c146, .slice a149 l148.length c150, .bool t151] Eb0, Res.rowS 41 2 encTip (.slice a141 l140.length c142) l140, Res.rowS 41 2 encTip (.slice a145 l144.length c146) l144, Res.rowS 59 8 encArc (.slice a149 l148.length c150) l148] z (.inr z) RVs.nil (List.sublist_append_left _ _) ⟨a141, c142, a145, c146, a149, c150, z, z, z⟩
noncomputable def A5_ (x1 : List Tip) (x2 : Int) (i138 : Int) (l140 : List Tip) (l144 : List Tip) (l148 : List Arc) (t151 : Bool) (k152 : Nat) : Option ((Int × (List Tip) × (List Tip) × (List Arc) × Bool × Nat) ⊕ (Grow)) :=
 iteO (decide (((k152 : Nat) : Int) < ((x1.length : Nat) : Int))) (bnd (Dg_ (⟨(⟨i138, l140, l144, l148⟩ : Fst), t151⟩ : Grow) (⟨IntKind.i64.wrap (((nth x1 k152 Tip.zero).state) + x2), (nth x1 k152 Tip.zero).out⟩ : Tip)) (fun v17 => nxt (v17.f.states, v17.f.starts, v17.f.ends, v17.f.arcs, v17.over, (k152 + 1)))) (fin (some (⟨(⟨i138, l140, l144, l148⟩ : Fst), t151⟩ : Grow)))
noncomputable def C0_ (x0 : Grow) (x1 : List Tip) (x2 : Int) : Option (Grow) :=
 iter (fun q : Int × (List Tip) × (List Tip) × (List Arc) × Bool × Nat => A5_ x1 x2 q.1 q.2.1 q.2.2.1 q.2.2.2.1 q.2.2.2.2.1 q.2.2.2.2.2) (x0.f.states, x0.f.starts, x0.f.ends, x0.f.arcs, x0.over, 0)
theorem E6_ {σ : Store} {x0 : Grow} {b0_0 : Nat} {Eb0 : Nat} {a0_1 : Option Addr} {c0_2 : Nat} {a0_3 : Option Addr} {c0_4 : Nat} {a0_5 : Option Addr} {c0_6 : Nat} {x1 : List Tip} {a1_0 : Option Addr} {c1_0 : Nat} {x2 : Int} (f1_0 : RS σ 2 encTip (.slice a1_0 x1.length c1_0) x1) {r : Grow} (hh : C0_ x0 x1 x2 = some r) :
  Con Tryz.prog 35 #[loc b0_0 0, .slice a1_0 x1.length c1_0, .int .i64 x2] σ [Res.cells b0_0 #[.int .i64 x0.f.states, .slice a0_1 x0.f.starts.length c0_2, .slice a0_3 x0.f.ends.length c0_4, .slice a0_5 x0.f.arcs.length c0_6, .bool x0.over] Eb0, Res.rowS 41 2 encTip (.slice a0_1 x0.f.starts.length c0_2) x0.f.starts, Res.rowS 41 2 encTip (.slice a0_3 x0.f.ends.length c0_4) x0.f.ends, Res.rowS 59 8 encArc (.slice a0_5 x0.f.arcs.length c0_6) x0.f.arcs] (fun v σ' H' => ∃ (ao1 : Option Addr), ∃ (co2 : Nat), ∃ (ao3 : Option Addr), ∃ (co4 : Nat), ∃ (ao5 : Option Addr), ∃ (co6 : Nat), v = .tuple #[] ∧ σ = σ' ∧ H' = [Res.cells b0_0 #[.int .i64 r.f.states, .slice ao1 r.f.starts.length co2, .slice ao3 r.f.ends.length co4, .slice ao5 r.f.arcs.length co6, .bool r.over] Eb0, Res.rowS 41 2 encTip (.slice ao1 r.f.starts.length co2) r.f.starts, Res.rowS 41 2 encTip (.slice ao3 r.f.ends.length co4) r.f.ends, Res.rowS 59 8 encArc (.slice ao5 r.f.arcs.length co6) r.f.arcs]) := by
 dsimp only [C0_] at hh
 have f1_0b := f1_0.rv.big
 refine Con.mk (n := 24) Tryz.func35 z z z (fun w0 => ?_)
 refine TC.a (TL.s z z (TL.w z (lenC z underlying22 z) (TL.i z z (TL.en (TC.block (TC.loopG (α := (Int × (List Tip) × (List Tip) × (List Arc) × Bool × Nat) × ((Option Addr) × Nat × (Option Addr) × Nat × (Option Addr) × Nat)) (rgs [(7, 1), (10, 14)]) (fun g => [(10, .int .i64 ((g.1.2.2.2.2.2 : Nat) : Int))]) (fun g => [Res.cells b0_0 #[.int .i64 g.1.1, .slice g.2.1 g.1.2.1.length g.2.2.1, .slice g.2.2.2.1 g.1.2.2.1.length g.2.2.2.2.1, .slice g.2.2.2.2.2.1 g.1.2.2.2.1.length g.2.2.2.2.2.2, .bool g.1.2.2.2.2.1] Eb0, Res.rowS 41 2 encTip (.slice g.2.1 g.1.2.1.length g.2.2.1) g.1.2.1, Res.rowS 41 2 encTip (.slice g.2.2.2.1 g.1.2.2.1.length g.2.2.2.2.1) g.1.2.2.1, Res.rowS 59 8 encArc (.slice g.2.2.2.2.2.1 g.1.2.2.2.1.length g.2.2.2.2.2.2) g.1.2.2.2.1]) (fun g => σ) (fun g => iter (fun q : Int × (List Tip) × (List Tip) × (List Arc) × Bool × Nat => A5_ x1 x2 q.1 q.2.1 q.2.2.1 q.2.2.2.1 q.2.2.2.2.1 q.2.2.2.2.2) g.1 = some r) (fun g => rounds (fun q : Int × (List Tip) × (List Tip) × (List Arc) × Bool × Nat => A5_ x1 x2 q.1 q.2.1 q.2.2.1 q.2.2.2.1 q.2.2.2.2.1 q.2.2.2.2.2) g.1) ((x0.f.states, x0.f.starts, x0.f.ends, x0.f.arcs, x0.over, 0), (a0_1, c0_2, a0_3, c0_4, a0_5, c0_6)) (Sub.f [3, 3, 3, 3] 4) z (by repeat (first | exact trivial | refine ⟨z, ?_⟩)) hh (fun g1 j1 hg1 => ?_)))))))
 obtain ⟨⟨i138, l140, l144, l148, t151, k152⟩, ⟨a141, c142, a145, c146, a149, c150⟩⟩ := g1
 have hh := hg1; clear hg1
 try dsimp only
 obtain ⟨z1, hh, hR1⟩ := iter_e hh
 dsimp only [A5_] at hh
 refine TC.isSl (i := 1) z (fun _ hb153 _ => ?_)
 refine TC.isSl (i := 2) z (fun _ hb154 _ => ?_)
 refine TC.isSl (i := 3) z (fun _ hb155 _ => ?_)
 refine TC.a (TL.w z (OpVal.lss z z z) (TL.en (TC.seq (TC.cD z hh (fun h156 hh => ?_) (fun h156 hh => ?_)))))
 ·refine TC.skip (S.n (TC.seq (TC.block (TC.a (TL.w z (indexN z underlying22 sz41 z z f1_0.rv.sl (by omega)) (TL.w z (loadSA Tip.zero z ag41 sz41 z f1_0 (by omega) (by omega)) (TL.op z (OpOk.alloc z ze41 z z (fun b157 => ?_)))))))))
  refine TL.op z (storeAll z sz41 z z z z z z ?_)
  refine TL.en (TC.region (TL.l z z (TL.w z (fieldLoc z fo41_0 z) (TL.w z (loadLoc z ag3 z (i := 0) z z) (TL.i z z (TL.w z (addW z z z) (TL.w z (fieldLoc z fo41_1 z) (TL.w z (loadLoc z ag9 z (i := 0) z z) (TL.w z (buildL z pl41 ze41 z) (TL.front 4 z z (TL.front 4 z z (TL.front 4 z z (TL.front 4 z z ?_)))))))))))))
  obtain ⟨v17, u17, hh⟩ := bnd_e hh
  refine TL.op z (OpOk.call (E8_ u17) z z pf28 z z z z ?_)
  rintro _ _ _ hle159 ⟨a159_1, c159_2, a159_3, c159_4, a159_5, c159_6, rfl, rfl, rfl⟩
  refine TL.nil (B.n (S.n (TC.region (TL.w z (OpVal.succ z z z (by omega)) (TL.i z z (TL.en ?_))))))
  obtain ⟨hh, hlt163⟩ := nxt_x hR1 hh
  exact lf ((v17.f.states, v17.f.starts, v17.f.ends, v17.f.arcs, v17.over, (k152 + 1)), (a159_1, c159_2, a159_3, c159_4, a159_5, c159_6)) hlt163 hh (Sub.f [3, 3, 3, 3] 4)
 ·refine TC.exit (S.x (S.x ?_))
  replace hh := fin_x hR1 hh
  refine TC.exitHere ?_
  obtain rfl := so hh
  exact RetOk.mk' (rs := []) [Res.cells b0_0 #[.int .i64 i138, .slice a141 l140.length c142, .slice a145 l144.length c146, .slice a149 l148.length c150, .bool t151] Eb0, Res.rowS 41 2 encTip (.slice a141 l140.length c142) l140, Res.rowS 41 2 encTip (.slice a145 l144.length c146) l144, Res.rowS 59 8 encArc (.slice a149 l148.length c150) l148] z (.inr z) RVs.nil (List.sublist_append_left _ _) ⟨a141, c142, a145, c146, a149, c150, z, z, z⟩
noncomputable def A4_ (x1 : List Arc) (x2 : Int) (i138 : Int) (l140 : List Tip) (l144 : List Tip) (l148 : List Arc) (t151 : Bool) (k152 : Nat) : Option ((Int × (List Tip) × (List Tip) × (List Arc) × Bool × Nat) ⊕ (Grow)) :=
 iteO (decide (((k152 : Nat) : Int) < ((x1.length : Nat) : Int))) (bnd (Dh_ (⟨(⟨i138, l140, l144, l148⟩ : Fst), t151⟩ : Grow) (⟨IntKind.i64.wrap (((nth x1 k152 Arc.zero).frm) + x2), IntKind.i64.wrap (((nth x1 k152 Arc.zero).to) + x2), (nth x1 k152 Arc.zero).set, (nth x1 k152 Arc.zero).out, (nth x1 k152 Arc.zero).copy⟩ : Arc)) (fun v25 => nxt (v25.f.states, v25.f.starts, v25.f.ends, v25.f.arcs, v25.over, (k152 + 1)))) (fin (some (⟨(⟨i138, l140, l144, l148⟩ : Fst), t151⟩ : Grow)))
noncomputable def Cy_ (x0 : Grow) (x1 : List Arc) (x2 : Int) : Option (Grow) :=
 iter (fun q : Int × (List Tip) × (List Tip) × (List Arc) × Bool × Nat => A4_ x1 x2 q.1 q.2.1 q.2.2.1 q.2.2.2.1 q.2.2.2.2.1 q.2.2.2.2.2) (x0.f.states, x0.f.starts, x0.f.ends, x0.f.arcs, x0.over, 0)
theorem E5_ {σ : Store} {x0 : Grow} {b0_0 : Nat} {Eb0 : Nat} {a0_1 : Option Addr} {c0_2 : Nat} {a0_3 : Option Addr} {c0_4 : Nat} {a0_5 : Option Addr} {c0_6 : Nat} {x1 : List Arc} {a1_0 : Option Addr} {c1_0 : Nat} {x2 : Int} (f1_0 : RS σ 8 encArc (.slice a1_0 x1.length c1_0) x1) {r : Grow} (hh : Cy_ x0 x1 x2 = some r) :
  Con Tryz.prog 36 #[loc b0_0 0, .slice a1_0 x1.length c1_0, .int .i64 x2] σ [Res.cells b0_0 #[.int .i64 x0.f.states, .slice a0_1 x0.f.starts.length c0_2, .slice a0_3 x0.f.ends.length c0_4, .slice a0_5 x0.f.arcs.length c0_6, .bool x0.over] Eb0, Res.rowS 41 2 encTip (.slice a0_1 x0.f.starts.length c0_2) x0.f.starts, Res.rowS 41 2 encTip (.slice a0_3 x0.f.ends.length c0_4) x0.f.ends, Res.rowS 59 8 encArc (.slice a0_5 x0.f.arcs.length c0_6) x0.f.arcs] (fun v σ' H' => ∃ (ao1 : Option Addr), ∃ (co2 : Nat), ∃ (ao3 : Option Addr), ∃ (co4 : Nat), ∃ (ao5 : Option Addr), ∃ (co6 : Nat), v = .tuple #[] ∧ σ = σ' ∧ H' = [Res.cells b0_0 #[.int .i64 r.f.states, .slice ao1 r.f.starts.length co2, .slice ao3 r.f.ends.length co4, .slice ao5 r.f.arcs.length co6, .bool r.over] Eb0, Res.rowS 41 2 encTip (.slice ao1 r.f.starts.length co2) r.f.starts, Res.rowS 41 2 encTip (.slice ao3 r.f.ends.length co4) r.f.ends, Res.rowS 59 8 encArc (.slice ao5 r.f.arcs.length co6) r.f.arcs]) := by
 dsimp only [Cy_] at hh
 have f1_0b := f1_0.rv.big
 refine Con.mk (n := 32) Tryz.func36 z z z (fun w0 => ?_)
 refine TC.a (TL.s z z (TL.w z (lenC z underlying23 z) (TL.i z z (TL.en (TC.block (TC.loopG (α := (Int × (List Tip) × (List Tip) × (List Arc) × Bool × Nat) × ((Option Addr) × Nat × (Option Addr) × Nat × (Option Addr) × Nat)) (rgs [(7, 1), (10, 22)]) (fun g => [(10, .int .i64 ((g.1.2.2.2.2.2 : Nat) : Int))]) (fun g => [Res.cells b0_0 #[.int .i64 g.1.1, .slice g.2.1 g.1.2.1.length g.2.2.1, .slice g.2.2.2.1 g.1.2.2.1.length g.2.2.2.2.1, .slice g.2.2.2.2.2.1 g.1.2.2.2.1.length g.2.2.2.2.2.2, .bool g.1.2.2.2.2.1] Eb0, Res.rowS 41 2 encTip (.slice g.2.1 g.1.2.1.length g.2.2.1) g.1.2.1, Res.rowS 41 2 encTip (.slice g.2.2.2.1 g.1.2.2.1.length g.2.2.2.2.1) g.1.2.2.1, Res.rowS 59 8 encArc (.slice g.2.2.2.2.2.1 g.1.2.2.2.1.length g.2.2.2.2.2.2) g.1.2.2.2.1]) (fun g => σ) (fun g => iter (fun q : Int × (List Tip) × (List Tip) × (List Arc) × Bool × Nat => A4_ x1 x2 q.1 q.2.1 q.2.2.1 q.2.2.2.1 q.2.2.2.2.1 q.2.2.2.2.2) g.1 = some r) (fun g => rounds (fun q : Int × (List Tip) × (List Tip) × (List Arc) × Bool × Nat => A4_ x1 x2 q.1 q.2.1 q.2.2.1 q.2.2.2.1 q.2.2.2.2.1 q.2.2.2.2.2) g.1) ((x0.f.states, x0.f.starts, x0.f.ends, x0.f.arcs, x0.over, 0), (a0_1, c0_2, a0_3, c0_4, a0_5, c0_6)) (Sub.f [3, 3, 3, 3] 4) z (by repeat (first | exact trivial | refine ⟨z, ?_⟩)) hh (fun g1 j1 hg1 => ?_)))))))
 obtain ⟨⟨i138, l140, l144, l148, t151, k152⟩, ⟨a141, c142, a145, c146, a149, c150⟩⟩ := g1
 have hh := hg1; clear hg1
 try dsimp only
 obtain ⟨z1, hh, hR1⟩ := iter_e hh
 dsimp only [A4_] at hh
 refine TC.isSl (i := 1) z (fun _ hb153 _ => ?_)
 refine TC.isSl (i := 2) z (fun _ hb154 _ => ?_)
 refine TC.isSl (i := 3) z (fun _ hb155 _ => ?_)
 refine TC.a (TL.w z (OpVal.lss z z z) (TL.en (TC.seq (TC.cD z hh (fun h156 hh => ?_) (fun h156 hh => ?_)))))
 ·refine TC.skip (S.n (TC.seq (TC.block (TC.a (TL.w z (indexN z underlying23 sz59 z z f1_0.rv.sl (by omega)) (TL.w z (loadSA Arc.zero z ag59 sz59 z f1_0 (by omega) (by omega)) (TL.op z (OpOk.alloc z ze59 z z (fun b157 => ?_)))))))))
  refine TL.op z (storeAll z sz59 z z z z z z ?_)
  refine TL.en (TC.region (TL.l z z (TL.w z (fieldLoc z fo59_0 z) (TL.w z (loadLoc z ag3 z (i := 0) z z) (TL.i z z (TL.w z (addW z z z) (TL.w z (fieldLoc z fo59_1 z) (TL.w z (loadLoc z ag3 z (i := 0) z z) (TL.i z z (TL.w z (addW z z z) (TL.w z (fieldLoc z fo59_2 z) (TL.w z (loadLocA z ag57 sz57 z (i := 0) z z z) (TL.w z (fieldLoc z fo59_3 z) (TL.w z (loadLoc z ag9 z (i := 0) z z) (TL.w z (fieldLoc z fo59_4 z) (TL.w z (loadLoc z ag4 z (i := 0) z z) (TL.w z (buildL z pl59 ze59 z) (TL.front 4 z z (TL.front 4 z z (TL.front 4 z z (TL.front 4 z z ?_)))))))))))))))))))))
  obtain ⟨v25, u25, hh⟩ := bnd_e hh
  refine TL.op z (OpOk.call (Fa_ u25) z z pf32 z z z z ?_)
  rintro _ _ _ hle159 ⟨a159_1, c159_2, a159_3, c159_4, a159_5, c159_6, rfl, rfl, rfl⟩
  refine TL.nil (B.n (S.n (TC.region (TL.w z (OpVal.succ z z z (by omega)) (TL.i z z (TL.en ?_))))))
  obtain ⟨hh, hlt163⟩ := nxt_x hR1 hh
  exact lf ((v25.f.states, v25.f.starts, v25.f.ends, v25.f.arcs, v25.over, (k152 + 1)), (a159_1, c159_2, a159_3, c159_4, a159_5, c159_6)) hlt163 hh (Sub.f [3, 3, 3, 3] 4)
 ·refine TC.exit (S.x (S.x ?_))
  replace hh := fin_x hR1 hh
  refine TC.exitHere ?_
  obtain rfl := so hh
  exact RetOk.mk' (rs := []) [Res.cells b0_0 #[.int .i64 i138, .slice a141 l140.length c142, .slice a145 l144.length c146, .slice a149 l148.length c150, .bool t151] Eb0, Res.rowS 41 2 encTip (.slice a141 l140.length c142) l140, Res.rowS 41 2 encTip (.slice a145 l144.length c146) l144, Res.rowS 59 8 encArc (.slice a149 l148.length c150) l148] z (.inr z) RVs.nil (List.sublist_append_left _ _) ⟨a141, c142, a145, c146, a149, c150, z, z, z⟩
noncomputable def Fb_ (x0 : Fst) (x1 : Fst) : Option (Bool) :=
 bnd (C6_ x0) (fun v5 => iteO (decide (v5 = 0)) (bnd (C6_ x1) (fun v9 => some (decide (v9 = 0)))) (some false))
theorem Gj_ {σ : Store} {x0 : Fst} {a0_0 : Option Addr} {c0_0 : Nat} {a0_1 : Option Addr} {c0_1 : Nat} {a0_2 : Option Addr} {c0_2 : Nat} {x1 : Fst} {a1_0 : Option Addr} {c1_0 : Nat} {a1_1 : Option Addr} {c1_1 : Nat} {a1_2 : Option Addr} {c1_2 : Nat} (f0_0 : RS σ 2 encTip (.slice a0_0 x0.starts.length c0_0) x0.starts) (f0_1 : RS σ 2 encTip (.slice a0_1 x0.ends.length c0_1) x0.ends) (f0_2 : RS σ 8 encArc (.slice a0_2 x0.arcs.length c0_2) x0.arcs) (f1_0 : RS σ 2 encTip (.slice a1_0 x1.starts.length c1_0) x1.starts) (f1_1 : RS σ 2 encTip (.slice a1_1 x1.ends.length c1_1) x1.ends) (f1_2 : RS σ 8 encArc (.slice a1_2 x1.arcs.length c1_2) x1.arcs) {r : Bool} (hh : Fb_ x0 x1 = some r) :
  Con Tryz.prog 33 #[.agg #[.int .i64 x0.states, .slice a0_0 x0.starts.length c0_0, .slice a0_1 x0.ends.length c0_1, .slice a0_2 x0.arcs.length c0_2], .agg #[.int .i64 x1.states, .slice a1_0 x1.starts.length c1_0, .slice a1_1 x1.ends.length c1_1, .slice a1_2 x1.arcs.length c1_2]] σ [] (PureP (.bool r) σ) := by
 dsimp only [Fb_] at hh
 have f0_0b := f0_0.rv.big
 have f0_1b := f0_1.rv.big
 have f0_2b := f0_2.rv.big
 have f1_0b := f1_0.rv.big
 have f1_1b := f1_1.rv.big
 have f1_2b := f1_2.rv.big
 refine Con.mk (n := 13) Tryz.func33 z z z (fun w0 => ?_)
 refine TC.a (TL.op z (boxA z z z z (fun b101 => ?_)))
 refine TL.op z (boxA z z z z (fun b103 => ?_))
 refine TL.j z z (TL.en (TC.a (TL.w z (loadAll z ag25 sz25 z (i := 1) z z) ?_)))
 obtain ⟨v5, u5, hh⟩ := bnd_e hh
 refine TL.op z (callP (Dq_ (x0 := x0) f0_0 f0_1 f0_2 u5) z z pf24 z z z ?_)
 refine TL.w z (OpVal.eql z z z) (TL.j z z (TL.split 8 z (fun h105 => ?_) (fun h105 => ?_)))
 ·replace hh := iteO_t h105 hh
  replace h105 := of_decide_eq_true h105
  refine TL.g z (loadAll z ag25 sz25 z (i := 0) z z) ?_
  obtain ⟨v9, u9, hh⟩ := bnd_e hh
  refine TL.gon z z z z z (callP (Dq_ (x0 := x1) f1_0 f1_1 f1_2 u9) z z pf24 z z z ?_)
  refine TL.g z (OpVal.eql z z z) (TL.w z (pickTB z z z) (TL.j z z (TL.en (TC.rt 0 ?_))))
  obtain rfl := so hh
  exact rq [4] ⟨z, z, z⟩
 ·replace hh := iteO_f h105 hh
  replace h105 := of_decide_eq_false h105
  refine TL.f z (TL.f z (TL.f z (TL.w z (pickFB z z z) (TL.j z z (TL.en (TC.rt 0 ?_))))))
  obtain rfl := so hh
  exact rq [4] ⟨z, z, z⟩
noncomputable def D4_ (x0 : Fst) (x1 : Fst) : Option (Fst × Int) :=
 bnd (Fb_ x0 x1) (fun v7 => iteO (!v7) (some ((⟨0, ([] : List Tip), ([] : List Tip), ([] : List Arc)⟩ : Fst), 1)) (bnd (Cg_ (⟨(⟨IntKind.i64.wrap (x0.states + x1.states), ([] : List Tip), ([] : List Tip), ([] : List Arc)⟩ : Fst), false⟩ : Grow) x0.starts 0) (fun v30 => bnd (Cg_ (⟨(⟨v30.f.states, v30.f.starts, v30.f.ends, v30.f.arcs⟩ : Fst), v30.over⟩ : Grow) x1.starts x0.states) (fun v36 => bnd (C0_ (⟨(⟨v36.f.states, v36.f.starts, v36.f.ends, v36.f.arcs⟩ : Fst), v36.over⟩ : Grow) x0.ends 0) (fun v40 => bnd (C0_ (⟨(⟨v40.f.states, v40.f.starts, v40.f.ends, v40.f.arcs⟩ : Fst), v40.over⟩ : Grow) x1.ends x0.states) (fun v46 => bnd (Cy_ (⟨(⟨v46.f.states, v46.f.starts, v46.f.ends, v46.f.arcs⟩ : Fst), v46.over⟩ : Grow) x0.arcs 0) (fun v50 => bnd (Cy_ (⟨(⟨v50.f.states, v50.f.starts, v50.f.ends, v50.f.arcs⟩ : Fst), v50.over⟩ : Grow) x1.arcs x0.states) (fun v56 => bnd (Bt_ (⟨(⟨v56.f.states, v56.f.starts, v56.f.ends, v56.f.arcs⟩ : Fst), v56.over⟩ : Grow)) (fun v57 => some ((⟨v57.1.states, v57.1.starts, v57.1.ends, v57.1.arcs⟩ : Fst), v57.2))))))))))
def Gv_ (σ : Store) (r : Fst × Int) : Value → Store → List Res → Prop := fun v σ' H' =>
 ∃ (a1 : Option Addr), ∃ (c1 : Nat), ∃ (a2 : Option Addr), ∃ (c2 : Nat), ∃ (a3 : Option Addr), ∃ (c3 : Nat),  v = .tuple #[.agg #[.int .i64 r.1.states, .slice a1 r.1.starts.length c1, .slice a2 r.1.ends.length c2, .slice a3 r.1.arcs.length c3], .int .i64 r.2] ∧ RS σ' 2 encTip (.slice a1 r.1.starts.length c1) r.1.starts ∧ RS σ' 2 encTip (.slice a2 r.1.ends.length c2) r.1.ends ∧ RS σ' 8 encArc (.slice a3 r.1.arcs.length c3) r.1.arcs ∧ H' = []
theorem F0_ {σ : Store} {x0 : Fst} {a0_0 : Option Addr} {c0_0 : Nat} {a0_1 : Option Addr} {c0_1 : Nat} {a0_2 : Option Addr} {c0_2 : Nat} {x1 : Fst} {a1_0 : Option Addr} {c1_0 : Nat} {a1_1 : Option Addr} {c1_1 : Nat} {a1_2 : Option Addr} {c1_2 : Nat} (f0_0 : RS σ 2 encTip (.slice a0_0 x0.starts.length c0_0) x0.starts) (f0_1 : RS σ 2 encTip (.slice a0_1 x0.ends.length c0_1) x0.ends) (f0_2 : RS σ 8 encArc (.slice a0_2 x0.arcs.length c0_2) x0.arcs) (f1_0 : RS σ 2 encTip (.slice a1_0 x1.starts.length c1_0) x1.starts) (f1_1 : RS σ 2 encTip (.slice a1_1 x1.ends.length c1_1) x1.ends) (f1_2 : RS σ 8 encArc (.slice a1_2 x1.arcs.length c1_2) x1.arcs) {r : Fst × Int} (hh : D4_ x0 x1 = some r) :
  Con Tryz.prog 10 #[.agg #[.int .i64 x0.states, .slice a0_0 x0.starts.length c0_0, .slice a0_1 x0.ends.length c0_1, .slice a0_2 x0.arcs.length c0_2], .agg #[.int .i64 x1.states, .slice a1_0 x1.starts.length c1_0, .slice a1_1 x1.ends.length c1_1, .slice a1_2 x1.arcs.length c1_2]] σ [] (Gv_ σ r) := by
 dsimp only [D4_] at hh
 have f0_0b := f0_0.rv.big
 have f0_1b := f0_1.rv.big
 have f0_2b := f0_2.rv.big
 have f1_0b := f1_0.rv.big
 have f1_1b := f1_1.rv.big
 have f1_2b := f1_2.rv.big
 refine Con.mkD (n := 54) Tryz.func10 z z z (fun w0 => ?_)
 refine TB.seq endR_ret (TC.region (TL.op z (boxA z z z z (fun b101 => ?_))))
 refine TL.op z (boxA z z z z (fun b103 => ?_))
 refine TL.op z (OpOk.alloc z ze25 z z (fun b105 => ?_))
 refine TL.op z (OpOk.alloc z ze33 z z (fun b107 => ?_))
 refine TL.en (TB.seq endR_ret (TC.a (TL.w z (loadAll z ag25 sz25 z (i := 3) z z) (TL.w z (loadAll z ag25 sz25 z (i := 2) z z) ?_))))
 obtain ⟨v7, u7, hh⟩ := bnd_e hh
 refine TL.op z (callP (Gj_ (x0 := x0) (x1 := x1) f0_0 f0_1 f0_2 f1_0 f1_1 f1_2 u7) z z pf33 z z z ?_)
 refine TL.w z (OpVal.not z z) (TL.en (TC.cB z hh (fun h109 hh => ?_) (fun h109 hh => ?_)))
 ·refine TC.a (TL.w z (buildL z pl25 ze25 z) (TL.front 1 z z (TL.op z (storeAll z sz25 z z z z z z ?_))))
  refine TL.front 1 z z (TL.op z (storeI z sz33 z z z z z ?_))
  refine TL.en (TC.ofSub (Sub.f [1] 2) (TC.ret (S.r ?_)))
  obtain rfl := so hh
  exact ro [] z (RVs.agg ag25 sz25 z (i := 0) z z (RVs.one ag33 z (i := 1) z z RVs.nil)) ⟨none, 0, none, 0, none, 0, z, (RS.nilF _ encTip encTip_len), (RS.nilF _ encTip encTip_len), (RS.nilF _ encArc encArc_len), z⟩
 ·refine TC.skip (S.n (TB.seq endR_ret (TC.region (TL.w z (buildL z pl67 ze67 z) (TL.op z (boxA z z z z (fun b110 => ?_)))))))
  refine TL.l z z (TL.en (TB.seqD (TLB.v z (moveLoc (.inl z) z) z z (TLB.dfr (dargs := [loc b110 0, loc b105 0, loc b107 0]) z z z z z (fun a_ w_ hw_ ha_ => ?_)))))
  refine TB.fin (Q := dfrQ _ _ _ _ 26 [loc b110 0, loc b105 0, loc b107 0]) (endR_dfr (cap := []) (dargs := [loc b110 0, loc b105 0, loc b107 0]) pf26) ?_ w_ a_ hw_ ha_
  clear hw_ ha_ a_ w_
  refine TC.a (TL.l z z (TL.w z (fieldLoc z fo25_0 z) (TL.w z (loadLoc z ag3 z (i := 4) z z) (TL.w z (fieldLoc z fo25_0 z) (TL.w z (loadLoc z ag3 z (i := 3) z z) (TL.w z (addW z z z) (TL.w z (nilCheckLoc z z) (TL.w z (fieldLoc z fo67_0 z) (TL.w z (fieldLoc z fo25_0 z) (TL.op z (storeI z sz3 z z z z z ?_)))))))))))
  refine TL.en (TC.a (TL.l z z (TL.w z (fieldLoc z fo25_1 z) (TL.w z (loadLoc z ag22 z (i := 4) z z) (TL.nilS 41 2 encTip (TL.nilS 41 2 encTip (TL.nilS 59 8 encArc (TL.front 1 z z (TL.front 2 z z (TL.front 3 z z ?_))))))))))
  obtain ⟨v30, u30, hh⟩ := bnd_e hh
  refine TL.op z (OpOk.call (Em_ f0_0 u30) z z pf34 z z z z ?_)
  rintro _ _ _ hle115 ⟨a115_1, c115_2, a115_3, c115_4, a115_5, c115_6, rfl, rfl, rfl⟩
  refine TL.en (TC.a (TL.l z z (TL.w z (fieldLoc z fo25_1 z) (TL.w z (loadLoc z ag22 z (i := 6) z z) (TL.w z (fieldLoc z fo25_0 z) (TL.w z (loadLoc z ag3 z (i := 7) z z) (TL.front 3 z z (TL.front 3 z z (TL.front 3 z z (TL.front 3 z z ?_))))))))))
  obtain ⟨v36, u36, hh⟩ := bnd_e hh
  refine TL.op z (OpOk.call (Em_ f1_0 u36) z z pf34 z z z z ?_)
  rintro _ _ _ hle119 ⟨a119_1, c119_2, a119_3, c119_4, a119_5, c119_6, rfl, rfl, rfl⟩
  refine TL.en (TC.a (TL.l z z (TL.w z (fieldLoc z fo25_2 z) (TL.w z (loadLoc z ag22 z (i := 7) z z) (TL.front 3 z z (TL.front 3 z z (TL.front 3 z z (TL.front 3 z z ?_))))))))
  obtain ⟨v40, u40, hh⟩ := bnd_e hh
  refine TL.op z (OpOk.call (E6_ f0_1 u40) z z pf35 z z z z ?_)
  rintro _ _ _ hle123 ⟨a123_1, c123_2, a123_3, c123_4, a123_5, c123_6, rfl, rfl, rfl⟩
  refine TL.en (TC.a (TL.l z z (TL.w z (fieldLoc z fo25_2 z) (TL.w z (loadLoc z ag22 z (i := 6) z z) (TL.w z (fieldLoc z fo25_0 z) (TL.w z (loadLoc z ag3 z (i := 7) z z) (TL.front 3 z z (TL.front 3 z z (TL.front 3 z z (TL.front 3 z z ?_))))))))))
  obtain ⟨v46, u46, hh⟩ := bnd_e hh
  refine TL.op z (OpOk.call (E6_ f1_1 u46) z z pf35 z z z z ?_)
  rintro _ _ _ hle127 ⟨a127_1, c127_2, a127_3, c127_4, a127_5, c127_6, rfl, rfl, rfl⟩
  refine TL.en (TC.a (TL.l z z (TL.w z (fieldLoc z fo25_3 z) (TL.w z (loadLoc z ag23 z (i := 7) z z) (TL.front 3 z z (TL.front 3 z z (TL.front 3 z z (TL.front 3 z z ?_))))))))
  obtain ⟨v50, u50, hh⟩ := bnd_e hh
  refine TL.op z (OpOk.call (E5_ f0_2 u50) z z pf36 z z z z ?_)
  rintro _ _ _ hle131 ⟨a131_1, c131_2, a131_3, c131_4, a131_5, c131_6, rfl, rfl, rfl⟩
  refine TL.en (TC.a (TL.l z z (TL.w z (fieldLoc z fo25_3 z) (TL.w z (loadLoc z ag23 z (i := 6) z z) (TL.w z (fieldLoc z fo25_0 z) (TL.w z (loadLoc z ag3 z (i := 7) z z) (TL.front 3 z z (TL.front 3 z z (TL.front 3 z z (TL.front 3 z z ?_))))))))))
  obtain ⟨v56, u56, hh⟩ := bnd_e hh
  refine TL.op z (OpOk.call (E5_ f1_2 u56) z z pf36 z z z z ?_)
  rintro _ _ _ hle135 ⟨a135_1, c135_2, a135_3, c135_4, a135_5, c135_6, rfl, rfl, rfl⟩
  refine TL.en (TC.front 4 z z (TC.front 5 z z (TC.front 5 z z (TC.front 5 z z (TC.front 5 z z (TC.front 5 z z ?_))))))
  obtain ⟨v57, u57, hh⟩ := bnd_e hh
  refine TC.ret (⟨.inl z, _, Sub.pre 6 z, (Dc_ u57).mono ?_⟩)
  rintro _ τ139 _ hle139 ⟨a139_1, c139_2, a139_4, c139_5, a139_7, c139_8, rfl, f139_3, f139_6, f139_9, rfl⟩
  have f139_3b := f139_3.rv.big
  have f139_6b := f139_6.rv.big
  have f139_9b := f139_9.rv.big
  obtain rfl := so hh
  exact RetOk.mk' (rs := [.cell 4 25, .cell 5 33]) [] z (.inl z) (RVs.agg ag25 sz25 z (i := 0) z z (RVs.one ag33 z (i := 1) z z RVs.nil)) (List.nil_sublist _) ⟨a139_1, c139_2, a139_4, c139_5, a139_7, c139_8, z, f139_3, f139_6, f139_9, z⟩
end Go.Proofs.YtcaaiphgikpgjaaGreatDoor
end

section
namespace Go.Proofs.YtcaaiphgikpgjaaGreatDoor
open Go Go.E
structure GB (F : Fst) : Prop where
  sN : F.starts.length ≤ 1024
  eN : F.ends.length ≤ 1024
  aN : F.arcs.length ≤ 16384
  s : ∀ x ∈ F.starts, x.out.length ≤ 1024
  e : ∀ x ∈ F.ends, x.out.length ≤ 1024
  a : ∀ x ∈ F.arcs, x.out.length ≤ 1024
def Gr (g : Grow) (F : Fst) : Prop := g.over = true ∨ g = ⟨F, false⟩ ∧ GB F
theorem Gr.nil (n : Int) : Gr ⟨⟨n, [], [], []⟩, false⟩ ⟨n, [], [], []⟩ := .inr ⟨rfl, by simp, by simp, by simp, by simp, by simp, by simp⟩
theorem Gr.st {g : Grow} {F : Fst} (h : Gr g F) (x : Tip) : Gr (growSt g x) ⟨F.states, F.starts ++ [x], F.ends, F.arcs⟩ := by
  unfold growSt
  split
  · exact .inl rfl
  · rename_i hn
    rcases h with h | ⟨rfl, h⟩
    · exact absurd (.inl h) hn
    · simp only [Bool.false_eq_true, false_or, not_or, Nat.not_le, Nat.not_lt] at hn
      refine .inr ⟨rfl, ?_, h.eN, h.aN, fun y hy => ?_, h.e, h.a⟩
      · simp only [List.length_append, List.length_singleton]; omega
      · rcases List.mem_append.1 hy with hy | hy
        · exact h.s y hy
        · rw [List.mem_singleton.1 hy]; exact hn.2
theorem Gr.en {g : Grow} {F : Fst} (h : Gr g F) (x : Tip) : Gr (growEn g x) ⟨F.states, F.starts, F.ends ++ [x], F.arcs⟩ := by
  unfold growEn
  split
  · exact .inl rfl
  · rename_i hn
    rcases h with h | ⟨rfl, h⟩
    · exact absurd (.inl h) hn
    · simp only [Bool.false_eq_true, false_or, not_or, Nat.not_le, Nat.not_lt] at hn
      refine .inr ⟨rfl, h.sN, ?_, h.aN, h.s, fun y hy => ?_, h.a⟩
      · simp only [List.length_append, List.length_singleton]; omega
      · rcases List.mem_append.1 hy with hy | hy
        · exact h.e y hy
        · rw [List.mem_singleton.1 hy]; exact hn.2
theorem Gr.ar {g : Grow} {F : Fst} (h : Gr g F) (x : Arc) : Gr (growAr g x) ⟨F.states, F.starts, F.ends, F.arcs ++ [x]⟩ := by
  unfold growAr
  split
  · exact .inl rfl
  · rename_i hn
    rcases h with h | ⟨rfl, h⟩
    · exact absurd (.inl h) hn
    · simp only [Bool.false_eq_true, false_or, not_or, Nat.not_le, Nat.not_lt] at hn
      refine .inr ⟨rfl, h.sN, h.eN, ?_, h.s, h.e, fun y hy => ?_⟩
      · simp only [List.length_append, List.length_singleton]; omega
      · rcases List.mem_append.1 hy with hy | hy
        · exact h.a y hy
        · rw [List.mem_singleton.1 hy]; exact hn.2
def pS (F : Fst) (l : List Tip) : Fst := ⟨F.states, F.starts ++ l, F.ends, F.arcs⟩
def pE (F : Fst) (l : List Tip) : Fst := ⟨F.states, F.starts, F.ends ++ l, F.arcs⟩
def pA (F : Fst) (l : List Arc) : Fst := ⟨F.states, F.starts, F.ends, F.arcs ++ l⟩
theorem pS_nil (F : Fst) : pS F [] = F := by simp [pS]
theorem pE_nil (F : Fst) : pE F [] = F := by simp [pE]
theorem pA_nil (F : Fst) : pA F [] = F := by simp [pA]
theorem pS_snoc (F : Fst) (l : List Tip) (x : Tip) : pS F (l ++ [x]) = ⟨(pS F l).states, (pS F l).starts ++ [x], (pS F l).ends, (pS F l).arcs⟩ := by simp [pS]
theorem pE_snoc (F : Fst) (l : List Tip) (x : Tip) : pE F (l ++ [x]) = ⟨(pE F l).states, (pE F l).starts, (pE F l).ends ++ [x], (pE F l).arcs⟩ := by simp [pE]
theorem pA_snoc (F : Fst) (l : List Arc) (x : Arc) : pA F (l ++ [x]) = ⟨(pA F l).states, (pA F l).starts, (pA F l).ends, (pA F l).arcs ++ [x]⟩ := by simp [pA]
theorem pA_app (F : Fst) (l m : List Arc) : pA (pA F l) m = pA F (l ++ m) := by simp [pA]
theorem pE_app (F : Fst) (l m : List Tip) : pE (pE F l) m = pE F (l ++ m) := by simp [pE]
theorem shT_snoc (n : Int) (l : List Tip) {k : Nat} (h : k < l.length) : shT n (l.take (k + 1)) = shT n (l.take k) ++ [⟨(nth l k Tip.zero).state + n, (nth l k Tip.zero).out⟩] := by
  rw [take_snoc l h Tip.zero]; unfold shT; rw [List.map_append]; rfl
theorem shA_snoc (n : Int) (l : List Arc) {k : Nat} (h : k < l.length) : shA n (l.take (k + 1)) = shA n (l.take k) ++ [⟨(nth l k Arc.zero).frm + n, (nth l k Arc.zero).to + n, (nth l k Arc.zero).set, (nth l k Arc.zero).out, (nth l k Arc.zero).copy⟩] := by
  rw [take_snoc l h Arc.zero]; unfold shA; rw [List.map_append]; rfl
theorem wr_ok {a : Int} (h : -100000 ≤ a ∧ a ≤ 100000) : IntKind.i64.wrap a = a := wrap64_of (by omega) (by omega)
theorem starts_go {l : List Tip} {up : Int} (hr : ∀ x ∈ l, -100000 ≤ x.state + up ∧ x.state + up ≤ 100000) {g : Grow} {F : Fst} (h : Gr g F) : ∃ g', Cg_ g l up = some g' ∧ Gr g' (pS F (shT up l)) := by
  unfold Cg_
  refine iter_up (step := fun q : Int × (List Tip) × (List Tip) × (List Arc) × Bool × Nat => Aw_ l up q.1 q.2.1 q.2.2.1 q.2.2.2.1 q.2.2.2.2.1 q.2.2.2.2.2) (fun (s : Grow) k => (s.f.states, s.f.starts, s.f.ends, s.f.arcs, s.over, k)) l.length
    (fun k s => Gr s (pS F (shT up (l.take k)))) _ (fun k s hk hI => ?_) (fun s hI => ?_) (s0 := g) (by simpa [shT, pS_nil] using h)
  · refine .inl ⟨growSt s ⟨(nth l k Tip.zero).state + up, (nth l k Tip.zero).out⟩, ?_, ?_⟩
    · show Aw_ l up s.f.states s.f.starts s.f.ends s.f.arcs s.over k = _
      unfold Aw_
      rw [iteO_dt (by omega), start_eq, bnd_mk, wr_ok (hr _ (nth_mem' hk _))]; rfl
    · rw [shT_snoc up l hk, pS_snoc]; exact hI.st _
  · rw [List.take_length] at hI
    refine ⟨s, ?_, hI⟩
    show Aw_ l up s.f.states s.f.starts s.f.ends s.f.arcs s.over l.length = _
    unfold Aw_
    rw [iteO_df (by omega)]; rfl
theorem ends_go {l : List Tip} {up : Int} (hr : ∀ x ∈ l, -100000 ≤ x.state + up ∧ x.state + up ≤ 100000) {g : Grow} {F : Fst} (h : Gr g F) : ∃ g', C0_ g l up = some g' ∧ Gr g' (pE F (shT up l)) := by
  unfold C0_
  refine iter_up (step := fun q : Int × (List Tip) × (List Tip) × (List Arc) × Bool × Nat => A5_ l up q.1 q.2.1 q.2.2.1 q.2.2.2.1 q.2.2.2.2.1 q.2.2.2.2.2) (fun (s : Grow) k => (s.f.states, s.f.starts, s.f.ends, s.f.arcs, s.over, k)) l.length
    (fun k s => Gr s (pE F (shT up (l.take k)))) _ (fun k s hk hI => ?_) (fun s hI => ?_) (s0 := g) (by simpa [shT, pE_nil] using h)
  · refine .inl ⟨growEn s ⟨(nth l k Tip.zero).state + up, (nth l k Tip.zero).out⟩, ?_, ?_⟩
    · show A5_ l up s.f.states s.f.starts s.f.ends s.f.arcs s.over k = _
      unfold A5_
      rw [iteO_dt (by omega), end_eq, bnd_mk, wr_ok (hr _ (nth_mem' hk _))]; rfl
    · rw [shT_snoc up l hk, pE_snoc]; exact hI.en _
  · rw [List.take_length] at hI
    refine ⟨s, ?_, hI⟩
    show A5_ l up s.f.states s.f.starts s.f.ends s.f.arcs s.over l.length = _
    unfold A5_
    rw [iteO_df (by omega)]; rfl
theorem arcs_go {l : List Arc} {up : Int} (hr : ∀ x ∈ l, (-100000 ≤ x.frm + up ∧ x.frm + up ≤ 100000) ∧ -100000 ≤ x.to + up ∧ x.to + up ≤ 100000) {g : Grow} {F : Fst} (h : Gr g F) : ∃ g', Cy_ g l up = some g' ∧ Gr g' (pA F (shA up l)) := by
  unfold Cy_
  refine iter_up (step := fun q : Int × (List Tip) × (List Tip) × (List Arc) × Bool × Nat => A4_ l up q.1 q.2.1 q.2.2.1 q.2.2.2.1 q.2.2.2.2.1 q.2.2.2.2.2) (fun (s : Grow) k => (s.f.states, s.f.starts, s.f.ends, s.f.arcs, s.over, k)) l.length
    (fun k s => Gr s (pA F (shA up (l.take k)))) _ (fun k s hk hI => ?_) (fun s hI => ?_) (s0 := g) (by simpa [shA, pA_nil] using h)
  · have hm := hr _ (nth_mem' hk Arc.zero)
    refine .inl ⟨growAr s ⟨(nth l k Arc.zero).frm + up, (nth l k Arc.zero).to + up, (nth l k Arc.zero).set, (nth l k Arc.zero).out, (nth l k Arc.zero).copy⟩, ?_, ?_⟩
    · show A4_ l up s.f.states s.f.starts s.f.ends s.f.arcs s.over k = _
      unfold A4_
      rw [iteO_dt (by omega), arc_eq, bnd_mk, wr_ok hm.1, wr_ok hm.2]; rfl
    · rw [shA_snoc up l hk, pA_snoc]; exact hI.ar _
  · rw [List.take_length] at hI
    refine ⟨s, ?_, hI⟩
    show A4_ l up s.f.states s.f.starts s.f.ends s.f.arcs s.over l.length = _
    unfold A4_
    rw [iteO_df (by omega)]; rfl
def GEnd (F : Fst) (r : Fst × Int) : Prop := r = (⟨0, [], [], []⟩, 2) ∨ r = (F, 0) ∧ GB F ∧ F.states ≤ 1024
theorem gend {g : Grow} {F : Fst} (h : Gr g F) : GEnd F (lookG g) := by
  unfold lookG
  split
  · exact .inl rfl
  · rename_i hn
    rcases h with h | ⟨rfl, h⟩
    · exact absurd (.inl h) hn
    · simp only [Bool.false_eq_true, false_or, Int.not_lt] at hn
      exact .inr ⟨rfl, h, hn⟩
theorem shT_zero (l : List Tip) : shT 0 l = l := by
  unfold shT
  have : (fun x : Tip => (⟨x.state + 0, x.out⟩ : Tip)) = id := funext fun x => by rw [Int.add_zero]; rfl
  rw [this, List.map_id]
theorem shA_zero (l : List Arc) : shA 0 l = l := by
  unfold shA
  have : (fun x : Arc => (⟨x.frm + 0, x.to + 0, x.set, x.out, x.copy⟩ : Arc)) = id := funext fun x => by rw [Int.add_zero, Int.add_zero]; rfl
  rw [this, List.map_id]
theorem both_go (a b : Fst) : Fb_ a b = some (fstB a && fstB b) := by
  unfold Fb_
  rw [Co_, bnd_mk]
  cases ha : fstB a
  · rfl
  · rw [Co_, bnd_mk]
    cases hb : fstB b <;> rfl
theorem alt_go {a b : Fst} (ha : FstOk a) (hb : FstOk b) : ∃ r, D4_ a b = some r ∧ GEnd (fAlt a b) r := by
  have a0 := ha.st0
  have a1 := ha.st1
  have b0 := hb.st0
  have b1 := hb.st1
  have rT0 : ∀ l : List Tip, (∀ x ∈ l, (0 ≤ x.state ∧ x.state < a.states) ∧ x.out.length ≤ 1024) → ∀ x ∈ l, -100000 ≤ x.state + 0 ∧ x.state + 0 ≤ 100000 := fun l hl x hx => by have := hl x hx; omega
  have rT1 : ∀ l : List Tip, (∀ x ∈ l, (0 ≤ x.state ∧ x.state < b.states) ∧ x.out.length ≤ 1024) → ∀ x ∈ l, -100000 ≤ x.state + a.states ∧ x.state + a.states ≤ 100000 := fun l hl x hx => by have := hl x hx; omega
  unfold D4_
  rw [both_go, (fstB_iff a).2 ha, (fstB_iff b).2 hb, bnd_mk]
  simp only [Bool.and_self, Bool.not_true, iteO_false]
  rw [wr_ok (by omega)]
  obtain ⟨g1, e1, h1⟩ := starts_go (rT0 _ ha.starts) (Gr.nil (a.states + b.states))
  rw [bnd_some e1]
  obtain ⟨g2, e2, h2⟩ := starts_go (rT1 _ hb.starts) h1
  rw [bnd_some e2]
  obtain ⟨g3, e3, h3⟩ := ends_go (rT0 _ ha.ends) h2
  rw [bnd_some e3]
  obtain ⟨g4, e4, h4⟩ := ends_go (rT1 _ hb.ends) h3
  rw [bnd_some e4]
  obtain ⟨g5, e5, h5⟩ := arcs_go (l := a.arcs) (up := 0) (fun x hx => by have := ha.arcs x hx; omega) h4
  rw [bnd_some e5]
  obtain ⟨g6, e6, h6⟩ := arcs_go (l := b.arcs) (up := a.states) (fun x hx => by have := hb.arcs x hx; omega) h5
  rw [bnd_some e6, bnd_some (look_eq g6)]
  refine ⟨lookG g6, rfl, ?_⟩
  have := gend h6
  rw [shT_zero, shT_zero, shA_zero] at this
  exact this
section
variable {a b : Fst} (ha : FstOk a) (hb : FstOk b) {v48 : List (List Arc)} {l147 : List (List Tip)} (h48 : Grp Arc.frm id b.states.toNat v48 b.arcs) (h147 : Grp Tip.state id b.states.toNat l147 b.ends)
include ha hb h48 h147
end
section
variable {a : Fst} (ha : FstOk a) {v47 : List (List Arc)} (h47 : Grp Arc.frm id a.states.toNat v47 a.arcs)
include ha h47
end
end Go.Proofs.YtcaaiphgikpgjaaGreatDoor
end

section
namespace Go.Proofs.YtcaaiphgikpgjaaGreatDoor
open Go Go.E
end Go.Proofs.YtcaaiphgikpgjaaGreatDoor
end

section
namespace Go.Proofs.YtcaaiphgikpgjaaGreatDoor
open Go Go.E
abbrev ltB (x y : List UInt8) : Prop := Lib.compareBytes x y < 0
structure Gath (o : List Tip) (S : List FPair) : Prop where
  nd : o.Nodup
  sub : ∀ y ∈ o, tp y ∈ S
  len : o.length ≤ 4097
  all : o.length ≤ 4096 → ∀ q ∈ S, ∃ y ∈ o, tp y = q
theorem Gath.more {o : List Tip} {S : List FPair} (h : Gath o S) (hl : o.length ≤ 4096) (x : Tip) : Gath (if x ∈ o then o else o ++ [x]) (S ++ [tp x]) := by
  by_cases hx : x ∈ o
  · rw [if_pos hx]
    refine ⟨h.nd, fun y hy => List.mem_append_left _ (h.sub y hy), h.len, fun h4 q hq => ?_⟩
    rw [List.mem_append, List.mem_singleton] at hq
    rcases hq with hq | rfl
    · exact h.all h4 q hq
    · exact ⟨x, hx, rfl⟩
  · rw [if_neg hx]
    refine ⟨?_, fun y hy => ?_, by rw [List.length_append, List.length_singleton]; omega, fun h4 q hq => ?_⟩
    · rw [List.nodup_append]
      exact ⟨h.nd, by simp, fun a ha b hb => by rw [List.mem_singleton.1 hb]; intro e; subst e; exact hx ha⟩
    · rw [List.mem_append, List.mem_singleton] at *
      rcases hy with hy | rfl
      · exact .inl (h.sub y hy)
      · exact .inr rfl
    · rw [List.mem_append, List.mem_singleton] at hq
      rcases hq with hq | rfl
      · obtain ⟨y, hy, e⟩ := h.all hl q hq
        exact ⟨y, List.mem_append_left _ hy, e⟩
      · exact ⟨x, by simp, rfl⟩
theorem Gath.full {o : List Tip} {S T : List FPair} (h : Gath o S) (hl : 4096 < o.length) (hs : ∀ q ∈ S, q ∈ T) : Gath o T := ⟨h.nd, fun y hy => hs _ (h.sub y hy), h.len, fun h4 => by omega⟩
end Go.Proofs.YtcaaiphgikpgjaaGreatDoor
end

section
namespace Go.Proofs.YtcaaiphgikpgjaaGreatDoor
open Go Go.E Go.E.OpVal Go.E.OpOk
end Go.Proofs.YtcaaiphgikpgjaaGreatDoor
end

section
namespace Go.Proofs.YtcaaiphgikpgjaaGreatDoor
open Go Go.E Go.E.OpVal Go.E.OpOk
end Go.Proofs.YtcaaiphgikpgjaaGreatDoor
end

section
namespace Go.Proofs.YtcaaiphgikpgjaaGreatDoor
open Go Go.E
theorem ex_ite {α : Type} {b : Bool} {x y : Option α} (h1 : b = true → ∃ r, x = some r) (h2 : b = false → ∃ r, y = some r) : ∃ r, iteO b x y = some r := by
  cases b with
  | true => exact h1 rfl
  | false => exact h2 rfl
theorem ex_some {α : Type} (x : α) : ∃ r, some x = some r := ⟨x, rfl⟩
theorem few15_j3 (t : Fst) (i : Int) : ∃ r, Bf_ t i = some r := by
  unfold Bf_
  exact ex_ite (fun _ => ex_ite (fun _ => ex_some _) (fun _ => ex_some _)) (fun _ => ex_some _)
theorem few15_j2 (t : Fst) (i : Int) : ∃ r, Bg_ t i = some r := by
  unfold Bg_
  obtain ⟨r, h, -⟩ := iter_up (step := fun q : Int × Nat => Af_ t q.1 q.2) (fun (s : Int) k => (s, k)) t.arcs.length (fun _ _ => True) (fun _ => True)
    (fun k s hk _ => by
      show (∃ s', Af_ t s k = _ ∧ _) ∨ ∃ r, Af_ t s k = _ ∧ _
      unfold Af_
      rw [iteO_dt (by omega)]
      by_cases h : s ≤ 60
      · rw [iteO_dt h]; exact .inl ⟨_, rfl, trivial⟩
      · rw [iteO_df h]; obtain ⟨r, hr⟩ := few15_j3 t s; exact .inr ⟨r, by rw [hr]; rfl, trivial⟩)
    (fun s _ => by
      show ∃ r, Af_ t s _ = _ ∧ _
      unfold Af_
      rw [iteO_df (by omega)]
      obtain ⟨r, hr⟩ := few15_j3 t s; exact ⟨r, by rw [hr]; rfl, trivial⟩) (s0 := i) trivial
  exact ⟨r, h⟩
theorem few15_j1 (t : Fst) (i : Int) : ∃ r, Bh_ t i = some r := by
  unfold Bh_
  obtain ⟨r, h, -⟩ := iter_up (step := fun q : Int × Nat => Ai_ t q.1 q.2) (fun (s : Int) k => (s, k)) t.ends.length (fun _ _ => True) (fun _ => True)
    (fun k s hk _ => by
      show (∃ s', Ai_ t s k = _ ∧ _) ∨ ∃ r, Ai_ t s k = _ ∧ _
      unfold Ai_
      rw [iteO_dt (by omega)]
      by_cases h : s ≤ 60
      · rw [iteO_dt h]; exact .inl ⟨_, rfl, trivial⟩
      · rw [iteO_df h]; obtain ⟨r, hr⟩ := few15_j2 t s; exact .inr ⟨r, by rw [hr]; rfl, trivial⟩)
    (fun s _ => by
      show ∃ r, Ai_ t s _ = _ ∧ _
      unfold Ai_
      rw [iteO_df (by omega)]
      obtain ⟨r, hr⟩ := few15_j2 t s; exact ⟨r, by rw [hr]; rfl, trivial⟩) (s0 := i) trivial
  exact ⟨r, h⟩
theorem few15_total (t : Fst) : ∃ r, Cr_ t = some r := by
  unfold Cr_
  obtain ⟨r, h, -⟩ := iter_up (step := fun q : Int × Nat => Ah_ t q.1 q.2) (fun (s : Int) k => (s, k)) t.starts.length (fun _ _ => True) (fun _ => True)
    (fun k s hk _ => by
      show (∃ s', Ah_ t s k = _ ∧ _) ∨ ∃ r, Ah_ t s k = _ ∧ _
      unfold Ah_
      rw [iteO_dt (by omega)]
      by_cases h : s ≤ 60
      · rw [iteO_dt h]; exact .inl ⟨_, rfl, trivial⟩
      · rw [iteO_df h]; obtain ⟨r, hr⟩ := few15_j1 t s; exact .inr ⟨r, by rw [hr]; rfl, trivial⟩)
    (fun s _ => by
      show ∃ r, Ah_ t s _ = _ ∧ _
      unfold Ah_
      rw [iteO_df (by omega)]
      obtain ⟨r, hr⟩ := few15_j1 t s; exact ⟨r, by rw [hr]; rfl, trivial⟩) trivial
  exact ⟨r, h⟩
end Go.Proofs.YtcaaiphgikpgjaaGreatDoor
end

section
namespace Go.Proofs.YtcaaiphgikpgjaaGreatDoor
open Go Go.E
theorem iteO_any {α : Type} {b : Bool} {x y : Option α} {z : Option α} (h1 : b = true → x = z) (h2 : b = false → y = z) : iteO b x y = z := by
  cases b with
  | true => exact h1 rfl
  | false => exact h2 rfl
theorem alt_ok {a b : Fst} (ha : FstOk a) (hb : FstOk b) (h : GB (fAlt a b)) (hn : (fAlt a b).states ≤ 1024) : FstOk (fAlt a b) := by
  have a0 := ha.st0
  have b0 := hb.st0
  refine ⟨by show 0 ≤ a.states + b.states; omega, hn, h.aN, h.sN, h.eN, fun x hx => ⟨?_, h.s x hx⟩, fun x hx => ⟨?_, h.e x hx⟩, fun x hx => ?_⟩
  · show 0 ≤ x.state ∧ x.state < a.states + b.states
    rcases List.mem_append.1 hx with hx | hx
    · have := ha.starts x hx; omega
    · obtain ⟨y, hy, rfl⟩ := mem_shT.1 hx
      have := hb.starts y hy; dsimp only; omega
  · show 0 ≤ x.state ∧ x.state < a.states + b.states
    rcases List.mem_append.1 hx with hx | hx
    · have := ha.ends x hx; omega
    · obtain ⟨y, hy, rfl⟩ := mem_shT.1 hx
      have := hb.ends y hy; dsimp only; omega
  · show (0 ≤ x.frm ∧ x.frm < a.states + b.states) ∧ (0 ≤ x.to ∧ x.to < a.states + b.states) ∧ x.set ≠ BSet.zero ∧ x.out.length ≤ 1024
    have hl := h.a x hx
    rcases List.mem_append.1 hx with hx | hx
    · have := ha.arcs x hx; exact ⟨by omega, by omega, this.2.2.1, hl⟩
    · obtain ⟨y, hy, rfl⟩ := mem_shA.1 hx
      have := hb.arcs y hy; exact ⟨by dsimp only; omega, by dsimp only; omega, this.2.2.1, hl⟩
def zF : Fst := ⟨0, [], [], []⟩
theorem zF_ok : FstOk zF := ⟨by decide, by decide, by decide, by decide, by decide, fun _ h => (by cases h), fun _ h => (by cases h), fun _ h => (by cases h)⟩
theorem alt_any (a b : Fst) : ∃ r, D4_ a b = some r ∧ FstOk r.1 ∧ (r.2 ≠ 0 ∨ FstOk a ∧ FstOk b ∧ r = (fAlt a b, 0) ∧ FstOk (fAlt a b)) := by
  by_cases h : fstB a = true ∧ fstB b = true
  · have ha := (fstB_iff a).1 h.1
    have hb := (fstB_iff b).1 h.2
    obtain ⟨r, e, hr⟩ := alt_go ha hb
    refine ⟨r, e, ?_⟩
    rcases hr with rfl | ⟨rfl, h1, h2⟩
    · exact ⟨zF_ok, .inl (by decide)⟩
    · exact ⟨alt_ok ha hb h1 h2, .inr ⟨ha, hb, rfl, alt_ok ha hb h1 h2⟩⟩
  · refine ⟨(zF, 1), ?_, zF_ok, .inl (by decide)⟩
    unfold D4_
    rw [both_go, bnd_mk]
    have : (fstB a && fstB b) = false := by
      rw [Bool.and_eq_false_iff]
      cases ha : fstB a
      · exact .inl rfl
      · right
        cases hb : fstB b
        · rfl
        · exact absurd ⟨ha, hb⟩ h
    rw [this]; rfl
end Go.Proofs.YtcaaiphgikpgjaaGreatDoor
end

section
namespace Go.Proofs.YtcaaiphgikpgjaaGreatDoor
open Go Go.E
def dltN (d : Dfa) (s : Int) (b : Nat) : Int := nth (nth d.next s.toNat ([] : List Int)) ((nth d.cls b (0 : Int)).toNat) (0 : Int)
theorem dlt_N (d : Dfa) (s : Int) (b : UInt8) : dltN d s b.toNat = dlt d s b := rfl
def lset (d : Dfa) (y : Int) (s : BSet) (z : Int) : BSet := BSet.make fun b => s.has b && decide (dltN d y b = z)
theorem lset_has {d : Dfa} {y z : Int} {s : BSet} {b : UInt8} : (lset d y s z).has b.toNat = true ↔ s.has b.toNat = true ∧ dlt d y b = z := by
  unfold lset
  rw [BSet.make_has _ (UInt8.toNat_lt b), dlt_N, Bool.and_eq_true, decide_eq_true_eq]
theorem hasZ (b : Nat) (hb : b < 256) : BSet.zero.has b = false := by
  rw [← BSet.make_zero, BSet.make_has _ hb]
theorem lset_ne {d : Dfa} {y z : Int} {s : BSet} {b : UInt8} (h : s.has b.toNat = true) (h2 : dlt d y b = z) : lset d y s z ≠ BSet.zero := fun e => by
  have h3 := lset_has.2 ⟨h, h2⟩
  rw [e, hasZ _ (UInt8.toNat_lt b)] at h3; cases h3
def limS (n : Nat) (l : List Tip) : List Tip := l.map fun x => ⟨x.state * ((n : Nat) : Int), x.out⟩
def limE1 (d : Dfa) (x : Tip) : List Tip := ((List.range d.next.length).filter fun y => nth d.fin y false).map fun y => ⟨x.state * ((d.next.length : Nat) : Int) + ((y : Nat) : Int), x.out⟩
def limE (d : Dfa) (l : List Tip) : List Tip := l.flatMap (limE1 d)
def limZ (d : Dfa) (x : Arc) (y : Nat) : List Arc := ((List.range d.next.length).filter fun z => decide (lset d ((y : Nat) : Int) x.set ((z : Nat) : Int) ≠ BSet.zero)).map fun z =>
  ⟨x.frm * ((d.next.length : Nat) : Int) + ((y : Nat) : Int), x.to * ((d.next.length : Nat) : Int) + ((z : Nat) : Int), lset d ((y : Nat) : Int) x.set ((z : Nat) : Int), x.out, x.copy⟩
def limY (d : Dfa) (x : Arc) (k : Nat) : List Arc := (List.range k).flatMap (limZ d x)
def limA (d : Dfa) (l : List Arc) : List Arc := l.flatMap fun x => limY d x d.next.length
def fLim (t : Fst) (d : Dfa) : Fst := ⟨t.states * ((d.next.length : Nat) : Int), limS d.next.length t.starts, limE d t.ends, limA d t.arcs⟩
theorem mem_limS {n : Nat} {l : List Tip} {a : Tip} : a ∈ limS n l ↔ ∃ x ∈ l, a = ⟨x.state * ((n : Nat) : Int), x.out⟩ := by
  unfold limS; rw [List.mem_map]
  exact ⟨fun ⟨x, h, e⟩ => ⟨x, h, e.symm⟩, fun ⟨x, h, e⟩ => ⟨x, h, e.symm⟩⟩
theorem mem_limE {d : Dfa} {l : List Tip} {a : Tip} : a ∈ limE d l ↔ ∃ x ∈ l, ∃ y : Nat, y < d.next.length ∧ nth d.fin y false = true ∧ a = ⟨x.state * ((d.next.length : Nat) : Int) + ((y : Nat) : Int), x.out⟩ := by
  unfold limE limE1
  simp only [List.mem_flatMap, List.mem_map, List.mem_filter, List.mem_range]
  exact ⟨fun ⟨x, hx, y, ⟨h1, h2⟩, e⟩ => ⟨x, hx, y, h1, h2, e.symm⟩, fun ⟨x, hx, y, h1, h2, e⟩ => ⟨x, hx, y, ⟨h1, h2⟩, e.symm⟩⟩
theorem mem_limA {d : Dfa} {l : List Arc} {a : Arc} : a ∈ limA d l ↔ ∃ x ∈ l, ∃ y : Nat, y < d.next.length ∧ ∃ z : Nat, z < d.next.length ∧ lset d ((y : Nat) : Int) x.set ((z : Nat) : Int) ≠ BSet.zero ∧
    a = ⟨x.frm * ((d.next.length : Nat) : Int) + ((y : Nat) : Int), x.to * ((d.next.length : Nat) : Int) + ((z : Nat) : Int), lset d ((y : Nat) : Int) x.set ((z : Nat) : Int), x.out, x.copy⟩ := by
  unfold limA limY limZ
  simp only [List.mem_flatMap, List.mem_map, List.mem_filter, List.mem_range, decide_eq_true_eq]
  exact ⟨fun ⟨x, hx, y, hy, z, ⟨h1, h2⟩, e⟩ => ⟨x, hx, y, hy, z, h1, h2, e.symm⟩, fun ⟨x, hx, y, hy, z, h1, h2, e⟩ => ⟨x, hx, y, hy, z, ⟨h1, h2⟩, e.symm⟩⟩
theorem two_inj {n s s' y y' : Int} (h0 : 0 ≤ y ∧ y < n) (h1 : 0 ≤ y' ∧ y' < n) (h : s * n + y = s' * n + y') : s = s' ∧ y = y' := by
  have hn : n ≠ 0 := by omega
  have e1 : (y + s * n) / n = s := by rw [Int.add_mul_ediv_right _ _ hn, Int.ediv_eq_zero_of_lt h0.1 h0.2, Int.zero_add]
  have e2 : (y' + s' * n) / n = s' := by rw [Int.add_mul_ediv_right _ _ hn, Int.ediv_eq_zero_of_lt h1.1 h1.2, Int.zero_add]
  have e3 : s = s' := by rw [← e1, ← e2, Int.add_comm y, Int.add_comm y', h]
  subst e3
  exact ⟨rfl, by omega⟩
theorem okS_nat {d : Dfa} {y : Int} (h : okS d y) : ∃ k : Nat, y = ((k : Nat) : Int) ∧ k < d.next.length := by
  obtain ⟨h1, h2⟩ := h
  exact ⟨y.toNat, by omega, by omega⟩
theorem runD_cons (d : Dfa) (y : Int) (b : UInt8) (w : List UInt8) : runD d y (b :: w) = runD d (dlt d y b) w := rfl
theorem lim_fwd {t : Fst} {d : Dfa} (hd : rightD d = true) {s q : Int} {w o : List UInt8} (h : Wy t s w o q) : ∀ y, okS d y → Wy (fLim t d) (s * ((d.next.length : Nat) : Int) + y) w o (q * ((d.next.length : Nat) : Int) + runD d y w) := by
  induction h with
  | nil s => exact fun y _ => .nil _
  | @cons w o q a b ha hb hw ih =>
    intro y hy
    have hs := (dlt_ok hd hy b).nx
    have k := ih _ hs
    obtain ⟨i, rfl, hi⟩ := okS_nat hy
    obtain ⟨j, ej, hj⟩ := okS_nat hs
    rw [runD_cons]
    have hA : (⟨a.frm * ((d.next.length : Nat) : Int) + ((i : Nat) : Int), a.to * ((d.next.length : Nat) : Int) + dlt d ((i : Nat) : Int) b, lset d ((i : Nat) : Int) a.set (dlt d ((i : Nat) : Int) b), a.out, a.copy⟩ : Arc) ∈ (fLim t d).arcs :=
      mem_limA.2 ⟨a, ha, i, hi, j, hj, by rw [← ej]; exact lset_ne hb rfl, by rw [ej]⟩
    exact Wy.cons (t := fLim t d) _ b hA (lset_has.2 ⟨hb, rfl⟩) k
theorem lim_back {t : Fst} {d : Dfa} {s' q' : Int} {w o : List UInt8} (h : Wy (fLim t d) s' w o q') : ∀ s y, okS d y → s' = s * ((d.next.length : Nat) : Int) + y → okS d (runD d y w) ∧ ∃ q, q' = q * ((d.next.length : Nat) : Int) + runD d y w ∧ Wy t s w o q := by
  induction h with
  | nil s' => exact fun s y hy e => ⟨hy, s, e, .nil s⟩
  | @cons w o q' a b ha hb hw ih =>
    intro s y hy e
    obtain ⟨x, hx, i, hi, j, hj, hz, rfl⟩ := mem_limA.1 ha
    dsimp only at hb ih e
    obtain ⟨h1, h2⟩ := lset_has.1 hb
    obtain ⟨rfl, rfl⟩ := two_inj ⟨Int.natCast_nonneg i, by omega⟩ hy e
    obtain ⟨h3, q, h4, h5⟩ := ih x.to ((j : Nat) : Int) ⟨Int.natCast_nonneg j, by omega⟩ rfl
    rw [runD_cons, h2]
    exact ⟨h3, q, h4, Wy.cons x b hx h1 h5⟩
theorem rel_lim {t : Fst} {d : Dfa} (hd : rightD d = true) {w o : List UInt8} : Rel (fLim t d) w o ↔ Rel t w o ∧ nth d.fin (runD d 0 w).toNat false = true := by
  have h0 := ok0 hd
  constructor
  · rintro ⟨x', hx', e', he', m, hw, rfl⟩
    obtain ⟨x, hx, rfl⟩ := mem_limS.1 hx'
    obtain ⟨e, he, y, hy, hf, rfl⟩ := mem_limE.1 he'
    dsimp only at hw ⊢
    obtain ⟨h1, q, h2, h3⟩ := lim_back hw x.state 0 h0 (by omega)
    obtain ⟨rfl, h5⟩ := two_inj ⟨Int.natCast_nonneg y, by omega⟩ h1 h2
    refine ⟨⟨x, hx, e, he, m, h3, rfl⟩, ?_⟩
    rw [← h5, Int.toNat_natCast]; exact hf
  · rintro ⟨⟨x, hx, e, he, m, hw, rfl⟩, hf⟩
    have k := lim_fwd hd hw 0 h0
    rw [Int.add_zero] at k
    obtain ⟨j, ej, hj⟩ := okS_nat (runD_ok hd w h0)
    rw [ej] at hf k
    rw [Int.toNat_natCast] at hf
    exact ⟨_, mem_limS.2 ⟨x, hx, rfl⟩, _, mem_limE.2 ⟨e, he, j, hj, hf, rfl⟩, m, k, rfl⟩
theorem in_two {n s y m : Int} (hs : 0 ≤ s ∧ s < m) (hy : 0 ≤ y ∧ y < n) : 0 ≤ s * n + y ∧ s * n + y < m * n := by
  have h1 : 0 ≤ s * n := Int.mul_nonneg hs.1 (by omega)
  have h2 : (s + 1) * n ≤ m * n := Int.mul_le_mul_of_nonneg_right (by omega) (by omega)
  rw [Int.add_mul, Int.one_mul] at h2
  omega
end Go.Proofs.YtcaaiphgikpgjaaGreatDoor
end

section
namespace Go.Proofs.YtcaaiphgikpgjaaGreatDoor
open Go Go.E Go.E.OpVal Go.E.OpOk Go.Proofs.Tryz
private theorem ag27 : Go.E.aggOf Tryz.prog 27 = some false := by kernel_rfl
private theorem fo30_0 : Go.E.foOf Tryz.prog 30 0 = some 0 := by kernel_rfl
private theorem fo30_1 : Go.E.foOf Tryz.prog 30 1 = some 1 := by kernel_rfl
private theorem pf54 : Go.E.plainF Tryz.prog 54 = true := by kernel_rfl
private theorem pf55 : Go.E.plainF Tryz.prog 55 = true := by kernel_rfl
private theorem sz26 : Go.E.szOf Tryz.prog 26 = some 1 := by kernel_rfl
noncomputable def D0_ (k113 : Nat) (m115 : FM Int BSet) : Option (((FM Int BSet) × Nat) ⊕ ((FM Int BSet))) :=
 nxt (m115, (k113 + 1))
noncomputable def B1_ (x0 : Dfa) (x2 : BSet) (x1 : Int) (m112 : FM Int BSet) (k113 : Nat) : Option (((FM Int BSet) × Nat) ⊕ ((FM Int BSet))) :=
 iteO (decide (((k113 : Nat) : Int) < ((x0.cls.length : Nat) : Int))) (iteO (x2.has (toU8 ((k113 : Nat) : Int)).toNat) (grd (0 ≤ x1 ∧ x1 < (x0.next.length : Int)) (grd (0 ≤ (nth x0.cls k113 (0 : Int)) ∧ (nth x0.cls k113 (0 : Int)) < ((nth x0.next x1.toNat ([] : List Int)).length : Int)) (grd ([(toU8 ((k113 : Nat) : Int))].length ≤ 1000000000000) (bnd (Eo_ (m112.get (nth (nth x0.next x1.toNat ([] : List Int)) ((nth x0.cls k113 (0 : Int)).toNat) (0 : Int)) BSet.zero) (BSet.ofL [(toU8 ((k113 : Nat) : Int))])) (fun v38 => D0_ k113 (m112.put (nth (nth x0.next x1.toNat ([] : List Int)) ((nth x0.cls k113 (0 : Int)).toNat) (0 : Int)) v38)))))) (D0_ k113 m112)) (fin (some m112))
noncomputable def Ey_ (x0 : Dfa) (x1 : Int) (x2 : BSet) : Option ((FM Int BSet)) :=
 iter (fun q : (FM Int BSet) × Nat => B1_ x0 x2 x1 q.1 q.2) ((FM.emp : FM Int BSet), 0)
theorem Ga_ {σ : Store} {x0 : Dfa} {a0_0 : Option Addr} {c0_0 : Nat} {a0_1 : Option Addr} {c0_1 : Nat} {a0_2 : Option Addr} {c0_2 : Nat} {x1 : Int} {x2 : BSet} (f0_0 : RS σ 1 Go.E.encI (.slice a0_0 x0.cls.length c0_0) x0.cls) (f0_1 : RZ σ (pkSl 1 Go.E.encI Go.E.encI_len) (.slice a0_1 x0.next.length c0_1) x0.next) (f0_2 : RS σ 1 encB (.slice a0_2 x0.fin.length c0_2) x0.fin) {r : (FM Int BSet)} (hh : Ey_ x0 x1 x2 = some r) :
  Con Tryz.prog 29 #[.agg #[.slice a0_0 x0.cls.length c0_0, .slice a0_1 x0.next.length c0_1, .slice a0_2 x0.fin.length c0_2], .int .i64 x1, setV x2] σ [] (fun v σ' H' => ∃ (br1 : Option Nat), v = .map br1 ∧ σ = σ' ∧ H' = [Res.mapB keyI setV br1 r]) := by
 dsimp only [Ey_] at hh
 have f0_0b := f0_0.rv.big
 have f0_1b := f0_1.big
 have f0_2b := f0_2.rv.big
 refine Con.mk (n := 44) Tryz.func29 z z z (fun w0 => ?_)
 refine TC.a (TL.op z (boxA z z z z (fun b102 => ?_)))
 refine TL.op z (boxA z z z z (fun b104 => ?_))
 refine TL.w z (moveMap (.inr z) z) (TL.en (TC.a (TL.op z (makeMapB (enc := keyI) (encV := setV) z z z (fun b106 => ?_)))))
 refine TL.w z (moveMap (.inr z) z) (TL.en (TC.seq (TC.a (TL.w z (fieldLoc z fo30_0 z) (TL.w z (loadLoc z ag26 z (i := 2) z z) (TL.w z (lenC z underlying26 z) (TL.i z z (TL.en (TC.block (TC.loopG (α := ((FM Int BSet) × Nat) × (Unit)) (rgs [(8, 3), (15, 28)]) (fun g => [(15, .int .i64 ((g.1.2 : Nat) : Int))]) (fun g => [Res.cells b102 #[.slice a0_0 x0.cls.length c0_0, .slice a0_1 x0.next.length c0_1, .slice a0_2 x0.fin.length c0_2] 30, Res.cells b104 (setA x2) 57, Res.mapB keyI setV (some b106) g.1.1]) (fun g => σ) (fun g => iter (fun q : (FM Int BSet) × Nat => B1_ x0 x2 x1 q.1 q.2) g.1 = some r) (fun g => rounds (fun q : (FM Int BSet) × Nat => B1_ x0 x2 x1 q.1 q.2) g.1) (((FM.emp : FM Int BSet), 0), ()) (Sub.f [1, 2] 3) z (by repeat (first | exact trivial | refine ⟨z, ?_⟩)) hh (fun g1 j1 hg1 => ?_)))))))))))
 obtain ⟨⟨m112, k113⟩, _⟩ := g1
 have hh := hg1; clear hg1
 try dsimp only
 obtain ⟨z1, hh, hR1⟩ := iter_e hh
 dsimp only [B1_] at hh
 refine TC.a (TL.w z (OpVal.lss z z z) (TL.en (TC.seq (TC.cD z hh (fun h114 hh => ?_) (fun h114 hh => ?_)))))
 ·refine TC.skip (S.n (TC.cutG (α := ((FM Int BSet)) × (Unit)) (rgs [(8, 3), (17, 25)]) (fun g => []) (fun g => [Res.cells b102 #[.slice a0_0 x0.cls.length c0_0, .slice a0_1 x0.next.length c0_1, .slice a0_2 x0.fin.length c0_2] 30, Res.cells b104 (setA x2) 57, Res.mapB keyI setV (some b106) g.1]) (fun g => σ) (fun g => D0_ k113 g.1 = some z1) ?_ (fun g j hg => ?_)))
  ·skip
   refine TC.block (TC.a (TL.i z z (TL.w z (indexN z underlying26 sz3 z z f0_0.rv.sl (by omega)) (TL.w z (loadS1 (0 : Int) z ag3 z f0_0 (by omega) z) (TL.i z z (TL.i z z (TL.en (TC.a (TL.w z (loadAll z ag57 sz57 z (i := 1) z z) (TL.i z z (TL.w z (convU8 z underlying3 underlying5 z) (TL.op z (callP (has_con _ x2 (toU8 ((k113 : Nat) : Int)).toNat (BSet.isOk _) (UInt8.toNat_lt _)) z z pf54 z z z ?_)))))))))))))
   refine TL.en (TC.cB z hh (fun h116 hh => ?_) (fun h116 hh => ?_))
   ·refine TC.a (TL.w z (fieldLoc z fo30_1 z) (TL.w z (loadLoc z ag27 z (i := 0) z z) (TL.i z z ?_)))
    have u23 := grd_c hh
    replace hh := grd_t hh
    refine TL.w z (OpVal.index z underlying27 sz26 z z f0_1.isSl u23.1 u23.2) ?_
    obtain ⟨p117, hk117, hg117⟩ := RZ.seg f0_1 x1.toNat (by omega)
    replace hk117 : RS _ 1 Go.E.encI (.slice p117.1 (nth x0.next x1.toNat ([] : List Int)).length p117.2) (nth x0.next x1.toNat ([] : List Int)) := hk117
    have hk117b := hk117.rv.big
    refine TL.w z (OpVal.of (loadSeg0 z ag26 z hg117 z) (v' := .slice p117.1 ((nth x0.next x1.toNat ([] : List Int)).length) p117.2) z) (TL.i z z ?_)
    have u26 := grd_c hh
    replace hh := grd_t hh
    refine TL.w z (OpVal.index z underlying26 sz3 z z hk117.rv.sl u26.1 u26.2) (TL.w z (loadS1 (0 : Int) z ag3 z hk117 (by omega) z) (TL.i z z (TL.en ?_)))
    have u37 := grd_c hh
    replace hh := grd_t hh
    obtain ⟨v38, u38, hh⟩ := bnd_e hh
    refine TC.draw [10] (by kernel_rfl) (TA.a 0 z (moveMap (.inl z) z) z (TA.a 1 z (moveI (.inl z) z) z (TA.a 2 z (moveMap (.inl z) z) z (TA.a 3 z (moveI (.inl z) z) z (TA.b 4 z (OpVal.of (lookB1 BSet.zero (q := (nth (nth x0.next x1.toNat ([] : List Int)) ((nth x0.cls k113 (0 : Int)).toNat) (0 : Int))) z underlying72 ze57 z (i := 2) z z (keyL_int underlying3)) (v' := setV (m112.get (nth (nth x0.next x1.toNat ([] : List Int)) ((nth x0.cls k113 (0 : Int)).toNat) (0 : Int)) BSet.zero)) z) z (TA.a 5 z (moveI (.inl z) z) z (TA.a 6 z (convU8 z underlying3 underlying5 z) z (TA.ac 7 z (OpOk.lit (enc := encU8) [(toU8 ((k113 : Nat) : Int))] z underlying53 sz5 ze5 z z z encU8_len (by decide) (by decide) (0 : UInt8) z (by decide) z (by decide) encU8_one (fun a121 c122 => (k1 ?_)))))))))))
    refine TA.ac 8 z (callT (of_con _ _ _ [(toU8 ((k113 : Nat) : Int))] u37) z z pf23 z z z z (k0 ?_))
    refine TA.ac 9 z (callP (Fz_ u38) z z pf55 z z z (k0 ?_))
    refine TA.front 2 z z (TA.last 10 (by kernel_rfl) z z z (updB (nth (nth x0.next x1.toNat ([] : List Int)) ((nth x0.cls k113 (0 : Int)).toNat) (0 : Int)) v38 z underlying72 z z z z (keyL_int underlying3) ?_))
    exact TZ.done (by kernel_rfl) (B.n (S.n (cf ((m112.put (nth (nth x0.next x1.toNat ([] : List Int)) ((nth x0.cls k113 (0 : Int)).toNat) (0 : Int)) v38), ()) hh (Sub.f [2, 2] 3))))
   ·exact TC.skip (B.n (S.n (cf (m112, ()) hh (Sub.f [2, 2, 2] 3))))
  ·skip
   obtain ⟨m115, _⟩ := g
   have hh := hg; clear hg
   try dsimp only
   dsimp only [D0_] at hh
   refine TC.region (TL.w z (OpVal.succ z z z (by omega)) (TL.i z z (TL.en ?_)))
   obtain ⟨hh, hlt124⟩ := nxt_x hR1 hh
   exact lf ((m115, (k113 + 1)), ()) hlt124 hh (Sub.f [2, 2, 2] 3)
 ·refine TC.exit (S.x (S.x ?_))
  replace hh := fin_x hR1 hh
  refine TC.exitHere (S.n (TC.a (TL.w z (moveMap (.inl z) z) (TL.w z (moveMap (.inr z) z) (TL.en (TC.ofSub (Sub.f [2] 1) (TC.ret ?_)))))))
  obtain rfl := so hh
  exact ro [Res.mapB keyI setV (some b106) m112] z (RVs.tmp z RVs.nil) ⟨(some b106), z, z, z⟩
end Go.Proofs.YtcaaiphgikpgjaaGreatDoor
end

section
namespace Go.Proofs.YtcaaiphgikpgjaaGreatDoor
open Go Go.Shelf
def layK_ren : Go.Shelf.Ren := ⟨fun | 7 => 31 | 10 => 58 | n => n, fun | 23 => 72 | 26 => 3 | 3 => 57 | 28 => 76 | 0 => 0 | 27 => 75 | 33 => 113 | 4 => 4 | n => n, fun | n => n⟩
theorem layK : Go.Proofs.SlLaysZI.n7 Tryz.prog layK_ren := {
  mixed := by kernel_rfl,
  f7 := ⟨Tryz.f31.name, by decide, Tryz.func31.trans (congrArg some (by kernel_rfl))⟩,
  f10 := ⟨Tryz.f58.name, by decide, Tryz.func58.trans (congrArg some (by kernel_rfl))⟩,
  t0 := Tryz.underlying0,
  a0 := Tryz.isAgg0,
  z0 := Tryz.sizeOf0,
  v0 := Tryz.zeroValue0,
  t4 := Tryz.underlying4,
  a4 := Tryz.isAgg4,
  z4 := Tryz.sizeOf4,
  v4 := Tryz.zeroValue4,
  t23 := Tryz.underlying72,
  a23 := Tryz.isAgg72,
  z23 := Tryz.sizeOf72,
  v23 := Tryz.zeroValue72,
  t26 := Tryz.underlying3,
  a26 := Tryz.isAgg3,
  z26 := Tryz.sizeOf3,
  v26 := Tryz.zeroValue3,
  t27 := Tryz.underlying75,
  a27 := Tryz.isAgg75,
  z27 := Tryz.sizeOf75,
  v27 := Tryz.zeroValue75,
  t28 := Tryz.underlying76,
  a28 := Tryz.isAgg76,
  z28 := Tryz.sizeOf76,
  v28 := Tryz.zeroValue76,
  t33 := Tryz.underlying113,
  a33 := Tryz.isAgg113,
  z33 := Tryz.sizeOf113,
  v33 := Tryz.zeroValue113 }
def layK1_ren : Go.Shelf.Ren := ⟨fun | 10 => 58 | n => n, fun | 33 => 113 | 23 => 72 | 0 => 0 | 4 => 4 | 26 => 3 | 3 => 57 | n => n, fun | n => n⟩
theorem layK1 : Go.Proofs.SlLaysZI.n10 Tryz.prog layK1_ren := {
  mixed := by kernel_rfl,
  f10 := ⟨Tryz.f58.name, by decide, Tryz.func58.trans (congrArg some (by kernel_rfl))⟩,
  t0 := Tryz.underlying0,
  a0 := Tryz.isAgg0,
  z0 := Tryz.sizeOf0,
  v0 := Tryz.zeroValue0,
  t4 := Tryz.underlying4,
  a4 := Tryz.isAgg4,
  z4 := Tryz.sizeOf4,
  v4 := Tryz.zeroValue4,
  t23 := Tryz.underlying72,
  a23 := Tryz.isAgg72,
  z23 := Tryz.sizeOf72,
  v23 := Tryz.zeroValue72,
  t26 := Tryz.underlying3,
  a26 := Tryz.isAgg3,
  z26 := Tryz.sizeOf3,
  v26 := Tryz.zeroValue3,
  t33 := Tryz.underlying113,
  a33 := Tryz.isAgg113,
  z33 := Tryz.sizeOf113,
  v33 := Tryz.zeroValue113 }
def layK6_ren : Go.Shelf.Ren := ⟨fun | 6 => 30 | 8 => 56 | 9 => 57 | 11 => 78 | 13 => 80 | 12 => 79 | 23 => 127 | 24 => 128 | 14 => 118 | 15 => 119 | 16 => 120 | 17 => 121 | 18 => 122 | 19 => 123 | 20 => 124 | 21 => 125 | 22 => 126 | 25 => 147 | 26 => 148 | 27 => 149 | 28 => 150 | 29 => 151 | 30 => 130 | 31 => 178 | n => n, fun | 26 => 3 | 28 => 76 | 24 => 26 | 0 => 0 | 3 => 3 | 37 => 150 | 48 => 210 | 50 => 55 | 4 => 4 | 40 => 203 | 39 => 202 | 45 => 207 | 5 => 5 | 9 => 9 | 51 => 232 | 55 => 236 | 57 => 256 | 58 => 257 | 33 => 113 | n => n, fun | n => n⟩
theorem layK6 : Go.Proofs.SlLaysZI.n6 Tryz.prog layK6_ren := {
  mixed := by kernel_rfl,
  f6 := ⟨Tryz.f30.name, by decide, Tryz.func30.trans (congrArg some (by kernel_rfl))⟩,
  f8 := ⟨Tryz.f56.name, by decide, Tryz.func56.trans (congrArg some (by kernel_rfl))⟩,
  f11 := ⟨Tryz.f78.name, by decide, Tryz.func78.trans (congrArg some (by kernel_rfl))⟩,
  t0 := Tryz.underlying0,
  a0 := Tryz.isAgg0,
  z0 := Tryz.sizeOf0,
  v0 := Tryz.zeroValue0,
  t24 := Tryz.underlying26,
  a24 := Tryz.isAgg26,
  z24 := Tryz.sizeOf26,
  v24 := Tryz.zeroValue26,
  t26 := Tryz.underlying3,
  a26 := Tryz.isAgg3,
  z26 := Tryz.sizeOf3,
  v26 := Tryz.zeroValue3,
  t28 := Tryz.underlying76,
  a28 := Tryz.isAgg76,
  z28 := Tryz.sizeOf76,
  v28 := Tryz.zeroValue76,
  i26 := by kernel_rfl }
end Go.Proofs.YtcaaiphgikpgjaaGreatDoor
end
