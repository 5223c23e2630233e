/- Parts of a proof, one behind the other: what a machine reaches, functions decompiled, plain lemmas. Conditions stand with each lemma. -/
import Derived.Test.YtcaaiphgikpgjaaGreatDoorB7a4fe0d455
import Derived.Test.YtcaaiphgikpgjaaGreatDoorB2793157dae
import Derived.Lib.Builder
import Derived.Lib.AppendStr
import Derived.Lib.UnsafeStr

set_option linter.unusedVariables false
set_option linter.unusedSimpArgs false
set_option linter.unusedSectionVars false
set_option maxRecDepth 100000

section
namespace Go.Proofs.YtcaaiphgikpgjaaGreatDoor
open Go Go.E Go.E.OpVal Go.E.OpOk Go.Proofs.Tryz
private theorem ag146 : Go.E.aggOf Tryz.prog 146 = some false := by kernel_rfl
private theorem ag22 : Go.E.aggOf Tryz.prog 22 = some false := by kernel_rfl
private theorem ag23 : Go.E.aggOf Tryz.prog 23 = some false := by kernel_rfl
private theorem ag25 : Go.E.aggOf Tryz.prog 25 = some true := by kernel_rfl
private theorem ag27 : Go.E.aggOf Tryz.prog 27 = some false := by kernel_rfl
private theorem ag28 : Go.E.aggOf Tryz.prog 28 = some false := by kernel_rfl
private theorem ag4 : Go.E.aggOf Tryz.prog 4 = some false := by kernel_rfl
private theorem ag41 : Go.E.aggOf Tryz.prog 41 = some true := by kernel_rfl
private theorem ag59 : Go.E.aggOf Tryz.prog 59 = some true := by kernel_rfl
private theorem ag9 : Go.E.aggOf Tryz.prog 9 = some false := by kernel_rfl
private theorem by26 : Go.E.byOf Tryz.prog 26 = some 24 := by kernel_rfl
private theorem by4 : Go.E.byOf Tryz.prog 4 = some 1 := by kernel_rfl
private theorem by41 : Go.E.byOf Tryz.prog 41 = some 24 := by kernel_rfl
private theorem by59 : Go.E.byOf Tryz.prog 59 = some 72 := by kernel_rfl
private theorem fo25_0 : Go.E.foOf Tryz.prog 25 0 = some 0 := by kernel_rfl
private theorem fo25_1 : Go.E.foOf Tryz.prog 25 1 = some 1 := by kernel_rfl
private theorem fo25_2 : Go.E.foOf Tryz.prog 25 2 = some 2 := by kernel_rfl
private theorem fo25_3 : Go.E.foOf Tryz.prog 25 3 = some 3 := by kernel_rfl
private theorem fo41_0 : Go.E.foOf Tryz.prog 41 0 = some 0 := by kernel_rfl
private theorem fo41_1 : Go.E.foOf Tryz.prog 41 1 = some 1 := by kernel_rfl
private theorem fo59_0 : Go.E.foOf Tryz.prog 59 0 = some 0 := by kernel_rfl
private theorem fo59_1 : Go.E.foOf Tryz.prog 59 1 = some 1 := by kernel_rfl
private theorem fo59_2 : Go.E.foOf Tryz.prog 59 2 = some 2 := by kernel_rfl
private theorem fo59_3 : Go.E.foOf Tryz.prog 59 3 = some 6 := by kernel_rfl
private theorem fo59_4 : Go.E.foOf Tryz.prog 59 4 = some 7 := by kernel_rfl
private theorem pf24 : Go.E.plainF Tryz.prog 24 = true := by kernel_rfl
private theorem pf37 : Go.E.plainF Tryz.prog 37 = true := by kernel_rfl
private theorem pf38 : Go.E.plainF Tryz.prog 38 = true := by kernel_rfl
private theorem pf59 : Go.E.plainF Tryz.prog 59 = true := by kernel_rfl
private theorem pf60 : Go.E.plainF Tryz.prog 60 = true := by kernel_rfl
private theorem pf81 : Go.E.plainF Tryz.prog 81 = true := by kernel_rfl
private theorem pl25 : Go.E.plOf Tryz.prog 25 = some #[(0, 1), (1, 1), (2, 1), (3, 1)] := by kernel_rfl
private theorem pl41 : Go.E.plOf Tryz.prog 41 = some #[(0, 1), (1, 1)] := by kernel_rfl
private theorem pl59 : Go.E.plOf Tryz.prog 59 = some #[(0, 1), (1, 1), (2, 4), (6, 1), (7, 1)] := by kernel_rfl
private theorem sz146 : Go.E.szOf Tryz.prog 146 = some 1 := by kernel_rfl
private theorem sz22 : Go.E.szOf Tryz.prog 22 = some 1 := by kernel_rfl
private theorem sz23 : Go.E.szOf Tryz.prog 23 = some 1 := by kernel_rfl
private theorem sz25 : Go.E.szOf Tryz.prog 25 = some 4 := by kernel_rfl
private theorem sz26 : Go.E.szOf Tryz.prog 26 = some 1 := by kernel_rfl
private theorem sz27 : Go.E.szOf Tryz.prog 27 = some 1 := by kernel_rfl
private theorem sz28 : Go.E.szOf Tryz.prog 28 = some 1 := by kernel_rfl
private theorem sz4 : Go.E.szOf Tryz.prog 4 = some 1 := by kernel_rfl
private theorem sz41 : Go.E.szOf Tryz.prog 41 = some 2 := by kernel_rfl
private theorem sz59 : Go.E.szOf Tryz.prog 59 = some 8 := by kernel_rfl
private theorem ze146 : Go.E.zeroOf Tryz.prog 146 = some (.nilFunc) := by kernel_rfl
private theorem ze25 : Go.E.zeroOf Tryz.prog 25 = some (.agg #[.int .i64 0, .slice none 0 0, .slice none 0 0, .slice none 0 0]) := by kernel_rfl
private theorem ze26 : Go.E.zeroOf Tryz.prog 26 = some (.slice none 0 0) := by kernel_rfl
private theorem ze27 : Go.E.zeroOf Tryz.prog 27 = some (.slice none 0 0) := by kernel_rfl
private theorem ze28 : Go.E.zeroOf Tryz.prog 28 = some (.slice none 0 0) := by kernel_rfl
private theorem ze4 : Go.E.zeroOf Tryz.prog 4 = some (.bool false) := by kernel_rfl
private theorem ze41 : Go.E.zeroOf Tryz.prog 41 = some (.agg #[.int .i64 0, .string ByteArray.empty]) := by kernel_rfl
private theorem ze59 : Go.E.zeroOf Tryz.prog 59 = some (.agg #[.int .i64 0, .int .i64 0, .int .u64 0, .int .u64 0, .int .u64 0, .int .u64 0, .string ByteArray.empty, .bool false]) := by kernel_rfl
noncomputable def A3_ (x2 : List (List Int)) (x0 : Int) (self_ : Int → (List Bool) → (List (List Int)) → Option (List Bool)) (l124 : List Bool) (k127 : Nat) : Option (((List Bool) × Nat) ⊕ ((List Bool))) :=
 iteO (decide (((k127 : Nat) : Int) < (((nth x2 x0.toNat ([] : List Int)).length : Nat) : Int))) (bnd (self_ (nth (nth x2 x0.toNat ([] : List Int)) k127 (0 : Int)) l124 x2) (fun v21 => nxt (v21, (k127 + 1)))) (fin (some l124))
noncomputable def De_ (self_ : Int → (List Bool) → (List (List Int)) → Option (List Bool)) (x0 : Int) (x1 : List Bool) (x2 : List (List Int)) : Option ((List Bool)) :=
 grd (0 ≤ x0 ∧ x0 < (x1.length : Int)) (iteO (nth x1 x0.toNat false) (some x1) (grd (0 ≤ x0 ∧ x0 < (x1.length : Int)) (grd (0 ≤ x0 ∧ x0 < (x2.length : Int)) (iter (fun q : (List Bool) × Nat => A3_ x2 x0 self_ q.1 q.2) ((x1.set x0.toNat true), 0)))))
noncomputable def Bq_ : Nat → Int → (List Bool) → (List (List Int)) → Option (List Bool)
 | 0 => fun _ _ _ => none
 | n+1 => De_ (Bq_ n)
theorem Fv_ {self_ : Int → (List Bool) → (List (List Int)) → Option (List Bool)} (self__con : ∀ {σ : Store} {x0 : Int} {x1 : List Bool} {b1_0 : Nat} {Eb1 : Nat} {a1_1 : Option Addr} {c1_2 : Nat} {x2 : List (List Int)} {b2_0 : Nat} {Eb2 : Nat} {a2_1 : Option Addr} {c2_2 : Nat} {b3_0 : Nat} {Eb3 : Nat} (f2_3 : RZ σ (pkSl 1 Go.E.encI Go.E.encI_len) (.slice a2_1 x2.length c2_2) x2) {r : (List Bool)} (hh : self_ x0 x1 x2 = some r),
  Con Tryz.prog 81 #[.int .i64 x0, loc b1_0 0, loc b2_0 0, loc b3_0 0] σ [Res.cells b1_0 #[.slice a1_1 x1.length c1_2] Eb1, Res.rowS 4 1 encB (.slice a1_1 x1.length c1_2) x1, Res.cells b2_0 #[.slice a2_1 x2.length c2_2] Eb2, Res.cells b3_0 #[.func (.func 81) #[] #[loc b1_0 0, loc b2_0 0, loc b3_0 0]] Eb3] (fun v σ' H' => ∃ (ao1 : Option Addr), ∃ (co2 : Nat), v = .tuple #[] ∧ σ = σ' ∧ H' = [Res.cells b1_0 #[.slice ao1 r.length co2] Eb1, Res.rowS 4 1 encB (.slice ao1 r.length co2) r, Res.cells b2_0 #[.slice a2_1 x2.length c2_2] Eb2, Res.cells b3_0 #[.func (.func 81) #[] #[loc b1_0 0, loc b2_0 0, loc b3_0 0]] Eb3])) {σ : Store} {x0 : Int} {x1 : List Bool} {b1_0 : Nat} {Eb1 : Nat} {a1_1 : Option Addr} {c1_2 : Nat} {x2 : List (List Int)} {b2_0 : Nat} {Eb2 : Nat} {a2_1 : Option Addr} {c2_2 : Nat} {b3_0 : Nat} {Eb3 : Nat} (f2_3 : RZ σ (pkSl 1 Go.E.encI Go.E.encI_len) (.slice a2_1 x2.length c2_2) x2) {r : (List Bool)} (hh : De_ self_ x0 x1 x2 = some r) :
  Con Tryz.prog 81 #[.int .i64 x0, loc b1_0 0, loc b2_0 0, loc b3_0 0] σ [Res.cells b1_0 #[.slice a1_1 x1.length c1_2] Eb1, Res.rowS 4 1 encB (.slice a1_1 x1.length c1_2) x1, Res.cells b2_0 #[.slice a2_1 x2.length c2_2] Eb2, Res.cells b3_0 #[.func (.func 81) #[] #[loc b1_0 0, loc b2_0 0, loc b3_0 0]] Eb3] (fun v σ' H' => ∃ (ao1 : Option Addr), ∃ (co2 : Nat), v = .tuple #[] ∧ σ = σ' ∧ H' = [Res.cells b1_0 #[.slice ao1 r.length co2] Eb1, Res.rowS 4 1 encB (.slice ao1 r.length co2) r, Res.cells b2_0 #[.slice a2_1 x2.length c2_2] Eb2, Res.cells b3_0 #[.func (.func 81) #[] #[loc b1_0 0, loc b2_0 0, loc b3_0 0]] Eb3]) := by
 dsimp only [De_] at hh
 have f2_3b := f2_3.big
 refine Con.mk (n := 27) Tryz.func81 z z z (fun w0 => ?_)
 refine TC.weakR (TC.seq (TC.a (TL.w z (loadLoc z ag28 z (i := 0) z z) (TL.i z z ?_))))
 have u3 := grd_c hh
 replace hh := grd_t hh
 refine TL.isSl (i := 1) z (fun hs107 _ _ => ?_)
 refine TL.w z (OpVal.index z underlying28 sz4 z z hs107 u3.1 u3.2) (TL.w z (loadO1 false z ag4 z (q := 1) z encB_len (by omega) z) (TL.en (TC.cB z hh (fun h108 hh => ?_) (fun h108 hh => ?_))))
 ·refine TC.ret (S.r ?_)
  obtain rfl := so hh
  refine ⟨_, Sub.f [3, 3, 3, 3] 4, ?_⟩
  exact ro [Res.cells b1_0 #[.slice a1_1 x1.length c1_2] Eb1, Res.rowS 4 1 encB (.slice a1_1 x1.length c1_2) x1, Res.cells b2_0 #[.slice a2_1 x2.length c2_2] Eb2, Res.cells b3_0 #[.func (.func 81) #[] #[loc b1_0 0, loc b2_0 0, loc b3_0 0]] Eb3] z RVs.nil ⟨a1_1, c1_2, z, z, z⟩
 ·refine TC.skip (S.n (TC.a (TL.w z (loadLoc z ag28 z (i := 0) z z) (TL.i z z ?_))))
  have u7 := grd_c hh
  replace hh := grd_t hh
  refine TL.isSl (i := 1) z (fun hs109 _ _ => ?_)
  refine TL.w z (OpVal.index z underlying28 sz4 z z hs109 u7.1 u7.2) (TL.front 1 z z ?_)
  have hn110 : (x1.set x0.toNat true).length = x1.length := by rw [List.length_set]
  refine TL.op z (storeS true z sz4 z z z z encB_len encB_one (by omega) (by omega) ?_)
  refine TL.en (TC.a (TL.w z (loadLoc z ag27 z (i := 2) z z) (TL.i z z ?_)))
  have u11 := grd_c hh
  replace hh := grd_t hh
  refine TL.w z (OpVal.index z underlying27 sz26 z z f2_3.isSl u11.1 u11.2) ?_
  obtain ⟨p111, hk111, hg111⟩ := RZ.seg f2_3 x0.toNat (by omega)
  replace hk111 : RS _ 1 Go.E.encI (.slice p111.1 (nth x2 x0.toNat ([] : List Int)).length p111.2) (nth x2 x0.toNat ([] : List Int)) := hk111
  have hk111b := hk111.rv.big
  refine TL.w z (OpVal.of (loadSeg0 z ag26 z hg111 z) (v' := .slice p111.1 ((nth x2 x0.toNat ([] : List Int)).length) p111.2) z) (TL.w z (lenC z underlying26 z) (TL.i z z (TL.en (TC.block ?_))))
  rw [← hn110]
  refine TC.loopG (α := ((List Bool) × Nat) × ((Option Addr) × Nat)) (rgs [(6, 1), (19, 8)]) (fun g => [(19, .int .i64 ((g.1.2 : Nat) : Int))]) (fun g => [Res.cells b3_0 #[.func (.func 81) #[] #[loc b1_0 0, loc b2_0 0, loc b3_0 0]] Eb3, Res.cells b1_0 #[.slice g.2.1 g.1.1.length g.2.2] Eb1, Res.rowS 4 1 encB (.slice g.2.1 g.1.1.length g.2.2) g.1.1, Res.cells b2_0 #[.slice a2_1 x2.length c2_2] Eb2]) (fun g => σ) (fun g => iter (fun q : (List Bool) × Nat => A3_ x2 x0 self_ q.1 q.2) g.1 = some r) (fun g => rounds (fun q : (List Bool) × Nat => A3_ x2 x0 self_ q.1 q.2) g.1) (((x1.set x0.toNat true), 0), (a1_1, c1_2)) (Sub.f [2, 1, 2, 3] 4) z (by repeat (first | exact trivial | refine ⟨z, ?_⟩)) hh (fun g1 j1 hg1 => ?_)
  obtain ⟨⟨l124, k127⟩, ⟨a125, c126⟩⟩ := g1
  have hh := hg1; clear hg1
  try dsimp only
  obtain ⟨z1, hh, hR1⟩ := iter_e hh
  dsimp only [A3_] at hh
  refine TC.isSl (i := 2) z (fun _ hb128 _ => ?_)
  refine TC.a (TL.w z (OpVal.lss z z z) (TL.en (TC.seq (TC.cD z hh (fun h129 hh => ?_) (fun h129 hh => ?_)))))
  ·refine TC.skip (S.n (TC.seq (TC.block (TC.a (TL.w z (indexN z underlying26 sz3 z z hk111.rv.sl (by omega)) (TL.w z (loadS1 (0 : Int) z ag3 z hk111 (by omega) z) (TL.i z z (TL.en (TC.region (TL.w z (loadLoc z ag146 z (i := 0) z z) (TL.i z z (TL.front 3 z z (TL.front 3 z z (TL.front 3 z z ?_))))))))))))))
   obtain ⟨v21, u21, hh⟩ := bnd_e hh
   refine TL.op z (OpOk.call (self__con f2_3 u21) z z pf81 z z z z ?_)
   rintro _ _ _ hle130 ⟨a130_1, c130_2, rfl, rfl, rfl⟩
   refine TL.nil (B.n (S.n (TC.region (TL.w z (OpVal.succ z z z (by omega)) (TL.i z z (TL.en ?_))))))
   obtain ⟨hh, hlt132⟩ := nxt_x hR1 hh
   exact lf ((v21, (k127 + 1)), (a130_1, c130_2)) hlt132 hh (Sub.f [2, 2, 2, 3] 4)
  ·refine TC.exit (S.x (S.x ?_))
   replace hh := fin_x hR1 hh
   refine TC.exitHere ?_
   obtain rfl := so hh
   refine ⟨_, Sub.f [3, 3, 3] 4, ?_⟩
   exact RetOk.mk' (rs := []) [Res.cells b1_0 #[.slice a125 l124.length c126] Eb1, Res.rowS 4 1 encB (.slice a125 l124.length c126) l124, Res.cells b2_0 #[.slice a2_1 x2.length c2_2] Eb2, Res.cells b3_0 #[.func (.func 81) #[] #[loc b1_0 0, loc b2_0 0, loc b3_0 0]] Eb3] z (.inr z) RVs.nil (List.sublist_append_left _ _) ⟨a125, c126, z, z, z⟩
theorem Fy_ {n_ : Nat} : ∀ {σ : Store} {x0 : Int} {x1 : List Bool} {b1_0 : Nat} {Eb1 : Nat} {a1_1 : Option Addr} {c1_2 : Nat} {x2 : List (List Int)} {b2_0 : Nat} {Eb2 : Nat} {a2_1 : Option Addr} {c2_2 : Nat} {b3_0 : Nat} {Eb3 : Nat} (f2_3 : RZ σ (pkSl 1 Go.E.encI Go.E.encI_len) (.slice a2_1 x2.length c2_2) x2) {r : (List Bool)} (hh : Bq_ n_ x0 x1 x2 = some r),
  Con Tryz.prog 81 #[.int .i64 x0, loc b1_0 0, loc b2_0 0, loc b3_0 0] σ [Res.cells b1_0 #[.slice a1_1 x1.length c1_2] Eb1, Res.rowS 4 1 encB (.slice a1_1 x1.length c1_2) x1, Res.cells b2_0 #[.slice a2_1 x2.length c2_2] Eb2, Res.cells b3_0 #[.func (.func 81) #[] #[loc b1_0 0, loc b2_0 0, loc b3_0 0]] Eb3] (fun v σ' H' => ∃ (ao1 : Option Addr), ∃ (co2 : Nat), v = .tuple #[] ∧ σ = σ' ∧ H' = [Res.cells b1_0 #[.slice ao1 r.length co2] Eb1, Res.rowS 4 1 encB (.slice ao1 r.length co2) r, Res.cells b2_0 #[.slice a2_1 x2.length c2_2] Eb2, Res.cells b3_0 #[.func (.func 81) #[] #[loc b1_0 0, loc b2_0 0, loc b3_0 0]] Eb3]) := by
 induction n_ with
 | zero => intro σ x0 x1 b1_0 Eb1 a1_1 c1_2 x2 b2_0 Eb2 a2_1 c2_2 b3_0 Eb3 f2_3 r hh; exact absurd hh (by intro h_; cases h_)
 | succ k_ ih_ =>
  intro σ x0 x1 b1_0 Eb1 a1_1 c1_2 x2 b2_0 Eb2 a2_1 c2_2 b3_0 Eb3 f2_3 r hh
  exact Fv_ (self_ := Bq_ k_) @ih_ f2_3 hh
noncomputable def Bb_ (x0 : List Tip) (x1 : List (List Int)) (l121 : List Bool) (k124 : Nat) : Option (((List Bool) × Nat) ⊕ ((List Bool))) :=
 iteO (decide (((k124 : Nat) : Int) < ((x0.length : Nat) : Int))) (bnd (Bq_ (l121.length + 1) ((nth x0 k124 Tip.zero).state) l121 x1) (fun v22 => nxt (v22, (k124 + 1)))) (fin (some l121))
noncomputable def Dr_ (x0 : List Tip) (x1 : List (List Int)) : Option ((List Bool)) :=
 grd (1 * x1.length ≤ 281474976710656) (iter (fun q : (List Bool) × Nat => Bb_ x0 x1 q.1 q.2) ((List.replicate x1.length false), 0))
def F9_ (σ : Store) (r : (List Bool)) : Value → Store → List Res → Prop := fun v σ' H' =>
 ∃ (a1 : Option Addr), ∃ (c1 : Nat),  v = .slice a1 r.length c1 ∧ σ = σ' ∧ H' = [Res.rowS 4 1 encB (.slice a1 r.length c1) r]
theorem Fc_ {σ : Store} {x0 : List Tip} {a0_0 : Option Addr} {c0_0 : Nat} {x1 : List (List Int)} {a1_0 : Option Addr} {c1_0 : Nat} (f0_0 : RS σ 2 encTip (.slice a0_0 x0.length c0_0) x0) (f1_0 : RZ σ (pkSl 1 Go.E.encI Go.E.encI_len) (.slice a1_0 x1.length c1_0) x1) {r : (List Bool)} (hh : Dr_ x0 x1 = some r) :
  Con Tryz.prog 60 #[.slice a0_0 x0.length c0_0, .slice a1_0 x1.length c1_0] σ [] (F9_ σ r) := by
 dsimp only [Dr_] at hh
 have f0_0b := f0_0.rv.big
 have f1_0b := f1_0.big
 refine Con.mk (n := 25) Tryz.func60 z z z (fun w0 => ?_)
 refine TC.a (TL.op z (OpOk.box z z z z (fun b101 => ?_)))
 refine TL.s z z (TL.en (TC.a (TL.w z (loadLoc z ag27 z (i := 0) z z) (TL.w z (lenC z underlying27 z) ?_))))
 have u5 := grd_c hh
 replace hh := grd_t hh
 refine TL.op z (makeS2 (enc := encB) false z underlying28 sz4 by4 ze4 z z z z (by omega) (by decide) encB_len (by decide) z encB_one (fun a103 c104 => ?_))
 refine TL.op z (OpOk.alloc z ze28 z z (fun b106 => ?_))
 refine TL.op z (storeSl z sz28 z z z z z ?_)
 refine TL.en (TC.a (TL.op z (OpOk.alloc z ze146 z z (fun b108 => ?_))))
 refine TL.en (TC.a (TL.w z (makeFn z) (TL.op z (storeFn z sz146 z z z z z ?_))))
 refine TL.en (TC.seq (TC.a (TL.s z z (TL.w z (lenC z underlying22 z) (TL.i z z (TL.en (TC.block (TC.loopG (α := ((List Bool) × Nat) × ((Option Addr) × Nat)) (rgs [(8, 1), (15, 9)]) (fun g => [(15, .int .i64 ((g.1.2 : Nat) : Int))]) (fun g => [Res.cells b106 #[.slice g.2.1 g.1.1.length g.2.2] 28, Res.rowS 4 1 encB (.slice g.2.1 g.1.1.length g.2.2) g.1.1, Res.cells b108 #[.func (.func 81) #[] #[loc b106 0, loc b101 0, loc b108 0]] 146, Res.cells b101 #[.slice a1_0 x1.length c1_0] 27]) (fun g => σ) (fun g => iter (fun q : (List Bool) × Nat => Bb_ x0 x1 q.1 q.2) g.1 = some r) (fun g => rounds (fun q : (List Bool) × Nat => Bb_ x0 x1 q.1 q.2) g.1) (((List.replicate x1.length false), 0), (a103, c104)) (Sub.f [3, 1, 3, 3] 4) z (by repeat (first | exact trivial | refine ⟨z, ?_⟩)) hh (fun g1 j1 hg1 => ?_)))))))))
 obtain ⟨⟨l121, k124⟩, ⟨a122, c123⟩⟩ := g1
 have hh := hg1; clear hg1
 try dsimp only
 obtain ⟨z1, hh, hR1⟩ := iter_e hh
 dsimp only [Bb_] at hh
 refine TC.isSl (i := 1) z (fun _ hb125 _ => ?_)
 refine TC.a (TL.w z (OpVal.lss z z z) (TL.en (TC.seq (TC.cD z hh (fun h126 hh => ?_) (fun h126 hh => ?_)))))
 ·refine TC.skip (S.n (TC.seq (TC.block (TC.a (TL.w z (indexN z underlying22 sz41 z z f0_0.rv.sl (by omega)) (TL.w z (loadSA Tip.zero z ag41 sz41 z f0_0 (by omega) (by omega)) (TL.op z (OpOk.alloc z ze41 z z (fun b127 => ?_)))))))))
  refine TL.op z (storeAll z sz41 z z z z z z ?_)
  refine TL.en (TC.region (TL.w z (loadLoc z ag146 z (i := 3) z z) (TL.w z (fieldLoc z fo41_0 z) (TL.w z (loadLoc z ag3 z (i := 0) z z) (TL.front 3 z z (TL.front 4 z z (TL.front 4 z z (TL.front 4 z z ?_))))))))
  obtain ⟨v22, u22, hh⟩ := bnd_e hh
  refine TL.op z (OpOk.call (Fy_ f1_0 u22) z z pf81 z z z z ?_)
  rintro _ _ _ hle129 ⟨a129_1, c129_2, rfl, rfl, rfl⟩
  refine TL.nil (B.n (S.n (TC.region (TL.w z (OpVal.succ z z z (by omega)) (TL.i z z (TL.en ?_))))))
  obtain ⟨hh, hlt131⟩ := nxt_x hR1 hh
  exact lf ((v22, (k124 + 1)), (a129_1, c129_2)) hlt131 hh (Sub.f [2, 3, 3, 3] 4)
 ·refine TC.exit (S.x (S.x ?_))
  replace hh := fin_x hR1 hh
  refine TC.exitHere (S.n (TC.a (TL.w z (loadLoc z ag28 z (i := 0) z z) (TL.s z z (TL.en (TC.ofSub (Sub.f [1] 1) (TC.ret ?_)))))))
  obtain rfl := so hh
  exact ro [Res.rowS 4 1 encB (.slice a122 l121.length c123) l121] z (RVs.tmp z RVs.nil) ⟨a122, c123, z, z, z⟩
noncomputable def B7_ {Sy : Type} (k125 : Nat) (s134 : Sy) : Option ((Nat × Sy) ⊕ (Sy)) :=
 nxt ((k125 + 1), s134)
noncomputable def Az_ {Sy : Type} (v4 : (List Bool)) (v8 : (List Bool)) (Y : Sy → Int → Option (Sy × Bool)) (k125 : Nat) (s126 : Sy) : Option ((Nat × Sy) ⊕ (Sy)) :=
 iteO (decide (((k125 : Nat) : Int) < ((v4.length : Nat) : Int))) (iteO (nth v4 k125 false) (grd (k125 < v8.length) (iteO (nth v8 k125 false) (bnd (Y s126 ((k125 : Nat) : Int)) (fun v30 => iteO (!v30.2) (fin (some v30.1)) (B7_ k125 v30.1))) (B7_ k125 s126))) (B7_ k125 s126)) (fin (some s126))
noncomputable def Di_ {Sy : Type} (Y : Sy → Int → Option (Sy × Bool)) (s0 : Sy) (x1 : Fst) (x2 : List (List Int)) (x3 : List (List Int)) : Option (Sy) :=
 bnd (Dr_ x1.starts x2) (fun v4 => bnd (Dr_ x1.ends x3) (fun v8 => iter (fun q : Nat × Sy => Az_ v4 v8 Y q.1 q.2) (0, s0)))
theorem Ft_ {Sy : Type} {σ : Store} {Y : Sy → Int → Option (Sy × Bool)} {s0 : Sy} {x1 : Fst} {b1_0 : Nat} {Eb1 : Nat} {a1_1 : Option Addr} {c1_2 : Nat} {a1_4 : Option Addr} {c1_5 : Nat} {a1_7 : Option Addr} {c1_8 : Nat} {x2 : List (List Int)} {b2_0 : Nat} {Eb2 : Nat} {a2_1 : Option Addr} {c2_2 : Nat} {x3 : List (List Int)} {b3_0 : Nat} {Eb3 : Nat} {a3_1 : Option Addr} {c3_2 : Nat} (f1_3 : RS σ 2 encTip (.slice a1_1 x1.starts.length c1_2) x1.starts) (f1_6 : RS σ 2 encTip (.slice a1_4 x1.ends.length c1_5) x1.ends) (f1_9 : RS σ 8 encArc (.slice a1_7 x1.arcs.length c1_8) x1.arcs) (f2_3 : RZ σ (pkSl 1 Go.E.encI Go.E.encI_len) (.slice a2_1 x2.length c2_2) x2) (f3_3 : RZ σ (pkSl 1 Go.E.encI Go.E.encI_len) (.slice a3_1 x3.length c3_2) x3) {r : Sy} (hh : Di_ Y s0 x1 x2 x3 = some r) :
  IterOk Tryz.prog 59 [loc b1_0 0, loc b2_0 0, loc b3_0 0] (fun (x : Int) _ vs => vs = [.int .i64 x]) Y σ [Res.cells b1_0 #[.int .i64 x1.states, .slice a1_1 x1.starts.length c1_2, .slice a1_4 x1.ends.length c1_5, .slice a1_7 x1.arcs.length c1_8] Eb1, Res.cells b2_0 #[.slice a2_1 x2.length c2_2] Eb2, Res.cells b3_0 #[.slice a3_1 x3.length c3_2] Eb3] s0 r (fun σ' H' => H' = [Res.cells b1_0 #[.int .i64 x1.states, .slice a1_1 x1.starts.length c1_2, .slice a1_4 x1.ends.length c1_5, .slice a1_7 x1.arcs.length c1_8] Eb1, Res.cells b2_0 #[.slice a2_1 x2.length c2_2] Eb2, Res.cells b3_0 #[.slice a3_1 x3.length c3_2] Eb3]) := by
 intro l Z ry0 hY hys
 dsimp only [Di_] at hh
 have f1_3b := f1_3.rv.big
 have f1_6b := f1_6.rv.big
 have f1_9b := f1_9.rv.big
 have f2_3b := f2_3.big
 have f3_3b := f3_3.big
 refine Con.mk (n := 38) Tryz.func59 z z z (fun w0 => ?_)
 refine TC.weakR (TC.seq ?_)
 obtain ⟨v4, u4, hh⟩ := bnd_e hh
 obtain ⟨v8, u8, hh⟩ := bnd_e hh
 refine TC.draw [] (by kernel_rfl) (TA.a 0 z (fieldLoc z fo25_1 z) z (TA.b 1 z (loadLoc z ag22 z (i := 1) z z) z (TA.b 2 z (loadLoc z ag27 z (i := 2) z z) z (TA.a 4 z (fieldLoc z fo25_2 z) z (TA.b 5 z (loadLoc z ag22 z (i := 1) z z) z (TA.b 6 z (loadLoc z ag27 z (i := 3) z z) z (TA.ac 3 z (OpOk.call (Fc_ f1_3 f2_3 u4) z z pf60 z z z z ?_))))))))
 rintro _ _ _ hle113 ⟨a113_1, c113_1, rfl, rfl, rfl⟩
 refine k1 (TA.ac 7 z (OpOk.call (Fc_ f1_6 f3_3 u8) z z pf60 z z z z ?_))
 rintro _ _ _ hle115 ⟨a115_1, c115_1, rfl, rfl, rfl⟩
 refine k2 (TA.a 8 z (moveSl (.inr z) z) z (TA.a 9 z (moveSl (.inr z) z) z (TA.dn (S.n (TC.a (TL.s z z (TL.w z (lenC z underlying28 z) (TL.i z z (TL.en (TC.block (TC.loopG (α := (Nat × Sy) × (Res × Store)) (rgs [(7, 1), (18, 20)]) (fun g => [(18, .int .i64 ((g.1.1 : Nat) : Int))]) (fun g => [Res.rowS 4 1 encB (.slice a113_1 v4.length c113_1) v4, Res.rowS 4 1 encB (.slice a115_1 v8.length c115_1) v8, Res.cells b1_0 #[.int .i64 x1.states, .slice a1_1 x1.starts.length c1_2, .slice a1_4 x1.ends.length c1_5, .slice a1_7 x1.arcs.length c1_8] Eb1, Res.cells b2_0 #[.slice a2_1 x2.length c2_2] Eb2, Res.cells b3_0 #[.slice a3_1 x3.length c3_2] Eb3, g.2.1]) (fun g => g.2.2) (fun g => iter (fun q : Nat × Sy => Az_ v4 v8 Y q.1 q.2) g.1 = some r ∧ YR Z g.1.2 g.2.2 g.2.1 ∧ Store.le σ g.2.2) (fun g => rounds (fun q : Nat × Sy => Az_ v4 v8 Y q.1 q.2) g.1) ((0, s0), (ry0, σ)) (Sub.f [2, 5, 5, 5, 4, 5] 6) z (by repeat (first | exact trivial | refine ⟨z, ?_⟩)) ⟨hh, hys, (Store.le.refl _)⟩ (fun g1 j1 hg1 => ?_))))))))))))
 obtain ⟨⟨k125, s126⟩, ⟨ry127, τ129⟩⟩ := g1
 obtain ⟨hh, hy128, hle130⟩ := hg1
 try dsimp only at hy128 hle130 ⊢
 obtain ⟨z1, hh, hR1⟩ := iter_e hh
 dsimp only [Az_] at hh
 skip
 refine TC.isSl (i := 0) z (fun _ hb131 _ => ?_)
 refine TC.isSl (i := 1) z (fun _ hb132 _ => ?_)
 refine TC.a (TL.w z (OpVal.lss z z z) (TL.en (TC.seq (TC.cD z hh (fun h133 hh => ?_) (fun h133 hh => ?_)))))
 ·refine TC.skip (S.n (TC.cutG (α := (Sy) × (Res × Store)) (rgs [(7, 1), (20, 17)]) (fun g => []) (fun g => [Res.rowS 4 1 encB (.slice a113_1 v4.length c113_1) v4, Res.rowS 4 1 encB (.slice a115_1 v8.length c115_1) v8, Res.cells b1_0 #[.int .i64 x1.states, .slice a1_1 x1.starts.length c1_2, .slice a1_4 x1.ends.length c1_5, .slice a1_7 x1.arcs.length c1_8] Eb1, Res.cells b2_0 #[.slice a2_1 x2.length c2_2] Eb2, Res.cells b3_0 #[.slice a3_1 x3.length c3_2] Eb3, g.2.1]) (fun g => g.2.2) (fun g => B7_ k125 g.1 = some z1 ∧ YR Z g.1 g.2.2 g.2.1 ∧ Store.le τ129 g.2.2) ?_ (fun g j hg => ?_)))
  ·skip
   refine TC.block (TC.a (TL.i z z (TL.i z z (TL.en (TC.a (TL.s z z (TL.i z z (TL.isSl (i := 0) z (fun hs137 _ _ => ?_)))))))))
   refine TL.w z (indexN z underlying28 sz4 z z hs137 (by omega)) (TL.w z (loadO1 false z ag4 z (q := 0) z encB_len (by omega) z) (TL.j z z (TL.split 25 z (fun h138 => ?_) (fun h138 => ?_))))
   ·replace hh := iteO_t h138 hh
    refine TL.g z (moveSl (.inl z) z) (TL.g z (moveI (.inl z) z) ?_)
    have u24 := grd_c hh
    replace hh := grd_t hh
    refine TL.isSl (i := 1) z (fun hs139 _ _ => ?_)
    refine TL.g z (indexN z underlying28 sz4 z z hs139 (by omega)) (TL.g z (loadO1 false z ag4 z (q := 1) z encB_len (by omega) z) (TL.w z (pickTB z z z) (TL.j z z (TL.split 31 z (fun h140 => ?_) (fun h140 => ?_)))))
    ·replace hh := iteO_t h140 hh
     refine TL.g z (OpVal.mv (.inl z)) (TL.g z (moveI (.inl z) z) ?_)
     obtain ⟨v30, u30, hh⟩ := bnd_e hh
     refine TL.front 5 z z (TL.gon z z z z z (callY hY hy128 u30 z z z z z z ?_))
     rintro τ141 ry141 hle141 hy141
     refine TL.g z (OpVal.not z z) (TL.w z (pickTB z z z) (TL.en (TC.cB z hh (fun h142 hh => ?_) (fun h142 hh => ?_))))
     ·refine TC.ofSub (Sub.f [5, 5, 5, 3] 4) (TC.ret (B.r (S.r (S.r ?_))))
      replace hh := fin_x hR1 hh
      refine B.r ?_
      obtain rfl := so hh
      refine ⟨_, Sub.f [3, 3, 3, 3] 4, ?_⟩
      exact ro [ry141, Res.cells b1_0 #[.int .i64 x1.states, .slice a1_1 x1.starts.length c1_2, .slice a1_4 x1.ends.length c1_5, .slice a1_7 x1.arcs.length c1_8] Eb1, Res.cells b2_0 #[.slice a2_1 x2.length c2_2] Eb2, Res.cells b3_0 #[.slice a3_1 x3.length c3_2] Eb3] z RVs.nil ⟨_, _, z, hy141, z⟩
     ·exact TC.skip (B.n (S.n (cf (v30.1, (ry141, τ141)) ⟨hh, hy141, hle141⟩ (Sub.f [5, 5, 5, 5, 5] 6))))
    ·replace hh := iteO_f h140 hh
     exact TL.f z (TL.f z (TL.f z (TL.f z (TL.w z (pickFB z z z) (TL.en (TC.f z (TC.skip (B.n (S.n (cf (s126, (ry127, τ129)) ⟨hh, hy128, (Store.le.refl _)⟩ (Sub.f [5, 5, 5, 5, 5, 5] 6)))))))))))
   ·replace hh := iteO_f h138 hh
    exact TL.f z (TL.f z (TL.f z (TL.f z (TL.w z (pickFB z z z) (TL.j z z (TL.f z (TL.f z (TL.f z (TL.f z (TL.w z (pickFB z z z) (TL.en (TC.f z (TC.skip (B.n (S.n (cf (s126, (ry127, τ129)) ⟨hh, hy128, (Store.le.refl _)⟩ (Sub.f [5, 5, 5, 5, 5, 5] 6)))))))))))))))))
  ·skip
   obtain ⟨s134, ⟨ry135, τ143⟩⟩ := g
   obtain ⟨hh, hy136, hle144⟩ := hg
   try dsimp only at hy136
   dsimp only at hle144
   replace hy128 := hy128.mono hle144
   try dsimp only
   dsimp only [B7_] at hh
   skip
   refine TC.isSl (i := 0) z (fun _ hb145 _ => ?_)
   refine TC.isSl (i := 1) z (fun _ hb146 _ => ?_)
   refine TC.region (TL.w z (OpVal.succ z z z (by omega)) (TL.i z z (TL.en ?_)))
   obtain ⟨hh, hlt147⟩ := nxt_x hR1 hh
   exact lf (((k125 + 1), s134), (ry135, τ143)) hlt147 ⟨hh, hy136, (hle130.trans hle144)⟩ (Sub.f [5, 5, 5, 5, 5, 5] 6)
 ·refine TC.exit (S.x (S.x ?_))
  replace hh := fin_x hR1 hh
  refine TC.exitHere ?_
  obtain rfl := so hh
  refine ⟨_, Sub.f [4, 4, 4, 5] 4, ?_⟩
  exact RetOk.mk' (rs := []) [ry127, Res.cells b1_0 #[.int .i64 x1.states, .slice a1_1 x1.starts.length c1_2, .slice a1_4 x1.ends.length c1_5, .slice a1_7 x1.arcs.length c1_8] Eb1, Res.cells b2_0 #[.slice a2_1 x2.length c2_2] Eb2, Res.cells b3_0 #[.slice a3_1 x3.length c3_2] Eb3] z (.inr z) RVs.nil (List.sublist_append_left _ _) ⟨_, _, z, hy128, z⟩
noncomputable def Dv_ (l387 : List (List Int)) (x0 : Fst) (k394 : Nat) (l391 : List (List Int)) : Option (((List (List Int)) × (List (List Int)) × Nat) ⊕ ((Fst × (List (List Int)) × (List (List Int))))) :=
 nxt ((l387.set (((nth x0.arcs k394 Arc.zero).frm).toNat) ((nth l387 (((nth x0.arcs k394 Arc.zero).frm).toNat) ([] : List Int)) ++ [(nth x0.arcs k394 Arc.zero).to])), (l391.set (((nth x0.arcs k394 Arc.zero).to).toNat) ((nth l391 (((nth x0.arcs k394 Arc.zero).to).toNat) ([] : List Int)) ++ [(nth x0.arcs k394 Arc.zero).frm])), (k394 + 1))
noncomputable def Dx_ (x0 : Fst) (k394 : Nat) (l391 : List (List Int)) (l387 : List (List Int)) : Option (((List (List Int)) × (List (List Int)) × Nat) ⊕ ((Fst × (List (List Int)) × (List (List Int))))) :=
 grd (0 ≤ ((nth x0.arcs k394 Arc.zero).to) ∧ ((nth x0.arcs k394 Arc.zero).to) < (l391.length : Int)) (grd (((nth l391 (((nth x0.arcs k394 Arc.zero).to).toNat) ([] : List Int)).length + [(nth x0.arcs k394 Arc.zero).frm].length) * 8 ≤ 140737488355328) (grd (0 ≤ ((nth x0.arcs k394 Arc.zero).to) ∧ ((nth x0.arcs k394 Arc.zero).to) < (l391.length : Int)) (Dv_ l387 x0 k394 l391)))
noncomputable def A9_ (x0 : Fst) (l387 : List (List Int)) (l391 : List (List Int)) (k394 : Nat) : Option (((List (List Int)) × (List (List Int)) × Nat) ⊕ ((Fst × (List (List Int)) × (List (List Int))))) :=
 iteO (decide (((k394 : Nat) : Int) < ((x0.arcs.length : Nat) : Int))) (grd (0 ≤ ((nth x0.arcs k394 Arc.zero).frm) ∧ ((nth x0.arcs k394 Arc.zero).frm) < (l387.length : Int)) (grd (((nth l387 (((nth x0.arcs k394 Arc.zero).frm).toNat) ([] : List Int)).length + [(nth x0.arcs k394 Arc.zero).to].length) * 8 ≤ 140737488355328) (grd (0 ≤ ((nth x0.arcs k394 Arc.zero).frm) ∧ ((nth x0.arcs k394 Arc.zero).frm) < (l387.length : Int)) (Dx_ x0 k394 l391 l387)))) (fin (some (x0, l387, l391)))
noncomputable def Dz_ (x0 : Fst) : Option ((Fst × (List (List Int)) × (List (List Int)))) :=
 iter (fun q : (List (List Int)) × (List (List Int)) × Nat => A9_ x0 q.1 q.2.1 q.2.2) ((List.replicate x0.states.toNat ([] : List Int)), (List.replicate x0.states.toNat ([] : List Int)), 0)
noncomputable def D3_ (x0 : Fst) : Option ((Fst × (List (List Int)) × (List (List Int)))) :=
 grd (0 ≤ x0.states ∧ 24 * x0.states.toNat ≤ 281474976710656) (grd (0 ≤ x0.states ∧ 24 * x0.states.toNat ≤ 281474976710656) (Dz_ x0))
theorem F2_ {σ : Store} {x0 : Fst} {a0_0 : Option Addr} {c0_0 : Nat} {a0_1 : Option Addr} {c0_1 : Nat} {a0_2 : Option Addr} {c0_2 : Nat} (f0_0 : RS σ 2 encTip (.slice a0_0 x0.starts.length c0_0) x0.starts) (f0_1 : RS σ 2 encTip (.slice a0_1 x0.ends.length c0_1) x0.ends) (f0_2 : RS σ 8 encArc (.slice a0_2 x0.arcs.length c0_2) x0.arcs) {r : (Fst × (List (List Int)) × (List (List Int)))} (hh : D3_ x0 = some r) :
  Con Tryz.prog 37 #[.agg #[.int .i64 x0.states, .slice a0_0 x0.starts.length c0_0, .slice a0_1 x0.ends.length c0_1, .slice a0_2 x0.arcs.length c0_2]] σ [] (fun v σ' H' => ∃ (br10 : Nat), ∃ (ar1 : Option Addr), ∃ (cr2 : Nat), ∃ (ar4 : Option Addr), ∃ (cr5 : Nat), ∃ (ar7 : Option Addr), ∃ (cr8 : Nat), ∃ (br14 : Nat), ∃ (ar11 : Option Addr), ∃ (cr12 : Nat), ∃ (br18 : Nat), ∃ (ar15 : Option Addr), ∃ (cr16 : Nat), v = .func (.func 59) #[] #[loc br10 0, loc br14 0, loc br18 0] ∧ RS σ' 2 encTip (.slice ar1 r.1.starts.length cr2) r.1.starts ∧ RS σ' 2 encTip (.slice ar4 r.1.ends.length cr5) r.1.ends ∧ RS σ' 8 encArc (.slice ar7 r.1.arcs.length cr8) r.1.arcs ∧ RZ σ' (pkSl 1 Go.E.encI Go.E.encI_len) (.slice ar11 r.2.1.length cr12) r.2.1 ∧ RZ σ' (pkSl 1 Go.E.encI Go.E.encI_len) (.slice ar15 r.2.2.length cr16) r.2.2 ∧ H' = [Res.cells br10 #[.int .i64 r.1.states, .slice ar1 r.1.starts.length cr2, .slice ar4 r.1.ends.length cr5, .slice ar7 r.1.arcs.length cr8] 25, Res.cells br14 #[.slice ar11 r.2.1.length cr12] 27, Res.cells br18 #[.slice ar15 r.2.2.length cr16] 27]) := by
 dsimp only [D3_] at hh
 have f0_0b := f0_0.rv.big
 have f0_1b := f0_1.rv.big
 have f0_2b := f0_2.rv.big
 refine Con.mk (n := 48) Tryz.func37 z z z (fun w0 => ?_)
 refine TC.a (TL.op z (boxA z z z z (fun b109 => ?_)))
 refine TL.w z (OpVal.mv (.inr z)) (TL.en (TC.cutG (α := (Unit) × (Nat × (Option Addr) × Nat × Nat × (Option Addr) × Nat)) (rgs [(3, 2), (7, 6)]) (fun g => [(3, loc g.2.1 0), (4, loc g.2.2.2.2.1 0)]) (fun g => [Res.cells b109 #[.int .i64 x0.states, .slice a0_0 x0.starts.length c0_0, .slice a0_1 x0.ends.length c0_1, .slice a0_2 x0.arcs.length c0_2] 25, Res.cells g.2.1 #[.slice g.2.2.1 ((List.replicate x0.states.toNat ([] : List Int)).length) g.2.2.2.1] 27, Res.nest 26 3 1 Go.E.encI (.slice g.2.2.1 (List.replicate x0.states.toNat ([] : List Int)).length g.2.2.2.1) (List.replicate x0.states.toNat (nilN : NP Int)), Res.cells g.2.2.2.2.1 #[.slice g.2.2.2.2.2.1 ((List.replicate x0.states.toNat ([] : List Int)).length) g.2.2.2.2.2.2] 27, Res.nest 26 3 1 Go.E.encI (.slice g.2.2.2.2.2.1 (List.replicate x0.states.toNat ([] : List Int)).length g.2.2.2.2.2.2) (List.replicate x0.states.toNat (nilN : NP Int))]) (fun g => σ) (fun g => Dz_ x0 = some r ∧ Zn (List.replicate x0.states.toNat (nilN : NP Int)) (List.replicate x0.states.toNat ([] : List Int)) ∧ Zn (List.replicate x0.states.toNat (nilN : NP Int)) (List.replicate x0.states.toNat ([] : List Int))) ?_ (fun g j hg => ?_)))
 ·skip
  have u5 := grd_c hh
  replace hh := grd_t hh
  have u8 := grd_c hh
  replace hh := grd_t hh
  refine TC.drawR (Hr := [Res.cells b109 #[.int .i64 x0.states, .slice a0_0 x0.starts.length c0_0, .slice a0_1 x0.ends.length c0_1, .slice a0_2 x0.arcs.length c0_2] 25]) (fun r hr => mem_pick [0] z hr) [] (by kernel_rfl) (TA.a 0 z (fieldLoc z fo25_0 z) z (TA.b 1 z (loadLoc z ag3 z (i := 0) z z) z (TA.a 3 z (fieldLoc z fo25_0 z) z (TA.b 4 z (loadLoc z ag3 z (i := 0) z z) z ?_))))
  refine TA.actN [2, 5, 6, 7] (by kernel_rfl) (an rfl rfl (makeN (q := x0.states.toNat) (E := 3) (size := 1) (enc := Go.E.encI) rfl underlying27 sz26 by26 ze26 rfl rfl (by show Value.int _ _ = _; rw [Int.toNat_of_nonneg u5.1]) (by show Value.int _ _ = _; rw [Int.toNat_of_nonneg u5.1]) (by omega) (by decide) rfl (fun a135 c136 zf137 => (k1 ?_))) (an rfl rfl (makeN (q := x0.states.toNat) (E := 3) (size := 1) (enc := Go.E.encI) rfl underlying27 sz26 by26 ze26 rfl rfl (by show Value.int _ _ = _; rw [Int.toNat_of_nonneg u8.1]) (by show Value.int _ _ = _; rw [Int.toNat_of_nonneg u8.1]) (by omega) (by decide) rfl (fun a139 c140 zf141 => (k1 ?_))) (an rfl rfl (OpOk.alloc rfl ze27 rfl rfl (fun b143 => (k1 ?_))) (an rfl rfl (OpOk.alloc rfl ze27 rfl rfl (fun b145 => (k1 ?_))) (True.intro)))))
  ·skip
   refine TA.actN [5, 6, 7] (by kernel_rfl) (an rfl rfl (makeN (q := x0.states.toNat) (E := 3) (size := 1) (enc := Go.E.encI) rfl underlying27 sz26 by26 ze26 rfl rfl (by show Value.int _ _ = _; rw [Int.toNat_of_nonneg u8.1]) (by show Value.int _ _ = _; rw [Int.toNat_of_nonneg u8.1]) (by omega) (by decide) rfl (fun a147 c148 zf149 => (k2 ?_))) (an rfl rfl (OpOk.alloc rfl ze27 rfl rfl (fun b151 => (k2 ?_))) (an rfl rfl (OpOk.alloc rfl ze27 rfl rfl (fun b153 => (k2 ?_))) (True.intro))))
   ·skip
    refine TA.actN [6, 7] (by kernel_rfl) (an z z (OpOk.alloc z ze27 z z (fun b155 => (k3 ?_))) (an z z (OpOk.alloc z ze27 z z (fun b157 => (k3 ?_))) (True.intro)))
    ·skip
     refine TA.ac 7 z (OpOk.alloc z ze27 z z (fun b159 => (kc 4 ?_)))
     refine TA.front 1 z z (TA.ac 8 z (storeSl z sz27 z z z z z (kc 4 ?_)))
     refine TA.front 1 z z (TA.ac 9 z (storeSl z sz27 z z z z z (kc 4 ?_)))
     exact TA.dn (S.n (cf ((), (b155, a135, c136, b159, a147, c148)) ⟨hh, zf137, zf149⟩ (Sub.f [2, 1, 3, 3, 4] 5)))
    ·skip
     refine TA.ac 6 z (OpOk.alloc z ze27 z z (fun b161 => (kc 4 ?_)))
     refine TA.ac 8 z (storeSl z sz27 z z z z z (kc 4 ?_))
     refine TA.front 1 z z (TA.ac 9 z (storeSl z sz27 z z z z z (kc 4 ?_)))
     exact TA.dn (S.n (cf ((), (b161, a135, c136, b157, a147, c148)) ⟨hh, zf137, zf149⟩ (Sub.f [2, 1, 3, 3, 4] 5)))
   ·skip
    refine TA.actN [5, 7] (by kernel_rfl) (an rfl rfl (makeN (q := x0.states.toNat) (E := 3) (size := 1) (enc := Go.E.encI) rfl underlying27 sz26 by26 ze26 rfl rfl (by show Value.int _ _ = _; rw [Int.toNat_of_nonneg u8.1]) (by show Value.int _ _ = _; rw [Int.toNat_of_nonneg u8.1]) (by omega) (by decide) rfl (fun a163 c164 zf165 => (k3 ?_))) (an rfl rfl (OpOk.alloc rfl ze27 rfl rfl (fun b167 => (k3 ?_))) (True.intro)))
    ·skip
     refine TA.ac 7 z (OpOk.alloc z ze27 z z (fun b169 => (kc 4 ?_)))
     refine TA.front 2 z z (TA.ac 8 z (storeSl z sz27 z z z z z (kc 4 ?_)))
     refine TA.front 1 z z (TA.ac 9 z (storeSl z sz27 z z z z z (kc 4 ?_)))
     exact TA.dn (S.n (cf ((), (b151, a135, c136, b169, a163, c164)) ⟨hh, zf137, zf165⟩ (Sub.f [2, 1, 3, 3, 4] 5)))
    ·skip
     refine TA.actN [5, 8] (by kernel_rfl) (an rfl rfl (makeN (q := x0.states.toNat) (E := 3) (size := 1) (enc := Go.E.encI) rfl underlying27 sz26 by26 ze26 rfl rfl (by show Value.int _ _ = _; rw [Int.toNat_of_nonneg u8.1]) (by show Value.int _ _ = _; rw [Int.toNat_of_nonneg u8.1]) (by omega) (by decide) rfl (fun a171 c172 zf173 => (kc 4 ?_))) (an rfl rfl (OpOk.front 1 rfl rfl (storeSl rfl sz27 rfl rfl rfl rfl rfl (k3 ?_))) (True.intro)))
     ·skip
      refine TA.front 2 z z (TA.ac 8 z (storeSl z sz27 z z z z z (kc 4 ?_)))
      refine TA.front 2 z z (TA.ac 9 z (storeSl z sz27 z z z z z (kc 4 ?_)))
      exact TA.dn (S.n (cf ((), (b151, a135, c136, b167, a171, c172)) ⟨hh, zf137, zf173⟩ (Sub.f [2, 1, 3, 3, 4] 5)))
     ·skip
      refine TA.ac 5 rfl (makeN (q := x0.states.toNat) (E := 3) (size := 1) (enc := Go.E.encI) rfl underlying27 sz26 by26 ze26 rfl rfl (by show Value.int _ _ = _; rw [Int.toNat_of_nonneg u8.1]) (by show Value.int _ _ = _; rw [Int.toNat_of_nonneg u8.1]) (by omega) (by decide) rfl (fun a175 c176 zf177 => (kc 4 ?_)))
      refine TA.front 2 z z (TA.ac 9 z (storeSl z sz27 z z z z z (kc 4 ?_)))
      exact TA.dn (S.n (cf ((), (b151, a135, c136, b167, a175, c176)) ⟨hh, zf137, zf177⟩ (Sub.f [1, 1, 3, 3, 4] 5)))
   ·skip
    refine TA.actN [5, 6] (by kernel_rfl) (an rfl rfl (makeN (q := x0.states.toNat) (E := 3) (size := 1) (enc := Go.E.encI) rfl underlying27 sz26 by26 ze26 rfl rfl (by show Value.int _ _ = _; rw [Int.toNat_of_nonneg u8.1]) (by show Value.int _ _ = _; rw [Int.toNat_of_nonneg u8.1]) (by omega) (by decide) rfl (fun a179 c180 zf181 => (k3 ?_))) (an rfl rfl (OpOk.alloc rfl ze27 rfl rfl (fun b183 => (k3 ?_))) (True.intro)))
    ·skip
     refine TA.ac 6 z (OpOk.alloc z ze27 z z (fun b185 => (kc 4 ?_)))
     refine TA.ac 8 z (storeSl z sz27 z z z z z (kc 4 ?_))
     refine TA.front 2 z z (TA.ac 9 z (storeSl z sz27 z z z z z (kc 4 ?_)))
     exact TA.dn (S.n (cf ((), (b185, a135, c136, b153, a179, c180)) ⟨hh, zf137, zf181⟩ (Sub.f [2, 1, 3, 3, 4] 5)))
    ·skip
     refine TA.actN [5, 8] (by kernel_rfl) (an rfl rfl (makeN (q := x0.states.toNat) (E := 3) (size := 1) (enc := Go.E.encI) rfl underlying27 sz26 by26 ze26 rfl rfl (by show Value.int _ _ = _; rw [Int.toNat_of_nonneg u8.1]) (by show Value.int _ _ = _; rw [Int.toNat_of_nonneg u8.1]) (by omega) (by decide) rfl (fun a187 c188 zf189 => (kc 4 ?_))) (an rfl rfl (storeSl rfl sz27 rfl rfl rfl rfl rfl (k3 ?_)) (True.intro)))
     ·skip
      refine TA.front 1 z z (TA.ac 8 z (storeSl z sz27 z z z z z (kc 4 ?_)))
      refine TA.front 2 z z (TA.ac 9 z (storeSl z sz27 z z z z z (kc 4 ?_)))
      exact TA.dn (S.n (cf ((), (b183, a135, c136, b153, a187, c188)) ⟨hh, zf137, zf189⟩ (Sub.f [2, 1, 3, 3, 4] 5)))
     ·skip
      refine TA.ac 5 rfl (makeN (q := x0.states.toNat) (E := 3) (size := 1) (enc := Go.E.encI) rfl underlying27 sz26 by26 ze26 rfl rfl (by show Value.int _ _ = _; rw [Int.toNat_of_nonneg u8.1]) (by show Value.int _ _ = _; rw [Int.toNat_of_nonneg u8.1]) (by omega) (by decide) rfl (fun a191 c192 zf193 => (kc 4 ?_)))
      refine TA.front 2 z z (TA.ac 9 z (storeSl z sz27 z z z z z (kc 4 ?_)))
      exact TA.dn (S.n (cf ((), (b183, a135, c136, b153, a191, c192)) ⟨hh, zf137, zf193⟩ (Sub.f [1, 1, 3, 3, 4] 5)))
  ·skip
   refine TA.actN [2, 6, 7] (by kernel_rfl) (an rfl rfl (makeN (q := x0.states.toNat) (E := 3) (size := 1) (enc := Go.E.encI) rfl underlying27 sz26 by26 ze26 rfl rfl (by show Value.int _ _ = _; rw [Int.toNat_of_nonneg u5.1]) (by show Value.int _ _ = _; rw [Int.toNat_of_nonneg u5.1]) (by omega) (by decide) rfl (fun a195 c196 zf197 => (k2 ?_))) (an rfl rfl (OpOk.alloc rfl ze27 rfl rfl (fun b199 => (k2 ?_))) (an rfl rfl (OpOk.alloc rfl ze27 rfl rfl (fun b201 => (k2 ?_))) (True.intro))))
   ·skip
    refine TA.actN [6, 7] (by kernel_rfl) (an z z (OpOk.alloc z ze27 z z (fun b203 => (k3 ?_))) (an z z (OpOk.alloc z ze27 z z (fun b205 => (k3 ?_))) (True.intro)))
    ·skip
     refine TA.ac 7 z (OpOk.alloc z ze27 z z (fun b207 => (kc 4 ?_)))
     refine TA.front 1 z z (TA.ac 8 z (storeSl z sz27 z z z z z (kc 4 ?_)))
     refine TA.front 1 z z (TA.ac 9 z (storeSl z sz27 z z z z z (kc 4 ?_)))
     exact TA.dn (S.n (cf ((), (b203, a195, c196, b207, a139, c140)) ⟨hh, zf197, zf141⟩ (Sub.f [3, 1, 3, 3, 4] 5)))
    ·skip
     refine TA.ac 6 z (OpOk.alloc z ze27 z z (fun b209 => (kc 4 ?_)))
     refine TA.ac 8 z (storeSl z sz27 z z z z z (kc 4 ?_))
     refine TA.front 1 z z (TA.ac 9 z (storeSl z sz27 z z z z z (kc 4 ?_)))
     exact TA.dn (S.n (cf ((), (b209, a195, c196, b205, a139, c140)) ⟨hh, zf197, zf141⟩ (Sub.f [3, 1, 3, 3, 4] 5)))
   ·skip
    refine TA.actN [2, 7] (by kernel_rfl) (an rfl rfl (makeN (q := x0.states.toNat) (E := 3) (size := 1) (enc := Go.E.encI) rfl underlying27 sz26 by26 ze26 rfl rfl (by show Value.int _ _ = _; rw [Int.toNat_of_nonneg u5.1]) (by show Value.int _ _ = _; rw [Int.toNat_of_nonneg u5.1]) (by omega) (by decide) rfl (fun a211 c212 zf213 => (k3 ?_))) (an rfl rfl (OpOk.alloc rfl ze27 rfl rfl (fun b215 => (k3 ?_))) (True.intro)))
    ·skip
     refine TA.ac 7 z (OpOk.alloc z ze27 z z (fun b217 => (kc 4 ?_)))
     refine TA.front 2 z z (TA.ac 8 z (storeSl z sz27 z z z z z (kc 4 ?_)))
     refine TA.front 1 z z (TA.ac 9 z (storeSl z sz27 z z z z z (kc 4 ?_)))
     exact TA.dn (S.n (cf ((), (b199, a211, c212, b217, a139, c140)) ⟨hh, zf213, zf141⟩ (Sub.f [3, 1, 3, 3, 4] 5)))
    ·skip
     refine TA.ac 2 rfl (makeN (q := x0.states.toNat) (E := 3) (size := 1) (enc := Go.E.encI) rfl underlying27 sz26 by26 ze26 rfl rfl (by show Value.int _ _ = _; rw [Int.toNat_of_nonneg u5.1]) (by show Value.int _ _ = _; rw [Int.toNat_of_nonneg u5.1]) (by omega) (by decide) rfl (fun a219 c220 zf221 => (kc 4 ?_)))
     refine TA.front 2 z z (TA.ac 8 z (storeSl z sz27 z z z z z (kc 4 ?_)))
     refine TA.front 2 z z (TA.ac 9 z (storeSl z sz27 z z z z z (kc 4 ?_)))
     exact TA.dn (S.n (cf ((), (b199, a219, c220, b215, a139, c140)) ⟨hh, zf221, zf141⟩ (Sub.f [3, 1, 3, 3, 4] 5)))
   ·skip
    refine TA.actN [2, 6] (by kernel_rfl) (an rfl rfl (makeN (q := x0.states.toNat) (E := 3) (size := 1) (enc := Go.E.encI) rfl underlying27 sz26 by26 ze26 rfl rfl (by show Value.int _ _ = _; rw [Int.toNat_of_nonneg u5.1]) (by show Value.int _ _ = _; rw [Int.toNat_of_nonneg u5.1]) (by omega) (by decide) rfl (fun a223 c224 zf225 => (k3 ?_))) (an rfl rfl (OpOk.alloc rfl ze27 rfl rfl (fun b227 => (k3 ?_))) (True.intro)))
    ·skip
     refine TA.ac 6 z (OpOk.alloc z ze27 z z (fun b229 => (kc 4 ?_)))
     refine TA.ac 8 z (storeSl z sz27 z z z z z (kc 4 ?_))
     refine TA.front 2 z z (TA.ac 9 z (storeSl z sz27 z z z z z (kc 4 ?_)))
     exact TA.dn (S.n (cf ((), (b229, a223, c224, b201, a139, c140)) ⟨hh, zf225, zf141⟩ (Sub.f [3, 1, 3, 3, 4] 5)))
    ·skip
     refine TA.ac 2 rfl (makeN (q := x0.states.toNat) (E := 3) (size := 1) (enc := Go.E.encI) rfl underlying27 sz26 by26 ze26 rfl rfl (by show Value.int _ _ = _; rw [Int.toNat_of_nonneg u5.1]) (by show Value.int _ _ = _; rw [Int.toNat_of_nonneg u5.1]) (by omega) (by decide) rfl (fun a231 c232 zf233 => (kc 4 ?_)))
     refine TA.front 1 z z (TA.ac 8 z (storeSl z sz27 z z z z z (kc 4 ?_)))
     refine TA.front 2 z z (TA.ac 9 z (storeSl z sz27 z z z z z (kc 4 ?_)))
     exact TA.dn (S.n (cf ((), (b227, a231, c232, b201, a139, c140)) ⟨hh, zf233, zf141⟩ (Sub.f [3, 1, 3, 3, 4] 5)))
  ·skip
   refine TA.actN [2, 5, 7] (by kernel_rfl) (an rfl rfl (makeN (q := x0.states.toNat) (E := 3) (size := 1) (enc := Go.E.encI) rfl underlying27 sz26 by26 ze26 rfl rfl (by show Value.int _ _ = _; rw [Int.toNat_of_nonneg u5.1]) (by show Value.int _ _ = _; rw [Int.toNat_of_nonneg u5.1]) (by omega) (by decide) rfl (fun a235 c236 zf237 => (k2 ?_))) (an rfl rfl (makeN (q := x0.states.toNat) (E := 3) (size := 1) (enc := Go.E.encI) rfl underlying27 sz26 by26 ze26 rfl rfl (by show Value.int _ _ = _; rw [Int.toNat_of_nonneg u8.1]) (by show Value.int _ _ = _; rw [Int.toNat_of_nonneg u8.1]) (by omega) (by decide) rfl (fun a239 c240 zf241 => (k2 ?_))) (an rfl rfl (OpOk.alloc rfl ze27 rfl rfl (fun b243 => (k2 ?_))) (True.intro))))
   ·skip
    refine TA.actN [5, 7] (by kernel_rfl) (an rfl rfl (makeN (q := x0.states.toNat) (E := 3) (size := 1) (enc := Go.E.encI) rfl underlying27 sz26 by26 ze26 rfl rfl (by show Value.int _ _ = _; rw [Int.toNat_of_nonneg u8.1]) (by show Value.int _ _ = _; rw [Int.toNat_of_nonneg u8.1]) (by omega) (by decide) rfl (fun a245 c246 zf247 => (k3 ?_))) (an rfl rfl (OpOk.alloc rfl ze27 rfl rfl (fun b249 => (k3 ?_))) (True.intro)))
    ·skip
     refine TA.ac 7 z (OpOk.alloc z ze27 z z (fun b251 => (kc 4 ?_)))
     refine TA.front 3 z z (TA.ac 8 z (storeSl z sz27 z z z z z (kc 4 ?_)))
     refine TA.front 1 z z (TA.ac 9 z (storeSl z sz27 z z z z z (kc 4 ?_)))
     exact TA.dn (S.n (cf ((), (b143, a235, c236, b251, a245, c246)) ⟨hh, zf237, zf247⟩ (Sub.f [2, 1, 3, 3, 4] 5)))
    ·skip
     refine TA.actN [5, 8] (by kernel_rfl) (an rfl rfl (makeN (q := x0.states.toNat) (E := 3) (size := 1) (enc := Go.E.encI) rfl underlying27 sz26 by26 ze26 rfl rfl (by show Value.int _ _ = _; rw [Int.toNat_of_nonneg u8.1]) (by show Value.int _ _ = _; rw [Int.toNat_of_nonneg u8.1]) (by omega) (by decide) rfl (fun a253 c254 zf255 => (kc 4 ?_))) (an rfl rfl (OpOk.front 2 rfl rfl (storeSl rfl sz27 rfl rfl rfl rfl rfl (k3 ?_))) (True.intro)))
     ·skip
      refine TA.front 3 z z (TA.ac 8 z (storeSl z sz27 z z z z z (kc 4 ?_)))
      refine TA.front 2 z z (TA.ac 9 z (storeSl z sz27 z z z z z (kc 4 ?_)))
      exact TA.dn (S.n (cf ((), (b143, a235, c236, b249, a253, c254)) ⟨hh, zf237, zf255⟩ (Sub.f [2, 1, 3, 3, 4] 5)))
     ·skip
      refine TA.ac 5 rfl (makeN (q := x0.states.toNat) (E := 3) (size := 1) (enc := Go.E.encI) rfl underlying27 sz26 by26 ze26 rfl rfl (by show Value.int _ _ = _; rw [Int.toNat_of_nonneg u8.1]) (by show Value.int _ _ = _; rw [Int.toNat_of_nonneg u8.1]) (by omega) (by decide) rfl (fun a257 c258 zf259 => (kc 4 ?_)))
      refine TA.front 2 z z (TA.ac 9 z (storeSl z sz27 z z z z z (kc 4 ?_)))
      exact TA.dn (S.n (cf ((), (b143, a235, c236, b249, a257, c258)) ⟨hh, zf237, zf259⟩ (Sub.f [1, 1, 3, 3, 4] 5)))
   ·skip
    refine TA.actN [2, 7] (by kernel_rfl) (an rfl rfl (makeN (q := x0.states.toNat) (E := 3) (size := 1) (enc := Go.E.encI) rfl underlying27 sz26 by26 ze26 rfl rfl (by show Value.int _ _ = _; rw [Int.toNat_of_nonneg u5.1]) (by show Value.int _ _ = _; rw [Int.toNat_of_nonneg u5.1]) (by omega) (by decide) rfl (fun a261 c262 zf263 => (k3 ?_))) (an rfl rfl (OpOk.alloc rfl ze27 rfl rfl (fun b265 => (k3 ?_))) (True.intro)))
    ·skip
     refine TA.ac 7 z (OpOk.alloc z ze27 z z (fun b267 => (kc 4 ?_)))
     refine TA.front 3 z z (TA.ac 8 z (storeSl z sz27 z z z z z (kc 4 ?_)))
     refine TA.front 1 z z (TA.ac 9 z (storeSl z sz27 z z z z z (kc 4 ?_)))
     exact TA.dn (S.n (cf ((), (b143, a261, c262, b267, a239, c240)) ⟨hh, zf263, zf241⟩ (Sub.f [3, 1, 3, 3, 4] 5)))
    ·skip
     refine TA.ac 2 rfl (makeN (q := x0.states.toNat) (E := 3) (size := 1) (enc := Go.E.encI) rfl underlying27 sz26 by26 ze26 rfl rfl (by show Value.int _ _ = _; rw [Int.toNat_of_nonneg u5.1]) (by show Value.int _ _ = _; rw [Int.toNat_of_nonneg u5.1]) (by omega) (by decide) rfl (fun a269 c270 zf271 => (kc 4 ?_)))
     refine TA.front 3 z z (TA.ac 8 z (storeSl z sz27 z z z z z (kc 4 ?_)))
     refine TA.front 2 z z (TA.ac 9 z (storeSl z sz27 z z z z z (kc 4 ?_)))
     exact TA.dn (S.n (cf ((), (b143, a269, c270, b265, a239, c240)) ⟨hh, zf271, zf241⟩ (Sub.f [3, 1, 3, 3, 4] 5)))
   ·skip
    refine TA.actN [2, 5] (by kernel_rfl) (an rfl rfl (makeN (q := x0.states.toNat) (E := 3) (size := 1) (enc := Go.E.encI) rfl underlying27 sz26 by26 ze26 rfl rfl (by show Value.int _ _ = _; rw [Int.toNat_of_nonneg u5.1]) (by show Value.int _ _ = _; rw [Int.toNat_of_nonneg u5.1]) (by omega) (by decide) rfl (fun a273 c274 zf275 => (k3 ?_))) (an rfl rfl (makeN (q := x0.states.toNat) (E := 3) (size := 1) (enc := Go.E.encI) rfl underlying27 sz26 by26 ze26 rfl rfl (by show Value.int _ _ = _; rw [Int.toNat_of_nonneg u8.1]) (by show Value.int _ _ = _; rw [Int.toNat_of_nonneg u8.1]) (by omega) (by decide) rfl (fun a277 c278 zf279 => (k3 ?_))) (True.intro)))
    ·skip
     refine TA.actN [5, 8] (by kernel_rfl) (an rfl rfl (makeN (q := x0.states.toNat) (E := 3) (size := 1) (enc := Go.E.encI) rfl underlying27 sz26 by26 ze26 rfl rfl (by show Value.int _ _ = _; rw [Int.toNat_of_nonneg u8.1]) (by show Value.int _ _ = _; rw [Int.toNat_of_nonneg u8.1]) (by omega) (by decide) rfl (fun a281 c282 zf283 => (kc 4 ?_))) (an rfl rfl (OpOk.front 2 rfl rfl (storeSl rfl sz27 rfl rfl rfl rfl rfl (k3 ?_))) (True.intro)))
     ·skip
      refine TA.front 3 z z (TA.ac 8 z (storeSl z sz27 z z z z z (kc 4 ?_)))
      refine TA.front 3 z z (TA.ac 9 z (storeSl z sz27 z z z z z (kc 4 ?_)))
      exact TA.dn (S.n (cf ((), (b143, a273, c274, b243, a281, c282)) ⟨hh, zf275, zf283⟩ (Sub.f [2, 1, 3, 3, 4] 5)))
     ·skip
      refine TA.ac 5 rfl (makeN (q := x0.states.toNat) (E := 3) (size := 1) (enc := Go.E.encI) rfl underlying27 sz26 by26 ze26 rfl rfl (by show Value.int _ _ = _; rw [Int.toNat_of_nonneg u8.1]) (by show Value.int _ _ = _; rw [Int.toNat_of_nonneg u8.1]) (by omega) (by decide) rfl (fun a285 c286 zf287 => (kc 4 ?_)))
      refine TA.front 3 z z (TA.ac 9 z (storeSl z sz27 z z z z z (kc 4 ?_)))
      exact TA.dn (S.n (cf ((), (b143, a273, c274, b243, a285, c286)) ⟨hh, zf275, zf287⟩ (Sub.f [1, 1, 3, 3, 4] 5)))
    ·skip
     refine TA.ac 2 rfl (makeN (q := x0.states.toNat) (E := 3) (size := 1) (enc := Go.E.encI) rfl underlying27 sz26 by26 ze26 rfl rfl (by show Value.int _ _ = _; rw [Int.toNat_of_nonneg u5.1]) (by show Value.int _ _ = _; rw [Int.toNat_of_nonneg u5.1]) (by omega) (by decide) rfl (fun a289 c290 zf291 => (kc 4 ?_)))
     refine TA.front 3 z z (TA.ac 8 z (storeSl z sz27 z z z z z (kc 4 ?_)))
     refine TA.front 3 z z (TA.ac 9 z (storeSl z sz27 z z z z z (kc 4 ?_)))
     exact TA.dn (S.n (cf ((), (b143, a289, c290, b243, a277, c278)) ⟨hh, zf291, zf279⟩ (Sub.f [3, 1, 3, 3, 4] 5)))
  ·skip
   refine TA.actN [2, 5, 6] (by kernel_rfl) (an rfl rfl (makeN (q := x0.states.toNat) (E := 3) (size := 1) (enc := Go.E.encI) rfl underlying27 sz26 by26 ze26 rfl rfl (by show Value.int _ _ = _; rw [Int.toNat_of_nonneg u5.1]) (by show Value.int _ _ = _; rw [Int.toNat_of_nonneg u5.1]) (by omega) (by decide) rfl (fun a293 c294 zf295 => (k2 ?_))) (an rfl rfl (makeN (q := x0.states.toNat) (E := 3) (size := 1) (enc := Go.E.encI) rfl underlying27 sz26 by26 ze26 rfl rfl (by show Value.int _ _ = _; rw [Int.toNat_of_nonneg u8.1]) (by show Value.int _ _ = _; rw [Int.toNat_of_nonneg u8.1]) (by omega) (by decide) rfl (fun a297 c298 zf299 => (k2 ?_))) (an rfl rfl (OpOk.alloc rfl ze27 rfl rfl (fun b301 => (k2 ?_))) (True.intro))))
   ·skip
    refine TA.actN [5, 6] (by kernel_rfl) (an rfl rfl (makeN (q := x0.states.toNat) (E := 3) (size := 1) (enc := Go.E.encI) rfl underlying27 sz26 by26 ze26 rfl rfl (by show Value.int _ _ = _; rw [Int.toNat_of_nonneg u8.1]) (by show Value.int _ _ = _; rw [Int.toNat_of_nonneg u8.1]) (by omega) (by decide) rfl (fun a303 c304 zf305 => (k3 ?_))) (an rfl rfl (OpOk.alloc rfl ze27 rfl rfl (fun b307 => (k3 ?_))) (True.intro)))
    ·skip
     refine TA.ac 6 z (OpOk.alloc z ze27 z z (fun b309 => (kc 4 ?_)))
     refine TA.ac 8 z (storeSl z sz27 z z z z z (kc 4 ?_))
     refine TA.front 3 z z (TA.ac 9 z (storeSl z sz27 z z z z z (kc 4 ?_)))
     exact TA.dn (S.n (cf ((), (b309, a293, c294, b145, a303, c304)) ⟨hh, zf295, zf305⟩ (Sub.f [2, 1, 3, 3, 4] 5)))
    ·skip
     refine TA.actN [5, 8] (by kernel_rfl) (an rfl rfl (makeN (q := x0.states.toNat) (E := 3) (size := 1) (enc := Go.E.encI) rfl underlying27 sz26 by26 ze26 rfl rfl (by show Value.int _ _ = _; rw [Int.toNat_of_nonneg u8.1]) (by show Value.int _ _ = _; rw [Int.toNat_of_nonneg u8.1]) (by omega) (by decide) rfl (fun a311 c312 zf313 => (kc 4 ?_))) (an rfl rfl (storeSl rfl sz27 rfl rfl rfl rfl rfl (k3 ?_)) (True.intro)))
     ·skip
      refine TA.front 1 z z (TA.ac 8 z (storeSl z sz27 z z z z z (kc 4 ?_)))
      refine TA.front 3 z z (TA.ac 9 z (storeSl z sz27 z z z z z (kc 4 ?_)))
      exact TA.dn (S.n (cf ((), (b307, a293, c294, b145, a311, c312)) ⟨hh, zf295, zf313⟩ (Sub.f [2, 1, 3, 3, 4] 5)))
     ·skip
      refine TA.ac 5 rfl (makeN (q := x0.states.toNat) (E := 3) (size := 1) (enc := Go.E.encI) rfl underlying27 sz26 by26 ze26 rfl rfl (by show Value.int _ _ = _; rw [Int.toNat_of_nonneg u8.1]) (by show Value.int _ _ = _; rw [Int.toNat_of_nonneg u8.1]) (by omega) (by decide) rfl (fun a315 c316 zf317 => (kc 4 ?_)))
      refine TA.front 3 z z (TA.ac 9 z (storeSl z sz27 z z z z z (kc 4 ?_)))
      exact TA.dn (S.n (cf ((), (b307, a293, c294, b145, a315, c316)) ⟨hh, zf295, zf317⟩ (Sub.f [1, 1, 3, 3, 4] 5)))
   ·skip
    refine TA.actN [2, 6] (by kernel_rfl) (an rfl rfl (makeN (q := x0.states.toNat) (E := 3) (size := 1) (enc := Go.E.encI) rfl underlying27 sz26 by26 ze26 rfl rfl (by show Value.int _ _ = _; rw [Int.toNat_of_nonneg u5.1]) (by show Value.int _ _ = _; rw [Int.toNat_of_nonneg u5.1]) (by omega) (by decide) rfl (fun a319 c320 zf321 => (k3 ?_))) (an rfl rfl (OpOk.alloc rfl ze27 rfl rfl (fun b323 => (k3 ?_))) (True.intro)))
    ·skip
     refine TA.ac 6 z (OpOk.alloc z ze27 z z (fun b325 => (kc 4 ?_)))
     refine TA.ac 8 z (storeSl z sz27 z z z z z (kc 4 ?_))
     refine TA.front 3 z z (TA.ac 9 z (storeSl z sz27 z z z z z (kc 4 ?_)))
     exact TA.dn (S.n (cf ((), (b325, a319, c320, b145, a297, c298)) ⟨hh, zf321, zf299⟩ (Sub.f [3, 1, 3, 3, 4] 5)))
    ·skip
     refine TA.ac 2 rfl (makeN (q := x0.states.toNat) (E := 3) (size := 1) (enc := Go.E.encI) rfl underlying27 sz26 by26 ze26 rfl rfl (by show Value.int _ _ = _; rw [Int.toNat_of_nonneg u5.1]) (by show Value.int _ _ = _; rw [Int.toNat_of_nonneg u5.1]) (by omega) (by decide) rfl (fun a327 c328 zf329 => (kc 4 ?_)))
     refine TA.front 1 z z (TA.ac 8 z (storeSl z sz27 z z z z z (kc 4 ?_)))
     refine TA.front 3 z z (TA.ac 9 z (storeSl z sz27 z z z z z (kc 4 ?_)))
     exact TA.dn (S.n (cf ((), (b323, a327, c328, b145, a297, c298)) ⟨hh, zf329, zf299⟩ (Sub.f [3, 1, 3, 3, 4] 5)))
   ·skip
    refine TA.actN [2, 5] (by kernel_rfl) (an rfl rfl (makeN (q := x0.states.toNat) (E := 3) (size := 1) (enc := Go.E.encI) rfl underlying27 sz26 by26 ze26 rfl rfl (by show Value.int _ _ = _; rw [Int.toNat_of_nonneg u5.1]) (by show Value.int _ _ = _; rw [Int.toNat_of_nonneg u5.1]) (by omega) (by decide) rfl (fun a331 c332 zf333 => (k3 ?_))) (an rfl rfl (makeN (q := x0.states.toNat) (E := 3) (size := 1) (enc := Go.E.encI) rfl underlying27 sz26 by26 ze26 rfl rfl (by show Value.int _ _ = _; rw [Int.toNat_of_nonneg u8.1]) (by show Value.int _ _ = _; rw [Int.toNat_of_nonneg u8.1]) (by omega) (by decide) rfl (fun a335 c336 zf337 => (k3 ?_))) (True.intro)))
    ·skip
     refine TA.actN [5, 8] (by kernel_rfl) (an rfl rfl (makeN (q := x0.states.toNat) (E := 3) (size := 1) (enc := Go.E.encI) rfl underlying27 sz26 by26 ze26 rfl rfl (by show Value.int _ _ = _; rw [Int.toNat_of_nonneg u8.1]) (by show Value.int _ _ = _; rw [Int.toNat_of_nonneg u8.1]) (by omega) (by decide) rfl (fun a339 c340 zf341 => (kc 4 ?_))) (an rfl rfl (OpOk.front 1 rfl rfl (storeSl rfl sz27 rfl rfl rfl rfl rfl (k3 ?_))) (True.intro)))
     ·skip
      refine TA.front 2 z z (TA.ac 8 z (storeSl z sz27 z z z z z (kc 4 ?_)))
      refine TA.front 3 z z (TA.ac 9 z (storeSl z sz27 z z z z z (kc 4 ?_)))
      exact TA.dn (S.n (cf ((), (b301, a331, c332, b145, a339, c340)) ⟨hh, zf333, zf341⟩ (Sub.f [2, 1, 3, 3, 4] 5)))
     ·skip
      refine TA.ac 5 rfl (makeN (q := x0.states.toNat) (E := 3) (size := 1) (enc := Go.E.encI) rfl underlying27 sz26 by26 ze26 rfl rfl (by show Value.int _ _ = _; rw [Int.toNat_of_nonneg u8.1]) (by show Value.int _ _ = _; rw [Int.toNat_of_nonneg u8.1]) (by omega) (by decide) rfl (fun a343 c344 zf345 => (kc 4 ?_)))
      refine TA.front 3 z z (TA.ac 9 z (storeSl z sz27 z z z z z (kc 4 ?_)))
      exact TA.dn (S.n (cf ((), (b301, a331, c332, b145, a343, c344)) ⟨hh, zf333, zf345⟩ (Sub.f [1, 1, 3, 3, 4] 5)))
    ·skip
     refine TA.ac 2 rfl (makeN (q := x0.states.toNat) (E := 3) (size := 1) (enc := Go.E.encI) rfl underlying27 sz26 by26 ze26 rfl rfl (by show Value.int _ _ = _; rw [Int.toNat_of_nonneg u5.1]) (by show Value.int _ _ = _; rw [Int.toNat_of_nonneg u5.1]) (by omega) (by decide) rfl (fun a347 c348 zf349 => (kc 4 ?_)))
     refine TA.front 2 z z (TA.ac 8 z (storeSl z sz27 z z z z z (kc 4 ?_)))
     refine TA.front 3 z z (TA.ac 9 z (storeSl z sz27 z z z z z (kc 4 ?_)))
     exact TA.dn (S.n (cf ((), (b301, a347, c348, b145, a335, c336)) ⟨hh, zf349, zf337⟩ (Sub.f [3, 1, 3, 3, 4] 5)))
 ·skip
  obtain ⟨_, ⟨b112, a114, c115, b118, a120, c121⟩⟩ := g
  obtain ⟨hh, zf116, zf122⟩ := hg
  try dsimp only at zf116 zf122 ⊢
  dsimp only [Dz_] at hh
  have zf116b := zf116.len
  have zf122b := zf122.len
  refine TC.know (isSl_nest (q := 2) z zf116) (fun ⟨_, hb351⟩ => ?_)
  refine TC.know (isSl_nest (q := 4) z zf122) (fun ⟨_, hb352⟩ => ?_)
  refine TC.seq (TC.a (TL.w z (fieldLoc z fo25_3 z) (TL.w z (loadLoc z ag23 z (i := 0) z z) (TL.w z (lenC z underlying23 z) (TL.i z z (TL.en (TC.block (TC.loopG (α := ((List (List Int)) × (List (List Int)) × Nat) × ((List (NP Int)) × (List (NP Int)))) (rgs [(6, 1), (16, 31)]) (fun g => [(16, .int .i64 ((g.1.2.2 : Nat) : Int))]) (fun g => [Res.cells b109 #[.int .i64 x0.states, .slice a0_0 x0.starts.length c0_0, .slice a0_1 x0.ends.length c0_1, .slice a0_2 x0.arcs.length c0_2] 25, Res.cells b112 #[.slice a114 ((List.replicate x0.states.toNat ([] : List Int)).length) c115] 27, Res.nest 26 3 1 Go.E.encI (.slice a114 (List.replicate x0.states.toNat ([] : List Int)).length c115) g.2.1, Res.cells b118 #[.slice a120 g.1.2.1.length c121] 27, Res.nest 26 3 1 Go.E.encI (.slice a120 g.1.2.1.length c121) g.2.2]) (fun g => σ) (fun g => iter (fun q : (List (List Int)) × (List (List Int)) × Nat => A9_ x0 q.1 q.2.1 q.2.2) g.1 = some r ∧ g.1.1.length = (List.replicate x0.states.toNat ([] : List Int)).length ∧ Zn g.2.1 g.1.1 ∧ Zn g.2.2 g.1.2.1) (fun g => rounds (fun q : (List (List Int)) × (List (List Int)) × Nat => A9_ x0 q.1 q.2.1 q.2.2) g.1) (((List.replicate x0.states.toNat ([] : List Int)), (List.replicate x0.states.toNat ([] : List Int)), 0), ((List.replicate x0.states.toNat (nilN : NP Int)), (List.replicate x0.states.toNat (nilN : NP Int)))) (Sub.f [4, 4, 4, 4, 4] 5) z (by repeat (first | exact trivial | refine ⟨z, ?_⟩)) ⟨hh, z, zf116, zf122⟩ (fun g1 j1 hg1 => ?_)))))))))
  obtain ⟨⟨l387, l391, k394⟩, ⟨z389, z392⟩⟩ := g1
  obtain ⟨hh, hn388, zf390, zf393⟩ := hg1
  try dsimp only at hn388 zf390 zf393 ⊢
  obtain ⟨z1, hh, hR1⟩ := iter_e hh
  dsimp only [A9_] at hh
  have hn388b := hn388
  have zf390b := zf390.len
  have zf393b := zf393.len
  refine TC.know (isSl_nest (q := 2) z zf390) (fun ⟨_, hb395⟩ => ?_)
  refine TC.know (isSl_nest (q := 4) z zf393) (fun ⟨_, hb396⟩ => ?_)
  refine TC.a (TL.w z (OpVal.lss z z z) (TL.en (TC.seq (TC.cD z hh (fun h397 hh => ?_) (fun h397 hh => ?_)))))
  ·refine TC.skip (S.n (TC.cutG (α := (Unit) × ((List (NP Int)) × (List (NP Int)))) (rgs [(6, 1), (18, 28)]) (fun g => []) (fun g => [Res.cells b109 #[.int .i64 x0.states, .slice a0_0 x0.starts.length c0_0, .slice a0_1 x0.ends.length c0_1, .slice a0_2 x0.arcs.length c0_2] 25, Res.cells b112 #[.slice a114 ((List.replicate x0.states.toNat ([] : List Int)).length) c115] 27, Res.nest 26 3 1 Go.E.encI (.slice a114 (List.replicate x0.states.toNat ([] : List Int)).length c115) g.2.1, Res.cells b118 #[.slice a120 l391.length c121] 27, Res.nest 26 3 1 Go.E.encI (.slice a120 l391.length c121) g.2.2]) (fun g => σ) (fun g => Dv_ l387 x0 k394 l391 = some z1 ∧ (l387.set (((nth x0.arcs k394 Arc.zero).frm).toNat) ((nth l387 (((nth x0.arcs k394 Arc.zero).frm).toNat) ([] : List Int)) ++ [(nth x0.arcs k394 Arc.zero).to])).length = (List.replicate x0.states.toNat ([] : List Int)).length ∧ Zn g.2.1 (l387.set (((nth x0.arcs k394 Arc.zero).frm).toNat) ((nth l387 (((nth x0.arcs k394 Arc.zero).frm).toNat) ([] : List Int)) ++ [(nth x0.arcs k394 Arc.zero).to])) ∧ (l391.set (((nth x0.arcs k394 Arc.zero).to).toNat) ((nth l391 (((nth x0.arcs k394 Arc.zero).to).toNat) ([] : List Int)) ++ [(nth x0.arcs k394 Arc.zero).frm])).length = l391.length ∧ Zn g.2.2 (l391.set (((nth x0.arcs k394 Arc.zero).to).toNat) ((nth l391 (((nth x0.arcs k394 Arc.zero).to).toNat) ([] : List Int)) ++ [(nth x0.arcs k394 Arc.zero).frm]))) ?_ (fun g j hg => ?_)))
   ·skip
    refine TC.block (TC.a (TL.w z (indexN z underlying23 sz59 z z f0_2.rv.sl (by omega)) (TL.w z (loadSA Arc.zero z ag59 sz59 z f0_2 (by omega) (by omega)) (TL.op z (OpOk.alloc z ze59 z z (fun b404 => ?_))))))
    refine TL.op z (storeAll z sz59 z z z z z z ?_)
    refine TL.en (TC.cutG (α := (Unit) × ((List (NP Int)))) (rgs [(20, 13)]) (fun g => []) (fun g => [Res.cells b109 #[.int .i64 x0.states, .slice a0_0 x0.starts.length c0_0, .slice a0_1 x0.ends.length c0_1, .slice a0_2 x0.arcs.length c0_2] 25, Res.cells b112 #[.slice a114 ((List.replicate x0.states.toNat ([] : List Int)).length) c115] 27, Res.nest 26 3 1 Go.E.encI (.slice a114 (List.replicate x0.states.toNat ([] : List Int)).length c115) g.2, Res.cells b118 #[.slice a120 l391.length c121] 27, Res.nest 26 3 1 Go.E.encI (.slice a120 l391.length c121) z392, Res.cells b404 #[.int .i64 ((nth x0.arcs k394 Arc.zero).frm), .int .i64 ((nth x0.arcs k394 Arc.zero).to), .int .u64 ((((nth x0.arcs k394 Arc.zero).set).a : Nat) : Int), .int .u64 ((((nth x0.arcs k394 Arc.zero).set).b : Nat) : Int), .int .u64 ((((nth x0.arcs k394 Arc.zero).set).c : Nat) : Int), .int .u64 ((((nth x0.arcs k394 Arc.zero).set).d : Nat) : Int), .string (bs ((nth x0.arcs k394 Arc.zero).out)), .bool ((nth x0.arcs k394 Arc.zero).copy)] 59]) (fun g => σ) (fun g => Dx_ x0 k394 l391 l387 = some z1 ∧ (l387.set (((nth x0.arcs k394 Arc.zero).frm).toNat) ((nth l387 (((nth x0.arcs k394 Arc.zero).frm).toNat) ([] : List Int)) ++ [(nth x0.arcs k394 Arc.zero).to])).length = (List.replicate x0.states.toNat ([] : List Int)).length ∧ Zn g.2 (l387.set (((nth x0.arcs k394 Arc.zero).frm).toNat) ((nth l387 (((nth x0.arcs k394 Arc.zero).frm).toNat) ([] : List Int)) ++ [(nth x0.arcs k394 Arc.zero).to])) ∧ Zn z392 l391) ?_ (fun g j hg => ?_))
    ·skip
     have u28 := grd_c hh
     replace hh := grd_t hh
     have u33 := grd_c hh
     replace hh := grd_t hh
     have u34 := grd_c hh
     replace hh := grd_t hh
     refine TC.drawR (Hr := [Res.cells b404 #[.int .i64 ((nth x0.arcs k394 Arc.zero).frm), .int .i64 ((nth x0.arcs k394 Arc.zero).to), .int .u64 ((((nth x0.arcs k394 Arc.zero).set).a : Nat) : Int), .int .u64 ((((nth x0.arcs k394 Arc.zero).set).b : Nat) : Int), .int .u64 ((((nth x0.arcs k394 Arc.zero).set).c : Nat) : Int), .int .u64 ((((nth x0.arcs k394 Arc.zero).set).d : Nat) : Int), .string (bs ((nth x0.arcs k394 Arc.zero).out)), .bool ((nth x0.arcs k394 Arc.zero).copy)] 59, Res.cells b109 #[.int .i64 x0.states, .slice a0_0 x0.starts.length c0_0, .slice a0_1 x0.ends.length c0_1, .slice a0_2 x0.arcs.length c0_2] 25, Res.cells b112 #[.slice a114 ((List.replicate x0.states.toNat ([] : List Int)).length) c115] 27, Res.cells b118 #[.slice a120 l391.length c121] 27, Res.nest 26 3 1 Go.E.encI (.slice a120 l391.length c121) z392]) (fun r hr => mem_pick [0, 1, 2, 4, 5] z hr) [] (by kernel_rfl) (TA.b 0 z (loadLoc z ag27 z (i := 2) z z) z (TA.a 1 z (fieldLoc z fo59_0 z) z (TA.b 2 z (loadLoc z ag3 z (i := 0) z z) z (TA.b 3 z (loadLoc z ag27 z (i := 2) z z) z (TA.a 4 z (fieldLoc z fo59_0 z) z (TA.b 5 z (loadLoc z ag3 z (i := 0) z z) z (TA.know (isSl_nest (q := 3) z zf390) (fun ⟨hs421, hs421b⟩ => ?_))))))))
     refine TA.b 6 z (OpVal.index z underlying27 sz26 z z hs421 u28.1 u28.2) z (TA.a 8 z (fieldLoc z fo59_1 z) z (TA.b 9 z (loadLoc z ag3 z (i := 0) z z) z ?_))
     obtain ⟨p422, hz422, hm422⟩ := Zn.at zf390 (i := ((nth x0.arcs k394 Arc.zero).frm).toNat) (by omega)
     refine TA.actN [7, 10] (by kernel_rfl) (an z z (OpVal.ok (loadN z ag26 z (q := 3) z hz422 hm422) z z ⟨(fun w h => sees_of (Store.le.refl _) (fun r hr => mem_pick [0, 1, 2, 4, 5] z hr) w h), ?_⟩) (an z z (OpOk.lit (enc := Go.E.encI) [(nth x0.arcs k394 Arc.zero).to] z underlying26 sz3 ze3 z z z Go.E.encI_len (by decide) (by decide) (0 : Int) z (by decide) z (by decide) Go.E.encI_one (fun a423 c424 => ⟨(fun w h => sees_of (Store.le.refl _) (fun r hr => mem_pick [1, 2, 3, 5, 6] z hr) w h), ?_⟩)) (True.intro)))
     ·skip
      refine TA.ac 10 z (OpOk.lit (enc := Go.E.encI) [(nth x0.arcs k394 Arc.zero).to] z underlying26 sz3 ze3 z z z Go.E.encI_len (by decide) (by decide) (0 : Int) z (by decide) z (by decide) Go.E.encI_one (fun a426 c427 => ⟨(fun w h => sees_of (Store.le.refl _) (fun r hr => mem_pick [1, 2, 3, 5, 6] z hr) w h), ?_⟩))
      refine TA.front 4 z z (TA.by (fun w h => Reach.takeN hz422 hm422 h) (TA.ac 11 z (appendS z z underlying26 sz3 by3 ze3 z z (by decide) z z z (.inr ⟨_, 1, z⟩) (by simpa using u33) (by decide) (fun a430 c431 => (k3 ?_)))))
      refine TA.know (isSl_nestX (q := 1) z zf390) (fun ⟨hs432, hs432b⟩ => ?_)
      refine TA.b 12 z (OpVal.index z underlying27 sz26 z z hs432 u34.1 u34.2) z (TA.front 1 z z (TA.front 1 z z ?_))
      have hn434 : (l387.set (((nth x0.arcs k394 Arc.zero).frm).toNat) ((nth l387 (((nth x0.arcs k394 Arc.zero).frm).toNat) ([] : List Int)) ++ [(nth x0.arcs k394 Arc.zero).to])).length = (List.replicate x0.states.toNat ([] : List Int)).length := (List.length_set ..).trans hn388
      refine TA.ac 13 rfl (storeX (l' := ((nth l387 (((nth x0.arcs k394 Arc.zero).frm).toNat) ([] : List Int)) ++ [(nth x0.arcs k394 Arc.zero).to])) rfl sz26 rfl rfl rfl rfl rfl (by rw [zf390.len]; omega) zf390 (fun zf433 => (k2 ?_)))
      exact TA.dn (S.n (cf ((), (z389.set (((nth x0.arcs k394 Arc.zero).frm).toNat) (((nth l387 (((nth x0.arcs k394 Arc.zero).frm).toNat) ([] : List Int)) ++ [(nth x0.arcs k394 Arc.zero).to]), (a430, c431)))) ⟨hh, hn434, zf433, zf393⟩ (Sub.f [2, 6, 6, 3, 6, 6] 6)))
     ·skip
      obtain ⟨p435, hz435, hm435⟩ := Zn.at zf390 (i := ((nth x0.arcs k394 Arc.zero).frm).toNat) (by omega)
      refine TA.ac 7 z (OpVal.ok (loadN z ag26 z (q := 4) z hz435 hm435) z z ⟨(fun w h => sees_of (Store.le.refl _) (fun r hr => mem_pick [1, 2, 3, 5, 6] z hr) w h), ?_⟩)
      refine TA.front 4 z z (TA.by (fun w h => Reach.takeN hz435 hm435 h) (TA.ac 11 z (appendS z z underlying26 sz3 by3 ze3 z z (by decide) z z z (.inr ⟨_, 1, z⟩) (by simpa using u33) (by decide) (fun a437 c438 => (k3 ?_)))))
      refine TA.know (isSl_nestX (q := 1) z zf390) (fun ⟨hs439, hs439b⟩ => ?_)
      refine TA.b 12 z (OpVal.index z underlying27 sz26 z z hs439 u34.1 u34.2) z (TA.front 1 z z (TA.front 1 z z ?_))
      have hn441 : (l387.set (((nth x0.arcs k394 Arc.zero).frm).toNat) ((nth l387 (((nth x0.arcs k394 Arc.zero).frm).toNat) ([] : List Int)) ++ [(nth x0.arcs k394 Arc.zero).to])).length = (List.replicate x0.states.toNat ([] : List Int)).length := (List.length_set ..).trans hn388
      refine TA.ac 13 rfl (storeX (l' := ((nth l387 (((nth x0.arcs k394 Arc.zero).frm).toNat) ([] : List Int)) ++ [(nth x0.arcs k394 Arc.zero).to])) rfl sz26 rfl rfl rfl rfl rfl (by rw [zf390.len]; omega) zf390 (fun zf440 => (k2 ?_)))
      exact TA.dn (S.n (cf ((), (z389.set (((nth x0.arcs k394 Arc.zero).frm).toNat) (((nth l387 (((nth x0.arcs k394 Arc.zero).frm).toNat) ([] : List Int)) ++ [(nth x0.arcs k394 Arc.zero).to]), (a437, c438)))) ⟨hh, hn441, zf440, zf393⟩ (Sub.f [2, 6, 6, 3, 6, 6] 6)))
    ·skip
     obtain ⟨_, z407⟩ := g
     obtain ⟨hh, hn406, zf408, zf409⟩ := hg
     try dsimp only at hn406 zf408 zf409 ⊢
     dsimp only [Dx_] at hh
     have hn406b := hn406
     have zf408b := zf408.len
     have zf409b := zf409.len
     refine TC.know (isSl_nest (q := 2) z zf408) (fun ⟨_, hb442⟩ => ?_)
     refine TC.know (isSl_nest (q := 4) z zf409) (fun ⟨_, hb443⟩ => ?_)
     have u42 := grd_c hh
     replace hh := grd_t hh
     have u47 := grd_c hh
     replace hh := grd_t hh
     have u48 := grd_c hh
     replace hh := grd_t hh
     refine TC.drawR (Hr := [Res.cells b109 #[.int .i64 x0.states, .slice a0_0 x0.starts.length c0_0, .slice a0_1 x0.ends.length c0_1, .slice a0_2 x0.arcs.length c0_2] 25, Res.cells b112 #[.slice a114 ((List.replicate x0.states.toNat ([] : List Int)).length) c115] 27, Res.nest 26 3 1 Go.E.encI (.slice a114 (List.replicate x0.states.toNat ([] : List Int)).length c115) z407, Res.cells b118 #[.slice a120 l391.length c121] 27, Res.cells b404 #[.int .i64 ((nth x0.arcs k394 Arc.zero).frm), .int .i64 ((nth x0.arcs k394 Arc.zero).to), .int .u64 ((((nth x0.arcs k394 Arc.zero).set).a : Nat) : Int), .int .u64 ((((nth x0.arcs k394 Arc.zero).set).b : Nat) : Int), .int .u64 ((((nth x0.arcs k394 Arc.zero).set).c : Nat) : Int), .int .u64 ((((nth x0.arcs k394 Arc.zero).set).d : Nat) : Int), .string (bs ((nth x0.arcs k394 Arc.zero).out)), .bool ((nth x0.arcs k394 Arc.zero).copy)] 59]) (fun r hr => mem_pick [0, 1, 2, 3, 5] z hr) [] (by kernel_rfl) (TA.b 0 z (loadLoc z ag27 z (i := 3) z z) z (TA.a 1 z (fieldLoc z fo59_1 z) z (TA.b 2 z (loadLoc z ag3 z (i := 4) z z) z (TA.b 3 z (loadLoc z ag27 z (i := 3) z z) z (TA.a 4 z (fieldLoc z fo59_1 z) z (TA.b 5 z (loadLoc z ag3 z (i := 4) z z) z (TA.know (isSl_nest (q := 4) z zf409) (fun ⟨hs455, hs455b⟩ => ?_))))))))
     refine TA.b 6 z (OpVal.index z underlying27 sz26 z z hs455 u42.1 u42.2) z (TA.a 8 z (fieldLoc z fo59_0 z) z (TA.b 9 z (loadLoc z ag3 z (i := 4) z z) z ?_))
     obtain ⟨p456, hz456, hm456⟩ := Zn.at zf409 (i := ((nth x0.arcs k394 Arc.zero).to).toNat) (by omega)
     refine TA.actN [7, 10] (by kernel_rfl) (an z z (OpVal.ok (loadN z ag26 z (q := 4) z hz456 hm456) z z ⟨(fun w h => sees_of (Store.le.refl _) (fun r hr => mem_pick [0, 1, 2, 3, 5] z hr) w h), ?_⟩) (an z z (OpOk.lit (enc := Go.E.encI) [(nth x0.arcs k394 Arc.zero).frm] z underlying26 sz3 ze3 z z z Go.E.encI_len (by decide) (by decide) (0 : Int) z (by decide) z (by decide) Go.E.encI_one (fun a457 c458 => ⟨(fun w h => sees_of (Store.le.refl _) (fun r hr => mem_pick [1, 2, 3, 4, 6] z hr) w h), ?_⟩)) (True.intro)))
     ·skip
      refine TA.ac 10 z (OpOk.lit (enc := Go.E.encI) [(nth x0.arcs k394 Arc.zero).frm] z underlying26 sz3 ze3 z z z Go.E.encI_len (by decide) (by decide) (0 : Int) z (by decide) z (by decide) Go.E.encI_one (fun a460 c461 => ⟨(fun w h => sees_of (Store.le.refl _) (fun r hr => mem_pick [1, 2, 3, 4, 6] z hr) w h), ?_⟩))
      refine TA.front 5 z z (TA.by (fun w h => Reach.takeN hz456 hm456 h) (TA.ac 11 z (appendS z z underlying26 sz3 by3 ze3 z z (by decide) z z z (.inr ⟨_, 1, z⟩) (by simpa using u47) (by decide) (fun a464 c465 => (k3 ?_)))))
      refine TA.know (isSl_nestX (q := 1) z zf409) (fun ⟨hs466, hs466b⟩ => ?_)
      refine TA.b 12 z (OpVal.index z underlying27 sz26 z z hs466 u48.1 u48.2) z (TA.front 1 z z (TA.front 1 z z ?_))
      have hn468 : (l391.set (((nth x0.arcs k394 Arc.zero).to).toNat) ((nth l391 (((nth x0.arcs k394 Arc.zero).to).toNat) ([] : List Int)) ++ [(nth x0.arcs k394 Arc.zero).frm])).length = l391.length := (List.length_set ..).trans rfl
      refine TA.ac 13 rfl (storeX (l' := ((nth l391 (((nth x0.arcs k394 Arc.zero).to).toNat) ([] : List Int)) ++ [(nth x0.arcs k394 Arc.zero).frm])) rfl sz26 rfl rfl rfl rfl rfl (by rw [zf409.len]; omega) zf409 (fun zf467 => (k2 ?_)))
      exact TA.dn (B.n (S.n (cf ((), (z407, (z392.set (((nth x0.arcs k394 Arc.zero).to).toNat) (((nth l391 (((nth x0.arcs k394 Arc.zero).to).toNat) ([] : List Int)) ++ [(nth x0.arcs k394 Arc.zero).frm]), (a464, c465))))) ⟨hh, hn406, zf408, hn468, zf467⟩ (Sub.f [5, 5, 5, 5] 5))))
     ·skip
      obtain ⟨p469, hz469, hm469⟩ := Zn.at zf409 (i := ((nth x0.arcs k394 Arc.zero).to).toNat) (by omega)
      refine TA.ac 7 z (OpVal.ok (loadN z ag26 z (q := 5) z hz469 hm469) z z ⟨(fun w h => sees_of (Store.le.refl _) (fun r hr => mem_pick [1, 2, 3, 4, 6] z hr) w h), ?_⟩)
      refine TA.front 5 z z (TA.by (fun w h => Reach.takeN hz469 hm469 h) (TA.ac 11 z (appendS z z underlying26 sz3 by3 ze3 z z (by decide) z z z (.inr ⟨_, 1, z⟩) (by simpa using u47) (by decide) (fun a471 c472 => (k3 ?_)))))
      refine TA.know (isSl_nestX (q := 1) z zf409) (fun ⟨hs473, hs473b⟩ => ?_)
      refine TA.b 12 z (OpVal.index z underlying27 sz26 z z hs473 u48.1 u48.2) z (TA.front 1 z z (TA.front 1 z z ?_))
      have hn475 : (l391.set (((nth x0.arcs k394 Arc.zero).to).toNat) ((nth l391 (((nth x0.arcs k394 Arc.zero).to).toNat) ([] : List Int)) ++ [(nth x0.arcs k394 Arc.zero).frm])).length = l391.length := (List.length_set ..).trans rfl
      refine TA.ac 13 rfl (storeX (l' := ((nth l391 (((nth x0.arcs k394 Arc.zero).to).toNat) ([] : List Int)) ++ [(nth x0.arcs k394 Arc.zero).frm])) rfl sz26 rfl rfl rfl rfl rfl (by rw [zf409.len]; omega) zf409 (fun zf474 => (k2 ?_)))
      exact TA.dn (B.n (S.n (cf ((), (z407, (z392.set (((nth x0.arcs k394 Arc.zero).to).toNat) (((nth l391 (((nth x0.arcs k394 Arc.zero).to).toNat) ([] : List Int)) ++ [(nth x0.arcs k394 Arc.zero).frm]), (a471, c472))))) ⟨hh, hn406, zf408, hn475, zf474⟩ (Sub.f [5, 5, 5, 5] 5))))
   ·skip
    obtain ⟨_, ⟨z399, z402⟩⟩ := g
    obtain ⟨hh, hn398, zf400, hn401, zf403⟩ := hg
    try dsimp only at hn398 zf400 hn401 zf403 ⊢
    dsimp only [Dv_] at hh
    have hn398b := hn398
    have zf400b := zf400.len
    have hn401b := hn401
    have zf403b := zf403.len
    refine TC.know (isSl_nest (q := 2) z zf400) (fun ⟨_, hb476⟩ => ?_)
    refine TC.know (isSl_nest (q := 4) z zf403) (fun ⟨_, hb477⟩ => ?_)
    refine TC.region (TL.w z (OpVal.succ z z z (by omega)) (TL.i z z ?_))
    rw [← hn401]
    refine TL.en ?_
    obtain ⟨hh, hlt478⟩ := nxt_x hR1 hh
    exact lf (((l387.set (((nth x0.arcs k394 Arc.zero).frm).toNat) ((nth l387 (((nth x0.arcs k394 Arc.zero).frm).toNat) ([] : List Int)) ++ [(nth x0.arcs k394 Arc.zero).to])), (l391.set (((nth x0.arcs k394 Arc.zero).to).toNat) ((nth l391 (((nth x0.arcs k394 Arc.zero).to).toNat) ([] : List Int)) ++ [(nth x0.arcs k394 Arc.zero).frm])), (k394 + 1)), (z399, z402)) hlt478 ⟨hh, hn398, zf400, zf403⟩ (Sub.f [4, 4, 4, 4, 4] 5)
  ·refine TC.exit (S.x (S.x ?_))
   replace hh := fin_x hR1 hh
   refine TC.exitHere (S.n (TC.a (TL.w z (makeFn z) (TL.w z (moveFn (.inr z) z) (TL.en ?_)))))
   rw [← hn388]
   refine TC.front 2 z z (TC.seals (fun w h => Reach.sealNest Go.E.encI_len zf390 h) (fun τ481 hle480 hr479 => ?_))
   replace f0_0 := f0_0.mono hle480
   replace f0_1 := f0_1.mono hle480
   replace f0_2 := f0_2.mono hle480
   have hr479b := hr479.big
   refine TC.front 3 z z (TC.seals (fun w h => Reach.sealNest Go.E.encI_len zf393 h) (fun τ484 hle483 hr482 => ?_))
   replace f0_0 := f0_0.mono hle483
   replace f0_1 := f0_1.mono hle483
   replace f0_2 := f0_2.mono hle483
   replace hr479 := hr479.mono hle483
   have hr482b := hr482.big
   refine TC.ret ?_
   obtain rfl := so hh
   exact ro [Res.cells b109 #[.int .i64 x0.states, .slice a0_0 x0.starts.length c0_0, .slice a0_1 x0.ends.length c0_1, .slice a0_2 x0.arcs.length c0_2] 25, Res.cells b112 #[.slice a114 l387.length c115] 27, Res.cells b118 #[.slice a120 l391.length c121] 27] z (RVs.tmp z RVs.nil) ⟨b109, a0_0, c0_0, a0_1, c0_1, a0_2, c0_2, b112, a114, c115, b118, a120, c121, z, f0_0, f0_1, f0_2, hr479, hr482, z⟩
noncomputable def B8_ (l143 : List Int) (k145 : Nat) (y4_0 : Int) : Option (Nat × ((List Int) × Nat)) :=
 grd (0 ≤ y4_0 ∧ y4_0 < (l143.length : Int)) (grd (k145 + 1 ≤ 9223372036854775807) (some (0, ((l143.set y4_0.toNat ((k145 : Nat) : Int)), (k145 + 1)))))
noncomputable def Do_ (k169 : Nat) (l175 : List Tip) : Option (((List Tip) × Nat) ⊕ (Fst × Int)) :=
 nxt (l175, (k169 + 1))
noncomputable def Dn_ (k208 : Nat) (l215 : List Tip) : Option (((List Tip) × Nat) ⊕ (Fst × Int)) :=
 nxt (l215, (k208 + 1))
noncomputable def Cz_ (k249 : Nat) (l257 : List Arc) : Option (((List Arc) × Nat) ⊕ (Fst × Int)) :=
 nxt (l257, (k249 + 1))
noncomputable def Bv_ (x0 : Fst) (l143 : List Int) (k145 : Nat) (l166 : List Tip) (l205 : List Tip) (l246 : List Arc) (k249 : Nat) : Option (((List Arc) × Nat) ⊕ (Fst × Int)) :=
 iteO (decide (((k249 : Nat) : Int) < ((x0.arcs.length : Nat) : Int))) (grd (0 ≤ ((nth x0.arcs k249 Arc.zero).frm) ∧ ((nth x0.arcs k249 Arc.zero).frm) < (l143.length : Int)) (grd (0 ≤ ((nth x0.arcs k249 Arc.zero).to) ∧ ((nth x0.arcs k249 Arc.zero).to) < (l143.length : Int)) (iteO (decide (0 ≤ (nth l143 (((nth x0.arcs k249 Arc.zero).frm).toNat) (0 : Int)))) (iteO (decide (0 ≤ (nth l143 (((nth x0.arcs k249 Arc.zero).to).toNat) (0 : Int)))) (grd ((l246.length + [(⟨(nth l143 (((nth x0.arcs k249 Arc.zero).frm).toNat) (0 : Int)), (nth l143 (((nth x0.arcs k249 Arc.zero).to).toNat) (0 : Int)), (nth x0.arcs k249 Arc.zero).set, (nth x0.arcs k249 Arc.zero).out, (nth x0.arcs k249 Arc.zero).copy⟩ : Arc)].length) * 72 ≤ 140737488355328) (Cz_ k249 (l246 ++ [(⟨(nth l143 (((nth x0.arcs k249 Arc.zero).frm).toNat) (0 : Int)), (nth l143 (((nth x0.arcs k249 Arc.zero).to).toNat) (0 : Int)), (nth x0.arcs k249 Arc.zero).set, (nth x0.arcs k249 Arc.zero).out, (nth x0.arcs k249 Arc.zero).copy⟩ : Arc)]))) (Cz_ k249 l246)) (Cz_ k249 l246)))) (fin (bnd (Cv_ (⟨((k145 : Nat) : Int), l166, l205, l246⟩ : Fst)) (fun v145 => some (v145.1, v145.2))))
noncomputable def Bu_ (x0 : Fst) (l143 : List Int) (k145 : Nat) (l166 : List Tip) (l205 : List Tip) (k208 : Nat) : Option (((List Tip) × Nat) ⊕ (Fst × Int)) :=
 iteO (decide (((k208 : Nat) : Int) < ((x0.ends.length : Nat) : Int))) (grd (0 ≤ ((nth x0.ends k208 Tip.zero).state) ∧ ((nth x0.ends k208 Tip.zero).state) < (l143.length : Int)) (iteO (decide (0 ≤ (nth l143 (((nth x0.ends k208 Tip.zero).state).toNat) (0 : Int)))) (grd ((l205.length + [(⟨(nth l143 (((nth x0.ends k208 Tip.zero).state).toNat) (0 : Int)), (nth x0.ends k208 Tip.zero).out⟩ : Tip)].length) * 24 ≤ 140737488355328) (Dn_ k208 (l205 ++ [(⟨(nth l143 (((nth x0.ends k208 Tip.zero).state).toNat) (0 : Int)), (nth x0.ends k208 Tip.zero).out⟩ : Tip)]))) (Dn_ k208 l205))) (fin (iter (fun q : (List Arc) × Nat => Bv_ x0 l143 k145 l166 l205 q.1 q.2) (([] : List Arc), 0)))
noncomputable def Br_ (x0 : Fst) (l143 : List Int) (k145 : Nat) (l166 : List Tip) (k169 : Nat) : Option (((List Tip) × Nat) ⊕ (Fst × Int)) :=
 iteO (decide (((k169 : Nat) : Int) < ((x0.starts.length : Nat) : Int))) (grd (0 ≤ ((nth x0.starts k169 Tip.zero).state) ∧ ((nth x0.starts k169 Tip.zero).state) < (l143.length : Int)) (iteO (decide (0 ≤ (nth l143 (((nth x0.starts k169 Tip.zero).state).toNat) (0 : Int)))) (grd ((l166.length + [(⟨(nth l143 (((nth x0.starts k169 Tip.zero).state).toNat) (0 : Int)), (nth x0.starts k169 Tip.zero).out⟩ : Tip)].length) * 24 ≤ 140737488355328) (Do_ k169 (l166 ++ [(⟨(nth l143 (((nth x0.starts k169 Tip.zero).state).toNat) (0 : Int)), (nth x0.starts k169 Tip.zero).out⟩ : Tip)]))) (Do_ k169 l166))) (fin (iter (fun q : (List Tip) × Nat => Bu_ x0 l143 k145 l166 q.1 q.2) (([] : List Tip), 0)))
noncomputable def E3_ (x0 : Fst) (jz : Nat) (l143 : List Int) (k145 : Nat) : Option (Fst × Int) :=
 jsel jz (iter (fun q : (List Tip) × Nat => Br_ x0 l143 k145 q.1 q.2) (([] : List Tip), 0)) (fun _ => none)
noncomputable def Bs_ (x0 : Fst) (l117 : List Int) (k119 : Nat) : Option (((List Int) × Nat) ⊕ (Fst × Int)) :=
 iteO (decide (((k119 : Nat) : Int) < (((List.replicate x0.states.toNat (0 : Int)).length : Nat) : Int))) (grd (k119 < l117.length) (nxt ((l117.set k119 (-1)), (k119 + 1)))) (fin (bnd (D3_ x0) (fun v29 => bnd (Di_ (stepY (fun (q : (List Int) × Nat) (x : Int) => B8_ q.1 q.2 x)) (0, (l117, 0)) (⟨v29.1.states, v29.1.starts, v29.1.ends, v29.1.arcs⟩ : Fst) v29.2.1 v29.2.2) (fun zr4 => E3_ x0 zr4.1 zr4.2.1 zr4.2.2))))
noncomputable def D6_ (x0 : Fst) : Option (Fst × Int) :=
 bnd (C6_ x0) (fun v5 => iteO (decide (v5 ≠ 0)) (some ((⟨0, ([] : List Tip), ([] : List Tip), ([] : List Arc)⟩ : Fst), 1)) (grd (0 ≤ x0.states ∧ 8 * x0.states.toNat ≤ 281474976710656) (iter (fun q : (List Int) × Nat => Bs_ x0 q.1 q.2) ((List.replicate x0.states.toNat (0 : Int)), 0))))
def Gm_ (σ : Store) (r : Fst × Int) : Value → Store → List Res → Prop := fun v σ' H' =>
 ∃ (a1 : Option Addr), ∃ (c1 : Nat), ∃ (a2 : Option Addr), ∃ (c2 : Nat), ∃ (a3 : Option Addr), ∃ (c3 : Nat),  v = .tuple #[.agg #[.int .i64 r.1.states, .slice a1 r.1.starts.length c1, .slice a2 r.1.ends.length c2, .slice a3 r.1.arcs.length c3], .int .i64 r.2] ∧ RS σ' 2 encTip (.slice a1 r.1.starts.length c1) r.1.starts ∧ RS σ' 2 encTip (.slice a2 r.1.ends.length c2) r.1.ends ∧ RS σ' 8 encArc (.slice a3 r.1.arcs.length c3) r.1.arcs ∧ H' = []
theorem Fe_ {σ : Store} {x0 : Fst} {a0_0 : Option Addr} {c0_0 : Nat} {a0_1 : Option Addr} {c0_1 : Nat} {a0_2 : Option Addr} {c0_2 : Nat} (f0_0 : RS σ 2 encTip (.slice a0_0 x0.starts.length c0_0) x0.starts) (f0_1 : RS σ 2 encTip (.slice a0_1 x0.ends.length c0_1) x0.ends) (f0_2 : RS σ 8 encArc (.slice a0_2 x0.arcs.length c0_2) x0.arcs) {r : Fst × Int} (hh : D6_ x0 = some r) :
  Con Tryz.prog 11 #[.agg #[.int .i64 x0.states, .slice a0_0 x0.starts.length c0_0, .slice a0_1 x0.ends.length c0_1, .slice a0_2 x0.arcs.length c0_2]] σ [] (Gm_ σ r) := by
 dsimp only [D6_] at hh
 have f0_0b := f0_0.rv.big
 have f0_1b := f0_1.rv.big
 have f0_2b := f0_2.rv.big
 refine Con.mk (n := 136) Tryz.func11 z z z (fun w0 => ?_)
 refine TC.a (TL.op z (boxA z z z z (fun b101 => ?_)))
 refine TL.op z (OpOk.alloc z ze25 z z (fun b103 => ?_))
 refine TL.i z z (TL.en (TC.seq (TC.a (TL.w z (loadAll z ag25 sz25 z (i := 1) z z) ?_))))
 obtain ⟨v5, u5, hh⟩ := bnd_e hh
 refine TL.op z (callP (Dq_ (x0 := x0) f0_0 f0_1 f0_2 u5) z z pf24 z z z ?_)
 refine TL.w z (OpVal.neq z z z) (TL.en (TC.cD z hh (fun h105 hh => ?_) (fun h105 hh => ?_)))
 ·refine TC.a (TL.w z (buildL z pl25 ze25 z) (TL.op z (storeAll z sz25 z z z z z z ?_)))
  refine TL.i z z (TL.en (TC.rt 1 (S.r ?_)))
  obtain rfl := so hh
  exact ro [] z (RVs.agg ag25 sz25 z (i := 0) z z (RVs.tmp z RVs.nil)) ⟨none, 0, none, 0, none, 0, z, (RS.nilF _ encTip encTip_len), (RS.nilF _ encTip encTip_len), (RS.nilF _ encArc encArc_len), z⟩
 ·refine TC.skip (S.n (TC.a (TL.w z (fieldLoc z fo25_0 z) (TL.w z (loadLoc z ag3 z (i := 1) z z) ?_))))
  have u12 := grd_c hh
  replace hh := grd_t hh
  refine TL.op rfl (makeS2 (m := x0.states.toNat) (enc := Go.E.encI) (0 : Int) rfl underlying26 sz3 by3 ze3 rfl rfl (by show Value.int _ _ = _; rw [Int.toNat_of_nonneg u12.1]) (by show Value.int _ _ = _; rw [Int.toNat_of_nonneg u12.1]) (by omega) (by decide) Go.E.encI_len (by decide) rfl Go.E.encI_one (fun a106 c107 => ?_))
  refine TL.op z (OpOk.alloc z ze26 z z (fun b109 => ?_))
  refine TL.op z (storeSl z sz26 z z z z z ?_)
  refine TL.en (TC.seq (TC.a (TL.w z (loadLoc z ag26 z (i := 0) z z) (TL.w z (lenC z underlying26 z) (TL.i z z (TL.en (TC.block (TC.loopG (α := ((List Int) × Nat) × (Unit)) (rgs [(5, 1), (27, 7)]) (fun g => [(27, .int .i64 ((g.1.2 : Nat) : Int))]) (fun g => [Res.cells b101 #[.int .i64 x0.states, .slice a0_0 x0.starts.length c0_0, .slice a0_1 x0.ends.length c0_1, .slice a0_2 x0.arcs.length c0_2] 25, Res.cells b103 #[.int .i64 0, .slice none 0 0, .slice none 0 0, .slice none 0 0] 25, Res.cells b109 #[.slice a106 ((List.replicate x0.states.toNat (0 : Int)).length) c107] 26, Res.rowS 3 1 Go.E.encI (.slice a106 (List.replicate x0.states.toNat (0 : Int)).length c107) g.1.1]) (fun g => σ) (fun g => iter (fun q : (List Int) × Nat => Bs_ x0 q.1 q.2) g.1 = some r ∧ g.1.1.length = (List.replicate x0.states.toNat (0 : Int)).length) (fun g => rounds (fun q : (List Int) × Nat => Bs_ x0 q.1 q.2) g.1) (((List.replicate x0.states.toNat (0 : Int)), 0), ()) (Sub.f [1, 1, 2, 3] 4) z (by repeat (first | exact trivial | refine ⟨z, ?_⟩)) ⟨hh, z⟩ (fun g1 j1 hg1 => ?_)))))))))
  obtain ⟨⟨l117, k119⟩, _⟩ := g1
  obtain ⟨hh, hn118⟩ := hg1
  try dsimp only at hn118 ⊢
  obtain ⟨z1, hh, hR1⟩ := iter_e hh
  dsimp only [Bs_] at hh
  have hn118b := hn118
  refine TC.isSl (i := 3) z (fun _ hb120 _ => ?_)
  refine TC.a (TL.w z (OpVal.lss z z z) (TL.en (TC.seq (TC.cD z hh (fun h121 hh => ?_) (fun h121 hh => ?_)))))
  ·refine TC.skip (S.n (TC.seq (TC.block (TC.a (TL.i z z (TL.i z z (TL.en (TC.region (TL.w z (loadLoc z ag26 z (i := 2) z z) (TL.i z z ?_))))))))))
   have u23 := grd_c hh
   replace hh := grd_t hh
   refine TL.isSl (i := 3) z (fun hs122 _ _ => ?_)
   refine TL.w z (indexN z underlying26 sz3 z z hs122 (by omega)) (TL.front 3 z z ?_)
   have hn123 : (l117.set k119 (-1)).length = (List.replicate x0.states.toNat (0 : Int)).length := by rw [List.length_set]; exact hn118
   refine TL.op z (storeS (-1) z sz3 z z z z Go.E.encI_len Go.E.encI_one (by omega) (by omega) ?_)
   refine TL.nil (B.n (S.n (TC.region (TL.w z (OpVal.succ z z z (by omega)) (TL.i z z (TL.en ?_))))))
   obtain ⟨hh, hlt124⟩ := nxt_x hR1 hh
   exact lf (((l117.set k119 (-1)), (k119 + 1)), ()) hlt124 ⟨hh, hn123⟩ (Sub.f [3, 3, 3] 4)
  ·refine TC.exit (S.x (S.x ?_))
   replace hh := fin_x hR1 hh
   refine TC.exitHere (S.n (TC.a (TL.op z (OpOk.alloc z ze25 z z (fun b125 => ?_)))))
   refine TL.en (TC.seq (TC.a (TL.w z (loadAll z ag25 sz25 z (i := 1) z z) ?_)))
   obtain ⟨v29, u29, hh⟩ := bnd_e hh
   refine TL.op z (OpOk.call (F2_ f0_0 f0_1 f0_2 u29) z z pf37 z z z z ?_)
   rintro _ τ127 _ hle127 ⟨b127_10, a127_1, c127_2, a127_4, c127_5, a127_7, c127_8, b127_14, a127_11, c127_12, b127_18, a127_15, c127_16, rfl, f127_3, f127_6, f127_9, f127_13, f127_17, rfl⟩
   replace f0_0 := f0_0.mono hle127
   replace f0_1 := f0_1.mono hle127
   replace f0_2 := f0_2.mono hle127
   have f127_3b := f127_3.rv.big
   have f127_6b := f127_6.rv.big
   have f127_9b := f127_9.rv.big
   have f127_13b := f127_13.big
   have f127_17b := f127_17.big
   refine TL.en (TC.block (TC.ofSub (Sub.f [2, 2, 2, 3, 7, 7, 7, 7] 8) ?_))
   obtain ⟨zr4, hz4, hh⟩ := bnd_e hh
   obtain ⟨jz4, ⟨l143, k145⟩⟩ := zr4
   dsimp only at hh
   refine TC.rangeG (A := (fun (x : Int) _ vs => vs = [.int .i64 x])) [] (fun (q : (List Int) × Nat) (x : Int) => B8_ q.1 q.2 x) (fun (q : (List Int) × Nat) (τ146 : Store) Hs => Hs = [Res.cells b101 #[.int .i64 x0.states, .slice a0_0 x0.starts.length c0_0, .slice a0_1 x0.ends.length c0_1, .slice a0_2 x0.arcs.length c0_2] 25, Res.cells b103 #[.int .i64 0, .slice none 0 0, .slice none 0 0, .slice none 0 0] 25, Res.cells b109 #[.slice a106 ((List.replicate x0.states.toNat (0 : Int)).length) c107] 26, Res.rowS 3 1 Go.E.encI (.slice a106 (List.replicate x0.states.toNat (0 : Int)).length c107) q.1, Res.cells b125 #[.int .i64 ((q.2 : Nat) : Int), .slice none 0 0, .slice none 0 0, .slice none 0 0] 25] ∧ q.1.length = (List.replicate x0.states.toNat (0 : Int)).length) (s := (l117, 0)) rfl pf59 rfl rfl (by rintro _ _ _ _ ⟨rfl, hn144⟩ hle_; exact ⟨rfl, hn144⟩) ⟨rfl, hn118⟩ (fun _ _ _ h_ => by subst h_; rfl) (Ft_ f127_3 f127_6 f127_9 f127_13 f127_17 hz4) ?_ ?_
   ·clear hh hz4
    rintro l_ _ _ _ τ146 ⟨l143, k145⟩ y4_0 z4 _ _ hh hle147 rfl ⟨rfl, hn144⟩
    dsimp only [B8_] at hh
    replace f0_0 := f0_0.mono hle147
    replace f0_1 := f0_1.mono hle147
    replace f0_2 := f0_2.mono hle147
    have hn144b := hn144
    show TC _ _ _ (upds _ [(36, .int .i64 y4_0)]) τ146 [Res.cells b101 #[.int .i64 x0.states, .slice a0_0 x0.starts.length c0_0, .slice a0_1 x0.ends.length c0_1, .slice a0_2 x0.arcs.length c0_2] 25, Res.cells b103 #[.int .i64 0, .slice none 0 0, .slice none 0 0, .slice none 0 0] 25, Res.cells b109 #[.slice a106 ((List.replicate x0.states.toNat (0 : Int)).length) c107] 26, Res.rowS 3 1 Go.E.encI (.slice a106 (List.replicate x0.states.toNat (0 : Int)).length c107) l143, Res.cells b125 #[.int .i64 ((k145 : Nat) : Int), .slice none 0 0, .slice none 0 0, .slice none 0 0] 25]
    refine TC.isSl (i := 3) z (fun _ hb148 _ => ?_)
    refine TC.region (TL.i z z (TL.nil (asg_n (fun _ _ _ => ?_))))
    refine TC.block (TC.a (TL.w z (loadLoc z ag26 z (i := 2) z z) (TL.i z z (TL.w z (fieldLoc z fo25_0 z) (TL.w z (loadLoc z ag3 z (i := 4) z z) ?_)))))
    have u35 := grd_c hh
    replace hh := grd_t hh
    refine TL.isSl (i := 3) z (fun hs149 _ _ => ?_)
    refine TL.w z (OpVal.index z underlying26 sz3 z z hs149 u35.1 u35.2) (TL.front 3 z z ?_)
    have hn150 : (l143.set y4_0.toNat ((k145 : Nat) : Int)).length = (List.replicate x0.states.toNat (0 : Int)).length := by rw [List.length_set]; exact hn144
    refine TL.op z (storeS ((k145 : Nat) : Int) z sz3 z z z z Go.E.encI_len Go.E.encI_one (by omega) (by omega) ?_)
    refine TL.en (TC.region (TL.w z (fieldLoc z fo25_0 z) (TL.w z (loadLoc z ag3 z (i := 4) z z) ?_)))
    have u39 := grd_c hh
    replace hh := grd_t hh
    refine TL.w z (OpVal.succ z z z (by omega)) (TL.w z (fieldLoc z fo25_0 z) (TL.front 4 z z (TL.op z (storeI z sz3 z z z z z ?_))))
    refine TL.nil (B.n ?_)
    obtain rfl := so hh
    exact rnd_n ⟨z, _, Sub.f [1, 4, 4, 4] 5, ⟨z, hn150⟩⟩
   ·rintro τ146 _ _ hle147 ⟨rfl, hn144⟩ ⟨rfl⟩
    replace f0_0 := f0_0.mono hle147
    replace f0_1 := f0_1.mono hle147
    replace f0_2 := f0_2.mono hle147
    have hn144b := hn144
    dsimp only [E3_] at hh
    show jmpQ _ _ _ _ _ τ146 [Res.cells b101 #[.int .i64 x0.states, .slice a0_0 x0.starts.length c0_0, .slice a0_1 x0.ends.length c0_1, .slice a0_2 x0.arcs.length c0_2] 25, Res.cells b103 #[.int .i64 0, .slice none 0 0, .slice none 0 0, .slice none 0 0] 25, Res.cells b109 #[.slice a106 ((List.replicate x0.states.toNat (0 : Int)).length) c107] 26, Res.rowS 3 1 Go.E.encI (.slice a106 (List.replicate x0.states.toNat (0 : Int)).length c107) l143, Res.cells b125 #[.int .i64 ((k145 : Nat) : Int), .slice none 0 0, .slice none 0 0, .slice none 0 0] 25, Res.cells b127_10 #[.int .i64 v29.1.states, .slice a127_1 v29.1.starts.length c127_2, .slice a127_4 v29.1.ends.length c127_5, .slice a127_7 v29.1.arcs.length c127_8] 25, Res.cells b127_14 #[.slice a127_11 v29.2.1.length c127_12] 27, Res.cells b127_18 #[.slice a127_15 v29.2.2.length c127_16] 27]
    refine jmp_split hh ?_ ?_ <;> clear hh
    ·intro hh
     refine B.n (S.n (TC.seq (TC.a (TL.w z (fieldLoc z fo25_1 z) (TL.w z (loadLoc z ag22 z (i := 0) z z) (TL.w z (lenC z underlying22 z) (TL.i z z (TL.en (TC.block (TC.nilS 41 2 encTip (TC.loopG (α := ((List Tip) × Nat) × ((Option Addr) × Nat)) (rgs [(9, 2), (49, 21)]) (fun g => [(49, .int .i64 ((g.1.2 : Nat) : Int))]) (fun g => [Res.cells b101 #[.int .i64 x0.states, .slice a0_0 x0.starts.length c0_0, .slice a0_1 x0.ends.length c0_1, .slice a0_2 x0.arcs.length c0_2] 25, Res.cells b103 #[.int .i64 0, .slice none 0 0, .slice none 0 0, .slice none 0 0] 25, Res.cells b109 #[.slice a106 ((List.replicate x0.states.toNat (0 : Int)).length) c107] 26, Res.rowS 3 1 Go.E.encI (.slice a106 (List.replicate x0.states.toNat (0 : Int)).length c107) l143, Res.cells b125 #[.int .i64 ((k145 : Nat) : Int), .slice g.2.1 g.1.1.length g.2.2, .slice none 0 0, .slice none 0 0] 25, Res.rowS 41 2 encTip (.slice g.2.1 g.1.1.length g.2.2) g.1.1]) (fun g => τ146) (fun g => iter (fun q : (List Tip) × Nat => Br_ x0 l143 k145 q.1 q.2) g.1 = some r ∧ l143.length = (List.replicate x0.states.toNat (0 : Int)).length) (fun g => rounds (fun q : (List Tip) × Nat => Br_ x0 l143 k145 q.1 q.2) g.1) ((([] : List Tip), 0), (none, 0)) (Sub.f [5, 5, 5, 5, 5] 6) z (by repeat (first | exact trivial | refine ⟨z, ?_⟩)) ⟨hh, hn144⟩ (fun g2 j2 hg2 => ?_))))))))))))
     obtain ⟨⟨l166, k169⟩, ⟨a167, c168⟩⟩ := g2
     obtain ⟨hh, hn164⟩ := hg2
     try dsimp only at hn164 ⊢
     obtain ⟨z1, hh, hR1⟩ := iter_e hh
     dsimp only [Br_] at hh
     have hn164b := hn164
     refine TC.isSl (i := 3) z (fun _ hb171 _ => ?_)
     refine TC.isSl (i := 5) z (fun _ hb172 _ => ?_)
     refine TC.a (TL.w z (OpVal.lss z z z) (TL.en (TC.seq (TC.cD z hh (fun h173 hh => ?_) (fun h173 hh => ?_)))))
     ·refine TC.skip (S.n (TC.cutG (α := ((List Tip)) × ((Option Addr) × Nat)) (rgs [(9, 2), (51, 18)]) (fun g => []) (fun g => [Res.cells b101 #[.int .i64 x0.states, .slice a0_0 x0.starts.length c0_0, .slice a0_1 x0.ends.length c0_1, .slice a0_2 x0.arcs.length c0_2] 25, Res.cells b103 #[.int .i64 0, .slice none 0 0, .slice none 0 0, .slice none 0 0] 25, Res.cells b109 #[.slice a106 ((List.replicate x0.states.toNat (0 : Int)).length) c107] 26, Res.rowS 3 1 Go.E.encI (.slice a106 (List.replicate x0.states.toNat (0 : Int)).length c107) l143, Res.cells b125 #[.int .i64 ((k145 : Nat) : Int), .slice g.2.1 g.1.length g.2.2, .slice none 0 0, .slice none 0 0] 25, Res.rowS 41 2 encTip (.slice g.2.1 g.1.length g.2.2) g.1]) (fun g => τ146) (fun g => Do_ k169 g.1 = some z1 ∧ l143.length = (List.replicate x0.states.toNat (0 : Int)).length) ?_ (fun g j hg => ?_)))
      ·skip
       refine TC.block (TC.a (TL.w z (indexN z underlying22 sz41 z z f0_0.rv.sl (by omega)) (TL.w z (loadSA Tip.zero z ag41 sz41 z f0_0 (by omega) (by omega)) (TL.op z (OpOk.alloc z ze41 z z (fun b178 => ?_))))))
       refine TL.op z (storeAll z sz41 z z z z z z ?_)
       refine TL.en (TC.a (TL.w z (loadLoc z ag26 z (i := 3) z z) (TL.w z (fieldLoc z fo41_0 z) (TL.w z (loadLoc z ag3 z (i := 0) z z) ?_))))
       have u54 := grd_c hh
       replace hh := grd_t hh
       refine TL.isSl (i := 4) z (fun hs180 _ _ => ?_)
       refine TL.w z (OpVal.index z underlying26 sz3 z z hs180 u54.1 u54.2) (TL.w z (loadO1 (0 : Int) z ag3 z (q := 4) z Go.E.encI_len (by omega) z) (TL.i z z (TL.en (TC.a (TL.i z z (TL.w z (OpVal.geq z z z) (TL.en (TC.cD z hh (fun h181 hh => ?_) (fun h181 hh => ?_)))))))))
       ·refine TC.region (TL.w z (fieldLoc z fo25_1 z) (TL.w z (loadLoc z ag22 z (i := 5) z z) (TL.i z z (TL.w z (fieldLoc z fo41_1 z) (TL.w z (loadLoc z ag9 z (i := 0) z z) (TL.w z (buildL z pl41 ze41 z) (TL.op z (OpOk.lit (enc := encTip) [(⟨(nth l143 (((nth x0.starts k169 Tip.zero).state).toNat) (0 : Int)), (nth x0.starts k169 Tip.zero).out⟩ : Tip)] z underlying22 sz41 ze41 z z z encTip_len (by decide) (by decide) Tip.zero z (by decide) z (by decide) encTip_one (fun a182 c183 => ?_)))))))))
        refine TL.front 7 z z ?_
        have u66 := grd_c hh
        replace hh := grd_t hh
        refine TL.op z (appendS z z underlying22 sz41 by41 ze41 z z (by decide) z z z (.inr ⟨_, 0, z⟩) (by simpa using u66) (by decide) (fun a185 c186 => ?_))
        refine TL.w z (fieldLoc z fo25_1 z) (TL.front 7 z z (TL.op z (storeSl z sz22 z z z z z ?_)))
        exact TL.nil (B.n (S.n (cf ((l166 ++ [(⟨(nth l143 (((nth x0.starts k169 Tip.zero).state).toNat) (0 : Int)), (nth x0.starts k169 Tip.zero).out⟩ : Tip)]), (a185, c186)) ⟨hh, hn164⟩ (Sub.f [1, 1, 7, 7, 7, 7] 6))))
       ·exact TC.skip (B.n (S.n (cf (l166, (a167, c168)) ⟨hh, hn164⟩ (Sub.f [6, 6, 6, 6, 6, 6] 6))))
      ·skip
       obtain ⟨l175, ⟨a176, c177⟩⟩ := g
       obtain ⟨hh, hn174⟩ := hg
       try dsimp only at hn174 ⊢
       dsimp only [Do_] at hh
       have hn174b := hn174
       refine TC.isSl (i := 3) z (fun _ hb187 _ => ?_)
       refine TC.isSl (i := 5) z (fun _ hb188 _ => ?_)
       refine TC.region (TL.w z (OpVal.succ z z z (by omega)) (TL.i z z (TL.en ?_)))
       obtain ⟨hh, hlt189⟩ := nxt_x hR1 hh
       exact lf ((l175, (k169 + 1)), (a176, c177)) hlt189 ⟨hh, hn174⟩ (Sub.f [5, 5, 5, 5, 5, 5] 6)
     ·refine TC.exit (S.x (S.x ?_))
      replace hh := fin_x hR1 hh
      refine TC.exitHere (S.n (TC.seq (TC.a (TL.w z (fieldLoc z fo25_2 z) (TL.w z (loadLoc z ag22 z (i := 0) z z) (TL.w z (lenC z underlying22 z) (TL.i z z (TL.en (TC.block (TC.nilS 41 2 encTip (TC.loopG (α := ((List Tip) × Nat) × ((Option Addr) × Nat)) (rgs [(12, 2), (73, 21)]) (fun g => [(73, .int .i64 ((g.1.2 : Nat) : Int))]) (fun g => [Res.cells b101 #[.int .i64 x0.states, .slice a0_0 x0.starts.length c0_0, .slice a0_1 x0.ends.length c0_1, .slice a0_2 x0.arcs.length c0_2] 25, Res.cells b103 #[.int .i64 0, .slice none 0 0, .slice none 0 0, .slice none 0 0] 25, Res.cells b109 #[.slice a106 ((List.replicate x0.states.toNat (0 : Int)).length) c107] 26, Res.rowS 3 1 Go.E.encI (.slice a106 (List.replicate x0.states.toNat (0 : Int)).length c107) l143, Res.cells b125 #[.int .i64 ((k145 : Nat) : Int), .slice a167 l166.length c168, .slice g.2.1 g.1.1.length g.2.2, .slice none 0 0] 25, Res.rowS 41 2 encTip (.slice a167 l166.length c168) l166, Res.rowS 41 2 encTip (.slice g.2.1 g.1.1.length g.2.2) g.1.1]) (fun g => τ146) (fun g => iter (fun q : (List Tip) × Nat => Bu_ x0 l143 k145 l166 q.1 q.2) g.1 = some r ∧ l143.length = (List.replicate x0.states.toNat (0 : Int)).length) (fun g => rounds (fun q : (List Tip) × Nat => Bu_ x0 l143 k145 l166 q.1 q.2) g.1) ((([] : List Tip), 0), (none, 0)) (Sub.f [6, 6, 6, 6, 6, 6] 7) z (by repeat (first | exact trivial | refine ⟨z, ?_⟩)) ⟨hh, hn164⟩ (fun g3 j3 hg3 => ?_))))))))))))
      obtain ⟨⟨l205, k208⟩, ⟨a206, c207⟩⟩ := g3
      obtain ⟨hh, hn203⟩ := hg3
      try dsimp only at hn203 ⊢
      obtain ⟨z1, hh, hR1⟩ := iter_e hh
      dsimp only [Bu_] at hh
      have hn203b := hn203
      refine TC.isSl (i := 3) z (fun _ hb210 _ => ?_)
      refine TC.isSl (i := 5) z (fun _ hb211 _ => ?_)
      refine TC.isSl (i := 6) z (fun _ hb212 _ => ?_)
      refine TC.a (TL.w z (OpVal.lss z z z) (TL.en (TC.seq (TC.cD z hh (fun h213 hh => ?_) (fun h213 hh => ?_)))))
      ·refine TC.skip (S.n (TC.cutG (α := ((List Tip)) × ((Option Addr) × Nat)) (rgs [(12, 2), (75, 18)]) (fun g => []) (fun g => [Res.cells b101 #[.int .i64 x0.states, .slice a0_0 x0.starts.length c0_0, .slice a0_1 x0.ends.length c0_1, .slice a0_2 x0.arcs.length c0_2] 25, Res.cells b103 #[.int .i64 0, .slice none 0 0, .slice none 0 0, .slice none 0 0] 25, Res.cells b109 #[.slice a106 ((List.replicate x0.states.toNat (0 : Int)).length) c107] 26, Res.rowS 3 1 Go.E.encI (.slice a106 (List.replicate x0.states.toNat (0 : Int)).length c107) l143, Res.cells b125 #[.int .i64 ((k145 : Nat) : Int), .slice a167 l166.length c168, .slice g.2.1 g.1.length g.2.2, .slice none 0 0] 25, Res.rowS 41 2 encTip (.slice a167 l166.length c168) l166, Res.rowS 41 2 encTip (.slice g.2.1 g.1.length g.2.2) g.1]) (fun g => τ146) (fun g => Dn_ k208 g.1 = some z1 ∧ l143.length = (List.replicate x0.states.toNat (0 : Int)).length) ?_ (fun g j hg => ?_)))
       ·skip
        refine TC.block (TC.a (TL.w z (indexN z underlying22 sz41 z z f0_1.rv.sl (by omega)) (TL.w z (loadSA Tip.zero z ag41 sz41 z f0_1 (by omega) (by omega)) (TL.op z (OpOk.alloc z ze41 z z (fun b218 => ?_))))))
        refine TL.op z (storeAll z sz41 z z z z z z ?_)
        refine TL.en (TC.a (TL.w z (loadLoc z ag26 z (i := 3) z z) (TL.w z (fieldLoc z fo41_0 z) (TL.w z (loadLoc z ag3 z (i := 0) z z) ?_))))
        have u83 := grd_c hh
        replace hh := grd_t hh
        refine TL.isSl (i := 4) z (fun hs220 _ _ => ?_)
        refine TL.w z (OpVal.index z underlying26 sz3 z z hs220 u83.1 u83.2) (TL.w z (loadO1 (0 : Int) z ag3 z (q := 4) z Go.E.encI_len (by omega) z) (TL.i z z (TL.en (TC.a (TL.i z z (TL.w z (OpVal.geq z z z) (TL.en (TC.cD z hh (fun h221 hh => ?_) (fun h221 hh => ?_)))))))))
        ·refine TC.region (TL.w z (fieldLoc z fo25_2 z) (TL.w z (loadLoc z ag22 z (i := 5) z z) (TL.i z z (TL.w z (fieldLoc z fo41_1 z) (TL.w z (loadLoc z ag9 z (i := 0) z z) (TL.w z (buildL z pl41 ze41 z) (TL.op z (OpOk.lit (enc := encTip) [(⟨(nth l143 (((nth x0.ends k208 Tip.zero).state).toNat) (0 : Int)), (nth x0.ends k208 Tip.zero).out⟩ : Tip)] z underlying22 sz41 ze41 z z z encTip_len (by decide) (by decide) Tip.zero z (by decide) z (by decide) encTip_one (fun a222 c223 => ?_)))))))))
         refine TL.front 8 z z ?_
         have u95 := grd_c hh
         replace hh := grd_t hh
         refine TL.op z (appendS z z underlying22 sz41 by41 ze41 z z (by decide) z z z (.inr ⟨_, 0, z⟩) (by simpa using u95) (by decide) (fun a225 c226 => ?_))
         refine TL.w z (fieldLoc z fo25_2 z) (TL.front 7 z z (TL.op z (storeSl z sz22 z z z z z ?_)))
         exact TL.nil (B.n (S.n (cf ((l205 ++ [(⟨(nth l143 (((nth x0.ends k208 Tip.zero).state).toNat) (0 : Int)), (nth x0.ends k208 Tip.zero).out⟩ : Tip)]), (a225, c226)) ⟨hh, hn203⟩ (Sub.f [1, 8, 2, 8, 8, 8, 8] 7))))
        ·exact TC.skip (B.n (S.n (cf (l205, (a206, c207)) ⟨hh, hn203⟩ (Sub.f [7, 7, 7, 7, 7, 7, 7] 7))))
       ·skip
        obtain ⟨l215, ⟨a216, c217⟩⟩ := g
        obtain ⟨hh, hn214⟩ := hg
        try dsimp only at hn214 ⊢
        dsimp only [Dn_] at hh
        have hn214b := hn214
        refine TC.isSl (i := 3) z (fun _ hb227 _ => ?_)
        refine TC.isSl (i := 5) z (fun _ hb228 _ => ?_)
        refine TC.isSl (i := 6) z (fun _ hb229 _ => ?_)
        refine TC.region (TL.w z (OpVal.succ z z z (by omega)) (TL.i z z (TL.en ?_)))
        obtain ⟨hh, hlt230⟩ := nxt_x hR1 hh
        exact lf ((l215, (k208 + 1)), (a216, c217)) hlt230 ⟨hh, hn214⟩ (Sub.f [6, 6, 6, 6, 6, 6, 6] 7)
      ·refine TC.exit (S.x (S.x ?_))
       replace hh := fin_x hR1 hh
       refine TC.exitHere (S.n (TC.seq (TC.a (TL.w z (fieldLoc z fo25_3 z) (TL.w z (loadLoc z ag23 z (i := 0) z z) (TL.w z (lenC z underlying23 z) (TL.i z z (TL.en (TC.block (TC.nilS 59 8 encArc (TC.loopG (α := ((List Arc) × Nat) × ((Option Addr) × Nat)) (rgs [(15, 3), (97, 35)]) (fun g => [(97, .int .i64 ((g.1.2 : Nat) : Int))]) (fun g => [Res.cells b103 #[.int .i64 0, .slice none 0 0, .slice none 0 0, .slice none 0 0] 25, Res.cells b109 #[.slice a106 ((List.replicate x0.states.toNat (0 : Int)).length) c107] 26, Res.rowS 3 1 Go.E.encI (.slice a106 (List.replicate x0.states.toNat (0 : Int)).length c107) l143, Res.cells b125 #[.int .i64 ((k145 : Nat) : Int), .slice a167 l166.length c168, .slice a206 l205.length c207, .slice g.2.1 g.1.1.length g.2.2] 25, Res.rowS 41 2 encTip (.slice a167 l166.length c168) l166, Res.rowS 41 2 encTip (.slice a206 l205.length c207) l205, Res.rowS 59 8 encArc (.slice g.2.1 g.1.1.length g.2.2) g.1.1]) (fun g => τ146) (fun g => iter (fun q : (List Arc) × Nat => Bv_ x0 l143 k145 l166 l205 q.1 q.2) g.1 = some r ∧ l143.length = (List.replicate x0.states.toNat (0 : Int)).length) (fun g => rounds (fun q : (List Arc) × Nat => Bv_ x0 l143 k145 l166 l205 q.1 q.2) g.1) ((([] : List Arc), 0), (none, 0)) (Sub.f [7, 7, 7, 7, 7, 7] 7) z (by repeat (first | exact trivial | refine ⟨z, ?_⟩)) ⟨hh, hn203⟩ (fun g4 j4 hg4 => ?_))))))))))))
       obtain ⟨⟨l246, k249⟩, ⟨a247, c248⟩⟩ := g4
       obtain ⟨hh, hn244⟩ := hg4
       try dsimp only at hn244 ⊢
       obtain ⟨z1, hh, hR1⟩ := iter_e hh
       dsimp only [Bv_] at hh
       have hn244b := hn244
       refine TC.isSl (i := 2) z (fun _ hb251 _ => ?_)
       refine TC.isSl (i := 4) z (fun _ hb252 _ => ?_)
       refine TC.isSl (i := 5) z (fun _ hb253 _ => ?_)
       refine TC.isSl (i := 6) z (fun _ hb254 _ => ?_)
       refine TC.a (TL.w z (OpVal.lss z z z) (TL.en (TC.seq (TC.cD z hh (fun h255 hh => ?_) (fun h255 hh => ?_)))))
       ·refine TC.skip (S.n (TC.cutG (α := ((List Arc)) × ((Option Addr) × Nat)) (rgs [(15, 3), (99, 32)]) (fun g => []) (fun g => [Res.cells b103 #[.int .i64 0, .slice none 0 0, .slice none 0 0, .slice none 0 0] 25, Res.cells b109 #[.slice a106 ((List.replicate x0.states.toNat (0 : Int)).length) c107] 26, Res.rowS 3 1 Go.E.encI (.slice a106 (List.replicate x0.states.toNat (0 : Int)).length c107) l143, Res.cells b125 #[.int .i64 ((k145 : Nat) : Int), .slice a167 l166.length c168, .slice a206 l205.length c207, .slice g.2.1 g.1.length g.2.2] 25, Res.rowS 41 2 encTip (.slice a167 l166.length c168) l166, Res.rowS 41 2 encTip (.slice a206 l205.length c207) l205, Res.rowS 59 8 encArc (.slice g.2.1 g.1.length g.2.2) g.1]) (fun g => τ146) (fun g => Cz_ k249 g.1 = some z1 ∧ l143.length = (List.replicate x0.states.toNat (0 : Int)).length) ?_ (fun g j hg => ?_)))
        ·skip
         refine TC.block (TC.a (TL.w z (indexN z underlying23 sz59 z z f0_2.rv.sl (by omega)) (TL.w z (loadSA Arc.zero z ag59 sz59 z f0_2 (by omega) (by omega)) (TL.op z (OpOk.alloc z ze59 z z (fun b260 => ?_))))))
         refine TL.op z (storeAll z sz59 z z z z z z ?_)
         refine TL.en (TC.seq ?_)
         have u112 := grd_c hh
         replace hh := grd_t hh
         have u117 := grd_c hh
         replace hh := grd_t hh
         refine TC.draw [] (by kernel_rfl) (TA.b 0 z (loadLoc z ag26 z (i := 2) z z) z (TA.a 1 z (fieldLoc z fo59_0 z) z (TA.b 2 z (loadLoc z ag3 z (i := 0) z z) z (TA.isSl (i := 3) z (fun hs264 _ _ => ?_)))))
         refine TA.b 3 z (OpVal.index z underlying26 sz3 z z hs264 u112.1 u112.2) z (TA.b 4 z (loadO1 (0 : Int) z ag3 z (q := 3) z Go.E.encI_len (by omega) z) z (TA.b 5 z (loadLoc z ag26 z (i := 2) z z) z (TA.a 6 z (fieldLoc z fo59_1 z) z (TA.b 7 z (loadLoc z ag3 z (i := 0) z z) z (TA.isSl (i := 3) z (fun hs265 _ _ => ?_))))))
         refine TA.b 8 z (OpVal.index z underlying26 sz3 z z hs265 u117.1 u117.2) z (TA.b 9 z (loadO1 (0 : Int) z ag3 z (q := 3) z Go.E.encI_len (by omega) z) z (TA.a 10 z (moveI (.inr z) z) z (TA.a 11 z (moveI (.inr z) z) z (TA.dn (S.n (TC.a (TL.i z z (TL.w z (OpVal.geq z z z) (TL.j z z (TL.split 113 z (fun h266 => ?_) (fun h266 => ?_)))))))))))
         ·replace hh := iteO_t h266 hh
          replace h266 := of_decide_eq_true h266
          refine TL.g z (moveI (.inl z) z) (TL.g z (OpVal.geq z z z) (TL.w z (pickTB z z z) (TL.en (TC.cD z hh (fun h267 hh => ?_) (fun h267 hh => ?_)))))
          ·refine TC.region (TL.w z (fieldLoc z fo25_3 z) (TL.w z (loadLoc z ag23 z (i := 4) z z) (TL.i z z (TL.i z z (TL.w z (fieldLoc z fo59_2 z) (TL.w z (loadLocA z ag57 sz57 z (i := 0) z z z) (TL.w z (fieldLoc z fo59_3 z) (TL.w z (loadLoc z ag9 z (i := 0) z z) (TL.w z (fieldLoc z fo59_4 z) (TL.w z (loadLoc z ag4 z (i := 0) z z) (TL.w z (buildL z pl59 ze59 z) (TL.op z (OpOk.lit (enc := encArc) [(⟨(nth l143 (((nth x0.arcs k249 Arc.zero).frm).toNat) (0 : Int)), (nth l143 (((nth x0.arcs k249 Arc.zero).to).toNat) (0 : Int)), (nth x0.arcs k249 Arc.zero).set, (nth x0.arcs k249 Arc.zero).out, (nth x0.arcs k249 Arc.zero).copy⟩ : Arc)] z underlying23 sz59 ze59 z z z encArc_len (by decide) (by decide) Arc.zero z (by decide) z (by decide) encArc_one (fun a268 c269 => ?_))))))))))))))
           refine TL.front 8 z z ?_
           have u139 := grd_c hh
           replace hh := grd_t hh
           refine TL.op z (appendS z z underlying23 sz59 by59 ze59 z z (by decide) z z z (.inr ⟨_, 0, z⟩) (by simpa using u139) (by decide) (fun a271 c272 => ?_))
           refine TL.w z (fieldLoc z fo25_3 z) (TL.front 6 z z (TL.op z (storeSl z sz23 z z z z z ?_)))
           exact TL.nil (B.n (S.n (cf ((l246 ++ [(⟨(nth l143 (((nth x0.arcs k249 Arc.zero).frm).toNat) (0 : Int)), (nth l143 (((nth x0.arcs k249 Arc.zero).to).toNat) (0 : Int)), (nth x0.arcs k249 Arc.zero).set, (nth x0.arcs k249 Arc.zero).out, (nth x0.arcs k249 Arc.zero).copy⟩ : Arc)]), (a271, c272)) ⟨hh, hn244⟩ (Sub.f [1, 8, 8, 3, 8, 8, 8] 7))))
          ·exact TC.skip (B.n (S.n (cf (l246, (a247, c248)) ⟨hh, hn244⟩ (Sub.f [7, 7, 7, 7, 7, 7, 7] 7))))
         ·replace hh := iteO_f h266 hh
          replace h266 := of_decide_eq_false h266
          exact TL.f z (TL.f z (TL.w z (pickFB z z z) (TL.en (TC.f z (TC.skip (B.n (S.n (cf (l246, (a247, c248)) ⟨hh, hn244⟩ (Sub.f [7, 7, 7, 7, 7, 7, 7] 7)))))))))
        ·skip
         obtain ⟨l257, ⟨a258, c259⟩⟩ := g
         obtain ⟨hh, hn256⟩ := hg
         try dsimp only at hn256 ⊢
         dsimp only [Cz_] at hh
         have hn256b := hn256
         refine TC.isSl (i := 2) z (fun _ hb273 _ => ?_)
         refine TC.isSl (i := 4) z (fun _ hb274 _ => ?_)
         refine TC.isSl (i := 5) z (fun _ hb275 _ => ?_)
         refine TC.isSl (i := 6) z (fun _ hb276 _ => ?_)
         refine TC.region (TL.w z (OpVal.succ z z z (by omega)) (TL.i z z (TL.en ?_)))
         obtain ⟨hh, hlt277⟩ := nxt_x hR1 hh
         exact lf ((l257, (k249 + 1)), (a258, c259)) hlt277 ⟨hh, hn256⟩ (Sub.f [6, 6, 6, 6, 6, 6, 6] 7)
       ·refine TC.exit (S.x (S.x ?_))
        replace hh := fin_x hR1 hh
        refine TC.exitHere (S.n (TC.a (TL.w z (loadAll z ag25 sz25 z (i := 3) z z) (TL.front 4 z z (TL.sealS encTip_len (fun τ280 hle279 hr278 => ?_))))))
        have hr278b := hr278.rv.big
        refine TL.front 4 z z (TL.sealS encTip_len (fun τ283 hle282 hr281 => ?_))
        replace hr278 := hr278.mono hle282
        have hr281b := hr281.rv.big
        refine TL.front 4 z z (TL.sealS encArc_len (fun τ286 hle285 hr284 => ?_))
        replace hr278 := hr278.mono hle285
        replace hr281 := hr281.mono hle285
        have hr284b := hr284.rv.big
        obtain ⟨v145, u145, hh⟩ := bnd_e hh
        refine TL.op z (OpOk.call (Gh_ (x0 := (⟨((k145 : Nat) : Int), l166, l205, l246⟩ : Fst)) hr278 hr281 hr284 u145) z z pf38 z z z z ?_)
        rintro _ τ287 _ hle287 ⟨a287_1, c287_1, a287_2, c287_2, a287_3, c287_3, rfl, hr287_0, hr287_1, hr287_2, rfl⟩
        have hr287_0b := hr287_0.rv.big
        have hr287_1b := hr287_1.rv.big
        have hr287_2b := hr287_2.rv.big
        refine TL.w z (OpVal.extract z z z) (TL.w z (OpVal.extract z z z) (TL.op z (storeAll z sz25 z z z z z z ?_)))
        refine TL.i z z (TL.en (TC.rt 1 ?_))
        obtain rfl := so hh
        exact ro [] z (RVs.agg ag25 sz25 z (i := 0) z z (RVs.tmp z RVs.nil)) ⟨a287_1, c287_1, a287_2, c287_2, a287_3, c287_3, z, hr287_0, hr287_1, hr287_2, z⟩
    ·intro m_ c_ hh hc_
     exact jl_nil hc_
end Go.Proofs.YtcaaiphgikpgjaaGreatDoor
end

section
namespace Go.E
open Go
structure TLag where
  p : Int
  q : Int
  a : List UInt8
  b : List UInt8
  deriving DecidableEq
def TLag.zero : TLag := ⟨0, 0, [], []⟩
structure Walk where
  t : Fst
  arcs : List (List Arc)
  most : Int
end Go.E
end

section
namespace Go.E
open Go
structure ReLeaf where
  kind : Int
  text : List UInt8
  set : BSet
  min : Int
  max : Int
  deriving DecidableEq
def ReLeaf.zero : ReLeaf := ⟨0, [], BSet.zero, 0, 0⟩
structure ReRoot where
  kind : Int
  text : List UInt8
  set : BSet
  parts : List ReLeaf
  min : Int
  max : Int
def ReRoot.zero : ReRoot := ⟨0, [], BSet.zero, [], 0, 0⟩
end Go.E
end

section
namespace Go.Proofs.YtcaaiphgikpgjaaGreatDoor
open Go Go.E Go.E.OpVal Go.E.OpOk Go.Proofs.Tryz
private theorem pf112 : Go.E.plainF Tryz.prog 112 = true := by kernel_rfl
noncomputable def Ch_ (x0 : List UInt8) (x1 : List UInt8) (k103 : Nat) : Option ((Nat) ⊕ (Int)) :=
 iteO (decide (((k103 : Nat) : Int) < (min ((x0.length : Nat) : Int) ((x1.length : Nat) : Int)))) (grd (k103 < x0.length) (grd (k103 < x1.length) (iteO (decide ((((nth x0 k103 (0 : UInt8)).toNat : Nat) : Int) ≠ (((nth x1 k103 (0 : UInt8)).toNat : Nat) : Int))) (fin (some ((k103 : Nat) : Int))) (nxt (k103 + 1))))) (fin (some (min ((x0.length : Nat) : Int) ((x1.length : Nat) : Int))))
noncomputable def Eh_ (x0 : List UInt8) (x1 : List UInt8) : Option (Int) :=
 grd (x0.length ≤ 281474976710656) (grd (x1.length ≤ 281474976710656) (iter (fun q : Nat => Ch_ x0 x1 q) 0))
theorem F4_ {σ : Store} {x0 : List UInt8} {x1 : List UInt8}  {r : Int} (hh : Eh_ x0 x1 = some r) :
  Con Tryz.prog 112 #[.string (bs x0), .string (bs x1)] σ [] (PureP (.int .i64 r) σ) := by
 dsimp only [Eh_] at hh
 refine Con.mk (n := 26) Tryz.func112 z z z (fun w0 => ?_)
 have x0b := grd_c hh
 replace hh := grd_t hh
 have x1b := grd_c hh
 replace hh := grd_t hh
 refine TC.a (TL.i z z (TL.en (TC.a (TL.w z (moveStr (.inl z) z) (TL.w z (lenBs z underlying9 z) (TL.w z (moveStr (.inl z) z) (TL.w z (lenBs z underlying9 z) (TL.w z (minI z z z) (TL.i z z (TL.en (TC.seq (TC.a (TL.i z z (TL.i z z (TL.en (TC.block (TC.loopG (α := (Nat) × (Unit)) (rgs [(4, 1), (6, 1), (13, 12)]) (fun g => [(13, .int .i64 ((g.1 : Nat) : Int))]) (fun g => []) (fun g => σ) (fun g => iter (fun q : Nat => Ch_ x0 x1 q) g.1 = some r) (fun g => rounds (fun q : Nat => Ch_ x0 x1 q) g.1) (0, ()) (Sub.pre 0 z) z (by repeat (first | exact trivial | refine ⟨z, ?_⟩)) hh (fun g1 j1 hg1 => ?_))))))))))))))))))
 obtain ⟨k103, _⟩ := g1
 have hh := hg1; clear hg1
 try dsimp only
 obtain ⟨z1, hh, hR1⟩ := iter_e hh
 dsimp only [Ch_] at hh
 refine TC.a (TL.w z (OpVal.lss z z z) (TL.en (TC.seq (TC.cD z hh (fun h104 hh => ?_) (fun h104 hh => ?_)))))
 ·refine TC.skip (S.n (TC.seq (TC.block (TC.a (TL.i z z (TL.i z z (TL.en (TC.seq ?_))))))))
  have u15 := grd_c hh
  replace hh := grd_t hh
  have u18 := grd_c hh
  replace hh := grd_t hh
  refine TC.draw [] (by kernel_rfl) (TA.a 0 z (moveStr (.inl z) z) z (TA.a 1 z (moveI (.inl z) z) z (TA.a 2 z (indexBs z underlying9 z z (by omega)) z (TA.a 3 z (moveStr (.inl z) z) z (TA.a 4 z (moveI (.inl z) z) z (TA.a 5 z (indexBs z underlying9 z z (by omega)) z (TA.a 6 z (OpVal.neq z z z) z (TA.dn (S.n (TC.cD z hh (fun h105 hh => ?_) (fun h105 hh => ?_)))))))))))
  ·refine TC.a (TL.i z z (TL.i z z (TL.en (TC.ret (B.r (S.r (S.r ?_)))))))
   replace hh := fin_x hR1 hh
   refine B.r (S.r ?_)
   obtain rfl := so hh
   exact rq [4] ⟨z, z, z⟩
  ·refine TC.skip (B.n (S.n (TC.region (TL.w z (OpVal.succ z z z (by omega)) (TL.i z z (TL.en ?_))))))
   obtain ⟨hh, hlt106⟩ := nxt_x hR1 hh
   exact lf ((k103 + 1), ()) hlt106 hh (Sub.pre 0 z)
 ·refine TC.exit (S.x (S.x ?_))
  replace hh := fin_x hR1 hh
  refine TC.exitHere (S.n (TC.a (TL.i z z (TL.i z z (TL.en (TC.ret ?_))))))
  obtain rfl := so hh
  exact rq [4] ⟨z, z, z⟩
noncomputable def En_ (x0 : List UInt8) (x1 : List UInt8) : Option ((List UInt8) × (List UInt8)) :=
 grd (x0.length ≤ 281474976710656) (grd (x1.length ≤ 281474976710656) (bnd (Eh_ x0 x1) (fun v5 => grd (0 ≤ v5 ∧ v5.toNat ≤ x0.length ∧ x0.length ≤ x0.length) (grd (0 ≤ v5 ∧ v5.toNat ≤ x1.length ∧ x1.length ≤ x1.length) (some ((x0.drop v5.toNat), (x1.drop v5.toNat)))))))
theorem Fs_ {σ : Store} {x0 : List UInt8} {x1 : List UInt8}  {r : (List UInt8) × (List UInt8)} (hh : En_ x0 x1 = some r) :
  Con Tryz.prog 75 #[.string (bs x0), .string (bs x1)] σ [] (PureP (.tuple #[.string (bs r.1), .string (bs r.2)]) σ) := by
 dsimp only [En_] at hh
 refine Con.mk (n := 16) Tryz.func75 z z z (fun w0 => ?_)
 have x0b := grd_c hh
 replace hh := grd_t hh
 have x1b := grd_c hh
 replace hh := grd_t hh
 refine TC.a (TL.w z (moveStr (.inr z) z) (TL.w z (moveStr (.inr z) z) (TL.en (TC.a (TL.w z (moveStr (.inl z) z) (TL.w z (moveStr (.inl z) z) ?_))))))
 obtain ⟨v5, u5, hh⟩ := bnd_e hh
 refine TL.op z (callP (F4_ u5) z z pf112 z z z ?_)
 refine TL.i z z (TL.en (TC.seq ?_))
 have u9 := grd_c hh
 replace hh := grd_t hh
 have u12 := grd_c hh
 replace hh := grd_t hh
 refine TC.draw [] (by kernel_rfl) (TA.a 0 z (moveStr (.inl z) z) z (TA.a 1 z (moveI (.inl z) z) z (TA.b 2 rfl (sliceBsL (l := x0) (i := v5.toNat) rfl underlying9 rfl (by show Value.int _ _ = _; rw [Int.toNat_of_nonneg (by omega)]) (by omega) (by omega)) rfl (TA.a 3 z (moveStr (.inl z) z) z (TA.a 4 z (moveI (.inl z) z) z (TA.b 5 rfl (sliceBsL (l := x1) (i := v5.toNat) rfl underlying9 rfl (by show Value.int _ _ = _; rw [Int.toNat_of_nonneg (by omega)]) (by omega) (by omega)) rfl (TA.a 6 z (moveStr (.inr z) z) z (TA.a 7 z (moveStr (.inr z) z) z (TA.dn (S.n (TC.ret ?_)))))))))))
 obtain rfl := so hh
 exact rq [4, 5] ⟨z, z, z⟩
noncomputable def A2_ (x1 : BSet) (z111 : BSet) (k112 : Nat) : Option ((BSet × Nat) ⊕ (BSet)) :=
 iteO (decide (((k112 : Nat) : Int) < 4)) (grd (k112 < 4) (grd (k112 < 4) (grd (k112 < 4) (grd ((u64and (BSet.word z111 k112) (BSet.word x1 k112)) < 18446744073709551616) (nxt ((BSet.setWord z111 k112 (u64and (BSet.word z111 k112) (BSet.word x1 k112))), (k112 + 1))))))) (fin (some z111))
noncomputable def Ct_ (x0 : BSet) (x1 : BSet) : Option (BSet) :=
 iter (fun q : BSet × Nat => A2_ x1 q.1 q.2) (x0, 0)
theorem E9_ {σ : Store} {x0 : BSet} {x1 : BSet}  {r : BSet} (hh : Ct_ x0 x1 = some r) :
  Con Tryz.prog 111 #[setV x0, setV x1] σ [] (PureP (setV r) σ) := by
 dsimp only [Ct_] at hh
 refine Con.mk (n := 19) Tryz.func111 z z z (fun w0 => ?_)
 refine TC.a (TL.op z (boxA z z z z (fun b101 => ?_)))
 refine TL.op z (boxA z z z z (fun b103 => ?_))
 refine TL.op z (OpOk.alloc z ze57 z z (fun b105 => ?_))
 refine TL.en (TC.seq (TC.a (TL.i z z (TL.en (TC.block (TC.loopG (α := (BSet × Nat) × (Unit)) (rgs [(5, 13)]) (fun g => [(6, .int .i64 ((g.1.2 : Nat) : Int))]) (fun g => [Res.cells b101 (setA g.1.1) 57, Res.cells b103 (setA x1) 57, Res.cells b105 (setA BSet.zero) 57]) (fun g => σ) (fun g => iter (fun q : BSet × Nat => A2_ x1 q.1 q.2) g.1 = some r) (fun g => rounds (fun q : BSet × Nat => A2_ x1 q.1 q.2) g.1) ((x0, 0), ()) (Sub.f [1, 2] 3) z (by repeat (first | exact trivial | refine ⟨z, ?_⟩)) hh (fun g1 j1 hg1 => ?_)))))))
 obtain ⟨⟨z111, k112⟩, _⟩ := g1
 have hh := hg1; clear hg1
 try dsimp only
 obtain ⟨z1, hh, hR1⟩ := iter_e hh
 dsimp only [A2_] at hh
 refine TC.a (TL.w z (OpVal.lss z z z) (TL.en (TC.seq (TC.cD z hh (fun h113 hh => ?_) (fun h113 hh => ?_)))))
 ·refine TC.skip (S.n (TC.seq (TC.block (TC.a (TL.i z z (TL.i z z (TL.en ?_)))))))
  have u9 := grd_c hh
  replace hh := grd_t hh
  have u12 := grd_c hh
  replace hh := grd_t hh
  have u15 := grd_c hh
  replace hh := grd_t hh
  have u16 := grd_c hh
  replace hh := grd_t hh
  refine TC.draw [8] (by kernel_rfl) (TA.a 0 z (moveI (.inl z) z) z (TA.b 1 z (indexArrN z underlying57 sz55 z z (by omega)) z (TA.b 2 z (loadWordAt z111 z ag55 z (j := 0) z (by omega) z) z (TA.a 3 z (moveI (.inl z) z) z (TA.b 4 z (indexArrN z underlying57 sz55 z z (by omega)) z (TA.b 5 z (loadWordAt x1 z ag55 z (j := 1) z (by omega) z) z (TA.a 6 z (andU z z z) z (TA.b 7 z (indexArrN z underlying57 sz55 z z (by omega)) z (TA.last 8 (by kernel_rfl) z z z (storeWord z sz55 z z z (by omega) u16 ?_))))))))))
  refine TZ.done (by kernel_rfl) (B.n (S.n (TC.region (TL.w z (OpVal.succ z z z (by omega)) (TL.i z z (TL.en ?_))))))
  obtain ⟨hh, hlt114⟩ := nxt_x hR1 hh
  exact lf (((BSet.setWord z111 k112 (u64and (BSet.word z111 k112) (BSet.word x1 k112))), (k112 + 1)), ()) hlt114 hh (Sub.f [2, 2, 2] 3)
 ·refine TC.exit (S.x (S.x ?_))
  replace hh := fin_x hR1 hh
  refine TC.exitHere (S.n (TC.a (TL.w z (loadAll z ag57 sz57 z (i := 0) z z) (TL.front 2 z z (TL.op z (storeAll z sz57 z z z z z z ?_))))))
  refine TL.en (TC.rt 1 ?_)
  obtain rfl := so hh
  exact ro [] z (RVs.agg ag57 sz57 z (i := 0) z z RVs.nil) ⟨z, z, z⟩
end Go.Proofs.YtcaaiphgikpgjaaGreatDoor
end

section
namespace Go.E
open Go
theorem iter_inl {S R : Type} {step : S → Option (S ⊕ R)} {s s' : S} (h : step s = some (.inl s')) : iter step s = iter step s' := by
  cases hr : iter step s' with
  | some r => exact iter_next h hr
  | none =>
    cases hq : iter step s with
    | none => rfl
    | some r =>
      obtain ⟨z, hz, hR⟩ := iter_e hq
      rw [h] at hz; cases hz
      have := (hR.next s' rfl).1
      rw [hr] at this; cases this
theorem iter_for {α S T R : Type} {step : T → Option (T ⊕ R)} (g : S → Nat → T) (l : List α) (d : α) (I : List α → S → Prop) (Q : R → Prop)
    (hs : ∀ k s, k < l.length → I (l.take k) s → (∃ s', step (g s k) = some (.inl (g s' (k + 1))) ∧ I (l.take k ++ [nth l k d]) s') ∨ ∃ r, step (g s k) = some (.inr r) ∧ Q r)
    (hd : ∀ s, I l s → ∃ r, step (g s l.length) = some (.inr r) ∧ Q r) {s0 : S} (h0 : I [] s0) : ∃ r, iter step (g s0 0) = some r ∧ Q r := by
  have key : ∀ m k s, l.length - k = m → k ≤ l.length → I (l.take k) s → ∃ r, iter step (g s k) = some r ∧ Q r := by
    intro m
    induction m with
    | zero =>
      intro k s hm hk hI
      have hk : k = l.length := by omega
      subst hk
      rw [List.take_length] at hI
      obtain ⟨r, h1, h2⟩ := hd s hI
      exact ⟨r, iter_done h1, h2⟩
    | succ m ih =>
      intro k s hm hk hI
      rcases hs k s (by omega) hI with ⟨s', h1, h2⟩ | ⟨r, h1, h2⟩
      · rw [← take_snoc l (by omega) d] at h2
        obtain ⟨r, h3, h4⟩ := ih (k + 1) s' (by omega) (by omega) h2
        exact ⟨r, iter_next h1 h3, h4⟩
      · exact ⟨r, iter_done h1, h2⟩
  exact key _ 0 s0 rfl (Nat.zero_le _) h0
end Go.E
end

section
namespace Go.E
open Go
theorem iteO_dt {α : Type} {p : Prop} [Decidable p] {a b : Option α} (h : p) : iteO (decide p) a b = a := by rw [decide_eq_true h]; rfl
theorem iteO_df {α : Type} {p : Prop} [Decidable p] {a b : Option α} (h : ¬ p) : iteO (decide p) a b = b := by rw [decide_eq_false h]; rfl
theorem bnd_mk {α β : Type} {x : α} {f : α → Option β} : bnd (some x) f = f x := rfl
theorem iteO_nt {α : Type} {a b : Option α} : iteO (!true) a b = b := rfl
theorem iteO_nf {α : Type} {a b : Option α} : iteO (!false) a b = a := rfl
theorem iter_up {S T R : Type} {step : T → Option (T ⊕ R)} (g : S → Nat → T) (n : Nat) (I : Nat → S → Prop) (Q : R → Prop)
    (hs : ∀ k s, k < n → I k s → (∃ s', step (g s k) = some (.inl (g s' (k + 1))) ∧ I (k + 1) s') ∨ ∃ r, step (g s k) = some (.inr r) ∧ Q r)
    (hd : ∀ s, I n s → ∃ r, step (g s n) = some (.inr r) ∧ Q r) {s0 : S} (h0 : I 0 s0) : ∃ r, iter step (g s0 0) = some r ∧ Q r := by
  have key : ∀ m k s, n - k = m → k ≤ n → I k s → ∃ r, iter step (g s k) = some r ∧ Q r := by
    intro m
    induction m with
    | zero =>
      intro k s hm hk hI
      have hk : k = n := by omega
      subst hk
      obtain ⟨r, h1, h2⟩ := hd s hI
      exact ⟨r, iter_done h1, h2⟩
    | succ m ih =>
      intro k s hm hk hI
      rcases hs k s (by omega) hI with ⟨s', h1, h2⟩ | ⟨r, h1, h2⟩
      · obtain ⟨r, h3, h4⟩ := ih (k + 1) s' (by omega) (by omega) h2
        exact ⟨r, iter_next h1 h3, h4⟩
      · exact ⟨r, iter_done h1, h2⟩
  exact key _ 0 s0 rfl (Nat.zero_le _) h0
theorem iter_inr {S R : Type} {step : S → Option (S ⊕ R)} {s : S} {r : R} (h : step s = some (.inr r)) : iter step s = some r := iter_done h
theorem nth_set {α : Type} (l : List α) (i j : Nat) (x d : α) : nth (l.set i x) j d = if i = j ∧ j < l.length then x else nth l j d := by
  unfold nth
  simp only [List.getD_eq_getElem?_getD, List.getElem?_set]
  by_cases h : i = j
  · subst h
    by_cases k : i < l.length
    · simp [k]
    · simp [k]
  · simp [h]
theorem nth_map {α β : Type} (f : α → β) (l : List α) (i : Nat) (d : α) (e : β) (h : i < l.length) : nth (l.map f) i e = f (nth l i d) := by
  unfold nth
  simp [List.getD_eq_getElem?_getD, List.getElem?_map, List.getElem?_eq_getElem h]
theorem nth_rep {α : Type} (n i : Nat) (x : α) : nth (List.replicate n x) i x = x := by
  unfold nth
  rw [List.getD_eq_getElem?_getD, List.getElem?_replicate]
  split <;> rfl
theorem nth_ext {α : Type} (d : α) {l m : List α} (hl : l.length = m.length) (h : ∀ i, i < l.length → nth l i d = nth m i d) : l = m := by
  apply List.ext_getElem hl
  intro i h1 h2
  have a := h i h1
  have b := getD_some l h1 d
  have c := getD_some m h2 d
  rw [List.getElem?_eq_getElem h1] at b
  rw [List.getElem?_eq_getElem h2] at c
  rw [Option.some.inj b, a, ← Option.some.inj c]
end Go.E
end

section
namespace Go.Proofs.YtcaaiphgikpgjaaGreatDoor
open Go Go.E
inductive Rch (S : Int → Prop) (E : Int → Int → Prop) : Int → Prop
  | base {s : Int} : S s → Rch S E s
  | step {a b : Int} : Rch S E a → E a b → Rch S E b
def onS (t : Fst) (s : Int) : Prop := ∃ x ∈ t.starts, x.state = s
def enS (t : Fst) (s : Int) : Prop := ∃ x ∈ t.ends, x.state = s
def arE (t : Fst) (a b : Int) : Prop := ∃ x ∈ t.arcs, x.frm = a ∧ x.to = b
def arB (t : Fst) (a b : Int) : Prop := ∃ x ∈ t.arcs, x.to = a ∧ x.frm = b
def Use (t : Fst) (s : Int) : Prop := Rch (onS t) (arE t) s ∧ Rch (enS t) (arB t) s
open Classical in
noncomputable def useB (t : Fst) (s : Nat) : Bool := decide (Use t s)
def cntB (p : Nat → Bool) : Nat → Nat
  | 0 => 0
  | n + 1 => cntB p n + (if p n then 1 else 0)
def numB (p : Nat → Bool) (s : Int) : Int := if p s.toNat then (cntB p s.toNat : Int) else -1
theorem cntB_le (p : Nat → Bool) : ∀ {m n : Nat}, m ≤ n → cntB p m ≤ cntB p n
  | m, 0, h => by obtain rfl : m = 0 := by omega
                  exact Nat.le_refl _
  | m, n + 1, h => by
    by_cases hm : m = n + 1
    · subst hm; exact Nat.le_refl _
    · have := cntB_le p (m := m) (n := n) (by omega)
      simp only [cntB]; omega
theorem cntB_lt (p : Nat → Bool) {m n : Nat} (h : m < n) (hp : p m = true) : cntB p m < cntB p n := by
  have := cntB_le p (m := m + 1) (n := n) h
  simp only [cntB, hp, if_true] at this
  omega
theorem cntB_self (p : Nat → Bool) : ∀ n, cntB p n ≤ n
  | 0 => Nat.le_refl _
  | n + 1 => by have := cntB_self p n; simp only [cntB]; split <;> omega
theorem cntB_has (p : Nat → Bool) : ∀ n k, k < cntB p n → ∃ s, s < n ∧ p s = true ∧ cntB p s = k
  | 0, k, h => by simp [cntB] at h
  | n + 1, k, h => by
    by_cases hk : k < cntB p n
    · obtain ⟨s, h1, h2⟩ := cntB_has p n k hk; exact ⟨s, by omega, h2⟩
    · simp only [cntB] at h
      by_cases hp : p n = true
      · rw [if_pos hp] at h; exact ⟨n, by omega, hp, by omega⟩
      · rw [if_neg hp] at h; omega
theorem numB_pos {p : Nat → Bool} {s : Int} (h : p s.toNat = true) : numB p s = cntB p s.toNat := by unfold numB; rw [if_pos h]
theorem numB_ge {p : Nat → Bool} {s : Int} : 0 ≤ numB p s ↔ p s.toNat = true := by
  unfold numB; split
  · simp_all
  · simp_all
theorem numB_inj {p : Nat → Bool} {a b : Int} (ha : 0 ≤ a) (hb : 0 ≤ b) (h1 : p a.toNat = true) (h2 : p b.toNat = true) (h : numB p a = numB p b) : a = b := by
  rw [numB_pos h1, numB_pos h2] at h
  have h : cntB p a.toNat = cntB p b.toNat := by omega
  rcases Nat.lt_trichotomy a.toNat b.toNat with hl | he | hl
  · have := cntB_lt p hl h1; omega
  · omega
  · have := cntB_lt p hl h2; omega
def keepT (p : Nat → Bool) (l : List Tip) : List Tip := l.filterMap fun x => if 0 ≤ numB p x.state then some ⟨numB p x.state, x.out⟩ else none
def keepA (p : Nat → Bool) (l : List Arc) : List Arc := l.filterMap fun x => if 0 ≤ numB p x.frm ∧ 0 ≤ numB p x.to then some ⟨numB p x.frm, numB p x.to, x.set, x.out, x.copy⟩ else none
def keepF (p : Nat → Bool) (t : Fst) : Fst := ⟨cntB p t.states.toNat, keepT p t.starts, keepT p t.ends, keepA p t.arcs⟩
theorem mem_keepT {p : Nat → Bool} {l : List Tip} {y : Tip} : y ∈ keepT p l ↔ ∃ x ∈ l, p x.state.toNat = true ∧ y = ⟨numB p x.state, x.out⟩ := by
  unfold keepT
  rw [List.mem_filterMap]
  constructor
  · rintro ⟨x, hx, h⟩
    split at h
    · rename_i h0; exact ⟨x, hx, numB_ge.1 h0, by cases h; rfl⟩
    · cases h
  · rintro ⟨x, hx, h0, rfl⟩; exact ⟨x, hx, by rw [if_pos (numB_ge.2 h0)]⟩
theorem mem_keepA {p : Nat → Bool} {l : List Arc} {y : Arc} : y ∈ keepA p l ↔ ∃ x ∈ l, p x.frm.toNat = true ∧ p x.to.toNat = true ∧ y = ⟨numB p x.frm, numB p x.to, x.set, x.out, x.copy⟩ := by
  unfold keepA
  rw [List.mem_filterMap]
  constructor
  · rintro ⟨x, hx, h⟩
    split at h
    · rename_i h0; exact ⟨x, hx, numB_ge.1 h0.1, numB_ge.1 h0.2, by cases h; rfl⟩
    · cases h
  · rintro ⟨x, hx, h0, h1, rfl⟩; exact ⟨x, hx, by rw [if_pos ⟨numB_ge.2 h0, numB_ge.2 h1⟩]⟩
theorem keepT_len (p : Nat → Bool) (l : List Tip) : (keepT p l).length ≤ l.length := List.length_filterMap_le ..
theorem keepA_len (p : Nat → Bool) (l : List Arc) : (keepA p l).length ≤ l.length := List.length_filterMap_le ..
structure Rng (t : Fst) : Prop where
  starts : ∀ x ∈ t.starts, 0 ≤ x.state ∧ x.state < t.states
  ends : ∀ x ∈ t.ends, 0 ≤ x.state ∧ x.state < t.states
  arcs : ∀ x ∈ t.arcs, (0 ≤ x.frm ∧ x.frm < t.states) ∧ (0 ≤ x.to ∧ x.to < t.states)
open Classical in
theorem useB_iff {t : Fst} {s : Nat} : useB t s = true ↔ Use t s := by unfold useB; exact decide_eq_true_iff
theorem keep_rng {t r : Fst} (hS : ∀ x, x ∈ r.starts ↔ x ∈ keepT (useB t) t.starts) (hE : ∀ x, x ∈ r.ends ↔ x ∈ keepT (useB t) t.ends) (hA : ∀ x, x ∈ r.arcs ↔ x ∈ keepA (useB t) t.arcs) (hn : r.states = cntB (useB t) t.states.toNat) (h : Rng t) : Rng r := by
  have num : ∀ {a : Int}, 0 ≤ a → a < t.states → useB t a.toNat = true → 0 ≤ numB (useB t) a ∧ numB (useB t) a < r.states := fun {a} h0 h1 hu => by
    rw [numB_pos hu, hn]
    have := cntB_lt (useB t) (m := a.toNat) (n := t.states.toNat) (by omega) hu
    omega
  refine ⟨fun y hy => ?_, fun y hy => ?_, fun y hy => ?_⟩
  · obtain ⟨x, hx, hu, rfl⟩ := mem_keepT.1 ((hS y).1 hy); have := h.starts x hx; exact num this.1 this.2 hu
  · obtain ⟨x, hx, hu, rfl⟩ := mem_keepT.1 ((hE y).1 hy); have := h.ends x hx; exact num this.1 this.2 hu
  · obtain ⟨x, hx, hu, hv, rfl⟩ := mem_keepA.1 ((hA y).1 hy); have := h.arcs x hx; exact ⟨num this.1.1 this.1.2 hu, num this.2.1 this.2.2 hv⟩
end Go.Proofs.YtcaaiphgikpgjaaGreatDoor
end

section
namespace Go.Proofs.YtcaaiphgikpgjaaGreatDoor
open Go Go.E
def uns : List Bool → Nat
  | [] => 0
  | b :: l => (if b then 0 else 1) + uns l
theorem uns_len : ∀ l : List Bool, uns l ≤ l.length
  | [] => Nat.le_refl _
  | b :: l => by have := uns_len l; simp only [uns, List.length_cons]; split <;> omega
def Le (l r : List Bool) : Prop := ∀ v, nth l v false = true → nth r v false = true
theorem Le.rfl' (l : List Bool) : Le l l := fun _ h => h
theorem Le.trans {l r s : List Bool} (h : Le l r) (k : Le r s) : Le l s := fun v hv => k v (h v hv)
theorem uns_le : ∀ {l r : List Bool}, l.length = r.length → Le l r → uns r ≤ uns l
  | [], [], _, _ => Nat.le_refl _
  | [], _ :: _, h, _ => by simp at h
  | _ :: _, [], h, _ => by simp at h
  | a :: l, b :: r, h, k => by
    have h1 := uns_le (l := l) (r := r) (by simpa using h) (fun v hv => k (v + 1) hv)
    have h2 : a = true → b = true := fun ha => k 0 ha
    simp only [uns]
    cases a <;> cases b <;> simp_all <;> omega
theorem uns_set : ∀ {l : List Bool} {i : Nat}, i < l.length → nth l i false = false → uns (l.set i true) + 1 = uns l
  | [], i, h, _ => by simp at h
  | a :: l, 0, _, h => by
    have : a = false := h
    subst this
    simp [uns]; omega
  | a :: l, i + 1, h, k => by
    have := uns_set (l := l) (i := i) (by simpa using h) k
    simp only [List.set_cons_succ, uns]; omega
theorem le_set {l : List Bool} (i : Nat) (h : i < l.length) : Le l (l.set i true) := fun v hv => by
  rw [nth_set]; split
  · rfl
  · exact hv
def stE (st : List (List Int)) (a b : Int) : Prop := 0 ≤ a ∧ b ∈ nth st a.toNat []
theorem Rch.trans {S : Int → Prop} {E : Int → Int → Prop} {a b : Int} (h : Rch (fun c => c = a) E b) (k : Rch S E a) : Rch S E b := by
  induction h with
  | base e => subst e; exact k
  | step _ e ih => exact .step ih e
theorem mem_nth {α : Type} {l : List α} {x d : α} (h : x ∈ l) : ∃ j, j < l.length ∧ nth l j d = x := by
  obtain ⟨j, hj, e⟩ := List.getElem_of_mem h
  refine ⟨j, hj, ?_⟩
  have := getD_some l hj d
  rw [List.getElem?_eq_getElem hj, Option.some.injEq] at this
  rw [← this]; exact e
theorem mem_at {α : Type} {l : List α} {j : Nat} (d : α) (h : j < l.length) : nth l j d ∈ l := by
  have := getD_some l h d
  exact List.mem_of_getElem? this
structure Vis (st : List (List Int)) (n : Nat) (s : Int) (seen r : List Bool) : Prop where
  len : r.length = n
  le : Le seen r
  at' : nth r s.toNat false = true
  out : ∀ v, nth r v false = true → nth seen v false = true ∨ Rch (fun c => c = s) (stE st) v
  cl : ∀ v, nth r v false = true → nth seen v false = false → ∀ z ∈ nth st v [], nth r z.toNat false = true
theorem visit_ok {st : List (List Int)} {n : Nat} (hl : st.length = n) (hst : ∀ a, ∀ z ∈ nth st a [], 0 ≤ z ∧ z < n) :
    ∀ k (s : Int) (seen : List Bool), 0 ≤ s → s < n → seen.length = n → uns seen < k → ∃ r, Bq_ k s seen st = some r ∧ Vis st n s seen r := by
  intro k
  induction k with
  | zero => intro s seen _ _ _ h; omega
  | succ k ih =>
    intro s seen h0 h1 hn hu
    show ∃ r, De_ (Bq_ k) s seen st = some r ∧ _
    unfold De_
    rw [grd_mk ⟨h0, by omega⟩]
    cases hs : nth seen s.toNat false with
    | true => exact ⟨seen, rfl, hn, Le.rfl' _, hs, fun v hv => .inl hv, fun v hv hf => by rw [hv] at hf; cases hf⟩
    | false =>
      rw [iteO_false, grd_mk ⟨h0, by omega⟩, grd_mk ⟨h0, by omega⟩]
      have hlt : s.toNat < seen.length := by omega
      have hun := uns_set hlt hs
      have hat : nth (seen.set s.toNat true) s.toNat false = true := by rw [nth_set, if_pos ⟨rfl, hlt⟩]
      have hor : ∀ v, nth (seen.set s.toNat true) v false = true → nth seen v false = true ∨ v = s.toNat := fun v hv => by
        rw [nth_set] at hv
        split at hv
        · rename_i h; exact .inr h.1.symm
        · exact .inl hv
      obtain ⟨r, h2, h3, h4, h5, h6, h7⟩ := iter_up (step := fun q : List Bool × Nat => A3_ st s (Bq_ k) q.1 q.2) (fun (l : List Bool) j => (l, j)) (nth st s.toNat []).length
        (fun j l => l.length = n ∧ Le (seen.set s.toNat true) l ∧ (∀ i, i < j → nth l (nth (nth st s.toNat []) i 0).toNat false = true) ∧ (∀ v, nth l v false = true → nth (seen.set s.toNat true) v false = true ∨ Rch (fun c => c = s) (stE st) v) ∧ (∀ v, nth l v false = true → nth (seen.set s.toNat true) v false = false → ∀ z ∈ nth st v [], nth l z.toNat false = true))
        (fun l => l.length = n ∧ Le (seen.set s.toNat true) l ∧ (∀ i, i < (nth st s.toNat []).length → nth l (nth (nth st s.toNat []) i 0).toNat false = true) ∧ (∀ v, nth l v false = true → nth (seen.set s.toNat true) v false = true ∨ Rch (fun c => c = s) (stE st) v) ∧ (∀ v, nth l v false = true → nth (seen.set s.toNat true) v false = false → ∀ z ∈ nth st v [], nth l z.toNat false = true))
        (fun j l hj ⟨a1, a2, a3, a4, a5⟩ => by
          have hz := mem_at (0 : Int) hj
          have hzr := hst _ _ hz
          have hle := uns_le (by rw [List.length_set]; omega) a2
          obtain ⟨r, b1, b2⟩ := ih (nth (nth st s.toNat []) j 0) l hzr.1 hzr.2 a1 (by omega)
          refine .inl ⟨r, ?_, b2.len, a2.trans b2.le, fun i hi => ?_, fun v hv => ?_, fun v hv hf z hz' => ?_⟩
          · show A3_ st s (Bq_ k) l j = _
            unfold A3_
            rw [iteO_dt (by omega), b1]; rfl
          · by_cases hij : i = j
            · subst hij; exact b2.at'
            · exact b2.le _ (a3 i (by omega))
          · rcases b2.out v hv with h | h
            · exact a4 v h
            · exact .inr (h.trans (.step (.base rfl) ⟨h0, hz⟩))
          · cases hlv : nth l v false with
            | true => exact b2.le _ (a5 v hlv hf z hz')
            | false => exact b2.cl v hv hlv z hz')
        (fun l hI => ⟨l, by
          show A3_ st s (Bq_ k) l _ = _
          unfold A3_
          rw [iteO_df (by omega)]; rfl, hI⟩)
        (s0 := seen.set s.toNat true) ⟨by rw [List.length_set]; exact hn, Le.rfl' _, fun i hi => by omega, fun v hv => .inl hv, fun v hv hf => by rw [hv] at hf; cases hf⟩
      refine ⟨r, h2, h3, (le_set _ hlt).trans h4, h4 _ hat, fun v hv => ?_, fun v hv hf z hz => ?_⟩
      · rcases h6 v hv with h | h
        · rcases hor v h with h | h
          · exact .inl h
          · exact .inr (.base (by omega))
        · exact .inr h
      · cases hsv : nth (seen.set s.toNat true) v false with
        | true =>
          rcases hor v hsv with h | h
          · rw [h] at hf; cases hf
          · subst h
            obtain ⟨i, hi, e⟩ := mem_nth (d := (0 : Int)) hz
            have := h5 i hi
            rw [e] at this; exact this
        | false => exact h7 v hv hsv z hz
theorem reach_ok {st : List (List Int)} {n : Nat} {tips : List Tip} (hn : n ≤ 1024) (hl : st.length = n) (hst : ∀ a, ∀ z ∈ nth st a [], 0 ≤ z ∧ z < n) (ht : ∀ x ∈ tips, 0 ≤ x.state ∧ x.state < n) :
    ∃ r, Dr_ tips st = some r ∧ r.length = n ∧ ∀ v : Nat, nth r v false = true ↔ Rch (fun c => ∃ x ∈ tips, x.state = c) (stE st) v := by
  unfold Dr_
  rw [grd_mk (by omega)]
  obtain ⟨r, h1, h2, h3, h4, h5⟩ := iter_up (step := fun q : List Bool × Nat => Bb_ tips st q.1 q.2) (fun (l : List Bool) j => (l, j)) tips.length
    (fun j l => l.length = n ∧ (∀ i, i < j → nth l (nth tips i Tip.zero).state.toNat false = true) ∧ (∀ v : Nat, nth l v false = true → Rch (fun c => ∃ x ∈ tips, x.state = c) (stE st) v) ∧ (∀ v, nth l v false = true → ∀ z ∈ nth st v [], nth l z.toNat false = true))
    (fun l => l.length = n ∧ (∀ i, i < tips.length → nth l (nth tips i Tip.zero).state.toNat false = true) ∧ (∀ v : Nat, nth l v false = true → Rch (fun c => ∃ x ∈ tips, x.state = c) (stE st) v) ∧ (∀ v, nth l v false = true → ∀ z ∈ nth st v [], nth l z.toNat false = true))
    (fun j l hj ⟨a1, a2, a3, a4⟩ => by
      have hz := mem_at Tip.zero hj
      have hzr := ht _ hz
      have := uns_len l
      obtain ⟨r, b1, b2⟩ := visit_ok hl hst (l.length + 1) (nth tips j Tip.zero).state l hzr.1 hzr.2 a1 (by omega)
      refine .inl ⟨r, ?_, b2.len, fun i hi => ?_, fun v hv => ?_, fun v hv z hz' => ?_⟩
      · show Bb_ tips st l j = _
        unfold Bb_
        rw [iteO_dt (by omega), b1]; rfl
      · by_cases hij : i = j
        · subst hij; exact b2.at'
        · exact b2.le _ (a2 i (by omega))
      · rcases b2.out v hv with h | h
        · exact a3 v h
        · exact h.trans (.base ⟨_, hz, rfl⟩)
      · cases hlv : nth l v false with
        | true => exact b2.le _ (a4 v hlv z hz')
        | false => exact b2.cl v hv hlv z hz')
    (fun l hI => ⟨l, by
      show Bb_ tips st l _ = _
      unfold Bb_
      rw [iteO_df (by omega)]; rfl, hI⟩)
    (s0 := List.replicate st.length false) ⟨by rw [List.length_replicate]; exact hl, fun i hi => by omega, fun v hv => (by rw [nth_rep] at hv; cases hv), fun v hv => (by rw [nth_rep] at hv; cases hv)⟩
  refine ⟨r, h1, h2, fun v => ⟨h4 v, fun hv => ?_⟩⟩
  have : ∀ c : Int, Rch (fun c => ∃ x ∈ tips, x.state = c) (stE st) c → nth r c.toNat false = true := fun c hc => by
    induction hc with
    | base h =>
      obtain ⟨x, hx, rfl⟩ := h
      obtain ⟨i, hi, e⟩ := mem_nth (d := Tip.zero) hx
      have := h3 i hi
      rw [e] at this; exact this
    | step _ e ih => exact h5 _ ih _ e.2
  have := this v hv
  simpa using this
end Go.Proofs.YtcaaiphgikpgjaaGreatDoor
end

section
namespace Go.Proofs.YtcaaiphgikpgjaaGreatDoor
open Go Go.E
theorem drop_nth {α : Type} (l : List α) {k : Nat} (h : k < l.length) (d : α) : l.drop k = nth l k d :: l.drop (k + 1) := by
  rw [List.drop_eq_getElem_cons h]
  have := getD_some l h d
  rw [List.getElem?_eq_getElem h, Option.some.injEq] at this
  rw [this]
def lcpN : List UInt8 → List UInt8 → Nat
  | a :: l, b :: m => if a = b then lcpN l m + 1 else 0
  | _, _ => 0
theorem lcpN_l : ∀ l m : List UInt8, lcpN l m ≤ l.length
  | [], _ => Nat.zero_le _
  | _ :: _, [] => Nat.zero_le _
  | a :: l, b :: m => by have := lcpN_l l m; simp only [lcpN, List.length_cons]; split <;> omega
theorem lcpN_r : ∀ l m : List UInt8, lcpN l m ≤ m.length
  | [], _ => Nat.zero_le _
  | _ :: _, [] => Nat.zero_le _
  | a :: l, b :: m => by have := lcpN_r l m; simp only [lcpN, List.length_cons]; split <;> omega
theorem lcpN_eq : ∀ (l m : List UInt8) (k : Nat), k ≤ l.length → k ≤ m.length → (∀ i, i < k → nth l i 0 = nth m i 0) → (k < l.length → k < m.length → nth l k 0 ≠ nth m k 0) → lcpN l m = k
  | [], _, k, h, _, _, _ => by simp at h; simp [lcpN, h]
  | _ :: _, [], k, _, h, _, _ => by simp at h; simp [lcpN, h]
  | a :: l, b :: m, 0, _, _, _, h => by
    have : a ≠ b := h (by simp) (by simp)
    simp [lcpN, this]
  | a :: l, b :: m, k + 1, h1, h2, h3, h4 => by
    have e : a = b := h3 0 (by omega)
    have := lcpN_eq l m k (by simpa using h1) (by simpa using h2) (fun i hi => h3 (i + 1) (by omega)) (fun i j => h4 (by simpa using i) (by simpa using j))
    simp [lcpN, e, this]
theorem front_eq (x y : List UInt8) (hx : x.length ≤ 281474976710656) (hy : y.length ≤ 281474976710656) : Eh_ x y = some ((lcpN x y : Nat) : Int) := by
  unfold Eh_
  rw [grd_mk hx, grd_mk hy]
  have hm : min ((x.length : Nat) : Int) ((y.length : Nat) : Int) = ((min x.length y.length : Nat) : Int) := by omega
  obtain ⟨r, h, rfl⟩ := iter_up (step := fun q : Nat => Ch_ x y q) (fun (_ : Unit) k => k) (min x.length y.length) (fun k _ => ∀ i, i < k → nth x i 0 = nth y i 0) (fun r => r = ((lcpN x y : Nat) : Int))
    (fun k _ hk hI => by
      unfold Ch_
      rw [hm, iteO_dt (by omega), grd_mk (by omega), grd_mk (by omega)]
      by_cases e : nth x k 0 = nth y k 0
      · rw [iteO_df (by rw [e]; simp)]
        exact .inl ⟨(), rfl, fun i hi => by
          by_cases hik : i = k
          · subst hik; exact e
          · exact hI i (by omega)⟩
      · have hne : (((nth x k (0 : UInt8)).toNat : Nat) : Int) ≠ (((nth y k (0 : UInt8)).toNat : Nat) : Int) := fun h => e (UInt8.toNat_inj.1 (by omega))
        rw [iteO_dt hne]
        refine .inr ⟨_, rfl, ?_⟩
        rw [lcpN_eq x y k (by omega) (by omega) hI (fun _ _ => e)])
    (fun _ hI => ⟨_, by
      unfold Ch_
      rw [hm, iteO_df (by omega)]; rfl, by
      rw [lcpN_eq x y (min x.length y.length) (by omega) (by omega) hI (fun h1 h2 => by omega)]⟩)
    (s0 := ()) (fun i hi => by omega)
  exact h
def lagS (a b : List UInt8) : List UInt8 × List UInt8 := (a.drop (lcpN a b), b.drop (lcpN a b))
theorem lag_eq (x y : List UInt8) (hx : x.length ≤ 281474976710656) (hy : y.length ≤ 281474976710656) : En_ x y = some (lagS x y) := by
  have h1 := lcpN_l x y
  have h2 := lcpN_r x y
  unfold En_
  rw [grd_mk hx, grd_mk hy, bnd_some (front_eq x y hx hy), grd_mk ⟨by omega, by omega, by omega⟩, grd_mk ⟨by omega, by omega, by omega⟩]
  rfl
theorem lagS_l (a b : List UInt8) : (lagS a b).1.length ≤ a.length := by simp only [lagS, List.length_drop]; omega
theorem lagS_r (a b : List UInt8) : (lagS a b).2.length ≤ b.length := by simp only [lagS, List.length_drop]; omega
noncomputable def bothS (a b : BSet) : BSet := (Ct_ a b).getD BSet.zero
theorem both_eq (a b : BSet) : Ct_ a b = some (bothS a b) := by
  have h : ∃ r, Ct_ a b = some r := by
    unfold Ct_
    obtain ⟨r, h, _⟩ := iter_up (step := fun q : BSet × Nat => A2_ b q.1 q.2) (fun (s : BSet) k => (s, k)) 4 (fun _ _ => True) (fun _ => True)
      (fun k s hk _ => .inl ⟨BSet.setWord s k (u64and (BSet.word s k) (BSet.word b k)), by
        show A2_ b s k = _
        unfold A2_
        rw [iteO_dt (by omega), grd_mk hk, grd_mk hk, grd_mk hk, grd_mk (by unfold u64and; exact BitVec.isLt _)]; rfl, trivial⟩)
      (fun s _ => ⟨s, by
        show A2_ b s 4 = _
        unfold A2_
        rw [iteO_df (by omega)]; rfl, trivial⟩) (s0 := a) trivial
    exact ⟨r, h⟩
  obtain ⟨r, h⟩ := h
  unfold bothS; rw [h]; rfl
section
variable {S α : Type}
end
structure ArcsOk (arcs : List (List Arc)) : Prop where
  out : ∀ i, ∀ x ∈ nth arcs i [], x.out.length ≤ 1000000
structure LagOk (n : Nat) (l : TLag) : Prop where
  p : 0 ≤ l.p ∧ l.p < n
  q : 0 ≤ l.q ∧ l.q < n
  a : l.a.length ≤ 100000000
  b : l.b.length ≤ 100000000
section
variable {Sy : Type} {Y : Sy → TLag → Option (Sy × Bool)} (w : Walk) (hw : ArcsOk w.arcs) (row : List TLag) (hr : ∀ l ∈ row, LagOk w.arcs.length l) (i : Nat) (hi : i < row.length)
include hw hr hi
end
end Go.Proofs.YtcaaiphgikpgjaaGreatDoor
end

section
namespace Go.Proofs.YtcaaiphgikpgjaaGreatDoor
open Go Go.E
def Apart (a b : List UInt8) : Prop := ∀ x l y m, a = x :: l → b = y :: m → x ≠ y
theorem lagS_app : ∀ c a b : List UInt8, lagS (c ++ a) (c ++ b) = lagS a b
 | [], _, _ => rfl
 | x :: c, a, b => by
  have ih := lagS_app c a b
  unfold lagS at *
  simp only [List.cons_append, lcpN, if_true, List.drop_succ_cons]
  exact ih
theorem lagS_c : ∀ a b : List UInt8, ∃ c, a = c ++ (lagS a b).1 ∧ b = c ++ (lagS a b).2
 | [], b => ⟨[], rfl, rfl⟩
 | _ :: _, [] => ⟨[], rfl, rfl⟩
 | x :: a, y :: b => by
  by_cases h : x = y
  ·subst h
   obtain ⟨c, h1, h2⟩ := lagS_c a b
   have e : lagS (x :: a) (x :: b) = lagS a b := lagS_app [x] a b
   exact ⟨x :: c, by rw [e, List.cons_append, ← h1], by rw [e, List.cons_append, ← h2]⟩
  ·have e : lagS (x :: a) (y :: b) = (x :: a, y :: b) := by unfold lagS; simp only [lcpN, if_neg h, List.drop_zero]
   exact ⟨[], by rw [e]; rfl, by rw [e]; rfl⟩
theorem lagS_apart : ∀ a b : List UInt8, Apart (lagS a b).1 (lagS a b).2
 | [], b => fun x l y m h => by
  have : (lagS [] b).1 = [] := rfl
  rw [this] at h; cases h
 | u :: v, [] => fun x l y m _ h => by
  have : (lagS (u :: v) []).2 = [] := rfl
  rw [this] at h; cases h
 | x :: a, y :: b => by
  by_cases h : x = y
  ·subst h
   have e : lagS (x :: a) (x :: b) = lagS a b := lagS_app [x] a b
   rw [e]; exact lagS_apart a b
  ·have e : lagS (x :: a) (y :: b) = (x :: a, y :: b) := by unfold lagS; simp only [lcpN, if_neg h, List.drop_zero]
   rw [e]
   intro u l v m h1 h2
   cases h1; cases h2; exact h
theorem Apart.ne {a b u v : List UInt8} (h : Apart a b) (ha : a ≠ []) (hb : b ≠ []) : a ++ u ≠ b ++ v := by
 cases a with
 | nil => exact absurd rfl ha
 | cons x a =>
  cases b with
  | nil => exact absurd rfl hb
  | cons y b =>
   intro e
   rw [List.cons_append, List.cons_append, List.cons.injEq] at e
   exact h x a y b rfl rfl e.1
def lagT (p q : Int) (a b : List UInt8) : TLag := ⟨p, q, (lagS a b).1, (lagS a b).2⟩
inductive RLw (T : Fst) : List UInt8 → TLag → Prop
 | base {x y : Tip} : x ∈ T.starts → y ∈ T.starts → RLw T [] (lagT x.state y.state x.out y.out)
 | step {w : List UInt8} {l : TLag} {x y : Arc} {b : UInt8} : RLw T w l → x ∈ T.arcs → y ∈ T.arcs → x.frm = l.p → y.frm = l.q → x.set.has b.toNat = true → y.set.has b.toNat = true → RLw T (w ++ [b]) (lagT x.to y.to (l.a ++ em x b) (l.b ++ em y b))
def Jt (T : Fst) (p q : Int) : Prop := ∃ w m1 m2, ∃ e ∈ T.ends, ∃ f ∈ T.ends, Wy T p w m1 e.state ∧ Wy T q w m2 f.state
theorem RLw.apart {T : Fst} {w : List UInt8} {l : TLag} (h : RLw T w l) : Apart l.a l.b := by
 cases h with
 | base _ _ => exact lagS_apart _ _
 | step _ _ _ _ _ _ _ => exact lagS_apart _ _
theorem RLw.ways {T : Fst} {w : List UInt8} {l : TLag} (h : RLw T w l) : ∃ x ∈ T.starts, ∃ y ∈ T.starts, ∃ m1 m2 c, Wy T x.state w m1 l.p ∧ Wy T y.state w m2 l.q ∧ x.out ++ m1 = c ++ l.a ∧ y.out ++ m2 = c ++ l.b := by
 induction h with
 | @base x y hx hy =>
  obtain ⟨c, h1, h2⟩ := lagS_c x.out y.out
  exact ⟨x, hx, y, hy, [], [], c, .nil _, .nil _, by rw [List.append_nil]; exact h1, by rw [List.append_nil]; exact h2⟩
 | @step w l x y b h hx hy e1 e2 b1 b2 ih =>
  obtain ⟨s, hs, t, ht, m1, m2, c, h1, h2, h3, h4⟩ := ih
  obtain ⟨d, h5, h6⟩ := lagS_c (l.a ++ em x b) (l.b ++ em y b)
  rw [← e1] at h1
  rw [← e2] at h2
  refine ⟨s, hs, t, ht, m1 ++ em x b, m2 ++ em y b, c ++ d, h1.append (Wy.one hx b1), h2.append (Wy.one hy b2), ?_, ?_⟩
  ·show s.out ++ (m1 ++ em x b) = (c ++ d) ++ (lagS (l.a ++ em x b) (l.b ++ em y b)).1
   rw [List.append_assoc, ← h5, ← List.append_assoc, h3, List.append_assoc]
  ·show t.out ++ (m2 ++ em y b) = (c ++ d) ++ (lagS (l.a ++ em x b) (l.b ++ em y b)).2
   rw [List.append_assoc, ← h6, ← List.append_assoc, h4, List.append_assoc]
theorem RLw.of {T : Fst} {x y : Tip} (hx : x ∈ T.starts) (hy : y ∈ T.starts) (w : List UInt8) : ∀ {m1 m2 : List UInt8} {p q : Int}, Wy T x.state w m1 p → Wy T y.state w m2 q → RLw T w (lagT p q (x.out ++ m1) (y.out ++ m2)) := by
 induction w using rev_ind with
 | h0 =>
  intro m1 m2 p q h1 h2
  obtain ⟨rfl, rfl⟩ := h1.nil_inv
  obtain ⟨rfl, rfl⟩ := h2.nil_inv
  rw [List.append_nil, List.append_nil]; exact .base hx hy
 | h1 w b ih =>
  intro m1 m2 p q h1 h2
  obtain ⟨u, o1, o2, h3, h4, rfl⟩ := h1.split
  obtain ⟨v, o3, o4, h5, h6, rfl⟩ := h2.split
  obtain ⟨s, hs, e1, b1, z1, h7, rfl⟩ := h4.cons_inv
  obtain ⟨t, ht, e2, b2, z2, h8, rfl⟩ := h6.cons_inv
  obtain ⟨rfl, rfl⟩ := h7.nil_inv
  obtain ⟨rfl, rfl⟩ := h8.nil_inv
  have k := RLw.step (ih h3 h5) hs ht e1 e2 b1 b2
  obtain ⟨c, h9, h10⟩ := lagS_c (x.out ++ o1) (y.out ++ o3)
  have e : lagT s.to t.to ((lagT u v (x.out ++ o1) (y.out ++ o3)).a ++ em s b) ((lagT u v (x.out ++ o1) (y.out ++ o3)).b ++ em t b) = lagT s.to t.to (x.out ++ (o1 ++ (em s b ++ []))) (y.out ++ (o3 ++ (em t b ++ []))) := by
   have e3 : x.out ++ (o1 ++ (em s b ++ [])) = c ++ ((lagS (x.out ++ o1) (y.out ++ o3)).1 ++ em s b) := by
    rw [List.append_nil, ← List.append_assoc, ← List.append_assoc, ← h9]
   have e4 : y.out ++ (o3 ++ (em t b ++ [])) = c ++ ((lagS (x.out ++ o1) (y.out ++ o3)).2 ++ em t b) := by
    rw [List.append_nil, ← List.append_assoc, ← List.append_assoc, ← h10]
   rw [e3, e4]
   unfold lagT
   rw [lagS_app]
  rw [← e]; exact k
theorem em_len {T : Fst} (hT : FstOk T) {x : Arc} (hx : x ∈ T.arcs) (b : UInt8) : (em x b).length ≤ 1025 := by
 have := (hT.arcs x hx).2.2.2
 unfold em; split
 ·rw [List.length_append, List.length_singleton]; omega
 ·omega
theorem RLw.len {T : Fst} (hT : FstOk T) {w : List UInt8} {l : TLag} (h : RLw T w l) : l.a.length ≤ 1024 + 1025 * w.length ∧ l.b.length ≤ 1024 + 1025 * w.length := by
 induction h with
 | @base x y hx hy =>
  have h1 := (hT.starts x hx).2
  have h2 := (hT.starts y hy).2
  have h3 := lagS_l x.out y.out
  have h4 := lagS_r x.out y.out
  exact ⟨by show (lagS _ _).1.length ≤ _; omega, by show (lagS _ _).2.length ≤ _; omega⟩
 | @step w l x y b h hx hy e1 e2 b1 b2 ih =>
  have h1 := em_len hT hx b
  have h2 := em_len hT hy b
  have h3 := lagS_l (l.a ++ em x b) (l.b ++ em y b)
  have h4 := lagS_r (l.a ++ em x b) (l.b ++ em y b)
  rw [List.length_append] at h3 h4
  rw [List.length_append, List.length_singleton]
  exact ⟨by show (lagS _ _).1.length ≤ _; omega, by show (lagS _ _).2.length ≤ _; omega⟩
theorem RLw.rng {T : Fst} (hT : FstOk T) {w : List UInt8} {l : TLag} (h : RLw T w l) : (0 ≤ l.p ∧ l.p < T.states) ∧ 0 ≤ l.q ∧ l.q < T.states := by
 cases h with
 | base hx hy => exact ⟨(hT.starts _ hx).1, (hT.starts _ hy).1⟩
 | step _ hx hy _ _ _ _ => exact ⟨(hT.arcs _ hx).2.1, (hT.arcs _ hy).2.1⟩
structure Good (T : Fst) : Prop where
 side : ∀ w l, RLw T w l → Jt T l.p l.q → l.a = [] ∨ l.b = []
 one : ∀ w l w' l', RLw T w l → RLw T w' l' → Jt T l.p l.q → l.p = l'.p → l.q = l'.q → l = l'
 ends : ∀ w l, RLw T w l → ∀ e ∈ T.ends, ∀ f ∈ T.ends, e.state = l.p → f.state = l.q → l.a ++ e.out = l.b ++ f.out
def Gives (T : Fst) (w : List UInt8) : Prop := ∃ o1 o2, o1 ≠ o2 ∧ Rel T w o1 ∧ Rel T w o2
theorem Good.none {T : Fst} (h : Good T) (w : List UInt8) : ¬ Gives T w := by
 rintro ⟨o1, o2, hne, ⟨x, hx, e, he, m1, h1, rfl⟩, ⟨y, hy, f, hf, m2, h2, rfl⟩⟩
 have k := RLw.of hx hy w h1 h2
 obtain ⟨c, h3, h4⟩ := lagS_c (x.out ++ m1) (y.out ++ m2)
 have h5 := h.ends w _ k e he f hf rfl rfl
 refine hne ?_
 have e1 : x.out ++ (m1 ++ e.out) = c ++ ((lagS (x.out ++ m1) (y.out ++ m2)).1 ++ e.out) := by
  rw [← List.append_assoc, ← List.append_assoc c, ← h3]
 have e2 : y.out ++ (m2 ++ f.out) = c ++ ((lagS (x.out ++ m1) (y.out ++ m2)).2 ++ f.out) := by
  rw [← List.append_assoc, ← List.append_assoc c, ← h4]
 rw [e1, e2]
 exact congrArg _ h5
theorem gives_of {T : Fst} {w : List UInt8} {l : TLag} (h : RLw T w l) {v m1 m2 : List UInt8} {e f : Tip} (he : e ∈ T.ends) (hf : f ∈ T.ends) (h1 : Wy T l.p v m1 e.state) (h2 : Wy T l.q v m2 f.state) (hne : l.a ++ (m1 ++ e.out) ≠ l.b ++ (m2 ++ f.out)) : Gives T (w ++ v) := by
 obtain ⟨x, hx, y, hy, n1, n2, c, h3, h4, h5, h6⟩ := h.ways
 refine ⟨x.out ++ ((n1 ++ m1) ++ e.out), y.out ++ ((n2 ++ m2) ++ f.out), fun hq => hne ?_, ⟨x, hx, e, he, _, h3.append h1, rfl⟩, ⟨y, hy, f, hf, _, h4.append h2, rfl⟩⟩
 have e1 : x.out ++ ((n1 ++ m1) ++ e.out) = c ++ (l.a ++ (m1 ++ e.out)) := by
  rw [List.append_assoc, ← List.append_assoc, h5, List.append_assoc]
 have e2 : y.out ++ ((n2 ++ m2) ++ f.out) = c ++ (l.b ++ (m2 ++ f.out)) := by
  rw [List.append_assoc, ← List.append_assoc, h6, List.append_assoc]
 rw [e1, e2] at hq
 exact List.append_cancel_left hq
theorem lag_two {a b a' b' o1 o2 : List UInt8} (h1 : a = [] ∨ b = []) (h2 : Apart a' b') (e1 : a ++ o1 = b ++ o2) (e2 : a' ++ o1 = b' ++ o2) : a = a' ∧ b = b' := by
 rcases h1 with rfl | rfl
 ·rw [List.nil_append] at e1
  subst e1
  rw [← List.append_assoc] at e2
  have e3 := List.append_cancel_right e2
  cases a' with
  | nil => exact ⟨rfl, by simpa using e3⟩
  | cons x l =>
   rw [List.cons_append] at e3
   exact absurd rfl (h2 x l x _ rfl e3.symm)
 ·rw [List.nil_append] at e1
  subst e1
  rw [← List.append_assoc] at e2
  have e3 := List.append_cancel_right e2
  cases b' with
  | nil => exact ⟨by simpa using e3.symm, rfl⟩
  | cons x l =>
   rw [List.cons_append] at e3
   exact absurd rfl (h2 x _ x l e3 rfl)
theorem Good.of {T : Fst} (R : TLag → Prop) (hb : ∀ x ∈ T.starts, ∀ y ∈ T.starts, Jt T x.state y.state → R (lagT x.state y.state x.out y.out))
  (hs : ∀ l, R l → ∀ x ∈ T.arcs, ∀ y ∈ T.arcs, ∀ b : UInt8, x.frm = l.p → y.frm = l.q → x.set.has b.toNat = true → y.set.has b.toNat = true → Jt T x.to y.to → R (lagT x.to y.to (l.a ++ em x b) (l.b ++ em y b)))
  (side : ∀ l, R l → l.a = [] ∨ l.b = []) (one : ∀ l l', R l → R l' → l.p = l'.p → l.q = l'.q → l = l') (ends : ∀ l, R l → ∀ e ∈ T.ends, ∀ f ∈ T.ends, e.state = l.p → f.state = l.q → l.a ++ e.out = l.b ++ f.out) : Good T := by
 have key : ∀ w l, RLw T w l → Jt T l.p l.q → R l := fun w l h => by
  induction h with
  | base hx hy => exact hb _ hx _ hy
  | @step w l x y b h hx hy e1 e2 b1 b2 ih =>
   intro hj
   refine hs l (ih ?_) x hx y hy b e1 e2 b1 b2 hj
   obtain ⟨v, m1, m2, e, he, f, hf, h1, h2⟩ := hj
   exact ⟨b :: v, em x b ++ m1, em y b ++ m2, e, he, f, hf, by rw [← e1]; exact .cons x b hx b1 h1, by rw [← e2]; exact .cons y b hy b2 h2⟩
 refine ⟨fun w l h hj => side l (key w l h hj), fun w l w' l' h h' hj e1 e2 => one l l' (key w l h hj) (key w' l' h' (by rw [← e1, ← e2]; exact hj)) e1 e2, fun w l h e he f hf e1 e2 => ends l (key w l h ⟨[], [], [], e, he, f, hf, by rw [e1]; exact .nil _, by rw [e2]; exact .nil _⟩) e he f hf e1 e2⟩
end Go.Proofs.YtcaaiphgikpgjaaGreatDoor
end

section
namespace Go.Proofs.YtcaaiphgikpgjaaGreatDoor
open Go Go.E
end Go.Proofs.YtcaaiphgikpgjaaGreatDoor
end

section
namespace Go.Proofs.YtcaaiphgikpgjaaGreatDoor
open Go Go.E
end Go.Proofs.YtcaaiphgikpgjaaGreatDoor
end

section
namespace Go.Proofs.YtcaaiphgikpgjaaGreatDoor
open Go Go.E
end Go.Proofs.YtcaaiphgikpgjaaGreatDoor
end

section
namespace Go.E
open Go
structure Dfa where
  cls : List Int
  next : List (List Int)
  fin : List Bool
def Dfa.zero : Dfa := ⟨[], [], []⟩
structure DfaP where
  a1 : Option Addr
  c1 : Nat
  a2 : Option Addr
  c2 : Nat
  a3 : Option Addr
  c3 : Nat
def DfaP.zero : DfaP := ⟨none, 0, none, 0, none, 0⟩
structure RDfa (σ : Store) (x : Dfa) (p : DfaP) : Prop where
  c : RS σ 1 Go.E.encI (.slice p.a1 x.cls.length p.c1) x.cls
  n : RZ σ (pkSl 1 Go.E.encI encI_len) (.slice p.a2 x.next.length p.c2) x.next
  e : RS σ 1 encB (.slice p.a3 x.fin.length p.c3) x.fin
end Go.E
end

section
namespace Go.E
open Go
def GT {α : Type} (σ : Store) (g : Nat) (enc : α → List Value) (l : List α) : Prop := ∃ E, σ g = some (.cells (l.flatMap enc).toArray E)
theorem GT.mono {α : Type} {σ τ : Store} {g : Nat} {enc : α → List Value} {l : List α} (h : GT σ g enc l) (hle : σ.le τ) : GT τ g enc l := let ⟨E, h⟩ := h; ⟨E, hle _ _ h⟩
theorem flat_one {α : Type} {enc : α → List Value} (hl : ∀ x, (enc x).length = 1) (d : α) : ∀ (l : List α) (i : Nat), i < l.length → (l.flatMap enc)[i]? = (enc (nth l i d))[0]?
  | [], i, h => by simp at h
  | x :: l, 0, _ => by
    have := hl x
    rw [List.flatMap_cons, List.getElem?_append_left (by omega)]
    simp [nth]
  | x :: l, i + 1, h => by
    have h1 := hl x
    rw [List.flatMap_cons, List.getElem?_append_right (by omega), h1, Nat.add_sub_cancel, flat_one hl d l i (by simpa using h)]
    simp [nth]
theorem OpVal.loadG1 {P : Program} {n : Nat} {e : Env} {σ : Store} {H : List Res} {o : Oper} {x : Operand} {α : Type} {T g i : Nat} {enc : α → List Value} {l : List α} {v : Value} (d : α) (ho : o.op = .load T x) (hA : aggOf P T = some false) (hx : ev e x = loc g (0 + i * 1)) (hG : GT σ g enc l) (hi : i < l.length) (hl : ∀ x, (enc x).length = 1) (hv : enc (nth l i d) = [v]) : OpVal P n o e σ H v := fun w hw => by
  obtain ⟨E, hE⟩ := hG
  have h1 := hw.1 _ _ hE
  have hc : w.cell? ⟨g, 0 + i * 1, none⟩ = some v := by
    have h2 := flat_one hl d l i hi
    rw [hv] at h2
    simp only [World.cell?, h1, Option.isSome_none, Bool.false_eq_true, if_false, Nat.zero_add, Nat.mul_one, List.getElem?_toArray]
    rw [h2]; rfl
  rw [Nat.zero_add, Nat.mul_one] at hc hx
  simp [execOp, ho, hx, Instr.loadAt, Instr.sureAddr, loc, run_loadVar_one hA hc]
theorem OpVal.negW {P : Program} {n : Nat} {e : Env} {σ : Store} {H : List Res} {o : Oper} {x : Operand} {T : TypeId} {k : IntKind} {a : Int} (ho : o.op = .unOp .neg T x) (hx : ev e x = .int k a) : OpVal P n o e σ H (.int k (k.wrap (-a))) := fun w _ => by
  simp [execOp, ho, hx, Op.unary, Op.intArith]
theorem OpVal.negU {P : Program} {n : Nat} {e : Env} {σ : Store} {H : List Res} {o : Oper} {x : Operand} {T : TypeId} {a : Nat} (ho : o.op = .unOp .neg T x) (hx : ev e x = .int .u64 (a : Nat)) : OpVal P n o e σ H (.int .u64 ((u64of (-(a : Int)) : Nat) : Int)) := by
  rw [u64of_val]; exact OpVal.negW ho hx
theorem OpVal.indexSet {P : Program} {n : Nat} {e : Env} {σ : Store} {H : List Res} {o : Oper} {x y : Operand} {T E i : Nat} {k : IntKind} {s : BSet} (ho : o.op = .index T x y) (ht : P.underlying T = some (.array 4 E)) (hz : szOf P E = some 1) (hA : aggOf P E = some false) (hx : ev e x = setV s) (hy : ev e y = .int k (i : Nat)) (hi : i < 4) :
    OpVal P n o e σ H (.int .u64 ((s.word i : Nat) : Int)) := fun w _ => by
  have h1 := setA_get s hi
  simp [execOp, ho, hx, hy, setV, Instr.index, asIntOf, run_underlying ht, run_sizeOf hz, part, run_isAgg hA, h1]
  omega
def deB : List UInt8 := [0, 1, 56, 2, 57, 49, 28, 3, 61, 58, 42, 50, 38, 29, 17, 4, 62, 47, 59, 36, 45, 43, 51, 22, 53, 39, 33, 30, 24, 18, 12, 5, 63, 55, 48, 27, 60, 41, 37, 16, 46, 35, 44, 21, 52, 32, 23, 11, 54, 26, 40, 15, 34, 20, 31, 10, 25, 14, 19, 9, 13, 8, 7, 6]
end Go.E
end

section
namespace Go.Proofs.YtcaaiphgikpgjaaGreatDoor
open Go Go.E Go.E.OpVal Go.E.OpOk Go.Proofs.Tryz
private theorem by57 : Go.E.byOf Tryz.prog 57 = some 32 := by kernel_rfl
private theorem fo30_0 : Go.E.foOf Tryz.prog 30 0 = some 0 := by kernel_rfl
private theorem fo30_1 : Go.E.foOf Tryz.prog 30 1 = some 1 := by kernel_rfl
private theorem fo30_2 : Go.E.foOf Tryz.prog 30 2 = some 2 := by kernel_rfl
private theorem pf145 : Go.E.plainF Tryz.prog 145 = true := by kernel_rfl
private theorem pf23 : Go.E.plainF Tryz.prog 23 = true := by kernel_rfl
private theorem pf53 : Go.E.plainF Tryz.prog 53 = true := by kernel_rfl
private theorem pf55 : Go.E.plainF Tryz.prog 55 = true := by kernel_rfl
private theorem ze5 : Go.E.zeroOf Tryz.prog 5 = some (.int .u8 0) := by kernel_rfl
noncomputable def A8_ (x0 : Nat) : Option (Int) :=
 iteO (decide (x0 = 0)) (some 64) (grd ((u64shr (u64mul (u64and x0 (u64of (-((x0 : Nat) : Int)))) 285870213051353865) 58) < 64) (some (((nth deB (u64shr (u64mul (u64and x0 (u64of (-((x0 : Nat) : Int)))) 285870213051353865) 58) (0 : UInt8)).toNat : Nat) : Int)))
theorem Ei_ {σ : Store} {x0 : Nat} (hgl : GT σ 1 encU8 deB) {r : Int} (hh : A8_ x0 = some r) :
  Con Tryz.prog 145 #[.int .u64 ((x0 : Nat) : Int)] σ [] (PureP (.int .i64 r) σ) := by
 dsimp only [A8_] at hh
 refine Con.mk (n := 14) Tryz.func145 z z z (fun w0 => ?_)
 refine TC.a (TL.i z z (TL.en (TC.seq (TC.a (TL.i z z (TL.w z (eqlU z z z) (TL.en (TC.cD z hh (fun h101 hh => ?_) (fun h101 hh => ?_)))))))))
 ·refine TC.a (TL.i z z (TL.en (TC.ret (S.r ?_))))
  obtain rfl := so hh
  exact rq [2] ⟨z, z, z⟩
 ·refine TC.skip (S.n (TC.a (TL.i z z (TL.i z z (TL.w z (negU z z) (TL.w z (andU z z z) (TL.w z (mulU (b := 285870213051353865) z z z) (TL.w z (shrU (b := 58) z z z) ?_))))))))
  have u11 := grd_c hh
  replace hh := grd_t hh
  refine TL.w z (indexArrN z underlying255 sz5 z z (by omega)) (TL.w z (loadG1 (0 : UInt8) z ag5 z hgl (by simp only [deB, List.length_cons, List.length_nil]; omega) encU8_len z) (TL.w z (convN z underlying5 underlying3 z (by have := UInt8.toNat_lt (nth deB (u64shr (u64mul (u64and x0 (u64of (-((x0 : Nat) : Int)))) 285870213051353865) 58) (0 : UInt8)); simp only [kmax]; omega)) (TL.i z z (TL.en (TC.ret ?_)))))
  obtain rfl := so hh
  exact rq [2] ⟨z, z, z⟩
noncomputable def A1_ (x0 : BSet) (k105 : Nat) : Option ((Nat) ⊕ (UInt8 × Bool)) :=
 iteO (decide (((k105 : Nat) : Int) < 4)) (grd (k105 < 4) (iteO (decide ((BSet.word x0 k105) ≠ 0)) (bnd (A8_ (BSet.word x0 k105)) (fun v16 => fin (some ((toU8 (IntKind.i64.wrap ((IntKind.i64.wrap (64 * ((k105 : Nat) : Int))) + v16))), true)))) (nxt (k105 + 1)))) (fin (some ((0 : UInt8), false)))
noncomputable def C2_ (x0 : BSet) : Option (UInt8 × Bool) :=
 iter (fun q : Nat => A1_ x0 q) 0
theorem Fn_ {σ : Store} {x0 : BSet} (hgl : GT σ 1 encU8 deB) {r : UInt8 × Bool} (hh : C2_ x0 = some r) :
  Con Tryz.prog 110 #[setV x0] σ [] (PureP (.tuple #[.int .u8 ((r.1.toNat : Nat) : Int), .bool r.2]) σ) := by
 dsimp only [C2_] at hh
 refine Con.mk (n := 20) Tryz.func110 z z z (fun w0 => ?_)
 refine TC.a (TL.op z (boxA z z z z (fun b101 => ?_)))
 refine TL.i z z (TL.j z z (TL.en (TC.seq (TC.a (TL.w z (loadAll z ag57 sz57 z (i := 0) z z) (TL.i z z (TL.en (TC.block (TC.loopG (α := (Nat) × (Unit)) (rgs [(2, 4), (7, 13)]) (fun g => [(7, .int .i64 ((g.1 : Nat) : Int))]) (fun g => []) (fun g => σ) (fun g => iter (fun q : Nat => A1_ x0 q) g.1 = some r) (fun g => rounds (fun q : Nat => A1_ x0 q) g.1) (0, ()) (Sub.pre 0 z) z (by repeat (first | exact trivial | refine ⟨z, ?_⟩)) hh (fun g1 j1 hg1 => ?_))))))))))
 obtain ⟨k105, _⟩ := g1
 have hh := hg1; clear hg1
 try dsimp only
 obtain ⟨z1, hh, hR1⟩ := iter_e hh
 dsimp only [A1_] at hh
 refine TC.a (TL.w z (OpVal.lss z z z) (TL.en (TC.seq (TC.cD z hh (fun h106 hh => ?_) (fun h106 hh => ?_)))))
 ·refine TC.skip (S.n (TC.seq (TC.block (TC.a (TL.i z z ?_)))))
  have u8 := grd_c hh
  replace hh := grd_t hh
  refine TL.w z (indexSet z underlying57 sz55 ag55 z z (by omega)) (TL.i z z (TL.i z z (TL.en (TC.a (TL.i z z (TL.w z (neqU z z z) (TL.en (TC.cD z hh (fun h107 hh => ?_) (fun h107 hh => ?_)))))))))
  ·refine TC.a (TL.i z z (TL.w z (mulW z z z) (TL.i z z ?_)))
   obtain ⟨v16, u16, hh⟩ := bnd_e hh
   refine TL.op z (callP (Ei_ hgl u16) z z pf145 z z z ?_)
   refine TL.w z (addW z z z) (TL.w z (convU8 z underlying3 underlying5 z) (TL.i z z (TL.j z z (TL.en (TC.ret (B.r (S.r (S.r ?_))))))))
   replace hh := fin_x hR1 hh
   refine B.r (S.r ?_)
   obtain rfl := so hh
   exact rq [2, 3] ⟨z, z, z⟩
  ·refine TC.skip (B.n (S.n (TC.region (TL.w z (OpVal.succ z z z (by omega)) (TL.i z z (TL.en ?_))))))
   obtain ⟨hh, hlt108⟩ := nxt_x hR1 hh
   exact lf ((k105 + 1), ()) hlt108 hh (Sub.pre 0 z)
 ·refine TC.exit (S.x (S.x ?_))
  replace hh := fin_x hR1 hh
  refine TC.exitHere (S.n (TC.a (TL.i z z (TL.j z z (TL.en (TC.ret ?_))))))
  obtain rfl := so hh
  exact rq [2, 3] ⟨z, z, z⟩
noncomputable def Ci_ (x1 : BSet) (z111 : BSet) (k112 : Nat) : Option ((BSet × Nat) ⊕ (BSet)) :=
 iteO (decide (((k112 : Nat) : Int) < 4)) (grd (k112 < 4) (grd (k112 < 4) (grd (k112 < 4) (grd ((u64or (BSet.word z111 k112) (BSet.word x1 k112)) < 18446744073709551616) (nxt ((BSet.setWord z111 k112 (u64or (BSet.word z111 k112) (BSet.word x1 k112))), (k112 + 1))))))) (fin (some z111))
noncomputable def Eo_ (x0 : BSet) (x1 : BSet) : Option (BSet) :=
 iter (fun q : BSet × Nat => Ci_ x1 q.1 q.2) (x0, 0)
theorem Fz_ {σ : Store} {x0 : BSet} {x1 : BSet}  {r : BSet} (hh : Eo_ x0 x1 = some r) :
  Con Tryz.prog 55 #[setV x0, setV x1] σ [] (PureP (setV r) σ) := by
 dsimp only [Eo_] at hh
 refine Con.mk (n := 19) Tryz.func55 z z z (fun w0 => ?_)
 refine TC.a (TL.op z (boxA z z z z (fun b101 => ?_)))
 refine TL.op z (boxA z z z z (fun b103 => ?_))
 refine TL.op z (OpOk.alloc z ze57 z z (fun b105 => ?_))
 refine TL.en (TC.seq (TC.a (TL.i z z (TL.en (TC.block (TC.loopG (α := (BSet × Nat) × (Unit)) (rgs [(5, 13)]) (fun g => [(6, .int .i64 ((g.1.2 : Nat) : Int))]) (fun g => [Res.cells b101 (setA g.1.1) 57, Res.cells b103 (setA x1) 57, Res.cells b105 (setA BSet.zero) 57]) (fun g => σ) (fun g => iter (fun q : BSet × Nat => Ci_ x1 q.1 q.2) g.1 = some r) (fun g => rounds (fun q : BSet × Nat => Ci_ x1 q.1 q.2) g.1) ((x0, 0), ()) (Sub.f [1, 2] 3) z (by repeat (first | exact trivial | refine ⟨z, ?_⟩)) hh (fun g1 j1 hg1 => ?_)))))))
 obtain ⟨⟨z111, k112⟩, _⟩ := g1
 have hh := hg1; clear hg1
 try dsimp only
 obtain ⟨z1, hh, hR1⟩ := iter_e hh
 dsimp only [Ci_] at hh
 refine TC.a (TL.w z (OpVal.lss z z z) (TL.en (TC.seq (TC.cD z hh (fun h113 hh => ?_) (fun h113 hh => ?_)))))
 ·refine TC.skip (S.n (TC.seq (TC.block (TC.a (TL.i z z (TL.i z z (TL.en ?_)))))))
  have u9 := grd_c hh
  replace hh := grd_t hh
  have u12 := grd_c hh
  replace hh := grd_t hh
  have u15 := grd_c hh
  replace hh := grd_t hh
  have u16 := grd_c hh
  replace hh := grd_t hh
  refine TC.draw [8] (by kernel_rfl) (TA.a 0 z (moveI (.inl z) z) z (TA.b 1 z (indexArrN z underlying57 sz55 z z (by omega)) z (TA.b 2 z (loadWordAt z111 z ag55 z (j := 0) z (by omega) z) z (TA.a 3 z (moveI (.inl z) z) z (TA.b 4 z (indexArrN z underlying57 sz55 z z (by omega)) z (TA.b 5 z (loadWordAt x1 z ag55 z (j := 1) z (by omega) z) z (TA.a 6 z (orU z z z) z (TA.b 7 z (indexArrN z underlying57 sz55 z z (by omega)) z (TA.last 8 (by kernel_rfl) z z z (storeWord z sz55 z z z (by omega) u16 ?_))))))))))
  refine TZ.done (by kernel_rfl) (B.n (S.n (TC.region (TL.w z (OpVal.succ z z z (by omega)) (TL.i z z (TL.en ?_))))))
  obtain ⟨hh, hlt114⟩ := nxt_x hR1 hh
  exact lf (((BSet.setWord z111 k112 (u64or (BSet.word z111 k112) (BSet.word x1 k112))), (k112 + 1)), ()) hlt114 hh (Sub.f [2, 2, 2] 3)
 ·refine TC.exit (S.x (S.x ?_))
  replace hh := fin_x hR1 hh
  refine TC.exitHere (S.n (TC.a (TL.w z (loadAll z ag57 sz57 z (i := 0) z z) (TL.front 2 z z (TL.op z (storeAll z sz57 z z z z z z ?_))))))
  refine TL.en (TC.rt 1 ?_)
  obtain rfl := so hh
  exact ro [] z (RVs.agg ag57 sz57 z (i := 0) z z RVs.nil) ⟨z, z, z⟩
noncomputable def Df_ (x0 : List Int) (k116 : Nat) (l122 : List BSet) : Option (((List BSet) × Nat) ⊕ ((List BSet) × Int)) :=
 grd (0 ≤ (nth x0 k116 (0 : Int)) ∧ (nth x0 k116 (0 : Int)) < (l122.length : Int)) (grd ([(toU8 ((k116 : Nat) : Int))].length ≤ 1000000000000) (bnd (Eo_ (nth l122 ((nth x0 k116 (0 : Int)).toNat) BSet.zero) (BSet.ofL [(toU8 ((k116 : Nat) : Int))])) (fun v47 => grd (0 ≤ (nth x0 k116 (0 : Int)) ∧ (nth x0 k116 (0 : Int)) < (l122.length : Int)) (nxt ((l122.set ((nth x0 k116 (0 : Int)).toNat) v47), (k116 + 1))))))
noncomputable def Bn_ (x0 : List Int) (l113 : List BSet) (k116 : Nat) : Option (((List BSet) × Nat) ⊕ ((List BSet) × Int)) :=
 iteO (decide (((k116 : Nat) : Int) < ((x0.length : Nat) : Int))) (iteO (decide ((nth x0 k116 (0 : Int)) < 0)) (fin (some (([] : List BSet), 1))) (iteO (decide (((l113.length : Nat) : Int) < (nth x0 k116 (0 : Int)))) (fin (some (([] : List BSet), 1))) (iteO (decide ((nth x0 k116 (0 : Int)) = ((l113.length : Nat) : Int))) (grd ((l113.length + [BSet.zero].length) * 32 ≤ 140737488355328) (Df_ x0 k116 (l113 ++ [BSet.zero]))) (Df_ x0 k116 l113)))) (fin (some (l113, 0)))
noncomputable def Ea_ (x0 : List Int) : Option ((List BSet) × Int) :=
 iteO (decide (((x0.length : Nat) : Int) ≠ 256)) (some (([] : List BSet), 1)) (iter (fun q : (List BSet) × Nat => Bn_ x0 q.1 q.2) (([] : List BSet), 0))
def Go_ (σ : Store) (r : (List BSet) × Int) : Value → Store → List Res → Prop := fun v σ' H' =>
 ∃ (a1 : Option Addr), ∃ (c1 : Nat),  v = .tuple #[.slice a1 r.1.length c1, .int .i64 r.2] ∧ RS σ' 4 encSet (.slice a1 r.1.length c1) r.1 ∧ H' = []
theorem F8_ {σ : Store} {x0 : List Int} {a0_0 : Option Addr} {c0_0 : Nat} (f0_0 : RS σ 1 Go.E.encI (.slice a0_0 x0.length c0_0) x0) {r : (List BSet) × Int} (hh : Ea_ x0 = some r) :
  Con Tryz.prog 53 #[.slice a0_0 x0.length c0_0] σ [] (Go_ σ r) := by
 dsimp only [Ea_] at hh
 have f0_0b := f0_0.rv.big
 refine Con.mk (n := 47) Tryz.func53 z z z (fun w0 => ?_)
 refine TC.a (TL.s z z (TL.i z z (TL.en (TC.seq (TC.a (TL.s z z (TL.w z (lenC z underlying26 z) (TL.w z (OpVal.neq z z z) (TL.en (TC.cD z hh (fun h101 hh => ?_) (fun h101 hh => ?_)))))))))))
 ·refine TC.a (TL.s z z (TL.i z z (TL.en (TC.ret (S.r ?_)))))
  obtain rfl := so hh
  exact rq [2, 3] ⟨none, 0, z, (RS.nilF _ encSet encSet_len), z⟩
 ·refine TC.skip (S.n (TC.a (TL.s z z (TL.en (TC.seq (TC.a (TL.s z z (TL.w z (lenC z underlying26 z) (TL.i z z (TL.en (TC.block (TC.nilS 57 4 encSet (TC.loopG (α := ((List BSet) × Nat) × ((Option Addr) × Nat)) (rgs [(2, 5), (12, 34)]) (fun g => [(4, .slice g.2.1 g.1.1.length g.2.2), (12, .int .i64 ((g.1.2 : Nat) : Int))]) (fun g => [Res.rowS 57 4 encSet (.slice g.2.1 g.1.1.length g.2.2) g.1.1]) (fun g => σ) (fun g => iter (fun q : (List BSet) × Nat => Bn_ x0 q.1 q.2) g.1 = some r) (fun g => rounds (fun q : (List BSet) × Nat => Bn_ x0 q.1 q.2) g.1) ((([] : List BSet), 0), (none, 0)) (Sub.pre 1 z) z (by repeat (first | exact trivial | refine ⟨z, ?_⟩)) hh (fun g1 j1 hg1 => ?_))))))))))))))
  obtain ⟨⟨l113, k116⟩, ⟨a114, c115⟩⟩ := g1
  have hh := hg1; clear hg1
  try dsimp only
  obtain ⟨z1, hh, hR1⟩ := iter_e hh
  dsimp only [Bn_] at hh
  refine TC.isSl (i := 0) z (fun _ hb118 _ => ?_)
  refine TC.a (TL.w z (OpVal.lss z z z) (TL.en (TC.seq (TC.cD z hh (fun h119 hh => ?_) (fun h119 hh => ?_)))))
  ·refine TC.skip (S.n (TC.seq (TC.block (TC.a (TL.i z z (TL.w z (indexN z underlying26 sz3 z z f0_0.rv.sl (by omega)) (TL.w z (loadS1 (0 : Int) z ag3 z f0_0 (by omega) z) (TL.i z z (TL.i z z (TL.en (TC.seq (TC.a (TL.i z z (TL.w z (OpVal.lss z z z) (TL.j z z (TL.split 19 z (fun h120 => ?_) (fun h120 => ?_)))))))))))))))))
   ·replace hh := iteO_t h120 hh
    replace h120 := of_decide_eq_true h120
    refine TL.f z (TL.f z (TL.f z (TL.f z (TL.w z (pickTB z z z) (TL.en (TC.t z (TC.a (TL.s z z (TL.i z z (TL.en (TC.rt 0 (S.r (B.r (S.r (S.r ?_)))))))))))))))
    replace hh := fin_x hR1 hh
    refine B.r (S.r ?_)
    obtain rfl := so hh
    exact rq [2, 3] ⟨none, 0, z, (RS.nilF _ encSet encSet_len), z⟩
   ·replace hh := iteO_f h120 hh
    replace h120 := of_decide_eq_false h120
    refine TL.g z (moveI (.inl z) z) (TL.g z (moveSl (.inl z) z) (TL.g z (lenC z underlying107 z) (TL.g z (OpVal.gtr z z z) (TL.w z (pickFB z z z) (TL.en (TC.cD z hh (fun h121 hh => ?_) (fun h121 hh => ?_)))))))
    ·refine TC.a (TL.s z z (TL.i z z (TL.en (TC.rt 0 (S.r (B.r (S.r (S.r ?_))))))))
     replace hh := fin_x hR1 hh
     refine B.r (S.r ?_)
     obtain rfl := so hh
     exact rq [2, 3] ⟨none, 0, z, (RS.nilF _ encSet encSet_len), z⟩
    ·refine TC.skip (S.n (TC.cutG (α := ((List BSet)) × ((Option Addr) × Nat)) (rgs [(4, 1), (25, 8)]) (fun g => [(4, .slice g.2.1 g.1.length g.2.2)]) (fun g => [Res.rowS 57 4 encSet (.slice g.2.1 g.1.length g.2.2) g.1]) (fun g => σ) (fun g => Df_ x0 k116 g.1 = some z1) ?_ (fun g j hg => ?_)))
     ·skip
      refine TC.a (TL.i z z (TL.s z z (TL.w z (lenC z underlying107 z) (TL.w z (OpVal.eql z z z) (TL.en (TC.cD z hh (fun h125 hh => ?_) (fun h125 hh => ?_)))))))
      ·refine TC.region (TL.s z z (TL.w z (buildArrL z underlying57 sz55 ze57 z) (TL.op z (OpOk.lit (enc := encSet) [BSet.zero] z underlying107 sz57 ze57 z z z encSet_len (by decide) (by decide) BSet.zero z (by decide) z (by decide) encSet_one (fun a126 c127 => ?_)))))
       refine TL.front 1 z z ?_
       have u35 := grd_c hh
       replace hh := grd_t hh
       refine TL.op z (appendS z z underlying107 sz57 by57 ze57 z z (by decide) z z z (.inr ⟨_, 0, z⟩) (by simpa using u35) (by decide) (fun a129 c130 => ?_))
       exact TL.s z z (TL.en (cf ((l113 ++ [BSet.zero]), (a129, c130)) hh (Sub.pre 1 z)))
      ·exact TC.skip (S.n (cf (l113, (a114, c115)) hh (Sub.pre 1 z)))
     ·skip
      obtain ⟨l122, ⟨a123, c124⟩⟩ := g
      have hh := hg; clear hg
      try dsimp only
      dsimp only [Df_] at hh
      refine TC.isSl (i := 0) z (fun _ hb131 _ => ?_)
      have u41 := grd_c hh
      replace hh := grd_t hh
      have u46 := grd_c hh
      replace hh := grd_t hh
      obtain ⟨v47, u47, hh⟩ := bnd_e hh
      have u48 := grd_c hh
      replace hh := grd_t hh
      refine TC.draw [12] (by kernel_rfl) (TA.a 0 z (moveSl (.inl z) z) z (TA.a 1 z (moveI (.inl z) z) z (TA.a 2 z (moveSl (.inl z) z) z (TA.a 3 z (moveI (.inl z) z) z (TA.isSl (i := 0) z (fun hs138 _ _ => ?_))))))
      refine TA.b 4 z (OpVal.index z underlying107 sz57 z z hs138 u41.1 u41.2) z (TA.b 5 z (loadOA BSet.zero z ag57 sz57 z (q := 0) z encSet_len (by omega) (by omega)) z (TA.a 6 z (moveI (.inl z) z) z (TA.a 7 z (convU8 z underlying3 underlying5 z) z (TA.ac 8 z (OpOk.lit (enc := encU8) [(toU8 ((k116 : Nat) : Int))] z underlying53 sz5 ze5 z z z encU8_len (by decide) (by decide) (0 : UInt8) z (by decide) z (by decide) encU8_one (fun a139 c140 => (k1 ?_)))))))
      refine TA.ac 9 z (callT (of_con _ _ _ [(toU8 ((k116 : Nat) : Int))] u46) z z pf23 z z z z (k0 ?_))
      refine TA.ac 10 z (callP (Fz_ u47) z z pf55 z z z (k0 ?_))
      refine TA.isSl (i := 0) z (fun hs142 _ _ => ?_)
      refine TA.b 11 z (OpVal.index z underlying107 sz57 z z hs142 u48.1 u48.2) z ?_
      have hn143 : (l122.set ((nth x0 k116 (0 : Int)).toNat) v47).length = l122.length := by rw [List.length_set]
      refine TA.last 12 (by kernel_rfl) z z z (storeS v47 z sz57 z z z z encSet_len encSet_one (by omega) (by omega) ?_)
      refine TZ.done (by kernel_rfl) (B.n (S.n (TC.region (TL.w z (OpVal.succ z z z (by omega)) (TL.i z z ?_)))))
      rw [← hn143]
      refine TL.en ?_
      obtain ⟨hh, hlt144⟩ := nxt_x hR1 hh
      exact lf (((l122.set ((nth x0 k116 (0 : Int)).toNat) v47), (k116 + 1)), (a123, c124)) hlt144 hh (Sub.pre 1 z)
  ·refine TC.exit (S.x (S.x ?_))
   replace hh := fin_x hR1 hh
   refine TC.exitHere (S.n (TC.a (TL.s z z (TL.s z z (TL.i z z (TL.en (TC.sealS encSet_len (fun τ147 hle146 hr145 => ?_))))))))
   have hr145b := hr145.rv.big
   refine TC.ret ?_
   obtain rfl := so hh
   exact rq [2, 3] ⟨a114, c115, z, hr145, z⟩
noncomputable def Cd_ (x0 : Dfa) (k110 : Nat) (k116 : Nat) : Option ((Nat) ⊕ ((Nat) ⊕ (Int))) :=
 iteO (decide (((k116 : Nat) : Int) < (((nth x0.next k110 ([] : List Int)).length : Nat) : Int))) (iteO (decide ((nth (nth x0.next k110 ([] : List Int)) k116 (0 : Int)) < 0)) (fin (fin (some 1))) (iteO (decide (((x0.next.length : Nat) : Int) ≤ (nth (nth x0.next k110 ([] : List Int)) k116 (0 : Int)))) (fin (fin (some 1))) (nxt (k116 + 1)))) (fin (nxt (k110 + 1)))
noncomputable def Cb_ (x0 : Dfa) (v5 : (List BSet) × Int) (k110 : Nat) : Option ((Nat) ⊕ (Int)) :=
 iteO (decide (((k110 : Nat) : Int) < ((x0.next.length : Nat) : Int))) (iteO (decide ((((nth x0.next k110 ([] : List Int)).length : Nat) : Int) ≠ ((v5.1.length : Nat) : Int))) (fin (some 1)) (iter (fun q : Nat => Cd_ x0 k110 q) 0)) (fin (some 0))
noncomputable def E0_ (x0 : Dfa) : Option (Int) :=
 bnd (Ea_ x0.cls) (fun v5 => iteO (decide (v5.2 ≠ 0)) (some 1) (iteO (decide (((x0.next.length : Nat) : Int) < 1)) (some 1) (iteO (decide (1024 < ((x0.next.length : Nat) : Int))) (some 1) (iteO (decide (((x0.fin.length : Nat) : Int) ≠ ((x0.next.length : Nat) : Int))) (some 1) (iter (fun q : Nat => Cb_ x0 v5 q) 0)))))
theorem Gb_ {σ : Store} {x0 : Dfa} {a0_0 : Option Addr} {c0_0 : Nat} {a0_1 : Option Addr} {c0_1 : Nat} {a0_2 : Option Addr} {c0_2 : Nat} (f0_0 : RS σ 1 Go.E.encI (.slice a0_0 x0.cls.length c0_0) x0.cls) (f0_1 : RZ σ (pkSl 1 Go.E.encI Go.E.encI_len) (.slice a0_1 x0.next.length c0_1) x0.next) (f0_2 : RS σ 1 encB (.slice a0_2 x0.fin.length c0_2) x0.fin) {r : Int} (hh : E0_ x0 = some r) :
  Con Tryz.prog 25 #[.agg #[.slice a0_0 x0.cls.length c0_0, .slice a0_1 x0.next.length c0_1, .slice a0_2 x0.fin.length c0_2]] σ [] (PureP (.int .i64 r) σ) := by
 dsimp only [E0_] at hh
 have f0_0b := f0_0.rv.big
 have f0_1b := f0_1.big
 have f0_2b := f0_2.rv.big
 refine Con.mk (n := 63) Tryz.func25 z z z (fun w0 => ?_)
 refine TC.a (TL.op z (boxA z z z z (fun b101 => ?_)))
 refine TL.i z z (TL.en (TC.a (TL.w z (fieldLoc z fo30_0 z) (TL.w z (loadLoc z ag26 z (i := 0) z z) ?_))))
 obtain ⟨v5, u5, hh⟩ := bnd_e hh
 refine TL.op z (OpOk.call (F8_ f0_0 u5) z z pf53 z z z z ?_)
 rintro _ τ103 _ hle103 ⟨a103_1, c103_1, rfl, hr103_0, rfl⟩
 replace f0_1 := f0_1.mono hle103
 have hr103_0b := hr103_0.rv.big
 refine TL.w z (moveT (.inl z) z) (TL.w z (OpVal.extract z z z) (TL.w z (OpVal.extract z z z) (TL.s z z (TL.i z z (TL.en (TC.a (TL.w z (fieldLoc z fo30_1 z) (TL.w z (loadLoc z ag27 z (i := 0) z z) (TL.w z (lenC z underlying27 z) (TL.i z z (TL.en (TC.seq (TC.a (TL.i z z (TL.w z (OpVal.neq z z z) (TL.j z z (TL.split 21 z (fun h104 => ?_) (fun h104 => ?_))))))))))))))))))
 ·replace hh := iteO_t h104 hh
  replace h104 := of_decide_eq_true h104
  refine TL.f z (TL.f z (TL.w z (pickTB z z z) (TL.j z z (TL.f z (TL.f z (TL.w z (pickTB z z z) (TL.j z z (TL.f z (TL.f z (TL.f z (TL.f z (TL.f z (TL.w z (pickTB z z z) (TL.en (TC.t z (TC.a (TL.i z z (TL.en (TC.ofSub (Sub.pre 0 z) (TC.back (TC.ret (S.r ?_))))))))))))))))))))))
  obtain rfl := so hh
  exact rq [2] ⟨z, z, z⟩
 ·replace hh := iteO_f h104 hh
  replace h104 := of_decide_eq_false h104
  refine TL.g z (moveI (.inl z) z) (TL.g z (OpVal.lss z z z) (TL.w z (pickFB z z z) (TL.j z z (TL.split 25 z (fun h105 => ?_) (fun h105 => ?_)))))
  ·replace hh := iteO_t h105 hh
   replace h105 := of_decide_eq_true h105
   refine TL.f z (TL.f z (TL.w z (pickTB z z z) (TL.j z z (TL.f z (TL.f z (TL.f z (TL.f z (TL.f z (TL.w z (pickTB z z z) (TL.en (TC.t z (TC.a (TL.i z z (TL.en (TC.ofSub (Sub.pre 0 z) (TC.back (TC.ret (S.r ?_))))))))))))))))))
   obtain rfl := so hh
   exact rq [2] ⟨z, z, z⟩
  ·replace hh := iteO_f h105 hh
   replace h105 := of_decide_eq_false h105
   refine TL.g z (moveI (.inl z) z) (TL.g z (OpVal.gtr z z z) (TL.w z (pickFB z z z) (TL.j z z (TL.split 29 z (fun h106 => ?_) (fun h106 => ?_)))))
   ·replace hh := iteO_t h106 hh
    replace h106 := of_decide_eq_true h106
    refine TL.f z (TL.f z (TL.f z (TL.f z (TL.f z (TL.w z (pickTB z z z) (TL.en (TC.t z (TC.a (TL.i z z (TL.en (TC.ofSub (Sub.pre 0 z) (TC.back (TC.ret (S.r ?_))))))))))))))
    obtain rfl := so hh
    exact rq [2] ⟨z, z, z⟩
   ·replace hh := iteO_f h106 hh
    replace h106 := of_decide_eq_false h106
    refine TL.g z (fieldLoc z fo30_2 z) (TL.g z (loadLoc z ag28 z (i := 0) z z) (TL.g z (lenC z underlying28 z) (TL.g z (moveI (.inl z) z) (TL.g z (OpVal.neq z z z) (TL.w z (pickFB z z z) (TL.en (TC.cD z hh (fun h107 hh => ?_) (fun h107 hh => ?_))))))))
    ·refine TC.a (TL.i z z (TL.en (TC.ofSub (Sub.pre 0 z) (TC.back (TC.ret (S.r ?_))))))
     obtain rfl := so hh
     exact rq [2] ⟨z, z, z⟩
    ·refine TC.skip (S.n (TC.seq (TC.a (TL.w z (fieldLoc z fo30_1 z) (TL.w z (loadLoc z ag27 z (i := 0) z z) (TL.w z (lenC z underlying27 z) (TL.i z z (TL.en (TC.block (TC.loopG (α := (Nat) × (Unit)) (rgs [(2, 1), (7, 1), (9, 1), (39, 24)]) (fun g => [(39, .int .i64 ((g.1 : Nat) : Int))]) (fun g => []) (fun g => τ103) (fun g => iter (fun q : Nat => Cb_ x0 v5 q) g.1 = some r) (fun g => rounds (fun q : Nat => Cb_ x0 v5 q) g.1) (0, ()) (Sub.pre 0 z) z (by repeat (first | exact trivial | refine ⟨z, ?_⟩)) hh (fun g1 j1 hg1 => ?_)))))))))))
     obtain ⟨k110, _⟩ := g1
     have hh := hg1; clear hg1
     try dsimp only
     obtain ⟨z1, hh, hR1⟩ := iter_e hh
     dsimp only [Cb_] at hh
     refine TC.a (TL.w z (OpVal.lss z z z) (TL.en (TC.seq (TC.cD z hh (fun h111 hh => ?_) (fun h111 hh => ?_)))))
     ·refine TC.skip (S.n (TC.seq (TC.block (TC.a (TL.w z (indexN z underlying27 sz26 z z f0_1.isSl (by omega)) ?_)))))
      obtain ⟨p112, hk112, hg112⟩ := RZ.seg f0_1 k110 (by omega)
      replace hk112 : RS _ 1 Go.E.encI (.slice p112.1 (nth x0.next k110 ([] : List Int)).length p112.2) (nth x0.next k110 ([] : List Int)) := hk112
      have hk112b := hk112.rv.big
      refine TL.w z (OpVal.of (loadSeg0 z ag26 z hg112 z) (v' := .slice p112.1 ((nth x0.next k110 ([] : List Int)).length) p112.2) z) (TL.s z z (TL.en (TC.seq (TC.a (TL.s z z (TL.w z (lenC z underlying26 z) (TL.s z z (TL.w z (lenC z underlying107 z) (TL.w z (OpVal.neq z z z) (TL.en (TC.cD z hh (fun h113 hh => ?_) (fun h113 hh => ?_))))))))))))
      ·refine TC.a (TL.i z z (TL.en (TC.back (TC.ret (S.r (B.r (S.r (S.r ?_))))))))
       replace hh := fin_x hR1 hh
       refine B.r (S.r ?_)
       obtain rfl := so hh
       exact rq [2] ⟨z, z, z⟩
      ·refine TC.skip (S.n (TC.a (TL.s z z (TL.w z (lenC z underlying26 z) (TL.i z z (TL.en (TC.block (TC.loopG (α := (Nat) × (Unit)) (rgs [(2, 1), (9, 1), (50, 12)]) (fun g => [(50, .int .i64 ((g.1 : Nat) : Int))]) (fun g => []) (fun g => τ103) (fun g => iter (fun q : Nat => Cd_ x0 k110 q) g.1 = some z1) (fun g => rounds (fun q : Nat => Cd_ x0 k110 q) g.1) (0, ()) (Sub.pre 0 z) z (by repeat (first | exact trivial | refine ⟨z, ?_⟩)) hh (fun g2 j2 hg2 => ?_)))))))))
       obtain ⟨k116, _⟩ := g2
       have hh := hg2; clear hg2
       try dsimp only
       obtain ⟨z2, hh, hR2⟩ := iter_e hh
       dsimp only [Cd_] at hh
       refine TC.a (TL.w z (OpVal.lss z z z) (TL.en (TC.seq (TC.cD z hh (fun h117 hh => ?_) (fun h117 hh => ?_)))))
       ·refine TC.skip (S.n (TC.seq (TC.block (TC.a (TL.w z (indexN z underlying26 sz3 z z hk112.rv.sl (by omega)) (TL.w z (loadS1 (0 : Int) z ag3 z hk112 (by omega) z) (TL.i z z (TL.en (TC.a (TL.i z z (TL.w z (OpVal.lss z z z) (TL.j z z (TL.split 56 z (fun h118 => ?_) (fun h118 => ?_))))))))))))))
        ·replace hh := iteO_t h118 hh
         replace h118 := of_decide_eq_true h118
         refine TL.f z (TL.f z (TL.f z (TL.w z (pickTB z z z) (TL.en (TC.t z (TC.a (TL.i z z (TL.en (TC.back (TC.ret (B.r (S.r (S.r ?_)))))))))))))
         replace hh := fin_x hR2 hh
         refine B.r (B.r (S.r (S.r ?_)))
         replace hh := fin_x hR1 hh
         refine B.r (S.r ?_)
         obtain rfl := so hh
         exact rq [2] ⟨z, z, z⟩
        ·replace hh := iteO_f h118 hh
         replace h118 := of_decide_eq_false h118
         refine TL.g z (moveI (.inl z) z) (TL.g z (moveI (.inl z) z) (TL.g z (OpVal.geq z z z) (TL.w z (pickFB z z z) (TL.en (TC.cD z hh (fun h119 hh => ?_) (fun h119 hh => ?_))))))
         ·refine TC.a (TL.i z z (TL.en (TC.back (TC.ret (B.r (S.r (S.r ?_)))))))
          replace hh := fin_x hR2 hh
          refine B.r (B.r (S.r (S.r ?_)))
          replace hh := fin_x hR1 hh
          refine B.r (S.r ?_)
          obtain rfl := so hh
          exact rq [2] ⟨z, z, z⟩
         ·refine TC.skip (B.n (S.n (TC.region (TL.w z (OpVal.succ z z z (by omega)) (TL.i z z (TL.en ?_))))))
          obtain ⟨hh, hlt120⟩ := nxt_x hR2 hh
          exact lf ((k116 + 1), ()) hlt120 hh (Sub.pre 0 z)
       ·refine TC.exit (S.x (S.x ?_))
        replace hh := fin_x hR2 hh
        refine TC.exitHere (B.n (S.n (TC.region (TL.w z (OpVal.succ z z z (by omega)) (TL.i z z (TL.en ?_))))))
        obtain ⟨hh, hlt121⟩ := nxt_x hR1 hh
        exact lf ((k110 + 1), ()) hlt121 hh (Sub.pre 0 z)
     ·refine TC.exit (S.x (S.x ?_))
      replace hh := fin_x hR1 hh
      refine TC.exitHere (S.n (TC.a (TL.i z z (TL.en (TC.back (TC.ret ?_))))))
      obtain rfl := so hh
      exact rq [2] ⟨z, z, z⟩
end Go.Proofs.YtcaaiphgikpgjaaGreatDoor
end

section
namespace Go.E
open Go
theorem EqAt.arr2 {P : Program} {n : Nat} {T E : TypeId} {a0 a1 b0 b1 : Value} {p q : Bool} (hT : P.underlying T = some (.array 2 E)) (hA : aggOf P E = some false) (hz : szOf P E = some 1) (h0 : EqAt P n E a0 b0 p) (h1 : EqAt P n E a1 b1 q) : EqAt P (n + 1) T (.agg #[a0, a1]) (.agg #[b0, b1]) (p && q) := fun d w => by
  have g : ∀ (cs : Array Value) (i : Nat) (u : Value), cs[i]? = some u → (part E cs i).run P w = .ok u w := fun cs i u h => run_part_one hA h w
  rw [← Nat.add_assoc, Op.equalIn]
  simp only [Sem.run_bind, run_underlying hT, Result.andThen_ok, run_sizeOf hz, Std.Legacy.Range.forIn_eq_forIn_range', Std.Legacy.Range.size, Nat.sub_zero, Nat.add_sub_cancel, Nat.div_one, List.range'_succ, List.range'_zero, List.forIn_cons, List.forIn_nil, Nat.mul_one, Nat.zero_add]
  rw [g _ 0 a0 rfl, Result.andThen_ok, g _ 0 b0 rfl, Result.andThen_ok, h0 d w, Result.andThen_ok]
  cases p
  · simp
  · simp only [Bool.not_true, Bool.false_eq_true, if_false, Sem.run_pure, Result.andThen_ok, Sem.run_bind]
    rw [g _ 1 a1 rfl, Result.andThen_ok, g _ 1 b1 rfl, Result.andThen_ok, h1 d w, Result.andThen_ok]
    cases q <;> simp
end Go.E
end

section
namespace Go.E
open Go
structure FPr where
  p : Int
  q : Int
  deriving DecidableEq
def FPr.zero : FPr := ⟨0, 0⟩
structure SPr where
  a : List UInt8
  b : List UInt8
  deriving DecidableEq
def SPr.zero : SPr := ⟨[], []⟩
def encSPr (x : SPr) : List Value := [.string (bs x.a), .string (bs x.b)]
structure Visit where
  at' : FPr
  lag : SPr
  deriving DecidableEq
def Visit.zero : Visit := ⟨FPr.zero, SPr.zero⟩
structure FBox where
  what : Visit
  frm : Int
  by' : UInt8
  deriving DecidableEq
def FBox.zero : FBox := ⟨Visit.zero, 0, 0⟩
def encFBox (x : FBox) : List Value := [.int .i64 x.what.at'.p, .int .i64 x.what.at'.q, .string (bs x.what.lag.a), .string (bs x.what.lag.b), .int .i64 x.frm, .int .u8 ((x.by'.toNat : Nat) : Int)]
theorem encFBox_len (x : FBox) : (encFBox x).length = 6 := rfl
theorem encFBox_one : ∀ x, ∀ u ∈ encFBox x, u.oneCell' = true := fun x u hu => by
  simp [encFBox] at hu
  rcases hu with rfl | rfl | rfl | rfl | rfl | rfl <;> rfl
structure Hop where
  live : Bool
  last : Bool
  x : Int
  y : Int
  by' : UInt8
  deriving DecidableEq
def Hop.zero : Hop := ⟨false, false, 0, 0, 0⟩
def encHop (x : Hop) : List Value := [.bool x.live, .bool x.last, .int .i64 x.x, .int .i64 x.y, .int .u8 ((x.by'.toNat : Nat) : Int)]
theorem encHop_len (x : Hop) : (encHop x).length = 5 := rfl
theorem encHop_one : ∀ x, ∀ u ∈ encHop x, u.oneCell' = true := fun x u hu => by
  simp [encHop] at hu
  rcases hu with rfl | rfl | rfl | rfl | rfl <;> rfl
structure FBack where
  frm : Int
  x : Int
  y : Int
  deriving DecidableEq
def FBack.zero : FBack := ⟨0, 0, 0⟩
def encFBack (x : FBack) : List Value := [.int .i64 x.frm, .int .i64 x.x, .int .i64 x.y]
theorem encFBack_len (x : FBack) : (encFBack x).length = 3 := rfl
theorem encFBack_one : ∀ x, ∀ u ∈ encFBack x, u.oneCell' = true := fun x u hu => by
  simp [encFBack] at hu
  rcases hu with rfl | rfl | rfl <;> rfl
structure Search where
  t : Fst
  arcs : List (List Int)
  ends : List (List (List UInt8))
  hops : List Hop
  row : List FBox
  place : List Int
  text : List UInt8
  found : Bool
end Go.E
end

section
namespace Go.E
open Go
theorem run_append_roomO {P : Program} {w : World} (t ty e : TypeId) (i : TypeInfo) (ht : P.underlying t = some (.slice e)) (hi : P.info? e = some i)
    (g o sLen sCap : Nat) (cur : Array Value) (hg : w.heap[g]? = some (.cells cur e (0, 0)))
    (a : Addr) (m c : Nat) (news : List Value) (hl : news.length = m * i.size) (hnews : ∀ j u, news[j]? = some u → w.cell? (a.add j) = some u) (h1 : ∀ u ∈ news, u.oneCell' = true)
    (hroom : sLen + m ≤ sCap) (hfit : o + sLen * i.size + news.length ≤ cur.size) :
    (Builtin.append_ #[t, t] ty #[.slice (some ⟨g, o, none⟩) sLen sCap, .slice (some a) m c]).run P w =
      .ok (.slice (some ⟨g, o, none⟩) (sLen + m) sCap) (w.setRow g (cur.toList.take (o + sLen * i.size) ++ news ++ cur.toList.drop (o + sLen * i.size + news.length)).toArray) := by
  have hf := run_firstCells_some (P := P) w i.size m a m c news hl hnews
  have hst := run_storeCells_at P g (o + sLen * i.size) e news 0 cur w hg (by simpa using hfit) h1
  simp only [Nat.add_zero] at hst
  simp [Builtin.append_, run_underlying ht, sizeOf, typeInfo, hi, Builtin.lenOf, hroom, hf, Addr.add_lit, hst]
def viewV (size k : Nat) : Value → Value
  | .slice a n c => .slice (a.map fun b => b.add (k * size)) (n - k) (c - k)
  | v => v
theorem viewV_zero (size : Nat) (v : Value) : viewV size 0 v = v := by
  cases v <;> simp only [viewV]
  rename_i a n c
  cases a <;> simp [Addr.add]
theorem viewV_block (size k : Nat) (v : Value) : (viewV size k v).ownBlock = v.ownBlock := by
  cases v <;> simp only [viewV]
  rename_i a n c
  cases a with
  | none => rfl
  | some b => simp only [Value.ownBlock, Option.map_some, Addr.add]; split <;> rfl
def View (size k : Nat) (v0 v : Value) (n : Nat) : Prop := v = viewV size k v0 ∨ n = 0 ∧ v.ownBlock = v0.ownBlock ∧ ∃ a, v = .slice a 0 0
theorem View.block {size k : Nat} {v0 v : Value} {n : Nat} (h : View size k v0 v n) : v.ownBlock = v0.ownBlock := by
  rcases h with rfl | ⟨_, h, _⟩
  · exact viewV_block ..
  · exact h
def Row0 {α : Type} (E size : Nat) (enc : α → List Value) (v : Value) (L : List α) (w : World) : Prop := w.ownsRow 0 E size v L.length (L.flatMap enc) ∧ ∀ u ∈ L.flatMap enc, u.oneCell' = true
def Res.queS {α : Type} (E size : Nat) (enc : α → List Value) (v : Value) (l : List α) : Res where
  bl := v.ownBlock.toList
  holds w := ∃ (L : List α) (v0 : Value) (k : Nat), Row0 E size enc v0 L w ∧ k ≤ L.length ∧ l = L.drop k ∧ View size k v0 v l.length ∧ l.length ≤ 281474976710656
  lt w b hb h := by
    obtain ⟨L, v0, k, h, _, _, hv, _⟩ := h
    exact (h.1.lt b (by rw [← hv.block]; exact Option.mem_toList.1 hb)).2
  keep w w' hb h := by
    obtain ⟨L, v0, k, ⟨h, ho⟩, h1, h2, hv, h3⟩ := h
    refine ⟨L, v0, k, ⟨⟨h.1, ?_⟩, ho⟩, h1, h2, hv, h3⟩
    have hbl := hv.block
    rcases h.2 with hn | ⟨g, cap, cur, rfl, h0, hg, rest⟩
    · exact .inl hn
    · exact .inr ⟨g, cap, cur, rfl, h0, by rw [hb g (by rw [hbl]; exact Option.mem_toList.2 rfl)]; exact hg, rest⟩
section
variable {α : Type} {E size : Nat} {enc : α → List Value} {v : Value} {l : List α}
theorem Reach.toQue {w0 : World} {C : List Nat} {σ0 σ : Store} {w : World} {F : List Res} (h : Reach w0 C σ0 σ w (Res.rowS E size enc v l :: F)) : Reach w0 C σ0 σ w (Res.queS E size enc v l :: F) :=
  h.turn1 v.ownBlock v.ownBlock rfl rfl rfl rfl rfl (Nat.le_refl _) (Nat.le_refl _) (fun _ _ _ => rfl) ⟨l, v, 0, ⟨(h.holds _ (List.mem_cons_self ..)).1, (h.holds _ (List.mem_cons_self ..)).2.1⟩, Nat.zero_le _, rfl, .inl (viewV_zero size v).symm, (h.holds _ (List.mem_cons_self ..)).2.2⟩ (fun _ hb => .inl hb)
theorem TC.toQue {X : Ctx} {Q : QP} {c : Code} {e : Env} {σ : Store} {F : List Res} (k : TC X Q c e σ (Res.queS E size enc v l :: F)) : TC X Q c e σ (Res.rowS E size enc v l :: F) := fun w a hw ha => k w a (hw.by fun _ h => h.toQue) ha
theorem que_sl {w : World} (h : (Res.queS E size enc v l).holds w) : IsSl v l.length ∧ l.length ≤ 281474976710656 := by
  obtain ⟨L, v0, k, h, hk, rfl, hv, hb⟩ := h
  obtain ⟨a, c, rfl, h0, hc⟩ := isSl_row h.1
  rw [List.length_drop] at hv hb ⊢
  rcases hv with rfl | ⟨h1, -, a', rfl⟩
  · refine ⟨⟨_, _, rfl, fun hn => ?_, by omega⟩, by omega⟩
    cases a with
    | none => obtain ⟨h1, h2⟩ := h0 rfl; omega
    | some b => cases hn
  · rw [h1]; exact ⟨⟨a', 0, rfl, fun _ => ⟨rfl, rfl⟩, Nat.le_refl _⟩, by omega⟩
theorem isSl_que {σ : Store} {H : List Res} {q : Nat} (hq : H[q]? = some (Res.queS E size enc v l)) : ∀ w, Sees σ H w → IsSl v l.length ∧ l.length ≤ 281474976710656 := fun w hw => que_sl (hw.2 _ (List.mem_of_getElem? hq))
theorem que_cases {w : World} (h : (Res.queS E size enc v l).holds w) : (∃ (L : List α) (g k c : Nat) (cur : Array Value), k ≤ L.length ∧ l = L.drop k ∧ v = .slice (some ⟨g, k * size, none⟩) (L.length - k) (c - k) ∧ w.heap[g]? = some (.cells cur E (0, 0)) ∧ L.length ≤ c ∧ c ≤ maxLen ∧ cur.size = c * size ∧ cur.toList.take (L.length * size) = L.flatMap enc ∧ (L.flatMap enc).length = L.length * size ∧ (∀ u ∈ L.flatMap enc, u.oneCell' = true) ∧ l.length ≤ 281474976710656) ∨ l = [] ∧ ∃ a, v = .slice a 0 0 := by
  obtain ⟨L, v0, k, h, hk, rfl, hv, hbig⟩ := h
  rw [List.length_drop] at hv
  obtain ⟨⟨hl, h1⟩, hone⟩ := h
  rcases hv with rfl | ⟨h7, -, a, rfl⟩
  · rcases h1 with ⟨rfl, hn⟩ | ⟨g, c, cur, rfl, -, hg, h3, h4, h5, h6⟩
    · refine .inr ⟨List.eq_nil_of_length_eq_zero (by rw [List.length_drop]; omega), none, ?_⟩
      simp [viewV]
    · refine .inl ⟨L, g, k, c, cur, hk, rfl, ?_, hg, h3, h4, h5, h6, hl, hone, hbig⟩
      unfold viewV
      simp only [Option.map_some, loc_add, Nat.zero_add]
  · exact .inr ⟨List.eq_nil_of_length_eq_zero (by rw [List.length_drop]; exact h7), a, rfl⟩
theorem que_some {w : World} (h : (Res.queS E size enc v l).holds w) (h0 : 0 < l.length) : ∃ (L : List α) (g k c : Nat) (cur : Array Value), k < L.length ∧ l = L.drop k ∧ v = .slice (some ⟨g, k * size, none⟩) (L.length - k) (c - k) ∧ w.heap[g]? = some (.cells cur E (0, 0)) ∧ L.length ≤ c ∧ c ≤ maxLen ∧ cur.size = c * size ∧ cur.toList.take (L.length * size) = L.flatMap enc ∧ (L.flatMap enc).length = L.length * size ∧ (∀ u ∈ L.flatMap enc, u.oneCell' = true) ∧ l.length ≤ 281474976710656 := by
  rcases que_cases h with ⟨L, g, k, c, cur, hk, rfl, h⟩ | ⟨rfl, -⟩
  · rw [List.length_drop] at h0; exact ⟨L, g, k, c, cur, by omega, rfl, h⟩
  · cases h0
theorem flat_drop {size : Nat} (hl : ∀ x, (enc x).length = size) : ∀ (L : List α) (k : Nat), (L.drop k).flatMap enc = (L.flatMap enc).drop (k * size)
  | L, 0 => by simp
  | [], k + 1 => by simp
  | x :: L, k + 1 => by
    rw [List.drop_succ_cons, flat_drop hl L k, List.flatMap_cons, Nat.add_mul, Nat.one_mul, Nat.add_comm, ← hl x, List.drop_length_add_append]
theorem OpVal.loadQ1 {P : Program} {n : Nat} {e : Env} {σ : Store} {H : List Res} {o : Oper} {x : Operand} {T q i : Nat} {u : Value} (d : α) (ho : o.op = .load T x) (hA : aggOf P T = some false) (hx : ev e x = elem v (i * 1)) (hq : H[q]? = some (Res.queS E 1 enc v l)) (hl : ∀ x, (enc x).length = 1) (hi : i < l.length)
    (hu : (enc (nth l i d))[0]? = some u) : OpVal P n o e σ H u := fun w hw => by
  have hQ := hw.2 _ (List.mem_of_getElem? hq)
  obtain ⟨L, g, k, c, cur, hk, rfl, rfl, hg, h3, h4, h5, h6, h7, h8, h9⟩ := que_some hQ (by omega)
  rw [List.length_drop] at hi
  have hn : nth (L.drop k) i d = nth L (k + i) d := by unfold nth; simp [List.getD_eq_getElem?_getD, List.getElem?_drop]
  rw [hn] at hu
  have hx' : ev e x = loc g (k + i) := by
    rw [hx]; unfold elem loc; simp only [loc_add, Nat.mul_one]
  have hc : cur.toList[k + i]? = some u := by
    have h10 : (L.flatMap enc)[(k + i) * 1 + 0]? = some u := by rw [flatMap_get hl L (k + i) 0 _ (getD_some L (by omega) d) (by omega)]; exact hu
    rw [← h6, List.getElem?_take] at h10
    split at h10
    · simpa using h10
    · cases h10
  exact OpVal.loadLoc (n := n) (H := [Res.cells g cur E]) (i := 0) ho hA hx' rfl (by simpa using hc) w ⟨hw.1, fun r hr => by rw [List.mem_singleton.1 hr]; exact hg⟩
end
section
variable {X : Ctx} {e : Env} {σ : Store} {F : List Res} {o : Oper} {x y : Operand} {K : Env → Store → List Res → Prop} {α : Type} {E size d : Nat} {enc : α → List Value} {v : Value} {l : List α}
theorem OpOk.popQ {T i : Nat} {k : IntKind} (ho : o.op = .slice T x (some y) none none) (ht : X.P.underlying T = some (.slice E)) (hs : szOf X.P E = some size) (hd : o.dst = some d) (hn : Nat.blt d X.n = true) (hx : ev e x = v) (hy : ev e y = .int k (i : Nat)) (hi : i ≤ l.length) (h0 : 0 < l.length)
    (kk : ∀ a c, K (upd e d (.slice a (l.drop i).length c)) σ (Res.queS E size enc (.slice a (l.drop i).length c) (l.drop i) :: F)) : OpOk X o e σ (Res.queS E size enc v l :: F) K := by
  intro u0 C0 τ0 w a hw ha K' Q hK
  have hQ := hw.holds _ (List.mem_cons_self ..)
  obtain ⟨L, g, q, c, cur, hk, rfl, rfl, hg, h3, h4, h5, h6, h7, h8, h9⟩ := que_some hQ h0
  rw [List.length_drop] at hi
  have hlen : ((L.drop q).drop i).length = L.length - q - i := by rw [List.length_drop, List.length_drop]
  have hrow : Row0 E size enc (.slice (some ⟨g, 0, none⟩) L.length c) L w := ⟨⟨h7, .inr ⟨g, c, cur, rfl, Nat.zero_le _, hg, h3, h4, h5, h6⟩⟩, h8⟩
  obtain ⟨a', hrun, hV⟩ : ∃ a', (execOp (ev e) o).run X.P w = .ok (.value (.slice a' (L.length - q - i) (c - q - i))) w ∧ (Value.slice a' (L.length - q - i) (c - q - i)).ownBlock = (Value.slice (some ⟨g, 0, none⟩) L.length c).ownBlock ∧ View size (q + i) (.slice (some ⟨g, 0, none⟩) L.length c) (.slice a' (L.length - q - i) (c - q - i)) (L.length - q - i) := by
    by_cases hc : c - q = i
    · refine ⟨some ⟨g, q * size, none⟩, ?_, rfl, .inr ⟨by omega, rfl, ?_⟩⟩
      · have h1 : (i : Int) ≤ ((c - q : Nat) : Int) := by omega
        have h2 : (i : Int) ≤ ((L.length - q : Nat) : Int) := by omega
        simp [execOp, ho, hx, hy, Instr.sliceAt, Instr.slice, Instr.sliceBounds, Instr.sliceBound, asIntOf, run_underlying ht, run_sizeOf hs]
        rw [if_pos hi, if_pos hc]
      · rw [show L.length - q - i = 0 by omega, show c - q - i = 0 by omega]; exact ⟨_, rfl⟩
    · refine ⟨some ⟨g, (q + i) * size, none⟩, ?_, rfl, .inl ?_⟩
      · simp [execOp, ho, hx, hy, Instr.sliceAt, Instr.slice, Instr.sliceBounds, Instr.sliceBound, asIntOf, run_underlying ht, run_sizeOf hs]
        rw [if_pos hi, if_neg hc, loc_add, ← Nat.add_mul]
      · unfold viewV
        simp only [Option.map_some, loc_add, Nat.zero_add, Nat.sub_sub]
  have hR : Reach u0 C0 τ0 σ w (Res.queS E size enc (.slice a' (L.length - q - i) (c - q - i)) ((L.drop q).drop i) :: F) :=
    hw.turn1 (some g) (some g) rfl (by show (Value.slice a' (L.length - q - i) (c - q - i)).ownBlock.toList = _; rw [hV.1]; rfl) rfl rfl rfl (Nat.le_refl _) (Nat.le_refl _) (fun _ _ _ => rfl) ⟨L, _, q + i, hrow, by omega, by rw [List.drop_drop], by rw [hlen]; exact hV.2, by rw [List.length_drop] at h9; omega⟩ (fun _ hb => .inl hb)
  have hk2 := kk a' (c - q - i)
  rw [hlen] at hk2
  refine Oper.wp_of_run (w' := w) (v := .slice a' (L.length - q - i) (c - q - i)) ?_ (hK _ _ _ _ _ hk2 hR (put_dst ha hd hn _))
  rw [ha.eval']; exact hrun
theorem OpOk.appendQ {T by_ : Nat} {z u : Value} {l2 : List α} {ty : TypeId} (ho : o.op = .call { callee := .builtin .append, args := #[x, y], argTypes := #[T, ty] }) (hty : ty = T) (ht : X.P.underlying T = some (.slice E)) (hs : szOf X.P E = some size) (hby : byOf X.P E = some by_) (hz : zeroOf X.P E = some z)
    (hd : o.dst = some d) (hn : Nat.blt d X.n = true) (hsz : 0 < size) (hzs : z.cells.size = size) (hl : ∀ x, (enc x).length = size) (hx : ev e x = v) (hy : ev e y = u) (hsrc : SourceS σ F size enc u l2) (hb0 : (l.length + l2.length) * by_ ≤ 140737488355328) (hby0 : 0 < by_) (h2 : 0 < l2.length)
    (k : ∀ a c, K (upd e d (.slice a (l ++ l2).length c)) σ (Res.queS E size enc (.slice a (l ++ l2).length c) (l ++ l2) :: F)) : OpOk X o e σ (Res.queS E size enc v l :: F) K := by
  subst hty
  obtain ⟨i, hi, hsi⟩ := szOf_info hs
  have hiz : i.zero = some z := by simpa [zeroOf, hi] using hz
  have hib : i.bytes = by_ := by simpa [byOf, hi] using hby
  have hm0 : l.length + l2.length ≤ 140737488355328 := Nat.le_trans (Nat.le_mul_of_pos_right _ hby0) hb0
  have hm : l.length + l2.length ≤ maxLen := by unfold maxLen; omega
  intro u0 C0 τ0 w a hw ha K' Q hK
  have hQ := hw.holds _ (List.mem_cons_self ..)
  have hF : Sees σ F w := ⟨hw.fit, fun r hr => hw.holds r (List.mem_cons_of_mem _ hr)⟩
  have hsrc' : Source σ F size u l2.length (l2.flatMap enc) := by
    rcases hsrc with h | ⟨E', q, h⟩
    · exact .inl h.rv
    · exact .inr ⟨E', q, h⟩
  have hyl : (l2.flatMap enc).length = l2.length * size := flatMap_len hl l2
  rcases hsrc'.spec hF with ⟨_, h0, _⟩ | ⟨ad, c2, rfl, hl2, hc2, h1⟩
  · omega
  have hone2 : ∀ q ∈ (l ++ l2).flatMap enc, (∀ u ∈ l.flatMap enc, u.oneCell' = true) → q.oneCell' = true := fun q hq h0 => by
    rw [List.flatMap_append] at hq
    rcases List.mem_append.1 hq with hq | hq
    · exact h0 q hq
    · exact h1 q hq
  have hfl : (l.flatMap enc).length = l.length * size := flatMap_len hl l
  -- the end: a new row with all of it
  have fin : ∀ (vb : Value) (cap : Nat), v = vb → (∀ u ∈ l.flatMap enc, u.oneCell' = true) → cap < l.length + l2.length →
      (Builtin.append_ #[ty, ty] o.type #[vb, .slice (some ad) l2.length c2]).run X.P w =
        .ok (.slice (some ⟨w.heap.size, 0, none⟩) (l.length + l2.length) (grownCap w (l.length + l2.length) cap E)) (w.drew.alloc (.cells ((l.flatMap enc).toArray ++ (l2.flatMap enc).toArray ++ Builtin.zeroCells z.cells (grownCap w (l.length + l2.length) cap E - (l.length + l2.length))) E)) →
      o.wpIn (fence X.rnd) 0 X.P a w K' Q := fun vb cap hvb hone hcap hrun => by
    subst hvb
    have hge := grownCap_ge w (l.length + l2.length) cap E
    have hcm : grownCap w (l.length + l2.length) cap E ≤ maxLen := grownCap_le_maxLen w (l.length + l2.length) cap E hm
    have hrow : Row0 E size enc (.slice (some ⟨w.heap.size, 0, none⟩) (l.length + l2.length) (grownCap w (l.length + l2.length) cap E)) (l ++ l2) (w.drew.alloc (.cells ((l.flatMap enc).toArray ++ (l2.flatMap enc).toArray ++ Builtin.zeroCells z.cells (grownCap w (l.length + l2.length) cap E - (l.length + l2.length))) E)) := by
      refine ⟨⟨by rw [flatMap_len hl], .inr ⟨w.heap.size, _, _, by rw [List.length_append], Nat.zero_le _, heap_alloc_new w.drew _, by rw [List.length_append]; exact hge, hcm, ?_, ?_⟩⟩, fun q hq => hone2 q hq hone⟩
      · simp only [Array.size_append, List.size_toArray, size_zeroCells, hzs, hfl, hyl, ← Nat.add_mul]
        congr 1
        omega
      · simp only [Array.toList_append, List.append_assoc, List.flatMap_append]
        rw [← List.append_assoc, List.length_append, Nat.add_mul, ← hfl, ← hyl, ← List.length_append]
        exact List.take_left
    have hR : Reach u0 C0 τ0 σ (w.drew.alloc (.cells ((l.flatMap enc).toArray ++ (l2.flatMap enc).toArray ++ Builtin.zeroCells z.cells (grownCap w (l.length + l2.length) cap E - (l.length + l2.length))) E)) (Res.queS E size enc (.slice (some ⟨w.heap.size, 0, none⟩) (l.length + l2.length) (grownCap w (l.length + l2.length) cap E)) (l ++ l2) :: F) :=
      hw.turn1 (Value.ownBlock v) (some w.heap.size) rfl rfl rfl rfl rfl (by simp) (Nat.le_succ _) (fun k hk _ => alloc_old w.drew _ k hk) ⟨l ++ l2, _, 0, hrow, Nat.zero_le _, rfl, .inl (viewV_zero size _).symm, by rw [List.length_append]; omega⟩ (fun b hb => .inr (by cases hb; exact Nat.le_refl _))
    have hk2 := k (some ⟨w.heap.size, 0, none⟩) (grownCap w (l.length + l2.length) cap E)
    rw [List.length_append] at hk2
    refine Oper.wp_of_run (w' := _) (v := .slice (some ⟨w.heap.size, 0, none⟩) (l.length + l2.length) (grownCap w (l.length + l2.length) cap E)) ?_ (hK _ _ _ _ _ hk2 hR (put_dst ha hd hn _))
    rw [ha.eval']
    simp [execOp, ho, resolve, invoke, builtin, hx, hy, hrun]
  subst hsi hib
  rcases que_cases hQ with ⟨L, g, q, c, cur, hk, rfl, rfl, hg, h3, h4, h5, h6, h7, h8, h9⟩ | ⟨rfl, b, rfl⟩
  · rw [List.length_drop] at *
    have holds : ∀ j u, ((L.drop q).flatMap enc)[j]? = some u → w.cell? ((⟨g, q * i.size, none⟩ : Addr).add j) = some u := fun j u hj => by
      rw [flat_drop hl, List.getElem?_drop, ← h6, List.getElem?_take] at hj
      split at hj
      · rw [loc_add]
        simp only [World.cell?, hg, Option.isSome_none, Bool.false_eq_true, if_false]
        rw [← Array.getElem?_toList]; exact hj
      · cases hj
    have hone : ∀ u ∈ (L.drop q).flatMap enc, u.oneCell' = true := fun u hu => h8 u (by rw [flat_drop hl] at hu; exact List.mem_of_mem_drop hu)
    by_cases hroom : L.length - q + l2.length ≤ c - q
    · have e1 : q * i.size + (L.length - q) * i.size = L.length * i.size := by rw [← Nat.add_mul]; congr 1; omega
      have hfit : q * i.size + (L.length - q) * i.size + (l2.flatMap enc).length ≤ cur.size := by
        rw [e1, hyl, h5, ← Nat.add_mul]; exact Nat.mul_le_mul_right _ (by omega)
      have hr := run_append_roomO (P := X.P) ty o.type E i ht hi g (q * i.size) (L.length - q) (c - q) cur hg ad l2.length c2 (l2.flatMap enc) hl2 hc2 h1 hroom hfit
      rw [e1] at hr
      have hrow : Row0 E i.size enc (.slice (some ⟨g, 0, none⟩) (L.length + l2.length) c) (L ++ l2) (w.setRow g (cur.toList.take (L.length * i.size) ++ l2.flatMap enc ++ cur.toList.drop (L.length * i.size + (l2.flatMap enc).length)).toArray) := by
        refine ⟨⟨by rw [flatMap_len hl], .inr ⟨g, c, _, by rw [List.length_append], Nat.zero_le _, setRow_heap w g cur _ E _ hg, by rw [List.length_append]; omega, h4, ?_, ?_⟩⟩, fun u hu => ?_⟩
        · simp only [List.size_toArray, List.length_append, List.length_take, List.length_drop, Array.length_toList]
          omega
        · rw [h6, List.flatMap_append, List.length_append, Nat.add_mul, ← h7, ← hyl, ← List.length_append]
          exact List.take_left
        · rw [List.flatMap_append] at hu
          rcases List.mem_append.1 hu with hu | hu
          · exact h8 u hu
          · exact h1 u hu
      have hR : Reach u0 C0 τ0 σ (w.setRow g (cur.toList.take (L.length * i.size) ++ l2.flatMap enc ++ cur.toList.drop (L.length * i.size + (l2.flatMap enc).length)).toArray) (Res.queS E i.size enc (.slice (some ⟨g, q * i.size, none⟩) (L.length - q + l2.length) (c - q)) (L.drop q ++ l2) :: F) :=
        hw.turn1 (some g) (some g) rfl rfl rfl rfl rfl (by simp) (Nat.le_refl _) (fun k hk hn => setRow_other w g k _ (fun e => hn (by rw [e]))) ⟨L ++ l2, _, q, hrow, by rw [List.length_append]; omega, by rw [List.drop_append_of_le_length (by omega)], .inl (by
          unfold viewV
          simp only [Option.map_some, loc_add, Nat.zero_add]
          congr 1; omega), by rw [List.length_append, List.length_drop]; omega⟩ (fun b hb => .inl hb)
      have hk2 := k (some ⟨g, q * i.size, none⟩) (c - q)
      rw [List.length_append, List.length_drop] at hk2
      refine Oper.wp_of_run (w' := _) (v := .slice (some ⟨g, q * i.size, none⟩) (L.length - q + l2.length) (c - q)) ?_ (hK _ _ _ _ _ hk2 hR (put_dst ha hd hn _))
      rw [ha.eval']
      simp [execOp, ho, resolve, invoke, builtin, hx, hy, hr]
    · have hr := run_append_grow (P := X.P) (w := w) ty o.type E i z ht hi hiz ⟨g, q * i.size, none⟩ (L.length - q) (c - q) ((L.drop q).flatMap enc) hfl holds ad l2.length c2 (l2.flatMap enc) hl2 hc2 (by omega) (by omega) (growslice_fits (by omega) hb0)
      exact fin _ (c - q) rfl hone (by omega) hr
  · simp only [List.length_nil, Nat.zero_add, List.flatMap_nil] at *
    cases b with
    | some b =>
      have hr := run_append_grow (P := X.P) (w := w) ty o.type E i z ht hi hiz b 0 0 [] (by simp) (by simp) ad l2.length c2 (l2.flatMap enc) hl2 hc2 (by omega) (by omega) (growslice_fits (by omega) (by simpa using hb0))
      simp only [Nat.zero_add] at hr
      exact fin _ 0 rfl (by simp) h2 hr
    | none =>
      have hr := run_append_nil (P := X.P) w ty o.type E i z ht hi hiz ad l2.length c2 (l2.flatMap enc) hl2 hc2 (by omega) (by omega) (by omega)
      exact fin _ 0 rfl (by simp) h2 (by simpa using hr)
end
end Go.E
end

section
namespace Go.E
open Go
section
variable {P : Program} {n : Nat} {e : Env} {σ : Store} {H : List Res} {o : Oper} {x y : Operand}
end
theorem strCells_bs (l : List UInt8) : Lib.strCells (bs l) = l.flatMap encU8 := by
  have h : ∀ l : List UInt8, l.map (fun b => Value.int IntKind.u8 ((b.toNat : Nat) : Int)) = l.flatMap encU8 := fun l => by
    induction l with
    | nil => rfl
    | cons x l ih => rw [List.map_cons, List.flatMap_cons, ih]; rfl
  simp [Lib.strCells, bs]
  exact h l
theorem appendS_blk {P : Program} {w w' : World} (base : Nat) (t u ty e : TypeId) (i : TypeInfo) (ht : P.underlying t = some (.slice e)) (hu : P.underlying u = some .string) (hi : P.info? e = some i) (hz : i.zero = some (.int .u8 0))
    (hsize : i.size = 1) (hby : i.bytes = 1) {v v' : Value} {n : Nat} {xs : List Value} (hown : w.ownsRow base e 1 v n xs) (s : ByteArray)
    (h63 : n + s.size ≤ maxLen) (hbytes : n + s.size ≤ 140737488355328) (hrun : (Builtin.append_ #[t, u] ty #[v, .string s]).run P w = .ok v' w') :
    (v'.ownBlock = v.ownBlock ∨ v'.ownBlock = some w.heap.size) ∧ w.drawn ≤ w'.drawn := by
  have hsmall : n + s.size ≤ 9223372036854775807 := by simp only [maxLen] at h63; omega
  have hxl : xs.length = n := by simpa using hown.1
  rcases hown.2 with ⟨rfl, rfl⟩ | ⟨g, cap, cur, rfl, hbg, hg, hnc, hcm, hcs, htake⟩
  · by_cases hm : s.size = 0
    · have hf := Lib.run_firstCells_string (P := P) (w := w) 1 s
      rw [hm] at hf
      have hr : (Builtin.append_ #[t, u] ty #[.slice none 0 0, .string s]).run P w = .ok (.slice none 0 0) w := by
        simp [Builtin.append_, run_underlying ht, run_underlying hu, sizeOf, typeInfo, hi, hsize, Builtin.lenOf, hm, hf]
      rw [hrun] at hr; cases hr; exact ⟨.inl rfl, Nat.le_refl _⟩
    · have hr := run_append_nil_string (P := P) w t u ty e i (.int .u8 0) ht hu hi hz s (by omega) (by omega) (by rw [hby]; omega)
      rw [hrun] at hr; cases hr; exact ⟨.inr rfl, Nat.le_succ _⟩
  · by_cases hroom : n + s.size ≤ cap
    · have hcs' : cur.size = cap := by simpa using hcs
      have hr := Lib.run_append_room_string (P := P) (w := w) t u ty e i ht hu hi hsize g n cap cur hg s hroom (by omega)
      rw [hrun] at hr; cases hr; exact ⟨.inl rfl, Nat.le_refl _⟩
    · have holds : ∀ j u, xs[j]? = some u → w.cell? ((⟨g, 0, none⟩ : Addr).add j) = some u := hown.cells (g := g) rfl
      have hr := Lib.run_append_grow_string (P := P) (w := w) t u ty e i (.int .u8 0) ht hu hi hz ⟨g, 0, none⟩ n cap xs (by rw [hsize]; simpa using hxl) holds s (by omega) (by omega) (by rw [hby]; exact growslice_fits (by omega) (by omega))
      rw [hrun] at hr; cases hr; exact ⟨.inr rfl, Nat.le_succ _⟩
theorem OpOk.appendStr {X : Ctx} {e : Env} {σ : Store} {F : List Res} {o : Oper} {x y : Operand} {K : Env → Store → List Res → Prop} {T ty E d : Nat} {v : Value} {l m : List UInt8}
    (ho : o.op = .call { callee := .builtin .append, args := #[x, y], argTypes := #[T, ty] }) (ht : X.P.underlying T = some (.slice E)) (hu : X.P.underlying ty = some .string) (hs : szOf X.P E = some 1) (hby : byOf X.P E = some 1) (hz : zeroOf X.P E = some (.int .u8 0))
    (hd : o.dst = some d) (hn : Nat.blt d X.n = true) (hx : ev e x = v) (hy : ev e y = .string (bs m)) (hb : l.length + m.length ≤ 140737488355328)
    (k : ∀ a c, K (upd e d (.slice a (l ++ m).length c)) σ (Res.rowS E 1 encU8 (.slice a (l ++ m).length c) (l ++ m) :: F)) : OpOk X o e σ (Res.rowS E 1 encU8 v l :: F) K := by
  obtain ⟨i, hi, hsi⟩ := szOf_info hs
  have hiz : i.zero = some (.int .u8 0) := by simpa [zeroOf, hi] using hz
  have hib : i.bytes = 1 := by simpa [byOf, hi] using hby
  intro u0 C0 τ0 w a hw ha K' Q hK
  obtain ⟨hown, hone, hbg⟩ := hw.holds _ (List.mem_cons_self ..)
  have hsz : (bs m).size = m.length := by show (bs m).data.size = _; simp [bs]
  have h1 : l.length + (bs m).size ≤ maxLen := by rw [hsz]; unfold maxLen; omega
  have h2 : l.length + (bs m).size ≤ 140737488355328 := by rw [hsz]; exact hb
  obtain ⟨v', w', hr, hown', hg, _⟩ := Lib.run_append_own_string (P := X.P) (w := w) 0 T ty o.type E i ht hu hi hiz hsi hib v l.length _ hown (bs m) h1 h2 (Nat.zero_le _)
  obtain ⟨hblk, hdr⟩ := appendS_blk 0 T ty o.type E i ht hu hi hiz hsi hib hown (bs m) h1 h2 hr
  rw [hsz, strCells_bs, ← List.flatMap_append, ← List.length_append] at hown'
  have hbk : ∀ b, v'.ownBlock = some b → v.ownBlock = some b ∨ w.heap.size ≤ b := fun b hb => by
    rcases hblk with h | h
    · exact .inl (h ▸ hb)
    · rw [h] at hb; cases hb; exact .inr (Nat.le_refl _)
  have hR : Reach u0 C0 τ0 σ w' (Res.rowS E 1 encU8 v' (l ++ m) :: F) :=
    hw.turn1 (Value.ownBlock v) (Value.ownBlock v') rfl rfl hg.os hg.tape hg.output hg.size hdr (fun q hq hne => hg.block q hq (fun hx => hne hx.symm)) ⟨hown', fun q hq => by
      obtain ⟨z, _, hz⟩ := List.mem_flatMap.1 hq
      exact encU8_one z q hz, by rw [List.length_append]; omega⟩ hbk
  obtain ⟨av, cv, rfl, _, _⟩ := isSl_row hown'
  refine Oper.wp_of_run (w' := w') (v := .slice av (l ++ m).length cv) ?_ (hK _ _ _ _ _ (k av cv) hR (put_dst ha hd hn _))
  rw [ha.eval']
  simp [execOp, ho, resolve, invoke, builtin, hx, hy, hr]
def Res.any (o : Option Nat) : Res where
  bl := o.toList
  holds w := ∀ b, o = some b → b < w.heap.size
  lt w b hb h := h b (by simpa using hb)
  keep w w' hb h := fun b e => by
    have h1 := h b e
    have h2 := hb b (by rw [e]; simp)
    rw [Array.getElem?_eq_getElem h1] at h2
    exact (Array.getElem?_eq_some_iff.1 h2).1
end Go.E
end

section
namespace Go.E
open Go
abbrev Gh := Nat → Option Addr × Nat
structure PO where
  dst : Nat
  use : List Nat
  val : List (Option Addr × Nat) → Value
  res : List (Option Addr × Nat) → List Res
  eat : List Nat
def PO.no : PO := ⟨0, [], fun _ => undef, fun _ => [], []⟩
def po (D : List PO) (k : Nat) : PO := D.getD k PO.no
def pv (D : List PO) (k : Nat) (γ : Gh) : Value := (po D k).val ((po D k).use.map γ)
def pr (D : List PO) (k : Nat) (γ : Gh) : List Res := (po D k).res ((po D k).use.map γ)
def eaten (D : List PO) (L : Array Bool) (k : Nat) : Bool := (List.range D.length).any fun i => L.getD i false && (po D i).eat.contains k
def pick (p : Nat → Bool) (f : Nat → List Res) (n : Nat) : List Res := (List.range n).flatMap fun k => if p k = true then f k else []
def pR (D : List PO) (L : Array Bool) (γ : Gh) : List Res := pick (fun k => L.getD k false && !eaten D L k) (fun k => pr D k γ) D.length
section
variable {X : Ctx} {ops : Array Oper} {Q : QP} {e0 : Env} {σ : Store} {H0 : List Res} {late : List Nat} {f : Nat} {D : List PO}
structure PJ (ops : Array Oper) (e0 : Env) (H0 : List Res) (D : List PO) (L : Array Bool) (γ : Gh) (e : Env) (H : List Res) : Prop where
  size : L.size = ops.size
  on : ∀ k, k < D.length → L.getD k false = true → e (po D k).dst = pv D k γ
  off : ∀ t, (∀ k, k < D.length → L.getD k false = true → (po D k).dst ≠ t) → e t = e0 t
  rest : ∀ j, D.length ≤ j → L.getD j false = false
  heap : H.Perm (H0 ++ pR D L γ)
structure ChkI (ops : Array Oper) (D : List PO) (i : Nat) : Prop where
  deps : ∃ o, ops[i]? = some o ∧ ∀ e ∈ o.after, Region.binds .any e = true → e.on < i
  use : ∀ j ∈ (po D i).use, j = i ∨ after? ops ops.size i j = true
  eat : ∀ j ∈ (po D i).eat, j < i ∧ after? ops ops.size i j = true
  dst : ∀ k, k < D.length → k ≠ i → (po D k).dst ≠ (po D i).dst
  sep : ∀ k, k < D.length → k ≠ i → ∀ j ∈ (po D i).eat, (po D k).eat.contains j = false
  ord : (List.range D.length).filter (fun k => (po D i).eat.contains k) = (po D i).eat
end
end Go.E
end
