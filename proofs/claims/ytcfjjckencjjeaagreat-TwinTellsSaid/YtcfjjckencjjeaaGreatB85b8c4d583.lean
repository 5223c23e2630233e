/- Parts of a proof, one behind the other: what a machine reaches, functions decompiled, plain lemmas. Conditions stand with each lemma. -/
import Derived.Test.YtcfjjckencjjeaaGreatBfe2174d4b5
import Derived.Test.YtcfjjckencjjeaaGreatBb8b5bcad2e
import Derived.Shelf.Sort.Plain
import Derived.Shelf.Slices.In.SortNone

/- P1 -/
section
/- Decompiled: what a transducer needs. -/
set_option linter.unusedVariables false
set_option linter.unusedSimpArgs false
namespace Go.Proofs.YtcfjjckencjjeaaGreat
open Go Go.E Go.E.OpVal Go.E.OpOk Go.Proofs.Tryz
set_option maxRecDepth 100000
private theorem ag107 : Go.E.aggOf Tryz.prog 107 = some false := by kernel_rfl
private theorem ag22 : Go.E.aggOf Tryz.prog 22 = some false := by kernel_rfl
private theorem ag23 : Go.E.aggOf Tryz.prog 23 = some false := by kernel_rfl
private theorem ag25 : Go.E.aggOf Tryz.prog 25 = some true := by kernel_rfl
private theorem ag3 : Go.E.aggOf Tryz.prog 3 = some false := by kernel_rfl
private theorem ag38 : Go.E.aggOf Tryz.prog 38 = some true := by kernel_rfl
private theorem ag43 : Go.E.aggOf Tryz.prog 43 = some true := by kernel_rfl
private theorem ag66 : Go.E.aggOf Tryz.prog 66 = some false := by kernel_rfl
private theorem ag68 : Go.E.aggOf Tryz.prog 68 = some false := by kernel_rfl
private theorem ag9 : Go.E.aggOf Tryz.prog 9 = some false := by kernel_rfl
private theorem ag96 : Go.E.aggOf Tryz.prog 96 = some false := by kernel_rfl
private theorem by3 : Go.E.byOf Tryz.prog 3 = some 8 := by kernel_rfl
private theorem by38 : Go.E.byOf Tryz.prog 38 = some 72 := by kernel_rfl
private theorem by4 : Go.E.byOf Tryz.prog 4 = some 1 := by kernel_rfl
private theorem by43 : Go.E.byOf Tryz.prog 43 = some 24 := by kernel_rfl
private theorem by68 : Go.E.byOf Tryz.prog 68 = some 24 := by kernel_rfl
private theorem fo25_0 : Go.E.foOf Tryz.prog 25 0 = some 0 := by kernel_rfl
private theorem fo25_1 : Go.E.foOf Tryz.prog 25 1 = some 1 := by kernel_rfl
private theorem fo25_2 : Go.E.foOf Tryz.prog 25 2 = some 2 := by kernel_rfl
private theorem fo25_3 : Go.E.foOf Tryz.prog 25 3 = some 3 := by kernel_rfl
private theorem fo38_0 : Go.E.foOf Tryz.prog 38 0 = some 0 := by kernel_rfl
private theorem fo38_1 : Go.E.foOf Tryz.prog 38 1 = some 1 := by kernel_rfl
private theorem fo38_2 : Go.E.foOf Tryz.prog 38 2 = some 2 := by kernel_rfl
private theorem fo38_3 : Go.E.foOf Tryz.prog 38 3 = some 6 := by kernel_rfl
private theorem fo38_4 : Go.E.foOf Tryz.prog 38 4 = some 7 := by kernel_rfl
private theorem fo43_0 : Go.E.foOf Tryz.prog 43 0 = some 0 := by kernel_rfl
private theorem fo43_1 : Go.E.foOf Tryz.prog 43 1 = some 1 := by kernel_rfl
private theorem pf37 : Go.E.plainF Tryz.prog 37 = true := by kernel_rfl
private theorem pf38 : Go.E.plainF Tryz.prog 38 = true := by kernel_rfl
private theorem pf39 : Go.E.plainF Tryz.prog 39 = true := by kernel_rfl
private theorem pf53 : Go.E.plainF Tryz.prog 53 = true := by kernel_rfl
private theorem pf54 : Go.E.plainF Tryz.prog 54 = true := by kernel_rfl
private theorem pf62 : Go.E.plainF Tryz.prog 62 = true := by kernel_rfl
private theorem pl25 : Go.E.plOf Tryz.prog 25 = some #[(0, 1), (1, 1), (2, 1), (3, 1)] := by kernel_rfl
private theorem pl38 : Go.E.plOf Tryz.prog 38 = some #[(0, 1), (1, 1), (2, 4), (6, 1), (7, 1)] := by kernel_rfl
private theorem pl43 : Go.E.plOf Tryz.prog 43 = some #[(0, 1), (1, 1)] := by kernel_rfl
private theorem sz107 : Go.E.szOf Tryz.prog 107 = some 1 := by kernel_rfl
private theorem sz22 : Go.E.szOf Tryz.prog 22 = some 1 := by kernel_rfl
private theorem sz23 : Go.E.szOf Tryz.prog 23 = some 1 := by kernel_rfl
private theorem sz25 : Go.E.szOf Tryz.prog 25 = some 4 := by kernel_rfl
private theorem sz3 : Go.E.szOf Tryz.prog 3 = some 1 := by kernel_rfl
private theorem sz38 : Go.E.szOf Tryz.prog 38 = some 8 := by kernel_rfl
private theorem sz43 : Go.E.szOf Tryz.prog 43 = some 2 := by kernel_rfl
private theorem sz66 : Go.E.szOf Tryz.prog 66 = some 1 := by kernel_rfl
private theorem sz68 : Go.E.szOf Tryz.prog 68 = some 1 := by kernel_rfl
private theorem sz96 : Go.E.szOf Tryz.prog 96 = some 1 := by kernel_rfl
private theorem ze107 : Go.E.zeroOf Tryz.prog 107 = some (.nilFunc) := by kernel_rfl
private theorem ze25 : Go.E.zeroOf Tryz.prog 25 = some (.agg #[.int .i64 0, .slice none 0 0, .slice none 0 0, .slice none 0 0]) := by kernel_rfl
private theorem ze3 : Go.E.zeroOf Tryz.prog 3 = some (.int .i64 0) := by kernel_rfl
private theorem ze38 : Go.E.zeroOf Tryz.prog 38 = some (.agg #[.int .i64 0, .int .i64 0, .int .u64 0, .int .u64 0, .int .u64 0, .int .u64 0, .string ByteArray.empty, .bool false]) := by kernel_rfl
private theorem ze4 : Go.E.zeroOf Tryz.prog 4 = some (.bool false) := by kernel_rfl
private theorem ze43 : Go.E.zeroOf Tryz.prog 43 = some (.agg #[.int .i64 0, .string ByteArray.empty]) := by kernel_rfl
private theorem ze66 : Go.E.zeroOf Tryz.prog 66 = some (.slice none 0 0) := by kernel_rfl
private theorem ze68 : Go.E.zeroOf Tryz.prog 68 = some (.slice none 0 0) := by kernel_rfl
private theorem ze96 : Go.E.zeroOf Tryz.prog 96 = some (.slice none 0 0) := by kernel_rfl

noncomputable def prune_reach_1_b1 (x2 : List (List Int)) (x0 : Int) (self_ : Int → (List Bool) → (List (List Int)) → Option (List Bool)) (l124 : List Bool) (k127 : Nat) : Option (((List Bool) × Nat) ⊕ ((List Bool))) :=
 iteO (decide (((k127 : Nat) : Int) < (((nth x2 x0.toNat ([] : List Int)).length : Nat) : Int))) (bnd (self_ (nth (nth x2 x0.toNat ([] : List Int)) k127 (0 : Int)) l124 x2) (fun v21 => nxt (v21, (k127 + 1)))) (fin (some l124))
noncomputable def prune_reach_1F (self_ : Int → (List Bool) → (List (List Int)) → Option (List Bool)) (x0 : Int) (x1 : List Bool) (x2 : List (List Int)) : Option ((List Bool)) :=
 grd (0 ≤ x0 ∧ x0 < (x1.length : Int)) (iteO (nth x1 x0.toNat false) (some x1) (grd (0 ≤ x0 ∧ x0 < (x1.length : Int)) (grd (0 ≤ x0 ∧ x0 < (x2.length : Int)) (iter (fun q : (List Bool) × Nat => prune_reach_1_b1 x2 x0 self_ q.1 q.2) ((x1.set x0.toNat true), 0)))))
noncomputable def prune_reach_1 : Nat → Int → (List Bool) → (List (List Int)) → Option (List Bool)
 | 0 => fun _ _ _ => none
 | n+1 => prune_reach_1F (prune_reach_1 n)
theorem prune_reach_1_conF {self_ : Int → (List Bool) → (List (List Int)) → Option (List Bool)} (self__con : ∀ {σ : Store} {x0 : Int} {x1 : List Bool} {b1_0 : Nat} {Eb1 : Nat} {a1_1 : Option Addr} {c1_2 : Nat} {x2 : List (List Int)} {b2_0 : Nat} {Eb2 : Nat} {a2_1 : Option Addr} {c2_2 : Nat} {b3_0 : Nat} {Eb3 : Nat} (f2_3 : RZ σ (pkSl 1 Go.E.encI Go.E.encI_len) (.slice a2_1 x2.length c2_2) x2) {r : (List Bool)} (hh : self_ x0 x1 x2 = some r),
  Con Tryz.prog 62 #[.int .i64 x0, loc b1_0 0, loc b2_0 0, loc b3_0 0] σ [Res.cells b1_0 #[.slice a1_1 x1.length c1_2] Eb1, Res.rowS 4 1 encB (.slice a1_1 x1.length c1_2) x1, Res.cells b2_0 #[.slice a2_1 x2.length c2_2] Eb2, Res.cells b3_0 #[.func (.func 62) #[] #[loc b1_0 0, loc b2_0 0, loc b3_0 0]] Eb3] (fun v σ' H' => ∃ (ao1 : Option Addr), ∃ (co2 : Nat), v = .tuple #[] ∧ σ = σ' ∧ H' = [Res.cells b1_0 #[.slice ao1 r.length co2] Eb1, Res.rowS 4 1 encB (.slice ao1 r.length co2) r, Res.cells b2_0 #[.slice a2_1 x2.length c2_2] Eb2, Res.cells b3_0 #[.func (.func 62) #[] #[loc b1_0 0, loc b2_0 0, loc b3_0 0]] Eb3])) {σ : Store} {x0 : Int} {x1 : List Bool} {b1_0 : Nat} {Eb1 : Nat} {a1_1 : Option Addr} {c1_2 : Nat} {x2 : List (List Int)} {b2_0 : Nat} {Eb2 : Nat} {a2_1 : Option Addr} {c2_2 : Nat} {b3_0 : Nat} {Eb3 : Nat} (f2_3 : RZ σ (pkSl 1 Go.E.encI Go.E.encI_len) (.slice a2_1 x2.length c2_2) x2) {r : (List Bool)} (hh : prune_reach_1F self_ x0 x1 x2 = some r) :
  Con Tryz.prog 62 #[.int .i64 x0, loc b1_0 0, loc b2_0 0, loc b3_0 0] σ [Res.cells b1_0 #[.slice a1_1 x1.length c1_2] Eb1, Res.rowS 4 1 encB (.slice a1_1 x1.length c1_2) x1, Res.cells b2_0 #[.slice a2_1 x2.length c2_2] Eb2, Res.cells b3_0 #[.func (.func 62) #[] #[loc b1_0 0, loc b2_0 0, loc b3_0 0]] Eb3] (fun v σ' H' => ∃ (ao1 : Option Addr), ∃ (co2 : Nat), v = .tuple #[] ∧ σ = σ' ∧ H' = [Res.cells b1_0 #[.slice ao1 r.length co2] Eb1, Res.rowS 4 1 encB (.slice ao1 r.length co2) r, Res.cells b2_0 #[.slice a2_1 x2.length c2_2] Eb2, Res.cells b3_0 #[.func (.func 62) #[] #[loc b1_0 0, loc b2_0 0, loc b3_0 0]] Eb3]) := by
 dsimp only [prune_reach_1F] at hh
 have f2_3b := f2_3.big
 refine Con.mk (n := 27) Tryz.func62 z z z (fun w0 => ?_)
 refine TC.weakR (TC.seq (TC.a (TL.w z (loadLoc z ag66 z (i := 0) z z) (TL.i z z ?_))))
 have u3 := grd_c hh
 replace hh := grd_t hh
 refine TL.isSl (i := 1) z (fun hs107 _ _ => ?_)
 refine TL.w z (OpVal.index z underlying66 sz4 z z hs107 u3.1 u3.2) (TL.w z (loadO1 false z ag4 z (q := 1) z encB_len (by omega) z) (TL.en (TC.cB z hh (fun h108 hh => ?_) (fun h108 hh => ?_))))
 ·refine TC.ret (S.r ?_)
  obtain rfl := so hh
  refine ⟨_, Sub.f [3, 3, 3, 3] 4, ?_⟩
  exact ro [Res.cells b1_0 #[.slice a1_1 x1.length c1_2] Eb1, Res.rowS 4 1 encB (.slice a1_1 x1.length c1_2) x1, Res.cells b2_0 #[.slice a2_1 x2.length c2_2] Eb2, Res.cells b3_0 #[.func (.func 62) #[] #[loc b1_0 0, loc b2_0 0, loc b3_0 0]] Eb3] z RVs.nil ⟨a1_1, c1_2, z, z, z⟩
 ·refine TC.skip (S.n (TC.a (TL.w z (loadLoc z ag66 z (i := 0) z z) (TL.i z z ?_))))
  have u7 := grd_c hh
  replace hh := grd_t hh
  refine TL.isSl (i := 1) z (fun hs109 _ _ => ?_)
  refine TL.w z (OpVal.index z underlying66 sz4 z z hs109 u7.1 u7.2) (TL.front 1 z z ?_)
  have hn110 : (x1.set x0.toNat true).length = x1.length := by rw [List.length_set]
  refine TL.op z (storeS true z sz4 z z z z encB_len encB_one (by omega) (by omega) ?_)
  refine TL.en (TC.a (TL.w z (loadLoc z ag96 z (i := 2) z z) (TL.i z z ?_)))
  have u11 := grd_c hh
  replace hh := grd_t hh
  refine TL.w z (OpVal.index z underlying96 sz68 z z f2_3.isSl u11.1 u11.2) ?_
  obtain ⟨p111, hk111, hg111⟩ := RZ.seg f2_3 x0.toNat (by omega)
  replace hk111 : RS _ 1 Go.E.encI (.slice p111.1 (nth x2 x0.toNat ([] : List Int)).length p111.2) (nth x2 x0.toNat ([] : List Int)) := hk111
  have hk111b := hk111.rv.big
  refine TL.w z (OpVal.of (loadSeg0 z ag68 z hg111 z) (v' := .slice p111.1 ((nth x2 x0.toNat ([] : List Int)).length) p111.2) z) (TL.w z (lenC z underlying68 z) (TL.i z z (TL.en (TC.block ?_))))
  rw [← hn110]
  refine TC.loopG (α := ((List Bool) × Nat) × ((Option Addr) × Nat)) (rgs [(6, 1), (19, 8)]) (fun g => [(19, .int .i64 ((g.1.2 : Nat) : Int))]) (fun g => [Res.cells b3_0 #[.func (.func 62) #[] #[loc b1_0 0, loc b2_0 0, loc b3_0 0]] Eb3, Res.cells b1_0 #[.slice g.2.1 g.1.1.length g.2.2] Eb1, Res.rowS 4 1 encB (.slice g.2.1 g.1.1.length g.2.2) g.1.1, Res.cells b2_0 #[.slice a2_1 x2.length c2_2] Eb2]) (fun g => σ) (fun g => iter (fun q : (List Bool) × Nat => prune_reach_1_b1 x2 x0 self_ q.1 q.2) g.1 = some r) (fun g => rounds (fun q : (List Bool) × Nat => prune_reach_1_b1 x2 x0 self_ q.1 q.2) g.1) (((x1.set x0.toNat true), 0), (a1_1, c1_2)) (Sub.f [2, 1, 2, 3] 4) z (by repeat (first | exact trivial | refine ⟨z, ?_⟩)) hh (fun g1 j1 hg1 => ?_)
  obtain ⟨⟨l124, k127⟩, ⟨a125, c126⟩⟩ := g1
  have hh := hg1; clear hg1
  try dsimp only
  obtain ⟨z1, hh, hR1⟩ := iter_e hh
  dsimp only [prune_reach_1_b1] at hh
  refine TC.isSl (i := 2) z (fun _ hb128 _ => ?_)
  refine TC.a (TL.w z (OpVal.lss z z z) (TL.en (TC.seq (TC.cD z hh (fun h129 hh => ?_) (fun h129 hh => ?_)))))
  ·refine TC.skip (S.n (TC.seq (TC.block (TC.a (TL.w z (indexN z underlying68 sz3 z z hk111.rv.sl (by omega)) (TL.w z (loadS1 (0 : Int) z ag3 z hk111 (by omega) z) (TL.i z z (TL.en (TC.region (TL.w z (loadLoc z ag107 z (i := 0) z z) (TL.i z z (TL.front 3 z z (TL.front 3 z z (TL.front 3 z z ?_))))))))))))))
   obtain ⟨v21, u21, hh⟩ := bnd_e hh
   refine TL.op z (OpOk.call (self__con f2_3 u21) z z pf62 z z z z ?_)
   rintro _ _ _ hle130 ⟨a130_1, c130_2, rfl, rfl, rfl⟩
   refine TL.nil (B.n (S.n (TC.region (TL.w z (OpVal.succ z z z (by omega)) (TL.i z z (TL.en ?_))))))
   obtain ⟨hh, hlt132⟩ := nxt_x hR1 hh
   exact lf ((v21, (k127 + 1)), (a130_1, c130_2)) hlt132 hh (Sub.f [2, 2, 2, 3] 4)
  ·refine TC.exit (S.x (S.x ?_))
   replace hh := fin_x hR1 hh
   refine TC.exitHere ?_
   obtain rfl := so hh
   refine ⟨_, Sub.f [3, 3, 3] 4, ?_⟩
   exact RetOk.mk' (rs := []) [Res.cells b1_0 #[.slice a125 l124.length c126] Eb1, Res.rowS 4 1 encB (.slice a125 l124.length c126) l124, Res.cells b2_0 #[.slice a2_1 x2.length c2_2] Eb2, Res.cells b3_0 #[.func (.func 62) #[] #[loc b1_0 0, loc b2_0 0, loc b3_0 0]] Eb3] z (.inr z) RVs.nil (List.sublist_append_left _ _) ⟨a125, c126, z, z, z⟩
theorem prune_reach_1_con {n_ : Nat} : ∀ {σ : Store} {x0 : Int} {x1 : List Bool} {b1_0 : Nat} {Eb1 : Nat} {a1_1 : Option Addr} {c1_2 : Nat} {x2 : List (List Int)} {b2_0 : Nat} {Eb2 : Nat} {a2_1 : Option Addr} {c2_2 : Nat} {b3_0 : Nat} {Eb3 : Nat} (f2_3 : RZ σ (pkSl 1 Go.E.encI Go.E.encI_len) (.slice a2_1 x2.length c2_2) x2) {r : (List Bool)} (hh : prune_reach_1 n_ x0 x1 x2 = some r),
  Con Tryz.prog 62 #[.int .i64 x0, loc b1_0 0, loc b2_0 0, loc b3_0 0] σ [Res.cells b1_0 #[.slice a1_1 x1.length c1_2] Eb1, Res.rowS 4 1 encB (.slice a1_1 x1.length c1_2) x1, Res.cells b2_0 #[.slice a2_1 x2.length c2_2] Eb2, Res.cells b3_0 #[.func (.func 62) #[] #[loc b1_0 0, loc b2_0 0, loc b3_0 0]] Eb3] (fun v σ' H' => ∃ (ao1 : Option Addr), ∃ (co2 : Nat), v = .tuple #[] ∧ σ = σ' ∧ H' = [Res.cells b1_0 #[.slice ao1 r.length co2] Eb1, Res.rowS 4 1 encB (.slice ao1 r.length co2) r, Res.cells b2_0 #[.slice a2_1 x2.length c2_2] Eb2, Res.cells b3_0 #[.func (.func 62) #[] #[loc b1_0 0, loc b2_0 0, loc b3_0 0]] Eb3]) := by
 induction n_ with
 | zero => intro σ x0 x1 b1_0 Eb1 a1_1 c1_2 x2 b2_0 Eb2 a2_1 c2_2 b3_0 Eb3 f2_3 r hh; exact absurd hh (by intro h_; cases h_)
 | succ k_ ih_ =>
  intro σ x0 x1 b1_0 Eb1 a1_1 c1_2 x2 b2_0 Eb2 a2_1 c2_2 b3_0 Eb3 f2_3 r hh
  exact prune_reach_1_conF (self_ := prune_reach_1 k_) @ih_ f2_3 hh

noncomputable def prune_reach_b1 (x0 : List Tip) (x1 : List (List Int)) (l121 : List Bool) (k124 : Nat) : Option (((List Bool) × Nat) ⊕ ((List Bool))) :=
 iteO (decide (((k124 : Nat) : Int) < ((x0.length : Nat) : Int))) (bnd (prune_reach_1 (l121.length + 1) ((nth x0 k124 Tip.zero).state) l121 x1) (fun v22 => nxt (v22, (k124 + 1)))) (fin (some l121))
noncomputable def prune_reach (x0 : List Tip) (x1 : List (List Int)) : Option ((List Bool)) :=
 grd (1 * x1.length ≤ 281474976710656) (iter (fun q : (List Bool) × Nat => prune_reach_b1 x0 x1 q.1 q.2) ((List.replicate x1.length false), 0))
def prune_reach_P (σ : Store) (r : (List Bool)) : Value → Store → List Res → Prop := fun v σ' H' =>
 ∃ (a1 : Option Addr), ∃ (c1 : Nat),  v = .slice a1 r.length c1 ∧ σ = σ' ∧ H' = [Res.rowS 4 1 encB (.slice a1 r.length c1) r]
theorem prune_reach_con {σ : Store} {x0 : List Tip} {a0_0 : Option Addr} {c0_0 : Nat} {x1 : List (List Int)} {a1_0 : Option Addr} {c1_0 : Nat} (f0_0 : RS σ 2 encTip (.slice a0_0 x0.length c0_0) x0) (f1_0 : RZ σ (pkSl 1 Go.E.encI Go.E.encI_len) (.slice a1_0 x1.length c1_0) x1) {r : (List Bool)} (hh : prune_reach x0 x1 = some r) :
  Con Tryz.prog 54 #[.slice a0_0 x0.length c0_0, .slice a1_0 x1.length c1_0] σ [] (prune_reach_P σ r) := by
 dsimp only [prune_reach] at hh
 have f0_0b := f0_0.rv.big
 have f1_0b := f1_0.big
 refine Con.mk (n := 25) Tryz.func54 z z z (fun w0 => ?_)
 refine TC.a (TL.op z (OpOk.box z z z z (fun b101 => ?_)))
 refine TL.s z z (TL.en (TC.a (TL.w z (loadLoc z ag96 z (i := 0) z z) (TL.w z (lenC z underlying96 z) ?_))))
 have u5 := grd_c hh
 replace hh := grd_t hh
 refine TL.op z (makeS2 (enc := encB) false z underlying66 sz4 by4 ze4 z z z z (by omega) (by decide) encB_len (by decide) z encB_one (fun a103 c104 => ?_))
 refine TL.op z (OpOk.alloc z ze66 z z (fun b106 => ?_))
 refine TL.op z (storeSl z sz66 z z z z z ?_)
 refine TL.en (TC.a (TL.op z (OpOk.alloc z ze107 z z (fun b108 => ?_))))
 refine TL.en (TC.a (TL.w z (makeFn z) (TL.op z (storeFn z sz107 z z z z z ?_))))
 refine TL.en (TC.seq (TC.a (TL.s z z (TL.w z (lenC z underlying22 z) (TL.i z z (TL.en (TC.block (TC.loopG (α := ((List Bool) × Nat) × ((Option Addr) × Nat)) (rgs [(8, 1), (15, 9)]) (fun g => [(15, .int .i64 ((g.1.2 : Nat) : Int))]) (fun g => [Res.cells b106 #[.slice g.2.1 g.1.1.length g.2.2] 66, Res.rowS 4 1 encB (.slice g.2.1 g.1.1.length g.2.2) g.1.1, Res.cells b108 #[.func (.func 62) #[] #[loc b106 0, loc b101 0, loc b108 0]] 107, Res.cells b101 #[.slice a1_0 x1.length c1_0] 96]) (fun g => σ) (fun g => iter (fun q : (List Bool) × Nat => prune_reach_b1 x0 x1 q.1 q.2) g.1 = some r) (fun g => rounds (fun q : (List Bool) × Nat => prune_reach_b1 x0 x1 q.1 q.2) g.1) (((List.replicate x1.length false), 0), (a103, c104)) (Sub.f [3, 1, 3, 3] 4) z (by repeat (first | exact trivial | refine ⟨z, ?_⟩)) hh (fun g1 j1 hg1 => ?_)))))))))
 obtain ⟨⟨l121, k124⟩, ⟨a122, c123⟩⟩ := g1
 have hh := hg1; clear hg1
 try dsimp only
 obtain ⟨z1, hh, hR1⟩ := iter_e hh
 dsimp only [prune_reach_b1] at hh
 refine TC.isSl (i := 1) z (fun _ hb125 _ => ?_)
 refine TC.a (TL.w z (OpVal.lss z z z) (TL.en (TC.seq (TC.cD z hh (fun h126 hh => ?_) (fun h126 hh => ?_)))))
 ·refine TC.skip (S.n (TC.seq (TC.block (TC.a (TL.w z (indexN z underlying22 sz43 z z f0_0.rv.sl (by omega)) (TL.w z (loadSA Tip.zero z ag43 sz43 z f0_0 (by omega) (by omega)) (TL.op z (OpOk.alloc z ze43 z z (fun b127 => ?_)))))))))
  refine TL.op z (storeAll z sz43 z z z z z z ?_)
  refine TL.en (TC.region (TL.w z (loadLoc z ag107 z (i := 3) z z) (TL.w z (fieldLoc z fo43_0 z) (TL.w z (loadLoc z ag3 z (i := 0) z z) (TL.front 3 z z (TL.front 4 z z (TL.front 4 z z (TL.front 4 z z ?_))))))))
  obtain ⟨v22, u22, hh⟩ := bnd_e hh
  refine TL.op z (OpOk.call (prune_reach_1_con f1_0 u22) z z pf62 z z z z ?_)
  rintro _ _ _ hle129 ⟨a129_1, c129_2, rfl, rfl, rfl⟩
  refine TL.nil (B.n (S.n (TC.region (TL.w z (OpVal.succ z z z (by omega)) (TL.i z z (TL.en ?_))))))
  obtain ⟨hh, hlt131⟩ := nxt_x hR1 hh
  exact lf ((v22, (k124 + 1)), (a129_1, c129_2)) hlt131 hh (Sub.f [2, 3, 3, 3] 4)
 ·refine TC.exit (S.x (S.x ?_))
  replace hh := fin_x hR1 hh
  refine TC.exitHere (S.n (TC.a (TL.w z (loadLoc z ag66 z (i := 0) z z) (TL.s z z (TL.en (TC.ofSub (Sub.f [1] 1) (TC.ret ?_)))))))
  obtain rfl := so hh
  exact ro [Res.rowS 4 1 encB (.slice a122 l121.length c123) l121] z (RVs.tmp z RVs.nil) ⟨a122, c123, z, z, z⟩

noncomputable def prune_useful_1_j1 {Sy : Type} (k125 : Nat) (s134 : Sy) : Option ((Nat × Sy) ⊕ (Sy)) :=
 nxt ((k125 + 1), s134)
noncomputable def prune_useful_1_b1 {Sy : Type} (v4 : (List Bool)) (v8 : (List Bool)) (Y : Sy → Int → Option (Sy × Bool)) (k125 : Nat) (s126 : Sy) : Option ((Nat × Sy) ⊕ (Sy)) :=
 iteO (decide (((k125 : Nat) : Int) < ((v4.length : Nat) : Int))) (iteO (nth v4 k125 false) (grd (k125 < v8.length) (iteO (nth v8 k125 false) (bnd (Y s126 ((k125 : Nat) : Int)) (fun v30 => iteO (!v30.2) (fin (some v30.1)) (prune_useful_1_j1 k125 v30.1))) (prune_useful_1_j1 k125 s126))) (prune_useful_1_j1 k125 s126)) (fin (some s126))
noncomputable def prune_useful_1 {Sy : Type} (Y : Sy → Int → Option (Sy × Bool)) (s0 : Sy) (x1 : Fst) (x2 : List (List Int)) (x3 : List (List Int)) : Option (Sy) :=
 bnd (prune_reach x1.starts x2) (fun v4 => bnd (prune_reach x1.ends x3) (fun v8 => iter (fun q : Nat × Sy => prune_useful_1_b1 v4 v8 Y q.1 q.2) (0, s0)))
theorem prune_useful_1_con {Sy : Type} {σ : Store} {Y : Sy → Int → Option (Sy × Bool)} {s0 : Sy} {x1 : Fst} {b1_0 : Nat} {Eb1 : Nat} {a1_1 : Option Addr} {c1_2 : Nat} {a1_4 : Option Addr} {c1_5 : Nat} {a1_7 : Option Addr} {c1_8 : Nat} {x2 : List (List Int)} {b2_0 : Nat} {Eb2 : Nat} {a2_1 : Option Addr} {c2_2 : Nat} {x3 : List (List Int)} {b3_0 : Nat} {Eb3 : Nat} {a3_1 : Option Addr} {c3_2 : Nat} (f1_3 : RS σ 2 encTip (.slice a1_1 x1.starts.length c1_2) x1.starts) (f1_6 : RS σ 2 encTip (.slice a1_4 x1.ends.length c1_5) x1.ends) (f1_9 : RS σ 8 encArc (.slice a1_7 x1.arcs.length c1_8) x1.arcs) (f2_3 : RZ σ (pkSl 1 Go.E.encI Go.E.encI_len) (.slice a2_1 x2.length c2_2) x2) (f3_3 : RZ σ (pkSl 1 Go.E.encI Go.E.encI_len) (.slice a3_1 x3.length c3_2) x3) {r : Sy} (hh : prune_useful_1 Y s0 x1 x2 x3 = some r) :
  IterOk Tryz.prog 53 [loc b1_0 0, loc b2_0 0, loc b3_0 0] (fun (x : Int) _ vs => vs = [.int .i64 x]) Y σ [Res.cells b1_0 #[.int .i64 x1.states, .slice a1_1 x1.starts.length c1_2, .slice a1_4 x1.ends.length c1_5, .slice a1_7 x1.arcs.length c1_8] Eb1, Res.cells b2_0 #[.slice a2_1 x2.length c2_2] Eb2, Res.cells b3_0 #[.slice a3_1 x3.length c3_2] Eb3] s0 r (fun σ' H' => H' = [Res.cells b1_0 #[.int .i64 x1.states, .slice a1_1 x1.starts.length c1_2, .slice a1_4 x1.ends.length c1_5, .slice a1_7 x1.arcs.length c1_8] Eb1, Res.cells b2_0 #[.slice a2_1 x2.length c2_2] Eb2, Res.cells b3_0 #[.slice a3_1 x3.length c3_2] Eb3]) := by
 intro l Z ry0 hY hys
 dsimp only [prune_useful_1] at hh
 have f1_3b := f1_3.rv.big
 have f1_6b := f1_6.rv.big
 have f1_9b := f1_9.rv.big
 have f2_3b := f2_3.big
 have f3_3b := f3_3.big
 refine Con.mk (n := 38) Tryz.func53 z z z (fun w0 => ?_)
 refine TC.weakR (TC.seq ?_)
 obtain ⟨v4, u4, hh⟩ := bnd_e hh
 obtain ⟨v8, u8, hh⟩ := bnd_e hh
 refine TC.draw [] (by kernel_rfl) (TA.a 0 z (fieldLoc z fo25_1 z) z (TA.b 1 z (loadLoc z ag22 z (i := 1) z z) z (TA.b 2 z (loadLoc z ag96 z (i := 2) z z) z (TA.a 4 z (fieldLoc z fo25_2 z) z (TA.b 5 z (loadLoc z ag22 z (i := 1) z z) z (TA.b 6 z (loadLoc z ag96 z (i := 3) z z) z (TA.ac 3 z (OpOk.call (prune_reach_con f1_3 f2_3 u4) z z pf54 z z z z ?_))))))))
 rintro _ _ _ hle113 ⟨a113_1, c113_1, rfl, rfl, rfl⟩
 refine k1 (TA.ac 7 z (OpOk.call (prune_reach_con f1_6 f3_3 u8) z z pf54 z z z z ?_))
 rintro _ _ _ hle115 ⟨a115_1, c115_1, rfl, rfl, rfl⟩
 refine k2 (TA.a 8 z (moveSl (.inr z) z) z (TA.a 9 z (moveSl (.inr z) z) z (TA.dn (S.n (TC.a (TL.s z z (TL.w z (lenC z underlying66 z) (TL.i z z (TL.en (TC.block (TC.loopG (α := (Nat × Sy) × (Res × Store)) (rgs [(7, 1), (18, 20)]) (fun g => [(18, .int .i64 ((g.1.1 : Nat) : Int))]) (fun g => [Res.rowS 4 1 encB (.slice a113_1 v4.length c113_1) v4, Res.rowS 4 1 encB (.slice a115_1 v8.length c115_1) v8, Res.cells b1_0 #[.int .i64 x1.states, .slice a1_1 x1.starts.length c1_2, .slice a1_4 x1.ends.length c1_5, .slice a1_7 x1.arcs.length c1_8] Eb1, Res.cells b2_0 #[.slice a2_1 x2.length c2_2] Eb2, Res.cells b3_0 #[.slice a3_1 x3.length c3_2] Eb3, g.2.1]) (fun g => g.2.2) (fun g => iter (fun q : Nat × Sy => prune_useful_1_b1 v4 v8 Y q.1 q.2) g.1 = some r ∧ YR Z g.1.2 g.2.2 g.2.1 ∧ Store.le σ g.2.2) (fun g => rounds (fun q : Nat × Sy => prune_useful_1_b1 v4 v8 Y q.1 q.2) g.1) ((0, s0), (ry0, σ)) (Sub.f [2, 5, 5, 5, 4, 5] 6) z (by repeat (first | exact trivial | refine ⟨z, ?_⟩)) ⟨hh, hys, (Store.le.refl _)⟩ (fun g1 j1 hg1 => ?_))))))))))))
 obtain ⟨⟨k125, s126⟩, ⟨ry127, τ129⟩⟩ := g1
 obtain ⟨hh, hy128, hle130⟩ := hg1
 try dsimp only at hy128 hle130 ⊢
 obtain ⟨z1, hh, hR1⟩ := iter_e hh
 dsimp only [prune_useful_1_b1] at hh
 skip
 refine TC.isSl (i := 0) z (fun _ hb131 _ => ?_)
 refine TC.isSl (i := 1) z (fun _ hb132 _ => ?_)
 refine TC.a (TL.w z (OpVal.lss z z z) (TL.en (TC.seq (TC.cD z hh (fun h133 hh => ?_) (fun h133 hh => ?_)))))
 ·refine TC.skip (S.n (TC.cutG (α := (Sy) × (Res × Store)) (rgs [(7, 1), (20, 17)]) (fun g => []) (fun g => [Res.rowS 4 1 encB (.slice a113_1 v4.length c113_1) v4, Res.rowS 4 1 encB (.slice a115_1 v8.length c115_1) v8, Res.cells b1_0 #[.int .i64 x1.states, .slice a1_1 x1.starts.length c1_2, .slice a1_4 x1.ends.length c1_5, .slice a1_7 x1.arcs.length c1_8] Eb1, Res.cells b2_0 #[.slice a2_1 x2.length c2_2] Eb2, Res.cells b3_0 #[.slice a3_1 x3.length c3_2] Eb3, g.2.1]) (fun g => g.2.2) (fun g => prune_useful_1_j1 k125 g.1 = some z1 ∧ YR Z g.1 g.2.2 g.2.1 ∧ Store.le τ129 g.2.2) ?_ (fun g j hg => ?_)))
  ·skip
   refine TC.block (TC.a (TL.i z z (TL.i z z (TL.en (TC.a (TL.s z z (TL.i z z (TL.isSl (i := 0) z (fun hs137 _ _ => ?_)))))))))
   refine TL.w z (indexN z underlying66 sz4 z z hs137 (by omega)) (TL.w z (loadO1 false z ag4 z (q := 0) z encB_len (by omega) z) (TL.j z z (TL.split 25 z (fun h138 => ?_) (fun h138 => ?_))))
   ·replace hh := iteO_t h138 hh
    refine TL.g z (moveSl (.inl z) z) (TL.g z (moveI (.inl z) z) ?_)
    have u24 := grd_c hh
    replace hh := grd_t hh
    refine TL.isSl (i := 1) z (fun hs139 _ _ => ?_)
    refine TL.g z (indexN z underlying66 sz4 z z hs139 (by omega)) (TL.g z (loadO1 false z ag4 z (q := 1) z encB_len (by omega) z) (TL.w z (pickTB z z z) (TL.j z z (TL.split 31 z (fun h140 => ?_) (fun h140 => ?_)))))
    ·replace hh := iteO_t h140 hh
     refine TL.g z (OpVal.mv (.inl z)) (TL.g z (moveI (.inl z) z) ?_)
     obtain ⟨v30, u30, hh⟩ := bnd_e hh
     refine TL.front 5 z z (TL.gon z z z z z (callY hY hy128 u30 z z z z z z ?_))
     rintro τ141 ry141 hle141 hy141
     refine TL.g z (OpVal.not z z) (TL.w z (pickTB z z z) (TL.en (TC.cB z hh (fun h142 hh => ?_) (fun h142 hh => ?_))))
     ·refine TC.ofSub (Sub.f [5, 5, 5, 3] 4) (TC.ret (B.r (S.r (S.r ?_))))
      replace hh := fin_x hR1 hh
      refine B.r ?_
      obtain rfl := so hh
      refine ⟨_, Sub.f [3, 3, 3, 3] 4, ?_⟩
      exact ro [ry141, Res.cells b1_0 #[.int .i64 x1.states, .slice a1_1 x1.starts.length c1_2, .slice a1_4 x1.ends.length c1_5, .slice a1_7 x1.arcs.length c1_8] Eb1, Res.cells b2_0 #[.slice a2_1 x2.length c2_2] Eb2, Res.cells b3_0 #[.slice a3_1 x3.length c3_2] Eb3] z RVs.nil ⟨_, _, z, hy141, z⟩
     ·exact TC.skip (B.n (S.n (cf (v30.1, (ry141, τ141)) ⟨hh, hy141, hle141⟩ (Sub.f [5, 5, 5, 5, 5] 6))))
    ·replace hh := iteO_f h140 hh
     exact TL.f z (TL.f z (TL.f z (TL.f z (TL.w z (pickFB z z z) (TL.en (TC.f z (TC.skip (B.n (S.n (cf (s126, (ry127, τ129)) ⟨hh, hy128, (Store.le.refl _)⟩ (Sub.f [5, 5, 5, 5, 5, 5] 6)))))))))))
   ·replace hh := iteO_f h138 hh
    refine TL.f z (TL.f z (TL.f z (TL.f z (TL.w z (pickFB z z z) (TL.j z z (TL.f z (TL.f z (TL.f z (TL.f z (TL.w z (pickFB z z z) (TL.en (TC.f z (TC.skip (B.n (S.n ?_)))))))))))))))
    exact cf (s126, (ry127, τ129)) ⟨hh, hy128, (Store.le.refl _)⟩ (Sub.f [5, 5, 5, 5, 5, 5] 6)
  ·skip
   obtain ⟨s134, ⟨ry135, τ143⟩⟩ := g
   obtain ⟨hh, hy136, hle144⟩ := hg
   try dsimp only at hy136
   dsimp only at hle144
   replace hy128 := hy128.mono hle144
   try dsimp only
   dsimp only [prune_useful_1_j1] at hh
   skip
   refine TC.isSl (i := 0) z (fun _ hb145 _ => ?_)
   refine TC.isSl (i := 1) z (fun _ hb146 _ => ?_)
   refine TC.region (TL.w z (OpVal.succ z z z (by omega)) (TL.i z z (TL.en ?_)))
   obtain ⟨hh, hlt147⟩ := nxt_x hR1 hh
   exact lf (((k125 + 1), s134), (ry135, τ143)) hlt147 ⟨hh, hy136, (hle130.trans hle144)⟩ (Sub.f [5, 5, 5, 5, 5, 5] 6)
 ·refine TC.exit (S.x (S.x ?_))
  replace hh := fin_x hR1 hh
  refine TC.exitHere ?_
  obtain rfl := so hh
  refine ⟨_, Sub.f [4, 4, 4, 5] 4, ?_⟩
  exact RetOk.mk' (rs := []) [ry127, Res.cells b1_0 #[.int .i64 x1.states, .slice a1_1 x1.starts.length c1_2, .slice a1_4 x1.ends.length c1_5, .slice a1_7 x1.arcs.length c1_8] Eb1, Res.cells b2_0 #[.slice a2_1 x2.length c2_2] Eb2, Res.cells b3_0 #[.slice a3_1 x3.length c3_2] Eb3] z (.inr z) RVs.nil (List.sublist_append_left _ _) ⟨_, _, z, hy128, z⟩

noncomputable def prune_useful_j2 (l387 : List (List Int)) (x0 : Fst) (k394 : Nat) (l391 : List (List Int)) : Option (((List (List Int)) × (List (List Int)) × Nat) ⊕ ((Fst × (List (List Int)) × (List (List Int))))) :=
 nxt ((l387.set (((nth x0.arcs k394 Arc.zero).frm).toNat) ((nth l387 (((nth x0.arcs k394 Arc.zero).frm).toNat) ([] : List Int)) ++ [(nth x0.arcs k394 Arc.zero).to])), (l391.set (((nth x0.arcs k394 Arc.zero).to).toNat) ((nth l391 (((nth x0.arcs k394 Arc.zero).to).toNat) ([] : List Int)) ++ [(nth x0.arcs k394 Arc.zero).frm])), (k394 + 1))
noncomputable def prune_useful_j3 (x0 : Fst) (k394 : Nat) (l391 : List (List Int)) (l387 : List (List Int)) : Option (((List (List Int)) × (List (List Int)) × Nat) ⊕ ((Fst × (List (List Int)) × (List (List Int))))) :=
 grd (0 ≤ ((nth x0.arcs k394 Arc.zero).to) ∧ ((nth x0.arcs k394 Arc.zero).to) < (l391.length : Int)) (grd (((nth l391 (((nth x0.arcs k394 Arc.zero).to).toNat) ([] : List Int)).length + [(nth x0.arcs k394 Arc.zero).frm].length) * 8 ≤ 140737488355328) (grd (0 ≤ ((nth x0.arcs k394 Arc.zero).to) ∧ ((nth x0.arcs k394 Arc.zero).to) < (l391.length : Int)) (prune_useful_j2 l387 x0 k394 l391)))
noncomputable def prune_useful_b1 (x0 : Fst) (l387 : List (List Int)) (l391 : List (List Int)) (k394 : Nat) : Option (((List (List Int)) × (List (List Int)) × Nat) ⊕ ((Fst × (List (List Int)) × (List (List Int))))) :=
 iteO (decide (((k394 : Nat) : Int) < ((x0.arcs.length : Nat) : Int))) (grd (0 ≤ ((nth x0.arcs k394 Arc.zero).frm) ∧ ((nth x0.arcs k394 Arc.zero).frm) < (l387.length : Int)) (grd (((nth l387 (((nth x0.arcs k394 Arc.zero).frm).toNat) ([] : List Int)).length + [(nth x0.arcs k394 Arc.zero).to].length) * 8 ≤ 140737488355328) (grd (0 ≤ ((nth x0.arcs k394 Arc.zero).frm) ∧ ((nth x0.arcs k394 Arc.zero).frm) < (l387.length : Int)) (prune_useful_j3 x0 k394 l391 l387)))) (fin (some (x0, l387, l391)))
noncomputable def prune_useful_j1 (x0 : Fst) : Option ((Fst × (List (List Int)) × (List (List Int)))) :=
 iter (fun q : (List (List Int)) × (List (List Int)) × Nat => prune_useful_b1 x0 q.1 q.2.1 q.2.2) ((List.replicate x0.states.toNat ([] : List Int)), (List.replicate x0.states.toNat ([] : List Int)), 0)
noncomputable def prune_useful (x0 : Fst) : Option ((Fst × (List (List Int)) × (List (List Int)))) :=
 grd (0 ≤ x0.states ∧ 24 * x0.states.toNat ≤ 281474976710656) (grd (0 ≤ x0.states ∧ 24 * x0.states.toNat ≤ 281474976710656) (prune_useful_j1 x0))
theorem prune_useful_con {σ : Store} {x0 : Fst} {a0_0 : Option Addr} {c0_0 : Nat} {a0_1 : Option Addr} {c0_1 : Nat} {a0_2 : Option Addr} {c0_2 : Nat} (f0_0 : RS σ 2 encTip (.slice a0_0 x0.starts.length c0_0) x0.starts) (f0_1 : RS σ 2 encTip (.slice a0_1 x0.ends.length c0_1) x0.ends) (f0_2 : RS σ 8 encArc (.slice a0_2 x0.arcs.length c0_2) x0.arcs) {r : (Fst × (List (List Int)) × (List (List Int)))} (hh : prune_useful x0 = some r) :
  Con Tryz.prog 38 #[.agg #[.int .i64 x0.states, .slice a0_0 x0.starts.length c0_0, .slice a0_1 x0.ends.length c0_1, .slice a0_2 x0.arcs.length c0_2]] σ [] (fun v σ' H' => ∃ (br10 : Nat), ∃ (ar1 : Option Addr), ∃ (cr2 : Nat), ∃ (ar4 : Option Addr), ∃ (cr5 : Nat), ∃ (ar7 : Option Addr), ∃ (cr8 : Nat), ∃ (br14 : Nat), ∃ (ar11 : Option Addr), ∃ (cr12 : Nat), ∃ (br18 : Nat), ∃ (ar15 : Option Addr), ∃ (cr16 : Nat), v = .func (.func 53) #[] #[loc br10 0, loc br14 0, loc br18 0] ∧ RS σ' 2 encTip (.slice ar1 r.1.starts.length cr2) r.1.starts ∧ RS σ' 2 encTip (.slice ar4 r.1.ends.length cr5) r.1.ends ∧ RS σ' 8 encArc (.slice ar7 r.1.arcs.length cr8) r.1.arcs ∧ RZ σ' (pkSl 1 Go.E.encI Go.E.encI_len) (.slice ar11 r.2.1.length cr12) r.2.1 ∧ RZ σ' (pkSl 1 Go.E.encI Go.E.encI_len) (.slice ar15 r.2.2.length cr16) r.2.2 ∧ H' = [Res.cells br10 #[.int .i64 r.1.states, .slice ar1 r.1.starts.length cr2, .slice ar4 r.1.ends.length cr5, .slice ar7 r.1.arcs.length cr8] 25, Res.cells br14 #[.slice ar11 r.2.1.length cr12] 96, Res.cells br18 #[.slice ar15 r.2.2.length cr16] 96]) := by
 dsimp only [prune_useful] at hh
 have f0_0b := f0_0.rv.big
 have f0_1b := f0_1.rv.big
 have f0_2b := f0_2.rv.big
 refine Con.mk (n := 48) Tryz.func38 z z z (fun w0 => ?_)
 refine TC.a (TL.op z (boxA z z z z (fun b109 => ?_)))
 refine TL.w z (OpVal.mv (.inr z)) (TL.en (TC.cutG (α := (Unit) × (Nat × (Option Addr) × Nat × Nat × (Option Addr) × Nat)) (rgs [(3, 2), (7, 6)]) (fun g => [(3, loc g.2.1 0), (4, loc g.2.2.2.2.1 0)]) (fun g => [Res.cells b109 #[.int .i64 x0.states, .slice a0_0 x0.starts.length c0_0, .slice a0_1 x0.ends.length c0_1, .slice a0_2 x0.arcs.length c0_2] 25, Res.cells g.2.1 #[.slice g.2.2.1 ((List.replicate x0.states.toNat ([] : List Int)).length) g.2.2.2.1] 96, Res.nest 68 3 1 Go.E.encI (.slice g.2.2.1 (List.replicate x0.states.toNat ([] : List Int)).length g.2.2.2.1) (List.replicate x0.states.toNat (nilN : NP Int)), Res.cells g.2.2.2.2.1 #[.slice g.2.2.2.2.2.1 ((List.replicate x0.states.toNat ([] : List Int)).length) g.2.2.2.2.2.2] 96, Res.nest 68 3 1 Go.E.encI (.slice g.2.2.2.2.2.1 (List.replicate x0.states.toNat ([] : List Int)).length g.2.2.2.2.2.2) (List.replicate x0.states.toNat (nilN : NP Int))]) (fun g => σ) (fun g => prune_useful_j1 x0 = some r ∧ Zn (List.replicate x0.states.toNat (nilN : NP Int)) (List.replicate x0.states.toNat ([] : List Int)) ∧ Zn (List.replicate x0.states.toNat (nilN : NP Int)) (List.replicate x0.states.toNat ([] : List Int))) ?_ (fun g j hg => ?_)))
 ·skip
  have u5 := grd_c hh
  replace hh := grd_t hh
  have u8 := grd_c hh
  replace hh := grd_t hh
  refine TC.drawR (Hr := [Res.cells b109 #[.int .i64 x0.states, .slice a0_0 x0.starts.length c0_0, .slice a0_1 x0.ends.length c0_1, .slice a0_2 x0.arcs.length c0_2] 25]) (fun r hr => mem_pick [0] z hr) [] (by kernel_rfl) (TA.a 0 z (fieldLoc z fo25_0 z) z (TA.b 1 z (loadLoc z ag3 z (i := 0) z z) z (TA.a 3 z (fieldLoc z fo25_0 z) z (TA.b 4 z (loadLoc z ag3 z (i := 0) z z) z ?_))))
  refine TA.actN [2, 5, 6, 7] (by kernel_rfl) (an rfl rfl (makeN (q := x0.states.toNat) (E := 3) (size := 1) (enc := Go.E.encI) rfl underlying96 sz68 by68 ze68 rfl rfl (by show Value.int _ _ = _; rw [Int.toNat_of_nonneg u5.1]) (by show Value.int _ _ = _; rw [Int.toNat_of_nonneg u5.1]) (by omega) (by decide) rfl (fun a135 c136 zf137 => (k1 ?_))) (an rfl rfl (makeN (q := x0.states.toNat) (E := 3) (size := 1) (enc := Go.E.encI) rfl underlying96 sz68 by68 ze68 rfl rfl (by show Value.int _ _ = _; rw [Int.toNat_of_nonneg u8.1]) (by show Value.int _ _ = _; rw [Int.toNat_of_nonneg u8.1]) (by omega) (by decide) rfl (fun a139 c140 zf141 => (k1 ?_))) (an rfl rfl (OpOk.alloc rfl ze96 rfl rfl (fun b143 => (k1 ?_))) (an rfl rfl (OpOk.alloc rfl ze96 rfl rfl (fun b145 => (k1 ?_))) (True.intro)))))
  ·skip
   refine TA.actN [5, 6, 7] (by kernel_rfl) (an rfl rfl (makeN (q := x0.states.toNat) (E := 3) (size := 1) (enc := Go.E.encI) rfl underlying96 sz68 by68 ze68 rfl rfl (by show Value.int _ _ = _; rw [Int.toNat_of_nonneg u8.1]) (by show Value.int _ _ = _; rw [Int.toNat_of_nonneg u8.1]) (by omega) (by decide) rfl (fun a147 c148 zf149 => (k2 ?_))) (an rfl rfl (OpOk.alloc rfl ze96 rfl rfl (fun b151 => (k2 ?_))) (an rfl rfl (OpOk.alloc rfl ze96 rfl rfl (fun b153 => (k2 ?_))) (True.intro))))
   ·skip
    refine TA.actN [6, 7] (by kernel_rfl) (an z z (OpOk.alloc z ze96 z z (fun b155 => (k3 ?_))) (an z z (OpOk.alloc z ze96 z z (fun b157 => (k3 ?_))) (True.intro)))
    ·skip
     refine TA.ac 7 z (OpOk.alloc z ze96 z z (fun b159 => (kc 4 ?_)))
     refine TA.front 1 z z (TA.ac 8 z (storeSl z sz96 z z z z z (kc 4 ?_)))
     refine TA.front 1 z z (TA.ac 9 z (storeSl z sz96 z z z z z (kc 4 ?_)))
     exact TA.dn (S.n (cf ((), (b155, a135, c136, b159, a147, c148)) ⟨hh, zf137, zf149⟩ (Sub.f [2, 1, 3, 3, 4] 5)))
    ·skip
     refine TA.ac 6 z (OpOk.alloc z ze96 z z (fun b161 => (kc 4 ?_)))
     refine TA.ac 8 z (storeSl z sz96 z z z z z (kc 4 ?_))
     refine TA.front 1 z z (TA.ac 9 z (storeSl z sz96 z z z z z (kc 4 ?_)))
     exact TA.dn (S.n (cf ((), (b161, a135, c136, b157, a147, c148)) ⟨hh, zf137, zf149⟩ (Sub.f [2, 1, 3, 3, 4] 5)))
   ·skip
    refine TA.actN [5, 7] (by kernel_rfl) (an rfl rfl (makeN (q := x0.states.toNat) (E := 3) (size := 1) (enc := Go.E.encI) rfl underlying96 sz68 by68 ze68 rfl rfl (by show Value.int _ _ = _; rw [Int.toNat_of_nonneg u8.1]) (by show Value.int _ _ = _; rw [Int.toNat_of_nonneg u8.1]) (by omega) (by decide) rfl (fun a163 c164 zf165 => (k3 ?_))) (an rfl rfl (OpOk.alloc rfl ze96 rfl rfl (fun b167 => (k3 ?_))) (True.intro)))
    ·skip
     refine TA.ac 7 z (OpOk.alloc z ze96 z z (fun b169 => (kc 4 ?_)))
     refine TA.front 2 z z (TA.ac 8 z (storeSl z sz96 z z z z z (kc 4 ?_)))
     refine TA.front 1 z z (TA.ac 9 z (storeSl z sz96 z z z z z (kc 4 ?_)))
     exact TA.dn (S.n (cf ((), (b151, a135, c136, b169, a163, c164)) ⟨hh, zf137, zf165⟩ (Sub.f [2, 1, 3, 3, 4] 5)))
    ·skip
     refine TA.actN [5, 8] (by kernel_rfl) (an rfl rfl (makeN (q := x0.states.toNat) (E := 3) (size := 1) (enc := Go.E.encI) rfl underlying96 sz68 by68 ze68 rfl rfl (by show Value.int _ _ = _; rw [Int.toNat_of_nonneg u8.1]) (by show Value.int _ _ = _; rw [Int.toNat_of_nonneg u8.1]) (by omega) (by decide) rfl (fun a171 c172 zf173 => (kc 4 ?_))) (an rfl rfl (OpOk.front 1 rfl rfl (storeSl rfl sz96 rfl rfl rfl rfl rfl (k3 ?_))) (True.intro)))
     ·skip
      refine TA.front 2 z z (TA.ac 8 z (storeSl z sz96 z z z z z (kc 4 ?_)))
      refine TA.front 2 z z (TA.ac 9 z (storeSl z sz96 z z z z z (kc 4 ?_)))
      exact TA.dn (S.n (cf ((), (b151, a135, c136, b167, a171, c172)) ⟨hh, zf137, zf173⟩ (Sub.f [2, 1, 3, 3, 4] 5)))
     ·skip
      refine TA.ac 5 rfl (makeN (q := x0.states.toNat) (E := 3) (size := 1) (enc := Go.E.encI) rfl underlying96 sz68 by68 ze68 rfl rfl (by show Value.int _ _ = _; rw [Int.toNat_of_nonneg u8.1]) (by show Value.int _ _ = _; rw [Int.toNat_of_nonneg u8.1]) (by omega) (by decide) rfl (fun a175 c176 zf177 => (kc 4 ?_)))
      refine TA.front 2 z z (TA.ac 9 z (storeSl z sz96 z z z z z (kc 4 ?_)))
      exact TA.dn (S.n (cf ((), (b151, a135, c136, b167, a175, c176)) ⟨hh, zf137, zf177⟩ (Sub.f [1, 1, 3, 3, 4] 5)))
   ·skip
    refine TA.actN [5, 6] (by kernel_rfl) (an rfl rfl (makeN (q := x0.states.toNat) (E := 3) (size := 1) (enc := Go.E.encI) rfl underlying96 sz68 by68 ze68 rfl rfl (by show Value.int _ _ = _; rw [Int.toNat_of_nonneg u8.1]) (by show Value.int _ _ = _; rw [Int.toNat_of_nonneg u8.1]) (by omega) (by decide) rfl (fun a179 c180 zf181 => (k3 ?_))) (an rfl rfl (OpOk.alloc rfl ze96 rfl rfl (fun b183 => (k3 ?_))) (True.intro)))
    ·skip
     refine TA.ac 6 z (OpOk.alloc z ze96 z z (fun b185 => (kc 4 ?_)))
     refine TA.ac 8 z (storeSl z sz96 z z z z z (kc 4 ?_))
     refine TA.front 2 z z (TA.ac 9 z (storeSl z sz96 z z z z z (kc 4 ?_)))
     exact TA.dn (S.n (cf ((), (b185, a135, c136, b153, a179, c180)) ⟨hh, zf137, zf181⟩ (Sub.f [2, 1, 3, 3, 4] 5)))
    ·skip
     refine TA.actN [5, 8] (by kernel_rfl) (an rfl rfl (makeN (q := x0.states.toNat) (E := 3) (size := 1) (enc := Go.E.encI) rfl underlying96 sz68 by68 ze68 rfl rfl (by show Value.int _ _ = _; rw [Int.toNat_of_nonneg u8.1]) (by show Value.int _ _ = _; rw [Int.toNat_of_nonneg u8.1]) (by omega) (by decide) rfl (fun a187 c188 zf189 => (kc 4 ?_))) (an rfl rfl (storeSl rfl sz96 rfl rfl rfl rfl rfl (k3 ?_)) (True.intro)))
     ·skip
      refine TA.front 1 z z (TA.ac 8 z (storeSl z sz96 z z z z z (kc 4 ?_)))
      refine TA.front 2 z z (TA.ac 9 z (storeSl z sz96 z z z z z (kc 4 ?_)))
      exact TA.dn (S.n (cf ((), (b183, a135, c136, b153, a187, c188)) ⟨hh, zf137, zf189⟩ (Sub.f [2, 1, 3, 3, 4] 5)))
     ·skip
      refine TA.ac 5 rfl (makeN (q := x0.states.toNat) (E := 3) (size := 1) (enc := Go.E.encI) rfl underlying96 sz68 by68 ze68 rfl rfl (by show Value.int _ _ = _; rw [Int.toNat_of_nonneg u8.1]) (by show Value.int _ _ = _; rw [Int.toNat_of_nonneg u8.1]) (by omega) (by decide) rfl (fun a191 c192 zf193 => (kc 4 ?_)))
      refine TA.front 2 z z (TA.ac 9 z (storeSl z sz96 z z z z z (kc 4 ?_)))
      exact TA.dn (S.n (cf ((), (b183, a135, c136, b153, a191, c192)) ⟨hh, zf137, zf193⟩ (Sub.f [1, 1, 3, 3, 4] 5)))
  ·skip
   refine TA.actN [2, 6, 7] (by kernel_rfl) (an rfl rfl (makeN (q := x0.states.toNat) (E := 3) (size := 1) (enc := Go.E.encI) rfl underlying96 sz68 by68 ze68 rfl rfl (by show Value.int _ _ = _; rw [Int.toNat_of_nonneg u5.1]) (by show Value.int _ _ = _; rw [Int.toNat_of_nonneg u5.1]) (by omega) (by decide) rfl (fun a195 c196 zf197 => (k2 ?_))) (an rfl rfl (OpOk.alloc rfl ze96 rfl rfl (fun b199 => (k2 ?_))) (an rfl rfl (OpOk.alloc rfl ze96 rfl rfl (fun b201 => (k2 ?_))) (True.intro))))
   ·skip
    refine TA.actN [6, 7] (by kernel_rfl) (an z z (OpOk.alloc z ze96 z z (fun b203 => (k3 ?_))) (an z z (OpOk.alloc z ze96 z z (fun b205 => (k3 ?_))) (True.intro)))
    ·skip
     refine TA.ac 7 z (OpOk.alloc z ze96 z z (fun b207 => (kc 4 ?_)))
     refine TA.front 1 z z (TA.ac 8 z (storeSl z sz96 z z z z z (kc 4 ?_)))
     refine TA.front 1 z z (TA.ac 9 z (storeSl z sz96 z z z z z (kc 4 ?_)))
     exact TA.dn (S.n (cf ((), (b203, a195, c196, b207, a139, c140)) ⟨hh, zf197, zf141⟩ (Sub.f [3, 1, 3, 3, 4] 5)))
    ·skip
     refine TA.ac 6 z (OpOk.alloc z ze96 z z (fun b209 => (kc 4 ?_)))
     refine TA.ac 8 z (storeSl z sz96 z z z z z (kc 4 ?_))
     refine TA.front 1 z z (TA.ac 9 z (storeSl z sz96 z z z z z (kc 4 ?_)))
     exact TA.dn (S.n (cf ((), (b209, a195, c196, b205, a139, c140)) ⟨hh, zf197, zf141⟩ (Sub.f [3, 1, 3, 3, 4] 5)))
   ·skip
    refine TA.actN [2, 7] (by kernel_rfl) (an rfl rfl (makeN (q := x0.states.toNat) (E := 3) (size := 1) (enc := Go.E.encI) rfl underlying96 sz68 by68 ze68 rfl rfl (by show Value.int _ _ = _; rw [Int.toNat_of_nonneg u5.1]) (by show Value.int _ _ = _; rw [Int.toNat_of_nonneg u5.1]) (by omega) (by decide) rfl (fun a211 c212 zf213 => (k3 ?_))) (an rfl rfl (OpOk.alloc rfl ze96 rfl rfl (fun b215 => (k3 ?_))) (True.intro)))
    ·skip
     refine TA.ac 7 z (OpOk.alloc z ze96 z z (fun b217 => (kc 4 ?_)))
     refine TA.front 2 z z (TA.ac 8 z (storeSl z sz96 z z z z z (kc 4 ?_)))
     refine TA.front 1 z z (TA.ac 9 z (storeSl z sz96 z z z z z (kc 4 ?_)))
     exact TA.dn (S.n (cf ((), (b199, a211, c212, b217, a139, c140)) ⟨hh, zf213, zf141⟩ (Sub.f [3, 1, 3, 3, 4] 5)))
    ·skip
     refine TA.ac 2 rfl (makeN (q := x0.states.toNat) (E := 3) (size := 1) (enc := Go.E.encI) rfl underlying96 sz68 by68 ze68 rfl rfl (by show Value.int _ _ = _; rw [Int.toNat_of_nonneg u5.1]) (by show Value.int _ _ = _; rw [Int.toNat_of_nonneg u5.1]) (by omega) (by decide) rfl (fun a219 c220 zf221 => (kc 4 ?_)))
     refine TA.front 2 z z (TA.ac 8 z (storeSl z sz96 z z z z z (kc 4 ?_)))
     refine TA.front 2 z z (TA.ac 9 z (storeSl z sz96 z z z z z (kc 4 ?_)))
     exact TA.dn (S.n (cf ((), (b199, a219, c220, b215, a139, c140)) ⟨hh, zf221, zf141⟩ (Sub.f [3, 1, 3, 3, 4] 5)))
   ·skip
    refine TA.actN [2, 6] (by kernel_rfl) (an rfl rfl (makeN (q := x0.states.toNat) (E := 3) (size := 1) (enc := Go.E.encI) rfl underlying96 sz68 by68 ze68 rfl rfl (by show Value.int _ _ = _; rw [Int.toNat_of_nonneg u5.1]) (by show Value.int _ _ = _; rw [Int.toNat_of_nonneg u5.1]) (by omega) (by decide) rfl (fun a223 c224 zf225 => (k3 ?_))) (an rfl rfl (OpOk.alloc rfl ze96 rfl rfl (fun b227 => (k3 ?_))) (True.intro)))
    ·skip
     refine TA.ac 6 z (OpOk.alloc z ze96 z z (fun b229 => (kc 4 ?_)))
     refine TA.ac 8 z (storeSl z sz96 z z z z z (kc 4 ?_))
     refine TA.front 2 z z (TA.ac 9 z (storeSl z sz96 z z z z z (kc 4 ?_)))
     exact TA.dn (S.n (cf ((), (b229, a223, c224, b201, a139, c140)) ⟨hh, zf225, zf141⟩ (Sub.f [3, 1, 3, 3, 4] 5)))
    ·skip
     refine TA.ac 2 rfl (makeN (q := x0.states.toNat) (E := 3) (size := 1) (enc := Go.E.encI) rfl underlying96 sz68 by68 ze68 rfl rfl (by show Value.int _ _ = _; rw [Int.toNat_of_nonneg u5.1]) (by show Value.int _ _ = _; rw [Int.toNat_of_nonneg u5.1]) (by omega) (by decide) rfl (fun a231 c232 zf233 => (kc 4 ?_)))
     refine TA.front 1 z z (TA.ac 8 z (storeSl z sz96 z z z z z (kc 4 ?_)))
     refine TA.front 2 z z (TA.ac 9 z (storeSl z sz96 z z z z z (kc 4 ?_)))
     exact TA.dn (S.n (cf ((), (b227, a231, c232, b201, a139, c140)) ⟨hh, zf233, zf141⟩ (Sub.f [3, 1, 3, 3, 4] 5)))
  ·skip
   refine TA.actN [2, 5, 7] (by kernel_rfl) (an rfl rfl (makeN (q := x0.states.toNat) (E := 3) (size := 1) (enc := Go.E.encI) rfl underlying96 sz68 by68 ze68 rfl rfl (by show Value.int _ _ = _; rw [Int.toNat_of_nonneg u5.1]) (by show Value.int _ _ = _; rw [Int.toNat_of_nonneg u5.1]) (by omega) (by decide) rfl (fun a235 c236 zf237 => (k2 ?_))) (an rfl rfl (makeN (q := x0.states.toNat) (E := 3) (size := 1) (enc := Go.E.encI) rfl underlying96 sz68 by68 ze68 rfl rfl (by show Value.int _ _ = _; rw [Int.toNat_of_nonneg u8.1]) (by show Value.int _ _ = _; rw [Int.toNat_of_nonneg u8.1]) (by omega) (by decide) rfl (fun a239 c240 zf241 => (k2 ?_))) (an rfl rfl (OpOk.alloc rfl ze96 rfl rfl (fun b243 => (k2 ?_))) (True.intro))))
   ·skip
    refine TA.actN [5, 7] (by kernel_rfl) (an rfl rfl (makeN (q := x0.states.toNat) (E := 3) (size := 1) (enc := Go.E.encI) rfl underlying96 sz68 by68 ze68 rfl rfl (by show Value.int _ _ = _; rw [Int.toNat_of_nonneg u8.1]) (by show Value.int _ _ = _; rw [Int.toNat_of_nonneg u8.1]) (by omega) (by decide) rfl (fun a245 c246 zf247 => (k3 ?_))) (an rfl rfl (OpOk.alloc rfl ze96 rfl rfl (fun b249 => (k3 ?_))) (True.intro)))
    ·skip
     refine TA.ac 7 z (OpOk.alloc z ze96 z z (fun b251 => (kc 4 ?_)))
     refine TA.front 3 z z (TA.ac 8 z (storeSl z sz96 z z z z z (kc 4 ?_)))
     refine TA.front 1 z z (TA.ac 9 z (storeSl z sz96 z z z z z (kc 4 ?_)))
     exact TA.dn (S.n (cf ((), (b143, a235, c236, b251, a245, c246)) ⟨hh, zf237, zf247⟩ (Sub.f [2, 1, 3, 3, 4] 5)))
    ·skip
     refine TA.actN [5, 8] (by kernel_rfl) (an rfl rfl (makeN (q := x0.states.toNat) (E := 3) (size := 1) (enc := Go.E.encI) rfl underlying96 sz68 by68 ze68 rfl rfl (by show Value.int _ _ = _; rw [Int.toNat_of_nonneg u8.1]) (by show Value.int _ _ = _; rw [Int.toNat_of_nonneg u8.1]) (by omega) (by decide) rfl (fun a253 c254 zf255 => (kc 4 ?_))) (an rfl rfl (OpOk.front 2 rfl rfl (storeSl rfl sz96 rfl rfl rfl rfl rfl (k3 ?_))) (True.intro)))
     ·skip
      refine TA.front 3 z z (TA.ac 8 z (storeSl z sz96 z z z z z (kc 4 ?_)))
      refine TA.front 2 z z (TA.ac 9 z (storeSl z sz96 z z z z z (kc 4 ?_)))
      exact TA.dn (S.n (cf ((), (b143, a235, c236, b249, a253, c254)) ⟨hh, zf237, zf255⟩ (Sub.f [2, 1, 3, 3, 4] 5)))
     ·skip
      refine TA.ac 5 rfl (makeN (q := x0.states.toNat) (E := 3) (size := 1) (enc := Go.E.encI) rfl underlying96 sz68 by68 ze68 rfl rfl (by show Value.int _ _ = _; rw [Int.toNat_of_nonneg u8.1]) (by show Value.int _ _ = _; rw [Int.toNat_of_nonneg u8.1]) (by omega) (by decide) rfl (fun a257 c258 zf259 => (kc 4 ?_)))
      refine TA.front 2 z z (TA.ac 9 z (storeSl z sz96 z z z z z (kc 4 ?_)))
      exact TA.dn (S.n (cf ((), (b143, a235, c236, b249, a257, c258)) ⟨hh, zf237, zf259⟩ (Sub.f [1, 1, 3, 3, 4] 5)))
   ·skip
    refine TA.actN [2, 7] (by kernel_rfl) (an rfl rfl (makeN (q := x0.states.toNat) (E := 3) (size := 1) (enc := Go.E.encI) rfl underlying96 sz68 by68 ze68 rfl rfl (by show Value.int _ _ = _; rw [Int.toNat_of_nonneg u5.1]) (by show Value.int _ _ = _; rw [Int.toNat_of_nonneg u5.1]) (by omega) (by decide) rfl (fun a261 c262 zf263 => (k3 ?_))) (an rfl rfl (OpOk.alloc rfl ze96 rfl rfl (fun b265 => (k3 ?_))) (True.intro)))
    ·skip
     refine TA.ac 7 z (OpOk.alloc z ze96 z z (fun b267 => (kc 4 ?_)))
     refine TA.front 3 z z (TA.ac 8 z (storeSl z sz96 z z z z z (kc 4 ?_)))
     refine TA.front 1 z z (TA.ac 9 z (storeSl z sz96 z z z z z (kc 4 ?_)))
     exact TA.dn (S.n (cf ((), (b143, a261, c262, b267, a239, c240)) ⟨hh, zf263, zf241⟩ (Sub.f [3, 1, 3, 3, 4] 5)))
    ·skip
     refine TA.ac 2 rfl (makeN (q := x0.states.toNat) (E := 3) (size := 1) (enc := Go.E.encI) rfl underlying96 sz68 by68 ze68 rfl rfl (by show Value.int _ _ = _; rw [Int.toNat_of_nonneg u5.1]) (by show Value.int _ _ = _; rw [Int.toNat_of_nonneg u5.1]) (by omega) (by decide) rfl (fun a269 c270 zf271 => (kc 4 ?_)))
     refine TA.front 3 z z (TA.ac 8 z (storeSl z sz96 z z z z z (kc 4 ?_)))
     refine TA.front 2 z z (TA.ac 9 z (storeSl z sz96 z z z z z (kc 4 ?_)))
     exact TA.dn (S.n (cf ((), (b143, a269, c270, b265, a239, c240)) ⟨hh, zf271, zf241⟩ (Sub.f [3, 1, 3, 3, 4] 5)))
   ·skip
    refine TA.actN [2, 5] (by kernel_rfl) (an rfl rfl (makeN (q := x0.states.toNat) (E := 3) (size := 1) (enc := Go.E.encI) rfl underlying96 sz68 by68 ze68 rfl rfl (by show Value.int _ _ = _; rw [Int.toNat_of_nonneg u5.1]) (by show Value.int _ _ = _; rw [Int.toNat_of_nonneg u5.1]) (by omega) (by decide) rfl (fun a273 c274 zf275 => (k3 ?_))) (an rfl rfl (makeN (q := x0.states.toNat) (E := 3) (size := 1) (enc := Go.E.encI) rfl underlying96 sz68 by68 ze68 rfl rfl (by show Value.int _ _ = _; rw [Int.toNat_of_nonneg u8.1]) (by show Value.int _ _ = _; rw [Int.toNat_of_nonneg u8.1]) (by omega) (by decide) rfl (fun a277 c278 zf279 => (k3 ?_))) (True.intro)))
    ·skip
     refine TA.actN [5, 8] (by kernel_rfl) (an rfl rfl (makeN (q := x0.states.toNat) (E := 3) (size := 1) (enc := Go.E.encI) rfl underlying96 sz68 by68 ze68 rfl rfl (by show Value.int _ _ = _; rw [Int.toNat_of_nonneg u8.1]) (by show Value.int _ _ = _; rw [Int.toNat_of_nonneg u8.1]) (by omega) (by decide) rfl (fun a281 c282 zf283 => (kc 4 ?_))) (an rfl rfl (OpOk.front 2 rfl rfl (storeSl rfl sz96 rfl rfl rfl rfl rfl (k3 ?_))) (True.intro)))
     ·skip
      refine TA.front 3 z z (TA.ac 8 z (storeSl z sz96 z z z z z (kc 4 ?_)))
      refine TA.front 3 z z (TA.ac 9 z (storeSl z sz96 z z z z z (kc 4 ?_)))
      exact TA.dn (S.n (cf ((), (b143, a273, c274, b243, a281, c282)) ⟨hh, zf275, zf283⟩ (Sub.f [2, 1, 3, 3, 4] 5)))
     ·skip
      refine TA.ac 5 rfl (makeN (q := x0.states.toNat) (E := 3) (size := 1) (enc := Go.E.encI) rfl underlying96 sz68 by68 ze68 rfl rfl (by show Value.int _ _ = _; rw [Int.toNat_of_nonneg u8.1]) (by show Value.int _ _ = _; rw [Int.toNat_of_nonneg u8.1]) (by omega) (by decide) rfl (fun a285 c286 zf287 => (kc 4 ?_)))
      refine TA.front 3 z z (TA.ac 9 z (storeSl z sz96 z z z z z (kc 4 ?_)))
      exact TA.dn (S.n (cf ((), (b143, a273, c274, b243, a285, c286)) ⟨hh, zf275, zf287⟩ (Sub.f [1, 1, 3, 3, 4] 5)))
    ·skip
     refine TA.ac 2 rfl (makeN (q := x0.states.toNat) (E := 3) (size := 1) (enc := Go.E.encI) rfl underlying96 sz68 by68 ze68 rfl rfl (by show Value.int _ _ = _; rw [Int.toNat_of_nonneg u5.1]) (by show Value.int _ _ = _; rw [Int.toNat_of_nonneg u5.1]) (by omega) (by decide) rfl (fun a289 c290 zf291 => (kc 4 ?_)))
     refine TA.front 3 z z (TA.ac 8 z (storeSl z sz96 z z z z z (kc 4 ?_)))
     refine TA.front 3 z z (TA.ac 9 z (storeSl z sz96 z z z z z (kc 4 ?_)))
     exact TA.dn (S.n (cf ((), (b143, a289, c290, b243, a277, c278)) ⟨hh, zf291, zf279⟩ (Sub.f [3, 1, 3, 3, 4] 5)))
  ·skip
   refine TA.actN [2, 5, 6] (by kernel_rfl) (an rfl rfl (makeN (q := x0.states.toNat) (E := 3) (size := 1) (enc := Go.E.encI) rfl underlying96 sz68 by68 ze68 rfl rfl (by show Value.int _ _ = _; rw [Int.toNat_of_nonneg u5.1]) (by show Value.int _ _ = _; rw [Int.toNat_of_nonneg u5.1]) (by omega) (by decide) rfl (fun a293 c294 zf295 => (k2 ?_))) (an rfl rfl (makeN (q := x0.states.toNat) (E := 3) (size := 1) (enc := Go.E.encI) rfl underlying96 sz68 by68 ze68 rfl rfl (by show Value.int _ _ = _; rw [Int.toNat_of_nonneg u8.1]) (by show Value.int _ _ = _; rw [Int.toNat_of_nonneg u8.1]) (by omega) (by decide) rfl (fun a297 c298 zf299 => (k2 ?_))) (an rfl rfl (OpOk.alloc rfl ze96 rfl rfl (fun b301 => (k2 ?_))) (True.intro))))
   ·skip
    refine TA.actN [5, 6] (by kernel_rfl) (an rfl rfl (makeN (q := x0.states.toNat) (E := 3) (size := 1) (enc := Go.E.encI) rfl underlying96 sz68 by68 ze68 rfl rfl (by show Value.int _ _ = _; rw [Int.toNat_of_nonneg u8.1]) (by show Value.int _ _ = _; rw [Int.toNat_of_nonneg u8.1]) (by omega) (by decide) rfl (fun a303 c304 zf305 => (k3 ?_))) (an rfl rfl (OpOk.alloc rfl ze96 rfl rfl (fun b307 => (k3 ?_))) (True.intro)))
    ·skip
     refine TA.ac 6 z (OpOk.alloc z ze96 z z (fun b309 => (kc 4 ?_)))
     refine TA.ac 8 z (storeSl z sz96 z z z z z (kc 4 ?_))
     refine TA.front 3 z z (TA.ac 9 z (storeSl z sz96 z z z z z (kc 4 ?_)))
     exact TA.dn (S.n (cf ((), (b309, a293, c294, b145, a303, c304)) ⟨hh, zf295, zf305⟩ (Sub.f [2, 1, 3, 3, 4] 5)))
    ·skip
     refine TA.actN [5, 8] (by kernel_rfl) (an rfl rfl (makeN (q := x0.states.toNat) (E := 3) (size := 1) (enc := Go.E.encI) rfl underlying96 sz68 by68 ze68 rfl rfl (by show Value.int _ _ = _; rw [Int.toNat_of_nonneg u8.1]) (by show Value.int _ _ = _; rw [Int.toNat_of_nonneg u8.1]) (by omega) (by decide) rfl (fun a311 c312 zf313 => (kc 4 ?_))) (an rfl rfl (storeSl rfl sz96 rfl rfl rfl rfl rfl (k3 ?_)) (True.intro)))
     ·skip
      refine TA.front 1 z z (TA.ac 8 z (storeSl z sz96 z z z z z (kc 4 ?_)))
      refine TA.front 3 z z (TA.ac 9 z (storeSl z sz96 z z z z z (kc 4 ?_)))
      exact TA.dn (S.n (cf ((), (b307, a293, c294, b145, a311, c312)) ⟨hh, zf295, zf313⟩ (Sub.f [2, 1, 3, 3, 4] 5)))
     ·skip
      refine TA.ac 5 rfl (makeN (q := x0.states.toNat) (E := 3) (size := 1) (enc := Go.E.encI) rfl underlying96 sz68 by68 ze68 rfl rfl (by show Value.int _ _ = _; rw [Int.toNat_of_nonneg u8.1]) (by show Value.int _ _ = _; rw [Int.toNat_of_nonneg u8.1]) (by omega) (by decide) rfl (fun a315 c316 zf317 => (kc 4 ?_)))
      refine TA.front 3 z z (TA.ac 9 z (storeSl z sz96 z z z z z (kc 4 ?_)))
      exact TA.dn (S.n (cf ((), (b307, a293, c294, b145, a315, c316)) ⟨hh, zf295, zf317⟩ (Sub.f [1, 1, 3, 3, 4] 5)))
   ·skip
    refine TA.actN [2, 6] (by kernel_rfl) (an rfl rfl (makeN (q := x0.states.toNat) (E := 3) (size := 1) (enc := Go.E.encI) rfl underlying96 sz68 by68 ze68 rfl rfl (by show Value.int _ _ = _; rw [Int.toNat_of_nonneg u5.1]) (by show Value.int _ _ = _; rw [Int.toNat_of_nonneg u5.1]) (by omega) (by decide) rfl (fun a319 c320 zf321 => (k3 ?_))) (an rfl rfl (OpOk.alloc rfl ze96 rfl rfl (fun b323 => (k3 ?_))) (True.intro)))
    ·skip
     refine TA.ac 6 z (OpOk.alloc z ze96 z z (fun b325 => (kc 4 ?_)))
     refine TA.ac 8 z (storeSl z sz96 z z z z z (kc 4 ?_))
     refine TA.front 3 z z (TA.ac 9 z (storeSl z sz96 z z z z z (kc 4 ?_)))
     exact TA.dn (S.n (cf ((), (b325, a319, c320, b145, a297, c298)) ⟨hh, zf321, zf299⟩ (Sub.f [3, 1, 3, 3, 4] 5)))
    ·skip
     refine TA.ac 2 rfl (makeN (q := x0.states.toNat) (E := 3) (size := 1) (enc := Go.E.encI) rfl underlying96 sz68 by68 ze68 rfl rfl (by show Value.int _ _ = _; rw [Int.toNat_of_nonneg u5.1]) (by show Value.int _ _ = _; rw [Int.toNat_of_nonneg u5.1]) (by omega) (by decide) rfl (fun a327 c328 zf329 => (kc 4 ?_)))
     refine TA.front 1 z z (TA.ac 8 z (storeSl z sz96 z z z z z (kc 4 ?_)))
     refine TA.front 3 z z (TA.ac 9 z (storeSl z sz96 z z z z z (kc 4 ?_)))
     exact TA.dn (S.n (cf ((), (b323, a327, c328, b145, a297, c298)) ⟨hh, zf329, zf299⟩ (Sub.f [3, 1, 3, 3, 4] 5)))
   ·skip
    refine TA.actN [2, 5] (by kernel_rfl) (an rfl rfl (makeN (q := x0.states.toNat) (E := 3) (size := 1) (enc := Go.E.encI) rfl underlying96 sz68 by68 ze68 rfl rfl (by show Value.int _ _ = _; rw [Int.toNat_of_nonneg u5.1]) (by show Value.int _ _ = _; rw [Int.toNat_of_nonneg u5.1]) (by omega) (by decide) rfl (fun a331 c332 zf333 => (k3 ?_))) (an rfl rfl (makeN (q := x0.states.toNat) (E := 3) (size := 1) (enc := Go.E.encI) rfl underlying96 sz68 by68 ze68 rfl rfl (by show Value.int _ _ = _; rw [Int.toNat_of_nonneg u8.1]) (by show Value.int _ _ = _; rw [Int.toNat_of_nonneg u8.1]) (by omega) (by decide) rfl (fun a335 c336 zf337 => (k3 ?_))) (True.intro)))
    ·skip
     refine TA.actN [5, 8] (by kernel_rfl) (an rfl rfl (makeN (q := x0.states.toNat) (E := 3) (size := 1) (enc := Go.E.encI) rfl underlying96 sz68 by68 ze68 rfl rfl (by show Value.int _ _ = _; rw [Int.toNat_of_nonneg u8.1]) (by show Value.int _ _ = _; rw [Int.toNat_of_nonneg u8.1]) (by omega) (by decide) rfl (fun a339 c340 zf341 => (kc 4 ?_))) (an rfl rfl (OpOk.front 1 rfl rfl (storeSl rfl sz96 rfl rfl rfl rfl rfl (k3 ?_))) (True.intro)))
     ·skip
      refine TA.front 2 z z (TA.ac 8 z (storeSl z sz96 z z z z z (kc 4 ?_)))
      refine TA.front 3 z z (TA.ac 9 z (storeSl z sz96 z z z z z (kc 4 ?_)))
      exact TA.dn (S.n (cf ((), (b301, a331, c332, b145, a339, c340)) ⟨hh, zf333, zf341⟩ (Sub.f [2, 1, 3, 3, 4] 5)))
     ·skip
      refine TA.ac 5 rfl (makeN (q := x0.states.toNat) (E := 3) (size := 1) (enc := Go.E.encI) rfl underlying96 sz68 by68 ze68 rfl rfl (by show Value.int _ _ = _; rw [Int.toNat_of_nonneg u8.1]) (by show Value.int _ _ = _; rw [Int.toNat_of_nonneg u8.1]) (by omega) (by decide) rfl (fun a343 c344 zf345 => (kc 4 ?_)))
      refine TA.front 3 z z (TA.ac 9 z (storeSl z sz96 z z z z z (kc 4 ?_)))
      exact TA.dn (S.n (cf ((), (b301, a331, c332, b145, a343, c344)) ⟨hh, zf333, zf345⟩ (Sub.f [1, 1, 3, 3, 4] 5)))
    ·skip
     refine TA.ac 2 rfl (makeN (q := x0.states.toNat) (E := 3) (size := 1) (enc := Go.E.encI) rfl underlying96 sz68 by68 ze68 rfl rfl (by show Value.int _ _ = _; rw [Int.toNat_of_nonneg u5.1]) (by show Value.int _ _ = _; rw [Int.toNat_of_nonneg u5.1]) (by omega) (by decide) rfl (fun a347 c348 zf349 => (kc 4 ?_)))
     refine TA.front 2 z z (TA.ac 8 z (storeSl z sz96 z z z z z (kc 4 ?_)))
     refine TA.front 3 z z (TA.ac 9 z (storeSl z sz96 z z z z z (kc 4 ?_)))
     exact TA.dn (S.n (cf ((), (b301, a347, c348, b145, a335, c336)) ⟨hh, zf349, zf337⟩ (Sub.f [3, 1, 3, 3, 4] 5)))
 ·skip
  obtain ⟨_, ⟨b112, a114, c115, b118, a120, c121⟩⟩ := g
  obtain ⟨hh, zf116, zf122⟩ := hg
  try dsimp only at zf116 zf122 ⊢
  dsimp only [prune_useful_j1] at hh
  have zf116b := zf116.len
  have zf122b := zf122.len
  refine TC.know (isSl_nest (q := 2) z zf116) (fun ⟨_, hb351⟩ => ?_)
  refine TC.know (isSl_nest (q := 4) z zf122) (fun ⟨_, hb352⟩ => ?_)
  refine TC.seq (TC.a (TL.w z (fieldLoc z fo25_3 z) (TL.w z (loadLoc z ag23 z (i := 0) z z) (TL.w z (lenC z underlying23 z) (TL.i z z (TL.en (TC.block (TC.loopG (α := ((List (List Int)) × (List (List Int)) × Nat) × ((List (NP Int)) × (List (NP Int)))) (rgs [(6, 1), (16, 31)]) (fun g => [(16, .int .i64 ((g.1.2.2 : Nat) : Int))]) (fun g => [Res.cells b109 #[.int .i64 x0.states, .slice a0_0 x0.starts.length c0_0, .slice a0_1 x0.ends.length c0_1, .slice a0_2 x0.arcs.length c0_2] 25, Res.cells b112 #[.slice a114 ((List.replicate x0.states.toNat ([] : List Int)).length) c115] 96, Res.nest 68 3 1 Go.E.encI (.slice a114 (List.replicate x0.states.toNat ([] : List Int)).length c115) g.2.1, Res.cells b118 #[.slice a120 g.1.2.1.length c121] 96, Res.nest 68 3 1 Go.E.encI (.slice a120 g.1.2.1.length c121) g.2.2]) (fun g => σ) (fun g => iter (fun q : (List (List Int)) × (List (List Int)) × Nat => prune_useful_b1 x0 q.1 q.2.1 q.2.2) g.1 = some r ∧ g.1.1.length = (List.replicate x0.states.toNat ([] : List Int)).length ∧ Zn g.2.1 g.1.1 ∧ Zn g.2.2 g.1.2.1) (fun g => rounds (fun q : (List (List Int)) × (List (List Int)) × Nat => prune_useful_b1 x0 q.1 q.2.1 q.2.2) g.1) (((List.replicate x0.states.toNat ([] : List Int)), (List.replicate x0.states.toNat ([] : List Int)), 0), ((List.replicate x0.states.toNat (nilN : NP Int)), (List.replicate x0.states.toNat (nilN : NP Int)))) (Sub.f [4, 4, 4, 4, 4] 5) z (by repeat (first | exact trivial | refine ⟨z, ?_⟩)) ⟨hh, z, zf116, zf122⟩ (fun g1 j1 hg1 => ?_)))))))))
  obtain ⟨⟨l387, l391, k394⟩, ⟨z389, z392⟩⟩ := g1
  obtain ⟨hh, hn388, zf390, zf393⟩ := hg1
  try dsimp only at hn388 zf390 zf393 ⊢
  obtain ⟨z1, hh, hR1⟩ := iter_e hh
  dsimp only [prune_useful_b1] at hh
  have hn388b := hn388
  have zf390b := zf390.len
  have zf393b := zf393.len
  refine TC.know (isSl_nest (q := 2) z zf390) (fun ⟨_, hb395⟩ => ?_)
  refine TC.know (isSl_nest (q := 4) z zf393) (fun ⟨_, hb396⟩ => ?_)
  refine TC.a (TL.w z (OpVal.lss z z z) (TL.en (TC.seq (TC.cD z hh (fun h397 hh => ?_) (fun h397 hh => ?_)))))
  ·refine TC.skip (S.n (TC.cutG (α := (Unit) × ((List (NP Int)) × (List (NP Int)))) (rgs [(6, 1), (18, 28)]) (fun g => []) (fun g => [Res.cells b109 #[.int .i64 x0.states, .slice a0_0 x0.starts.length c0_0, .slice a0_1 x0.ends.length c0_1, .slice a0_2 x0.arcs.length c0_2] 25, Res.cells b112 #[.slice a114 ((List.replicate x0.states.toNat ([] : List Int)).length) c115] 96, Res.nest 68 3 1 Go.E.encI (.slice a114 (List.replicate x0.states.toNat ([] : List Int)).length c115) g.2.1, Res.cells b118 #[.slice a120 l391.length c121] 96, Res.nest 68 3 1 Go.E.encI (.slice a120 l391.length c121) g.2.2]) (fun g => σ) (fun g => prune_useful_j2 l387 x0 k394 l391 = some z1 ∧ (l387.set (((nth x0.arcs k394 Arc.zero).frm).toNat) ((nth l387 (((nth x0.arcs k394 Arc.zero).frm).toNat) ([] : List Int)) ++ [(nth x0.arcs k394 Arc.zero).to])).length = (List.replicate x0.states.toNat ([] : List Int)).length ∧ Zn g.2.1 (l387.set (((nth x0.arcs k394 Arc.zero).frm).toNat) ((nth l387 (((nth x0.arcs k394 Arc.zero).frm).toNat) ([] : List Int)) ++ [(nth x0.arcs k394 Arc.zero).to])) ∧ (l391.set (((nth x0.arcs k394 Arc.zero).to).toNat) ((nth l391 (((nth x0.arcs k394 Arc.zero).to).toNat) ([] : List Int)) ++ [(nth x0.arcs k394 Arc.zero).frm])).length = l391.length ∧ Zn g.2.2 (l391.set (((nth x0.arcs k394 Arc.zero).to).toNat) ((nth l391 (((nth x0.arcs k394 Arc.zero).to).toNat) ([] : List Int)) ++ [(nth x0.arcs k394 Arc.zero).frm]))) ?_ (fun g j hg => ?_)))
   ·skip
    refine TC.block (TC.a (TL.w z (indexN z underlying23 sz38 z z f0_2.rv.sl (by omega)) (TL.w z (loadSA Arc.zero z ag38 sz38 z f0_2 (by omega) (by omega)) (TL.op z (OpOk.alloc z ze38 z z (fun b404 => ?_))))))
    refine TL.op z (storeAll z sz38 z z z z z z ?_)
    refine TL.en (TC.cutG (α := (Unit) × ((List (NP Int)))) (rgs [(20, 13)]) (fun g => []) (fun g => [Res.cells b109 #[.int .i64 x0.states, .slice a0_0 x0.starts.length c0_0, .slice a0_1 x0.ends.length c0_1, .slice a0_2 x0.arcs.length c0_2] 25, Res.cells b112 #[.slice a114 ((List.replicate x0.states.toNat ([] : List Int)).length) c115] 96, Res.nest 68 3 1 Go.E.encI (.slice a114 (List.replicate x0.states.toNat ([] : List Int)).length c115) g.2, Res.cells b118 #[.slice a120 l391.length c121] 96, Res.nest 68 3 1 Go.E.encI (.slice a120 l391.length c121) z392, Res.cells b404 #[.int .i64 ((nth x0.arcs k394 Arc.zero).frm), .int .i64 ((nth x0.arcs k394 Arc.zero).to), .int .u64 ((((nth x0.arcs k394 Arc.zero).set).a : Nat) : Int), .int .u64 ((((nth x0.arcs k394 Arc.zero).set).b : Nat) : Int), .int .u64 ((((nth x0.arcs k394 Arc.zero).set).c : Nat) : Int), .int .u64 ((((nth x0.arcs k394 Arc.zero).set).d : Nat) : Int), .string (bs ((nth x0.arcs k394 Arc.zero).out)), .bool ((nth x0.arcs k394 Arc.zero).copy)] 38]) (fun g => σ) (fun g => prune_useful_j3 x0 k394 l391 l387 = some z1 ∧ (l387.set (((nth x0.arcs k394 Arc.zero).frm).toNat) ((nth l387 (((nth x0.arcs k394 Arc.zero).frm).toNat) ([] : List Int)) ++ [(nth x0.arcs k394 Arc.zero).to])).length = (List.replicate x0.states.toNat ([] : List Int)).length ∧ Zn g.2 (l387.set (((nth x0.arcs k394 Arc.zero).frm).toNat) ((nth l387 (((nth x0.arcs k394 Arc.zero).frm).toNat) ([] : List Int)) ++ [(nth x0.arcs k394 Arc.zero).to])) ∧ Zn z392 l391) ?_ (fun g j hg => ?_))
    ·skip
     have u28 := grd_c hh
     replace hh := grd_t hh
     have u33 := grd_c hh
     replace hh := grd_t hh
     have u34 := grd_c hh
     replace hh := grd_t hh
     refine TC.drawR (Hr := [Res.cells b404 #[.int .i64 ((nth x0.arcs k394 Arc.zero).frm), .int .i64 ((nth x0.arcs k394 Arc.zero).to), .int .u64 ((((nth x0.arcs k394 Arc.zero).set).a : Nat) : Int), .int .u64 ((((nth x0.arcs k394 Arc.zero).set).b : Nat) : Int), .int .u64 ((((nth x0.arcs k394 Arc.zero).set).c : Nat) : Int), .int .u64 ((((nth x0.arcs k394 Arc.zero).set).d : Nat) : Int), .string (bs ((nth x0.arcs k394 Arc.zero).out)), .bool ((nth x0.arcs k394 Arc.zero).copy)] 38, Res.cells b109 #[.int .i64 x0.states, .slice a0_0 x0.starts.length c0_0, .slice a0_1 x0.ends.length c0_1, .slice a0_2 x0.arcs.length c0_2] 25, Res.cells b112 #[.slice a114 ((List.replicate x0.states.toNat ([] : List Int)).length) c115] 96, Res.cells b118 #[.slice a120 l391.length c121] 96, Res.nest 68 3 1 Go.E.encI (.slice a120 l391.length c121) z392]) (fun r hr => mem_pick [0, 1, 2, 4, 5] z hr) [] (by kernel_rfl) (TA.b 0 z (loadLoc z ag96 z (i := 2) z z) z (TA.a 1 z (fieldLoc z fo38_0 z) z (TA.b 2 z (loadLoc z ag3 z (i := 0) z z) z (TA.b 3 z (loadLoc z ag96 z (i := 2) z z) z (TA.a 4 z (fieldLoc z fo38_0 z) z (TA.b 5 z (loadLoc z ag3 z (i := 0) z z) z (TA.know (isSl_nest (q := 3) z zf390) (fun ⟨hs421, hs421b⟩ => ?_))))))))
     refine TA.b 6 z (OpVal.index z underlying96 sz68 z z hs421 u28.1 u28.2) z (TA.a 8 z (fieldLoc z fo38_1 z) z (TA.b 9 z (loadLoc z ag3 z (i := 0) z z) z ?_))
     obtain ⟨p422, hz422, hm422⟩ := Zn.at zf390 (i := ((nth x0.arcs k394 Arc.zero).frm).toNat) (by omega)
     refine TA.actN [7, 10] (by kernel_rfl) (an z z (OpVal.ok (loadN z ag68 z (q := 3) z hz422 hm422) z z ⟨(fun w h => sees_of (Store.le.refl _) (fun r hr => mem_pick [0, 1, 2, 4, 5] z hr) w h), ?_⟩) (an z z (OpOk.lit (enc := Go.E.encI) [(nth x0.arcs k394 Arc.zero).to] z underlying68 sz3 ze3 z z z Go.E.encI_len (by decide) (by decide) (0 : Int) z (by decide) z (by decide) Go.E.encI_one (fun a423 c424 => ⟨(fun w h => sees_of (Store.le.refl _) (fun r hr => mem_pick [1, 2, 3, 5, 6] z hr) w h), ?_⟩)) (True.intro)))
     ·skip
      refine TA.ac 10 z (OpOk.lit (enc := Go.E.encI) [(nth x0.arcs k394 Arc.zero).to] z underlying68 sz3 ze3 z z z Go.E.encI_len (by decide) (by decide) (0 : Int) z (by decide) z (by decide) Go.E.encI_one (fun a426 c427 => ⟨(fun w h => sees_of (Store.le.refl _) (fun r hr => mem_pick [1, 2, 3, 5, 6] z hr) w h), ?_⟩))
      refine TA.front 4 z z (TA.by (fun w h => Reach.takeN hz422 hm422 h) (TA.ac 11 z (appendS z z underlying68 sz3 by3 ze3 z z (by decide) z z z (.inr ⟨_, 1, z⟩) (by simpa using u33) (by decide) (fun a430 c431 => (k3 ?_)))))
      refine TA.know (isSl_nestX (q := 1) z zf390) (fun ⟨hs432, hs432b⟩ => ?_)
      refine TA.b 12 z (OpVal.index z underlying96 sz68 z z hs432 u34.1 u34.2) z (TA.front 1 z z (TA.front 1 z z ?_))
      have hn434 : (l387.set (((nth x0.arcs k394 Arc.zero).frm).toNat) ((nth l387 (((nth x0.arcs k394 Arc.zero).frm).toNat) ([] : List Int)) ++ [(nth x0.arcs k394 Arc.zero).to])).length = (List.replicate x0.states.toNat ([] : List Int)).length := (List.length_set ..).trans hn388
      refine TA.ac 13 rfl (storeX (l' := ((nth l387 (((nth x0.arcs k394 Arc.zero).frm).toNat) ([] : List Int)) ++ [(nth x0.arcs k394 Arc.zero).to])) rfl sz68 rfl rfl rfl rfl rfl (by rw [zf390.len]; omega) zf390 (fun zf433 => (k2 ?_)))
      exact TA.dn (S.n (cf ((), (z389.set (((nth x0.arcs k394 Arc.zero).frm).toNat) (((nth l387 (((nth x0.arcs k394 Arc.zero).frm).toNat) ([] : List Int)) ++ [(nth x0.arcs k394 Arc.zero).to]), (a430, c431)))) ⟨hh, hn434, zf433, zf393⟩ (Sub.f [2, 6, 6, 3, 6, 6] 6)))
     ·skip
      obtain ⟨p435, hz435, hm435⟩ := Zn.at zf390 (i := ((nth x0.arcs k394 Arc.zero).frm).toNat) (by omega)
      refine TA.ac 7 z (OpVal.ok (loadN z ag68 z (q := 4) z hz435 hm435) z z ⟨(fun w h => sees_of (Store.le.refl _) (fun r hr => mem_pick [1, 2, 3, 5, 6] z hr) w h), ?_⟩)
      refine TA.front 4 z z (TA.by (fun w h => Reach.takeN hz435 hm435 h) (TA.ac 11 z (appendS z z underlying68 sz3 by3 ze3 z z (by decide) z z z (.inr ⟨_, 1, z⟩) (by simpa using u33) (by decide) (fun a437 c438 => (k3 ?_)))))
      refine TA.know (isSl_nestX (q := 1) z zf390) (fun ⟨hs439, hs439b⟩ => ?_)
      refine TA.b 12 z (OpVal.index z underlying96 sz68 z z hs439 u34.1 u34.2) z (TA.front 1 z z (TA.front 1 z z ?_))
      have hn441 : (l387.set (((nth x0.arcs k394 Arc.zero).frm).toNat) ((nth l387 (((nth x0.arcs k394 Arc.zero).frm).toNat) ([] : List Int)) ++ [(nth x0.arcs k394 Arc.zero).to])).length = (List.replicate x0.states.toNat ([] : List Int)).length := (List.length_set ..).trans hn388
      refine TA.ac 13 rfl (storeX (l' := ((nth l387 (((nth x0.arcs k394 Arc.zero).frm).toNat) ([] : List Int)) ++ [(nth x0.arcs k394 Arc.zero).to])) rfl sz68 rfl rfl rfl rfl rfl (by rw [zf390.len]; omega) zf390 (fun zf440 => (k2 ?_)))
      exact TA.dn (S.n (cf ((), (z389.set (((nth x0.arcs k394 Arc.zero).frm).toNat) (((nth l387 (((nth x0.arcs k394 Arc.zero).frm).toNat) ([] : List Int)) ++ [(nth x0.arcs k394 Arc.zero).to]), (a437, c438)))) ⟨hh, hn441, zf440, zf393⟩ (Sub.f [2, 6, 6, 3, 6, 6] 6)))
    ·skip
     obtain ⟨_, z407⟩ := g
     obtain ⟨hh, hn406, zf408, zf409⟩ := hg
     try dsimp only at hn406 zf408 zf409 ⊢
     dsimp only [prune_useful_j3] at hh
     have hn406b := hn406
     have zf408b := zf408.len
     have zf409b := zf409.len
     refine TC.know (isSl_nest (q := 2) z zf408) (fun ⟨_, hb442⟩ => ?_)
     refine TC.know (isSl_nest (q := 4) z zf409) (fun ⟨_, hb443⟩ => ?_)
     have u42 := grd_c hh
     replace hh := grd_t hh
     have u47 := grd_c hh
     replace hh := grd_t hh
     have u48 := grd_c hh
     replace hh := grd_t hh
     refine TC.drawR (Hr := [Res.cells b109 #[.int .i64 x0.states, .slice a0_0 x0.starts.length c0_0, .slice a0_1 x0.ends.length c0_1, .slice a0_2 x0.arcs.length c0_2] 25, Res.cells b112 #[.slice a114 ((List.replicate x0.states.toNat ([] : List Int)).length) c115] 96, Res.nest 68 3 1 Go.E.encI (.slice a114 (List.replicate x0.states.toNat ([] : List Int)).length c115) z407, Res.cells b118 #[.slice a120 l391.length c121] 96, Res.cells b404 #[.int .i64 ((nth x0.arcs k394 Arc.zero).frm), .int .i64 ((nth x0.arcs k394 Arc.zero).to), .int .u64 ((((nth x0.arcs k394 Arc.zero).set).a : Nat) : Int), .int .u64 ((((nth x0.arcs k394 Arc.zero).set).b : Nat) : Int), .int .u64 ((((nth x0.arcs k394 Arc.zero).set).c : Nat) : Int), .int .u64 ((((nth x0.arcs k394 Arc.zero).set).d : Nat) : Int), .string (bs ((nth x0.arcs k394 Arc.zero).out)), .bool ((nth x0.arcs k394 Arc.zero).copy)] 38]) (fun r hr => mem_pick [0, 1, 2, 3, 5] z hr) [] (by kernel_rfl) (TA.b 0 z (loadLoc z ag96 z (i := 3) z z) z (TA.a 1 z (fieldLoc z fo38_1 z) z (TA.b 2 z (loadLoc z ag3 z (i := 4) z z) z (TA.b 3 z (loadLoc z ag96 z (i := 3) z z) z (TA.a 4 z (fieldLoc z fo38_1 z) z (TA.b 5 z (loadLoc z ag3 z (i := 4) z z) z (TA.know (isSl_nest (q := 4) z zf409) (fun ⟨hs455, hs455b⟩ => ?_))))))))
     refine TA.b 6 z (OpVal.index z underlying96 sz68 z z hs455 u42.1 u42.2) z (TA.a 8 z (fieldLoc z fo38_0 z) z (TA.b 9 z (loadLoc z ag3 z (i := 4) z z) z ?_))
     obtain ⟨p456, hz456, hm456⟩ := Zn.at zf409 (i := ((nth x0.arcs k394 Arc.zero).to).toNat) (by omega)
     refine TA.actN [7, 10] (by kernel_rfl) (an z z (OpVal.ok (loadN z ag68 z (q := 4) z hz456 hm456) z z ⟨(fun w h => sees_of (Store.le.refl _) (fun r hr => mem_pick [0, 1, 2, 3, 5] z hr) w h), ?_⟩) (an z z (OpOk.lit (enc := Go.E.encI) [(nth x0.arcs k394 Arc.zero).frm] z underlying68 sz3 ze3 z z z Go.E.encI_len (by decide) (by decide) (0 : Int) z (by decide) z (by decide) Go.E.encI_one (fun a457 c458 => ⟨(fun w h => sees_of (Store.le.refl _) (fun r hr => mem_pick [1, 2, 3, 4, 6] z hr) w h), ?_⟩)) (True.intro)))
     ·skip
      refine TA.ac 10 z (OpOk.lit (enc := Go.E.encI) [(nth x0.arcs k394 Arc.zero).frm] z underlying68 sz3 ze3 z z z Go.E.encI_len (by decide) (by decide) (0 : Int) z (by decide) z (by decide) Go.E.encI_one (fun a460 c461 => ⟨(fun w h => sees_of (Store.le.refl _) (fun r hr => mem_pick [1, 2, 3, 4, 6] z hr) w h), ?_⟩))
      refine TA.front 5 z z (TA.by (fun w h => Reach.takeN hz456 hm456 h) (TA.ac 11 z (appendS z z underlying68 sz3 by3 ze3 z z (by decide) z z z (.inr ⟨_, 1, z⟩) (by simpa using u47) (by decide) (fun a464 c465 => (k3 ?_)))))
      refine TA.know (isSl_nestX (q := 1) z zf409) (fun ⟨hs466, hs466b⟩ => ?_)
      refine TA.b 12 z (OpVal.index z underlying96 sz68 z z hs466 u48.1 u48.2) z (TA.front 1 z z (TA.front 1 z z ?_))
      have hn468 : (l391.set (((nth x0.arcs k394 Arc.zero).to).toNat) ((nth l391 (((nth x0.arcs k394 Arc.zero).to).toNat) ([] : List Int)) ++ [(nth x0.arcs k394 Arc.zero).frm])).length = l391.length := (List.length_set ..).trans rfl
      refine TA.ac 13 rfl (storeX (l' := ((nth l391 (((nth x0.arcs k394 Arc.zero).to).toNat) ([] : List Int)) ++ [(nth x0.arcs k394 Arc.zero).frm])) rfl sz68 rfl rfl rfl rfl rfl (by rw [zf409.len]; omega) zf409 (fun zf467 => (k2 ?_)))
      exact TA.dn (B.n (S.n (cf ((), (z407, (z392.set (((nth x0.arcs k394 Arc.zero).to).toNat) (((nth l391 (((nth x0.arcs k394 Arc.zero).to).toNat) ([] : List Int)) ++ [(nth x0.arcs k394 Arc.zero).frm]), (a464, c465))))) ⟨hh, hn406, zf408, hn468, zf467⟩ (Sub.f [5, 5, 5, 5] 5))))
     ·skip
      obtain ⟨p469, hz469, hm469⟩ := Zn.at zf409 (i := ((nth x0.arcs k394 Arc.zero).to).toNat) (by omega)
      refine TA.ac 7 z (OpVal.ok (loadN z ag68 z (q := 5) z hz469 hm469) z z ⟨(fun w h => sees_of (Store.le.refl _) (fun r hr => mem_pick [1, 2, 3, 4, 6] z hr) w h), ?_⟩)
      refine TA.front 5 z z (TA.by (fun w h => Reach.takeN hz469 hm469 h) (TA.ac 11 z (appendS z z underlying68 sz3 by3 ze3 z z (by decide) z z z (.inr ⟨_, 1, z⟩) (by simpa using u47) (by decide) (fun a471 c472 => (k3 ?_)))))
      refine TA.know (isSl_nestX (q := 1) z zf409) (fun ⟨hs473, hs473b⟩ => ?_)
      refine TA.b 12 z (OpVal.index z underlying96 sz68 z z hs473 u48.1 u48.2) z (TA.front 1 z z (TA.front 1 z z ?_))
      have hn475 : (l391.set (((nth x0.arcs k394 Arc.zero).to).toNat) ((nth l391 (((nth x0.arcs k394 Arc.zero).to).toNat) ([] : List Int)) ++ [(nth x0.arcs k394 Arc.zero).frm])).length = l391.length := (List.length_set ..).trans rfl
      refine TA.ac 13 rfl (storeX (l' := ((nth l391 (((nth x0.arcs k394 Arc.zero).to).toNat) ([] : List Int)) ++ [(nth x0.arcs k394 Arc.zero).frm])) rfl sz68 rfl rfl rfl rfl rfl (by rw [zf409.len]; omega) zf409 (fun zf474 => (k2 ?_)))
      exact TA.dn (B.n (S.n (cf ((), (z407, (z392.set (((nth x0.arcs k394 Arc.zero).to).toNat) (((nth l391 (((nth x0.arcs k394 Arc.zero).to).toNat) ([] : List Int)) ++ [(nth x0.arcs k394 Arc.zero).frm]), (a471, c472))))) ⟨hh, hn406, zf408, hn475, zf474⟩ (Sub.f [5, 5, 5, 5] 5))))
   ·skip
    obtain ⟨_, ⟨z399, z402⟩⟩ := g
    obtain ⟨hh, hn398, zf400, hn401, zf403⟩ := hg
    try dsimp only at hn398 zf400 hn401 zf403 ⊢
    dsimp only [prune_useful_j2] at hh
    have hn398b := hn398
    have zf400b := zf400.len
    have hn401b := hn401
    have zf403b := zf403.len
    refine TC.know (isSl_nest (q := 2) z zf400) (fun ⟨_, hb476⟩ => ?_)
    refine TC.know (isSl_nest (q := 4) z zf403) (fun ⟨_, hb477⟩ => ?_)
    refine TC.region (TL.w z (OpVal.succ z z z (by omega)) (TL.i z z ?_))
    rw [← hn401]
    refine TL.en ?_
    obtain ⟨hh, hlt478⟩ := nxt_x hR1 hh
    exact lf (((l387.set (((nth x0.arcs k394 Arc.zero).frm).toNat) ((nth l387 (((nth x0.arcs k394 Arc.zero).frm).toNat) ([] : List Int)) ++ [(nth x0.arcs k394 Arc.zero).to])), (l391.set (((nth x0.arcs k394 Arc.zero).to).toNat) ((nth l391 (((nth x0.arcs k394 Arc.zero).to).toNat) ([] : List Int)) ++ [(nth x0.arcs k394 Arc.zero).frm])), (k394 + 1)), (z399, z402)) hlt478 ⟨hh, hn398, zf400, zf403⟩ (Sub.f [4, 4, 4, 4, 4] 5)
  ·refine TC.exit (S.x (S.x ?_))
   replace hh := fin_x hR1 hh
   refine TC.exitHere (S.n (TC.a (TL.w z (makeFn z) (TL.w z (moveFn (.inr z) z) (TL.en ?_)))))
   rw [← hn388]
   refine TC.front 2 z z (TC.seals (fun w h => Reach.sealNest Go.E.encI_len zf390 h) (fun τ481 hle480 hr479 => ?_))
   replace f0_0 := f0_0.mono hle480
   replace f0_1 := f0_1.mono hle480
   replace f0_2 := f0_2.mono hle480
   have hr479b := hr479.big
   refine TC.front 3 z z (TC.seals (fun w h => Reach.sealNest Go.E.encI_len zf393 h) (fun τ484 hle483 hr482 => ?_))
   replace f0_0 := f0_0.mono hle483
   replace f0_1 := f0_1.mono hle483
   replace f0_2 := f0_2.mono hle483
   replace hr479 := hr479.mono hle483
   have hr482b := hr482.big
   refine TC.ret ?_
   obtain rfl := so hh
   exact ro [Res.cells b109 #[.int .i64 x0.states, .slice a0_0 x0.starts.length c0_0, .slice a0_1 x0.ends.length c0_1, .slice a0_2 x0.arcs.length c0_2] 25, Res.cells b112 #[.slice a114 l387.length c115] 96, Res.cells b118 #[.slice a120 l391.length c121] 96] z (RVs.tmp z RVs.nil) ⟨b109, a0_0, c0_0, a0_1, c0_1, a0_2, c0_2, b112, a114, c115, b118, a120, c121, z, f0_0, f0_1, f0_2, hr479, hr482, z⟩

noncomputable def prune_Trim_r4 (l143 : List Int) (k145 : Nat) (y4_0 : Int) : Option (Nat × ((List Int) × Nat)) :=
 grd (0 ≤ y4_0 ∧ y4_0 < (l143.length : Int)) (grd (k145 + 1 ≤ 9223372036854775807) (some (0, ((l143.set y4_0.toNat ((k145 : Nat) : Int)), (k145 + 1)))))
noncomputable def prune_Trim_j1 (k169 : Nat) (l175 : List Tip) : Option (((List Tip) × Nat) ⊕ (Fst × Int)) :=
 nxt (l175, (k169 + 1))
noncomputable def prune_Trim_j2 (k208 : Nat) (l215 : List Tip) : Option (((List Tip) × Nat) ⊕ (Fst × Int)) :=
 nxt (l215, (k208 + 1))
noncomputable def prune_Trim_j3 (k249 : Nat) (l257 : List Arc) : Option (((List Arc) × Nat) ⊕ (Fst × Int)) :=
 nxt (l257, (k249 + 1))
noncomputable def prune_Trim_b4 (x0 : Fst) (l143 : List Int) (k145 : Nat) (l166 : List Tip) (l205 : List Tip) (l246 : List Arc) (k249 : Nat) : Option (((List Arc) × Nat) ⊕ (Fst × Int)) :=
 iteO (decide (((k249 : Nat) : Int) < ((x0.arcs.length : Nat) : Int))) (grd (0 ≤ ((nth x0.arcs k249 Arc.zero).frm) ∧ ((nth x0.arcs k249 Arc.zero).frm) < (l143.length : Int)) (grd (0 ≤ ((nth x0.arcs k249 Arc.zero).to) ∧ ((nth x0.arcs k249 Arc.zero).to) < (l143.length : Int)) (iteO (decide (0 ≤ (nth l143 (((nth x0.arcs k249 Arc.zero).frm).toNat) (0 : Int)))) (iteO (decide (0 ≤ (nth l143 (((nth x0.arcs k249 Arc.zero).to).toNat) (0 : Int)))) (grd ((l246.length + [(⟨(nth l143 (((nth x0.arcs k249 Arc.zero).frm).toNat) (0 : Int)), (nth l143 (((nth x0.arcs k249 Arc.zero).to).toNat) (0 : Int)), (nth x0.arcs k249 Arc.zero).set, (nth x0.arcs k249 Arc.zero).out, (nth x0.arcs k249 Arc.zero).copy⟩ : Arc)].length) * 72 ≤ 140737488355328) (prune_Trim_j3 k249 (l246 ++ [(⟨(nth l143 (((nth x0.arcs k249 Arc.zero).frm).toNat) (0 : Int)), (nth l143 (((nth x0.arcs k249 Arc.zero).to).toNat) (0 : Int)), (nth x0.arcs k249 Arc.zero).set, (nth x0.arcs k249 Arc.zero).out, (nth x0.arcs k249 Arc.zero).copy⟩ : Arc)]))) (prune_Trim_j3 k249 l246)) (prune_Trim_j3 k249 l246)))) (fin (bnd (fst_Sort (⟨((k145 : Nat) : Int), l166, l205, l246⟩ : Fst)) (fun v145 => some (v145.1, v145.2))))
noncomputable def prune_Trim_b3 (x0 : Fst) (l143 : List Int) (k145 : Nat) (l166 : List Tip) (l205 : List Tip) (k208 : Nat) : Option (((List Tip) × Nat) ⊕ (Fst × Int)) :=
 iteO (decide (((k208 : Nat) : Int) < ((x0.ends.length : Nat) : Int))) (grd (0 ≤ ((nth x0.ends k208 Tip.zero).state) ∧ ((nth x0.ends k208 Tip.zero).state) < (l143.length : Int)) (iteO (decide (0 ≤ (nth l143 (((nth x0.ends k208 Tip.zero).state).toNat) (0 : Int)))) (grd ((l205.length + [(⟨(nth l143 (((nth x0.ends k208 Tip.zero).state).toNat) (0 : Int)), (nth x0.ends k208 Tip.zero).out⟩ : Tip)].length) * 24 ≤ 140737488355328) (prune_Trim_j2 k208 (l205 ++ [(⟨(nth l143 (((nth x0.ends k208 Tip.zero).state).toNat) (0 : Int)), (nth x0.ends k208 Tip.zero).out⟩ : Tip)]))) (prune_Trim_j2 k208 l205))) (fin (iter (fun q : (List Arc) × Nat => prune_Trim_b4 x0 l143 k145 l166 l205 q.1 q.2) (([] : List Arc), 0)))
noncomputable def prune_Trim_b2 (x0 : Fst) (l143 : List Int) (k145 : Nat) (l166 : List Tip) (k169 : Nat) : Option (((List Tip) × Nat) ⊕ (Fst × Int)) :=
 iteO (decide (((k169 : Nat) : Int) < ((x0.starts.length : Nat) : Int))) (grd (0 ≤ ((nth x0.starts k169 Tip.zero).state) ∧ ((nth x0.starts k169 Tip.zero).state) < (l143.length : Int)) (iteO (decide (0 ≤ (nth l143 (((nth x0.starts k169 Tip.zero).state).toNat) (0 : Int)))) (grd ((l166.length + [(⟨(nth l143 (((nth x0.starts k169 Tip.zero).state).toNat) (0 : Int)), (nth x0.starts k169 Tip.zero).out⟩ : Tip)].length) * 24 ≤ 140737488355328) (prune_Trim_j1 k169 (l166 ++ [(⟨(nth l143 (((nth x0.starts k169 Tip.zero).state).toNat) (0 : Int)), (nth x0.starts k169 Tip.zero).out⟩ : Tip)]))) (prune_Trim_j1 k169 l166))) (fin (iter (fun q : (List Tip) × Nat => prune_Trim_b3 x0 l143 k145 l166 q.1 q.2) (([] : List Tip), 0)))
noncomputable def prune_Trim_k4 (x0 : Fst) (jz : Nat) (l143 : List Int) (k145 : Nat) : Option (Fst × Int) :=
 jsel jz (iter (fun q : (List Tip) × Nat => prune_Trim_b2 x0 l143 k145 q.1 q.2) (([] : List Tip), 0)) (fun _ => none)
noncomputable def prune_Trim_b1 (x0 : Fst) (l117 : List Int) (k119 : Nat) : Option (((List Int) × Nat) ⊕ (Fst × Int)) :=
 iteO (decide (((k119 : Nat) : Int) < (((List.replicate x0.states.toNat (0 : Int)).length : Nat) : Int))) (grd (k119 < l117.length) (nxt ((l117.set k119 (-1)), (k119 + 1)))) (fin (bnd (prune_useful x0) (fun v29 => bnd (prune_useful_1 (stepY (fun (q : (List Int) × Nat) (x : Int) => prune_Trim_r4 q.1 q.2 x)) (0, (l117, 0)) (⟨v29.1.states, v29.1.starts, v29.1.ends, v29.1.arcs⟩ : Fst) v29.2.1 v29.2.2) (fun zr4 => prune_Trim_k4 x0 zr4.1 zr4.2.1 zr4.2.2))))
noncomputable def prune_Trim (x0 : Fst) : Option (Fst × Int) :=
 bnd (fst_Check x0) (fun v5 => iteO (decide (v5 ≠ 0)) (some ((⟨0, ([] : List Tip), ([] : List Tip), ([] : List Arc)⟩ : Fst), 1)) (grd (0 ≤ x0.states ∧ 8 * x0.states.toNat ≤ 281474976710656) (iter (fun q : (List Int) × Nat => prune_Trim_b1 x0 q.1 q.2) ((List.replicate x0.states.toNat (0 : Int)), 0))))
def prune_Trim_P (σ : Store) (r : Fst × Int) : Value → Store → List Res → Prop := fun v σ' H' =>
 ∃ (a1 : Option Addr), ∃ (c1 : Nat), ∃ (a2 : Option Addr), ∃ (c2 : Nat), ∃ (a3 : Option Addr), ∃ (c3 : Nat),  v = .tuple #[.agg #[.int .i64 r.1.states, .slice a1 r.1.starts.length c1, .slice a2 r.1.ends.length c2, .slice a3 r.1.arcs.length c3], .int .i64 r.2] ∧ RS σ' 2 encTip (.slice a1 r.1.starts.length c1) r.1.starts ∧ RS σ' 2 encTip (.slice a2 r.1.ends.length c2) r.1.ends ∧ RS σ' 8 encArc (.slice a3 r.1.arcs.length c3) r.1.arcs ∧ H' = []
theorem prune_Trim_con {σ : Store} {x0 : Fst} {a0_0 : Option Addr} {c0_0 : Nat} {a0_1 : Option Addr} {c0_1 : Nat} {a0_2 : Option Addr} {c0_2 : Nat} (f0_0 : RS σ 2 encTip (.slice a0_0 x0.starts.length c0_0) x0.starts) (f0_1 : RS σ 2 encTip (.slice a0_1 x0.ends.length c0_1) x0.ends) (f0_2 : RS σ 8 encArc (.slice a0_2 x0.arcs.length c0_2) x0.arcs) {r : Fst × Int} (hh : prune_Trim x0 = some r) :
  Con Tryz.prog 25 #[.agg #[.int .i64 x0.states, .slice a0_0 x0.starts.length c0_0, .slice a0_1 x0.ends.length c0_1, .slice a0_2 x0.arcs.length c0_2]] σ [] (prune_Trim_P σ r) := by
 dsimp only [prune_Trim] at hh
 have f0_0b := f0_0.rv.big
 have f0_1b := f0_1.rv.big
 have f0_2b := f0_2.rv.big
 refine Con.mk (n := 136) Tryz.func25 z z z (fun w0 => ?_)
 refine TC.a (TL.op z (boxA z z z z (fun b101 => ?_)))
 refine TL.op z (OpOk.alloc z ze25 z z (fun b103 => ?_))
 refine TL.i z z (TL.en (TC.seq (TC.a (TL.w z (loadAll z ag25 sz25 z (i := 1) z z) ?_))))
 obtain ⟨v5, u5, hh⟩ := bnd_e hh
 refine TL.op z (callP (fst_Check_con (x0 := x0) f0_0 f0_1 f0_2 u5) z z pf37 z z z ?_)
 refine TL.w z (OpVal.neq z z z) (TL.en (TC.cD z hh (fun h105 hh => ?_) (fun h105 hh => ?_)))
 ·refine TC.a (TL.w z (buildL z pl25 ze25 z) (TL.op z (storeAll z sz25 z z z z z z ?_)))
  refine TL.i z z (TL.en (TC.rt 1 (S.r ?_)))
  obtain rfl := so hh
  exact ro [] z (RVs.agg ag25 sz25 z (i := 0) z z (RVs.tmp z RVs.nil)) ⟨none, 0, none, 0, none, 0, z, (RS.nilF _ encTip encTip_len), (RS.nilF _ encTip encTip_len), (RS.nilF _ encArc encArc_len), z⟩
 ·refine TC.skip (S.n (TC.a (TL.w z (fieldLoc z fo25_0 z) (TL.w z (loadLoc z ag3 z (i := 1) z z) ?_))))
  have u12 := grd_c hh
  replace hh := grd_t hh
  refine TL.op rfl (makeS2 (m := x0.states.toNat) (enc := Go.E.encI) (0 : Int) rfl underlying68 sz3 by3 ze3 rfl rfl (by show Value.int _ _ = _; rw [Int.toNat_of_nonneg u12.1]) (by show Value.int _ _ = _; rw [Int.toNat_of_nonneg u12.1]) (by omega) (by decide) Go.E.encI_len (by decide) rfl Go.E.encI_one (fun a106 c107 => ?_))
  refine TL.op z (OpOk.alloc z ze68 z z (fun b109 => ?_))
  refine TL.op z (storeSl z sz68 z z z z z ?_)
  refine TL.en (TC.seq (TC.a (TL.w z (loadLoc z ag68 z (i := 0) z z) (TL.w z (lenC z underlying68 z) (TL.i z z (TL.en (TC.block (TC.loopG (α := ((List Int) × Nat) × (Unit)) (rgs [(5, 1), (27, 7)]) (fun g => [(27, .int .i64 ((g.1.2 : Nat) : Int))]) (fun g => [Res.cells b101 #[.int .i64 x0.states, .slice a0_0 x0.starts.length c0_0, .slice a0_1 x0.ends.length c0_1, .slice a0_2 x0.arcs.length c0_2] 25, Res.cells b103 #[.int .i64 0, .slice none 0 0, .slice none 0 0, .slice none 0 0] 25, Res.cells b109 #[.slice a106 ((List.replicate x0.states.toNat (0 : Int)).length) c107] 68, Res.rowS 3 1 Go.E.encI (.slice a106 (List.replicate x0.states.toNat (0 : Int)).length c107) g.1.1]) (fun g => σ) (fun g => iter (fun q : (List Int) × Nat => prune_Trim_b1 x0 q.1 q.2) g.1 = some r ∧ g.1.1.length = (List.replicate x0.states.toNat (0 : Int)).length) (fun g => rounds (fun q : (List Int) × Nat => prune_Trim_b1 x0 q.1 q.2) g.1) (((List.replicate x0.states.toNat (0 : Int)), 0), ()) (Sub.f [1, 1, 2, 3] 4) z (by repeat (first | exact trivial | refine ⟨z, ?_⟩)) ⟨hh, z⟩ (fun g1 j1 hg1 => ?_)))))))))
  obtain ⟨⟨l117, k119⟩, _⟩ := g1
  obtain ⟨hh, hn118⟩ := hg1
  try dsimp only at hn118 ⊢
  obtain ⟨z1, hh, hR1⟩ := iter_e hh
  dsimp only [prune_Trim_b1] at hh
  have hn118b := hn118
  refine TC.isSl (i := 3) z (fun _ hb120 _ => ?_)
  refine TC.a (TL.w z (OpVal.lss z z z) (TL.en (TC.seq (TC.cD z hh (fun h121 hh => ?_) (fun h121 hh => ?_)))))
  ·refine TC.skip (S.n (TC.seq (TC.block (TC.a (TL.i z z (TL.i z z (TL.en (TC.region (TL.w z (loadLoc z ag68 z (i := 2) z z) (TL.i z z ?_))))))))))
   have u23 := grd_c hh
   replace hh := grd_t hh
   refine TL.isSl (i := 3) z (fun hs122 _ _ => ?_)
   refine TL.w z (indexN z underlying68 sz3 z z hs122 (by omega)) (TL.front 3 z z ?_)
   have hn123 : (l117.set k119 (-1)).length = (List.replicate x0.states.toNat (0 : Int)).length := by rw [List.length_set]; exact hn118
   refine TL.op z (storeS (-1) z sz3 z z z z Go.E.encI_len Go.E.encI_one (by omega) (by omega) ?_)
   refine TL.nil (B.n (S.n (TC.region (TL.w z (OpVal.succ z z z (by omega)) (TL.i z z (TL.en ?_))))))
   obtain ⟨hh, hlt124⟩ := nxt_x hR1 hh
   exact lf (((l117.set k119 (-1)), (k119 + 1)), ()) hlt124 ⟨hh, hn123⟩ (Sub.f [3, 3, 3] 4)
  ·refine TC.exit (S.x (S.x ?_))
   replace hh := fin_x hR1 hh
   refine TC.exitHere (S.n (TC.a (TL.op z (OpOk.alloc z ze25 z z (fun b125 => ?_)))))
   refine TL.en (TC.seq (TC.a (TL.w z (loadAll z ag25 sz25 z (i := 1) z z) ?_)))
   obtain ⟨v29, u29, hh⟩ := bnd_e hh
   refine TL.op z (OpOk.call (prune_useful_con f0_0 f0_1 f0_2 u29) z z pf38 z z z z ?_)
   rintro _ τ127 _ hle127 ⟨b127_10, a127_1, c127_2, a127_4, c127_5, a127_7, c127_8, b127_14, a127_11, c127_12, b127_18, a127_15, c127_16, rfl, f127_3, f127_6, f127_9, f127_13, f127_17, rfl⟩
   replace f0_0 := f0_0.mono hle127
   replace f0_1 := f0_1.mono hle127
   replace f0_2 := f0_2.mono hle127
   have f127_3b := f127_3.rv.big
   have f127_6b := f127_6.rv.big
   have f127_9b := f127_9.rv.big
   have f127_13b := f127_13.big
   have f127_17b := f127_17.big
   refine TL.en (TC.block (TC.ofSub (Sub.f [2, 2, 2, 3, 7, 7, 7, 7] 8) ?_))
   obtain ⟨zr4, hz4, hh⟩ := bnd_e hh
   obtain ⟨jz4, ⟨l143, k145⟩⟩ := zr4
   dsimp only at hh
   refine TC.rangeG (A := (fun (x : Int) _ vs => vs = [.int .i64 x])) [] (fun (q : (List Int) × Nat) (x : Int) => prune_Trim_r4 q.1 q.2 x) (fun (q : (List Int) × Nat) (τ146 : Store) Hs => Hs = [Res.cells b101 #[.int .i64 x0.states, .slice a0_0 x0.starts.length c0_0, .slice a0_1 x0.ends.length c0_1, .slice a0_2 x0.arcs.length c0_2] 25, Res.cells b103 #[.int .i64 0, .slice none 0 0, .slice none 0 0, .slice none 0 0] 25, Res.cells b109 #[.slice a106 ((List.replicate x0.states.toNat (0 : Int)).length) c107] 68, Res.rowS 3 1 Go.E.encI (.slice a106 (List.replicate x0.states.toNat (0 : Int)).length c107) q.1, Res.cells b125 #[.int .i64 ((q.2 : Nat) : Int), .slice none 0 0, .slice none 0 0, .slice none 0 0] 25] ∧ q.1.length = (List.replicate x0.states.toNat (0 : Int)).length) (s := (l117, 0)) rfl pf53 rfl rfl (by rintro _ _ _ _ ⟨rfl, hn144⟩ hle_; exact ⟨rfl, hn144⟩) ⟨rfl, hn118⟩ (fun _ _ _ h_ => by subst h_; rfl) (prune_useful_1_con f127_3 f127_6 f127_9 f127_13 f127_17 hz4) ?_ ?_
   ·clear hh hz4
    rintro l_ _ _ _ τ146 ⟨l143, k145⟩ y4_0 z4 _ _ hh hle147 rfl ⟨rfl, hn144⟩
    dsimp only [prune_Trim_r4] at hh
    replace f0_0 := f0_0.mono hle147
    replace f0_1 := f0_1.mono hle147
    replace f0_2 := f0_2.mono hle147
    have hn144b := hn144
    show TC _ _ _ (upds _ [(36, .int .i64 y4_0)]) τ146 [Res.cells b101 #[.int .i64 x0.states, .slice a0_0 x0.starts.length c0_0, .slice a0_1 x0.ends.length c0_1, .slice a0_2 x0.arcs.length c0_2] 25, Res.cells b103 #[.int .i64 0, .slice none 0 0, .slice none 0 0, .slice none 0 0] 25, Res.cells b109 #[.slice a106 ((List.replicate x0.states.toNat (0 : Int)).length) c107] 68, Res.rowS 3 1 Go.E.encI (.slice a106 (List.replicate x0.states.toNat (0 : Int)).length c107) l143, Res.cells b125 #[.int .i64 ((k145 : Nat) : Int), .slice none 0 0, .slice none 0 0, .slice none 0 0] 25]
    refine TC.isSl (i := 3) z (fun _ hb148 _ => ?_)
    refine TC.region (TL.i z z (TL.nil (asg_n (fun _ _ _ => ?_))))
    refine TC.block (TC.a (TL.w z (loadLoc z ag68 z (i := 2) z z) (TL.i z z (TL.w z (fieldLoc z fo25_0 z) (TL.w z (loadLoc z ag3 z (i := 4) z z) ?_)))))
    have u35 := grd_c hh
    replace hh := grd_t hh
    refine TL.isSl (i := 3) z (fun hs149 _ _ => ?_)
    refine TL.w z (OpVal.index z underlying68 sz3 z z hs149 u35.1 u35.2) (TL.front 3 z z ?_)
    have hn150 : (l143.set y4_0.toNat ((k145 : Nat) : Int)).length = (List.replicate x0.states.toNat (0 : Int)).length := by rw [List.length_set]; exact hn144
    refine TL.op z (storeS ((k145 : Nat) : Int) z sz3 z z z z Go.E.encI_len Go.E.encI_one (by omega) (by omega) ?_)
    refine TL.en (TC.region (TL.w z (fieldLoc z fo25_0 z) (TL.w z (loadLoc z ag3 z (i := 4) z z) ?_)))
    have u39 := grd_c hh
    replace hh := grd_t hh
    refine TL.w z (OpVal.succ z z z (by omega)) (TL.w z (fieldLoc z fo25_0 z) (TL.front 4 z z (TL.op z (storeI z sz3 z z z z z ?_))))
    refine TL.nil (B.n ?_)
    obtain rfl := so hh
    exact rnd_n ⟨z, _, Sub.f [1, 4, 4, 4] 5, ⟨z, hn150⟩⟩
   ·rintro τ146 _ _ hle147 ⟨rfl, hn144⟩ ⟨rfl⟩
    replace f0_0 := f0_0.mono hle147
    replace f0_1 := f0_1.mono hle147
    replace f0_2 := f0_2.mono hle147
    have hn144b := hn144
    dsimp only [prune_Trim_k4] at hh
    show jmpQ _ _ _ _ _ τ146 [Res.cells b101 #[.int .i64 x0.states, .slice a0_0 x0.starts.length c0_0, .slice a0_1 x0.ends.length c0_1, .slice a0_2 x0.arcs.length c0_2] 25, Res.cells b103 #[.int .i64 0, .slice none 0 0, .slice none 0 0, .slice none 0 0] 25, Res.cells b109 #[.slice a106 ((List.replicate x0.states.toNat (0 : Int)).length) c107] 68, Res.rowS 3 1 Go.E.encI (.slice a106 (List.replicate x0.states.toNat (0 : Int)).length c107) l143, Res.cells b125 #[.int .i64 ((k145 : Nat) : Int), .slice none 0 0, .slice none 0 0, .slice none 0 0] 25, Res.cells b127_10 #[.int .i64 v29.1.states, .slice a127_1 v29.1.starts.length c127_2, .slice a127_4 v29.1.ends.length c127_5, .slice a127_7 v29.1.arcs.length c127_8] 25, Res.cells b127_14 #[.slice a127_11 v29.2.1.length c127_12] 96, Res.cells b127_18 #[.slice a127_15 v29.2.2.length c127_16] 96]
    refine jmp_split hh ?_ ?_ <;> clear hh
    ·intro hh
     refine B.n (S.n (TC.seq (TC.a (TL.w z (fieldLoc z fo25_1 z) (TL.w z (loadLoc z ag22 z (i := 0) z z) (TL.w z (lenC z underlying22 z) (TL.i z z (TL.en (TC.block (TC.nilS 43 2 encTip (TC.loopG (α := ((List Tip) × Nat) × ((Option Addr) × Nat)) (rgs [(9, 2), (49, 21)]) (fun g => [(49, .int .i64 ((g.1.2 : Nat) : Int))]) (fun g => [Res.cells b101 #[.int .i64 x0.states, .slice a0_0 x0.starts.length c0_0, .slice a0_1 x0.ends.length c0_1, .slice a0_2 x0.arcs.length c0_2] 25, Res.cells b103 #[.int .i64 0, .slice none 0 0, .slice none 0 0, .slice none 0 0] 25, Res.cells b109 #[.slice a106 ((List.replicate x0.states.toNat (0 : Int)).length) c107] 68, Res.rowS 3 1 Go.E.encI (.slice a106 (List.replicate x0.states.toNat (0 : Int)).length c107) l143, Res.cells b125 #[.int .i64 ((k145 : Nat) : Int), .slice g.2.1 g.1.1.length g.2.2, .slice none 0 0, .slice none 0 0] 25, Res.rowS 43 2 encTip (.slice g.2.1 g.1.1.length g.2.2) g.1.1]) (fun g => τ146) (fun g => iter (fun q : (List Tip) × Nat => prune_Trim_b2 x0 l143 k145 q.1 q.2) g.1 = some r ∧ l143.length = (List.replicate x0.states.toNat (0 : Int)).length) (fun g => rounds (fun q : (List Tip) × Nat => prune_Trim_b2 x0 l143 k145 q.1 q.2) g.1) ((([] : List Tip), 0), (none, 0)) (Sub.f [5, 5, 5, 5, 5] 6) z (by repeat (first | exact trivial | refine ⟨z, ?_⟩)) ⟨hh, hn144⟩ (fun g2 j2 hg2 => ?_))))))))))))
     obtain ⟨⟨l166, k169⟩, ⟨a167, c168⟩⟩ := g2
     obtain ⟨hh, hn164⟩ := hg2
     try dsimp only at hn164 ⊢
     obtain ⟨z1, hh, hR1⟩ := iter_e hh
     dsimp only [prune_Trim_b2] at hh
     have hn164b := hn164
     refine TC.isSl (i := 3) z (fun _ hb171 _ => ?_)
     refine TC.isSl (i := 5) z (fun _ hb172 _ => ?_)
     refine TC.a (TL.w z (OpVal.lss z z z) (TL.en (TC.seq (TC.cD z hh (fun h173 hh => ?_) (fun h173 hh => ?_)))))
     ·refine TC.skip (S.n (TC.cutG (α := ((List Tip)) × ((Option Addr) × Nat)) (rgs [(9, 2), (51, 18)]) (fun g => []) (fun g => [Res.cells b101 #[.int .i64 x0.states, .slice a0_0 x0.starts.length c0_0, .slice a0_1 x0.ends.length c0_1, .slice a0_2 x0.arcs.length c0_2] 25, Res.cells b103 #[.int .i64 0, .slice none 0 0, .slice none 0 0, .slice none 0 0] 25, Res.cells b109 #[.slice a106 ((List.replicate x0.states.toNat (0 : Int)).length) c107] 68, Res.rowS 3 1 Go.E.encI (.slice a106 (List.replicate x0.states.toNat (0 : Int)).length c107) l143, Res.cells b125 #[.int .i64 ((k145 : Nat) : Int), .slice g.2.1 g.1.length g.2.2, .slice none 0 0, .slice none 0 0] 25, Res.rowS 43 2 encTip (.slice g.2.1 g.1.length g.2.2) g.1]) (fun g => τ146) (fun g => prune_Trim_j1 k169 g.1 = some z1 ∧ l143.length = (List.replicate x0.states.toNat (0 : Int)).length) ?_ (fun g j hg => ?_)))
      ·skip
       refine TC.block (TC.a (TL.w z (indexN z underlying22 sz43 z z f0_0.rv.sl (by omega)) (TL.w z (loadSA Tip.zero z ag43 sz43 z f0_0 (by omega) (by omega)) (TL.op z (OpOk.alloc z ze43 z z (fun b178 => ?_))))))
       refine TL.op z (storeAll z sz43 z z z z z z ?_)
       refine TL.en (TC.a (TL.w z (loadLoc z ag68 z (i := 3) z z) (TL.w z (fieldLoc z fo43_0 z) (TL.w z (loadLoc z ag3 z (i := 0) z z) ?_))))
       have u54 := grd_c hh
       replace hh := grd_t hh
       refine TL.isSl (i := 4) z (fun hs180 _ _ => ?_)
       refine TL.w z (OpVal.index z underlying68 sz3 z z hs180 u54.1 u54.2) (TL.w z (loadO1 (0 : Int) z ag3 z (q := 4) z Go.E.encI_len (by omega) z) (TL.i z z (TL.en (TC.a (TL.i z z (TL.w z (OpVal.geq z z z) (TL.en (TC.cD z hh (fun h181 hh => ?_) (fun h181 hh => ?_)))))))))
       ·refine TC.region (TL.w z (fieldLoc z fo25_1 z) (TL.w z (loadLoc z ag22 z (i := 5) z z) (TL.i z z (TL.w z (fieldLoc z fo43_1 z) (TL.w z (loadLoc z ag9 z (i := 0) z z) (TL.w z (buildL z pl43 ze43 z) (TL.op z (OpOk.lit (enc := encTip) [(⟨(nth l143 (((nth x0.starts k169 Tip.zero).state).toNat) (0 : Int)), (nth x0.starts k169 Tip.zero).out⟩ : Tip)] z underlying22 sz43 ze43 z z z encTip_len (by decide) (by decide) Tip.zero z (by decide) z (by decide) encTip_one (fun a182 c183 => ?_)))))))))
        refine TL.front 7 z z ?_
        have u66 := grd_c hh
        replace hh := grd_t hh
        refine TL.op z (appendS z z underlying22 sz43 by43 ze43 z z (by decide) z z z (.inr ⟨_, 0, z⟩) (by simpa using u66) (by decide) (fun a185 c186 => ?_))
        refine TL.w z (fieldLoc z fo25_1 z) (TL.front 7 z z (TL.op z (storeSl z sz22 z z z z z ?_)))
        exact TL.nil (B.n (S.n (cf ((l166 ++ [(⟨(nth l143 (((nth x0.starts k169 Tip.zero).state).toNat) (0 : Int)), (nth x0.starts k169 Tip.zero).out⟩ : Tip)]), (a185, c186)) ⟨hh, hn164⟩ (Sub.f [1, 1, 7, 7, 7, 7] 6))))
       ·exact TC.skip (B.n (S.n (cf (l166, (a167, c168)) ⟨hh, hn164⟩ (Sub.f [6, 6, 6, 6, 6, 6] 6))))
      ·skip
       obtain ⟨l175, ⟨a176, c177⟩⟩ := g
       obtain ⟨hh, hn174⟩ := hg
       try dsimp only at hn174 ⊢
       dsimp only [prune_Trim_j1] at hh
       have hn174b := hn174
       refine TC.isSl (i := 3) z (fun _ hb187 _ => ?_)
       refine TC.isSl (i := 5) z (fun _ hb188 _ => ?_)
       refine TC.region (TL.w z (OpVal.succ z z z (by omega)) (TL.i z z (TL.en ?_)))
       obtain ⟨hh, hlt189⟩ := nxt_x hR1 hh
       exact lf ((l175, (k169 + 1)), (a176, c177)) hlt189 ⟨hh, hn174⟩ (Sub.f [5, 5, 5, 5, 5, 5] 6)
     ·refine TC.exit (S.x (S.x ?_))
      replace hh := fin_x hR1 hh
      refine TC.exitHere (S.n (TC.seq (TC.a (TL.w z (fieldLoc z fo25_2 z) (TL.w z (loadLoc z ag22 z (i := 0) z z) (TL.w z (lenC z underlying22 z) (TL.i z z (TL.en (TC.block (TC.nilS 43 2 encTip (TC.loopG (α := ((List Tip) × Nat) × ((Option Addr) × Nat)) (rgs [(12, 2), (73, 21)]) (fun g => [(73, .int .i64 ((g.1.2 : Nat) : Int))]) (fun g => [Res.cells b101 #[.int .i64 x0.states, .slice a0_0 x0.starts.length c0_0, .slice a0_1 x0.ends.length c0_1, .slice a0_2 x0.arcs.length c0_2] 25, Res.cells b103 #[.int .i64 0, .slice none 0 0, .slice none 0 0, .slice none 0 0] 25, Res.cells b109 #[.slice a106 ((List.replicate x0.states.toNat (0 : Int)).length) c107] 68, Res.rowS 3 1 Go.E.encI (.slice a106 (List.replicate x0.states.toNat (0 : Int)).length c107) l143, Res.cells b125 #[.int .i64 ((k145 : Nat) : Int), .slice a167 l166.length c168, .slice g.2.1 g.1.1.length g.2.2, .slice none 0 0] 25, Res.rowS 43 2 encTip (.slice a167 l166.length c168) l166, Res.rowS 43 2 encTip (.slice g.2.1 g.1.1.length g.2.2) g.1.1]) (fun g => τ146) (fun g => iter (fun q : (List Tip) × Nat => prune_Trim_b3 x0 l143 k145 l166 q.1 q.2) g.1 = some r ∧ l143.length = (List.replicate x0.states.toNat (0 : Int)).length) (fun g => rounds (fun q : (List Tip) × Nat => prune_Trim_b3 x0 l143 k145 l166 q.1 q.2) g.1) ((([] : List Tip), 0), (none, 0)) (Sub.f [6, 6, 6, 6, 6, 6] 7) z (by repeat (first | exact trivial | refine ⟨z, ?_⟩)) ⟨hh, hn164⟩ (fun g3 j3 hg3 => ?_))))))))))))
      obtain ⟨⟨l205, k208⟩, ⟨a206, c207⟩⟩ := g3
      obtain ⟨hh, hn203⟩ := hg3
      try dsimp only at hn203 ⊢
      obtain ⟨z1, hh, hR1⟩ := iter_e hh
      dsimp only [prune_Trim_b3] at hh
      have hn203b := hn203
      refine TC.isSl (i := 3) z (fun _ hb210 _ => ?_)
      refine TC.isSl (i := 5) z (fun _ hb211 _ => ?_)
      refine TC.isSl (i := 6) z (fun _ hb212 _ => ?_)
      refine TC.a (TL.w z (OpVal.lss z z z) (TL.en (TC.seq (TC.cD z hh (fun h213 hh => ?_) (fun h213 hh => ?_)))))
      ·refine TC.skip (S.n (TC.cutG (α := ((List Tip)) × ((Option Addr) × Nat)) (rgs [(12, 2), (75, 18)]) (fun g => []) (fun g => [Res.cells b101 #[.int .i64 x0.states, .slice a0_0 x0.starts.length c0_0, .slice a0_1 x0.ends.length c0_1, .slice a0_2 x0.arcs.length c0_2] 25, Res.cells b103 #[.int .i64 0, .slice none 0 0, .slice none 0 0, .slice none 0 0] 25, Res.cells b109 #[.slice a106 ((List.replicate x0.states.toNat (0 : Int)).length) c107] 68, Res.rowS 3 1 Go.E.encI (.slice a106 (List.replicate x0.states.toNat (0 : Int)).length c107) l143, Res.cells b125 #[.int .i64 ((k145 : Nat) : Int), .slice a167 l166.length c168, .slice g.2.1 g.1.length g.2.2, .slice none 0 0] 25, Res.rowS 43 2 encTip (.slice a167 l166.length c168) l166, Res.rowS 43 2 encTip (.slice g.2.1 g.1.length g.2.2) g.1]) (fun g => τ146) (fun g => prune_Trim_j2 k208 g.1 = some z1 ∧ l143.length = (List.replicate x0.states.toNat (0 : Int)).length) ?_ (fun g j hg => ?_)))
       ·skip
        refine TC.block (TC.a (TL.w z (indexN z underlying22 sz43 z z f0_1.rv.sl (by omega)) (TL.w z (loadSA Tip.zero z ag43 sz43 z f0_1 (by omega) (by omega)) (TL.op z (OpOk.alloc z ze43 z z (fun b218 => ?_))))))
        refine TL.op z (storeAll z sz43 z z z z z z ?_)
        refine TL.en (TC.a (TL.w z (loadLoc z ag68 z (i := 3) z z) (TL.w z (fieldLoc z fo43_0 z) (TL.w z (loadLoc z ag3 z (i := 0) z z) ?_))))
        have u83 := grd_c hh
        replace hh := grd_t hh
        refine TL.isSl (i := 4) z (fun hs220 _ _ => ?_)
        refine TL.w z (OpVal.index z underlying68 sz3 z z hs220 u83.1 u83.2) (TL.w z (loadO1 (0 : Int) z ag3 z (q := 4) z Go.E.encI_len (by omega) z) (TL.i z z (TL.en (TC.a (TL.i z z (TL.w z (OpVal.geq z z z) (TL.en (TC.cD z hh (fun h221 hh => ?_) (fun h221 hh => ?_)))))))))
        ·refine TC.region (TL.w z (fieldLoc z fo25_2 z) (TL.w z (loadLoc z ag22 z (i := 5) z z) (TL.i z z (TL.w z (fieldLoc z fo43_1 z) (TL.w z (loadLoc z ag9 z (i := 0) z z) (TL.w z (buildL z pl43 ze43 z) (TL.op z (OpOk.lit (enc := encTip) [(⟨(nth l143 (((nth x0.ends k208 Tip.zero).state).toNat) (0 : Int)), (nth x0.ends k208 Tip.zero).out⟩ : Tip)] z underlying22 sz43 ze43 z z z encTip_len (by decide) (by decide) Tip.zero z (by decide) z (by decide) encTip_one (fun a222 c223 => ?_)))))))))
         refine TL.front 8 z z ?_
         have u95 := grd_c hh
         replace hh := grd_t hh
         refine TL.op z (appendS z z underlying22 sz43 by43 ze43 z z (by decide) z z z (.inr ⟨_, 0, z⟩) (by simpa using u95) (by decide) (fun a225 c226 => ?_))
         refine TL.w z (fieldLoc z fo25_2 z) (TL.front 7 z z (TL.op z (storeSl z sz22 z z z z z ?_)))
         exact TL.nil (B.n (S.n (cf ((l205 ++ [(⟨(nth l143 (((nth x0.ends k208 Tip.zero).state).toNat) (0 : Int)), (nth x0.ends k208 Tip.zero).out⟩ : Tip)]), (a225, c226)) ⟨hh, hn203⟩ (Sub.f [1, 8, 2, 8, 8, 8, 8] 7))))
        ·exact TC.skip (B.n (S.n (cf (l205, (a206, c207)) ⟨hh, hn203⟩ (Sub.f [7, 7, 7, 7, 7, 7, 7] 7))))
       ·skip
        obtain ⟨l215, ⟨a216, c217⟩⟩ := g
        obtain ⟨hh, hn214⟩ := hg
        try dsimp only at hn214 ⊢
        dsimp only [prune_Trim_j2] at hh
        have hn214b := hn214
        refine TC.isSl (i := 3) z (fun _ hb227 _ => ?_)
        refine TC.isSl (i := 5) z (fun _ hb228 _ => ?_)
        refine TC.isSl (i := 6) z (fun _ hb229 _ => ?_)
        refine TC.region (TL.w z (OpVal.succ z z z (by omega)) (TL.i z z (TL.en ?_)))
        obtain ⟨hh, hlt230⟩ := nxt_x hR1 hh
        exact lf ((l215, (k208 + 1)), (a216, c217)) hlt230 ⟨hh, hn214⟩ (Sub.f [6, 6, 6, 6, 6, 6, 6] 7)
      ·refine TC.exit (S.x (S.x ?_))
       replace hh := fin_x hR1 hh
       refine TC.exitHere (S.n (TC.seq (TC.a (TL.w z (fieldLoc z fo25_3 z) (TL.w z (loadLoc z ag23 z (i := 0) z z) (TL.w z (lenC z underlying23 z) (TL.i z z (TL.en (TC.block (TC.nilS 38 8 encArc (TC.loopG (α := ((List Arc) × Nat) × ((Option Addr) × Nat)) (rgs [(15, 3), (97, 35)]) (fun g => [(97, .int .i64 ((g.1.2 : Nat) : Int))]) (fun g => [Res.cells b103 #[.int .i64 0, .slice none 0 0, .slice none 0 0, .slice none 0 0] 25, Res.cells b109 #[.slice a106 ((List.replicate x0.states.toNat (0 : Int)).length) c107] 68, Res.rowS 3 1 Go.E.encI (.slice a106 (List.replicate x0.states.toNat (0 : Int)).length c107) l143, Res.cells b125 #[.int .i64 ((k145 : Nat) : Int), .slice a167 l166.length c168, .slice a206 l205.length c207, .slice g.2.1 g.1.1.length g.2.2] 25, Res.rowS 43 2 encTip (.slice a167 l166.length c168) l166, Res.rowS 43 2 encTip (.slice a206 l205.length c207) l205, Res.rowS 38 8 encArc (.slice g.2.1 g.1.1.length g.2.2) g.1.1]) (fun g => τ146) (fun g => iter (fun q : (List Arc) × Nat => prune_Trim_b4 x0 l143 k145 l166 l205 q.1 q.2) g.1 = some r ∧ l143.length = (List.replicate x0.states.toNat (0 : Int)).length) (fun g => rounds (fun q : (List Arc) × Nat => prune_Trim_b4 x0 l143 k145 l166 l205 q.1 q.2) g.1) ((([] : List Arc), 0), (none, 0)) (Sub.f [7, 7, 7, 7, 7, 7] 7) z (by repeat (first | exact trivial | refine ⟨z, ?_⟩)) ⟨hh, hn203⟩ (fun g4 j4 hg4 => ?_))))))))))))
       obtain ⟨⟨l246, k249⟩, ⟨a247, c248⟩⟩ := g4
       obtain ⟨hh, hn244⟩ := hg4
       try dsimp only at hn244 ⊢
       obtain ⟨z1, hh, hR1⟩ := iter_e hh
       dsimp only [prune_Trim_b4] at hh
       have hn244b := hn244
       refine TC.isSl (i := 2) z (fun _ hb251 _ => ?_)
       refine TC.isSl (i := 4) z (fun _ hb252 _ => ?_)
       refine TC.isSl (i := 5) z (fun _ hb253 _ => ?_)
       refine TC.isSl (i := 6) z (fun _ hb254 _ => ?_)
       refine TC.a (TL.w z (OpVal.lss z z z) (TL.en (TC.seq (TC.cD z hh (fun h255 hh => ?_) (fun h255 hh => ?_)))))
       ·refine TC.skip (S.n (TC.cutG (α := ((List Arc)) × ((Option Addr) × Nat)) (rgs [(15, 3), (99, 32)]) (fun g => []) (fun g => [Res.cells b103 #[.int .i64 0, .slice none 0 0, .slice none 0 0, .slice none 0 0] 25, Res.cells b109 #[.slice a106 ((List.replicate x0.states.toNat (0 : Int)).length) c107] 68, Res.rowS 3 1 Go.E.encI (.slice a106 (List.replicate x0.states.toNat (0 : Int)).length c107) l143, Res.cells b125 #[.int .i64 ((k145 : Nat) : Int), .slice a167 l166.length c168, .slice a206 l205.length c207, .slice g.2.1 g.1.length g.2.2] 25, Res.rowS 43 2 encTip (.slice a167 l166.length c168) l166, Res.rowS 43 2 encTip (.slice a206 l205.length c207) l205, Res.rowS 38 8 encArc (.slice g.2.1 g.1.length g.2.2) g.1]) (fun g => τ146) (fun g => prune_Trim_j3 k249 g.1 = some z1 ∧ l143.length = (List.replicate x0.states.toNat (0 : Int)).length) ?_ (fun g j hg => ?_)))
        ·skip
         refine TC.block (TC.a (TL.w z (indexN z underlying23 sz38 z z f0_2.rv.sl (by omega)) (TL.w z (loadSA Arc.zero z ag38 sz38 z f0_2 (by omega) (by omega)) (TL.op z (OpOk.alloc z ze38 z z (fun b260 => ?_))))))
         refine TL.op z (storeAll z sz38 z z z z z z ?_)
         refine TL.en (TC.seq ?_)
         have u112 := grd_c hh
         replace hh := grd_t hh
         have u117 := grd_c hh
         replace hh := grd_t hh
         refine TC.draw [] (by kernel_rfl) (TA.b 0 z (loadLoc z ag68 z (i := 2) z z) z (TA.a 1 z (fieldLoc z fo38_0 z) z (TA.b 2 z (loadLoc z ag3 z (i := 0) z z) z (TA.isSl (i := 3) z (fun hs264 _ _ => ?_)))))
         refine TA.b 3 z (OpVal.index z underlying68 sz3 z z hs264 u112.1 u112.2) z (TA.b 4 z (loadO1 (0 : Int) z ag3 z (q := 3) z Go.E.encI_len (by omega) z) z (TA.b 5 z (loadLoc z ag68 z (i := 2) z z) z (TA.a 6 z (fieldLoc z fo38_1 z) z (TA.b 7 z (loadLoc z ag3 z (i := 0) z z) z (TA.isSl (i := 3) z (fun hs265 _ _ => ?_))))))
         refine TA.b 8 z (OpVal.index z underlying68 sz3 z z hs265 u117.1 u117.2) z (TA.b 9 z (loadO1 (0 : Int) z ag3 z (q := 3) z Go.E.encI_len (by omega) z) z (TA.a 10 z (moveI (.inr z) z) z (TA.a 11 z (moveI (.inr z) z) z (TA.dn (S.n (TC.a (TL.i z z (TL.w z (OpVal.geq z z z) (TL.j z z (TL.split 113 z (fun h266 => ?_) (fun h266 => ?_)))))))))))
         ·replace hh := iteO_t h266 hh
          replace h266 := of_decide_eq_true h266
          refine TL.g z (moveI (.inl z) z) (TL.g z (OpVal.geq z z z) (TL.w z (pickTB z z z) (TL.en (TC.cD z hh (fun h267 hh => ?_) (fun h267 hh => ?_)))))
          ·refine TC.region (TL.w z (fieldLoc z fo25_3 z) (TL.w z (loadLoc z ag23 z (i := 4) z z) (TL.i z z (TL.i z z (TL.w z (fieldLoc z fo38_2 z) (TL.w z (loadLocA z ag36 sz36 z (i := 0) z z z) (TL.w z (fieldLoc z fo38_3 z) (TL.w z (loadLoc z ag9 z (i := 0) z z) (TL.w z (fieldLoc z fo38_4 z) (TL.w z (loadLoc z ag4 z (i := 0) z z) (TL.w z (buildL z pl38 ze38 z) (TL.op z (OpOk.lit (enc := encArc) [(⟨(nth l143 (((nth x0.arcs k249 Arc.zero).frm).toNat) (0 : Int)), (nth l143 (((nth x0.arcs k249 Arc.zero).to).toNat) (0 : Int)), (nth x0.arcs k249 Arc.zero).set, (nth x0.arcs k249 Arc.zero).out, (nth x0.arcs k249 Arc.zero).copy⟩ : Arc)] z underlying23 sz38 ze38 z z z encArc_len (by decide) (by decide) Arc.zero z (by decide) z (by decide) encArc_one (fun a268 c269 => ?_))))))))))))))
           refine TL.front 8 z z ?_
           have u139 := grd_c hh
           replace hh := grd_t hh
           refine TL.op z (appendS z z underlying23 sz38 by38 ze38 z z (by decide) z z z (.inr ⟨_, 0, z⟩) (by simpa using u139) (by decide) (fun a271 c272 => ?_))
           refine TL.w z (fieldLoc z fo25_3 z) (TL.front 6 z z (TL.op z (storeSl z sz23 z z z z z ?_)))
           exact TL.nil (B.n (S.n (cf ((l246 ++ [(⟨(nth l143 (((nth x0.arcs k249 Arc.zero).frm).toNat) (0 : Int)), (nth l143 (((nth x0.arcs k249 Arc.zero).to).toNat) (0 : Int)), (nth x0.arcs k249 Arc.zero).set, (nth x0.arcs k249 Arc.zero).out, (nth x0.arcs k249 Arc.zero).copy⟩ : Arc)]), (a271, c272)) ⟨hh, hn244⟩ (Sub.f [1, 8, 8, 3, 8, 8, 8] 7))))
          ·exact TC.skip (B.n (S.n (cf (l246, (a247, c248)) ⟨hh, hn244⟩ (Sub.f [7, 7, 7, 7, 7, 7, 7] 7))))
         ·replace hh := iteO_f h266 hh
          replace h266 := of_decide_eq_false h266
          exact TL.f z (TL.f z (TL.w z (pickFB z z z) (TL.en (TC.f z (TC.skip (B.n (S.n (cf (l246, (a247, c248)) ⟨hh, hn244⟩ (Sub.f [7, 7, 7, 7, 7, 7, 7] 7)))))))))
        ·skip
         obtain ⟨l257, ⟨a258, c259⟩⟩ := g
         obtain ⟨hh, hn256⟩ := hg
         try dsimp only at hn256 ⊢
         dsimp only [prune_Trim_j3] at hh
         have hn256b := hn256
         refine TC.isSl (i := 2) z (fun _ hb273 _ => ?_)
         refine TC.isSl (i := 4) z (fun _ hb274 _ => ?_)
         refine TC.isSl (i := 5) z (fun _ hb275 _ => ?_)
         refine TC.isSl (i := 6) z (fun _ hb276 _ => ?_)
         refine TC.region (TL.w z (OpVal.succ z z z (by omega)) (TL.i z z (TL.en ?_)))
         obtain ⟨hh, hlt277⟩ := nxt_x hR1 hh
         exact lf ((l257, (k249 + 1)), (a258, c259)) hlt277 ⟨hh, hn256⟩ (Sub.f [6, 6, 6, 6, 6, 6, 6] 7)
       ·refine TC.exit (S.x (S.x ?_))
        replace hh := fin_x hR1 hh
        refine TC.exitHere (S.n (TC.a (TL.w z (loadAll z ag25 sz25 z (i := 3) z z) (TL.front 4 z z (TL.sealS encTip_len (fun τ280 hle279 hr278 => ?_))))))
        have hr278b := hr278.rv.big
        refine TL.front 4 z z (TL.sealS encTip_len (fun τ283 hle282 hr281 => ?_))
        replace hr278 := hr278.mono hle282
        have hr281b := hr281.rv.big
        refine TL.front 4 z z (TL.sealS encArc_len (fun τ286 hle285 hr284 => ?_))
        replace hr278 := hr278.mono hle285
        replace hr281 := hr281.mono hle285
        have hr284b := hr284.rv.big
        obtain ⟨v145, u145, hh⟩ := bnd_e hh
        refine TL.op z (OpOk.call (fst_Sort_con (x0 := (⟨((k145 : Nat) : Int), l166, l205, l246⟩ : Fst)) hr278 hr281 hr284 u145) z z pf39 z z z z ?_)
        rintro _ τ287 _ hle287 ⟨a287_1, c287_1, a287_2, c287_2, a287_3, c287_3, rfl, hr287_0, hr287_1, hr287_2, rfl⟩
        have hr287_0b := hr287_0.rv.big
        have hr287_1b := hr287_1.rv.big
        have hr287_2b := hr287_2.rv.big
        refine TL.w z (OpVal.extract z z z) (TL.w z (OpVal.extract z z z) (TL.op z (storeAll z sz25 z z z z z z ?_)))
        refine TL.i z z (TL.en (TC.rt 1 ?_))
        obtain rfl := so hh
        exact ro [] z (RVs.agg ag25 sz25 z (i := 0) z z (RVs.tmp z RVs.nil)) ⟨a287_1, c287_1, a287_2, c287_2, a287_3, c287_3, z, hr287_0, hr287_1, hr287_2, z⟩
    ·intro m_ c_ hh hc_
     exact jl_nil hc_

end Go.Proofs.YtcfjjckencjjeaaGreat
end

/- PrT -/
section
/- What a transducer needs, in plain words: the states of use, numbered anew. Plain lemmas, no condition. -/
set_option linter.unusedVariables false
set_option linter.unusedSimpArgs false
namespace Go.Proofs.YtcfjjckencjjeaaGreat
open Go Go.E

/-- States to which some way leads. -/
inductive Rch (S : Int → Prop) (E : Int → Int → Prop) : Int → Prop
  | base {s : Int} : S s → Rch S E s
  | step {a b : Int} : Rch S E a → E a b → Rch S E b
def onS (t : Fst) (s : Int) : Prop := ∃ x ∈ t.starts, x.state = s
def enS (t : Fst) (s : Int) : Prop := ∃ x ∈ t.ends, x.state = s
def arE (t : Fst) (a b : Int) : Prop := ∃ x ∈ t.arcs, x.frm = a ∧ x.to = b
def arB (t : Fst) (a b : Int) : Prop := ∃ x ∈ t.arcs, x.to = a ∧ x.frm = b
def Use (t : Fst) (s : Int) : Prop := Rch (onS t) (arE t) s ∧ Rch (enS t) (arB t) s
open Classical in
noncomputable def useB (t : Fst) (s : Nat) : Bool := decide (Use t s)
/-- How many of the first are of use. -/
def cntB (p : Nat → Bool) : Nat → Nat
  | 0 => 0
  | n + 1 => cntB p n + (if p n then 1 else 0)
/-- The new number, or −1. -/
def numB (p : Nat → Bool) (s : Int) : Int := if p s.toNat then (cntB p s.toNat : Int) else -1
theorem cntB_le (p : Nat → Bool) : ∀ {m n : Nat}, m ≤ n → cntB p m ≤ cntB p n
  | m, 0, h => by obtain rfl : m = 0 := by omega
                  exact Nat.le_refl _
  | m, n + 1, h => by
    by_cases hm : m = n + 1
    · subst hm; exact Nat.le_refl _
    · have := cntB_le p (m := m) (n := n) (by omega)
      simp only [cntB]; omega
theorem cntB_lt (p : Nat → Bool) {m n : Nat} (h : m < n) (hp : p m = true) : cntB p m < cntB p n := by
  have := cntB_le p (m := m + 1) (n := n) h
  simp only [cntB, hp, if_true] at this
  omega
theorem cntB_self (p : Nat → Bool) : ∀ n, cntB p n ≤ n
  | 0 => Nat.le_refl _
  | n + 1 => by have := cntB_self p n; simp only [cntB]; split <;> omega
theorem cntB_all {p : Nat → Bool} : ∀ n, (∀ s, s < n → p s = true) → cntB p n = n
  | 0, _ => rfl
  | n + 1, h => by simp only [cntB, cntB_all n (fun s hs => h s (by omega)), h n (by omega), if_true]
theorem numB_pos {p : Nat → Bool} {s : Int} (h : p s.toNat = true) : numB p s = cntB p s.toNat := by unfold numB; rw [if_pos h]
theorem numB_ge {p : Nat → Bool} {s : Int} : 0 ≤ numB p s ↔ p s.toNat = true := by
  unfold numB; split
  · simp_all
  · simp_all
/-- What is kept. -/
def keepT (p : Nat → Bool) (l : List Tip) : List Tip := l.filterMap fun x => if 0 ≤ numB p x.state then some ⟨numB p x.state, x.out⟩ else none
def keepA (p : Nat → Bool) (l : List Arc) : List Arc := l.filterMap fun x => if 0 ≤ numB p x.frm ∧ 0 ≤ numB p x.to then some ⟨numB p x.frm, numB p x.to, x.set, x.out, x.copy⟩ else none
def keepF (p : Nat → Bool) (t : Fst) : Fst := ⟨cntB p t.states.toNat, keepT p t.starts, keepT p t.ends, keepA p t.arcs⟩
theorem mem_keepT {p : Nat → Bool} {l : List Tip} {y : Tip} : y ∈ keepT p l ↔ ∃ x ∈ l, p x.state.toNat = true ∧ y = ⟨numB p x.state, x.out⟩ := by
  unfold keepT
  rw [List.mem_filterMap]
  constructor
  · rintro ⟨x, hx, h⟩
    split at h
    · rename_i h0; exact ⟨x, hx, numB_ge.1 h0, by cases h; rfl⟩
    · cases h
  · rintro ⟨x, hx, h0, rfl⟩; exact ⟨x, hx, by rw [if_pos (numB_ge.2 h0)]⟩
theorem mem_keepA {p : Nat → Bool} {l : List Arc} {y : Arc} : y ∈ keepA p l ↔ ∃ x ∈ l, p x.frm.toNat = true ∧ p x.to.toNat = true ∧ y = ⟨numB p x.frm, numB p x.to, x.set, x.out, x.copy⟩ := by
  unfold keepA
  rw [List.mem_filterMap]
  constructor
  · rintro ⟨x, hx, h⟩
    split at h
    · rename_i h0; exact ⟨x, hx, numB_ge.1 h0.1, numB_ge.1 h0.2, by cases h; rfl⟩
    · cases h
  · rintro ⟨x, hx, h0, h1, rfl⟩; exact ⟨x, hx, by rw [if_pos ⟨numB_ge.2 h0, numB_ge.2 h1⟩]⟩
theorem keepT_len (p : Nat → Bool) (l : List Tip) : (keepT p l).length ≤ l.length := List.length_filterMap_le ..
theorem keepA_len (p : Nat → Bool) (l : List Arc) : (keepA p l).length ≤ l.length := List.length_filterMap_le ..
/-- Where all are of use, all stays as it is. -/
theorem keepT_all {p : Nat → Bool} {n : Nat} (hp : ∀ s, s < n → p s = true) {l : List Tip} (h : ∀ x ∈ l, 0 ≤ x.state ∧ x.state < n) : keepT p l = l := by
  unfold keepT
  induction l with
  | nil => rfl
  | cons x l ih =>
    obtain ⟨h1, h2⟩ := h x (List.mem_cons_self ..)
    have hx := hp x.state.toNat (by omega)
    have : numB p x.state = x.state := by rw [numB_pos hx, cntB_all _ (fun s hs => hp s (by omega))]; omega
    rw [List.filterMap_cons, this, if_pos h1, ih (fun y hy => h y (List.mem_cons_of_mem _ hy))]
theorem keepA_all {p : Nat → Bool} {n : Nat} (hp : ∀ s, s < n → p s = true) {l : List Arc} (h : ∀ x ∈ l, (0 ≤ x.frm ∧ x.frm < n) ∧ (0 ≤ x.to ∧ x.to < n)) : keepA p l = l := by
  unfold keepA
  induction l with
  | nil => rfl
  | cons x l ih =>
    obtain ⟨⟨h1, h2⟩, h3, h4⟩ := h x (List.mem_cons_self ..)
    have hx := hp x.frm.toNat (by omega)
    have hy := hp x.to.toNat (by omega)
    have e1 : numB p x.frm = x.frm := by rw [numB_pos hx, cntB_all _ (fun s hs => hp s (by omega))]; omega
    have e2 : numB p x.to = x.to := by rw [numB_pos hy, cntB_all _ (fun s hs => hp s (by omega))]; omega
    rw [List.filterMap_cons, e1, e2, if_pos ⟨h1, h3⟩, ih (fun y hy => h y (List.mem_cons_of_mem _ hy))]
/-- What stands for a state of a right transducer. -/
structure Rng (t : Fst) : Prop where
  starts : ∀ x ∈ t.starts, 0 ≤ x.state ∧ x.state < t.states
  ends : ∀ x ∈ t.ends, 0 ≤ x.state ∧ x.state < t.states
  arcs : ∀ x ∈ t.arcs, (0 ≤ x.frm ∧ x.frm < t.states) ∧ (0 ≤ x.to ∧ x.to < t.states)
open Classical in
theorem useB_iff {t : Fst} {s : Nat} : useB t s = true ↔ Use t s := by unfold useB; exact decide_eq_true_iff
theorem keep_rng {t r : Fst} (hS : ∀ x, x ∈ r.starts ↔ x ∈ keepT (useB t) t.starts) (hE : ∀ x, x ∈ r.ends ↔ x ∈ keepT (useB t) t.ends) (hA : ∀ x, x ∈ r.arcs ↔ x ∈ keepA (useB t) t.arcs) (hn : r.states = cntB (useB t) t.states.toNat) (h : Rng t) : Rng r := by
  have num : ∀ {a : Int}, 0 ≤ a → a < t.states → useB t a.toNat = true → 0 ≤ numB (useB t) a ∧ numB (useB t) a < r.states := fun {a} h0 h1 hu => by
    rw [numB_pos hu, hn]
    have := cntB_lt (useB t) (m := a.toNat) (n := t.states.toNat) (by omega) hu
    omega
  refine ⟨fun y hy => ?_, fun y hy => ?_, fun y hy => ?_⟩
  · obtain ⟨x, hx, hu, rfl⟩ := mem_keepT.1 ((hS y).1 hy); have := h.starts x hx; exact num this.1 this.2 hu
  · obtain ⟨x, hx, hu, rfl⟩ := mem_keepT.1 ((hE y).1 hy); have := h.ends x hx; exact num this.1 this.2 hu
  · obtain ⟨x, hx, hu, hv, rfl⟩ := mem_keepA.1 ((hA y).1 hy); have := h.arcs x hx; exact ⟨num this.1.1 this.1.2 hu, num this.2.1 this.2.2 hv⟩
end Go.Proofs.YtcfjjckencjjeaaGreat
end

/- FMp -/
section
/- Sets of keys, as finite maps; rows by number. Plain lemmas, no condition. -/
set_option linter.unusedVariables false
set_option linter.unusedSimpArgs false
namespace Go.E
open Go
set_option linter.unusedSectionVars false
section
variable {K : Type} [DecidableEq K]
theorem len_of_sub : ∀ {l m : List K}, l.Nodup → (∀ x ∈ l, x ∈ m) → l.length ≤ m.length
  | [], m, _, _ => Nat.zero_le _
  | x :: l, m, hn, hs => by
    rw [List.nodup_cons] at hn
    have hx := hs x (List.mem_cons_self ..)
    have := len_of_sub (m := m.erase x) hn.2 fun y hy => by
      have h1 := hs y (List.mem_cons_of_mem _ hy)
      refine (List.mem_erase_of_ne ?_).2 h1
      intro e; subst e; exact hn.1 hy
    rw [List.length_erase_of_mem hx] at this
    have hp := List.length_pos_of_mem hx
    simp only [List.length_cons]; omega
/-- The set of some keys. -/
def FM.ofL (S : List K) : FM K Unit := S.foldl (fun m k => m.put k ()) FM.emp
theorem FM.ofL_snoc (S : List K) (k : K) : FM.ofL (S ++ [k]) = (FM.ofL S).put k () := by simp [FM.ofL]
theorem FM.ofL_f (S : List K) (x : K) : (FM.ofL S).f x = if x ∈ S then some () else none := by
  have key : ∀ (S : List K) (m : FM K Unit), (S.foldl (fun m k => m.put k ()) m).f x = if x ∈ S then some () else m.f x := by
    intro S
    induction S with
    | nil => intro m; simp
    | cons y S ih =>
      intro m
      rw [List.foldl_cons, ih]
      by_cases h : x ∈ S
      · simp [h]
      · by_cases e : x = y
        · subst e; simp [FM.put]
        · simp [h, FM.put, e]
  rw [FM.ofL, key]; rfl
/-- How many. -/
def card (S : List K) : Nat := (FM.ofL S).n
theorem rev_ind {p : List K → Prop} (h0 : p []) (h1 : ∀ l x, p l → p (l ++ [x])) (l : List K) : p l := by
  have : ∀ m : List K, p m.reverse := fun m => by
    induction m with
    | nil => exact h0
    | cons x m ih => rw [List.reverse_cons]; exact h1 _ _ ih
  simpa using this l.reverse
theorem FM.ofL_len (S : List K) : ∃ l : List K, l.Nodup ∧ (∀ x, x ∈ l ↔ x ∈ S) ∧ l.length = card S := by
  induction S using rev_ind with
  | h0 => exact ⟨[], List.nodup_nil, by simp, rfl⟩
  | h1 S k ih =>
    obtain ⟨l, h1, h2, h3⟩ := ih
    have hf := FM.ofL_f S k
    by_cases hk : k ∈ S
    · refine ⟨l, h1, fun x => ?_, ?_⟩
      · rw [h2, List.mem_append, List.mem_singleton]
        constructor
        · exact .inl
        · rintro (h | rfl)
          · exact h
          · exact hk
      · rw [h3, card, card, FM.ofL_snoc, FM.put]; simp [hf, hk]
    · refine ⟨l ++ [k], ?_, fun x => by rw [List.mem_append, List.mem_append, h2], ?_⟩
      · rw [List.nodup_append]
        exact ⟨h1, by simp, fun x hx y hy => by
          rw [List.mem_singleton] at hy; subst hy
          intro e; subst e; exact hk ((h2 _).1 hx)⟩
      · rw [List.length_append, h3, card, card, FM.ofL_snoc, FM.put]; simp [hf, hk]
theorem card_mono {S T : List K} (h : ∀ x ∈ S, x ∈ T) : card S ≤ card T := by
  obtain ⟨l, h1, h2, h3⟩ := FM.ofL_len S
  obtain ⟨m, _, h5, h6⟩ := FM.ofL_len T
  rw [← h3, ← h6]
  exact len_of_sub h1 fun x hx => (h5 x).2 (h x ((h2 x).1 hx))
theorem card_congr {S T : List K} (h : ∀ x, x ∈ S ↔ x ∈ T) : card S = card T := Nat.le_antisymm (card_mono fun x hx => (h x).1 hx) (card_mono fun x hx => (h x).2 hx)
theorem card_le (S : List K) : card S ≤ S.length := by
  obtain ⟨l, h1, h2, h3⟩ := FM.ofL_len S
  rw [← h3]; exact len_of_sub h1 fun x hx => (h2 x).1 hx
theorem Rep.ofL (S : List K) : ∃ q : List (K × Unit), Rep q (FM.ofL S) := by
  obtain ⟨l, h1, h2, h3⟩ := FM.ofL_len S
  refine ⟨l.map fun x => (x, ()), ⟨fun k v => ?_, by rw [List.length_map, h3]; rfl, ?_⟩⟩
  · rw [FM.ofL_f, List.mem_map]
    constructor
    · rintro ⟨x, hx, e⟩
      cases e
      rw [if_pos ((h2 _).1 hx)]
    · intro h
      split at h
      · rename_i hk; exact ⟨k, (h2 k).2 hk, rfl⟩
      · cases h
  · rw [List.map_map, show (Prod.fst ∘ fun x : K => (x, ())) = id from rfl, List.map_id]; exact h1
end

section
variable {β γ : Type}
/-- Rows of what bears a number. -/
structure Grp (key : β → Int) (val : β → γ) (n : Nat) (l : List (List γ)) (xs : List β) : Prop where
  len : l.length = n
  row : ∀ i, i < n → nth l i [] = (xs.filter fun x => decide (key x = (i : Int))).map val
theorem Grp.nil (key : β → Int) (val : β → γ) (n : Nat) : Grp key val n (List.replicate n []) [] := ⟨List.length_replicate .., fun i hi => by simp [nth, List.getD, List.getElem?_replicate, hi]⟩
theorem Grp.snoc {key : β → Int} {val : β → γ} {n : Nat} {l : List (List γ)} {xs : List β} (h : Grp key val n l xs) {x : β} (h0 : 0 ≤ key x) (h1 : key x < n) :
    Grp key val n (l.set (key x).toNat (nth l (key x).toNat [] ++ [val x])) (xs ++ [x]) := by
  refine ⟨by rw [List.length_set]; exact h.len, fun i hi => ?_⟩
  rw [List.filter_append, List.map_append, ← h.row i hi]
  by_cases e : i = (key x).toNat
  · subst e
    have : key x = ((key x).toNat : Int) := by omega
    have hl := h.len
    rw [show nth (l.set (key x).toNat (nth l (key x).toNat [] ++ [val x])) (key x).toNat [] = nth l (key x).toNat [] ++ [val x] from by simp [nth, List.getD, hl, hi]]
    simp [this.symm]
  · have hne : ¬ key x = (i : Int) := by omega
    rw [show nth (l.set (key x).toNat (nth l (key x).toNat [] ++ [val x])) i [] = nth l i [] from by simp [nth, List.getD, List.getElem?_set, Ne.symm e]]
    simp [hne]
/-- Rounds that look at each thing in turn. -/
theorem iter_all {α R : Type} {step : Nat → Option (Nat ⊕ R)} {y no : R} (l : List α) (d : α) (p : α → Bool) (hs : ∀ k, k < l.length → p (nth l k d) = true → step k = some (.inl (k + 1)))
    (hn : ∀ k, k < l.length → p (nth l k d) = false → step k = some (.inr no)) (hd : step l.length = some (.inr y)) : iter step 0 = some (if l.all p then y else no) := by
  have h := iter_any0 (step := step) (y := no) (no := y) (fun k => k) (fun k => !p (nth l k d)) l.length (fun k hk hp => hs k hk (by simpa using hp)) (fun k hk hp => hn k hk (by simpa using hp)) hd
  rw [h, range_any l d (fun x => !p x)]
  by_cases ha : l.all p = true
  · have : (l.any fun x => !p x) = false := by rw [List.any_eq_false]; intro x hx; have := (List.all_eq_true.1 ha) x hx; simp [this]
    rw [this, ha]; rfl
  · have : (l.any fun x => !p x) = true := by
      rw [Bool.not_eq_true, List.all_eq_false] at ha
      obtain ⟨x, hx, h⟩ := ha
      exact List.any_eq_true.2 ⟨x, hx, by simpa using h⟩
    rw [this]; simp only [cond_true]; rw [if_neg ha]
/-- Rounds that gather. -/
theorem iter_fold {α S R : Type} {step : S × Nat → Option ((S × Nat) ⊕ R)} {r : R} (l : List α) (d : α) (f : Nat → S) (hs : ∀ k, k < l.length → step (f k, k) = some (.inl (f (k + 1), k + 1))) (hd : step (f l.length, l.length) = some (.inr r)) :
    iter step (f 0, 0) = some r := iter_seq0 (fun k => (f k, k)) l.length hs hd
end
end Go.E
end

/- It -/
section
/- Rounds over a list's things, by an invariant on what was met. Plain lemmas, no condition. -/
set_option linter.unusedVariables false
set_option linter.unusedSimpArgs false
namespace Go.E
open Go
/-- Rounds over a list, by an invariant on what was met so far. -/
theorem iter_for {α S T R : Type} {step : T → Option (T ⊕ R)} (g : S → Nat → T) (l : List α) (d : α) (I : List α → S → Prop) (Q : R → Prop)
    (hs : ∀ k s, k < l.length → I (l.take k) s → (∃ s', step (g s k) = some (.inl (g s' (k + 1))) ∧ I (l.take k ++ [nth l k d]) s') ∨ ∃ r, step (g s k) = some (.inr r) ∧ Q r)
    (hd : ∀ s, I l s → ∃ r, step (g s l.length) = some (.inr r) ∧ Q r) {s0 : S} (h0 : I [] s0) : ∃ r, iter step (g s0 0) = some r ∧ Q r := by
  have key : ∀ m k s, l.length - k = m → k ≤ l.length → I (l.take k) s → ∃ r, iter step (g s k) = some r ∧ Q r := by
    intro m
    induction m with
    | zero =>
      intro k s hm hk hI
      have hk : k = l.length := by omega
      subst hk
      rw [List.take_length] at hI
      obtain ⟨r, h1, h2⟩ := hd s hI
      exact ⟨r, iter_done h1, h2⟩
    | succ m ih =>
      intro k s hm hk hI
      rcases hs k s (by omega) hI with ⟨s', h1, h2⟩ | ⟨r, h1, h2⟩
      · rw [← take_snoc l (by omega) d] at h2
        obtain ⟨r, h3, h4⟩ := ih (k + 1) s' (by omega) (by omega) h2
        exact ⟨r, iter_next h1 h3, h4⟩
      · exact ⟨r, iter_done h1, h2⟩
  exact key _ 0 s0 rfl (Nat.zero_le _) h0
end Go.E
end

/- Sm -/
section
/- Rules by which simp, with omega for what is asked, follows a decompiled function. Plain lemmas, no condition. -/
set_option linter.unusedVariables false
set_option linter.unusedSimpArgs false
namespace Go.E
open Go
theorem iteO_dt {α : Type} {p : Prop} [Decidable p] {a b : Option α} (h : p) : iteO (decide p) a b = a := by rw [decide_eq_true h]; rfl
theorem iteO_df {α : Type} {p : Prop} [Decidable p] {a b : Option α} (h : ¬ p) : iteO (decide p) a b = b := by rw [decide_eq_false h]; rfl
theorem bnd_mk {α β : Type} {x : α} {f : α → Option β} : bnd (some x) f = f x := rfl
theorem iteO_nt {α : Type} {a b : Option α} : iteO (!true) a b = b := rfl
theorem iteO_nf {α : Type} {a b : Option α} : iteO (!false) a b = a := rfl
/-- Rounds that count up through n, whose state stands in a relation to the number. -/
theorem iter_up {S T R : Type} {step : T → Option (T ⊕ R)} (g : S → Nat → T) (n : Nat) (I : Nat → S → Prop) (Q : R → Prop)
    (hs : ∀ k s, k < n → I k s → (∃ s', step (g s k) = some (.inl (g s' (k + 1))) ∧ I (k + 1) s') ∨ ∃ r, step (g s k) = some (.inr r) ∧ Q r)
    (hd : ∀ s, I n s → ∃ r, step (g s n) = some (.inr r) ∧ Q r) {s0 : S} (h0 : I 0 s0) : ∃ r, iter step (g s0 0) = some r ∧ Q r := by
  have key : ∀ m k s, n - k = m → k ≤ n → I k s → ∃ r, iter step (g s k) = some r ∧ Q r := by
    intro m
    induction m with
    | zero =>
      intro k s hm hk hI
      have hk : k = n := by omega
      subst hk
      obtain ⟨r, h1, h2⟩ := hd s hI
      exact ⟨r, iter_done h1, h2⟩
    | succ m ih =>
      intro k s hm hk hI
      rcases hs k s (by omega) hI with ⟨s', h1, h2⟩ | ⟨r, h1, h2⟩
      · obtain ⟨r, h3, h4⟩ := ih (k + 1) s' (by omega) (by omega) h2
        exact ⟨r, iter_next h1 h3, h4⟩
      · exact ⟨r, iter_done h1, h2⟩
  exact key _ 0 s0 rfl (Nat.zero_le _) h0
theorem nth_set {α : Type} (l : List α) (i j : Nat) (x d : α) : nth (l.set i x) j d = if i = j ∧ j < l.length then x else nth l j d := by
  unfold nth
  simp only [List.getD_eq_getElem?_getD, List.getElem?_set]
  by_cases h : i = j
  · subst h
    by_cases k : i < l.length
    · simp [k]
    · simp [k]
  · simp [h]
theorem nth_rep {α : Type} (n i : Nat) (x : α) : nth (List.replicate n x) i x = x := by
  unfold nth
  rw [List.getD_eq_getElem?_getD, List.getElem?_replicate]
  split <;> rfl
end Go.E
end

/- PrV -/
section
/- Which states some way leads to: the program's search. Plain lemmas, no condition. -/
set_option linter.unusedVariables false
set_option linter.unusedSimpArgs false
namespace Go.Proofs.YtcfjjckencjjeaaGreat
open Go Go.E
set_option maxRecDepth 100000

/-- How many are not seen. -/
def uns : List Bool → Nat
  | [] => 0
  | b :: l => (if b then 0 else 1) + uns l
theorem uns_len : ∀ l : List Bool, uns l ≤ l.length
  | [] => Nat.le_refl _
  | b :: l => by have := uns_len l; simp only [uns, List.length_cons]; split <;> omega
def Le (l r : List Bool) : Prop := ∀ v, nth l v false = true → nth r v false = true
theorem Le.rfl' (l : List Bool) : Le l l := fun _ h => h
theorem Le.trans {l r s : List Bool} (h : Le l r) (k : Le r s) : Le l s := fun v hv => k v (h v hv)
theorem uns_le : ∀ {l r : List Bool}, l.length = r.length → Le l r → uns r ≤ uns l
  | [], [], _, _ => Nat.le_refl _
  | [], _ :: _, h, _ => by simp at h
  | _ :: _, [], h, _ => by simp at h
  | a :: l, b :: r, h, k => by
    have h1 := uns_le (l := l) (r := r) (by simpa using h) (fun v hv => k (v + 1) hv)
    have h2 : a = true → b = true := fun ha => k 0 ha
    simp only [uns]
    cases a <;> cases b <;> simp_all <;> omega
theorem uns_set : ∀ {l : List Bool} {i : Nat}, i < l.length → nth l i false = false → uns (l.set i true) + 1 = uns l
  | [], i, h, _ => by simp at h
  | a :: l, 0, _, h => by
    have : a = false := h
    subst this
    simp [uns]; omega
  | a :: l, i + 1, h, k => by
    have := uns_set (l := l) (i := i) (by simpa using h) k
    simp only [List.set_cons_succ, uns]; omega
theorem le_set {l : List Bool} (i : Nat) (h : i < l.length) : Le l (l.set i true) := fun v hv => by
  rw [nth_set]; split
  · rfl
  · exact hv
def stE (st : List (List Int)) (a b : Int) : Prop := 0 ≤ a ∧ b ∈ nth st a.toNat []
theorem Rch.trans {S : Int → Prop} {E : Int → Int → Prop} {a b : Int} (h : Rch (fun c => c = a) E b) (k : Rch S E a) : Rch S E b := by
  induction h with
  | base e => subst e; exact k
  | step _ e ih => exact .step ih e
theorem mem_nth {α : Type} {l : List α} {x d : α} (h : x ∈ l) : ∃ j, j < l.length ∧ nth l j d = x := by
  obtain ⟨j, hj, e⟩ := List.getElem_of_mem h
  refine ⟨j, hj, ?_⟩
  have := getD_some l hj d
  rw [List.getElem?_eq_getElem hj, Option.some.injEq] at this
  rw [← this]; exact e
theorem mem_at {α : Type} {l : List α} {j : Nat} (d : α) (h : j < l.length) : nth l j d ∈ l := by
  have := getD_some l h d
  exact List.mem_of_getElem? this
/-- What a search leaves. -/
structure Vis (st : List (List Int)) (n : Nat) (s : Int) (seen r : List Bool) : Prop where
  len : r.length = n
  le : Le seen r
  at' : nth r s.toNat false = true
  out : ∀ v, nth r v false = true → nth seen v false = true ∨ Rch (fun c => c = s) (stE st) v
  cl : ∀ v, nth r v false = true → nth seen v false = false → ∀ z ∈ nth st v [], nth r z.toNat false = true
theorem visit_ok {st : List (List Int)} {n : Nat} (hl : st.length = n) (hst : ∀ a, ∀ z ∈ nth st a [], 0 ≤ z ∧ z < n) :
    ∀ k (s : Int) (seen : List Bool), 0 ≤ s → s < n → seen.length = n → uns seen < k → ∃ r, prune_reach_1 k s seen st = some r ∧ Vis st n s seen r := by
  intro k
  induction k with
  | zero => intro s seen _ _ _ h; omega
  | succ k ih =>
    intro s seen h0 h1 hn hu
    show ∃ r, prune_reach_1F (prune_reach_1 k) s seen st = some r ∧ _
    unfold prune_reach_1F
    rw [grd_mk ⟨h0, by omega⟩]
    cases hs : nth seen s.toNat false with
    | true => exact ⟨seen, rfl, hn, Le.rfl' _, hs, fun v hv => .inl hv, fun v hv hf => by rw [hv] at hf; cases hf⟩
    | false =>
      rw [iteO_false, grd_mk ⟨h0, by omega⟩, grd_mk ⟨h0, by omega⟩]
      have hlt : s.toNat < seen.length := by omega
      have hun := uns_set hlt hs
      have hat : nth (seen.set s.toNat true) s.toNat false = true := by rw [nth_set, if_pos ⟨rfl, hlt⟩]
      have hor : ∀ v, nth (seen.set s.toNat true) v false = true → nth seen v false = true ∨ v = s.toNat := fun v hv => by
        rw [nth_set] at hv
        split at hv
        · rename_i h; exact .inr h.1.symm
        · exact .inl hv
      obtain ⟨r, h2, h3, h4, h5, h6, h7⟩ := iter_up (step := fun q : List Bool × Nat => prune_reach_1_b1 st s (prune_reach_1 k) q.1 q.2) (fun (l : List Bool) j => (l, j)) (nth st s.toNat []).length
        (fun j l => l.length = n ∧ Le (seen.set s.toNat true) l ∧ (∀ i, i < j → nth l (nth (nth st s.toNat []) i 0).toNat false = true) ∧ (∀ v, nth l v false = true → nth (seen.set s.toNat true) v false = true ∨ Rch (fun c => c = s) (stE st) v) ∧ (∀ v, nth l v false = true → nth (seen.set s.toNat true) v false = false → ∀ z ∈ nth st v [], nth l z.toNat false = true))
        (fun l => l.length = n ∧ Le (seen.set s.toNat true) l ∧ (∀ i, i < (nth st s.toNat []).length → nth l (nth (nth st s.toNat []) i 0).toNat false = true) ∧ (∀ v, nth l v false = true → nth (seen.set s.toNat true) v false = true ∨ Rch (fun c => c = s) (stE st) v) ∧ (∀ v, nth l v false = true → nth (seen.set s.toNat true) v false = false → ∀ z ∈ nth st v [], nth l z.toNat false = true))
        (fun j l hj ⟨a1, a2, a3, a4, a5⟩ => by
          have hz := mem_at (0 : Int) hj
          have hzr := hst _ _ hz
          have hle := uns_le (by rw [List.length_set]; omega) a2
          obtain ⟨r, b1, b2⟩ := ih (nth (nth st s.toNat []) j 0) l hzr.1 hzr.2 a1 (by omega)
          refine .inl ⟨r, ?_, b2.len, a2.trans b2.le, fun i hi => ?_, fun v hv => ?_, fun v hv hf z hz' => ?_⟩
          · show prune_reach_1_b1 st s (prune_reach_1 k) l j = _
            unfold prune_reach_1_b1
            rw [iteO_dt (by omega), b1]; rfl
          · by_cases hij : i = j
            · subst hij; exact b2.at'
            · exact b2.le _ (a3 i (by omega))
          · rcases b2.out v hv with h | h
            · exact a4 v h
            · exact .inr (h.trans (.step (.base rfl) ⟨h0, hz⟩))
          · cases hlv : nth l v false with
            | true => exact b2.le _ (a5 v hlv hf z hz')
            | false => exact b2.cl v hv hlv z hz')
        (fun l hI => ⟨l, by
          show prune_reach_1_b1 st s (prune_reach_1 k) l _ = _
          unfold prune_reach_1_b1
          rw [iteO_df (by omega)]; rfl, hI⟩)
        (s0 := seen.set s.toNat true) ⟨by rw [List.length_set]; exact hn, Le.rfl' _, fun i hi => by omega, fun v hv => .inl hv, fun v hv hf => by rw [hv] at hf; cases hf⟩
      refine ⟨r, h2, h3, (le_set _ hlt).trans h4, h4 _ hat, fun v hv => ?_, fun v hv hf z hz => ?_⟩
      · rcases h6 v hv with h | h
        · rcases hor v h with h | h
          · exact .inl h
          · exact .inr (.base (by omega))
        · exact .inr h
      · cases hsv : nth (seen.set s.toNat true) v false with
        | true =>
          rcases hor v hsv with h | h
          · rw [h] at hf; cases hf
          · subst h
            obtain ⟨i, hi, e⟩ := mem_nth (d := (0 : Int)) hz
            have := h5 i hi
            rw [e] at this; exact this
        | false => exact h7 v hv hsv z hz
theorem reach_ok {st : List (List Int)} {n : Nat} {tips : List Tip} (hn : n ≤ 1024) (hl : st.length = n) (hst : ∀ a, ∀ z ∈ nth st a [], 0 ≤ z ∧ z < n) (ht : ∀ x ∈ tips, 0 ≤ x.state ∧ x.state < n) :
    ∃ r, prune_reach tips st = some r ∧ r.length = n ∧ ∀ v : Nat, nth r v false = true ↔ Rch (fun c => ∃ x ∈ tips, x.state = c) (stE st) v := by
  unfold prune_reach
  rw [grd_mk (by omega)]
  obtain ⟨r, h1, h2, h3, h4, h5⟩ := iter_up (step := fun q : List Bool × Nat => prune_reach_b1 tips st q.1 q.2) (fun (l : List Bool) j => (l, j)) tips.length
    (fun j l => l.length = n ∧ (∀ i, i < j → nth l (nth tips i Tip.zero).state.toNat false = true) ∧ (∀ v : Nat, nth l v false = true → Rch (fun c => ∃ x ∈ tips, x.state = c) (stE st) v) ∧ (∀ v, nth l v false = true → ∀ z ∈ nth st v [], nth l z.toNat false = true))
    (fun l => l.length = n ∧ (∀ i, i < tips.length → nth l (nth tips i Tip.zero).state.toNat false = true) ∧ (∀ v : Nat, nth l v false = true → Rch (fun c => ∃ x ∈ tips, x.state = c) (stE st) v) ∧ (∀ v, nth l v false = true → ∀ z ∈ nth st v [], nth l z.toNat false = true))
    (fun j l hj ⟨a1, a2, a3, a4⟩ => by
      have hz := mem_at Tip.zero hj
      have hzr := ht _ hz
      have := uns_len l
      obtain ⟨r, b1, b2⟩ := visit_ok hl hst (l.length + 1) (nth tips j Tip.zero).state l hzr.1 hzr.2 a1 (by omega)
      refine .inl ⟨r, ?_, b2.len, fun i hi => ?_, fun v hv => ?_, fun v hv z hz' => ?_⟩
      · show prune_reach_b1 tips st l j = _
        unfold prune_reach_b1
        rw [iteO_dt (by omega), b1]; rfl
      · by_cases hij : i = j
        · subst hij; exact b2.at'
        · exact b2.le _ (a2 i (by omega))
      · rcases b2.out v hv with h | h
        · exact a3 v h
        · exact h.trans (.base ⟨_, hz, rfl⟩)
      · cases hlv : nth l v false with
        | true => exact b2.le _ (a4 v hlv z hz')
        | false => exact b2.cl v hv hlv z hz')
    (fun l hI => ⟨l, by
      show prune_reach_b1 tips st l _ = _
      unfold prune_reach_b1
      rw [iteO_df (by omega)]; rfl, hI⟩)
    (s0 := List.replicate st.length false) ⟨by rw [List.length_replicate]; exact hl, fun i hi => by omega, fun v hv => (by rw [nth_rep] at hv; cases hv), fun v hv => (by rw [nth_rep] at hv; cases hv)⟩
  refine ⟨r, h1, h2, fun v => ⟨h4 v, fun hv => ?_⟩⟩
  have : ∀ c : Int, Rch (fun c => ∃ x ∈ tips, x.state = c) (stE st) c → nth r c.toNat false = true := fun c hc => by
    induction hc with
    | base h =>
      obtain ⟨x, hx, rfl⟩ := h
      obtain ⟨i, hi, e⟩ := mem_nth (d := Tip.zero) hx
      have := h3 i hi
      rw [e] at this; exact this
    | step _ e ih => exact h5 _ ih _ e.2
  have := this v hv
  simpa using this
end Go.Proofs.YtcfjjckencjjeaaGreat
end

/- OnceG -/
section
/- Things in order, each once: plain lemmas, no condition. -/
set_option linter.unusedVariables false
set_option linter.unusedSimpArgs false
namespace Go.Proofs.YtcfjjckencjjeaaGreat
open Go Go.E
set_option maxRecDepth 100000
set_option linter.unusedSectionVars false

section
variable {α : Type} [DecidableEq α] (d : α)
/-- Without what stands twice in a row: among the first n. -/
def ddN (l : List α) : Nat → List α
  | 0 => []
  | n + 1 => ddN l n ++ (if n = 0 ∨ nth l n d ≠ nth l (n - 1) d then [nth l n d] else [])
theorem mem_ddN (l : List α) : ∀ n, n ≤ l.length → ∀ x, x ∈ ddN d l n ↔ x ∈ l.take n
  | 0, _, x => by simp [ddN]
  | n + 1, h, x => by
    rw [ddN, take_snoc l (by omega) d, List.mem_append, List.mem_append, mem_ddN l n (by omega)]
    by_cases hc : n = 0 ∨ nth l n d ≠ nth l (n - 1) d
    · rw [if_pos hc]
    · rw [if_neg hc]
      simp only [not_or, ne_eq, Decidable.not_not] at hc
      have : nth l n d ∈ l.take n := by
        rw [hc.2]
        have h1 : (l.take n)[n - 1]? = some (nth l (n - 1) d) := by rw [List.getElem?_take, if_pos (by omega)]; exact getD_some l (by omega) d
        exact List.mem_of_getElem? h1
      constructor
      · rintro (h | h)
        · exact .inl h
        · cases h
      · rintro (h | h)
        · exact .inl h
        · rw [List.mem_singleton.1 h]; exact .inl this
theorem nth_set_ne {l : List α} {k i : Nat} {v : α} (h : i ≠ k) : nth (l.set k v) i d = nth l i d := by
  simp [nth, List.getD, List.getElem?_set, Ne.symm h]
include d in
theorem take_set_succ {l : List α} {k : Nat} {v : α} (h : k < l.length) : (l.set k v).take (k + 1) = l.take k ++ [v] := by
  rw [take_snoc (l.set k v) (by simpa using h) d]
  congr 1
  · rw [List.take_set_of_le (Nat.le_refl _)]
  · simp [nth, List.getD, h]

noncomputable def gC_j (k125 : Nat) (l128 : List α) (k130 : Nat) : Option ((List α × Nat × Nat) ⊕ (Nat ⊕ List α)) :=
  nxt (l128, k130, (k125 + 1))
noncomputable def gC_b2 (x0 : List α) (k105 : Nat) (l122 : List α) (k124 : Nat) (k125 : Nat) : Option ((List α × Nat × Nat) ⊕ (Nat ⊕ List α)) :=
  iteO (decide (((k125 : Nat) : Int) < (((x0.length - k105) : Nat) : Int))) (grd (k125 < (x0.length - k105)) (grd (0 ≤ (IntKind.i64.wrap (((k125 : Nat) : Int) - 1)) ∧ (IntKind.i64.wrap (((k125 : Nat) : Int) - 1)) < ((x0.length - k105) : Nat)) (iteO (decide (¬ ((nth l122 (k105 + k125) d) = (nth l122 (k105 + (IntKind.i64.wrap (((k125 : Nat) : Int) - 1)).toNat) d)))) (grd (k125 < (x0.length - k105)) (grd (k124 < l122.length) (gC_j k125 (l122.set k124 (nth l122 (k105 + k125) d)) (k124 + 1)))) (gC_j k125 l122 k124)))) (fin (grd (k124 ≤ x0.length) (grd (k124 ≤ (l122.take k124 ++ List.replicate (l122.length - k124) d).length) (fin (some ((l122.take k124 ++ List.replicate (l122.length - k124) d).take k124))))))
noncomputable def gC_b1 (x0 : List α) (k105 : Nat) : Option ((Nat) ⊕ (List α)) :=
  iteO (decide (((k105 : Nat) : Int) < ((x0.length : Nat) : Int))) (grd (0 ≤ (IntKind.i64.wrap (((k105 : Nat) : Int) - 1)) ∧ (IntKind.i64.wrap (((k105 : Nat) : Int) - 1)) < (x0.length : Int)) (iteO (decide ((nth x0 k105 d) = (nth x0 ((IntKind.i64.wrap (((k105 : Nat) : Int) - 1)).toNat) d))) (grd (k105 ≤ x0.length) (iter (fun q : (List α) × Nat × Nat => gC_b2 d x0 k105 q.1 q.2.1 q.2.2) (x0, k105, 1))) (nxt (k105 + 1)))) (fin (some x0))
noncomputable def gC (x0 : List α) : Option (List α) :=
  iteO (decide (((x0.length : Nat) : Int) < 2)) (some x0) (iter (fun q : Nat => gC_b1 d x0 q) 1)

theorem wrap_pred {k : Nat} (h1 : 1 ≤ k) (h2 : k ≤ 281474976710656) : IntKind.i64.wrap ((k : Int) - 1) = ((k - 1 : Nat) : Int) := by
  rw [wrap64_of (by omega) (by omega)]; omega
theorem gC_in {l : List α} (hl : l.length ≤ 281474976710656) {k0 : Nat} (h0 : 1 ≤ k0) (hk : k0 < l.length) (he : nth l k0 d = nth l (k0 - 1) d) (hd : ddN d l k0 = l.take k0) :
    iter (fun q : (List α) × Nat × Nat => gC_b2 d l k0 q.1 q.2.1 q.2.2) (l, k0, 1) = some (.inr (ddN d l l.length)) := by
  refine Exists.elim (iter_run (step := fun q : (List α) × Nat × Nat => gC_b2 d l k0 q.1 q.2.1 q.2.2)
    (fun q => 1 ≤ q.2.2 ∧ k0 + q.2.2 ≤ l.length ∧ q.1.length = l.length ∧ q.2.1 ≤ k0 + q.2.2 - 1 ∧ (∀ i, k0 + q.2.2 - 1 ≤ i → nth q.1 i d = nth l i d) ∧ q.1.take q.2.1 = ddN d l (k0 + q.2.2))
    (fun r => r = .inr (ddN d l l.length)) (fun q => l.length - q.2.2) ?_ (l, k0, 1) ⟨Nat.le_refl _, hk, rfl, by simp only; omega, fun _ _ => rfl, ?_⟩) (fun r hr => by rw [hr.1, hr.2])
  · rintro ⟨l2, k, j⟩ ⟨hj, hjl, hlen, hkj, hI, ht⟩
    simp only at hj hjl hlen hkj hI ht
    have hw : IntKind.i64.wrap ((j : Int) - 1) = ((j - 1 : Nat) : Int) := wrap_pred hj (by omega)
    by_cases hlt : k0 + j < l.length
    · left
      have e1 := hI (k0 + j) (by omega)
      have e2 := hI (k0 + (j - 1)) (by omega)
      simp only [gC_b2, hw, Int.toNat_natCast, decide_eq_true (show ((j : Nat) : Int) < ((l.length - k0 : Nat) : Int) by omega), iteO_true,
        grd_mk (show j < l.length - k0 by omega), grd_mk (show (0 : Int) ≤ ((j - 1 : Nat) : Int) ∧ ((j - 1 : Nat) : Int) < ((l.length - k0 : Nat) : Int) by omega), e1, e2]
      have e3 : k0 + (j - 1) = k0 + j - 1 := by omega
      by_cases hc : nth l (k0 + j) d = nth l (k0 + (j - 1)) d
      · simp only [hc, not_true_eq_false, decide_false, iteO_false, gC_j]
        refine ⟨_, rfl, ⟨by simp only; omega, by simp only; omega, hlen, by simp only; omega, fun i hi => hI i (by simp only at hi; omega), ?_⟩, by simp only; omega⟩
        simp only
        rw [ht, ← Nat.add_assoc, ddN, if_neg, List.append_nil]
        rw [hc, e3]; simp; omega
      · simp only [hc, not_false_eq_true, decide_true, iteO_true, grd_mk (show k < l2.length by omega), gC_j]
        refine ⟨_, rfl, ⟨by simp only; omega, by simp only; omega, by simp only [List.length_set]; exact hlen, by simp only; omega, fun i hi => ?_, ?_⟩, by simp only; omega⟩
        · simp only at hi ⊢
          rw [nth_set_ne d (by omega)]; exact hI i (by omega)
        · simp only
          rw [take_set_succ d (by omega), ht, ← Nat.add_assoc, ddN, if_pos]
          rw [e3] at hc; exact .inr hc
    · right
      have hjl' : k0 + j = l.length := by omega
      have hkl : (l2.take k).length = k := by rw [List.length_take]; omega
      refine ⟨.inr (ddN d l l.length), ?_, rfl⟩
      simp only [gC_b2, decide_eq_false (show ¬ ((j : Nat) : Int) < ((l.length - k0 : Nat) : Int) by omega), iteO_false, grd_mk (show k ≤ l.length by omega)]
      rw [grd_mk (by rw [List.length_append, hkl]; omega), List.take_append_of_le_length (by omega), List.take_of_length_le (by omega), ht, hjl']
      rfl
  · simp only
    rw [ddN, if_neg (by rw [he]; simp; omega), List.append_nil, hd]
theorem gC_eq {l : List α} (hl : l.length ≤ 281474976710656) : gC d l = some (ddN d l l.length) := by
  unfold gC
  by_cases h2 : l.length < 2
  · rw [decide_eq_true (by omega), iteO_true]
    match l, h2 with
    | [], _ => rfl
    | [x], _ => rfl
  · rw [decide_eq_false (by omega), iteO_false]
    refine Exists.elim (iter_run (step := fun q : Nat => gC_b1 d l q) (fun k => 1 ≤ k ∧ k ≤ l.length ∧ ddN d l k = l.take k) (fun r => r = ddN d l l.length) (fun k => l.length - k) ?_ 1 ⟨Nat.le_refl _, by omega, ?_⟩) (fun r hr => by rw [hr.1, hr.2])
    · rintro k ⟨h1, hk, hd⟩
      by_cases hlt : k < l.length
      · simp only [gC_b1, wrap_pred h1 (show k ≤ 281474976710656 by omega), Int.toNat_natCast, decide_eq_true (show ((k : Nat) : Int) < ((l.length : Nat) : Int) by omega), iteO_true,
          grd_mk (show (0 : Int) ≤ ((k - 1 : Nat) : Int) ∧ ((k - 1 : Nat) : Int) < (l.length : Int) by omega)]
        by_cases hc : nth l k d = nth l (k - 1) d
        · right
          simp only [hc, decide_true, iteO_true, grd_mk hk]
          exact ⟨_, gC_in d hl h1 hlt hc hd, rfl⟩
        · left
          simp only [hc, decide_false, iteO_false]
          refine ⟨k + 1, rfl, ⟨by omega, by omega, ?_⟩, by omega⟩
          rw [ddN, if_pos (.inr hc), hd, take_snoc l hlt d]
      · right
        have : k = l.length := by omega
        refine ⟨l, ?_, ?_⟩
        · simp only [gC_b1, decide_eq_false (show ¬ ((k : Nat) : Int) < ((l.length : Nat) : Int) by omega), iteO_false]; rfl
        · rw [← this, hd, List.take_of_length_le (by omega)]
    · rw [ddN, if_pos (.inl rfl), take_snoc l (by omega) d]; simp [ddN]
end

/-- In order, each once. -/
def onceL {α : Type} [DecidableEq α] (d : α) (cf : α → α → Int) (l : List α) : List α := ddN d (sortL cf l) l.length
section
variable {α : Type} [DecidableEq α] {d : α} {cf : α → α → Int}
theorem sortL_len (l : List α) : (sortL cf l).length = l.length := List.length_mergeSort _
theorem mem_onceL {l : List α} {x : α} : x ∈ onceL d cf l ↔ x ∈ l := by
  have h := sortL_len (cf := cf) l
  rw [onceL, mem_ddN d _ _ (by omega), List.take_of_length_le (by omega), sortL, List.mem_mergeSort]
theorem GoodCmp.le_trans (hc : GoodCmp cf) {x y z : α} (h1 : ¬ cf y x < 0) (h2 : ¬ cf z y < 0) : ¬ cf z x < 0 := fun h3 => by
  by_cases e : x = y
  · subst e; exact h2 h3
  · by_cases e' : y = z
    · subst e'; exact h1 h3
    · have a := hc.anti y x; have b := hc.anti z y; have a' := hc.eq y x; have b' := hc.eq z y
      have h4 : cf y z < 0 := by
        rw [hc.anti]
        have : cf z y ≠ 0 := fun h => e' ((b'.1 h).symm)
        omega
      exact h1 (hc.trans _ _ _ h4 h3)
theorem sortL_sorted (hc : GoodCmp cf) (l : List α) : (sortL cf l).Pairwise fun x y => ¬ cf y x < 0 := by
  have := List.pairwise_mergeSort (le := fun x y => !decide (cf y x < 0)) (fun a b c h1 h2 => by
    simp only [Bool.not_eq_true', decide_eq_false_iff_not] at *
    exact hc.le_trans h1 h2) (fun a b => by
    have := hc.anti a b
    simp only [Bool.or_eq_true, Bool.not_eq_true', decide_eq_false_iff_not]; omega) l
  exact this.imp fun h => by simpa using h
theorem sorted_onceL (hc : GoodCmp cf) (l : List α) : (onceL d cf l).Pairwise fun x y => cf x y < 0 := by
  have hs := sortL_sorted hc l
  have hlen := sortL_len (cf := cf) l
  unfold onceL
  generalize sortL cf l = s at hs hlen
  have key : ∀ n, n ≤ s.length → (ddN d s n).Pairwise fun x y => cf x y < 0 := by
    intro n
    induction n with
    | zero => intro _; exact List.Pairwise.nil
    | succ n ih =>
      intro h
      rw [ddN]
      split
      · rename_i hn
        rw [List.pairwise_append]
        refine ⟨ih (by omega), List.pairwise_singleton .., fun x hx y hy => ?_⟩
        rw [List.mem_singleton.1 hy]
        rw [mem_ddN d s n (by omega)] at hx
        have hn0 : n ≠ 0 := fun e => by subst e; simp at hx
        have hne : nth s n d ≠ nth s (n - 1) d := by rcases hn with h | h; exact absurd h hn0; exact h
        obtain ⟨i, hi, hxi⟩ := List.mem_iff_getElem.1 hx
        have hi' : i < n := by simp at hi; omega
        have hxi : s[i]'(by omega) = x := by rw [← hxi, List.getElem_take]
        have hp := List.pairwise_iff_getElem.1 hs
        have eN : ∀ {k : Nat} (hk : k < s.length), nth s k d = s[k] := fun hk => by simp [nth, List.getD, hk]
        rw [eN (by omega), eN (by omega)] at hne
        rw [eN (by omega)]
        have h1 : cf (s[n - 1]'(by omega)) (s[n]'(by omega)) < 0 := by
          have := hp (n - 1) n (by omega) (by omega) (by omega)
          have a := hc.anti (s[n - 1]'(by omega)) (s[n]'(by omega))
          have b := hc.eq (s[n]'(by omega)) (s[n - 1]'(by omega))
          have : cf (s[n]'(by omega)) (s[n - 1]'(by omega)) ≠ 0 := fun h => hne (b.1 h)
          omega
        by_cases hin : i = n - 1
        · subst hin; rw [← hxi]; exact h1
        · have h2 := hp i (n - 1) (by omega) (by omega) (by omega)
          rw [hxi] at h2
          by_cases e : x = s[n - 1]'(by omega)
          · rw [e]; exact h1
          · refine hc.trans _ _ _ ?_ h1
            have a := hc.anti x (s[n - 1]'(by omega))
            have b := hc.eq (s[n - 1]'(by omega)) x
            have : cf (s[n - 1]'(by omega)) x ≠ 0 := fun h => e (b.1 h).symm
            omega
      · rw [List.append_nil]; exact ih (by omega)
  exact key _ (by omega)
/-- Rows that rise, of the same things, are the same. -/
theorem rising_ext {R : α → α → Prop} (hi : ∀ x, ¬ R x x) (ht : ∀ x y z, R x y → R y z → R x z) : ∀ {l m : List α}, l.Pairwise R → m.Pairwise R → (∀ x, x ∈ l ↔ x ∈ m) → l = m
  | [], [], _, _, _ => rfl
  | [], y :: m, _, _, h => by have := (h y).2 (List.mem_cons_self ..); cases this
  | x :: l, [], _, _, h => by have := (h x).1 (List.mem_cons_self ..); cases this
  | x :: l, y :: m, hl, hm, h => by
    rw [List.pairwise_cons] at hl hm
    have e : x = y := by
      have h1 := (h x).1 (List.mem_cons_self ..)
      have h2 := (h y).2 (List.mem_cons_self ..)
      rw [List.mem_cons] at h1 h2
      rcases h1 with h1 | h1
      · exact h1
      · rcases h2 with h2 | h2
        · exact h2.symm
        · exact absurd (ht _ _ _ (hm.1 x h1) (hl.1 y h2)) (hi y)
    subst e
    rw [rising_ext hi ht hl.2 hm.2 fun z => ?_]
    have := h z
    simp only [List.mem_cons] at this
    constructor
    · intro hz
      rcases this.1 (.inr hz) with e | h'
      · subst e; exact absurd (hl.1 z hz) (hi z)
      · exact h'
    · intro hz
      rcases this.2 (.inr hz) with e | h'
      · subst e; exact absurd (hm.1 z hz) (hi z)
      · exact h'
theorem GoodCmp.irr (hc : GoodCmp cf) (x : α) : ¬ cf x x < 0 := by have := (hc.eq x x).2 rfl; omega
theorem rising_eq (hc : GoodCmp cf) {l m : List α} (hl : l.Pairwise fun x y => cf x y < 0) (hm : m.Pairwise fun x y => cf x y < 0) (h : ∀ x, x ∈ l ↔ x ∈ m) : l = m :=
  rising_ext (R := fun x y => cf x y < 0) hc.irr hc.trans hl hm h
theorem onceL_congr (hc : GoodCmp cf) {l m : List α} (h : ∀ x, x ∈ l ↔ x ∈ m) : onceL d cf l = onceL d cf m :=
  rising_eq hc (sorted_onceL hc l) (sorted_onceL hc m) fun x => by rw [mem_onceL, mem_onceL, h]
theorem onceL_of (hc : GoodCmp cf) {l : List α} (h : l.Pairwise fun x y => cf x y < 0) : onceL d cf l = l := rising_eq hc (sorted_onceL hc l) h fun x => mem_onceL
theorem onceL_len (l : List α) : (onceL d cf l).length ≤ l.length := by
  have h : ∀ (s : List α) n, (ddN d s n).length ≤ n := fun s n => by
    induction n with
    | zero => exact Nat.le_refl _
    | succ n ih => rw [ddN, List.length_append]; split <;> simp <;> omega
  exact h _ _
end

end Go.Proofs.YtcfjjckencjjeaaGreat
end

/- Once -/
section
/- Things in order, each once: what the program's once computes. Plain lemmas, no condition. -/
set_option linter.unusedVariables false
set_option linter.unusedSimpArgs false
namespace Go.Proofs.YtcfjjckencjjeaaGreat
open Go Go.E
set_option maxRecDepth 100000

theorem compactT_g : compactT = gC Tip.zero := rfl
theorem compactA_g : compactA = gC Arc.zero := rfl
theorem onceT_eq {l : List Tip} (h : l.length * 24 ≤ 140737488355328) : onceT l = some (onceL Tip.zero cmpTip l) := by
  rw [onceT, grd_mk h, compactT_g, gC_eq Tip.zero (by rw [sortL_len]; omega), sortL_len]; rfl
theorem onceA_eq {l : List Arc} (h : l.length * 72 ≤ 140737488355328) : onceA l = some (onceL Arc.zero cmpArc l) := by
  rw [onceA, grd_mk h, compactA_g, gC_eq Arc.zero (by rw [sortL_len]; omega), sortL_len]; rfl
end Go.Proofs.YtcfjjckencjjeaaGreat
end

/- FstP -/
section
/- What the program says of a transducer. Plain lemmas, no condition. -/
set_option linter.unusedVariables false
set_option linter.unusedSimpArgs false
namespace Go.Proofs.YtcfjjckencjjeaaGreat
open Go Go.E
set_option maxRecDepth 100000

/-! ### Right, or not -/
def tipB (n : Int) (p : Tip) : Bool := decide (0 ≤ p.state) && decide (p.state < n) && decide ((p.out.length : Int) ≤ 1024)
def tipsB (l : List Tip) (n : Int) : Bool := decide ((l.length : Int) ≤ 1024) && l.all (tipB n)
def arcB (n : Int) (a : Arc) : Bool := decide (0 ≤ a.frm) && decide (a.frm < n) && decide (0 ≤ a.to) && decide (a.to < n) && decide (a.set ≠ BSet.zero) && decide ((a.out.length : Int) ≤ 1024)
def fstB (t : Fst) : Bool := decide (0 ≤ t.states) && decide (t.states ≤ 1024) && decide ((t.arcs.length : Int) ≤ 16384) && tipsB t.starts t.states && tipsB t.ends t.states && t.arcs.all (arcB t.states)
theorem fst_state_eq (s n : Int) : fst_state s n = some (decide (0 ≤ s) && decide (s < n)) := by
  unfold fst_state
  by_cases h : 0 ≤ s <;> simp [h]
theorem rightTips_eq (l : List Tip) (n : Int) : fst_rightTips l n = some (tipsB l n) := by
  unfold fst_rightTips tipsB
  by_cases h : (l.length : Int) ≤ 1024
  · rw [decide_eq_false (by omega), iteO_false, iter_all (y := true) (no := false) l Tip.zero (tipB n)]
    · rw [decide_eq_true h, Bool.true_and]; cases l.all (tipB n) <;> rfl
    · intro k hk hp
      simp only [tipB, Bool.and_eq_true, decide_eq_true_eq] at hp
      simp only [fst_rightTips_b1, lt_dec hk, iteO_true, fst_state_eq, bnd, Option.bind_some, hp.1.1, hp.1.2, decide_true, Bool.and_self, Bool.not_true, iteO_false, decide_eq_false (show ¬ (1024 : Int) < ((nth l k Tip.zero).out.length : Int) by omega)]; rfl
    · intro k hk hp
      simp only [fst_rightTips_b1, lt_dec hk, iteO_true, fst_state_eq, bnd, Option.bind_some]
      by_cases hc : (decide (0 ≤ (nth l k Tip.zero).state) && decide ((nth l k Tip.zero).state < n)) = true
      · rw [hc]
        simp only [tipB, hc, Bool.true_and, decide_eq_false_iff_not] at hp
        simp only [Bool.not_true, iteO_false, decide_eq_true (show (1024 : Int) < ((nth l k Tip.zero).out.length : Int) by omega), iteO_true]; rfl
      · simp only [Bool.not_eq_true] at hc
        rw [hc]; rfl
    · simp only [fst_rightTips_b1, Int.lt_irrefl, decide_false, iteO_false]; rfl
  · rw [decide_eq_true (by omega), iteO_true]; simp [h]
theorem fst_Check_eq (t : Fst) : fst_Check t = some (errB (fstB t)) := by
  unfold fst_Check
  by_cases h1 : t.states < 0
  · rw [decide_eq_true h1, iteO_true]; simp [fstB, errB, show ¬ 0 ≤ t.states by omega]
  rw [decide_eq_false h1, iteO_false]
  by_cases h2 : 1024 < t.states
  · rw [decide_eq_true h2, iteO_true]; simp [fstB, errB, show ¬ t.states ≤ 1024 by omega]
  rw [decide_eq_false h2, iteO_false]
  by_cases h3 : (16384 : Int) < (t.arcs.length : Int)
  · rw [decide_eq_true h3, iteO_true]; simp only [fstB, decide_eq_false (show ¬ (t.arcs.length : Int) ≤ 16384 by omega), Bool.and_false, Bool.false_and]; rfl
  rw [decide_eq_false h3, iteO_false, rightTips_eq, bnd, Option.bind_some]
  have e0 : fstB t = (tipsB t.starts t.states && tipsB t.ends t.states && t.arcs.all (arcB t.states)) := by
    simp only [fstB, decide_eq_true (show 0 ≤ t.states by omega), decide_eq_true (show t.states ≤ 1024 by omega), decide_eq_true (show (t.arcs.length : Int) ≤ 16384 by omega), Bool.true_and]
  rw [e0]
  cases h4 : tipsB t.starts t.states
  · rfl
  simp only [Bool.not_true, iteO_false, rightTips_eq, bnd, Option.bind_some]
  cases h5 : tipsB t.ends t.states
  · rfl
  simp only [Bool.not_true, iteO_false, Bool.and_self, Bool.true_and]
  rw [iter_all (y := 0) (no := 1) t.arcs Arc.zero (arcB t.states)]
  · rfl
  · intro k hk hp
    simp only [arcB, Bool.and_eq_true, decide_eq_true_eq] at hp
    obtain ⟨⟨⟨⟨⟨p1, p2⟩, p3⟩, p4⟩, p5⟩, p6⟩ := hp
    simp only [fst_Check_b1, lt_dec hk, iteO_true, fst_state_eq, bnd, Option.bind_some, p1, p2, p3, p4, p5, decide_true, decide_false, Bool.and_self, Bool.not_true, iteO_false, decide_eq_false (show ¬ (1024 : Int) < ((nth t.arcs k Arc.zero).out.length : Int) by omega)]; rfl
  · intro k hk hp
    simp only [fst_Check_b1, lt_dec hk, iteO_true, fst_state_eq, bnd, Option.bind_some]
    cases hc : (decide (0 ≤ (nth t.arcs k Arc.zero).frm) && decide ((nth t.arcs k Arc.zero).frm < t.states))
    · rfl
    cases hd : (decide (0 ≤ (nth t.arcs k Arc.zero).to) && decide ((nth t.arcs k Arc.zero).to < t.states))
    · rfl
    simp only [Bool.not_true, iteO_false]
    by_cases he : (nth t.arcs k Arc.zero).set = BSet.zero
    · rw [decide_eq_true he]; rfl
    rw [decide_eq_false he, iteO_false]
    have hd' : (decide (0 ≤ (nth t.arcs k Arc.zero).frm) && decide ((nth t.arcs k Arc.zero).frm < t.states) && decide (0 ≤ (nth t.arcs k Arc.zero).to) && decide ((nth t.arcs k Arc.zero).to < t.states)) = true := by rw [Bool.and_assoc, hc, hd]; rfl
    simp only [arcB, hd', Bool.true_and, ne_eq, he, not_false_eq_true, decide_true, decide_eq_false_iff_not] at hp
    rw [decide_eq_true (by omega)]; rfl
  · simp only [fst_Check_b1, Int.lt_irrefl, decide_false, iteO_false]; rfl

theorem errB_ne {b : Bool} : decide (errB b ≠ 0) = !b := by cases b <;> rfl
end Go.Proofs.YtcfjjckencjjeaaGreat
end

/- FstQ -/
section
/- What the program's Outs gives. Plain lemmas, no condition. -/
set_option linter.unusedVariables false
set_option linter.unusedSimpArgs false
namespace Go.Proofs.YtcfjjckencjjeaaGreat
open Go Go.E
set_option maxRecDepth 100000

theorem tipB_ok {n : Int} {p : Tip} (h : tipB n p = true) : (0 ≤ p.state ∧ p.state < n) ∧ p.out.length ≤ 1024 := by
  simp only [tipB, Bool.and_eq_true, decide_eq_true_eq] at h; exact ⟨h.1, by omega⟩
theorem tipsB_ok {n : Int} {l : List Tip} (h : tipsB l n = true) : l.length ≤ 1024 ∧ ∀ p ∈ l, (0 ≤ p.state ∧ p.state < n) ∧ p.out.length ≤ 1024 := by
  simp only [tipsB, Bool.and_eq_true, decide_eq_true_eq, List.all_eq_true] at h
  exact ⟨by omega, fun p hp => tipB_ok (h.2 p hp)⟩
theorem arcB_ok {n : Int} {a : Arc} (h : arcB n a = true) : (0 ≤ a.frm ∧ a.frm < n) ∧ (0 ≤ a.to ∧ a.to < n) ∧ a.set ≠ BSet.zero ∧ a.out.length ≤ 1024 := by
  simp only [arcB, Bool.and_eq_true, decide_eq_true_eq] at h
  obtain ⟨⟨⟨⟨⟨p1, p2⟩, p3⟩, p4⟩, p5⟩, p6⟩ := h
  exact ⟨⟨p1, p2⟩, ⟨p3, p4⟩, p5, by omega⟩
structure FstOk (t : Fst) : Prop where
  st0 : 0 ≤ t.states
  st1 : t.states ≤ 1024
  arcsN : t.arcs.length ≤ 16384
  startsN : t.starts.length ≤ 1024
  endsN : t.ends.length ≤ 1024
  starts : ∀ p ∈ t.starts, (0 ≤ p.state ∧ p.state < t.states) ∧ p.out.length ≤ 1024
  ends : ∀ p ∈ t.ends, (0 ≤ p.state ∧ p.state < t.states) ∧ p.out.length ≤ 1024
  arcs : ∀ a ∈ t.arcs, (0 ≤ a.frm ∧ a.frm < t.states) ∧ (0 ≤ a.to ∧ a.to < t.states) ∧ a.set ≠ BSet.zero ∧ a.out.length ≤ 1024
theorem fstB_iff (t : Fst) : fstB t = true ↔ FstOk t := by
  constructor
  · intro h
    simp only [fstB, Bool.and_eq_true, decide_eq_true_eq, List.all_eq_true] at h
    obtain ⟨⟨⟨⟨⟨h1, h2⟩, h3⟩, h4⟩, h5⟩, h6⟩ := h
    exact ⟨h1, h2, by omega, (tipsB_ok h4).1, (tipsB_ok h5).1, (tipsB_ok h4).2, (tipsB_ok h5).2, fun a ha => arcB_ok (h6 a ha)⟩
  · rintro ⟨h1, h2, h3, h4, h5, h6, h7, h8⟩
    have hT : ∀ l : List Tip, l.length ≤ 1024 → (∀ p ∈ l, (0 ≤ p.state ∧ p.state < t.states) ∧ p.out.length ≤ 1024) → tipsB l t.states = true := fun l hl hp => by
      simp only [tipsB, Bool.and_eq_true, decide_eq_true_eq, List.all_eq_true]
      refine ⟨by omega, fun p hq => ?_⟩
      have := hp p hq
      simp only [tipB, Bool.and_eq_true, decide_eq_true_eq]; omega
    simp only [fstB, Bool.and_eq_true, decide_eq_true_eq, List.all_eq_true]
    refine ⟨⟨⟨⟨⟨h1, h2⟩, by omega⟩, hT _ h4 h6⟩, hT _ h5 h7⟩, fun a ha => ?_⟩
    obtain ⟨p1, p2, p3, p4⟩ := h8 a ha
    simp only [arcB, Bool.and_eq_true, decide_eq_true_eq]
    exact ⟨⟨⟨⟨p1, p2.1⟩, p2.2⟩, p3⟩, by omega⟩
end Go.Proofs.YtcfjjckencjjeaaGreat
end

/- FstR -/
section
/- In, and Sort, of a transducer; what the laws look at. Plain lemmas, no condition. -/
set_option linter.unusedVariables false
set_option linter.unusedSimpArgs false
namespace Go.Proofs.YtcfjjckencjjeaaGreat
open Go Go.E
set_option maxRecDepth 100000

/-! ### In order -/
def srt (t : Fst) : Fst := ⟨t.states, onceL Tip.zero cmpTip t.starts, onceL Tip.zero cmpTip t.ends, onceL Arc.zero cmpArc t.arcs⟩
theorem sort_eq (t : Fst) : fst_Sort t = some (if fstB t = true then (srt t, 0) else (⟨0, [], [], []⟩, 1)) := by
  unfold fst_Sort
  rw [fst_Check_eq, bnd, Option.bind_some, errB_ne]
  by_cases h : fstB t = true
  · have ht := (fstB_iff t).1 h
    have h1 := ht.startsN
    have h2 := ht.endsN
    have h3 := ht.arcsN
    rw [h, if_pos rfl, Bool.not_true, iteO_false]
    simp only [onceT_eq (l := t.starts) (by omega), onceT_eq (l := t.ends) (by omega), onceA_eq (l := t.arcs) (by omega), bnd, Option.bind_some]
    rfl
  · simp only [Bool.not_eq_true] at h
    rw [h]; rfl
/-- The same things, be it in another order and more often. -/
structure Alike (s t : Fst) : Prop where
  states : s.states = t.states
  starts : ∀ x, x ∈ s.starts ↔ x ∈ t.starts
  ends : ∀ x, x ∈ s.ends ↔ x ∈ t.ends
  arcs : ∀ x, x ∈ s.arcs ↔ x ∈ t.arcs
theorem srt_ok {t : Fst} (ht : FstOk t) : FstOk (srt t) where
  st0 := ht.st0
  st1 := ht.st1
  arcsN := Nat.le_trans (onceL_len _) ht.arcsN
  startsN := Nat.le_trans (onceL_len _) ht.startsN
  endsN := Nat.le_trans (onceL_len _) ht.endsN
  starts p hp := ht.starts p (mem_onceL.1 hp)
  ends p hp := ht.ends p (mem_onceL.1 hp)
  arcs a ha := ht.arcs a (mem_onceL.1 ha)end Go.Proofs.YtcfjjckencjjeaaGreat
end

/- PrW -/
section
/- The program's Trim, in plain words. Plain lemmas, no condition. -/
set_option linter.unusedVariables false
set_option linter.unusedSimpArgs false
namespace Go.Proofs.YtcfjjckencjjeaaGreat
open Go Go.E
set_option maxRecDepth 100000

theorem grp_len {β γ : Type} {key : β → Int} {val : β → γ} {n : Nat} {l : List (List γ)} {xs : List β} (h : Grp key val n l xs) {i : Nat} (hi : i < n) : (nth l i []).length ≤ xs.length := by
  rw [h.row i hi, List.length_map]; exact List.length_filter_le ..
theorem take_len_le {α : Type} (l : List α) (k : Nat) : (l.take k).length ≤ l.length := by rw [List.length_take]; omega
theorem useful_eq {t : Fst} (ht : FstOk t) : ∃ on bk, prune_useful t = some (t, on, bk) ∧ Grp Arc.frm Arc.to t.states.toNat on t.arcs ∧ Grp Arc.to Arc.frm t.states.toNat bk t.arcs := by
  have h0 := ht.st0
  have h1 := ht.st1
  have hN := ht.arcsN
  unfold prune_useful prune_useful_j1
  rw [grd_mk ⟨h0, by omega⟩, grd_mk ⟨h0, by omega⟩]
  obtain ⟨r, h2, on, bk, rfl, h3, h4⟩ := iter_for (step := fun q : List (List Int) × List (List Int) × Nat => prune_useful_b1 t q.1 q.2.1 q.2.2) (fun (s : List (List Int) × List (List Int)) k => (s.1, s.2, k)) t.arcs Arc.zero
    (fun pre s => Grp Arc.frm Arc.to t.states.toNat s.1 pre ∧ Grp Arc.to Arc.frm t.states.toNat s.2 pre)
    (fun r => ∃ on bk, r = (t, on, bk) ∧ Grp Arc.frm Arc.to t.states.toNat on t.arcs ∧ Grp Arc.to Arc.frm t.states.toNat bk t.arcs)
    (fun k s hk ⟨a1, a2⟩ => by
      obtain ⟨b1, b2, b3, b4⟩ := ht.arcs _ (mem_at Arc.zero hk)
      have l1 := a1.len
      have l2 := a2.len
      have r1 := grp_len a1 (i := (nth t.arcs k Arc.zero).frm.toNat) (by omega)
      have r2 := grp_len a2 (i := (nth t.arcs k Arc.zero).to.toNat) (by omega)
      have r3 := take_len_le t.arcs k
      refine .inl ⟨(s.1.set (nth t.arcs k Arc.zero).frm.toNat (nth s.1 (nth t.arcs k Arc.zero).frm.toNat [] ++ [(nth t.arcs k Arc.zero).to]), s.2.set (nth t.arcs k Arc.zero).to.toNat (nth s.2 (nth t.arcs k Arc.zero).to.toNat [] ++ [(nth t.arcs k Arc.zero).frm])), ?_, a1.snoc b1.1 (by omega), a2.snoc b2.1 (by omega)⟩
      show prune_useful_b1 t s.1 s.2 k = _
      unfold prune_useful_b1 prune_useful_j3 prune_useful_j2
      rw [iteO_dt (by omega), grd_mk ⟨b1.1, by omega⟩, grd_mk (by simp only [List.length_singleton]; omega), grd_mk ⟨b1.1, by omega⟩, grd_mk ⟨b2.1, by omega⟩, grd_mk (by simp only [List.length_singleton]; omega), grd_mk ⟨b2.1, by omega⟩]
      rfl)
    (fun s hI => ⟨(t, s.1, s.2), by
      show prune_useful_b1 t s.1 s.2 t.arcs.length = _
      unfold prune_useful_b1
      rw [iteO_df (by omega)]; rfl, s.1, s.2, rfl, hI.1, hI.2⟩)
    (s0 := (List.replicate t.states.toNat [], List.replicate t.states.toNat [])) ⟨Grp.nil .., Grp.nil ..⟩
  exact ⟨on, bk, h2, h3, h4⟩
theorem stE_on {t : Fst} (ht : FstOk t) {key val : Arc → Int} {l : List (List Int)} (h : Grp key val t.states.toNat l t.arcs) (hk : ∀ a ∈ t.arcs, 0 ≤ key a ∧ key a < t.states) : stE l = fun a b => ∃ x ∈ t.arcs, key x = a ∧ val x = b := by
  funext a b
  refine propext ⟨fun ⟨h0, hb⟩ => ?_, fun ⟨x, hx, h1, h2⟩ => ?_⟩
  · have hlt : a.toNat < t.states.toNat := by
      have := h.len
      by_cases hl : a.toNat < l.length
      · omega
      · unfold nth at hb
        rw [List.getD_eq_getElem?_getD, List.getElem?_eq_none (by omega)] at hb
        simp at hb
    rw [h.row _ hlt, List.mem_map] at hb
    obtain ⟨x, hx, e⟩ := hb
    have := List.mem_filter.1 hx
    exact ⟨x, this.1, by have := of_decide_eq_true this.2; omega, e⟩
  · have := hk x hx
    refine ⟨by omega, ?_⟩
    rw [h.row _ (by omega), List.mem_map]
    exact ⟨x, List.mem_filter.2 ⟨hx, decide_eq_true (by omega)⟩, h2⟩
theorem grp_rng {t : Fst} {key val : Arc → Int} {l : List (List Int)} (h : Grp key val t.states.toNat l t.arcs) (hk : ∀ a ∈ t.arcs, 0 ≤ val a ∧ val a < t.states) : ∀ a, ∀ z ∈ nth l a [], 0 ≤ z ∧ z < t.states.toNat := fun a z hz => by
  have hl := h.len
  by_cases ha : a < t.states.toNat
  · rw [h.row _ ha, List.mem_map] at hz
    obtain ⟨x, hx, rfl⟩ := hz
    have := hk x (List.mem_filter.1 hx).1
    omega
  · unfold nth at hz
    rw [List.getD_eq_getElem?_getD, List.getElem?_eq_none (by omega)] at hz
    simp at hz
/-- The numbers stand. -/
def NumOk (p : Nat → Bool) (n : Nat) (num : List Int) : Prop := num.length = n ∧ ∀ s : Int, 0 ≤ s → s < n → nth num s.toNat 0 = numB p s
theorem keepT_snoc (p : Nat → Bool) (l : List Tip) (k : Nat) (h : k < l.length) : keepT p (l.take (k + 1)) = keepT p (l.take k) ++ (if 0 ≤ numB p (nth l k Tip.zero).state then [⟨numB p (nth l k Tip.zero).state, (nth l k Tip.zero).out⟩] else []) := by
  rw [take_snoc l h Tip.zero]
  unfold keepT
  rw [List.filterMap_append]
  congr 1
  by_cases hc : 0 ≤ numB p (nth l k Tip.zero).state
  · rw [List.filterMap_cons, if_pos hc, if_pos hc]; rfl
  · rw [List.filterMap_cons, if_neg hc, if_neg hc]; rfl
theorem keepA_snoc (p : Nat → Bool) (l : List Arc) (k : Nat) (h : k < l.length) : keepA p (l.take (k + 1)) = keepA p (l.take k) ++ (if 0 ≤ numB p (nth l k Arc.zero).frm ∧ 0 ≤ numB p (nth l k Arc.zero).to then [⟨numB p (nth l k Arc.zero).frm, numB p (nth l k Arc.zero).to, (nth l k Arc.zero).set, (nth l k Arc.zero).out, (nth l k Arc.zero).copy⟩] else []) := by
  rw [take_snoc l h Arc.zero]
  unfold keepA
  rw [List.filterMap_append]
  congr 1
  by_cases hc : 0 ≤ numB p (nth l k Arc.zero).frm ∧ 0 ≤ numB p (nth l k Arc.zero).to
  · rw [List.filterMap_cons, if_pos hc, if_pos hc]; rfl
  · rw [List.filterMap_cons, if_neg hc, if_neg hc]; rfl
theorem trim_arcs {t : Fst} (ht : FstOk t) {p : Nat → Bool} {num : List Int} (hn : NumOk p t.states.toNat num) (c : Nat) (S E : List Tip) :
    iter (fun q : List Arc × Nat => prune_Trim_b4 t num c S E q.1 q.2) (([] : List Arc), 0) = bnd (fst_Sort ⟨(c : Int), S, E, keepA p t.arcs⟩) (fun v => some (v.1, v.2)) := by
  have hN := ht.arcsN
  obtain ⟨r, hr⟩ : ∃ r, bnd (fst_Sort ⟨(c : Int), S, E, keepA p t.arcs⟩) (fun v => some (v.1, v.2)) = some r := by rw [sort_eq]; exact ⟨_, rfl⟩
  rw [hr]
  refine iter_fold t.arcs Arc.zero (fun k => keepA p (t.arcs.take k)) (fun k hk => ?_) ?_
  · obtain ⟨b1, b2, b3, b4⟩ := ht.arcs _ (mem_at Arc.zero hk)
    have hl := keepA_len p (t.arcs.take k)
    have r3 := take_len_le t.arcs k
    have e1 := hn.2 _ b1.1 (by omega)
    have e2 := hn.2 _ b2.1 (by omega)
    have l1 := hn.1
    show prune_Trim_b4 t num c S E _ k = _
    unfold prune_Trim_b4 prune_Trim_j3
    rw [iteO_dt (by omega), grd_mk ⟨b1.1, by omega⟩, grd_mk ⟨b2.1, by omega⟩, e1, e2, keepA_snoc p _ k hk]
    by_cases c1 : 0 ≤ numB p (nth t.arcs k Arc.zero).frm
    · rw [iteO_dt c1]
      by_cases c2 : 0 ≤ numB p (nth t.arcs k Arc.zero).to
      · rw [iteO_dt c2, if_pos ⟨c1, c2⟩, grd_mk (by simp only [List.length_singleton]; omega)]; rfl
      · rw [iteO_df c2, if_neg (fun h => c2 h.2), List.append_nil]; rfl
    · rw [iteO_df c1, if_neg (fun h => c1 h.1), List.append_nil]; rfl
  · show prune_Trim_b4 t num c S E _ _ = _
    unfold prune_Trim_b4
    rw [iteO_df (by omega), List.take_length, hr]; rfl
theorem trim_ends {t : Fst} (ht : FstOk t) {p : Nat → Bool} {num : List Int} (hn : NumOk p t.states.toNat num) (c : Nat) (S : List Tip) :
    iter (fun q : List Tip × Nat => prune_Trim_b3 t num c S q.1 q.2) (([] : List Tip), 0) = bnd (fst_Sort ⟨(c : Int), S, keepT p t.ends, keepA p t.arcs⟩) (fun v => some (v.1, v.2)) := by
  have hN := ht.endsN
  obtain ⟨r, hr⟩ : ∃ r, bnd (fst_Sort ⟨(c : Int), S, keepT p t.ends, keepA p t.arcs⟩) (fun v => some (v.1, v.2)) = some r := by rw [sort_eq]; exact ⟨_, rfl⟩
  rw [hr]
  refine iter_fold t.ends Tip.zero (fun k => keepT p (t.ends.take k)) (fun k hk => ?_) ?_
  · obtain ⟨b1, b2⟩ := ht.ends _ (mem_at Tip.zero hk)
    have hl := keepT_len p (t.ends.take k)
    have r3 := take_len_le t.ends k
    have e1 := hn.2 _ b1.1 (by omega)
    have l1 := hn.1
    show prune_Trim_b3 t num c S _ k = _
    unfold prune_Trim_b3 prune_Trim_j2
    rw [iteO_dt (by omega), grd_mk ⟨b1.1, by omega⟩, e1, keepT_snoc p _ k hk]
    by_cases c1 : 0 ≤ numB p (nth t.ends k Tip.zero).state
    · rw [iteO_dt c1, if_pos c1, grd_mk (by simp only [List.length_singleton]; omega)]; rfl
    · rw [iteO_df c1, if_neg c1, List.append_nil]; rfl
  · show prune_Trim_b3 t num c S _ _ = _
    unfold prune_Trim_b3
    rw [iteO_df (by omega), List.take_length, trim_arcs ht hn, hr]; rfl
theorem trim_starts {t : Fst} (ht : FstOk t) {p : Nat → Bool} {num : List Int} (hn : NumOk p t.states.toNat num) (c : Nat) :
    iter (fun q : List Tip × Nat => prune_Trim_b2 t num c q.1 q.2) (([] : List Tip), 0) = bnd (fst_Sort ⟨(c : Int), keepT p t.starts, keepT p t.ends, keepA p t.arcs⟩) (fun v => some (v.1, v.2)) := by
  have hN := ht.startsN
  obtain ⟨r, hr⟩ : ∃ r, bnd (fst_Sort ⟨(c : Int), keepT p t.starts, keepT p t.ends, keepA p t.arcs⟩) (fun v => some (v.1, v.2)) = some r := by rw [sort_eq]; exact ⟨_, rfl⟩
  rw [hr]
  refine iter_fold t.starts Tip.zero (fun k => keepT p (t.starts.take k)) (fun k hk => ?_) ?_
  · obtain ⟨b1, b2⟩ := ht.starts _ (mem_at Tip.zero hk)
    have hl := keepT_len p (t.starts.take k)
    have r3 := take_len_le t.starts k
    have e1 := hn.2 _ b1.1 (by omega)
    have l1 := hn.1
    show prune_Trim_b2 t num c _ k = _
    unfold prune_Trim_b2 prune_Trim_j1
    rw [iteO_dt (by omega), grd_mk ⟨b1.1, by omega⟩, e1, keepT_snoc p _ k hk]
    by_cases c1 : 0 ≤ numB p (nth t.starts k Tip.zero).state
    · rw [iteO_dt c1, if_pos c1, grd_mk (by simp only [List.length_singleton]; omega)]; rfl
    · rw [iteO_df c1, if_neg c1, List.append_nil]; rfl
  · show prune_Trim_b2 t num c _ _ = _
    unfold prune_Trim_b2
    rw [iteO_df (by omega), List.take_length, trim_ends ht hn, hr]; rfl
/-- The rounds that number what is of use. -/
theorem number_eq {t : Fst} (ht : FstOk t) {on bk : List (List Int)} (h1 : Grp Arc.frm Arc.to t.states.toNat on t.arcs) (h2 : Grp Arc.to Arc.frm t.states.toNat bk t.arcs) {l0 : List Int} (hl0 : l0.length = t.states.toNat) (hm : ∀ i, i < t.states.toNat → nth l0 i 0 = -1) :
    ∃ num, prune_useful_1 (stepY (fun (q : List Int × Nat) (x : Int) => prune_Trim_r4 q.1 q.2 x)) (0, (l0, 0)) (⟨t.states, t.starts, t.ends, t.arcs⟩ : Fst) on bk = some (0, (num, cntB (useB t) t.states.toNat)) ∧ NumOk (useB t) t.states.toNat num := by
  have h0 := ht.st0
  have hs1 := ht.st1
  obtain ⟨ah, a1, a2, a3⟩ := reach_ok (tips := t.starts) (by omega) h1.len (grp_rng h1 fun a ha => (ht.arcs a ha).2.1) (fun x hx => by have := (ht.starts x hx).1; omega)
  obtain ⟨be, b1, b2, b3⟩ := reach_ok (tips := t.ends) (by omega) h2.len (grp_rng h2 fun a ha => (ht.arcs a ha).1) (fun x hx => by have := (ht.ends x hx).1; omega)
  rw [stE_on ht h1 fun a ha => (ht.arcs a ha).1] at a3
  rw [stE_on ht h2 fun a ha => (ht.arcs a ha).2.1] at b3
  have hp : ∀ v, useB t v = (nth ah v false && nth be v false) := fun v => by
    rw [Bool.eq_iff_iff, Bool.and_eq_true, a3 v, b3 v]; exact useB_iff
  unfold prune_useful_1
  rw [bnd_some a1, bnd_some b1]
  obtain ⟨r, e, f⟩ := iter_up (step := fun q : Nat × (Nat × List Int × Nat) => prune_useful_1_b1 ah be (stepY (fun (q : List Int × Nat) (x : Int) => prune_Trim_r4 q.1 q.2 x)) q.1 q.2) (fun (s : Nat × List Int × Nat) k => (k, s)) t.states.toNat
    (fun k s => s.1 = 0 ∧ s.2.2 = cntB (useB t) k ∧ s.2.1.length = t.states.toNat ∧ ∀ i, i < t.states.toNat → nth s.2.1 i 0 = if i < k then numB (useB t) i else -1)
    (fun r => r.1 = 0 ∧ r.2.2 = cntB (useB t) t.states.toNat ∧ NumOk (useB t) t.states.toNat r.2.1)
    (fun k s hk ⟨c1, c2, c3, c4⟩ => by
      obtain ⟨j, l, c⟩ := s
      obtain rfl : j = 0 := c1
      obtain rfl : c = cntB (useB t) k := c2
      dsimp only at c3 c4
      refine .inl ?_
      show ∃ s' : Nat × List Int × Nat, prune_useful_1_b1 ah be _ k (0, l, cntB (useB t) k) = _ ∧ _
      unfold prune_useful_1_b1 prune_useful_1_j1
      rw [iteO_dt (by omega)]
      have hk' := hp k
      cases ha : nth ah k false with
      | false =>
        rw [ha, Bool.false_and] at hk'
        refine ⟨(0, l, cntB (useB t) k), rfl, rfl, by simp only [cntB, hk']; rfl, c3, fun i hi => ?_⟩
        dsimp only
        rw [c4 i hi]
        by_cases e1 : i < k
        · rw [if_pos e1, if_pos (by omega)]
        · rw [if_neg e1]
          by_cases e2 : i < k + 1
          · obtain rfl : i = k := by omega
            rw [if_pos e2]; unfold numB; simp [hk']
          · rw [if_neg e2]
      | true =>
        rw [iteO_true, grd_mk (by omega)]
        cases hb : nth be k false with
        | false =>
          rw [ha, hb, Bool.true_and] at hk'
          refine ⟨(0, l, cntB (useB t) k), rfl, rfl, by simp only [cntB, hk']; rfl, c3, fun i hi => ?_⟩
          dsimp only
          rw [c4 i hi]
          by_cases e1 : i < k
          · rw [if_pos e1, if_pos (by omega)]
          · rw [if_neg e1]
            by_cases e2 : i < k + 1
            · obtain rfl : i = k := by omega
              rw [if_pos e2]; unfold numB; simp [hk']
            · rw [if_neg e2]
        | true =>
          rw [ha, hb, Bool.true_and] at hk'
          have hy : stepY (fun (q : List Int × Nat) (x : Int) => prune_Trim_r4 q.1 q.2 x) (0, l, cntB (useB t) k) ((k : Nat) : Int) = some ((0, l.set k ((cntB (useB t) k : Nat) : Int), cntB (useB t) k + 1), true) := by
            unfold stepY
            rw [if_pos rfl]
            show (prune_Trim_r4 l (cntB (useB t) k) ((k : Nat) : Int)).bind _ = _
            unfold prune_Trim_r4
            have hself := cntB_self (useB t) k
            rw [grd_mk ⟨by omega, by omega⟩, grd_mk (by omega)]; rfl
          rw [iteO_true, bnd_some hy]
          refine ⟨(0, l.set k ((cntB (useB t) k : Nat) : Int), cntB (useB t) k + 1), rfl, rfl, by simp only [cntB, hk', if_true], by rw [List.length_set]; exact c3, fun i hi => ?_⟩
          dsimp only
          rw [nth_set]
          by_cases e1 : k = i
          · subst e1
            rw [if_pos ⟨rfl, by omega⟩, if_pos (by omega), numB_pos (by simpa using hk')]; simp
          · rw [if_neg (fun h => e1 h.1), c4 i hi]
            by_cases e2 : i < k
            · rw [if_pos e2, if_pos (by omega)]
            · rw [if_neg e2, if_neg (by omega)])
    (fun s ⟨c1, c2, c3, c4⟩ => ⟨s, by
      show prune_useful_1_b1 ah be _ _ s = _
      unfold prune_useful_1_b1
      rw [iteO_df (by omega)]; rfl, c1, c2, c3, fun v h1 h2 => by
        rw [c4 _ (by omega), if_pos (by omega), show ((v.toNat : Nat) : Int) = v by omega]⟩)
    (s0 := (0, l0, 0)) ⟨rfl, rfl, hl0, fun i hi => by rw [if_neg (by omega)]; exact hm i hi⟩
  obtain ⟨j, num, c⟩ := r
  obtain ⟨f1, f2, f3⟩ := f
  dsimp only at f1 f2 f3
  subst f1 f2
  exact ⟨num, e, f3⟩
/-- Trim, in plain words. -/
noncomputable def trimD (t : Fst) : Fst := srt (keepF (useB t) t)
theorem ok_rng {t : Fst} (ht : FstOk t) : Rng t := ⟨fun x hx => (ht.starts x hx).1, fun x hx => (ht.ends x hx).1, fun x hx => ⟨(ht.arcs x hx).1, (ht.arcs x hx).2.1⟩⟩
theorem keep_ok {t : Fst} (ht : FstOk t) : FstOk (keepF (useB t) t) := by
  have hr := keep_rng (t := t) (r := keepF (useB t) t) (fun _ => Iff.rfl) (fun _ => Iff.rfl) (fun _ => Iff.rfl) rfl (ok_rng ht)
  have h1 := ht.st1
  have hc := cntB_self (useB t) t.states.toNat
  have l1 := keepT_len (useB t) t.starts
  have l2 := keepT_len (useB t) t.ends
  have l3 := keepA_len (useB t) t.arcs
  refine ⟨by show (0 : Int) ≤ ((cntB (useB t) t.states.toNat : Nat) : Int); omega, by have := ht.st0; show ((cntB (useB t) t.states.toNat : Nat) : Int) ≤ 1024; omega, Nat.le_trans l3 ht.arcsN, Nat.le_trans l1 ht.startsN, Nat.le_trans l2 ht.endsN, fun y hy => ⟨hr.starts y hy, ?_⟩, fun y hy => ⟨hr.ends y hy, ?_⟩, fun y hy => ⟨(hr.arcs y hy).1, (hr.arcs y hy).2, ?_⟩⟩
  · obtain ⟨x, hx, _, rfl⟩ := mem_keepT.1 hy; exact (ht.starts x hx).2
  · obtain ⟨x, hx, _, rfl⟩ := mem_keepT.1 hy; exact (ht.ends x hx).2
  · obtain ⟨x, hx, _, _, rfl⟩ := mem_keepA.1 hy; exact (ht.arcs x hx).2.2
theorem trim_eq (t : Fst) : prune_Trim t = some (if fstB t = true then (trimD t, 0) else (⟨0, [], [], []⟩, 1)) := by
  unfold prune_Trim
  rw [fst_Check_eq, bnd, Option.bind_some, errB_ne]
  by_cases h : fstB t = true
  · have ht := (fstB_iff t).1 h
    have h0 := ht.st0
    have h1 := ht.st1
    rw [h, Bool.not_true, iteO_false, grd_mk ⟨h0, by omega⟩, if_pos rfl]
    obtain ⟨r, e, rfl⟩ := iter_up (step := fun q : List Int × Nat => prune_Trim_b1 t q.1 q.2) (fun (l : List Int) k => (l, k)) t.states.toNat
      (fun k l => l.length = t.states.toNat ∧ ∀ i, i < k → nth l i 0 = -1) (fun r => r = (trimD t, 0))
      (fun k l hk ⟨c1, c2⟩ => .inl ⟨l.set k (-1), by
        show prune_Trim_b1 t l k = _
        unfold prune_Trim_b1
        rw [List.length_replicate, iteO_dt (by omega), grd_mk (by omega)]; rfl, by rw [List.length_set]; exact c1, fun i hi => by
          rw [nth_set]
          by_cases e1 : k = i
          · rw [if_pos ⟨e1, by omega⟩]
          · rw [if_neg (fun h => e1 h.1)]; exact c2 i (by omega)⟩)
      (fun l ⟨c1, c2⟩ => ⟨(trimD t, 0), by
        obtain ⟨on, bk, u1, u2, u3⟩ := useful_eq ht
        obtain ⟨num, v1, v2⟩ := number_eq ht u2 u3 c1 c2
        show prune_Trim_b1 t l _ = _
        unfold prune_Trim_b1
        rw [List.length_replicate, iteO_df (by omega), bnd_some u1]
        dsimp only
        rw [bnd_some v1]
        unfold prune_Trim_k4
        show fin (iter _ _) = _
        rw [trim_starts ht v2, sort_eq]
        show fin (bnd (some (if fstB (keepF (useB t) t) = true then (srt (keepF (useB t) t), 0) else _)) _) = _
        rw [if_pos ((fstB_iff _).2 (keep_ok ht))]; rfl, rfl⟩)
      (s0 := List.replicate t.states.toNat 0) ⟨List.length_replicate .., fun i hi => by omega⟩
    exact e
  · simp only [Bool.not_eq_true] at h
    rw [h]; rfl
theorem trimD_ok {t : Fst} (ht : FstOk t) : FstOk (trimD t) := srt_ok (keep_ok ht)
end Go.Proofs.YtcfjjckencjjeaaGreat
end

/- G1 -/
section
/- Decompiled: the reference's In and Sort; the law on what is made. -/
set_option linter.unusedVariables false
set_option linter.unusedSimpArgs false
namespace Go.Proofs.YtcfjjckencjjeaaGreat
open Go Go.E Go.E.OpVal Go.E.OpOk Go.Proofs.Tryz
set_option maxRecDepth 100000
private theorem eg38 : Tryz.prog.eqGuardType Tryz.prog.depth 38 = false := by kernel_rfl
private theorem eg43 : Tryz.prog.eqGuardType Tryz.prog.depth 43 = false := by kernel_rfl
private theorem es38 (x y : Arc) : Go.E.EqAt Tryz.prog 3 38 (.agg (Go.E.encArc x).toArray) (.agg (Go.E.encArc y).toArray) (decide (x = y)) :=
 (EqAt.struct (ts := [(false, 3, 0), (false, 3, 1), (false, 36, 2), (false, 9, 6), (false, 4, 7)]) (by kernel_rfl) (by kernel_rfl) (by kernel_rfl) (EqC.one (by kernel_rfl) rfl rfl (EqAt.int underlying3 x.frm y.frm |>.up (by decide)) (EqC.one (by kernel_rfl) rfl rfl (EqAt.int underlying3 x.to y.to |>.up (by decide)) (EqC.agg (s := 4) (us := Go.E.setA x.set) (vs := Go.E.setA y.set) (by kernel_rfl) (by kernel_rfl) rfl rfl (EqAt.set underlying36 underlying34 (by kernel_rfl) (by kernel_rfl) x.set y.set) (EqC.one (by kernel_rfl) rfl rfl (EqAt.str underlying9 x.out y.out |>.up (by decide)) (EqC.one (by kernel_rfl) rfl rfl (EqAt.bool underlying4 x.copy y.copy |>.up (by decide)) EqC.nil)))))).of (by rw [Bool.eq_iff_iff]; cases x; cases y; simp)
private theorem es43 (x y : Tip) : Go.E.EqAt Tryz.prog 2 43 (.agg (Go.E.encTip x).toArray) (.agg (Go.E.encTip y).toArray) (decide (x = y)) :=
 (EqAt.struct (ts := [(false, 3, 0), (false, 9, 1)]) (by kernel_rfl) (by kernel_rfl) (by kernel_rfl) (EqC.one (by kernel_rfl) rfl rfl (EqAt.int underlying3 x.state y.state) (EqC.one (by kernel_rfl) rfl rfl (EqAt.str underlying9 x.out y.out) EqC.nil))).of (by rw [Bool.eq_iff_iff]; cases x; cases y; simp)
private theorem pf26 : Go.E.plainF Tryz.prog 26 = true := by kernel_rfl
private theorem pf41 : Go.E.plainF Tryz.prog 41 = true := by kernel_rfl
private theorem pf42 : Go.E.plainF Tryz.prog 42 = true := by kernel_rfl
private theorem pf59 : Go.E.plainF Tryz.prog 59 = true := by kernel_rfl
private theorem pf60 : Go.E.plainF Tryz.prog 60 = true := by kernel_rfl

noncomputable def whittleref15_tipLess (x0 : Tip) (x1 : Tip) : Option (Bool) :=
 iteO (decide (x0.state < x1.state)) (some true) (iteO (decide (x0.state = x1.state)) (some (decide (Lib.compareBytes x0.out x1.out < 0))) (some false))
theorem whittleref15_tipLess_con {σ : Store} {x0 : Tip} {x1 : Tip}  {r : Bool} (hh : whittleref15_tipLess x0 x1 = some r) :
  Con Tryz.prog 59 #[.agg #[.int .i64 x0.state, .string (bs x0.out)], .agg #[.int .i64 x1.state, .string (bs x1.out)]] σ [] (PureP (.bool r) σ) := by
 dsimp only [whittleref15_tipLess] at hh
 refine Con.mk (n := 24) Tryz.func59 z z z (fun w0 => ?_)
 refine TC.a (TL.op z (boxA z z z z (fun b101 => ?_)))
 refine TL.op z (boxA z z z z (fun b103 => ?_))
 refine TL.j z z (TL.en (TC.a (TL.w z (fieldLoc z fo43_0 z) (TL.w z (loadLoc z ag3 z (i := 1) z z) (TL.w z (fieldLoc z fo43_0 z) (TL.w z (loadLoc z ag3 z (i := 0) z z) (TL.w z (OpVal.lss z z z) (TL.j z z (TL.split 10 z (fun h105 => ?_) (fun h105 => ?_))))))))))
 ·replace hh := iteO_t h105 hh
  replace h105 := of_decide_eq_true h105
  refine TL.f z (TL.f z (TL.f z (TL.f z (TL.f z (TL.f z (TL.f z (TL.f z (TL.f z (TL.f z (TL.f z (TL.f z (TL.w z (pickTB z z z) (TL.j z z (TL.en (TC.rt 0 ?_)))))))))))))))
  obtain rfl := so hh
  exact rq [4] ⟨z, z, z⟩
 ·replace hh := iteO_f h105 hh
  replace h105 := of_decide_eq_false h105
  refine TL.g z (fieldLoc z fo43_0 z) (TL.g z (loadLoc z ag3 z (i := 1) z z) (TL.g z (fieldLoc z fo43_0 z) (TL.g z (loadLoc z ag3 z (i := 0) z z) (TL.g z (OpVal.eql z z z) (TL.g z (moveB (.inl z) z) (TL.split 16 z (fun h106 => ?_) (fun h106 => ?_)))))))
  ·replace hh := iteO_t h106 hh
   replace h106 := of_decide_eq_true h106
   refine TL.g z (fieldLoc z fo43_1 z) (TL.g z (loadLoc z ag9 z (i := 1) z z) (TL.g z (fieldLoc z fo43_1 z) (TL.g z (loadLoc z ag9 z (i := 0) z z) (TL.g z (lssBs z z z) (TL.g z (pickTB z z z) (TL.w z (pickFB z z z) (TL.j z z (TL.en (TC.rt 0 ?_)))))))))
   obtain rfl := so hh
   exact rq [4] ⟨z, z, z⟩
  ·replace hh := iteO_f h106 hh
   replace h106 := of_decide_eq_false h106
   refine TL.f z (TL.f z (TL.f z (TL.f z (TL.f z (TL.g z (pickFB z z z) (TL.w z (pickFB z z z) (TL.j z z (TL.en (TC.rt 0 ?_)))))))))
   obtain rfl := so hh
   exact rq [4] ⟨z, z, z⟩

noncomputable def whittleref15_arcLess_b1 (x0 : Arc) (x1 : Arc) (k109 : Nat) : Option ((Nat) ⊕ (Bool)) :=
 iteO (decide (((k109 : Nat) : Int) < 4)) (grd (k109 < 4) (grd (k109 < 4) (iteO (decide ((BSet.word x0.set k109) ≠ (BSet.word x1.set k109))) (grd (k109 < 4) (grd (k109 < 4) (fin (some (decide ((BSet.word x0.set k109) < (BSet.word x1.set k109))))))) (nxt (k109 + 1))))) (fin (iteO (decide (x0.out ≠ x1.out)) (some (decide (Lib.compareBytes x0.out x1.out < 0))) (iteO (!x0.copy) (some x1.copy) (some false))))
noncomputable def whittleref15_arcLess (x0 : Arc) (x1 : Arc) : Option (Bool) :=
 iteO (decide (x0.frm ≠ x1.frm)) (some (decide (x0.frm < x1.frm))) (iteO (decide (x0.to ≠ x1.to)) (some (decide (x0.to < x1.to))) (iter (fun q : Nat => whittleref15_arcLess_b1 x0 x1 q) 0))
theorem whittleref15_arcLess_con {σ : Store} {x0 : Arc} {x1 : Arc}  {r : Bool} (hh : whittleref15_arcLess x0 x1 = some r) :
  Con Tryz.prog 60 #[.agg #[.int .i64 x0.frm, .int .i64 x0.to, .int .u64 ((x0.set.a : Nat) : Int), .int .u64 ((x0.set.b : Nat) : Int), .int .u64 ((x0.set.c : Nat) : Int), .int .u64 ((x0.set.d : Nat) : Int), .string (bs x0.out), .bool x0.copy], .agg #[.int .i64 x1.frm, .int .i64 x1.to, .int .u64 ((x1.set.a : Nat) : Int), .int .u64 ((x1.set.b : Nat) : Int), .int .u64 ((x1.set.c : Nat) : Int), .int .u64 ((x1.set.d : Nat) : Int), .string (bs x1.out), .bool x1.copy]] σ [] (PureP (.bool r) σ) := by
 dsimp only [whittleref15_arcLess] at hh
 refine Con.mk (n := 65) Tryz.func60 z z z (fun w0 => ?_)
 refine TC.a (TL.op z (boxA z z z z (fun b101 => ?_)))
 refine TL.op z (boxA z z z z (fun b103 => ?_))
 refine TL.j z z (TL.en (TC.seq (TC.a (TL.w z (fieldLoc z fo38_0 z) (TL.w z (loadLoc z ag3 z (i := 1) z z) (TL.w z (fieldLoc z fo38_0 z) (TL.w z (loadLoc z ag3 z (i := 0) z z) (TL.w z (OpVal.neq z z z) (TL.en (TC.cD z hh (fun h105 hh => ?_) (fun h105 hh => ?_)))))))))))
 ·refine TC.a (TL.w z (fieldLoc z fo38_0 z) (TL.w z (loadLoc z ag3 z (i := 1) z z) (TL.w z (fieldLoc z fo38_0 z) (TL.w z (loadLoc z ag3 z (i := 0) z z) (TL.w z (OpVal.lss z z z) (TL.j z z (TL.en (TC.rt 0 (S.r ?_)))))))))
  obtain rfl := so hh
  exact rq [4] ⟨z, z, z⟩
 ·refine TC.skip (S.n (TC.seq (TC.a (TL.w z (fieldLoc z fo38_1 z) (TL.w z (loadLoc z ag3 z (i := 1) z z) (TL.w z (fieldLoc z fo38_1 z) (TL.w z (loadLoc z ag3 z (i := 0) z z) (TL.w z (OpVal.neq z z z) (TL.en (TC.cD z hh (fun h106 hh => ?_) (fun h106 hh => ?_)))))))))))
  ·refine TC.a (TL.w z (fieldLoc z fo38_1 z) (TL.w z (loadLoc z ag3 z (i := 1) z z) (TL.w z (fieldLoc z fo38_1 z) (TL.w z (loadLoc z ag3 z (i := 0) z z) (TL.w z (OpVal.lss z z z) (TL.j z z (TL.en (TC.rt 0 (S.r ?_)))))))))
   obtain rfl := so hh
   exact rq [4] ⟨z, z, z⟩
  ·refine TC.skip (S.n (TC.seq (TC.a (TL.i z z (TL.en (TC.block (TC.loopG (α := (Nat) × (Unit)) (rgs [(4, 2), (26, 22)]) (fun g => [(5, .int .i64 ((g.1 : Nat) : Int))]) (fun g => [Res.cells b101 #[.int .i64 x0.frm, .int .i64 x0.to, .int .u64 ((x0.set.a : Nat) : Int), .int .u64 ((x0.set.b : Nat) : Int), .int .u64 ((x0.set.c : Nat) : Int), .int .u64 ((x0.set.d : Nat) : Int), .string (bs x0.out), .bool x0.copy] 38, Res.cells b103 #[.int .i64 x1.frm, .int .i64 x1.to, .int .u64 ((x1.set.a : Nat) : Int), .int .u64 ((x1.set.b : Nat) : Int), .int .u64 ((x1.set.c : Nat) : Int), .int .u64 ((x1.set.d : Nat) : Int), .string (bs x1.out), .bool x1.copy] 38]) (fun g => σ) (fun g => iter (fun q : Nat => whittleref15_arcLess_b1 x0 x1 q) g.1 = some r) (fun g => rounds (fun q : Nat => whittleref15_arcLess_b1 x0 x1 q) g.1) (0, ()) (Sub.f [1] 2) z (by repeat (first | exact trivial | refine ⟨z, ?_⟩)) hh (fun g1 j1 hg1 => ?_))))))))
   obtain ⟨k109, _⟩ := g1
   have hh := hg1; clear hg1
   try dsimp only
   obtain ⟨z1, hh, hR1⟩ := iter_e hh
   dsimp only [whittleref15_arcLess_b1] at hh
   refine TC.seq (TC.a (TL.i z z (TL.w z (OpVal.lss z z z) (TL.en (TC.cD z hh (fun h110 hh => ?_) (fun h110 hh => ?_))))))
   ·refine TC.skip (S.n (TC.seq (TC.block (TC.seq ?_))))
    have u31 := grd_c hh
    replace hh := grd_t hh
    have u35 := grd_c hh
    replace hh := grd_t hh
    refine TC.draw [] (by kernel_rfl) (TA.a 0 z (moveI (.inl z) z) z (TA.a 1 z (fieldLoc z fo38_2 z) z (TA.b 2 z (indexArrN z underlying36 sz34 z z (by omega)) z (TA.b 3 z (loadWordAt x0.set z ag34 z (j := 0) z (by omega) z) z (TA.a 4 z (moveI (.inl z) z) z (TA.a 5 z (fieldLoc z fo38_2 z) z (TA.b 6 z (indexArrN z underlying36 sz34 z z (by omega)) z (TA.b 7 z (loadWordAt x1.set z ag34 z (j := 1) z (by omega) z) z (TA.a 8 z (neqU z z z) z (TA.dn (S.n (TC.cD z hh (fun h111 hh => ?_) (fun h111 hh => ?_)))))))))))))
    ·refine TC.seq ?_
     have u40 := grd_c hh
     replace hh := grd_t hh
     have u44 := grd_c hh
     replace hh := grd_t hh
     refine TC.draw [] (by kernel_rfl) (TA.a 0 z (moveI (.inl z) z) z (TA.a 1 z (fieldLoc z fo38_2 z) z (TA.b 2 z (indexArrN z underlying36 sz34 z z (by omega)) z (TA.b 3 z (loadWordAt x0.set z ag34 z (j := 0) z (by omega) z) z (TA.a 4 z (moveI (.inl z) z) z (TA.a 5 z (fieldLoc z fo38_2 z) z (TA.b 6 z (indexArrN z underlying36 sz34 z z (by omega)) z (TA.b 7 z (loadWordAt x1.set z ag34 z (j := 1) z (by omega) z) z (TA.a 8 z (lssU z z z) z (TA.a 9 z (moveB (.inr z) z) z (TA.dn (S.n (TC.rt 0 (B.r (S.r ?_)))))))))))))))
     refine S.r ?_
     replace hh := fin_x hR1 hh
     refine B.r (S.r ?_)
     obtain rfl := so hh
     exact rq [4] ⟨z, z, z⟩
    ·refine TC.skip (B.n (S.n (TC.region (TL.i z z (TL.w z (OpVal.succ z z z (by omega)) (TL.i z z (TL.en ?_)))))))
     obtain ⟨hh, hlt112⟩ := nxt_x hR1 hh
     exact lf ((k109 + 1), ()) hlt112 hh (Sub.f [1, 1] 2)
   ·refine TC.exit (S.x (S.x ?_))
    replace hh := fin_x hR1 hh
    refine TC.exitHere (S.n (TC.seq (TC.a (TL.w z (fieldLoc z fo38_3 z) (TL.w z (loadLoc z ag9 z (i := 0) z z) (TL.w z (fieldLoc z fo38_3 z) (TL.w z (loadLoc z ag9 z (i := 1) z z) (TL.w z (neqBs z z z) (TL.en (TC.cD z hh (fun h113 hh => ?_) (fun h113 hh => ?_)))))))))))
    ·refine TC.a (TL.w z (fieldLoc z fo38_3 z) (TL.w z (loadLoc z ag9 z (i := 0) z z) (TL.w z (fieldLoc z fo38_3 z) (TL.w z (loadLoc z ag9 z (i := 1) z z) (TL.w z (lssBs z z z) (TL.j z z (TL.en (TC.rt 0 (S.r ?_)))))))))
     obtain rfl := so hh
     exact rq [4] ⟨z, z, z⟩
    ·refine TC.skip (S.n (TC.a (TL.w z (fieldLoc z fo38_4 z) (TL.w z (loadLoc z ag4 z (i := 0) z z) (TL.w z (OpVal.not z z) (TL.j z z (TL.split 61 z (fun h114 => ?_) (fun h114 => ?_))))))))
     ·replace hh := iteO_t h114 hh
      refine TL.g z (fieldLoc z fo38_4 z) (TL.g z (loadLoc z ag4 z (i := 1) z z) (TL.w z (pickTB z z z) (TL.j z z (TL.en (TC.rt 0 ?_)))))
      obtain rfl := so hh
      exact rq [4] ⟨z, z, z⟩
     ·replace hh := iteO_f h114 hh
      refine TL.f z (TL.f z (TL.w z (pickFB z z z) (TL.j z z (TL.en (TC.rt 0 ?_)))))
      obtain rfl := so hh
      exact rq [4] ⟨z, z, z⟩

noncomputable def whittleref15_SortTips_j1 (k115 : Nat) (l119 : List Tip) : Option (((List Tip) × Nat) ⊕ ((List Tip))) :=
 nxt (l119, (k115 + 1))
noncomputable def whittleref15_SortTips_j3 (k123 : Nat) (l111 : List Tip) (x0 : List Tip) (k115 : Nat) : Option (((List Tip) × Nat) ⊕ ((List Tip))) :=
 grd (0 ≤ k123 ∧ k123 ≤ l111.length) (grd ((([] : List Tip).length + (l111.take k123).length) * 24 ≤ 140737488355328) (grd (((([] : List Tip) ++ (l111.take k123)).length + [(nth x0 k115 Tip.zero)].length) * 24 ≤ 140737488355328) (grd (k123 ≤ l111.length ∧ l111.length ≤ l111.length) (grd ((((([] : List Tip) ++ (l111.take k123)) ++ [(nth x0 k115 Tip.zero)]).length + (l111.drop k123).length) * 24 ≤ 140737488355328) (whittleref15_SortTips_j1 k115 (((([] : List Tip) ++ (l111.take k123)) ++ [(nth x0 k115 Tip.zero)]) ++ (l111.drop k123)))))))
noncomputable def whittleref15_SortTips_j2 (l111 : List Tip) (x0 : List Tip) (k115 : Nat) (k123 : Nat) : Option (((List Tip) × Nat) ⊕ ((List Tip))) :=
 iteO (decide (((k123 : Nat) : Int) < ((l111.length : Nat) : Int))) (iteO (decide ((nth l111 k123 Tip.zero) = (nth x0 k115 Tip.zero))) (whittleref15_SortTips_j1 k115 l111) (whittleref15_SortTips_j3 k123 l111 x0 k115)) (whittleref15_SortTips_j3 k123 l111 x0 k115)
noncomputable def whittleref15_SortTips_b2 (l111 : List Tip) (x0 : List Tip) (k115 : Nat) (k126 : Nat) : Option ((Nat) ⊕ (((List Tip) × Nat) ⊕ ((List Tip)))) :=
 iteO (decide (((k126 : Nat) : Int) < ((l111.length : Nat) : Int))) (bnd (whittleref15_tipLess (nth l111 k126 Tip.zero) (nth x0 k115 Tip.zero)) (fun v22 => iteO v22 (nxt (k126 + 1)) (fin (whittleref15_SortTips_j2 l111 x0 k115 k126)))) (fin (whittleref15_SortTips_j2 l111 x0 k115 k126))
noncomputable def whittleref15_SortTips_b1 (x0 : List Tip) (l111 : List Tip) (k115 : Nat) : Option (((List Tip) × Nat) ⊕ ((List Tip))) :=
 iteO (decide (((k115 : Nat) : Int) < ((x0.length : Nat) : Int))) (iter (fun q : Nat => whittleref15_SortTips_b2 l111 x0 k115 q) 0) (fin (some l111))
noncomputable def whittleref15_SortTips (x0 : List Tip) : Option ((List Tip)) :=
 iter (fun q : (List Tip) × Nat => whittleref15_SortTips_b1 x0 q.1 q.2) (([] : List Tip), 0)
def whittleref15_SortTips_P (σ : Store) (r : (List Tip)) : Value → Store → List Res → Prop := fun v σ' H' =>
 ∃ (a1 : Option Addr), ∃ (c1 : Nat),  v = .slice a1 r.length c1 ∧ RS σ' 2 encTip (.slice a1 r.length c1) r ∧ H' = []
theorem whittleref15_SortTips_con {σ : Store} {x0 : List Tip} {a0_0 : Option Addr} {c0_0 : Nat} (f0_0 : RS σ 2 encTip (.slice a0_0 x0.length c0_0) x0) {r : (List Tip)} (hh : whittleref15_SortTips x0 = some r) :
  Con Tryz.prog 41 #[.slice a0_0 x0.length c0_0] σ [] (whittleref15_SortTips_P σ r) := by
 dsimp only [whittleref15_SortTips] at hh
 have f0_0b := f0_0.rv.big
 refine Con.mk (n := 64) Tryz.func41 z z z (fun w0 => ?_)
 refine TC.a (TL.s z z (TL.en (TC.a (TL.s z z (TL.en (TC.seq (TC.a (TL.i z z (TL.en (TC.block (TC.loopG (α := ((List Tip) × Nat) × ((Option Addr) × Nat × Store)) (rgs [(3, 60)]) (fun g => [(3, .slice g.2.1 g.1.1.length g.2.2.1), (4, .int .i64 ((g.1.2 : Nat) : Int))]) (fun g => []) (fun g => g.2.2.2) (fun g => iter (fun q : (List Tip) × Nat => whittleref15_SortTips_b1 x0 q.1 q.2) g.1 = some r ∧ RS g.2.2.2 2 encTip (.slice g.2.1 g.1.1.length g.2.2.1) g.1.1 ∧ Store.le σ g.2.2.2) (fun g => rounds (fun q : (List Tip) × Nat => whittleref15_SortTips_b1 x0 q.1 q.2) g.1) ((([] : List Tip), 0), (none, 0, σ)) (Sub.pre 0 z) z (by repeat (first | exact trivial | refine ⟨z, ?_⟩)) ⟨hh, (RS.nilF _ encTip encTip_len), (Store.le.refl _)⟩ (fun g1 j1 hg1 => ?_))))))))))))
 obtain ⟨⟨l111, k115⟩, ⟨a112, c113, τ116⟩⟩ := g1
 obtain ⟨hh, hr114, hle117⟩ := hg1
 try dsimp only at hr114
 dsimp only at hle117
 replace f0_0 := f0_0.mono hle117
 try dsimp only
 obtain ⟨z1, hh, hR1⟩ := iter_e hh
 dsimp only [whittleref15_SortTips_b1] at hh
 have hr114b := hr114.rv.big
 refine TC.seq (TC.a (TL.i z z (TL.s z z (TL.w z (lenC z underlying22 z) (TL.w z (OpVal.lss z z z) (TL.en (TC.cD z hh (fun h118 hh => ?_) (fun h118 hh => ?_))))))))
 ·refine TC.skip (S.n (TC.cutG (α := ((List Tip)) × ((Option Addr) × Nat × Store)) (rgs [(3, 1), (5, 2), (13, 50)]) (fun g => [(3, .slice g.2.1 g.1.length g.2.2.1)]) (fun g => []) (fun g => g.2.2.2) (fun g => whittleref15_SortTips_j1 k115 g.1 = some z1 ∧ RS g.2.2.2 2 encTip (.slice g.2.1 g.1.length g.2.2.1) g.1 ∧ Store.le τ116 g.2.2.2) ?_ (fun g j hg => ?_)))
  ·skip
   refine TC.block (TC.a (TL.i z z (TL.en (TC.cutG (α := (Nat) × (Unit)) (rgs [(5, 1), (13, 17)]) (fun g => [(5, .int .i64 ((g.1 : Nat) : Int))]) (fun g => []) (fun g => τ116) (fun g => whittleref15_SortTips_j2 l111 x0 k115 g.1 = some z1) ?_ (fun g j hg => ?_)))))
   ·skip
    refine TC.block (TC.loopG (α := (Nat) × (Unit)) (rgs [(5, 1), (13, 17)]) (fun g => [(5, .int .i64 ((g.1 : Nat) : Int))]) (fun g => []) (fun g => τ116) (fun g => iter (fun q : Nat => whittleref15_SortTips_b2 l111 x0 k115 q) g.1 = some z1) (fun g => rounds (fun q : Nat => whittleref15_SortTips_b2 l111 x0 k115 q) g.1) (0, ()) (Sub.pre 0 z) z (by repeat (first | exact trivial | refine ⟨z, ?_⟩)) hh (fun g2 j2 hg2 => ?_))
    obtain ⟨k126, _⟩ := g2
    have hh := hg2; clear hg2
    try dsimp only
    obtain ⟨z2, hh, hR2⟩ := iter_e hh
    dsimp only [whittleref15_SortTips_b2] at hh
    refine TC.seq (TC.seq (TC.draw [] (by kernel_rfl) (TA.a 0 z (moveI (.inl z) z) z (TA.a 1 z (moveSl (.inl z) z) z (TA.b 2 z (lenC z underlying22 z) z (TA.a 3 z (OpVal.lss z z z) z (TA.a 4 z (moveB (.inl z) z) z (TA.split 17 z (fun h127 => ?_) (fun h127 => ?_)))))))))
    ·replace hh := iteO_t h127 hh
     replace h127 := of_decide_eq_true h127
     refine TA.on 5 z z z z (moveSl (.inl z) z) z (TA.on 6 z z z z (moveI (.inl z) z) z (TA.on 7 z z z z (indexN z underlying22 sz43 z z hr114.rv.sl (by omega)) z (TA.on 8 z z z z (loadSA Tip.zero z ag43 sz43 z hr114 (by omega) (by omega)) z (TA.on 9 z z z z (moveSl (.inl z) z) z (TA.on 10 z z z z (moveI (.inl z) z) z (TA.on 11 z z z z (indexN z underlying22 sz43 z z f0_0.rv.sl (by omega)) z (TA.on 12 z z z z (loadSA Tip.zero z ag43 sz43 z f0_0 (by omega) (by omega)) z ?_)))))))
     obtain ⟨v22, u22, hh⟩ := bnd_e hh
     refine TA.actOn 13 (by kernel_rfl) z z z z z z (callP (whittleref15_tipLess_con u22) z z pf59 z z z (k0 ?_))
     refine TA.a 14 z (pickTB z z z) z (TA.dn (S.n (TC.cB z hh (fun h128 hh => ?_) (fun h128 hh => ?_))))
     ·refine TC.skip (S.n (TC.block (TC.region (TL.i z z (TL.w z (OpVal.succ z z z (by omega)) (TL.i z z (TL.nil (B.n (S.n ?_)))))))))
      obtain ⟨hh, hlt129⟩ := nxt_x hR2 hh
      exact lf ((k126 + 1), ()) hlt129 hh (Sub.pre 0 z)
     ·refine TC.exit (S.x (S.x ?_))
      replace hh := fin_x hR2 hh
      exact TC.exitHere (S.n (cf (k126, ()) hh (Sub.pre 0 z)))
    ·replace hh := iteO_f h127 hh
     replace h127 := of_decide_eq_false h127
     refine TA.off 5 z z z z z z (TA.off 6 z z z z z z (TA.off 7 z z z z z z (TA.off 8 z z z z z z (TA.off 9 z z z z z z (TA.off 10 z z z z z z (TA.off 11 z z z z z z (TA.off 12 z z z z z z (TA.off 13 z z z z z z (TA.a 14 z (pickFB z z z) z (TA.dn (S.n (TC.f z (TC.exit (S.x (S.x ?_)))))))))))))))
     replace hh := fin_x hR2 hh
     exact TC.exitHere (S.n (cf (k126, ()) hh (Sub.pre 0 z)))
   ·skip
    obtain ⟨k123, _⟩ := g
    have hh := hg; clear hg
    try dsimp only
    dsimp only [whittleref15_SortTips_j2] at hh
    refine TC.cutG (α := (Unit) × (Unit)) (rgs [(30, 15)]) (fun g => []) (fun g => []) (fun g => τ116) (fun g => whittleref15_SortTips_j3 k123 l111 x0 k115 = some z1) ?_ (fun g j hg => ?_)
    ·skip
     refine TC.seq (TC.draw [] (by kernel_rfl) (TA.a 0 z (moveI (.inl z) z) z (TA.a 1 z (moveSl (.inl z) z) z (TA.b 2 z (lenC z underlying22 z) z (TA.a 3 z (OpVal.lss z z z) z (TA.a 4 z (moveB (.inl z) z) z (TA.split 34 z (fun h130 => ?_) (fun h130 => ?_))))))))
     ·replace hh := iteO_t h130 hh
      replace h130 := of_decide_eq_true h130
      refine TA.on 5 z z z z (moveSl (.inl z) z) z (TA.on 6 z z z z (moveI (.inl z) z) z (TA.on 7 z z z z (indexN z underlying22 sz43 z z hr114.rv.sl (by omega)) z (TA.on 8 z z z z (loadSA Tip.zero z ag43 sz43 z hr114 (by omega) (by omega)) z (TA.on 9 z z z z (moveSl (.inl z) z) z (TA.on 10 z z z z (moveI (.inl z) z) z (TA.on 11 z z z z (indexN z underlying22 sz43 z z f0_0.rv.sl (by omega)) z (TA.on 12 z z z z (loadSA Tip.zero z ag43 sz43 z f0_0 (by omega) (by omega)) z (TA.on 13 z z z z (eqlSt (p := (nth l111 k123 Tip.zero) = (nth x0 k115 Tip.zero)) z z z eg43 (es43 (nth l111 k123 Tip.zero) (nth x0 k115 Tip.zero)) z) z (TA.a 14 z (pickTB z z z) z (TA.dn (S.n (TC.cD z hh (fun h131 hh => ?_) (fun h131 hh => ?_)))))))))))))
      ·exact TC.exit (S.x (TC.exitHere (S.n (cf (l111, (a112, c113, τ116)) ⟨hh, hr114, (Store.le.refl _)⟩ (Sub.pre 0 z)))))
      ·exact TC.skip (S.n (cf ((), ()) hh (Sub.pre 0 z)))
     ·replace hh := iteO_f h130 hh
      replace h130 := of_decide_eq_false h130
      exact TA.off 5 z z z z z z (TA.off 6 z z z z z z (TA.off 7 z z z z z z (TA.off 8 z z z z z z (TA.off 9 z z z z z z (TA.off 10 z z z z z z (TA.off 11 z z z z z z (TA.off 12 z z z z z z (TA.off 13 z z z z z z (TA.a 14 z (pickFB z z z) z (TA.dn (S.n (TC.f z (TC.skip (S.n (cf ((), ()) hh (Sub.pre 0 z))))))))))))))))
    ·skip
     obtain ⟨_, _⟩ := g
     have hh := hg; clear hg
     try dsimp only
     dsimp only [whittleref15_SortTips_j3] at hh
     refine TC.a (TL.s z z (TL.en (TC.a (TL.s z z (TL.s z z (TL.i z z ?_))))))
     have u46 := grd_c hh
     replace hh := grd_t hh
     obtain ⟨a132, c132, hr132, hv132⟩ := hr114.subH k123 (by omega)
     have hr132b := hr132.rv.big
     refine TL.w z (hv132 z underlying22 sz43 z z) (TL.nilS 43 2 encTip ?_)
     have u47 := grd_c hh
     replace hh := grd_t hh
     refine TL.op z (appendS z z underlying22 sz43 by43 ze43 z z (by decide) z z z (.inl hr132) (by simpa using u47) (by decide) (fun a134 c135 => ?_))
     refine TL.s z z (TL.en (TC.a (TL.s z z (TL.s z z (TL.i z z (TL.w z (indexN z underlying22 sz43 z z f0_0.rv.sl (by omega)) (TL.w z (loadSA Tip.zero z ag43 sz43 z f0_0 (by omega) (by omega)) (TL.op z (OpOk.lit (enc := encTip) [(nth x0 k115 Tip.zero)] z underlying22 sz43 ze43 z z z encTip_len (by decide) (by decide) Tip.zero z (by decide) z (by decide) encTip_one (fun a136 c137 => ?_))))))))))
     refine TL.front 1 z z ?_
     have u55 := grd_c hh
     replace hh := grd_t hh
     refine TL.op z (appendS z z underlying22 sz43 by43 ze43 z z (by decide) z z z (.inr ⟨_, 0, z⟩) (by simpa using u55) (by decide) (fun a139 c140 => ?_))
     refine TL.s z z (TL.en (TC.a (TL.s z z (TL.s z z (TL.i z z ?_)))))
     have u60 := grd_c hh
     replace hh := grd_t hh
     obtain ⟨a141, c141, hr141, hv141⟩ := hr114.subL k123 (by omega)
     have hr141b := hr141.rv.big
     refine TL.w z (hv141 z underlying22 sz43 z z) ?_
     have u61 := grd_c hh
     replace hh := grd_t hh
     refine TL.op z (appendS z z underlying22 sz43 by43 ze43 z z (by decide) z z z (.inl hr141) (by simpa using u61) (by decide) (fun a142 c143 => ?_))
     refine TL.s z z (TL.en (TC.region (TL.s z z (TL.s z z (TL.sealS encTip_len (fun τ146 hle145 hr144 => ?_))))))
     replace hr114 := hr114.mono hle145
     have hr144b := hr144.rv.big
     exact TL.nil (B.n (S.n (cf ((((([] : List Tip) ++ (l111.take k123)) ++ [(nth x0 k115 Tip.zero)]) ++ (l111.drop k123)), (a142, c143, τ146)) ⟨hh, hr144, hle145⟩ (Sub.pre 0 z))))
  ·skip
   obtain ⟨l119, ⟨a120, c121, τ147⟩⟩ := g
   obtain ⟨hh, hr122, hle148⟩ := hg
   try dsimp only at hr122
   dsimp only at hle148
   replace hr114 := hr114.mono hle148
   try dsimp only
   dsimp only [whittleref15_SortTips_j1] at hh
   have hr122b := hr122.rv.big
   refine TC.region (TL.i z z (TL.w z (OpVal.succ z z z (by omega)) (TL.i z z (TL.en ?_))))
   obtain ⟨hh, hlt149⟩ := nxt_x hR1 hh
   exact lf ((l119, (k115 + 1)), (a120, c121, τ147)) hlt149 ⟨hh, hr122, (hle117.trans hle148)⟩ (Sub.pre 0 z)
 ·refine TC.exit (S.x (S.x ?_))
  replace hh := fin_x hR1 hh
  refine TC.exitHere (S.n (TC.a (TL.s z z (TL.s z z (TL.en (TC.ret ?_))))))
  obtain rfl := so hh
  exact rq [2] ⟨a112, c113, z, hr114, z⟩

noncomputable def whittleref15_SortArcs_j1 (k115 : Nat) (l119 : List Arc) : Option (((List Arc) × Nat) ⊕ ((List Arc))) :=
 nxt (l119, (k115 + 1))
noncomputable def whittleref15_SortArcs_j3 (k123 : Nat) (l111 : List Arc) (x0 : List Arc) (k115 : Nat) : Option (((List Arc) × Nat) ⊕ ((List Arc))) :=
 grd (0 ≤ k123 ∧ k123 ≤ l111.length) (grd ((([] : List Arc).length + (l111.take k123).length) * 72 ≤ 140737488355328) (grd (((([] : List Arc) ++ (l111.take k123)).length + [(nth x0 k115 Arc.zero)].length) * 72 ≤ 140737488355328) (grd (k123 ≤ l111.length ∧ l111.length ≤ l111.length) (grd ((((([] : List Arc) ++ (l111.take k123)) ++ [(nth x0 k115 Arc.zero)]).length + (l111.drop k123).length) * 72 ≤ 140737488355328) (whittleref15_SortArcs_j1 k115 (((([] : List Arc) ++ (l111.take k123)) ++ [(nth x0 k115 Arc.zero)]) ++ (l111.drop k123)))))))
noncomputable def whittleref15_SortArcs_j2 (l111 : List Arc) (x0 : List Arc) (k115 : Nat) (k123 : Nat) : Option (((List Arc) × Nat) ⊕ ((List Arc))) :=
 iteO (decide (((k123 : Nat) : Int) < ((l111.length : Nat) : Int))) (iteO (decide ((nth l111 k123 Arc.zero) = (nth x0 k115 Arc.zero))) (whittleref15_SortArcs_j1 k115 l111) (whittleref15_SortArcs_j3 k123 l111 x0 k115)) (whittleref15_SortArcs_j3 k123 l111 x0 k115)
noncomputable def whittleref15_SortArcs_b2 (l111 : List Arc) (x0 : List Arc) (k115 : Nat) (k126 : Nat) : Option ((Nat) ⊕ (((List Arc) × Nat) ⊕ ((List Arc)))) :=
 iteO (decide (((k126 : Nat) : Int) < ((l111.length : Nat) : Int))) (bnd (whittleref15_arcLess (nth l111 k126 Arc.zero) (nth x0 k115 Arc.zero)) (fun v22 => iteO v22 (nxt (k126 + 1)) (fin (whittleref15_SortArcs_j2 l111 x0 k115 k126)))) (fin (whittleref15_SortArcs_j2 l111 x0 k115 k126))
noncomputable def whittleref15_SortArcs_b1 (x0 : List Arc) (l111 : List Arc) (k115 : Nat) : Option (((List Arc) × Nat) ⊕ ((List Arc))) :=
 iteO (decide (((k115 : Nat) : Int) < ((x0.length : Nat) : Int))) (iter (fun q : Nat => whittleref15_SortArcs_b2 l111 x0 k115 q) 0) (fin (some l111))
noncomputable def whittleref15_SortArcs (x0 : List Arc) : Option ((List Arc)) :=
 iter (fun q : (List Arc) × Nat => whittleref15_SortArcs_b1 x0 q.1 q.2) (([] : List Arc), 0)
def whittleref15_SortArcs_P (σ : Store) (r : (List Arc)) : Value → Store → List Res → Prop := fun v σ' H' =>
 ∃ (a1 : Option Addr), ∃ (c1 : Nat),  v = .slice a1 r.length c1 ∧ RS σ' 8 encArc (.slice a1 r.length c1) r ∧ H' = []
theorem whittleref15_SortArcs_con {σ : Store} {x0 : List Arc} {a0_0 : Option Addr} {c0_0 : Nat} (f0_0 : RS σ 8 encArc (.slice a0_0 x0.length c0_0) x0) {r : (List Arc)} (hh : whittleref15_SortArcs x0 = some r) :
  Con Tryz.prog 42 #[.slice a0_0 x0.length c0_0] σ [] (whittleref15_SortArcs_P σ r) := by
 dsimp only [whittleref15_SortArcs] at hh
 have f0_0b := f0_0.rv.big
 refine Con.mk (n := 64) Tryz.func42 z z z (fun w0 => ?_)
 refine TC.a (TL.s z z (TL.en (TC.a (TL.s z z (TL.en (TC.seq (TC.a (TL.i z z (TL.en (TC.block (TC.loopG (α := ((List Arc) × Nat) × ((Option Addr) × Nat × Store)) (rgs [(3, 60)]) (fun g => [(3, .slice g.2.1 g.1.1.length g.2.2.1), (4, .int .i64 ((g.1.2 : Nat) : Int))]) (fun g => []) (fun g => g.2.2.2) (fun g => iter (fun q : (List Arc) × Nat => whittleref15_SortArcs_b1 x0 q.1 q.2) g.1 = some r ∧ RS g.2.2.2 8 encArc (.slice g.2.1 g.1.1.length g.2.2.1) g.1.1 ∧ Store.le σ g.2.2.2) (fun g => rounds (fun q : (List Arc) × Nat => whittleref15_SortArcs_b1 x0 q.1 q.2) g.1) ((([] : List Arc), 0), (none, 0, σ)) (Sub.pre 0 z) z (by repeat (first | exact trivial | refine ⟨z, ?_⟩)) ⟨hh, (RS.nilF _ encArc encArc_len), (Store.le.refl _)⟩ (fun g1 j1 hg1 => ?_))))))))))))
 obtain ⟨⟨l111, k115⟩, ⟨a112, c113, τ116⟩⟩ := g1
 obtain ⟨hh, hr114, hle117⟩ := hg1
 try dsimp only at hr114
 dsimp only at hle117
 replace f0_0 := f0_0.mono hle117
 try dsimp only
 obtain ⟨z1, hh, hR1⟩ := iter_e hh
 dsimp only [whittleref15_SortArcs_b1] at hh
 have hr114b := hr114.rv.big
 refine TC.seq (TC.a (TL.i z z (TL.s z z (TL.w z (lenC z underlying23 z) (TL.w z (OpVal.lss z z z) (TL.en (TC.cD z hh (fun h118 hh => ?_) (fun h118 hh => ?_))))))))
 ·refine TC.skip (S.n (TC.cutG (α := ((List Arc)) × ((Option Addr) × Nat × Store)) (rgs [(3, 1), (5, 2), (13, 50)]) (fun g => [(3, .slice g.2.1 g.1.length g.2.2.1)]) (fun g => []) (fun g => g.2.2.2) (fun g => whittleref15_SortArcs_j1 k115 g.1 = some z1 ∧ RS g.2.2.2 8 encArc (.slice g.2.1 g.1.length g.2.2.1) g.1 ∧ Store.le τ116 g.2.2.2) ?_ (fun g j hg => ?_)))
  ·skip
   refine TC.block (TC.a (TL.i z z (TL.en (TC.cutG (α := (Nat) × (Unit)) (rgs [(5, 1), (13, 17)]) (fun g => [(5, .int .i64 ((g.1 : Nat) : Int))]) (fun g => []) (fun g => τ116) (fun g => whittleref15_SortArcs_j2 l111 x0 k115 g.1 = some z1) ?_ (fun g j hg => ?_)))))
   ·skip
    refine TC.block (TC.loopG (α := (Nat) × (Unit)) (rgs [(5, 1), (13, 17)]) (fun g => [(5, .int .i64 ((g.1 : Nat) : Int))]) (fun g => []) (fun g => τ116) (fun g => iter (fun q : Nat => whittleref15_SortArcs_b2 l111 x0 k115 q) g.1 = some z1) (fun g => rounds (fun q : Nat => whittleref15_SortArcs_b2 l111 x0 k115 q) g.1) (0, ()) (Sub.pre 0 z) z (by repeat (first | exact trivial | refine ⟨z, ?_⟩)) hh (fun g2 j2 hg2 => ?_))
    obtain ⟨k126, _⟩ := g2
    have hh := hg2; clear hg2
    try dsimp only
    obtain ⟨z2, hh, hR2⟩ := iter_e hh
    dsimp only [whittleref15_SortArcs_b2] at hh
    refine TC.seq (TC.seq (TC.draw [] (by kernel_rfl) (TA.a 0 z (moveI (.inl z) z) z (TA.a 1 z (moveSl (.inl z) z) z (TA.b 2 z (lenC z underlying23 z) z (TA.a 3 z (OpVal.lss z z z) z (TA.a 4 z (moveB (.inl z) z) z (TA.split 17 z (fun h127 => ?_) (fun h127 => ?_)))))))))
    ·replace hh := iteO_t h127 hh
     replace h127 := of_decide_eq_true h127
     refine TA.on 5 z z z z (moveSl (.inl z) z) z (TA.on 6 z z z z (moveI (.inl z) z) z (TA.on 7 z z z z (indexN z underlying23 sz38 z z hr114.rv.sl (by omega)) z (TA.on 8 z z z z (loadSA Arc.zero z ag38 sz38 z hr114 (by omega) (by omega)) z (TA.on 9 z z z z (moveSl (.inl z) z) z (TA.on 10 z z z z (moveI (.inl z) z) z (TA.on 11 z z z z (indexN z underlying23 sz38 z z f0_0.rv.sl (by omega)) z (TA.on 12 z z z z (loadSA Arc.zero z ag38 sz38 z f0_0 (by omega) (by omega)) z ?_)))))))
     obtain ⟨v22, u22, hh⟩ := bnd_e hh
     refine TA.actOn 13 (by kernel_rfl) z z z z z z (callP (whittleref15_arcLess_con u22) z z pf60 z z z (k0 ?_))
     refine TA.a 14 z (pickTB z z z) z (TA.dn (S.n (TC.cB z hh (fun h128 hh => ?_) (fun h128 hh => ?_))))
     ·refine TC.skip (S.n (TC.block (TC.region (TL.i z z (TL.w z (OpVal.succ z z z (by omega)) (TL.i z z (TL.nil (B.n (S.n ?_)))))))))
      obtain ⟨hh, hlt129⟩ := nxt_x hR2 hh
      exact lf ((k126 + 1), ()) hlt129 hh (Sub.pre 0 z)
     ·refine TC.exit (S.x (S.x ?_))
      replace hh := fin_x hR2 hh
      exact TC.exitHere (S.n (cf (k126, ()) hh (Sub.pre 0 z)))
    ·replace hh := iteO_f h127 hh
     replace h127 := of_decide_eq_false h127
     refine TA.off 5 z z z z z z (TA.off 6 z z z z z z (TA.off 7 z z z z z z (TA.off 8 z z z z z z (TA.off 9 z z z z z z (TA.off 10 z z z z z z (TA.off 11 z z z z z z (TA.off 12 z z z z z z (TA.off 13 z z z z z z (TA.a 14 z (pickFB z z z) z (TA.dn (S.n (TC.f z (TC.exit (S.x (S.x ?_)))))))))))))))
     replace hh := fin_x hR2 hh
     exact TC.exitHere (S.n (cf (k126, ()) hh (Sub.pre 0 z)))
   ·skip
    obtain ⟨k123, _⟩ := g
    have hh := hg; clear hg
    try dsimp only
    dsimp only [whittleref15_SortArcs_j2] at hh
    refine TC.cutG (α := (Unit) × (Unit)) (rgs [(30, 15)]) (fun g => []) (fun g => []) (fun g => τ116) (fun g => whittleref15_SortArcs_j3 k123 l111 x0 k115 = some z1) ?_ (fun g j hg => ?_)
    ·skip
     refine TC.seq (TC.draw [] (by kernel_rfl) (TA.a 0 z (moveI (.inl z) z) z (TA.a 1 z (moveSl (.inl z) z) z (TA.b 2 z (lenC z underlying23 z) z (TA.a 3 z (OpVal.lss z z z) z (TA.a 4 z (moveB (.inl z) z) z (TA.split 34 z (fun h130 => ?_) (fun h130 => ?_))))))))
     ·replace hh := iteO_t h130 hh
      replace h130 := of_decide_eq_true h130
      refine TA.on 5 z z z z (moveSl (.inl z) z) z (TA.on 6 z z z z (moveI (.inl z) z) z (TA.on 7 z z z z (indexN z underlying23 sz38 z z hr114.rv.sl (by omega)) z (TA.on 8 z z z z (loadSA Arc.zero z ag38 sz38 z hr114 (by omega) (by omega)) z (TA.on 9 z z z z (moveSl (.inl z) z) z (TA.on 10 z z z z (moveI (.inl z) z) z (TA.on 11 z z z z (indexN z underlying23 sz38 z z f0_0.rv.sl (by omega)) z (TA.on 12 z z z z (loadSA Arc.zero z ag38 sz38 z f0_0 (by omega) (by omega)) z (TA.on 13 z z z z (eqlSt (p := (nth l111 k123 Arc.zero) = (nth x0 k115 Arc.zero)) z z z eg38 (es38 (nth l111 k123 Arc.zero) (nth x0 k115 Arc.zero)) z) z (TA.a 14 z (pickTB z z z) z (TA.dn (S.n (TC.cD z hh (fun h131 hh => ?_) (fun h131 hh => ?_)))))))))))))
      ·exact TC.exit (S.x (TC.exitHere (S.n (cf (l111, (a112, c113, τ116)) ⟨hh, hr114, (Store.le.refl _)⟩ (Sub.pre 0 z)))))
      ·exact TC.skip (S.n (cf ((), ()) hh (Sub.pre 0 z)))
     ·replace hh := iteO_f h130 hh
      replace h130 := of_decide_eq_false h130
      exact TA.off 5 z z z z z z (TA.off 6 z z z z z z (TA.off 7 z z z z z z (TA.off 8 z z z z z z (TA.off 9 z z z z z z (TA.off 10 z z z z z z (TA.off 11 z z z z z z (TA.off 12 z z z z z z (TA.off 13 z z z z z z (TA.a 14 z (pickFB z z z) z (TA.dn (S.n (TC.f z (TC.skip (S.n (cf ((), ()) hh (Sub.pre 0 z))))))))))))))))
    ·skip
     obtain ⟨_, _⟩ := g
     have hh := hg; clear hg
     try dsimp only
     dsimp only [whittleref15_SortArcs_j3] at hh
     refine TC.a (TL.s z z (TL.en (TC.a (TL.s z z (TL.s z z (TL.i z z ?_))))))
     have u46 := grd_c hh
     replace hh := grd_t hh
     obtain ⟨a132, c132, hr132, hv132⟩ := hr114.subH k123 (by omega)
     have hr132b := hr132.rv.big
     refine TL.w z (hv132 z underlying23 sz38 z z) (TL.nilS 38 8 encArc ?_)
     have u47 := grd_c hh
     replace hh := grd_t hh
     refine TL.op z (appendS z z underlying23 sz38 by38 ze38 z z (by decide) z z z (.inl hr132) (by simpa using u47) (by decide) (fun a134 c135 => ?_))
     refine TL.s z z (TL.en (TC.a (TL.s z z (TL.s z z (TL.i z z (TL.w z (indexN z underlying23 sz38 z z f0_0.rv.sl (by omega)) (TL.w z (loadSA Arc.zero z ag38 sz38 z f0_0 (by omega) (by omega)) (TL.op z (OpOk.lit (enc := encArc) [(nth x0 k115 Arc.zero)] z underlying23 sz38 ze38 z z z encArc_len (by decide) (by decide) Arc.zero z (by decide) z (by decide) encArc_one (fun a136 c137 => ?_))))))))))
     refine TL.front 1 z z ?_
     have u55 := grd_c hh
     replace hh := grd_t hh
     refine TL.op z (appendS z z underlying23 sz38 by38 ze38 z z (by decide) z z z (.inr ⟨_, 0, z⟩) (by simpa using u55) (by decide) (fun a139 c140 => ?_))
     refine TL.s z z (TL.en (TC.a (TL.s z z (TL.s z z (TL.i z z ?_)))))
     have u60 := grd_c hh
     replace hh := grd_t hh
     obtain ⟨a141, c141, hr141, hv141⟩ := hr114.subL k123 (by omega)
     have hr141b := hr141.rv.big
     refine TL.w z (hv141 z underlying23 sz38 z z) ?_
     have u61 := grd_c hh
     replace hh := grd_t hh
     refine TL.op z (appendS z z underlying23 sz38 by38 ze38 z z (by decide) z z z (.inl hr141) (by simpa using u61) (by decide) (fun a142 c143 => ?_))
     refine TL.s z z (TL.en (TC.region (TL.s z z (TL.s z z (TL.sealS encArc_len (fun τ146 hle145 hr144 => ?_))))))
     replace hr114 := hr114.mono hle145
     have hr144b := hr144.rv.big
     exact TL.nil (B.n (S.n (cf ((((([] : List Arc) ++ (l111.take k123)) ++ [(nth x0 k115 Arc.zero)]) ++ (l111.drop k123)), (a142, c143, τ146)) ⟨hh, hr144, hle145⟩ (Sub.pre 0 z))))
  ·skip
   obtain ⟨l119, ⟨a120, c121, τ147⟩⟩ := g
   obtain ⟨hh, hr122, hle148⟩ := hg
   try dsimp only at hr122
   dsimp only at hle148
   replace hr114 := hr114.mono hle148
   try dsimp only
   dsimp only [whittleref15_SortArcs_j1] at hh
   have hr122b := hr122.rv.big
   refine TC.region (TL.i z z (TL.w z (OpVal.succ z z z (by omega)) (TL.i z z (TL.en ?_))))
   obtain ⟨hh, hlt149⟩ := nxt_x hR1 hh
   exact lf ((l119, (k115 + 1)), (a120, c121, τ147)) hlt149 ⟨hh, hr122, (hle117.trans hle148)⟩ (Sub.pre 0 z)
 ·refine TC.exit (S.x (S.x ?_))
  replace hh := fin_x hR1 hh
  refine TC.exitHere (S.n (TC.a (TL.s z z (TL.s z z (TL.en (TC.ret ?_))))))
  obtain rfl := so hh
  exact rq [2] ⟨a112, c113, z, hr114, z⟩

noncomputable def whittleref15_Sort (x0 : Fst) : Option (Fst × Int) :=
 bnd (whittleref15_Right x0) (fun v5 => iteO (!v5) (some ((⟨0, ([] : List Tip), ([] : List Tip), ([] : List Arc)⟩ : Fst), 1)) (bnd (whittleref15_SortTips x0.starts) (fun v14 => bnd (whittleref15_SortTips x0.ends) (fun v17 => bnd (whittleref15_SortArcs x0.arcs) (fun v20 => some ((⟨x0.states, v14, v17, v20⟩ : Fst), 0))))))
def whittleref15_Sort_P (σ : Store) (r : Fst × Int) : Value → Store → List Res → Prop := fun v σ' H' =>
 ∃ (a1 : Option Addr), ∃ (c1 : Nat), ∃ (a2 : Option Addr), ∃ (c2 : Nat), ∃ (a3 : Option Addr), ∃ (c3 : Nat),  v = .tuple #[.agg #[.int .i64 r.1.states, .slice a1 r.1.starts.length c1, .slice a2 r.1.ends.length c2, .slice a3 r.1.arcs.length c3], .int .i64 r.2] ∧ RS σ' 2 encTip (.slice a1 r.1.starts.length c1) r.1.starts ∧ RS σ' 2 encTip (.slice a2 r.1.ends.length c2) r.1.ends ∧ RS σ' 8 encArc (.slice a3 r.1.arcs.length c3) r.1.arcs ∧ H' = []
theorem whittleref15_Sort_con {σ : Store} {x0 : Fst} {a0_0 : Option Addr} {c0_0 : Nat} {a0_1 : Option Addr} {c0_1 : Nat} {a0_2 : Option Addr} {c0_2 : Nat} (f0_0 : RS σ 2 encTip (.slice a0_0 x0.starts.length c0_0) x0.starts) (f0_1 : RS σ 2 encTip (.slice a0_1 x0.ends.length c0_1) x0.ends) (f0_2 : RS σ 8 encArc (.slice a0_2 x0.arcs.length c0_2) x0.arcs) {r : Fst × Int} (hh : whittleref15_Sort x0 = some r) :
  Con Tryz.prog 28 #[.agg #[.int .i64 x0.states, .slice a0_0 x0.starts.length c0_0, .slice a0_1 x0.ends.length c0_1, .slice a0_2 x0.arcs.length c0_2]] σ [] (whittleref15_Sort_P σ r) := by
 dsimp only [whittleref15_Sort] at hh
 have f0_0b := f0_0.rv.big
 have f0_1b := f0_1.rv.big
 have f0_2b := f0_2.rv.big
 refine Con.mk (n := 20) Tryz.func28 z z z (fun w0 => ?_)
 refine TC.a (TL.op z (boxA z z z z (fun b101 => ?_)))
 refine TL.op z (OpOk.alloc z ze25 z z (fun b103 => ?_))
 refine TL.i z z (TL.en (TC.seq (TC.a (TL.w z (loadAll z ag25 sz25 z (i := 1) z z) ?_))))
 obtain ⟨v5, u5, hh⟩ := bnd_e hh
 refine TL.op z (callP (whittleref15_Right_con (x0 := x0) f0_0 f0_1 f0_2 u5) z z pf26 z z z ?_)
 refine TL.w z (OpVal.not z z) (TL.en (TC.cB z hh (fun h105 hh => ?_) (fun h105 hh => ?_)))
 ·refine TC.a (TL.w z (buildL z pl25 ze25 z) (TL.op z (storeAll z sz25 z z z z z z ?_)))
  refine TL.i z z (TL.en (TC.rt 1 (S.r ?_)))
  obtain rfl := so hh
  exact ro [] z (RVs.agg ag25 sz25 z (i := 0) z z (RVs.tmp z RVs.nil)) ⟨none, 0, none, 0, none, 0, z, (RS.nilF _ encTip encTip_len), (RS.nilF _ encTip encTip_len), (RS.nilF _ encArc encArc_len), z⟩
 ·refine TC.skip (S.n (TC.seq ?_))
  obtain ⟨v14, u14, hh⟩ := bnd_e hh
  obtain ⟨v17, u17, hh⟩ := bnd_e hh
  obtain ⟨v20, u20, hh⟩ := bnd_e hh
  refine TC.draw [12, 13] (by kernel_rfl) (TA.a 0 z (fieldLoc z fo25_0 z) z (TA.b 1 z (loadLoc z ag3 z (i := 1) z z) z (TA.a 2 z (fieldLoc z fo25_1 z) z (TA.b 3 z (loadLoc z ag22 z (i := 1) z z) z (TA.a 5 z (fieldLoc z fo25_2 z) z (TA.b 6 z (loadLoc z ag22 z (i := 1) z z) z (TA.a 8 z (fieldLoc z fo25_3 z) z (TA.b 9 z (loadLoc z ag23 z (i := 1) z z) z (TA.ac 4 z (OpOk.call (whittleref15_SortTips_con f0_0 u14) z z pf41 z z z z ?_))))))))))
  rintro _ τ109 _ hle109 ⟨a109_1, c109_1, rfl, hr109_0, rfl⟩
  replace f0_1 := f0_1.mono hle109
  replace f0_2 := f0_2.mono hle109
  have hr109_0b := hr109_0.rv.big
  refine kl 0 hle109 (TA.ac 7 z (OpOk.call (whittleref15_SortTips_con f0_1 u17) z z pf41 z z z z ?_))
  rintro _ τ110 _ hle110 ⟨a110_1, c110_1, rfl, hr110_0, rfl⟩
  replace f0_2 := f0_2.mono hle110
  replace hr109_0 := hr109_0.mono hle110
  have hr110_0b := hr110_0.rv.big
  refine kl 0 (hle109.trans hle110) (TA.ac 10 z (OpOk.call (whittleref15_SortArcs_con f0_2 u20) z z pf42 z z z z ?_))
  rintro _ τ111 _ hle111 ⟨a111_1, c111_1, rfl, hr111_0, rfl⟩
  replace hr109_0 := hr109_0.mono hle111
  replace hr110_0 := hr110_0.mono hle111
  have hr111_0b := hr111_0.rv.big
  refine kl 0 ((hle109.trans hle110).trans hle111) (TA.a 11 z (buildL z pl25 ze25 z) z (TA.last 12 (by kernel_rfl) z z z (storeAll z sz25 z z z z z z ?_)))
  refine TZ.v 13 (by kernel_rfl) z z z (moveI (.inr z) z) z z (TZ.done (by kernel_rfl) (S.n (TC.rt 1 ?_)))
  obtain rfl := so hh
  exact ro [] z (RVs.agg ag25 sz25 z (i := 0) z z (RVs.tmp z RVs.nil)) ⟨a109_1, c109_1, a110_1, c110_1, a111_1, c111_1, z, hr109_0, hr110_0, hr111_0, z⟩

end Go.Proofs.YtcfjjckencjjeaaGreat
end

/- RightP -/
section
/- The reference's Right and Check of a transducer. Plain lemmas, no condition. -/
set_option linter.unusedVariables false
set_option linter.unusedSimpArgs false
namespace Go.Proofs.YtcfjjckencjjeaaGreat
open Go Go.E
set_option maxRecDepth 100000

/-! ### Right, by the reference -/
theorem tips_all (l : List Tip) (n : Int) : whittleref15_tips l n = some (tipsB l n) := by
  unfold whittleref15_tips tipsB
  rw [iter_all (y := decide ((l.length : Int) ≤ 1024)) (no := false) l Tip.zero (tipB n)]
  · cases l.all (tipB n) <;> simp
  · intro k hk hp
    simp only [tipB, Bool.and_eq_true, decide_eq_true_eq] at hp
    simp only [whittleref15_tips_b1, lt_dec hk, iteO_true]
    rw [decide_eq_false (by omega), iteO_false, decide_eq_false (by omega), iteO_false, decide_eq_false (by omega), iteO_false]; rfl
  · intro k hk hp
    simp only [whittleref15_tips_b1, lt_dec hk, iteO_true]
    by_cases h1 : (nth l k Tip.zero).state < 0
    · rw [decide_eq_true h1, iteO_true]; rfl
    rw [decide_eq_false h1, iteO_false]
    by_cases h2 : n ≤ (nth l k Tip.zero).state
    · rw [decide_eq_true h2, iteO_true]; rfl
    rw [decide_eq_false h2, iteO_false]
    simp only [tipB, decide_eq_true (show 0 ≤ (nth l k Tip.zero).state by omega), decide_eq_true (show (nth l k Tip.zero).state < n by omega), Bool.true_and, decide_eq_false_iff_not] at hp
    rw [decide_eq_true (by omega), iteO_true]; rfl
  · simp only [whittleref15_tips_b1, Int.lt_irrefl, decide_false, iteO_false]; rfl
theorem right_eq (t : Fst) : whittleref15_Right t = some (fstB t) := by
  unfold whittleref15_Right
  by_cases h1 : t.states < 0
  · rw [decide_eq_true h1, iteO_true]; simp [fstB, show ¬ 0 ≤ t.states by omega]
  rw [decide_eq_false h1, iteO_false]
  by_cases h2 : 1024 < t.states
  · rw [decide_eq_true h2, iteO_true]; simp [fstB, show ¬ t.states ≤ 1024 by omega]
  rw [decide_eq_false h2, iteO_false, tips_all, bnd, Option.bind_some]
  have e0 : fstB t = (decide ((t.arcs.length : Int) ≤ 16384) && tipsB t.starts t.states && tipsB t.ends t.states && t.arcs.all (arcB t.states)) := by
    simp only [fstB, decide_eq_true (show 0 ≤ t.states by omega), decide_eq_true (show t.states ≤ 1024 by omega), Bool.true_and]
  rw [e0]
  cases h4 : tipsB t.starts t.states
  · simp
  simp only [Bool.not_true, iteO_false, tips_all, bnd, Option.bind_some]
  cases h5 : tipsB t.ends t.states
  · simp
  simp only [Bool.not_true, iteO_false, Bool.and_true]
  by_cases h3 : (16384 : Int) < (t.arcs.length : Int)
  · rw [decide_eq_true h3, iteO_true, decide_eq_false (show ¬ (t.arcs.length : Int) ≤ 16384 by omega), Bool.false_and]
  rw [decide_eq_false h3, iteO_false, decide_eq_true (show (t.arcs.length : Int) ≤ 16384 by omega), Bool.true_and, iter_all (y := true) (no := false) t.arcs Arc.zero (arcB t.states)]
  · cases t.arcs.all (arcB t.states) <;> rfl
  · intro k hk hp
    obtain ⟨p1, p2, p3, p4⟩ := arcB_ok hp
    simp only [whittleref15_Right_b1, lt_dec hk, iteO_true]
    rw [decide_eq_false (by omega), iteO_false, decide_eq_false (by omega), iteO_false, decide_eq_false (by omega), iteO_false, decide_eq_false (by omega), iteO_false, decide_eq_false p3, iteO_false, decide_eq_false (by omega), iteO_false]; rfl
  · intro k hk hp
    simp only [whittleref15_Right_b1, lt_dec hk, iteO_true]
    by_cases q1 : (nth t.arcs k Arc.zero).frm < 0
    · rw [decide_eq_true q1, iteO_true]; rfl
    rw [decide_eq_false q1, iteO_false]
    by_cases q2 : t.states ≤ (nth t.arcs k Arc.zero).frm
    · rw [decide_eq_true q2, iteO_true]; rfl
    rw [decide_eq_false q2, iteO_false]
    by_cases q3 : (nth t.arcs k Arc.zero).to < 0
    · rw [decide_eq_true q3, iteO_true]; rfl
    rw [decide_eq_false q3, iteO_false]
    by_cases q4 : t.states ≤ (nth t.arcs k Arc.zero).to
    · rw [decide_eq_true q4, iteO_true]; rfl
    rw [decide_eq_false q4, iteO_false]
    by_cases q5 : (nth t.arcs k Arc.zero).set = BSet.zero
    · rw [decide_eq_true q5, iteO_true]; rfl
    rw [decide_eq_false q5, iteO_false]
    simp only [arcB, decide_eq_true (show 0 ≤ (nth t.arcs k Arc.zero).frm by omega), decide_eq_true (show (nth t.arcs k Arc.zero).frm < t.states by omega), decide_eq_true (show 0 ≤ (nth t.arcs k Arc.zero).to by omega), decide_eq_true (show (nth t.arcs k Arc.zero).to < t.states by omega), ne_eq, q5, not_false_eq_true, decide_true, Bool.true_and, decide_eq_false_iff_not] at hp
    rw [decide_eq_true (by omega), iteO_true]; rfl
  · simp only [whittleref15_Right_b1, Int.lt_irrefl, decide_false, iteO_false]; rfl
end Go.Proofs.YtcfjjckencjjeaaGreat
end

/- InsG -/
section
/- Put in one by one, where they belong. Plain lemmas, no condition. -/
set_option linter.unusedVariables false
set_option linter.unusedSimpArgs false
namespace Go.Proofs.YtcfjjckencjjeaaGreat
open Go Go.E
set_option maxRecDepth 100000
set_option linter.unusedSectionVars false

section
variable {α : Type} [DecidableEq α] {d : α} {cf : α → α → Int}
/-- Put in one by one, where they belong: in order, each once. -/
theorem ins_run (hc : GoodCmp cf) (x0 : List α) (step1 : List α × Nat → Option ((List α × Nat) ⊕ List α)) (step2 : List α → Nat → Nat → Option (Nat ⊕ ((List α × Nat) ⊕ List α)))
    (hend : ∀ l k, x0.length ≤ k → step1 (l, k) = some (.inr l)) (hbody : ∀ l k, k < x0.length → step1 (l, k) = iter (step2 l k) 0)
    (hlt : ∀ l k j, k < x0.length → j < l.length → cf (nth l j d) (nth x0 k d) < 0 → step2 l k j = some (.inl (j + 1)))
    (heq : ∀ l k j, k < x0.length → j < l.length → nth l j d = nth x0 k d → step2 l k j = some (.inr (.inl (l, k + 1))))
    (hins : ∀ l k j, k < x0.length → l.length ≤ x0.length → j ≤ l.length → (j < l.length → ¬ cf (nth l j d) (nth x0 k d) < 0 ∧ nth l j d ≠ nth x0 k d) → step2 l k j = some (.inr (.inl (l.take j ++ [nth x0 k d] ++ l.drop j, k + 1)))) :
    iter step1 ([], 0) = some (onceL d cf x0) := by
  refine Exists.elim (iter_run (step := step1) (fun q => q.2 ≤ x0.length ∧ q.1.length ≤ q.2 ∧ (q.1.Pairwise fun x y => cf x y < 0) ∧ ∀ x, x ∈ q.1 ↔ x ∈ x0.take q.2) (fun r => r = onceL d cf x0) (fun q => x0.length - q.2) ?_ ([], 0) ⟨Nat.zero_le _, Nat.le_refl _, List.Pairwise.nil, by simp⟩) (fun r hr => by rw [hr.1, hr.2])
  rintro ⟨l, k⟩ ⟨hk, hl, hp, hm⟩
  simp only at hk hl hp hm
  by_cases hkl : k < x0.length
  · left
    have inner : ∃ r, iter (step2 l k) 0 = some r ∧ ∃ l', r = .inl (l', k + 1) ∧ l'.length ≤ k + 1 ∧ (l'.Pairwise fun x y => cf x y < 0) ∧ ∀ x, x ∈ l' ↔ x ∈ l ∨ x = nth x0 k d := by
      refine iter_run (step := step2 l k) (fun j => j ≤ l.length ∧ ∀ i, i < j → cf (nth l i d) (nth x0 k d) < 0) _ (fun j => l.length - j) ?_ 0 ⟨Nat.zero_le _, fun i hi => absurd hi (Nat.not_lt_zero _)⟩
      rintro j ⟨hj, hI⟩
      by_cases hjl : j < l.length
      · by_cases h1 : cf (nth l j d) (nth x0 k d) < 0
        · left
          refine ⟨j + 1, hlt l k j hkl hjl h1, ⟨by omega, fun i hi => ?_⟩, by omega⟩
          by_cases e : i = j
          · subst e; exact h1
          · exact hI i (by omega)
        · right
          by_cases h2 : nth l j d = nth x0 k d
          · refine ⟨_, heq l k j hkl hjl h2, l, rfl, by omega, hp, fun x => ⟨.inl, ?_⟩⟩
            rintro (h | rfl)
            · exact h
            · rw [← h2]; exact nth_mem' hjl d
          · refine ⟨_, hins l k j hkl (by omega) hj (fun _ => ⟨h1, h2⟩), _, rfl, ?_, ?_, ?_⟩
            · simp only [List.length_append, List.length_take, List.length_drop, List.length_singleton]; omega
            · have hxj : cf (nth x0 k d) (nth l j d) < 0 := by
                have a := hc.anti (nth x0 k d) (nth l j d)
                have b := hc.eq (nth l j d) (nth x0 k d)
                have : cf (nth l j d) (nth x0 k d) ≠ 0 := fun h => h2 (b.1 h)
                omega
              have hd : l.drop j = nth l j d :: l.drop (j + 1) := by
                have := getD_some l hjl d
                rw [List.getElem?_eq_getElem hjl, Option.some.injEq] at this
                rw [← this]; exact List.drop_eq_getElem_cons hjl
              have hpd : (l.drop j).Pairwise fun x y => cf x y < 0 := hp.sublist (List.drop_sublist ..)
              have hgt : ∀ y ∈ l.drop j, cf (nth x0 k d) y < 0 := fun y hy => by
                rw [hd] at hy hpd
                rw [List.pairwise_cons] at hpd
                rcases List.mem_cons.1 hy with rfl | hy
                · exact hxj
                · exact hc.trans _ _ _ hxj (hpd.1 y hy)
              have hls : ∀ y ∈ l.take j, cf y (nth x0 k d) < 0 := fun y hy => by
                obtain ⟨i, hi, rfl⟩ := List.mem_iff_getElem.1 hy
                have hij : i < j := by simp at hi; omega
                have := hI i hij
                have e := getD_some l (show i < l.length by omega) d
                rw [List.getElem?_eq_getElem (show i < l.length by omega), Option.some.injEq] at e
                rw [List.getElem_take, e]; exact this
              rw [List.append_assoc, List.pairwise_append]
              refine ⟨hp.sublist (List.take_sublist ..), ?_, fun x hx y hy => ?_⟩
              · rw [List.singleton_append, List.pairwise_cons]
                exact ⟨hgt, hpd⟩
              · rw [List.singleton_append, List.mem_cons] at hy
                rcases hy with rfl | hy
                · exact hls x hx
                · exact hc.trans _ _ _ (hls x hx) (hgt y hy)
            · intro x
              rw [List.append_assoc, List.mem_append, List.singleton_append, List.mem_cons]
              have : x ∈ l ↔ x ∈ l.take j ∨ x ∈ l.drop j := by rw [← List.mem_append, List.take_append_drop]
              rw [this]
              constructor
              · rintro (h | h | h)
                · exact .inl (.inl h)
                · exact .inr h
                · exact .inl (.inr h)
              · rintro ((h | h) | h)
                · exact .inl h
                · exact .inr (.inr h)
                · exact .inr (.inl h)
      · right
        have hj' : j = l.length := by omega
        subst hj'
        refine ⟨_, hins l k l.length hkl (by omega) hj (fun h => absurd h (Nat.lt_irrefl _)), _, rfl, ?_, ?_, ?_⟩
        · simp only [List.length_append, List.length_take, List.length_drop, List.length_singleton]; omega
        · rw [List.take_length, List.drop_length, List.append_nil, List.pairwise_append]
          refine ⟨hp, List.pairwise_singleton .., fun x hx y hy => ?_⟩
          rw [List.mem_singleton.1 hy]
          obtain ⟨i, hi, rfl⟩ := List.mem_iff_getElem.1 hx
          have := hI i hi
          have e := getD_some l hi d
          rw [List.getElem?_eq_getElem hi, Option.some.injEq] at e
          rw [e]; exact this
        · intro x; simp
    obtain ⟨r, h1, l', rfl, h2, h3, h4⟩ := inner
    refine ⟨(l', k + 1), by rw [hbody l k hkl, h1], ⟨by simp only; omega, h2, h3, fun x => ?_⟩, by simp only; omega⟩
    simp only
    rw [h4, take_snoc x0 hkl d, List.mem_append, List.mem_singleton, hm]
  · right
    refine ⟨l, hend l k (by omega), rising_eq hc hp (sorted_onceL hc x0) fun x => ?_⟩
    rw [hm, mem_onceL, List.take_of_length_le (by omega)]
end

end Go.Proofs.YtcfjjckencjjeaaGreat
end

/- G1p -/
section
/- The reference's In and Sort, and the law on what is made. Plain lemmas, no condition. -/
set_option linter.unusedVariables false
set_option linter.unusedSimpArgs false
namespace Go.Proofs.YtcfjjckencjjeaaGreat
open Go Go.E
set_option maxRecDepth 100000
set_option linter.unusedSectionVars false

theorem corI_lt {a b : Int} : corI a b < 0 ↔ a < 0 ∨ (a = 0 ∧ b < 0) := by unfold corI; split <;> omega
theorem cmpN_lt {x y : Nat} : cmpN x y < 0 ↔ x < y := by unfold cmpN; (repeat' split) <;> omega
theorem cmpN_eq0 {x y : Nat} : cmpN x y = 0 ↔ x = y := cmpN_good.eq x y
theorem cmpI_eq0 {x y : Int} : cmpI x y = 0 ↔ x = y := cmpI_good.eq x y
theorem cmpB_eq0 {x y : List UInt8} : Lib.compareBytes x y = 0 ↔ x = y := cmpB_good.eq x y
theorem tipLess_eq (x y : Tip) : whittleref15_tipLess x y = some (decide (cmpTip x y < 0)) := by
  unfold whittleref15_tipLess
  simp only [cmpTip, corI_lt, cmpI_lt, cmpI_eq0]
  by_cases h1 : x.state < y.state
  · simp [h1]
  · by_cases h2 : x.state = y.state
    · simp [h2]
    · simp [h1, h2]
theorem arcLess_tail (x y : Arc) : iter (fun q : Nat => whittleref15_arcLess_b1 x y q) 4 = some (decide (corI (Lib.compareBytes x.out y.out) (corI (cmpBool x.copy y.copy) 0) < 0)) := by
  refine iter_done ?_
  simp only [whittleref15_arcLess_b1, corI_lt]
  rw [decide_eq_false (by omega), iteO_false]
  by_cases h : x.out = y.out
  · have := cmpB_eq0.2 h
    rw [decide_eq_false (by simpa using h), iteO_false]
    simp only [this]
    cases x.copy <;> cases y.copy <;> decide
  · have : ¬ Lib.compareBytes x.out y.out = 0 := fun e => h (cmpB_eq0.1 e)
    rw [decide_eq_true (by simpa using h), iteO_true]
    simp [this]
theorem arcLess_word (x y : Arc) (k : Nat) (hk : k < 4) {t : Int} (ht : iter (fun q : Nat => whittleref15_arcLess_b1 x y q) (k + 1) = some (decide (t < 0))) :
    iter (fun q : Nat => whittleref15_arcLess_b1 x y q) k = some (decide (corI (cmpN (x.set.word k) (y.set.word k)) t < 0)) := by
  simp only [corI_lt, cmpN_lt, cmpN_eq0]
  by_cases h : x.set.word k = y.set.word k
  · refine iter_next (s' := k + 1) ?_ ?_
    · simp only [whittleref15_arcLess_b1]
      rw [decide_eq_true (by omega), iteO_true, grd_mk hk, grd_mk hk, decide_eq_false (by simpa using h), iteO_false]; rfl
    · rw [ht]; simp [h]
  · refine iter_done ?_
    simp only [whittleref15_arcLess_b1]
    rw [decide_eq_true (by omega), iteO_true, grd_mk hk, grd_mk hk, decide_eq_true (by simpa using h), iteO_true, grd_mk hk, grd_mk hk]
    simp [h]
theorem arcLess_eq (x y : Arc) : whittleref15_arcLess x y = some (decide (cmpArc x y < 0)) := by
  have hw := arcLess_word x y 0 (by decide) (arcLess_word x y 1 (by decide) (arcLess_word x y 2 (by decide) (arcLess_word x y 3 (by decide) (arcLess_tail x y))))
  unfold whittleref15_arcLess
  have e : cmpArc x y = corI (cmpI x.frm y.frm) (corI (cmpI x.to y.to) (corI (cmpN (x.set.word 0) (y.set.word 0)) (corI (cmpN (x.set.word 1) (y.set.word 1)) (corI (cmpN (x.set.word 2) (y.set.word 2)) (corI (cmpN (x.set.word 3) (y.set.word 3)) (corI (Lib.compareBytes x.out y.out) (corI (cmpBool x.copy y.copy) 0))))))) := by
    have asc : ∀ a b c : Int, corI (corI a b) c = corI a (corI b c) := fun a b c => by unfold corI; (repeat' split) <;> first | rfl | omega
    simp only [cmpArc, cmpSet, asc]; rfl
  rw [e, hw]
  generalize corI (cmpN (x.set.word 0) (y.set.word 0)) _ = T
  simp only [corI_lt, cmpI_lt, cmpI_eq0]
  by_cases h1 : x.frm = y.frm
  · rw [decide_eq_false (by simpa using h1), iteO_false]
    by_cases h2 : x.to = y.to
    · rw [decide_eq_false (by simpa using h2), iteO_false]
      simp [h1, h2]
    · rw [decide_eq_true (by simpa using h2), iteO_true]
      simp [h1, h2]
  · rw [decide_eq_true (by simpa using h1), iteO_true]
    simp [h1]
theorem sortTips_eq {l : List Tip} (h : l.length ≤ 1000000) : whittleref15_SortTips l = some (onceL Tip.zero cmpTip l) := by
  unfold whittleref15_SortTips
  refine ins_run cmpTip_good l (fun q => whittleref15_SortTips_b1 l q.1 q.2) (fun m k j => whittleref15_SortTips_b2 m l k j) ?_ ?_ ?_ ?_ ?_
  · intro m k hk
    simp only [whittleref15_SortTips_b1, decide_eq_false (show ¬ ((k : Nat) : Int) < ((l.length : Nat) : Int) by omega), iteO_false]; rfl
  · intro m k hk
    simp only [whittleref15_SortTips_b1, lt_dec hk, iteO_true]
  · intro m k j hk hj hc
    simp only [whittleref15_SortTips_b2, lt_dec hj, iteO_true, tipLess_eq, bnd, Option.bind_some, decide_eq_true hc]; rfl
  · intro m k j hk hj he
    simp only [whittleref15_SortTips_b2, lt_dec hj, iteO_true, tipLess_eq, bnd, Option.bind_some, he, decide_eq_false (cmpTip_good.irr _), iteO_false, whittleref15_SortTips_j2, decide_true]; rfl
  · intro m k j hk hm hj hn
    have hg : whittleref15_SortTips_j3 j m l k = some (.inl (m.take j ++ [nth l k Tip.zero] ++ m.drop j, k + 1)) := by
      unfold whittleref15_SortTips_j3 whittleref15_SortTips_j1
      rw [grd_mk (by omega), grd_mk (by simp only [List.length_nil, List.length_take]; omega), grd_mk (by simp only [List.length_append, List.length_nil, List.length_take, List.length_singleton]; omega), grd_mk (by omega), grd_mk (by simp only [List.length_append, List.length_nil, List.length_take, List.length_singleton, List.length_drop]; omega)]
      rfl
    by_cases hjl : j < m.length
    · obtain ⟨h1, h2⟩ := hn hjl
      simp only [whittleref15_SortTips_b2, lt_dec hjl, iteO_true, tipLess_eq, bnd, Option.bind_some, decide_eq_false h1, iteO_false, whittleref15_SortTips_j2, decide_eq_false h2, hg, fin_some]
    · simp only [whittleref15_SortTips_b2, decide_eq_false (show ¬ ((j : Nat) : Int) < ((m.length : Nat) : Int) by omega), iteO_false, whittleref15_SortTips_j2, hg, fin_some]
theorem sortArcs_eq {l : List Arc} (h : l.length ≤ 1000000) : whittleref15_SortArcs l = some (onceL Arc.zero cmpArc l) := by
  unfold whittleref15_SortArcs
  refine ins_run cmpArc_good l (fun q => whittleref15_SortArcs_b1 l q.1 q.2) (fun m k j => whittleref15_SortArcs_b2 m l k j) ?_ ?_ ?_ ?_ ?_
  · intro m k hk
    simp only [whittleref15_SortArcs_b1, decide_eq_false (show ¬ ((k : Nat) : Int) < ((l.length : Nat) : Int) by omega), iteO_false]; rfl
  · intro m k hk
    simp only [whittleref15_SortArcs_b1, lt_dec hk, iteO_true]
  · intro m k j hk hj hc
    simp only [whittleref15_SortArcs_b2, lt_dec hj, iteO_true, arcLess_eq, bnd, Option.bind_some, decide_eq_true hc]; rfl
  · intro m k j hk hj he
    simp only [whittleref15_SortArcs_b2, lt_dec hj, iteO_true, arcLess_eq, bnd, Option.bind_some, he, decide_eq_false (cmpArc_good.irr _), iteO_false, whittleref15_SortArcs_j2, decide_true]; rfl
  · intro m k j hk hm hj hn
    have hg : whittleref15_SortArcs_j3 j m l k = some (.inl (m.take j ++ [nth l k Arc.zero] ++ m.drop j, k + 1)) := by
      unfold whittleref15_SortArcs_j3 whittleref15_SortArcs_j1
      rw [grd_mk (by omega), grd_mk (by simp only [List.length_nil, List.length_take]; omega), grd_mk (by simp only [List.length_append, List.length_nil, List.length_take, List.length_singleton]; omega), grd_mk (by omega), grd_mk (by simp only [List.length_append, List.length_nil, List.length_take, List.length_singleton, List.length_drop]; omega)]
      rfl
    by_cases hjl : j < m.length
    · obtain ⟨h1, h2⟩ := hn hjl
      simp only [whittleref15_SortArcs_b2, lt_dec hjl, iteO_true, arcLess_eq, bnd, Option.bind_some, decide_eq_false h1, iteO_false, whittleref15_SortArcs_j2, decide_eq_false h2, hg, fin_some]
    · simp only [whittleref15_SortArcs_b2, decide_eq_false (show ¬ ((j : Nat) : Int) < ((m.length : Nat) : Int) by omega), iteO_false, whittleref15_SortArcs_j2, hg, fin_some]

/-! ### The reference's answers -/
theorem rsort_eq (t : Fst) : whittleref15_Sort t = some (if fstB t = true then (srt t, 0) else (⟨0, [], [], []⟩, 1)) := by
  unfold whittleref15_Sort
  rw [right_eq, bnd, Option.bind_some]
  by_cases h : fstB t = true
  · have ht := (fstB_iff t).1 h
    have h1 := ht.startsN
    have h2 := ht.endsN
    have h3 := ht.arcsN
    rw [h, if_pos rfl, Bool.not_true, iteO_false]
    simp only [sortTips_eq (l := t.starts) (by omega), sortTips_eq (l := t.ends) (by omega), sortArcs_eq (l := t.arcs) (by omega), bnd, Option.bind_some]
    rfl
  · simp only [Bool.not_eq_true] at h
    rw [h]; rfl
end Go.Proofs.YtcfjjckencjjeaaGreat
end

/- Data7 -/
section
/- More of the program's data: two ways of a transducer. No program, no condition. -/
set_option linter.unusedVariables false
set_option linter.unusedSimpArgs false
namespace Go.E
open Go
structure TLag where
  p : Int
  q : Int
  a : List UInt8
  b : List UInt8
  deriving DecidableEq
def TLag.zero : TLag := ⟨0, 0, [], []⟩
def encLag (x : TLag) : List Value := [.int .i64 x.p, .int .i64 x.q, .string (bs x.a), .string (bs x.b)]
theorem encLag_len (x : TLag) : (encLag x).length = 4 := rfl
theorem encLag_one : ∀ x, ∀ u ∈ encLag x, u.oneCell' = true := fun x u hu => by
  simp [encLag] at hu
  rcases hu with rfl | rfl | rfl | rfl <;> rfl
theorem encLag_bits : ∀ x, ∀ u ∈ encLag x, Bits u := fun x u hu => by
  simp [encLag] at hu
  rcases hu with rfl | rfl | rfl | rfl <;> first | exact Bits.int _ _ | exact Bits.str _ | exact Bits.bool _
structure Walk where
  t : Fst
  arcs : List (List Arc)
  most : Int
end Go.E
end

/- Dec11 -/
section
/- The library's sort of numbers, by the kit's contract, in the engine's words. Plain lemmas over any program; no condition. -/
set_option linter.unusedVariables false
set_option linter.unusedSimpArgs false
namespace Go.E
open Go Go.Sort Go.Proofs Go.Shelf
theorem OpVal.minI {P : Program} {n : Nat} {e : Env} {σ : Store} {H : List Res} {o : Oper} {x y : Operand} {ts : Array TypeId} {k k' : IntKind} {a b : Int} (ho : o.op = .call { callee := .builtin .min, args := #[x, y], argTypes := ts }) (hx : ev e x = .int k a) (hy : ev e y = .int k' b) : OpVal P n o e σ H (.int k (min a b)) := fun w _ => by
  have h : (if b < a then b else a) = min a b := by rw [Int.min_def]; split <;> split <;> omega
  simp [execOp, ho, resolve, invoke, builtin, hx, hy, Builtin.min_, Builtin.min2, h]
theorem OpVal.maxI {P : Program} {n : Nat} {e : Env} {σ : Store} {H : List Res} {o : Oper} {x y : Operand} {ts : Array TypeId} {k k' : IntKind} {a b : Int} (ho : o.op = .call { callee := .builtin .max, args := #[x, y], argTypes := ts }) (hx : ev e x = .int k a) (hy : ev e y = .int k' b) : OpVal P n o e σ H (.int k (max a b)) := fun w _ => by
  have h : (if a < b then b else a) = max a b := by rw [Int.max_def]; split <;> split <;> omega
  simp [execOp, ho, resolve, invoke, builtin, hx, hy, Builtin.max_, Builtin.max2, h]
/-! ### A slice of one's own, lent to a call that hands back what is new -/
theorem Con.lendG {P : Program} {f : FuncId} {args : Array Value} {σ : Store} {F : List Res} {v : Value} {α : Type} {E size : Nat} {enc : α → List Value} {l : List α} {Post : Store → Value → Store → List Res → Prop} (hl : ∀ x, (enc x).length = size)
    (hP : ∀ τ τ' r σ' H', Post τ r σ' H' → σ' = τ ∧ Post τ' r τ' H') (h : ∀ τ, σ.le τ → RS τ size enc v l → Con P f args τ F (Post τ)) : Con P f args σ (Res.rowS E size enc v l :: F) (fun r σ' H' => ∃ H'', Post σ r σ' H'' ∧ H' = H'' ++ [Res.rowS E size enc v l]) := by
  intro w hw
  obtain ⟨τ, h1, h2, h3⟩ := hw.sealRow
  have h0 : Reach w (blks F) τ τ w F := ⟨rfl, rfl, rfl, Nat.le_refl _, fun _ _ _ => rfl, Store.le.refl _, h1.fit, fun b o hb => .inl hb, h1.holds, fun r hr b hb => .inl (mem_blks.2 ⟨r, hr, hb⟩), h1.nodup, h1.apart, Nat.le_refl _⟩
  refine (h τ h2 ⟨h3, hl⟩ w h0).mono fun ex w' ⟨r', σ', H', he, hp, k⟩ => ?_
  obtain ⟨e2, hp'⟩ := hP τ σ r' σ' H' hp
  subst e2
  refine ⟨r', σ, _, he, ⟨H', hp', rfl⟩, ?_⟩
  have hb : ∀ b, b ∈ (Res.rowS E size enc v l).bl → b < w.heap.size ∧ b ∉ blks F := fun b hb => by
    refine ⟨hw.block_lt (List.mem_cons_self ..) hb, fun hx => ?_⟩
    have hnd := hw.nodup
    simp only [blks, List.flatMap_cons] at hnd
    exact (nodup_app.1 hnd).2.2 b hb hx
  have hF : ∀ b, b ∈ blks F → b ∈ blks (Res.rowS E size enc v l :: F) := fun b hx => by
    obtain ⟨r2, hr2, hb2⟩ := mem_blks.1 hx
    exact mem_blks.2 ⟨r2, List.mem_cons_of_mem _ hr2, hb2⟩
  have hframe : ∀ i, i < w.heap.size → i ∉ blks F → w'.heap[i]? = w.heap[i]? := k.frame
  refine ⟨k.os, k.tape, k.output, k.size, fun i hi hn => hframe i hi fun hx => hn (hF i hx), Store.le.refl _, fun b o hs => k.fit b o (h2 b o hs), fun b o hs => .inl hs, ?_, ?_, ?_, ?_, k.drawn⟩
  · intro r2 hr2
    rcases List.mem_append.1 hr2 with hr2 | hr2
    · exact k.holds r2 hr2
    · rw [List.mem_singleton.1 hr2]
      exact (Res.rowS E size enc v l).keep w w' (fun b hbb => hframe b (hb b hbb).1 (hb b hbb).2) (hw.holds _ (List.mem_cons_self ..))
  · intro r2 hr2 b hb2
    rcases List.mem_append.1 hr2 with hr2 | hr2
    · exact (k.own r2 hr2 b hb2).imp (hF b) id
    · rw [List.mem_singleton.1 hr2] at hb2
      exact .inl (mem_blks.2 ⟨_, List.mem_cons_self .., hb2⟩)
  · have e : blks (H' ++ [Res.rowS E size enc v l]) = blks H' ++ (Res.rowS E size enc v l).bl := by simp [blks, List.flatMap_append]
    rw [e, nodup_app]
    refine ⟨k.nodup, ?_, fun b hx hy => ?_⟩
    · have hnd := hw.nodup
      simp only [blks, List.flatMap_cons] at hnd
      exact (nodup_app.1 hnd).1
    · obtain ⟨r2, hr2, hb2⟩ := mem_blks.1 hx
      have := hb b hy
      rcases k.own r2 hr2 b hb2 with h4 | h4
      · exact this.2 h4
      · omega
  · intro r2 hr2 b hb2
    rcases List.mem_append.1 hr2 with hr2 | hr2
    · cases hs : σ b with
      | none => rfl
      | some o => have := k.apart r2 hr2 b hb2; rw [h2 b o hs] at this; cases this
    · rw [List.mem_singleton.1 hr2] at hb2
      exact hw.apart _ (List.mem_cons_self ..) b hb2
end Go.E
end

/- Data3 -/
section
/- Expressions, one level deep. No program, no condition. -/
set_option linter.unusedVariables false
set_option linter.unusedSimpArgs false
namespace Go.E
open Go
/-- An expression without parts. -/
structure ReLeaf where
  kind : Int
  text : List UInt8
  set : BSet
  min : Int
  max : Int
  deriving DecidableEq
def ReLeaf.zero : ReLeaf := ⟨0, [], BSet.zero, 0, 0⟩
/-- An expression whose parts have none. -/
structure ReRoot where
  kind : Int
  text : List UInt8
  set : BSet
  parts : List ReLeaf
  min : Int
  max : Int
def ReRoot.zero : ReRoot := ⟨0, [], BSet.zero, [], 0, 0⟩
end Go.E
end
