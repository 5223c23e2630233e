/- Parts of a proof, one behind the other: what a machine reaches, functions decompiled, plain lemmas. Conditions stand with each lemma. -/
import Derived.Test.YtcaaiphgikpgjaaGreatDoorB4794d90a5c
import Derived.Test.YtcaaiphgikpgjaaGreatDoorB584ce4a16c
import Derived.Test.YtcaaiphgikpgjaaGreatDoorBcf96c4d630

set_option linter.unusedVariables false
set_option linter.unusedSimpArgs false
set_option linter.unusedSectionVars false
set_option maxRecDepth 100000

section
namespace Go.Proofs.YtcaaiphgikpgjaaGreatDoor
open Go Go.E Go.E.OpVal Go.E.OpOk Go.Proofs.Tryz
private theorem ag22 : Go.E.aggOf Tryz.prog 22 = some false := by kernel_rfl
private theorem ag23 : Go.E.aggOf Tryz.prog 23 = some false := by kernel_rfl
private theorem ag25 : Go.E.aggOf Tryz.prog 25 = some true := by kernel_rfl
private theorem ag33 : Go.E.aggOf Tryz.prog 33 = some false := by kernel_rfl
private theorem ag4 : Go.E.aggOf Tryz.prog 4 = some false := by kernel_rfl
private theorem ag41 : Go.E.aggOf Tryz.prog 41 = some true := by kernel_rfl
private theorem ag59 : Go.E.aggOf Tryz.prog 59 = some true := by kernel_rfl
private theorem ag9 : Go.E.aggOf Tryz.prog 9 = some false := by kernel_rfl
private theorem by22 : Go.E.byOf Tryz.prog 22 = some 24 := by kernel_rfl
private theorem by23 : Go.E.byOf Tryz.prog 23 = some 24 := by kernel_rfl
private theorem by41 : Go.E.byOf Tryz.prog 41 = some 24 := by kernel_rfl
private theorem by59 : Go.E.byOf Tryz.prog 59 = some 72 := by kernel_rfl
private theorem fo25_0 : Go.E.foOf Tryz.prog 25 0 = some 0 := by kernel_rfl
private theorem fo25_1 : Go.E.foOf Tryz.prog 25 1 = some 1 := by kernel_rfl
private theorem fo25_2 : Go.E.foOf Tryz.prog 25 2 = some 2 := by kernel_rfl
private theorem fo25_3 : Go.E.foOf Tryz.prog 25 3 = some 3 := by kernel_rfl
private theorem fo41_0 : Go.E.foOf Tryz.prog 41 0 = some 0 := by kernel_rfl
private theorem fo41_1 : Go.E.foOf Tryz.prog 41 1 = some 1 := by kernel_rfl
private theorem fo59_0 : Go.E.foOf Tryz.prog 59 0 = some 0 := by kernel_rfl
private theorem fo59_1 : Go.E.foOf Tryz.prog 59 1 = some 1 := by kernel_rfl
private theorem fo59_2 : Go.E.foOf Tryz.prog 59 2 = some 2 := by kernel_rfl
private theorem fo59_3 : Go.E.foOf Tryz.prog 59 3 = some 6 := by kernel_rfl
private theorem fo59_4 : Go.E.foOf Tryz.prog 59 4 = some 7 := by kernel_rfl
private theorem fo67_0 : Go.E.foOf Tryz.prog 67 0 = some 0 := by kernel_rfl
private theorem fo67_1 : Go.E.foOf Tryz.prog 67 1 = some 4 := by kernel_rfl
private theorem pf24 : Go.E.plainF Tryz.prog 24 = true := by kernel_rfl
private theorem pf26 : Go.E.plainF Tryz.prog 26 = true := by kernel_rfl
private theorem pf27 : Go.E.plainF Tryz.prog 27 = true := by kernel_rfl
private theorem pf28 : Go.E.plainF Tryz.prog 28 = true := by kernel_rfl
private theorem pf32 : Go.E.plainF Tryz.prog 32 = true := by kernel_rfl
private theorem pf33 : Go.E.plainF Tryz.prog 33 = true := by kernel_rfl
private theorem pf34 : Go.E.plainF Tryz.prog 34 = true := by kernel_rfl
private theorem pf35 : Go.E.plainF Tryz.prog 35 = true := by kernel_rfl
private theorem pf36 : Go.E.plainF Tryz.prog 36 = true := by kernel_rfl
private theorem pf39 : Go.E.plainF Tryz.prog 39 = true := by kernel_rfl
private theorem pf40 : Go.E.plainF Tryz.prog 40 = true := by kernel_rfl
private theorem pf68 : Go.E.plainF Tryz.prog 68 = true := by kernel_rfl
private theorem pl25 : Go.E.plOf Tryz.prog 25 = some #[(0, 1), (1, 1), (2, 1), (3, 1)] := by kernel_rfl
private theorem pl41 : Go.E.plOf Tryz.prog 41 = some #[(0, 1), (1, 1)] := by kernel_rfl
private theorem pl59 : Go.E.plOf Tryz.prog 59 = some #[(0, 1), (1, 1), (2, 4), (6, 1), (7, 1)] := by kernel_rfl
private theorem pl67 : Go.E.plOf Tryz.prog 67 = some #[(0, 4), (4, 1)] := by kernel_rfl
private theorem sz22 : Go.E.szOf Tryz.prog 22 = some 1 := by kernel_rfl
private theorem sz23 : Go.E.szOf Tryz.prog 23 = some 1 := by kernel_rfl
private theorem sz25 : Go.E.szOf Tryz.prog 25 = some 4 := by kernel_rfl
private theorem sz33 : Go.E.szOf Tryz.prog 33 = some 1 := by kernel_rfl
private theorem sz41 : Go.E.szOf Tryz.prog 41 = some 2 := by kernel_rfl
private theorem sz59 : Go.E.szOf Tryz.prog 59 = some 8 := by kernel_rfl
private theorem ze22 : Go.E.zeroOf Tryz.prog 22 = some (.slice none 0 0) := by kernel_rfl
private theorem ze23 : Go.E.zeroOf Tryz.prog 23 = some (.slice none 0 0) := by kernel_rfl
private theorem ze25 : Go.E.zeroOf Tryz.prog 25 = some (.agg #[.int .i64 0, .slice none 0 0, .slice none 0 0, .slice none 0 0]) := by kernel_rfl
private theorem ze33 : Go.E.zeroOf Tryz.prog 33 = some (.int .i64 0) := by kernel_rfl
private theorem ze41 : Go.E.zeroOf Tryz.prog 41 = some (.agg #[.int .i64 0, .string ByteArray.empty]) := by kernel_rfl
private theorem ze59 : Go.E.zeroOf Tryz.prog 59 = some (.agg #[.int .i64 0, .int .i64 0, .int .u64 0, .int .u64 0, .int .u64 0, .int .u64 0, .string ByteArray.empty, .bool false]) := by kernel_rfl
private theorem ze67 : Go.E.zeroOf Tryz.prog 67 = some (.agg #[.int .i64 0, .slice none 0 0, .slice none 0 0, .slice none 0 0, .bool false]) := by kernel_rfl
noncomputable def Af_ (x1 : List Tip) (x2 : Int) (i138 : Int) (l140 : List Tip) (l144 : List Tip) (l148 : List Arc) (t151 : Bool) (k152 : Nat) : Option ((Int × (List Tip) × (List Tip) × (List Arc) × Bool × Nat) ⊕ (Grow)) :=
 iteO (decide (((k152 : Nat) : Int) < ((x1.length : Nat) : Int))) (bnd (A1_ (⟨(⟨i138, l140, l144, l148⟩ : Fst), t151⟩ : Grow) (⟨IntKind.i64.wrap (((nth x1 k152 Tip.zero).state) + x2), (nth x1 k152 Tip.zero).out⟩ : Tip)) (fun v17 => nxt (v17.f.states, v17.f.starts, v17.f.ends, v17.f.arcs, v17.over, (k152 + 1)))) (fin (some (⟨(⟨i138, l140, l144, l148⟩ : Fst), t151⟩ : Grow)))
noncomputable def A3_ (x0 : Grow) (x1 : List Tip) (x2 : Int) : Option (Grow) :=
 iter (fun q : Int × (List Tip) × (List Tip) × (List Arc) × Bool × Nat => Af_ x1 x2 q.1 q.2.1 q.2.2.1 q.2.2.2.1 q.2.2.2.2.1 q.2.2.2.2.2) (x0.f.states, x0.f.starts, x0.f.ends, x0.f.arcs, x0.over, 0)
theorem D5_ {σ : Store} {x0 : Grow} {b0_0 : Nat} {Eb0 : Nat} {a0_1 : Option Addr} {c0_2 : Nat} {a0_3 : Option Addr} {c0_4 : Nat} {a0_5 : Option Addr} {c0_6 : Nat} {x1 : List Tip} {a1_0 : Option Addr} {c1_0 : Nat} {x2 : Int} (f1_0 : RS σ 2 encTip (.slice a1_0 x1.length c1_0) x1) {r : Grow} (hh : A3_ x0 x1 x2 = some r) :
  Con Tryz.prog 34 #[loc b0_0 0, .slice a1_0 x1.length c1_0, .int .i64 x2] σ [Res.cells b0_0 #[.int .i64 x0.f.states, .slice a0_1 x0.f.starts.length c0_2, .slice a0_3 x0.f.ends.length c0_4, .slice a0_5 x0.f.arcs.length c0_6, .bool x0.over] Eb0, Res.rowS 41 2 encTip (.slice a0_1 x0.f.starts.length c0_2) x0.f.starts, Res.rowS 41 2 encTip (.slice a0_3 x0.f.ends.length c0_4) x0.f.ends, Res.rowS 59 8 encArc (.slice a0_5 x0.f.arcs.length c0_6) x0.f.arcs] (fun v σ' H' => ∃ (ao1 : Option Addr), ∃ (co2 : Nat), ∃ (ao3 : Option Addr), ∃ (co4 : Nat), ∃ (ao5 : Option Addr), ∃ (co6 : Nat), v = .tuple #[] ∧ σ = σ' ∧ H' = [Res.cells b0_0 #[.int .i64 r.f.states, .slice ao1 r.f.starts.length co2, .slice ao3 r.f.ends.length co4, .slice ao5 r.f.arcs.length co6, .bool r.over] Eb0, Res.rowS 41 2 encTip (.slice ao1 r.f.starts.length co2) r.f.starts, Res.rowS 41 2 encTip (.slice ao3 r.f.ends.length co4) r.f.ends, Res.rowS 59 8 encArc (.slice ao5 r.f.arcs.length co6) r.f.arcs]) := by
 dsimp only [A3_] at hh
 have f1_0b := f1_0.rv.big
 refine Con.mk (n := 24) Tryz.func34 z z z (fun w0 => ?_)
 refine TC.a (TL.s z z (TL.w z (lenC z underlying22 z) (TL.i z z (TL.en (TC.block (TC.loopG (α := (Int × (List Tip) × (List Tip) × (List Arc) × Bool × Nat) × ((Option Addr) × Nat × (Option Addr) × Nat × (Option Addr) × Nat)) (rgs [(7, 1), (10, 14)]) (fun g => [(10, .int .i64 ((g.1.2.2.2.2.2 : Nat) : Int))]) (fun g => [Res.cells b0_0 #[.int .i64 g.1.1, .slice g.2.1 g.1.2.1.length g.2.2.1, .slice g.2.2.2.1 g.1.2.2.1.length g.2.2.2.2.1, .slice g.2.2.2.2.2.1 g.1.2.2.2.1.length g.2.2.2.2.2.2, .bool g.1.2.2.2.2.1] Eb0, Res.rowS 41 2 encTip (.slice g.2.1 g.1.2.1.length g.2.2.1) g.1.2.1, Res.rowS 41 2 encTip (.slice g.2.2.2.1 g.1.2.2.1.length g.2.2.2.2.1) g.1.2.2.1, Res.rowS 59 8 encArc (.slice g.2.2.2.2.2.1 g.1.2.2.2.1.length g.2.2.2.2.2.2) g.1.2.2.2.1]) (fun g => σ) (fun g => iter (fun q : Int × (List Tip) × (List Tip) × (List Arc) × Bool × Nat => Af_ x1 x2 q.1 q.2.1 q.2.2.1 q.2.2.2.1 q.2.2.2.2.1 q.2.2.2.2.2) g.1 = some r) (fun g => rounds (fun q : Int × (List Tip) × (List Tip) × (List Arc) × Bool × Nat => Af_ x1 x2 q.1 q.2.1 q.2.2.1 q.2.2.2.1 q.2.2.2.2.1 q.2.2.2.2.2) g.1) ((x0.f.states, x0.f.starts, x0.f.ends, x0.f.arcs, x0.over, 0), (a0_1, c0_2, a0_3, c0_4, a0_5, c0_6)) (Sub.f [3, 3, 3, 3] 4) z (by repeat (first | exact trivial | refine ⟨z, ?_⟩)) hh (fun g1 j1 hg1 => ?_)))))))
 obtain ⟨⟨i138, l140, l144, l148, t151, k152⟩, ⟨a141, c142, a145, c146, a149, c150⟩⟩ := g1
 have hh := hg1; clear hg1
 try dsimp only
 obtain ⟨z1, hh, hR1⟩ := iter_e hh
 dsimp only [Af_] at hh
 refine TC.isSl (i := 1) z (fun _ hb153 _ => ?_)
 refine TC.isSl (i := 2) z (fun _ hb154 _ => ?_)
 refine TC.isSl (i := 3) z (fun _ hb155 _ => ?_)
 refine TC.a (TL.w z (OpVal.lss z z z) (TL.en (TC.seq (TC.cD z hh (fun h156 hh => ?_) (fun h156 hh => ?_)))))
 ·refine TC.skip (S.n (TC.seq (TC.block (TC.a (TL.w z (indexN z underlying22 sz41 z z f1_0.rv.sl (by omega)) (TL.w z (loadSA Tip.zero z ag41 sz41 z f1_0 (by omega) (by omega)) (TL.op z (OpOk.alloc z ze41 z z (fun b157 => ?_)))))))))
  refine TL.op z (storeAll z sz41 z z z z z z ?_)
  refine TL.en (TC.region (TL.l z z (TL.w z (fieldLoc z fo41_0 z) (TL.w z (loadLoc z ag3 z (i := 0) z z) (TL.i z z (TL.w z (addW z z z) (TL.w z (fieldLoc z fo41_1 z) (TL.w z (loadLoc z ag9 z (i := 0) z z) (TL.w z (buildL z pl41 ze41 z) (TL.front 4 z z (TL.front 4 z z (TL.front 4 z z (TL.front 4 z z ?_)))))))))))))
  obtain ⟨v17, u17, hh⟩ := bnd_e hh
  refine TL.op z (OpOk.call (C2_ u17) z z pf27 z z z z ?_)
  rintro _ _ _ hle159 ⟨a159_1, c159_2, a159_3, c159_4, a159_5, c159_6, rfl, rfl, rfl⟩
  refine TL.nil (B.n (S.n (TC.region (TL.w z (OpVal.succ z z z (by omega)) (TL.i z z (TL.en ?_))))))
  obtain ⟨hh, hlt163⟩ := nxt_x hR1 hh
  exact lf ((v17.f.states, v17.f.starts, v17.f.ends, v17.f.arcs, v17.over, (k152 + 1)), (a159_1, c159_2, a159_3, c159_4, a159_5, c159_6)) hlt163 hh (Sub.f [3, 3, 3, 3] 4)
 ·refine TC.exit (S.x (S.x ?_))
  replace hh := fin_x hR1 hh
  refine TC.exitHere ?_
  obtain rfl := so hh
  exact RetOk.mk' (rs := []) [Res.cells b0_0 #[.int .i64 i138, .slice a141 l140.length c142, .slice a145 l144.length c146, .slice a149 l148.length c150, .bool t151] Eb0, Res.rowS 41 2 encTip (.slice a141 l140.length c142) l140, Res.rowS 41 2 encTip (.slice a145 l144.length c146) l144, Res.rowS 59 8 encArc (.slice a149 l148.length c150) l148] z (.inr z) RVs.nil (List.sublist_append_left _ _) ⟨a141, c142, a145, c146, a149, c150, z, z, z⟩
noncomputable def An_ (x1 : List Tip) (x2 : Int) (i138 : Int) (l140 : List Tip) (l144 : List Tip) (l148 : List Arc) (t151 : Bool) (k152 : Nat) : Option ((Int × (List Tip) × (List Tip) × (List Arc) × Bool × Nat) ⊕ (Grow)) :=
 iteO (decide (((k152 : Nat) : Int) < ((x1.length : Nat) : Int))) (bnd (A6_ (⟨(⟨i138, l140, l144, l148⟩ : Fst), t151⟩ : Grow) (⟨IntKind.i64.wrap (((nth x1 k152 Tip.zero).state) + x2), (nth x1 k152 Tip.zero).out⟩ : Tip)) (fun v17 => nxt (v17.f.states, v17.f.starts, v17.f.ends, v17.f.arcs, v17.over, (k152 + 1)))) (fin (some (⟨(⟨i138, l140, l144, l148⟩ : Fst), t151⟩ : Grow)))
noncomputable def A8_ (x0 : Grow) (x1 : List Tip) (x2 : Int) : Option (Grow) :=
 iter (fun q : Int × (List Tip) × (List Tip) × (List Arc) × Bool × Nat => An_ x1 x2 q.1 q.2.1 q.2.2.1 q.2.2.2.1 q.2.2.2.2.1 q.2.2.2.2.2) (x0.f.states, x0.f.starts, x0.f.ends, x0.f.arcs, x0.over, 0)
theorem Db_ {σ : Store} {x0 : Grow} {b0_0 : Nat} {Eb0 : Nat} {a0_1 : Option Addr} {c0_2 : Nat} {a0_3 : Option Addr} {c0_4 : Nat} {a0_5 : Option Addr} {c0_6 : Nat} {x1 : List Tip} {a1_0 : Option Addr} {c1_0 : Nat} {x2 : Int} (f1_0 : RS σ 2 encTip (.slice a1_0 x1.length c1_0) x1) {r : Grow} (hh : A8_ x0 x1 x2 = some r) :
  Con Tryz.prog 35 #[loc b0_0 0, .slice a1_0 x1.length c1_0, .int .i64 x2] σ [Res.cells b0_0 #[.int .i64 x0.f.states, .slice a0_1 x0.f.starts.length c0_2, .slice a0_3 x0.f.ends.length c0_4, .slice a0_5 x0.f.arcs.length c0_6, .bool x0.over] Eb0, Res.rowS 41 2 encTip (.slice a0_1 x0.f.starts.length c0_2) x0.f.starts, Res.rowS 41 2 encTip (.slice a0_3 x0.f.ends.length c0_4) x0.f.ends, Res.rowS 59 8 encArc (.slice a0_5 x0.f.arcs.length c0_6) x0.f.arcs] (fun v σ' H' => ∃ (ao1 : Option Addr), ∃ (co2 : Nat), ∃ (ao3 : Option Addr), ∃ (co4 : Nat), ∃ (ao5 : Option Addr), ∃ (co6 : Nat), v = .tuple #[] ∧ σ = σ' ∧ H' = [Res.cells b0_0 #[.int .i64 r.f.states, .slice ao1 r.f.starts.length co2, .slice ao3 r.f.ends.length co4, .slice ao5 r.f.arcs.length co6, .bool r.over] Eb0, Res.rowS 41 2 encTip (.slice ao1 r.f.starts.length co2) r.f.starts, Res.rowS 41 2 encTip (.slice ao3 r.f.ends.length co4) r.f.ends, Res.rowS 59 8 encArc (.slice ao5 r.f.arcs.length co6) r.f.arcs]) := by
 dsimp only [A8_] at hh
 have f1_0b := f1_0.rv.big
 refine Con.mk (n := 24) Tryz.func35 z z z (fun w0 => ?_)
 refine TC.a (TL.s z z (TL.w z (lenC z underlying22 z) (TL.i z z (TL.en (TC.block (TC.loopG (α := (Int × (List Tip) × (List Tip) × (List Arc) × Bool × Nat) × ((Option Addr) × Nat × (Option Addr) × Nat × (Option Addr) × Nat)) (rgs [(7, 1), (10, 14)]) (fun g => [(10, .int .i64 ((g.1.2.2.2.2.2 : Nat) : Int))]) (fun g => [Res.cells b0_0 #[.int .i64 g.1.1, .slice g.2.1 g.1.2.1.length g.2.2.1, .slice g.2.2.2.1 g.1.2.2.1.length g.2.2.2.2.1, .slice g.2.2.2.2.2.1 g.1.2.2.2.1.length g.2.2.2.2.2.2, .bool g.1.2.2.2.2.1] Eb0, Res.rowS 41 2 encTip (.slice g.2.1 g.1.2.1.length g.2.2.1) g.1.2.1, Res.rowS 41 2 encTip (.slice g.2.2.2.1 g.1.2.2.1.length g.2.2.2.2.1) g.1.2.2.1, Res.rowS 59 8 encArc (.slice g.2.2.2.2.2.1 g.1.2.2.2.1.length g.2.2.2.2.2.2) g.1.2.2.2.1]) (fun g => σ) (fun g => iter (fun q : Int × (List Tip) × (List Tip) × (List Arc) × Bool × Nat => An_ x1 x2 q.1 q.2.1 q.2.2.1 q.2.2.2.1 q.2.2.2.2.1 q.2.2.2.2.2) g.1 = some r) (fun g => rounds (fun q : Int × (List Tip) × (List Tip) × (List Arc) × Bool × Nat => An_ x1 x2 q.1 q.2.1 q.2.2.1 q.2.2.2.1 q.2.2.2.2.1 q.2.2.2.2.2) g.1) ((x0.f.states, x0.f.starts, x0.f.ends, x0.f.arcs, x0.over, 0), (a0_1, c0_2, a0_3, c0_4, a0_5, c0_6)) (Sub.f [3, 3, 3, 3] 4) z (by repeat (first | exact trivial | refine ⟨z, ?_⟩)) hh (fun g1 j1 hg1 => ?_)))))))
 obtain ⟨⟨i138, l140, l144, l148, t151, k152⟩, ⟨a141, c142, a145, c146, a149, c150⟩⟩ := g1
 have hh := hg1; clear hg1
 try dsimp only
 obtain ⟨z1, hh, hR1⟩ := iter_e hh
 dsimp only [An_] at hh
 refine TC.isSl (i := 1) z (fun _ hb153 _ => ?_)
 refine TC.isSl (i := 2) z (fun _ hb154 _ => ?_)
 refine TC.isSl (i := 3) z (fun _ hb155 _ => ?_)
 refine TC.a (TL.w z (OpVal.lss z z z) (TL.en (TC.seq (TC.cD z hh (fun h156 hh => ?_) (fun h156 hh => ?_)))))
 ·refine TC.skip (S.n (TC.seq (TC.block (TC.a (TL.w z (indexN z underlying22 sz41 z z f1_0.rv.sl (by omega)) (TL.w z (loadSA Tip.zero z ag41 sz41 z f1_0 (by omega) (by omega)) (TL.op z (OpOk.alloc z ze41 z z (fun b157 => ?_)))))))))
  refine TL.op z (storeAll z sz41 z z z z z z ?_)
  refine TL.en (TC.region (TL.l z z (TL.w z (fieldLoc z fo41_0 z) (TL.w z (loadLoc z ag3 z (i := 0) z z) (TL.i z z (TL.w z (addW z z z) (TL.w z (fieldLoc z fo41_1 z) (TL.w z (loadLoc z ag9 z (i := 0) z z) (TL.w z (buildL z pl41 ze41 z) (TL.front 4 z z (TL.front 4 z z (TL.front 4 z z (TL.front 4 z z ?_)))))))))))))
  obtain ⟨v17, u17, hh⟩ := bnd_e hh
  refine TL.op z (OpOk.call (Ck_ u17) z z pf28 z z z z ?_)
  rintro _ _ _ hle159 ⟨a159_1, c159_2, a159_3, c159_4, a159_5, c159_6, rfl, rfl, rfl⟩
  refine TL.nil (B.n (S.n (TC.region (TL.w z (OpVal.succ z z z (by omega)) (TL.i z z (TL.en ?_))))))
  obtain ⟨hh, hlt163⟩ := nxt_x hR1 hh
  exact lf ((v17.f.states, v17.f.starts, v17.f.ends, v17.f.arcs, v17.over, (k152 + 1)), (a159_1, c159_2, a159_3, c159_4, a159_5, c159_6)) hlt163 hh (Sub.f [3, 3, 3, 3] 4)
 ·refine TC.exit (S.x (S.x ?_))
  replace hh := fin_x hR1 hh
  refine TC.exitHere ?_
  obtain rfl := so hh
  exact RetOk.mk' (rs := []) [Res.cells b0_0 #[.int .i64 i138, .slice a141 l140.length c142, .slice a145 l144.length c146, .slice a149 l148.length c150, .bool t151] Eb0, Res.rowS 41 2 encTip (.slice a141 l140.length c142) l140, Res.rowS 41 2 encTip (.slice a145 l144.length c146) l144, Res.rowS 59 8 encArc (.slice a149 l148.length c150) l148] z (.inr z) RVs.nil (List.sublist_append_left _ _) ⟨a141, c142, a145, c146, a149, c150, z, z, z⟩
noncomputable def Ap_ (x1 : List Arc) (x2 : Int) (i138 : Int) (l140 : List Tip) (l144 : List Tip) (l148 : List Arc) (t151 : Bool) (k152 : Nat) : Option ((Int × (List Tip) × (List Tip) × (List Arc) × Bool × Nat) ⊕ (Grow)) :=
 iteO (decide (((k152 : Nat) : Int) < ((x1.length : Nat) : Int))) (bnd (Bh_ (⟨(⟨i138, l140, l144, l148⟩ : Fst), t151⟩ : Grow) (⟨IntKind.i64.wrap (((nth x1 k152 Arc.zero).frm) + x2), IntKind.i64.wrap (((nth x1 k152 Arc.zero).to) + x2), (nth x1 k152 Arc.zero).set, (nth x1 k152 Arc.zero).out, (nth x1 k152 Arc.zero).copy⟩ : Arc)) (fun v25 => nxt (v25.f.states, v25.f.starts, v25.f.ends, v25.f.arcs, v25.over, (k152 + 1)))) (fin (some (⟨(⟨i138, l140, l144, l148⟩ : Fst), t151⟩ : Grow)))
noncomputable def A0_ (x0 : Grow) (x1 : List Arc) (x2 : Int) : Option (Grow) :=
 iter (fun q : Int × (List Tip) × (List Tip) × (List Arc) × Bool × Nat => Ap_ x1 x2 q.1 q.2.1 q.2.2.1 q.2.2.2.1 q.2.2.2.2.1 q.2.2.2.2.2) (x0.f.states, x0.f.starts, x0.f.ends, x0.f.arcs, x0.over, 0)
theorem Cb_ {σ : Store} {x0 : Grow} {b0_0 : Nat} {Eb0 : Nat} {a0_1 : Option Addr} {c0_2 : Nat} {a0_3 : Option Addr} {c0_4 : Nat} {a0_5 : Option Addr} {c0_6 : Nat} {x1 : List Arc} {a1_0 : Option Addr} {c1_0 : Nat} {x2 : Int} (f1_0 : RS σ 8 encArc (.slice a1_0 x1.length c1_0) x1) {r : Grow} (hh : A0_ x0 x1 x2 = some r) :
  Con Tryz.prog 36 #[loc b0_0 0, .slice a1_0 x1.length c1_0, .int .i64 x2] σ [Res.cells b0_0 #[.int .i64 x0.f.states, .slice a0_1 x0.f.starts.length c0_2, .slice a0_3 x0.f.ends.length c0_4, .slice a0_5 x0.f.arcs.length c0_6, .bool x0.over] Eb0, Res.rowS 41 2 encTip (.slice a0_1 x0.f.starts.length c0_2) x0.f.starts, Res.rowS 41 2 encTip (.slice a0_3 x0.f.ends.length c0_4) x0.f.ends, Res.rowS 59 8 encArc (.slice a0_5 x0.f.arcs.length c0_6) x0.f.arcs] (fun v σ' H' => ∃ (ao1 : Option Addr), ∃ (co2 : Nat), ∃ (ao3 : Option Addr), ∃ (co4 : Nat), ∃ (ao5 : Option Addr), ∃ (co6 : Nat), v = .tuple #[] ∧ σ = σ' ∧ H' = [Res.cells b0_0 #[.int .i64 r.f.states, .slice ao1 r.f.starts.length co2, .slice ao3 r.f.ends.length co4, .slice ao5 r.f.arcs.length co6, .bool r.over] Eb0, Res.rowS 41 2 encTip (.slice ao1 r.f.starts.length co2) r.f.starts, Res.rowS 41 2 encTip (.slice ao3 r.f.ends.length co4) r.f.ends, Res.rowS 59 8 encArc (.slice ao5 r.f.arcs.length co6) r.f.arcs]) := by
 dsimp only [A0_] at hh
 have f1_0b := f1_0.rv.big
 refine Con.mk (n := 32) Tryz.func36 z z z (fun w0 => ?_)
 refine TC.a (TL.s z z (TL.w z (lenC z underlying23 z) (TL.i z z (TL.en (TC.block (TC.loopG (α := (Int × (List Tip) × (List Tip) × (List Arc) × Bool × Nat) × ((Option Addr) × Nat × (Option Addr) × Nat × (Option Addr) × Nat)) (rgs [(7, 1), (10, 22)]) (fun g => [(10, .int .i64 ((g.1.2.2.2.2.2 : Nat) : Int))]) (fun g => [Res.cells b0_0 #[.int .i64 g.1.1, .slice g.2.1 g.1.2.1.length g.2.2.1, .slice g.2.2.2.1 g.1.2.2.1.length g.2.2.2.2.1, .slice g.2.2.2.2.2.1 g.1.2.2.2.1.length g.2.2.2.2.2.2, .bool g.1.2.2.2.2.1] Eb0, Res.rowS 41 2 encTip (.slice g.2.1 g.1.2.1.length g.2.2.1) g.1.2.1, Res.rowS 41 2 encTip (.slice g.2.2.2.1 g.1.2.2.1.length g.2.2.2.2.1) g.1.2.2.1, Res.rowS 59 8 encArc (.slice g.2.2.2.2.2.1 g.1.2.2.2.1.length g.2.2.2.2.2.2) g.1.2.2.2.1]) (fun g => σ) (fun g => iter (fun q : Int × (List Tip) × (List Tip) × (List Arc) × Bool × Nat => Ap_ x1 x2 q.1 q.2.1 q.2.2.1 q.2.2.2.1 q.2.2.2.2.1 q.2.2.2.2.2) g.1 = some r) (fun g => rounds (fun q : Int × (List Tip) × (List Tip) × (List Arc) × Bool × Nat => Ap_ x1 x2 q.1 q.2.1 q.2.2.1 q.2.2.2.1 q.2.2.2.2.1 q.2.2.2.2.2) g.1) ((x0.f.states, x0.f.starts, x0.f.ends, x0.f.arcs, x0.over, 0), (a0_1, c0_2, a0_3, c0_4, a0_5, c0_6)) (Sub.f [3, 3, 3, 3] 4) z (by repeat (first | exact trivial | refine ⟨z, ?_⟩)) hh (fun g1 j1 hg1 => ?_)))))))
 obtain ⟨⟨i138, l140, l144, l148, t151, k152⟩, ⟨a141, c142, a145, c146, a149, c150⟩⟩ := g1
 have hh := hg1; clear hg1
 try dsimp only
 obtain ⟨z1, hh, hR1⟩ := iter_e hh
 dsimp only [Ap_] at hh
 refine TC.isSl (i := 1) z (fun _ hb153 _ => ?_)
 refine TC.isSl (i := 2) z (fun _ hb154 _ => ?_)
 refine TC.isSl (i := 3) z (fun _ hb155 _ => ?_)
 refine TC.a (TL.w z (OpVal.lss z z z) (TL.en (TC.seq (TC.cD z hh (fun h156 hh => ?_) (fun h156 hh => ?_)))))
 ·refine TC.skip (S.n (TC.seq (TC.block (TC.a (TL.w z (indexN z underlying23 sz59 z z f1_0.rv.sl (by omega)) (TL.w z (loadSA Arc.zero z ag59 sz59 z f1_0 (by omega) (by omega)) (TL.op z (OpOk.alloc z ze59 z z (fun b157 => ?_)))))))))
  refine TL.op z (storeAll z sz59 z z z z z z ?_)
  refine TL.en (TC.region (TL.l z z (TL.w z (fieldLoc z fo59_0 z) (TL.w z (loadLoc z ag3 z (i := 0) z z) (TL.i z z (TL.w z (addW z z z) (TL.w z (fieldLoc z fo59_1 z) (TL.w z (loadLoc z ag3 z (i := 0) z z) (TL.i z z (TL.w z (addW z z z) (TL.w z (fieldLoc z fo59_2 z) (TL.w z (loadLocA z ag57 sz57 z (i := 0) z z z) (TL.w z (fieldLoc z fo59_3 z) (TL.w z (loadLoc z ag9 z (i := 0) z z) (TL.w z (fieldLoc z fo59_4 z) (TL.w z (loadLoc z ag4 z (i := 0) z z) (TL.w z (buildL z pl59 ze59 z) (TL.front 4 z z (TL.front 4 z z (TL.front 4 z z (TL.front 4 z z ?_)))))))))))))))))))))
  obtain ⟨v25, u25, hh⟩ := bnd_e hh
  refine TL.op z (OpOk.call (Dp_ u25) z z pf32 z z z z ?_)
  rintro _ _ _ hle159 ⟨a159_1, c159_2, a159_3, c159_4, a159_5, c159_6, rfl, rfl, rfl⟩
  refine TL.nil (B.n (S.n (TC.region (TL.w z (OpVal.succ z z z (by omega)) (TL.i z z (TL.en ?_))))))
  obtain ⟨hh, hlt163⟩ := nxt_x hR1 hh
  exact lf ((v25.f.states, v25.f.starts, v25.f.ends, v25.f.arcs, v25.over, (k152 + 1)), (a159_1, c159_2, a159_3, c159_4, a159_5, c159_6)) hlt163 hh (Sub.f [3, 3, 3, 3] 4)
 ·refine TC.exit (S.x (S.x ?_))
  replace hh := fin_x hR1 hh
  refine TC.exitHere ?_
  obtain rfl := so hh
  exact RetOk.mk' (rs := []) [Res.cells b0_0 #[.int .i64 i138, .slice a141 l140.length c142, .slice a145 l144.length c146, .slice a149 l148.length c150, .bool t151] Eb0, Res.rowS 41 2 encTip (.slice a141 l140.length c142) l140, Res.rowS 41 2 encTip (.slice a145 l144.length c146) l144, Res.rowS 59 8 encArc (.slice a149 l148.length c150) l148] z (.inr z) RVs.nil (List.sublist_append_left _ _) ⟨a141, c142, a145, c146, a149, c150, z, z, z⟩
noncomputable def Ad_ (x4 : List Arc) (x2 : List UInt8) (x3 : List UInt8) (x1 : Int) (x5 : Int) (i138 : Int) (l140 : List Tip) (l144 : List Tip) (l148 : List Arc) (t151 : Bool) (k152 : Nat) : Option ((Int × (List Tip) × (List Tip) × (List Arc) × Bool × Nat) ⊕ (Grow)) :=
 iteO (decide (((k152 : Nat) : Int) < ((x4.length : Nat) : Int))) (grd (x2.length + x3.length ≤ 9223372036854775807) (grd ((x2 ++ x3).length + ((nth x4 k152 Arc.zero).out).length ≤ 9223372036854775807) (bnd (Bh_ (⟨(⟨i138, l140, l144, l148⟩ : Fst), t151⟩ : Grow) (⟨x1, IntKind.i64.wrap (((nth x4 k152 Arc.zero).to) + x5), (nth x4 k152 Arc.zero).set, ((x2 ++ x3) ++ (nth x4 k152 Arc.zero).out), (nth x4 k152 Arc.zero).copy⟩ : Arc)) (fun v26 => iteO v26.over (fin (some (⟨(⟨v26.f.states, v26.f.starts, v26.f.ends, v26.f.arcs⟩ : Fst), v26.over⟩ : Grow))) (nxt (v26.f.states, v26.f.starts, v26.f.ends, v26.f.arcs, v26.over, (k152 + 1))))))) (fin (some (⟨(⟨i138, l140, l144, l148⟩ : Fst), t151⟩ : Grow)))
noncomputable def Aw_ (x0 : Grow) (x1 : Int) (x2 : List UInt8) (x3 : List UInt8) (x4 : List Arc) (x5 : Int) : Option (Grow) :=
 grd (x2.length ≤ 281474976710656) (grd (x3.length ≤ 281474976710656) (iter (fun q : Int × (List Tip) × (List Tip) × (List Arc) × Bool × Nat => Ad_ x4 x2 x3 x1 x5 q.1 q.2.1 q.2.2.1 q.2.2.2.1 q.2.2.2.2.1 q.2.2.2.2.2) (x0.f.states, x0.f.starts, x0.f.ends, x0.f.arcs, x0.over, 0)))
theorem D6_ {σ : Store} {x0 : Grow} {b0_0 : Nat} {Eb0 : Nat} {a0_1 : Option Addr} {c0_2 : Nat} {a0_3 : Option Addr} {c0_4 : Nat} {a0_5 : Option Addr} {c0_6 : Nat} {x1 : Int} {x2 : List UInt8} {x3 : List UInt8} {x4 : List Arc} {a4_0 : Option Addr} {c4_0 : Nat} {x5 : Int} (f4_0 : RS σ 8 encArc (.slice a4_0 x4.length c4_0) x4) {r : Grow} (hh : Aw_ x0 x1 x2 x3 x4 x5 = some r) :
  Con Tryz.prog 40 #[loc b0_0 0, .int .i64 x1, .string (bs x2), .string (bs x3), .slice a4_0 x4.length c4_0, .int .i64 x5] σ [Res.cells b0_0 #[.int .i64 x0.f.states, .slice a0_1 x0.f.starts.length c0_2, .slice a0_3 x0.f.ends.length c0_4, .slice a0_5 x0.f.arcs.length c0_6, .bool x0.over] Eb0, Res.rowS 41 2 encTip (.slice a0_1 x0.f.starts.length c0_2) x0.f.starts, Res.rowS 41 2 encTip (.slice a0_3 x0.f.ends.length c0_4) x0.f.ends, Res.rowS 59 8 encArc (.slice a0_5 x0.f.arcs.length c0_6) x0.f.arcs] (fun v σ' H' => ∃ (ao1 : Option Addr), ∃ (co2 : Nat), ∃ (ao3 : Option Addr), ∃ (co4 : Nat), ∃ (ao5 : Option Addr), ∃ (co6 : Nat), v = .tuple #[] ∧ σ = σ' ∧ H' = [Res.cells b0_0 #[.int .i64 r.f.states, .slice ao1 r.f.starts.length co2, .slice ao3 r.f.ends.length co4, .slice ao5 r.f.arcs.length co6, .bool r.over] Eb0, Res.rowS 41 2 encTip (.slice ao1 r.f.starts.length co2) r.f.starts, Res.rowS 41 2 encTip (.slice ao3 r.f.ends.length co4) r.f.ends, Res.rowS 59 8 encArc (.slice ao5 r.f.arcs.length co6) r.f.arcs]) := by
 dsimp only [Aw_] at hh
 have f4_0b := f4_0.rv.big
 refine Con.mk (n := 43) Tryz.func40 z z z (fun w0 => ?_)
 have x2b := grd_c hh
 replace hh := grd_t hh
 have x3b := grd_c hh
 replace hh := grd_t hh
 refine TC.a (TL.s z z (TL.w z (lenC z underlying23 z) (TL.i z z (TL.en (TC.block (TC.loopG (α := (Int × (List Tip) × (List Tip) × (List Arc) × Bool × Nat) × ((Option Addr) × Nat × (Option Addr) × Nat × (Option Addr) × Nat)) (rgs [(13, 1), (16, 27)]) (fun g => [(16, .int .i64 ((g.1.2.2.2.2.2 : Nat) : Int))]) (fun g => [Res.cells b0_0 #[.int .i64 g.1.1, .slice g.2.1 g.1.2.1.length g.2.2.1, .slice g.2.2.2.1 g.1.2.2.1.length g.2.2.2.2.1, .slice g.2.2.2.2.2.1 g.1.2.2.2.1.length g.2.2.2.2.2.2, .bool g.1.2.2.2.2.1] Eb0, Res.rowS 41 2 encTip (.slice g.2.1 g.1.2.1.length g.2.2.1) g.1.2.1, Res.rowS 41 2 encTip (.slice g.2.2.2.1 g.1.2.2.1.length g.2.2.2.2.1) g.1.2.2.1, Res.rowS 59 8 encArc (.slice g.2.2.2.2.2.1 g.1.2.2.2.1.length g.2.2.2.2.2.2) g.1.2.2.2.1]) (fun g => σ) (fun g => iter (fun q : Int × (List Tip) × (List Tip) × (List Arc) × Bool × Nat => Ad_ x4 x2 x3 x1 x5 q.1 q.2.1 q.2.2.1 q.2.2.2.1 q.2.2.2.2.1 q.2.2.2.2.2) g.1 = some r) (fun g => rounds (fun q : Int × (List Tip) × (List Tip) × (List Arc) × Bool × Nat => Ad_ x4 x2 x3 x1 x5 q.1 q.2.1 q.2.2.1 q.2.2.2.1 q.2.2.2.2.1 q.2.2.2.2.2) g.1) ((x0.f.states, x0.f.starts, x0.f.ends, x0.f.arcs, x0.over, 0), (a0_1, c0_2, a0_3, c0_4, a0_5, c0_6)) (Sub.f [3, 3, 3, 3] 4) z (by repeat (first | exact trivial | refine ⟨z, ?_⟩)) hh (fun g1 j1 hg1 => ?_)))))))
 obtain ⟨⟨i138, l140, l144, l148, t151, k152⟩, ⟨a141, c142, a145, c146, a149, c150⟩⟩ := g1
 have hh := hg1; clear hg1
 try dsimp only
 obtain ⟨z1, hh, hR1⟩ := iter_e hh
 dsimp only [Ad_] at hh
 refine TC.isSl (i := 1) z (fun _ hb153 _ => ?_)
 refine TC.isSl (i := 2) z (fun _ hb154 _ => ?_)
 refine TC.isSl (i := 3) z (fun _ hb155 _ => ?_)
 refine TC.a (TL.w z (OpVal.lss z z z) (TL.en (TC.seq (TC.cD z hh (fun h156 hh => ?_) (fun h156 hh => ?_)))))
 ·refine TC.skip (S.n (TC.seq (TC.block (TC.a (TL.w z (indexN z underlying23 sz59 z z f4_0.rv.sl (by omega)) (TL.w z (loadSA Arc.zero z ag59 sz59 z f4_0 (by omega) (by omega)) (TL.op z (OpOk.alloc z ze59 z z (fun b157 => ?_)))))))))
  refine TL.op z (storeAll z sz59 z z z z z z ?_)
  refine TL.en (TC.a (TL.l z z (TL.i z z (TL.w z (fieldLoc z fo59_1 z) (TL.w z (loadLoc z ag3 z (i := 0) z z) (TL.i z z (TL.w z (addW z z z) (TL.w z (fieldLoc z fo59_2 z) (TL.w z (loadLocA z ag57 sz57 z (i := 0) z z z) (TL.w z (moveStr (.inl z) z) (TL.w z (moveStr (.inl z) z) ?_)))))))))))
  have u19 := grd_c hh
  replace hh := grd_t hh
  refine TL.w z (catBs z z z u19) (TL.w z (fieldLoc z fo59_3 z) (TL.w z (loadLoc z ag9 z (i := 0) z z) ?_))
  have u22 := grd_c hh
  replace hh := grd_t hh
  refine TL.w z (catBs z z z u22) (TL.w z (fieldLoc z fo59_4 z) (TL.w z (loadLoc z ag4 z (i := 0) z z) (TL.w z (buildL z pl59 ze59 z) (TL.front 4 z z (TL.front 4 z z (TL.front 4 z z (TL.front 4 z z ?_)))))))
  obtain ⟨v26, u26, hh⟩ := bnd_e hh
  refine TL.op z (OpOk.call (Dp_ u26) z z pf32 z z z z ?_)
  rintro _ _ _ hle159 ⟨a159_1, c159_2, a159_3, c159_4, a159_5, c159_6, rfl, rfl, rfl⟩
  refine TL.en (TC.a (TL.l z z (TL.w z (nilCheckLoc z z) (TL.w z (fieldLoc z fo67_1 z) (TL.w z (loadLoc z ag4 z (i := 0) z z) (TL.en (TC.cB z hh (fun h163 hh => ?_) (fun h163 hh => ?_))))))))
  ·refine TC.ofSub (Sub.f [3, 3, 3, 3] 4) (TC.ret (B.r (S.r (S.r ?_))))
   replace hh := fin_x hR1 hh
   refine B.r ?_
   obtain rfl := so hh
   exact ro [Res.cells b0_0 #[.int .i64 v26.f.states, .slice a159_1 v26.f.starts.length c159_2, .slice a159_3 v26.f.ends.length c159_4, .slice a159_5 v26.f.arcs.length c159_6, .bool v26.over] Eb0, Res.rowS 41 2 encTip (.slice a159_1 v26.f.starts.length c159_2) v26.f.starts, Res.rowS 41 2 encTip (.slice a159_3 v26.f.ends.length c159_4) v26.f.ends, Res.rowS 59 8 encArc (.slice a159_5 v26.f.arcs.length c159_6) v26.f.arcs] z RVs.nil ⟨a159_1, c159_2, a159_3, c159_4, a159_5, c159_6, z, z, z⟩
  ·refine TC.skip (B.n (S.n (TC.region (TL.w z (OpVal.succ z z z (by omega)) (TL.i z z (TL.en ?_))))))
   obtain ⟨hh, hlt164⟩ := nxt_x hR1 hh
   exact lf ((v26.f.states, v26.f.starts, v26.f.ends, v26.f.arcs, v26.over, (k152 + 1)), (a159_1, c159_2, a159_3, c159_4, a159_5, c159_6)) hlt164 hh (Sub.f [3, 3, 3, 3] 4)
 ·refine TC.exit (S.x (S.x ?_))
  replace hh := fin_x hR1 hh
  refine TC.exitHere ?_
  obtain rfl := so hh
  exact RetOk.mk' (rs := []) [Res.cells b0_0 #[.int .i64 i138, .slice a141 l140.length c142, .slice a145 l144.length c146, .slice a149 l148.length c150, .bool t151] Eb0, Res.rowS 41 2 encTip (.slice a141 l140.length c142) l140, Res.rowS 41 2 encTip (.slice a145 l144.length c146) l144, Res.rowS 59 8 encArc (.slice a149 l148.length c150) l148] z (.inr z) RVs.nil (List.sublist_append_left _ _) ⟨a141, c142, a145, c146, a149, c150, z, z, z⟩
noncomputable def Ef_ (x0 : Fst) (x1 : Fst) : Option (Bool) :=
 bnd (B7_ x0) (fun v5 => iteO (decide (v5 = 0)) (bnd (B7_ x1) (fun v9 => some (decide (v9 = 0)))) (some false))
theorem Hq_ {σ : Store} {x0 : Fst} {a0_0 : Option Addr} {c0_0 : Nat} {a0_1 : Option Addr} {c0_1 : Nat} {a0_2 : Option Addr} {c0_2 : Nat} {x1 : Fst} {a1_0 : Option Addr} {c1_0 : Nat} {a1_1 : Option Addr} {c1_1 : Nat} {a1_2 : Option Addr} {c1_2 : Nat} (f0_0 : RS σ 2 encTip (.slice a0_0 x0.starts.length c0_0) x0.starts) (f0_1 : RS σ 2 encTip (.slice a0_1 x0.ends.length c0_1) x0.ends) (f0_2 : RS σ 8 encArc (.slice a0_2 x0.arcs.length c0_2) x0.arcs) (f1_0 : RS σ 2 encTip (.slice a1_0 x1.starts.length c1_0) x1.starts) (f1_1 : RS σ 2 encTip (.slice a1_1 x1.ends.length c1_1) x1.ends) (f1_2 : RS σ 8 encArc (.slice a1_2 x1.arcs.length c1_2) x1.arcs) {r : Bool} (hh : Ef_ x0 x1 = some r) :
  Con Tryz.prog 33 #[.agg #[.int .i64 x0.states, .slice a0_0 x0.starts.length c0_0, .slice a0_1 x0.ends.length c0_1, .slice a0_2 x0.arcs.length c0_2], .agg #[.int .i64 x1.states, .slice a1_0 x1.starts.length c1_0, .slice a1_1 x1.ends.length c1_1, .slice a1_2 x1.arcs.length c1_2]] σ [] (PureP (.bool r) σ) := by
 dsimp only [Ef_] at hh
 have f0_0b := f0_0.rv.big
 have f0_1b := f0_1.rv.big
 have f0_2b := f0_2.rv.big
 have f1_0b := f1_0.rv.big
 have f1_1b := f1_1.rv.big
 have f1_2b := f1_2.rv.big
 refine Con.mk (n := 13) Tryz.func33 z z z (fun w0 => ?_)
 refine TC.a (TL.op z (boxA z z z z (fun b101 => ?_)))
 refine TL.op z (boxA z z z z (fun b103 => ?_))
 refine TL.j z z (TL.en (TC.a (TL.w z (loadAll z ag25 sz25 z (i := 1) z z) ?_)))
 obtain ⟨v5, u5, hh⟩ := bnd_e hh
 refine TL.op z (callP (Dq_ (x0 := x0) f0_0 f0_1 f0_2 u5) z z pf24 z z z ?_)
 refine TL.w z (OpVal.eql z z z) (TL.j z z (TL.split 8 z (fun h105 => ?_) (fun h105 => ?_)))
 ·replace hh := iteO_t h105 hh
  replace h105 := of_decide_eq_true h105
  refine TL.g z (loadAll z ag25 sz25 z (i := 0) z z) ?_
  obtain ⟨v9, u9, hh⟩ := bnd_e hh
  refine TL.gon z z z z z (callP (Dq_ (x0 := x1) f1_0 f1_1 f1_2 u9) z z pf24 z z z ?_)
  refine TL.g z (OpVal.eql z z z) (TL.w z (pickTB z z z) (TL.j z z (TL.en (TC.rt 0 ?_))))
  obtain rfl := so hh
  exact rq [4] ⟨z, z, z⟩
 ·replace hh := iteO_f h105 hh
  replace h105 := of_decide_eq_false h105
  refine TL.f z (TL.f z (TL.f z (TL.w z (pickFB z z z) (TL.j z z (TL.en (TC.rt 0 ?_))))))
  obtain rfl := so hh
  exact rq [4] ⟨z, z, z⟩
noncomputable def De_ (l118 : List (List Arc)) (x0 : Fst) (k122 : Nat) : Option (((List (List Arc)) × Nat) ⊕ ((List (List Arc)))) :=
 nxt ((l118.set (((nth x0.arcs k122 Arc.zero).frm).toNat) ((nth l118 (((nth x0.arcs k122 Arc.zero).frm).toNat) ([] : List Arc)) ++ [(nth x0.arcs k122 Arc.zero)])), (k122 + 1))
noncomputable def Av_ (x0 : Fst) (l118 : List (List Arc)) (k122 : Nat) : Option (((List (List Arc)) × Nat) ⊕ ((List (List Arc)))) :=
 iteO (decide (((k122 : Nat) : Int) < ((x0.arcs.length : Nat) : Int))) (grd (0 ≤ ((nth x0.arcs k122 Arc.zero).frm) ∧ ((nth x0.arcs k122 Arc.zero).frm) < (l118.length : Int)) (grd (((nth l118 (((nth x0.arcs k122 Arc.zero).frm).toNat) ([] : List Arc)).length + [(nth x0.arcs k122 Arc.zero)].length) * 72 ≤ 140737488355328) (grd (0 ≤ ((nth x0.arcs k122 Arc.zero).frm) ∧ ((nth x0.arcs k122 Arc.zero).frm) < (l118.length : Int)) (De_ l118 x0 k122)))) (fin (some l118))
noncomputable def Cd_ (x0 : Fst) : Option ((List (List Arc))) :=
 grd (0 ≤ x0.states ∧ 24 * x0.states.toNat ≤ 281474976710656) (iter (fun q : (List (List Arc)) × Nat => Av_ x0 q.1 q.2) ((List.replicate x0.states.toNat ([] : List Arc)), 0))
def H6_ (σ : Store) (r : (List (List Arc))) : Value → Store → List Res → Prop := fun v σ' H' =>
 ∃ (a1 : Option Addr), ∃ (c1 : Nat),  v = .slice a1 r.length c1 ∧ RZ σ' (pkSl 8 encArc encArc_len) (.slice a1 r.length c1) r ∧ H' = []
theorem G0_ {σ : Store} {x0 : Fst} {a0_0 : Option Addr} {c0_0 : Nat} {a0_1 : Option Addr} {c0_1 : Nat} {a0_2 : Option Addr} {c0_2 : Nat} (f0_0 : RS σ 2 encTip (.slice a0_0 x0.starts.length c0_0) x0.starts) (f0_1 : RS σ 2 encTip (.slice a0_1 x0.ends.length c0_1) x0.ends) (f0_2 : RS σ 8 encArc (.slice a0_2 x0.arcs.length c0_2) x0.arcs) {r : (List (List Arc))} (hh : Cd_ x0 = some r) :
  Con Tryz.prog 39 #[.agg #[.int .i64 x0.states, .slice a0_0 x0.starts.length c0_0, .slice a0_1 x0.ends.length c0_1, .slice a0_2 x0.arcs.length c0_2]] σ [] (H6_ σ r) := by
 dsimp only [Cd_] at hh
 have f0_0b := f0_0.rv.big
 have f0_1b := f0_1.rv.big
 have f0_2b := f0_2.rv.big
 refine Con.mk (n := 30) Tryz.func39 z z z (fun w0 => ?_)
 refine TC.a (TL.op z (boxA z z z z (fun b101 => ?_)))
 refine TL.s z z (TL.en (TC.a (TL.w z (fieldLoc z fo25_0 z) (TL.w z (loadLoc z ag3 z (i := 0) z z) ?_))))
 have u5 := grd_c hh
 replace hh := grd_t hh
 refine TL.op rfl (makeN (q := x0.states.toNat) (E := 59) (size := 8) (enc := encArc) rfl underlying82 sz23 by23 ze23 rfl rfl (by show Value.int _ _ = _; rw [Int.toNat_of_nonneg u5.1]) (by show Value.int _ _ = _; rw [Int.toNat_of_nonneg u5.1]) (by omega) (by decide) rfl (fun a103 c104 zf105 => ?_))
 refine TL.s z z (TL.en (TC.seq (TC.a (TL.w z (fieldLoc z fo25_3 z) (TL.w z (loadLoc z ag23 z (i := 1) z z) (TL.w z (lenC z underlying23 z) (TL.i z z (TL.en (TC.block (TC.loopG (α := ((List (List Arc)) × Nat) × ((List (NP Arc)))) (rgs [(5, 1), (12, 17)]) (fun g => [(12, .int .i64 ((g.1.2 : Nat) : Int))]) (fun g => [Res.nest 23 59 8 encArc (.slice a103 (List.replicate x0.states.toNat ([] : List Arc)).length c104) g.2]) (fun g => σ) (fun g => iter (fun q : (List (List Arc)) × Nat => Av_ x0 q.1 q.2) g.1 = some r ∧ g.1.1.length = (List.replicate x0.states.toNat ([] : List Arc)).length ∧ Zn g.2 g.1.1) (fun g => rounds (fun q : (List (List Arc)) × Nat => Av_ x0 q.1 q.2) g.1) (((List.replicate x0.states.toNat ([] : List Arc)), 0), (List.replicate x0.states.toNat (nilN : NP Arc))) (Sub.pre 1 z) z (by repeat (first | exact trivial | refine ⟨z, ?_⟩)) ⟨hh, z, zf105⟩ (fun g1 j1 hg1 => ?_)))))))))))
 obtain ⟨⟨l118, k122⟩, z120⟩ := g1
 obtain ⟨hh, hn119, zf121⟩ := hg1
 try dsimp only at hn119 zf121 ⊢
 obtain ⟨z1, hh, hR1⟩ := iter_e hh
 dsimp only [Av_] at hh
 have hn119b := hn119
 have zf121b := zf121.len
 refine TC.know (isSl_nest (q := 0) z zf121) (fun ⟨_, hb123⟩ => ?_)
 refine TC.a (TL.w z (OpVal.lss z z z) (TL.en (TC.seq (TC.cD z hh (fun h124 hh => ?_) (fun h124 hh => ?_)))))
 ·refine TC.skip (S.n (TC.cutG (α := (Unit) × ((List (NP Arc)))) (rgs [(5, 1), (14, 14)]) (fun g => []) (fun g => [Res.nest 23 59 8 encArc (.slice a103 (List.replicate x0.states.toNat ([] : List Arc)).length c104) g.2]) (fun g => σ) (fun g => De_ l118 x0 k122 = some z1 ∧ (l118.set (((nth x0.arcs k122 Arc.zero).frm).toNat) ((nth l118 (((nth x0.arcs k122 Arc.zero).frm).toNat) ([] : List Arc)) ++ [(nth x0.arcs k122 Arc.zero)])).length = (List.replicate x0.states.toNat ([] : List Arc)).length ∧ Zn g.2 (l118.set (((nth x0.arcs k122 Arc.zero).frm).toNat) ((nth l118 (((nth x0.arcs k122 Arc.zero).frm).toNat) ([] : List Arc)) ++ [(nth x0.arcs k122 Arc.zero)]))) ?_ (fun g j hg => ?_)))
  ·skip
   refine TC.block (TC.a (TL.w z (indexN z underlying23 sz59 z z f0_2.rv.sl (by omega)) (TL.w z (loadSA Arc.zero z ag59 sz59 z f0_2 (by omega) (by omega)) (TL.op z (OpOk.alloc z ze59 z z (fun b128 => ?_))))))
   refine TL.op z (storeAll z sz59 z z z z z z ?_)
   refine TL.en ?_
   have u22 := grd_c hh
   replace hh := grd_t hh
   have u26 := grd_c hh
   replace hh := grd_t hh
   have u27 := grd_c hh
   replace hh := grd_t hh
   refine TC.drawR (Hr := [Res.cells b128 #[.int .i64 ((nth x0.arcs k122 Arc.zero).frm), .int .i64 ((nth x0.arcs k122 Arc.zero).to), .int .u64 ((((nth x0.arcs k122 Arc.zero).set).a : Nat) : Int), .int .u64 ((((nth x0.arcs k122 Arc.zero).set).b : Nat) : Int), .int .u64 ((((nth x0.arcs k122 Arc.zero).set).c : Nat) : Int), .int .u64 ((((nth x0.arcs k122 Arc.zero).set).d : Nat) : Int), .string (bs ((nth x0.arcs k122 Arc.zero).out)), .bool ((nth x0.arcs k122 Arc.zero).copy)] 59]) (fun r hr => mem_pick [0] z hr) [] (by kernel_rfl) (TA.a 0 z (moveSl (.inl z) z) z (TA.a 1 z (fieldLoc z fo59_0 z) z (TA.b 2 z (loadLoc z ag3 z (i := 0) z z) z (TA.a 3 z (moveSl (.inl z) z) z (TA.a 4 z (fieldLoc z fo59_0 z) z (TA.b 5 z (loadLoc z ag3 z (i := 0) z z) z (TA.know (isSl_nest (q := 1) z zf121) (fun ⟨hs141, hs141b⟩ => ?_))))))))
   refine TA.b 6 z (OpVal.index z underlying82 sz23 z z hs141 u22.1 u22.2) z (TA.b 8 z (loadAll z ag59 sz59 z (i := 0) z z) z ?_)
   obtain ⟨p142, hz142, hm142⟩ := Zn.at zf121 (i := ((nth x0.arcs k122 Arc.zero).frm).toNat) (by omega)
   refine TA.actN [7, 9] (by kernel_rfl) (an z z (OpVal.ok (loadN z ag23 z (q := 1) z hz142 hm142) z z ⟨(fun w h => sees_of (Store.le.refl _) (fun r hr => mem_pick [0] z hr) w h), ?_⟩) (an z z (OpOk.lit (enc := encArc) [(nth x0.arcs k122 Arc.zero)] z underlying23 sz59 ze59 z z z encArc_len (by decide) (by decide) Arc.zero z (by decide) z (by decide) encArc_one (fun a143 c144 => ⟨(fun w h => sees_of (Store.le.refl _) (fun r hr => mem_pick [1] z hr) w h), ?_⟩)) (True.intro)))
   ·skip
    refine TA.ac 9 z (OpOk.lit (enc := encArc) [(nth x0.arcs k122 Arc.zero)] z underlying23 sz59 ze59 z z z encArc_len (by decide) (by decide) Arc.zero z (by decide) z (by decide) encArc_one (fun a146 c147 => ⟨(fun w h => sees_of (Store.le.refl _) (fun r hr => mem_pick [1] z hr) w h), ?_⟩))
    refine TA.front 2 z z (TA.by (fun w h => Reach.takeN hz142 hm142 h) (TA.ac 10 z (appendS z z underlying23 sz59 by59 ze59 z z (by decide) z z z (.inr ⟨_, 1, z⟩) (by simpa using u26) (by decide) (fun a150 c151 => (k3 ?_)))))
    refine TA.know (isSl_nestX (q := 1) z zf121) (fun ⟨hs152, hs152b⟩ => ?_)
    refine TA.b 11 z (OpVal.index z underlying82 sz23 z z hs152 u27.1 u27.2) z (TA.front 1 z z (TA.front 1 z z ?_))
    have hn154 : (l118.set (((nth x0.arcs k122 Arc.zero).frm).toNat) ((nth l118 (((nth x0.arcs k122 Arc.zero).frm).toNat) ([] : List Arc)) ++ [(nth x0.arcs k122 Arc.zero)])).length = (List.replicate x0.states.toNat ([] : List Arc)).length := (List.length_set ..).trans hn119
    refine TA.ac 12 rfl (storeX (l' := ((nth l118 (((nth x0.arcs k122 Arc.zero).frm).toNat) ([] : List Arc)) ++ [(nth x0.arcs k122 Arc.zero)])) rfl sz23 rfl rfl rfl rfl rfl (by rw [zf121.len]; omega) zf121 (fun zf153 => (k2 ?_)))
    exact TA.dn (B.n (S.n (cf ((), (z120.set (((nth x0.arcs k122 Arc.zero).frm).toNat) (((nth l118 (((nth x0.arcs k122 Arc.zero).frm).toNat) ([] : List Arc)) ++ [(nth x0.arcs k122 Arc.zero)]), (a150, c151)))) ⟨hh, hn154, zf153⟩ (Sub.pre 1 z))))
   ·skip
    obtain ⟨p155, hz155, hm155⟩ := Zn.at zf121 (i := ((nth x0.arcs k122 Arc.zero).frm).toNat) (by omega)
    refine TA.ac 7 z (OpVal.ok (loadN z ag23 z (q := 2) z hz155 hm155) z z ⟨(fun w h => sees_of (Store.le.refl _) (fun r hr => mem_pick [1] z hr) w h), ?_⟩)
    refine TA.front 2 z z (TA.by (fun w h => Reach.takeN hz155 hm155 h) (TA.ac 10 z (appendS z z underlying23 sz59 by59 ze59 z z (by decide) z z z (.inr ⟨_, 1, z⟩) (by simpa using u26) (by decide) (fun a157 c158 => (k3 ?_)))))
    refine TA.know (isSl_nestX (q := 1) z zf121) (fun ⟨hs159, hs159b⟩ => ?_)
    refine TA.b 11 z (OpVal.index z underlying82 sz23 z z hs159 u27.1 u27.2) z (TA.front 1 z z (TA.front 1 z z ?_))
    have hn161 : (l118.set (((nth x0.arcs k122 Arc.zero).frm).toNat) ((nth l118 (((nth x0.arcs k122 Arc.zero).frm).toNat) ([] : List Arc)) ++ [(nth x0.arcs k122 Arc.zero)])).length = (List.replicate x0.states.toNat ([] : List Arc)).length := (List.length_set ..).trans hn119
    refine TA.ac 12 rfl (storeX (l' := ((nth l118 (((nth x0.arcs k122 Arc.zero).frm).toNat) ([] : List Arc)) ++ [(nth x0.arcs k122 Arc.zero)])) rfl sz23 rfl rfl rfl rfl rfl (by rw [zf121.len]; omega) zf121 (fun zf160 => (k2 ?_)))
    exact TA.dn (B.n (S.n (cf ((), (z120.set (((nth x0.arcs k122 Arc.zero).frm).toNat) (((nth l118 (((nth x0.arcs k122 Arc.zero).frm).toNat) ([] : List Arc)) ++ [(nth x0.arcs k122 Arc.zero)]), (a157, c158)))) ⟨hh, hn161, zf160⟩ (Sub.pre 1 z))))
  ·skip
   obtain ⟨_, z126⟩ := g
   obtain ⟨hh, hn125, zf127⟩ := hg
   try dsimp only at hn125 zf127 ⊢
   dsimp only [De_] at hh
   have hn125b := hn125
   have zf127b := zf127.len
   refine TC.know (isSl_nest (q := 0) z zf127) (fun ⟨_, hb162⟩ => ?_)
   refine TC.region (TL.w z (OpVal.succ z z z (by omega)) (TL.i z z (TL.en ?_)))
   obtain ⟨hh, hlt163⟩ := nxt_x hR1 hh
   exact lf (((l118.set (((nth x0.arcs k122 Arc.zero).frm).toNat) ((nth l118 (((nth x0.arcs k122 Arc.zero).frm).toNat) ([] : List Arc)) ++ [(nth x0.arcs k122 Arc.zero)])), (k122 + 1)), z126) hlt163 ⟨hh, hn125, zf127⟩ (Sub.pre 1 z)
 ·refine TC.exit (S.x (S.x ?_))
  replace hh := fin_x hR1 hh
  refine TC.exitHere (S.n (TC.a (TL.s z z (TL.s z z (TL.en ?_)))))
  rw [← hn119]
  refine TC.seals (fun w h => Reach.sealNest encArc_len zf121 h) (fun τ166 hle165 hr164 => ?_)
  have hr164b := hr164.big
  refine TC.ret ?_
  obtain rfl := so hh
  exact rq [2] ⟨a103, c104, z, hr164, z⟩
noncomputable def Dc_ (x0 : Fst) (x1 : Fst) : Option (Fst × Int) :=
 bnd (Ef_ x0 x1) (fun v7 => iteO (!v7) (some ((⟨0, ([] : List Tip), ([] : List Tip), ([] : List Arc)⟩ : Fst), 1)) (bnd (A3_ (⟨(⟨IntKind.i64.wrap (x0.states + x1.states), ([] : List Tip), ([] : List Tip), ([] : List Arc)⟩ : Fst), false⟩ : Grow) x0.starts 0) (fun v30 => bnd (A3_ (⟨(⟨v30.f.states, v30.f.starts, v30.f.ends, v30.f.arcs⟩ : Fst), v30.over⟩ : Grow) x1.starts x0.states) (fun v36 => bnd (A8_ (⟨(⟨v36.f.states, v36.f.starts, v36.f.ends, v36.f.arcs⟩ : Fst), v36.over⟩ : Grow) x0.ends 0) (fun v40 => bnd (A8_ (⟨(⟨v40.f.states, v40.f.starts, v40.f.ends, v40.f.arcs⟩ : Fst), v40.over⟩ : Grow) x1.ends x0.states) (fun v46 => bnd (A0_ (⟨(⟨v46.f.states, v46.f.starts, v46.f.ends, v46.f.arcs⟩ : Fst), v46.over⟩ : Grow) x0.arcs 0) (fun v50 => bnd (A0_ (⟨(⟨v50.f.states, v50.f.starts, v50.f.ends, v50.f.arcs⟩ : Fst), v50.over⟩ : Grow) x1.arcs x0.states) (fun v56 => bnd (Ae_ (⟨(⟨v56.f.states, v56.f.starts, v56.f.ends, v56.f.arcs⟩ : Fst), v56.over⟩ : Grow)) (fun v57 => some ((⟨v57.1.states, v57.1.starts, v57.1.ends, v57.1.arcs⟩ : Fst), v57.2))))))))))
def I1_ (σ : Store) (r : Fst × Int) : Value → Store → List Res → Prop := fun v σ' H' =>
 ∃ (a1 : Option Addr), ∃ (c1 : Nat), ∃ (a2 : Option Addr), ∃ (c2 : Nat), ∃ (a3 : Option Addr), ∃ (c3 : Nat),  v = .tuple #[.agg #[.int .i64 r.1.states, .slice a1 r.1.starts.length c1, .slice a2 r.1.ends.length c2, .slice a3 r.1.arcs.length c3], .int .i64 r.2] ∧ RS σ' 2 encTip (.slice a1 r.1.starts.length c1) r.1.starts ∧ RS σ' 2 encTip (.slice a2 r.1.ends.length c2) r.1.ends ∧ RS σ' 8 encArc (.slice a3 r.1.arcs.length c3) r.1.arcs ∧ H' = []
theorem Hy_ {σ : Store} {x0 : Fst} {a0_0 : Option Addr} {c0_0 : Nat} {a0_1 : Option Addr} {c0_1 : Nat} {a0_2 : Option Addr} {c0_2 : Nat} {x1 : Fst} {a1_0 : Option Addr} {c1_0 : Nat} {a1_1 : Option Addr} {c1_1 : Nat} {a1_2 : Option Addr} {c1_2 : Nat} (f0_0 : RS σ 2 encTip (.slice a0_0 x0.starts.length c0_0) x0.starts) (f0_1 : RS σ 2 encTip (.slice a0_1 x0.ends.length c0_1) x0.ends) (f0_2 : RS σ 8 encArc (.slice a0_2 x0.arcs.length c0_2) x0.arcs) (f1_0 : RS σ 2 encTip (.slice a1_0 x1.starts.length c1_0) x1.starts) (f1_1 : RS σ 2 encTip (.slice a1_1 x1.ends.length c1_1) x1.ends) (f1_2 : RS σ 8 encArc (.slice a1_2 x1.arcs.length c1_2) x1.arcs) {r : Fst × Int} (hh : Dc_ x0 x1 = some r) :
  Con Tryz.prog 10 #[.agg #[.int .i64 x0.states, .slice a0_0 x0.starts.length c0_0, .slice a0_1 x0.ends.length c0_1, .slice a0_2 x0.arcs.length c0_2], .agg #[.int .i64 x1.states, .slice a1_0 x1.starts.length c1_0, .slice a1_1 x1.ends.length c1_1, .slice a1_2 x1.arcs.length c1_2]] σ [] (I1_ σ r) := by
 dsimp only [Dc_] at hh
 have f0_0b := f0_0.rv.big
 have f0_1b := f0_1.rv.big
 have f0_2b := f0_2.rv.big
 have f1_0b := f1_0.rv.big
 have f1_1b := f1_1.rv.big
 have f1_2b := f1_2.rv.big
 refine Con.mkD (n := 54) Tryz.func10 z z z (fun w0 => ?_)
 refine TB.seq endR_ret (TC.region (TL.op z (boxA z z z z (fun b101 => ?_))))
 refine TL.op z (boxA z z z z (fun b103 => ?_))
 refine TL.op z (OpOk.alloc z ze25 z z (fun b105 => ?_))
 refine TL.op z (OpOk.alloc z ze33 z z (fun b107 => ?_))
 refine TL.en (TB.seq endR_ret (TC.a (TL.w z (loadAll z ag25 sz25 z (i := 3) z z) (TL.w z (loadAll z ag25 sz25 z (i := 2) z z) ?_))))
 obtain ⟨v7, u7, hh⟩ := bnd_e hh
 refine TL.op z (callP (Hq_ (x0 := x0) (x1 := x1) f0_0 f0_1 f0_2 f1_0 f1_1 f1_2 u7) z z pf33 z z z ?_)
 refine TL.w z (OpVal.not z z) (TL.en (TC.cB z hh (fun h109 hh => ?_) (fun h109 hh => ?_)))
 ·refine TC.a (TL.w z (buildL z pl25 ze25 z) (TL.front 1 z z (TL.op z (storeAll z sz25 z z z z z z ?_))))
  refine TL.front 1 z z (TL.op z (storeI z sz33 z z z z z ?_))
  refine TL.en (TC.ofSub (Sub.f [1] 2) (TC.ret (S.r ?_)))
  obtain rfl := so hh
  exact ro [] z (RVs.agg ag25 sz25 z (i := 0) z z (RVs.one ag33 z (i := 1) z z RVs.nil)) ⟨none, 0, none, 0, none, 0, z, (RS.nilF _ encTip encTip_len), (RS.nilF _ encTip encTip_len), (RS.nilF _ encArc encArc_len), z⟩
 ·refine TC.skip (S.n (TB.seq endR_ret (TC.region (TL.w z (buildL z pl67 ze67 z) (TL.op z (boxA z z z z (fun b110 => ?_)))))))
  refine TL.l z z (TL.en (TB.seqD (TLB.v z (moveLoc (.inl z) z) z z (TLB.dfr (dargs := [loc b110 0, loc b105 0, loc b107 0]) z z z z z (fun a_ w_ hw_ ha_ => ?_)))))
  refine TB.fin (Q := dfrQ _ _ _ _ 26 [loc b110 0, loc b105 0, loc b107 0]) (endR_dfr (cap := []) (dargs := [loc b110 0, loc b105 0, loc b107 0]) pf26) ?_ w_ a_ hw_ ha_
  clear hw_ ha_ a_ w_
  refine TC.a (TL.l z z (TL.w z (fieldLoc z fo25_0 z) (TL.w z (loadLoc z ag3 z (i := 4) z z) (TL.w z (fieldLoc z fo25_0 z) (TL.w z (loadLoc z ag3 z (i := 3) z z) (TL.w z (addW z z z) (TL.w z (nilCheckLoc z z) (TL.w z (fieldLoc z fo67_0 z) (TL.w z (fieldLoc z fo25_0 z) (TL.op z (storeI z sz3 z z z z z ?_)))))))))))
  refine TL.en (TC.a (TL.l z z (TL.w z (fieldLoc z fo25_1 z) (TL.w z (loadLoc z ag22 z (i := 4) z z) (TL.nilS 41 2 encTip (TL.nilS 41 2 encTip (TL.nilS 59 8 encArc (TL.front 1 z z (TL.front 2 z z (TL.front 3 z z ?_))))))))))
  obtain ⟨v30, u30, hh⟩ := bnd_e hh
  refine TL.op z (OpOk.call (D5_ f0_0 u30) z z pf34 z z z z ?_)
  rintro _ _ _ hle115 ⟨a115_1, c115_2, a115_3, c115_4, a115_5, c115_6, rfl, rfl, rfl⟩
  refine TL.en (TC.a (TL.l z z (TL.w z (fieldLoc z fo25_1 z) (TL.w z (loadLoc z ag22 z (i := 6) z z) (TL.w z (fieldLoc z fo25_0 z) (TL.w z (loadLoc z ag3 z (i := 7) z z) (TL.front 3 z z (TL.front 3 z z (TL.front 3 z z (TL.front 3 z z ?_))))))))))
  obtain ⟨v36, u36, hh⟩ := bnd_e hh
  refine TL.op z (OpOk.call (D5_ f1_0 u36) z z pf34 z z z z ?_)
  rintro _ _ _ hle119 ⟨a119_1, c119_2, a119_3, c119_4, a119_5, c119_6, rfl, rfl, rfl⟩
  refine TL.en (TC.a (TL.l z z (TL.w z (fieldLoc z fo25_2 z) (TL.w z (loadLoc z ag22 z (i := 7) z z) (TL.front 3 z z (TL.front 3 z z (TL.front 3 z z (TL.front 3 z z ?_))))))))
  obtain ⟨v40, u40, hh⟩ := bnd_e hh
  refine TL.op z (OpOk.call (Db_ f0_1 u40) z z pf35 z z z z ?_)
  rintro _ _ _ hle123 ⟨a123_1, c123_2, a123_3, c123_4, a123_5, c123_6, rfl, rfl, rfl⟩
  refine TL.en (TC.a (TL.l z z (TL.w z (fieldLoc z fo25_2 z) (TL.w z (loadLoc z ag22 z (i := 6) z z) (TL.w z (fieldLoc z fo25_0 z) (TL.w z (loadLoc z ag3 z (i := 7) z z) (TL.front 3 z z (TL.front 3 z z (TL.front 3 z z (TL.front 3 z z ?_))))))))))
  obtain ⟨v46, u46, hh⟩ := bnd_e hh
  refine TL.op z (OpOk.call (Db_ f1_1 u46) z z pf35 z z z z ?_)
  rintro _ _ _ hle127 ⟨a127_1, c127_2, a127_3, c127_4, a127_5, c127_6, rfl, rfl, rfl⟩
  refine TL.en (TC.a (TL.l z z (TL.w z (fieldLoc z fo25_3 z) (TL.w z (loadLoc z ag23 z (i := 7) z z) (TL.front 3 z z (TL.front 3 z z (TL.front 3 z z (TL.front 3 z z ?_))))))))
  obtain ⟨v50, u50, hh⟩ := bnd_e hh
  refine TL.op z (OpOk.call (Cb_ f0_2 u50) z z pf36 z z z z ?_)
  rintro _ _ _ hle131 ⟨a131_1, c131_2, a131_3, c131_4, a131_5, c131_6, rfl, rfl, rfl⟩
  refine TL.en (TC.a (TL.l z z (TL.w z (fieldLoc z fo25_3 z) (TL.w z (loadLoc z ag23 z (i := 6) z z) (TL.w z (fieldLoc z fo25_0 z) (TL.w z (loadLoc z ag3 z (i := 7) z z) (TL.front 3 z z (TL.front 3 z z (TL.front 3 z z (TL.front 3 z z ?_))))))))))
  obtain ⟨v56, u56, hh⟩ := bnd_e hh
  refine TL.op z (OpOk.call (Cb_ f1_2 u56) z z pf36 z z z z ?_)
  rintro _ _ _ hle135 ⟨a135_1, c135_2, a135_3, c135_4, a135_5, c135_6, rfl, rfl, rfl⟩
  refine TL.en (TC.front 4 z z (TC.front 5 z z (TC.front 5 z z (TC.front 5 z z (TC.front 5 z z (TC.front 5 z z ?_))))))
  obtain ⟨v57, u57, hh⟩ := bnd_e hh
  refine TC.ret (⟨.inl z, _, Sub.pre 6 z, (Ar_ u57).mono ?_⟩)
  rintro _ τ139 _ hle139 ⟨a139_1, c139_2, a139_4, c139_5, a139_7, c139_8, rfl, f139_3, f139_6, f139_9, rfl⟩
  have f139_3b := f139_3.rv.big
  have f139_6b := f139_6.rv.big
  have f139_9b := f139_9.rv.big
  obtain rfl := so hh
  exact RetOk.mk' (rs := [.cell 4 25, .cell 5 33]) [] z (.inl z) (RVs.agg ag25 sz25 z (i := 0) z z (RVs.one ag33 z (i := 1) z z RVs.nil)) (List.nil_sublist _) ⟨a139_1, c139_2, a139_4, c139_5, a139_7, c139_8, z, f139_3, f139_6, f139_9, z⟩
noncomputable def Dz_ (k111 : Nat) : Option ((Nat) ⊕ ((Nat) ⊕ (Bool))) :=
 nxt (k111 + 1)
noncomputable def Dx_ (x0 : Fst) (k105 : Nat) (k111 : Nat) : Option ((Nat) ⊕ ((Nat) ⊕ (Bool))) :=
 iteO (decide (((k111 : Nat) : Int) < ((x0.ends.length : Nat) : Int))) (iteO (decide (((nth x0.starts k105 Tip.zero).state) = ((nth x0.ends k111 Tip.zero).state))) (iteO (decide ((nth x0.starts k105 Tip.zero).out ≠ ([] : List UInt8))) (fin (fin (some true))) (iteO (decide ((nth x0.ends k111 Tip.zero).out ≠ ([] : List UInt8))) (fin (fin (some true))) (Dz_ k111))) (Dz_ k111)) (fin (nxt (k105 + 1)))
noncomputable def D4_ (x0 : Fst) (k105 : Nat) : Option ((Nat) ⊕ (Bool)) :=
 iteO (decide (((k105 : Nat) : Int) < ((x0.starts.length : Nat) : Int))) (iter (fun q : Nat => Dx_ x0 k105 q) 0) (fin (some false))
noncomputable def Gn_ (x0 : Fst) : Option (Bool) :=
 iter (fun q : Nat => D4_ x0 q) 0
theorem Ik_ {σ : Store} {x0 : Fst} {a0_0 : Option Addr} {c0_0 : Nat} {a0_1 : Option Addr} {c0_1 : Nat} {a0_2 : Option Addr} {c0_2 : Nat} (f0_0 : RS σ 2 encTip (.slice a0_0 x0.starts.length c0_0) x0.starts) (f0_1 : RS σ 2 encTip (.slice a0_1 x0.ends.length c0_1) x0.ends) (f0_2 : RS σ 8 encArc (.slice a0_2 x0.arcs.length c0_2) x0.arcs) {r : Bool} (hh : Gn_ x0 = some r) :
  Con Tryz.prog 68 #[.agg #[.int .i64 x0.states, .slice a0_0 x0.starts.length c0_0, .slice a0_1 x0.ends.length c0_1, .slice a0_2 x0.arcs.length c0_2]] σ [] (PureP (.bool r) σ) := by
 dsimp only [Gn_] at hh
 have f0_0b := f0_0.rv.big
 have f0_1b := f0_1.rv.big
 have f0_2b := f0_2.rv.big
 refine Con.mk (n := 38) Tryz.func68 z z z (fun w0 => ?_)
 refine TC.a (TL.op z (boxA z z z z (fun b101 => ?_)))
 refine TL.j z z (TL.en (TC.seq (TC.a (TL.w z (fieldLoc z fo25_1 z) (TL.w z (loadLoc z ag22 z (i := 0) z z) (TL.w z (lenC z underlying22 z) (TL.i z z (TL.en (TC.block (TC.loopG (α := (Nat) × (Unit)) (rgs [(2, 1), (4, 1), (6, 1), (10, 28)]) (fun g => [(10, .int .i64 ((g.1 : Nat) : Int))]) (fun g => [Res.cells b101 #[.int .i64 x0.states, .slice a0_0 x0.starts.length c0_0, .slice a0_1 x0.ends.length c0_1, .slice a0_2 x0.arcs.length c0_2] 25]) (fun g => σ) (fun g => iter (fun q : Nat => D4_ x0 q) g.1 = some r) (fun g => rounds (fun q : Nat => D4_ x0 q) g.1) (0, ()) (Sub.pre 1 z) z (by repeat (first | exact trivial | refine ⟨z, ?_⟩)) hh (fun g1 j1 hg1 => ?_)))))))))))
 obtain ⟨k105, _⟩ := g1
 have hh := hg1; clear hg1
 try dsimp only
 obtain ⟨z1, hh, hR1⟩ := iter_e hh
 dsimp only [D4_] at hh
 refine TC.a (TL.w z (OpVal.lss z z z) (TL.en (TC.seq (TC.cD z hh (fun h106 hh => ?_) (fun h106 hh => ?_)))))
 ·refine TC.skip (S.n (TC.seq (TC.block (TC.a (TL.w z (indexN z underlying22 sz41 z z f0_0.rv.sl (by omega)) (TL.w z (loadSA Tip.zero z ag41 sz41 z f0_0 (by omega) (by omega)) (TL.op z (OpOk.alloc z ze41 z z (fun b107 => ?_)))))))))
  refine TL.op z (storeAll z sz41 z z z z z z ?_)
  refine TL.en (TC.a (TL.w z (fieldLoc z fo25_2 z) (TL.w z (loadLoc z ag22 z (i := 1) z z) (TL.w z (lenC z underlying22 z) (TL.i z z (TL.en (TC.block (TC.loopG (α := (Nat) × (Unit)) (rgs [(2, 1), (6, 1), (17, 20)]) (fun g => [(17, .int .i64 ((g.1 : Nat) : Int))]) (fun g => [Res.cells b101 #[.int .i64 x0.states, .slice a0_0 x0.starts.length c0_0, .slice a0_1 x0.ends.length c0_1, .slice a0_2 x0.arcs.length c0_2] 25, Res.cells b107 #[.int .i64 ((nth x0.starts k105 Tip.zero).state), .string (bs ((nth x0.starts k105 Tip.zero).out))] 41]) (fun g => σ) (fun g => iter (fun q : Nat => Dx_ x0 k105 q) g.1 = some z1) (fun g => rounds (fun q : Nat => Dx_ x0 k105 q) g.1) (0, ()) (Sub.f [1] 2) z (by repeat (first | exact trivial | refine ⟨z, ?_⟩)) hh (fun g2 j2 hg2 => ?_)))))))))
  obtain ⟨k111, _⟩ := g2
  have hh := hg2; clear hg2
  try dsimp only
  obtain ⟨z2, hh, hR2⟩ := iter_e hh
  dsimp only [Dx_] at hh
  refine TC.a (TL.w z (OpVal.lss z z z) (TL.en (TC.seq (TC.cD z hh (fun h112 hh => ?_) (fun h112 hh => ?_)))))
  ·refine TC.skip (S.n (TC.cutG (α := (Unit) × (Unit)) (rgs [(2, 1), (6, 1), (19, 17)]) (fun g => []) (fun g => [Res.cells b101 #[.int .i64 x0.states, .slice a0_0 x0.starts.length c0_0, .slice a0_1 x0.ends.length c0_1, .slice a0_2 x0.arcs.length c0_2] 25, Res.cells b107 #[.int .i64 ((nth x0.starts k105 Tip.zero).state), .string (bs ((nth x0.starts k105 Tip.zero).out))] 41]) (fun g => σ) (fun g => Dz_ k111 = some z2) ?_ (fun g j hg => ?_)))
   ·skip
    refine TC.block (TC.a (TL.w z (indexN z underlying22 sz41 z z f0_1.rv.sl (by omega)) (TL.w z (loadSA Tip.zero z ag41 sz41 z f0_1 (by omega) (by omega)) (TL.op z (OpOk.alloc z ze41 z z (fun b113 => ?_))))))
    refine TL.op z (storeAll z sz41 z z z z z z ?_)
    refine TL.en (TC.a (TL.w z (fieldLoc z fo41_0 z) (TL.w z (loadLoc z ag3 z (i := 2) z z) (TL.w z (fieldLoc z fo41_0 z) (TL.w z (loadLoc z ag3 z (i := 0) z z) (TL.w z (OpVal.eql z z z) (TL.j z z (TL.split 26 z (fun h115 => ?_) (fun h115 => ?_)))))))))
    ·replace hh := iteO_t h115 hh
     replace h115 := of_decide_eq_true h115
     refine TL.g z (fieldLoc z fo41_1 z) (TL.g z (loadLoc z ag9 z (i := 2) z z) (TL.g z (neqBs z z z) (TL.g z (moveB (.inl z) z) (TL.split 30 z (fun h116 => ?_) (fun h116 => ?_)))))
     ·replace hh := iteO_t h116 hh
      replace h116 := of_decide_eq_true h116
      refine TL.f z (TL.f z (TL.f z (TL.g z (pickTB z z z) (TL.w z (pickTB z z z) (TL.en (TC.t z (TC.a (TL.j z z (TL.en (TC.rt 0 (B.r (S.r (S.r ?_)))))))))))))
      replace hh := fin_x hR2 hh
      refine B.r (B.r (S.r (S.r ?_)))
      replace hh := fin_x hR1 hh
      refine B.r (S.r ?_)
      obtain rfl := so hh
      exact rq [2] ⟨z, z, z⟩
     ·replace hh := iteO_f h116 hh
      replace h116 := of_decide_eq_false h116
      refine TL.g z (fieldLoc z fo41_1 z) (TL.g z (loadLoc z ag9 z (i := 0) z z) (TL.g z (neqBs z z z) (TL.g z (pickFB z z z) (TL.w z (pickTB z z z) (TL.en (TC.cD z hh (fun h117 hh => ?_) (fun h117 hh => ?_)))))))
      ·refine TC.a (TL.j z z (TL.en (TC.rt 0 (B.r (S.r (S.r ?_))))))
       replace hh := fin_x hR2 hh
       refine B.r (B.r (S.r (S.r ?_)))
       replace hh := fin_x hR1 hh
       refine B.r (S.r ?_)
       obtain rfl := so hh
       exact rq [2] ⟨z, z, z⟩
      ·exact TC.skip (B.n (S.n (cf ((), ()) hh (Sub.f [2, 2] 2))))
    ·replace hh := iteO_f h115 hh
     replace h115 := of_decide_eq_false h115
     exact TL.f z (TL.f z (TL.f z (TL.f z (TL.f z (TL.f z (TL.f z (TL.f z (TL.w z (pickFB z z z) (TL.en (TC.f z (TC.skip (B.n (S.n (cf ((), ()) hh (Sub.f [2, 2] 2)))))))))))))))
   ·skip
    obtain ⟨_, _⟩ := g
    have hh := hg; clear hg
    try dsimp only
    dsimp only [Dz_] at hh
    refine TC.region (TL.w z (OpVal.succ z z z (by omega)) (TL.i z z (TL.en ?_)))
    obtain ⟨hh, hlt118⟩ := nxt_x hR2 hh
    exact lf ((k111 + 1), ()) hlt118 hh (Sub.f [1, 1] 2)
  ·refine TC.exit (S.x (S.x ?_))
   replace hh := fin_x hR2 hh
   refine TC.exitHere (B.n (S.n (TC.region (TL.w z (OpVal.succ z z z (by omega)) (TL.i z z (TL.en ?_))))))
   obtain ⟨hh, hlt119⟩ := nxt_x hR1 hh
   exact lf ((k105 + 1), ()) hlt119 hh (Sub.pre 1 z)
 ·refine TC.exit (S.x (S.x ?_))
  replace hh := fin_x hR1 hh
  refine TC.exitHere (S.n (TC.a (TL.j z z (TL.en (TC.rt 0 ?_)))))
  obtain rfl := so hh
  exact rq [2] ⟨z, z, z⟩
noncomputable def Gk_ (l147 : List (List Tip)) (x1 : Fst) (k151 : Nat) : Option (((List (List Tip)) × Nat) ⊕ (Fst × Int)) :=
 nxt ((l147.set (((nth x1.ends k151 Tip.zero).state).toNat) ((nth l147 (((nth x1.ends k151 Tip.zero).state).toNat) ([] : List Tip)) ++ [(nth x1.ends k151 Tip.zero)])), (k151 + 1))
noncomputable def Dm_ (k311 : Nat) (i329 : Int) (l331 : List Tip) (l335 : List Tip) (l339 : List Arc) (t342 : Bool) : Option ((Int × (List Tip) × (List Tip) × (List Arc) × Bool × Nat) ⊕ ((Int × (List Tip) × (List Tip) × (List Arc) × Bool × Nat) ⊕ (Fst × Int))) :=
 iteO t342 (bnd (Ae_ (⟨(⟨i329, l331, l335, l339⟩ : Fst), t342⟩ : Grow)) (fun v168 => fin (fin (some ((⟨v168.1.states, v168.1.starts, v168.1.ends, v168.1.arcs⟩ : Fst), v168.2))))) (nxt (i329, l331, l335, l339, t342, (k311 + 1)))
noncomputable def Bm_ (l147 : List (List Tip)) (x1 : Fst) (k311 : Nat) (x0 : Fst) (k251 : Nat) (i383 : Int) (l385 : List Tip) (l389 : List Tip) (l393 : List Arc) (t396 : Bool) (k399 : Nat) : Option ((Int × (List Tip) × (List Tip) × (List Arc) × Bool × Nat) ⊕ ((Int × (List Tip) × (List Tip) × (List Arc) × Bool × Nat) ⊕ ((Int × (List Tip) × (List Tip) × (List Arc) × Bool × Nat) ⊕ (Fst × Int)))) :=
 iteO (decide (((k399 : Nat) : Int) < (((nth l147 (((nth x1.starts k311 Tip.zero).state).toNat) ([] : List Tip)).length : Nat) : Int))) (grd (((nth x0.ends k251 Tip.zero).out).length + ((nth x1.starts k311 Tip.zero).out).length ≤ 9223372036854775807) (grd (((nth x0.ends k251 Tip.zero).out ++ (nth x1.starts k311 Tip.zero).out).length + ((nth (nth l147 (((nth x1.starts k311 Tip.zero).state).toNat) ([] : List Tip)) k399 Tip.zero).out).length ≤ 9223372036854775807) (bnd (A6_ (⟨(⟨i383, l385, l389, l393⟩ : Fst), t396⟩ : Grow) (⟨(nth x0.ends k251 Tip.zero).state, (((nth x0.ends k251 Tip.zero).out ++ (nth x1.starts k311 Tip.zero).out) ++ (nth (nth l147 (((nth x1.starts k311 Tip.zero).state).toNat) ([] : List Tip)) k399 Tip.zero).out)⟩ : Tip)) (fun v135 => iteO v135.over (fin (Dm_ k311 v135.f.states v135.f.starts v135.f.ends v135.f.arcs v135.over)) (nxt (v135.f.states, v135.f.starts, v135.f.ends, v135.f.arcs, v135.over, (k399 + 1))))))) (fin (Dm_ k311 i383 l385 l389 l393 t396))
noncomputable def Bz_ (x1 : Fst) (v48 : (List (List Arc))) (x0 : Fst) (k251 : Nat) (l147 : List (List Tip)) (i295 : Int) (l297 : List Tip) (l301 : List Tip) (l305 : List Arc) (t308 : Bool) (k311 : Nat) : Option ((Int × (List Tip) × (List Tip) × (List Arc) × Bool × Nat) ⊕ ((Int × (List Tip) × (List Tip) × (List Arc) × Bool × Nat) ⊕ (Fst × Int))) :=
 iteO (decide (((k311 : Nat) : Int) < ((x1.starts.length : Nat) : Int))) (grd (0 ≤ ((nth x1.starts k311 Tip.zero).state) ∧ ((nth x1.starts k311 Tip.zero).state) < (v48.length : Int)) (bnd (Aw_ (⟨(⟨i295, l297, l301, l305⟩ : Fst), t308⟩ : Grow) ((nth x0.ends k251 Tip.zero).state) ((nth x0.ends k251 Tip.zero).out) ((nth x1.starts k311 Tip.zero).out) (nth v48 (((nth x1.starts k311 Tip.zero).state).toNat) ([] : List Arc)) x0.states) (fun v110 => grd (0 ≤ ((nth x1.starts k311 Tip.zero).state) ∧ ((nth x1.starts k311 Tip.zero).state) < (l147.length : Int)) (iter (fun q : Int × (List Tip) × (List Tip) × (List Arc) × Bool × Nat => Bm_ l147 x1 k311 x0 k251 q.1 q.2.1 q.2.2.1 q.2.2.2.1 q.2.2.2.2.1 q.2.2.2.2.2) (v110.f.states, v110.f.starts, v110.f.ends, v110.f.arcs, v110.over, 0))))) (fin (nxt (i295, l297, l301, l305, t308, (k251 + 1))))
noncomputable def B4_ (x0 : Fst) (x1 : Fst) (v48 : (List (List Arc))) (l147 : List (List Tip)) (i235 : Int) (l237 : List Tip) (l241 : List Tip) (l245 : List Arc) (t248 : Bool) (k251 : Nat) : Option ((Int × (List Tip) × (List Tip) × (List Arc) × Bool × Nat) ⊕ (Fst × Int)) :=
 iteO (decide (((k251 : Nat) : Int) < ((x0.ends.length : Nat) : Int))) (iter (fun q : Int × (List Tip) × (List Tip) × (List Arc) × Bool × Nat => Bz_ x1 v48 x0 k251 l147 q.1 q.2.1 q.2.2.1 q.2.2.2.1 q.2.2.2.2.1 q.2.2.2.2.2) (i235, l237, l241, l245, t248, 0)) (fin (bnd (Ae_ (⟨(⟨i235, l237, l241, l245⟩ : Fst), t248⟩ : Grow)) (fun v169 => some ((⟨v169.1.states, v169.1.starts, v169.1.ends, v169.1.arcs⟩ : Fst), v169.2))))
noncomputable def Cc_ (x1 : Fst) (x0 : Fst) (v48 : (List (List Arc))) (v46 : Grow) (l147 : List (List Tip)) (k151 : Nat) : Option (((List (List Tip)) × Nat) ⊕ (Fst × Int)) :=
 iteO (decide (((k151 : Nat) : Int) < ((x1.ends.length : Nat) : Int))) (grd (0 ≤ ((nth x1.ends k151 Tip.zero).state) ∧ ((nth x1.ends k151 Tip.zero).state) < (l147.length : Int)) (grd (((nth l147 (((nth x1.ends k151 Tip.zero).state).toNat) ([] : List Tip)).length + [(nth x1.ends k151 Tip.zero)].length) * 24 ≤ 140737488355328) (grd (0 ≤ ((nth x1.ends k151 Tip.zero).state) ∧ ((nth x1.ends k151 Tip.zero).state) < (l147.length : Int)) (Gk_ l147 x1 k151)))) (fin (iter (fun q : Int × (List Tip) × (List Tip) × (List Arc) × Bool × Nat => B4_ x0 x1 v48 l147 q.1 q.2.1 q.2.2.1 q.2.2.2.1 q.2.2.2.2.1 q.2.2.2.2.2) (v46.f.states, v46.f.starts, v46.f.ends, v46.f.arcs, v46.over, 0)))
noncomputable def Fn_ (x0 : Fst) (x1 : Fst) : Option (Fst × Int) :=
 bnd (Ef_ x0 x1) (fun v7 => iteO (!v7) (some ((⟨0, ([] : List Tip), ([] : List Tip), ([] : List Arc)⟩ : Fst), 1)) (bnd (A3_ (⟨(⟨IntKind.i64.wrap (x0.states + x1.states), ([] : List Tip), ([] : List Tip), ([] : List Arc)⟩ : Fst), false⟩ : Grow) x0.starts 0) (fun v30 => bnd (A8_ (⟨(⟨v30.f.states, v30.f.starts, v30.f.ends, v30.f.arcs⟩ : Fst), v30.over⟩ : Grow) x1.ends x0.states) (fun v36 => bnd (A0_ (⟨(⟨v36.f.states, v36.f.starts, v36.f.ends, v36.f.arcs⟩ : Fst), v36.over⟩ : Grow) x0.arcs 0) (fun v40 => bnd (A0_ (⟨(⟨v40.f.states, v40.f.starts, v40.f.ends, v40.f.arcs⟩ : Fst), v40.over⟩ : Grow) x1.arcs x0.states) (fun v46 => bnd (Cd_ x1) (fun v48 => grd (0 ≤ x1.states ∧ 24 * x1.states.toNat ≤ 281474976710656) (iter (fun q : (List (List Tip)) × Nat => Cc_ x1 x0 v48 v46 q.1 q.2) ((List.replicate x1.states.toNat ([] : List Tip)), 0)))))))))
def I4_ (σ : Store) (r : Fst × Int) : Value → Store → List Res → Prop := fun v σ' H' =>
 ∃ (a1 : Option Addr), ∃ (c1 : Nat), ∃ (a2 : Option Addr), ∃ (c2 : Nat), ∃ (a3 : Option Addr), ∃ (c3 : Nat),  v = .tuple #[.agg #[.int .i64 r.1.states, .slice a1 r.1.starts.length c1, .slice a2 r.1.ends.length c2, .slice a3 r.1.arcs.length c3], .int .i64 r.2] ∧ RS σ' 2 encTip (.slice a1 r.1.starts.length c1) r.1.starts ∧ RS σ' 2 encTip (.slice a2 r.1.ends.length c2) r.1.ends ∧ RS σ' 8 encArc (.slice a3 r.1.arcs.length c3) r.1.arcs ∧ H' = []
theorem Ip_ {σ : Store} {x0 : Fst} {a0_0 : Option Addr} {c0_0 : Nat} {a0_1 : Option Addr} {c0_1 : Nat} {a0_2 : Option Addr} {c0_2 : Nat} {x1 : Fst} {a1_0 : Option Addr} {c1_0 : Nat} {a1_1 : Option Addr} {c1_1 : Nat} {a1_2 : Option Addr} {c1_2 : Nat} (f0_0 : RS σ 2 encTip (.slice a0_0 x0.starts.length c0_0) x0.starts) (f0_1 : RS σ 2 encTip (.slice a0_1 x0.ends.length c0_1) x0.ends) (f0_2 : RS σ 8 encArc (.slice a0_2 x0.arcs.length c0_2) x0.arcs) (f1_0 : RS σ 2 encTip (.slice a1_0 x1.starts.length c1_0) x1.starts) (f1_1 : RS σ 2 encTip (.slice a1_1 x1.ends.length c1_1) x1.ends) (f1_2 : RS σ 8 encArc (.slice a1_2 x1.arcs.length c1_2) x1.arcs) {r : Fst × Int} (hh : Fn_ x0 x1 = some r) :
  Con Tryz.prog 13 #[.agg #[.int .i64 x0.states, .slice a0_0 x0.starts.length c0_0, .slice a0_1 x0.ends.length c0_1, .slice a0_2 x0.arcs.length c0_2], .agg #[.int .i64 x1.states, .slice a1_0 x1.starts.length c1_0, .slice a1_1 x1.ends.length c1_1, .slice a1_2 x1.arcs.length c1_2]] σ [] (I4_ σ r) := by
 dsimp only [Fn_] at hh
 have f0_0b := f0_0.rv.big
 have f0_1b := f0_1.rv.big
 have f0_2b := f0_2.rv.big
 have f1_0b := f1_0.rv.big
 have f1_1b := f1_1.rv.big
 have f1_2b := f1_2.rv.big
 refine Con.mkD (n := 142) Tryz.func13 z z z (fun w0 => ?_)
 refine TB.seq endR_ret (TC.region (TL.op z (boxA z z z z (fun b101 => ?_))))
 refine TL.op z (boxA z z z z (fun b103 => ?_))
 refine TL.op z (OpOk.alloc z ze25 z z (fun b105 => ?_))
 refine TL.op z (OpOk.alloc z ze33 z z (fun b107 => ?_))
 refine TL.en (TB.seq endR_ret (TC.a (TL.w z (loadAll z ag25 sz25 z (i := 3) z z) (TL.w z (loadAll z ag25 sz25 z (i := 2) z z) ?_))))
 obtain ⟨v7, u7, hh⟩ := bnd_e hh
 refine TL.op z (callP (Hq_ (x0 := x0) (x1 := x1) f0_0 f0_1 f0_2 f1_0 f1_1 f1_2 u7) z z pf33 z z z ?_)
 refine TL.w z (OpVal.not z z) (TL.en (TC.cB z hh (fun h109 hh => ?_) (fun h109 hh => ?_)))
 ·refine TC.a (TL.w z (buildL z pl25 ze25 z) (TL.front 1 z z (TL.op z (storeAll z sz25 z z z z z z ?_))))
  refine TL.front 1 z z (TL.op z (storeI z sz33 z z z z z ?_))
  refine TL.en (TC.ofSub (Sub.f [1] 2) (TC.ret (S.r ?_)))
  obtain rfl := so hh
  exact ro [] z (RVs.agg ag25 sz25 z (i := 0) z z (RVs.one ag33 z (i := 1) z z RVs.nil)) ⟨none, 0, none, 0, none, 0, z, (RS.nilF _ encTip encTip_len), (RS.nilF _ encTip encTip_len), (RS.nilF _ encArc encArc_len), z⟩
 ·refine TC.skip (S.n (TB.seq endR_ret (TC.region (TL.w z (buildL z pl67 ze67 z) (TL.op z (boxA z z z z (fun b110 => ?_)))))))
  refine TL.l z z (TL.en (TB.seqD (TLB.v z (moveLoc (.inl z) z) z z (TLB.dfr (dargs := [loc b110 0, loc b105 0, loc b107 0]) z z z z z (fun a_ w_ hw_ ha_ => ?_)))))
  refine TB.fin (Q := dfrQ _ _ _ _ 26 [loc b110 0, loc b105 0, loc b107 0]) (endR_dfr (cap := []) (dargs := [loc b110 0, loc b105 0, loc b107 0]) pf26) ?_ w_ a_ hw_ ha_
  clear hw_ ha_ a_ w_
  refine TC.a (TL.l z z (TL.w z (fieldLoc z fo25_0 z) (TL.w z (loadLoc z ag3 z (i := 4) z z) (TL.w z (fieldLoc z fo25_0 z) (TL.w z (loadLoc z ag3 z (i := 3) z z) (TL.w z (addW z z z) (TL.w z (nilCheckLoc z z) (TL.w z (fieldLoc z fo67_0 z) (TL.w z (fieldLoc z fo25_0 z) (TL.op z (storeI z sz3 z z z z z ?_)))))))))))
  refine TL.en (TC.a (TL.l z z (TL.w z (fieldLoc z fo25_1 z) (TL.w z (loadLoc z ag22 z (i := 4) z z) (TL.nilS 41 2 encTip (TL.nilS 41 2 encTip (TL.nilS 59 8 encArc (TL.front 1 z z (TL.front 2 z z (TL.front 3 z z ?_))))))))))
  obtain ⟨v30, u30, hh⟩ := bnd_e hh
  refine TL.op z (OpOk.call (D5_ f0_0 u30) z z pf34 z z z z ?_)
  rintro _ _ _ hle115 ⟨a115_1, c115_2, a115_3, c115_4, a115_5, c115_6, rfl, rfl, rfl⟩
  refine TL.en (TC.a (TL.l z z (TL.w z (fieldLoc z fo25_2 z) (TL.w z (loadLoc z ag22 z (i := 6) z z) (TL.w z (fieldLoc z fo25_0 z) (TL.w z (loadLoc z ag3 z (i := 7) z z) (TL.front 3 z z (TL.front 3 z z (TL.front 3 z z (TL.front 3 z z ?_))))))))))
  obtain ⟨v36, u36, hh⟩ := bnd_e hh
  refine TL.op z (OpOk.call (Db_ f1_1 u36) z z pf35 z z z z ?_)
  rintro _ _ _ hle119 ⟨a119_1, c119_2, a119_3, c119_4, a119_5, c119_6, rfl, rfl, rfl⟩
  refine TL.en (TC.a (TL.l z z (TL.w z (fieldLoc z fo25_3 z) (TL.w z (loadLoc z ag23 z (i := 7) z z) (TL.front 3 z z (TL.front 3 z z (TL.front 3 z z (TL.front 3 z z ?_))))))))
  obtain ⟨v40, u40, hh⟩ := bnd_e hh
  refine TL.op z (OpOk.call (Cb_ f0_2 u40) z z pf36 z z z z ?_)
  rintro _ _ _ hle123 ⟨a123_1, c123_2, a123_3, c123_4, a123_5, c123_6, rfl, rfl, rfl⟩
  refine TL.en (TC.a (TL.l z z (TL.w z (fieldLoc z fo25_3 z) (TL.w z (loadLoc z ag23 z (i := 6) z z) (TL.w z (fieldLoc z fo25_0 z) (TL.w z (loadLoc z ag3 z (i := 7) z z) (TL.front 3 z z (TL.front 3 z z (TL.front 3 z z (TL.front 3 z z ?_))))))))))
  obtain ⟨v46, u46, hh⟩ := bnd_e hh
  refine TL.op z (OpOk.call (Cb_ f1_2 u46) z z pf36 z z z z ?_)
  rintro _ _ _ hle127 ⟨a127_1, c127_2, a127_3, c127_4, a127_5, c127_6, rfl, rfl, rfl⟩
  refine TL.en (TC.a (TL.w z (loadAll z ag25 sz25 z (i := 6) z z) ?_))
  obtain ⟨v48, u48, hh⟩ := bnd_e hh
  refine TL.op z (OpOk.call (G0_ (x0 := x1) f1_0 f1_1 f1_2 u48) z z pf39 z z z z ?_)
  rintro _ τ131 _ hle131 ⟨a131_1, c131_1, rfl, hr131_0, rfl⟩
  replace f0_1 := f0_1.mono hle131
  replace f1_0 := f1_0.mono hle131
  replace f1_1 := f1_1.mono hle131
  have hr131_0b := hr131_0.big
  refine TL.s z z (TL.en (TC.a (TL.w z (fieldLoc z fo25_0 z) (TL.w z (loadLoc z ag3 z (i := 6) z z) ?_))))
  have u52 := grd_c hh
  replace hh := grd_t hh
  refine TL.op rfl (makeN (q := x1.states.toNat) (E := 41) (size := 2) (enc := encTip) rfl underlying84 sz22 by22 ze22 rfl rfl (by show Value.int _ _ = _; rw [Int.toNat_of_nonneg u52.1]) (by show Value.int _ _ = _; rw [Int.toNat_of_nonneg u52.1]) (by omega) (by decide) rfl (fun a132 c133 zf134 => ?_))
  refine TL.s z z (TL.en (TC.seq (TC.a (TL.w z (fieldLoc z fo25_2 z) (TL.w z (loadLoc z ag22 z (i := 7) z z) (TL.w z (lenC z underlying22 z) (TL.i z z (TL.en (TC.block (TC.loopG (α := ((List (List Tip)) × Nat) × ((List (NP Tip)))) (rgs [(10, 1), (62, 17)]) (fun g => [(62, .int .i64 ((g.1.2 : Nat) : Int))]) (fun g => [Res.cells b101 #[.int .i64 x0.states, .slice a0_0 x0.starts.length c0_0, .slice a0_1 x0.ends.length c0_1, .slice a0_2 x0.arcs.length c0_2] 25, Res.cells b103 #[.int .i64 x1.states, .slice a1_0 x1.starts.length c1_0, .slice a1_1 x1.ends.length c1_1, .slice a1_2 x1.arcs.length c1_2] 25, Res.cells b105 #[.int .i64 0, .slice none 0 0, .slice none 0 0, .slice none 0 0] 25, Res.cells b107 #[.int .i64 0] 33, Res.cells b110 #[.int .i64 v46.f.states, .slice a127_1 v46.f.starts.length c127_2, .slice a127_3 v46.f.ends.length c127_4, .slice a127_5 v46.f.arcs.length c127_6, .bool v46.over] 67, Res.rowS 41 2 encTip (.slice a127_1 v46.f.starts.length c127_2) v46.f.starts, Res.rowS 41 2 encTip (.slice a127_3 v46.f.ends.length c127_4) v46.f.ends, Res.rowS 59 8 encArc (.slice a127_5 v46.f.arcs.length c127_6) v46.f.arcs, Res.nest 22 41 2 encTip (.slice a132 (List.replicate x1.states.toNat ([] : List Tip)).length c133) g.2]) (fun g => τ131) (fun g => iter (fun q : (List (List Tip)) × Nat => Cc_ x1 x0 v48 v46 q.1 q.2) g.1 = some r ∧ g.1.1.length = (List.replicate x1.states.toNat ([] : List Tip)).length ∧ Zn g.2 g.1.1) (fun g => rounds (fun q : (List (List Tip)) × Nat => Cc_ x1 x0 v48 v46 q.1 q.2) g.1) (((List.replicate x1.states.toNat ([] : List Tip)), 0), (List.replicate x1.states.toNat (nilN : NP Tip))) (Sub.f [4, 4, 4, 4, 5, 6, 7, 8] 9) z (by repeat (first | exact trivial | refine ⟨z, ?_⟩)) ⟨hh, z, zf134⟩ (fun g1 j1 hg1 => ?_)))))))))))
  obtain ⟨⟨l147, k151⟩, z149⟩ := g1
  obtain ⟨hh, hn148, zf150⟩ := hg1
  try dsimp only at hn148 zf150 ⊢
  obtain ⟨z1, hh, hR1⟩ := iter_e hh
  dsimp only [Cc_] at hh
  have hn148b := hn148
  have zf150b := zf150.len
  refine TC.isSl (i := 5) z (fun _ hb152 _ => ?_)
  refine TC.isSl (i := 6) z (fun _ hb153 _ => ?_)
  refine TC.isSl (i := 7) z (fun _ hb154 _ => ?_)
  refine TC.know (isSl_nest (q := 8) z zf150) (fun ⟨_, hb155⟩ => ?_)
  refine TC.a (TL.w z (OpVal.lss z z z) (TL.en (TC.seq (TC.cD z hh (fun h156 hh => ?_) (fun h156 hh => ?_)))))
  ·refine TC.skip (S.n (TC.cutG (α := (Unit) × ((List (NP Tip)))) (rgs [(10, 1), (64, 14)]) (fun g => []) (fun g => [Res.cells b101 #[.int .i64 x0.states, .slice a0_0 x0.starts.length c0_0, .slice a0_1 x0.ends.length c0_1, .slice a0_2 x0.arcs.length c0_2] 25, Res.cells b103 #[.int .i64 x1.states, .slice a1_0 x1.starts.length c1_0, .slice a1_1 x1.ends.length c1_1, .slice a1_2 x1.arcs.length c1_2] 25, Res.cells b105 #[.int .i64 0, .slice none 0 0, .slice none 0 0, .slice none 0 0] 25, Res.cells b107 #[.int .i64 0] 33, Res.cells b110 #[.int .i64 v46.f.states, .slice a127_1 v46.f.starts.length c127_2, .slice a127_3 v46.f.ends.length c127_4, .slice a127_5 v46.f.arcs.length c127_6, .bool v46.over] 67, Res.rowS 41 2 encTip (.slice a127_1 v46.f.starts.length c127_2) v46.f.starts, Res.rowS 41 2 encTip (.slice a127_3 v46.f.ends.length c127_4) v46.f.ends, Res.rowS 59 8 encArc (.slice a127_5 v46.f.arcs.length c127_6) v46.f.arcs, Res.nest 22 41 2 encTip (.slice a132 (List.replicate x1.states.toNat ([] : List Tip)).length c133) g.2]) (fun g => τ131) (fun g => Gk_ l147 x1 k151 = some z1 ∧ (l147.set (((nth x1.ends k151 Tip.zero).state).toNat) ((nth l147 (((nth x1.ends k151 Tip.zero).state).toNat) ([] : List Tip)) ++ [(nth x1.ends k151 Tip.zero)])).length = (List.replicate x1.states.toNat ([] : List Tip)).length ∧ Zn g.2 (l147.set (((nth x1.ends k151 Tip.zero).state).toNat) ((nth l147 (((nth x1.ends k151 Tip.zero).state).toNat) ([] : List Tip)) ++ [(nth x1.ends k151 Tip.zero)]))) ?_ (fun g j hg => ?_)))
   ·skip
    refine TC.block (TC.a (TL.w z (indexN z underlying22 sz41 z z f1_1.rv.sl (by omega)) (TL.w z (loadSA Tip.zero z ag41 sz41 z f1_1 (by omega) (by omega)) (TL.op z (OpOk.alloc z ze41 z z (fun b160 => ?_))))))
    refine TL.op z (storeAll z sz41 z z z z z z ?_)
    refine TL.en ?_
    have u69 := grd_c hh
    replace hh := grd_t hh
    have u73 := grd_c hh
    replace hh := grd_t hh
    have u74 := grd_c hh
    replace hh := grd_t hh
    refine TC.drawR (Hr := [Res.cells b160 #[.int .i64 ((nth x1.ends k151 Tip.zero).state), .string (bs ((nth x1.ends k151 Tip.zero).out))] 41, Res.cells b101 #[.int .i64 x0.states, .slice a0_0 x0.starts.length c0_0, .slice a0_1 x0.ends.length c0_1, .slice a0_2 x0.arcs.length c0_2] 25, Res.cells b103 #[.int .i64 x1.states, .slice a1_0 x1.starts.length c1_0, .slice a1_1 x1.ends.length c1_1, .slice a1_2 x1.arcs.length c1_2] 25, Res.cells b105 #[.int .i64 0, .slice none 0 0, .slice none 0 0, .slice none 0 0] 25, Res.cells b107 #[.int .i64 0] 33, Res.cells b110 #[.int .i64 v46.f.states, .slice a127_1 v46.f.starts.length c127_2, .slice a127_3 v46.f.ends.length c127_4, .slice a127_5 v46.f.arcs.length c127_6, .bool v46.over] 67, Res.rowS 41 2 encTip (.slice a127_1 v46.f.starts.length c127_2) v46.f.starts, Res.rowS 41 2 encTip (.slice a127_3 v46.f.ends.length c127_4) v46.f.ends, Res.rowS 59 8 encArc (.slice a127_5 v46.f.arcs.length c127_6) v46.f.arcs]) (fun r hr => mem_pick [0, 1, 2, 3, 4, 5, 6, 7, 8] z hr) [] (by kernel_rfl) (TA.a 0 z (moveSl (.inl z) z) z (TA.a 1 z (fieldLoc z fo41_0 z) z (TA.b 2 z (loadLoc z ag3 z (i := 0) z z) z (TA.a 3 z (moveSl (.inl z) z) z (TA.a 4 z (fieldLoc z fo41_0 z) z (TA.b 5 z (loadLoc z ag3 z (i := 0) z z) z (TA.know (isSl_nest (q := 9) z zf150) (fun ⟨hs173, hs173b⟩ => ?_))))))))
    refine TA.b 6 z (OpVal.index z underlying84 sz22 z z hs173 u69.1 u69.2) z (TA.b 8 z (loadAll z ag41 sz41 z (i := 0) z z) z ?_)
    obtain ⟨p174, hz174, hm174⟩ := Zn.at zf150 (i := ((nth x1.ends k151 Tip.zero).state).toNat) (by omega)
    refine TA.actN [7, 9] (by kernel_rfl) (an z z (OpVal.ok (loadN z ag22 z (q := 9) z hz174 hm174) z z ⟨(fun w h => sees_of (Store.le.refl _) (fun r hr => mem_pick [0, 1, 2, 3, 4, 5, 6, 7, 8] z hr) w h), ?_⟩) (an z z (OpOk.lit (enc := encTip) [(nth x1.ends k151 Tip.zero)] z underlying22 sz41 ze41 z z z encTip_len (by decide) (by decide) Tip.zero z (by decide) z (by decide) encTip_one (fun a175 c176 => ⟨(fun w h => sees_of (Store.le.refl _) (fun r hr => mem_pick [1, 2, 3, 4, 5, 6, 7, 8, 9] z hr) w h), ?_⟩)) (True.intro)))
    ·skip
     refine TA.ac 9 z (OpOk.lit (enc := encTip) [(nth x1.ends k151 Tip.zero)] z underlying22 sz41 ze41 z z z encTip_len (by decide) (by decide) Tip.zero z (by decide) z (by decide) encTip_one (fun a178 c179 => ⟨(fun w h => sees_of (Store.le.refl _) (fun r hr => mem_pick [1, 2, 3, 4, 5, 6, 7, 8, 9] z hr) w h), ?_⟩))
     refine TA.front 10 z z (TA.by (fun w h => Reach.takeN hz174 hm174 h) (TA.ac 10 z (appendS z z underlying22 sz41 by41 ze41 z z (by decide) z z z (.inr ⟨_, 1, z⟩) (by simpa using u73) (by decide) (fun a182 c183 => (k3 ?_)))))
     refine TA.know (isSl_nestX (q := 1) z zf150) (fun ⟨hs184, hs184b⟩ => ?_)
     refine TA.b 11 z (OpVal.index z underlying84 sz22 z z hs184 u74.1 u74.2) z (TA.front 1 z z (TA.front 1 z z ?_))
     have hn186 : (l147.set (((nth x1.ends k151 Tip.zero).state).toNat) ((nth l147 (((nth x1.ends k151 Tip.zero).state).toNat) ([] : List Tip)) ++ [(nth x1.ends k151 Tip.zero)])).length = (List.replicate x1.states.toNat ([] : List Tip)).length := (List.length_set ..).trans hn148
     refine TA.ac 12 rfl (storeX (l' := ((nth l147 (((nth x1.ends k151 Tip.zero).state).toNat) ([] : List Tip)) ++ [(nth x1.ends k151 Tip.zero)])) rfl sz22 rfl rfl rfl rfl rfl (by rw [zf150.len]; omega) zf150 (fun zf185 => (k2 ?_)))
     exact TA.dn (B.n (S.n (cf ((), (z149.set (((nth x1.ends k151 Tip.zero).state).toNat) (((nth l147 (((nth x1.ends k151 Tip.zero).state).toNat) ([] : List Tip)) ++ [(nth x1.ends k151 Tip.zero)]), (a182, c183)))) ⟨hh, hn186, zf185⟩ (Sub.f [10, 10, 10, 10, 10, 10, 10, 10] 9))))
    ·skip
     obtain ⟨p187, hz187, hm187⟩ := Zn.at zf150 (i := ((nth x1.ends k151 Tip.zero).state).toNat) (by omega)
     refine TA.ac 7 z (OpVal.ok (loadN z ag22 z (q := 10) z hz187 hm187) z z ⟨(fun w h => sees_of (Store.le.refl _) (fun r hr => mem_pick [1, 2, 3, 4, 5, 6, 7, 8, 9] z hr) w h), ?_⟩)
     refine TA.front 10 z z (TA.by (fun w h => Reach.takeN hz187 hm187 h) (TA.ac 10 z (appendS z z underlying22 sz41 by41 ze41 z z (by decide) z z z (.inr ⟨_, 1, z⟩) (by simpa using u73) (by decide) (fun a189 c190 => (k3 ?_)))))
     refine TA.know (isSl_nestX (q := 1) z zf150) (fun ⟨hs191, hs191b⟩ => ?_)
     refine TA.b 11 z (OpVal.index z underlying84 sz22 z z hs191 u74.1 u74.2) z (TA.front 1 z z (TA.front 1 z z ?_))
     have hn193 : (l147.set (((nth x1.ends k151 Tip.zero).state).toNat) ((nth l147 (((nth x1.ends k151 Tip.zero).state).toNat) ([] : List Tip)) ++ [(nth x1.ends k151 Tip.zero)])).length = (List.replicate x1.states.toNat ([] : List Tip)).length := (List.length_set ..).trans hn148
     refine TA.ac 12 rfl (storeX (l' := ((nth l147 (((nth x1.ends k151 Tip.zero).state).toNat) ([] : List Tip)) ++ [(nth x1.ends k151 Tip.zero)])) rfl sz22 rfl rfl rfl rfl rfl (by rw [zf150.len]; omega) zf150 (fun zf192 => (k2 ?_)))
     exact TA.dn (B.n (S.n (cf ((), (z149.set (((nth x1.ends k151 Tip.zero).state).toNat) (((nth l147 (((nth x1.ends k151 Tip.zero).state).toNat) ([] : List Tip)) ++ [(nth x1.ends k151 Tip.zero)]), (a189, c190)))) ⟨hh, hn193, zf192⟩ (Sub.f [10, 10, 10, 10, 10, 10, 10, 10] 9))))
   ·skip
    obtain ⟨_, z158⟩ := g
    obtain ⟨hh, hn157, zf159⟩ := hg
    try dsimp only at hn157 zf159 ⊢
    dsimp only [Gk_] at hh
    have hn157b := hn157
    have zf159b := zf159.len
    refine TC.isSl (i := 5) z (fun _ hb194 _ => ?_)
    refine TC.isSl (i := 6) z (fun _ hb195 _ => ?_)
    refine TC.isSl (i := 7) z (fun _ hb196 _ => ?_)
    refine TC.know (isSl_nest (q := 8) z zf159) (fun ⟨_, hb197⟩ => ?_)
    refine TC.region (TL.w z (OpVal.succ z z z (by omega)) (TL.i z z (TL.en ?_)))
    obtain ⟨hh, hlt198⟩ := nxt_x hR1 hh
    exact lf (((l147.set (((nth x1.ends k151 Tip.zero).state).toNat) ((nth l147 (((nth x1.ends k151 Tip.zero).state).toNat) ([] : List Tip)) ++ [(nth x1.ends k151 Tip.zero)])), (k151 + 1)), z158) hlt198 ⟨hh, hn157, zf159⟩ (Sub.f [8, 8, 8, 8, 8, 8, 8, 8, 8] 9)
  ·refine TC.exit (S.x (S.x ?_))
   replace hh := fin_x hR1 hh
   refine TC.exitHere (S.n (TC.seq (TC.a (TL.w z (fieldLoc z fo25_2 z) (TL.w z (loadLoc z ag22 z (i := 0) z z) (TL.w z (lenC z underlying22 z) (TL.i z z (TL.en (TC.block (TC.loopG (α := (Int × (List Tip) × (List Tip) × (List Arc) × Bool × Nat) × ((Option Addr) × Nat × (Option Addr) × Nat × (Option Addr) × Nat)) (rgs [(12, 1), (14, 1), (16, 1), (82, 60)]) (fun g => [(82, .int .i64 ((g.1.2.2.2.2.2 : Nat) : Int))]) (fun g => [Res.cells b101 #[.int .i64 x0.states, .slice a0_0 x0.starts.length c0_0, .slice a0_1 x0.ends.length c0_1, .slice a0_2 x0.arcs.length c0_2] 25, Res.cells b103 #[.int .i64 x1.states, .slice a1_0 x1.starts.length c1_0, .slice a1_1 x1.ends.length c1_1, .slice a1_2 x1.arcs.length c1_2] 25, Res.cells b105 #[.int .i64 0, .slice none 0 0, .slice none 0 0, .slice none 0 0] 25, Res.cells b107 #[.int .i64 0] 33, Res.cells b110 #[.int .i64 g.1.1, .slice g.2.1 g.1.2.1.length g.2.2.1, .slice g.2.2.2.1 g.1.2.2.1.length g.2.2.2.2.1, .slice g.2.2.2.2.2.1 g.1.2.2.2.1.length g.2.2.2.2.2.2, .bool g.1.2.2.2.2.1] 67, Res.rowS 41 2 encTip (.slice g.2.1 g.1.2.1.length g.2.2.1) g.1.2.1, Res.rowS 41 2 encTip (.slice g.2.2.2.1 g.1.2.2.1.length g.2.2.2.2.1) g.1.2.2.1, Res.rowS 59 8 encArc (.slice g.2.2.2.2.2.1 g.1.2.2.2.1.length g.2.2.2.2.2.2) g.1.2.2.2.1, Res.nest 22 41 2 encTip (.slice a132 (List.replicate x1.states.toNat ([] : List Tip)).length c133) z149]) (fun g => τ131) (fun g => iter (fun q : Int × (List Tip) × (List Tip) × (List Arc) × Bool × Nat => B4_ x0 x1 v48 l147 q.1 q.2.1 q.2.2.1 q.2.2.2.1 q.2.2.2.2.1 q.2.2.2.2.2) g.1 = some r ∧ l147.length = (List.replicate x1.states.toNat ([] : List Tip)).length ∧ Zn z149 l147) (fun g => rounds (fun q : Int × (List Tip) × (List Tip) × (List Arc) × Bool × Nat => B4_ x0 x1 v48 l147 q.1 q.2.1 q.2.2.1 q.2.2.2.1 q.2.2.2.2.1 q.2.2.2.2.2) g.1) ((v46.f.states, v46.f.starts, v46.f.ends, v46.f.arcs, v46.over, 0), (a127_1, c127_2, a127_3, c127_4, a127_5, c127_6)) (Sub.f [8, 8, 8, 8, 8, 8, 8, 8, 8] 9) z (by repeat (first | exact trivial | refine ⟨z, ?_⟩)) ⟨hh, hn148, zf150⟩ (fun g2 j2 hg2 => ?_)))))))))))
   obtain ⟨⟨i235, l237, l241, l245, t248, k251⟩, ⟨a238, c239, a242, c243, a246, c247⟩⟩ := g2
   obtain ⟨hh, hn249, zf250⟩ := hg2
   try dsimp only at hn249 zf250 ⊢
   obtain ⟨z1, hh, hR1⟩ := iter_e hh
   dsimp only [B4_] at hh
   have hn249b := hn249
   have zf250b := zf250.len
   refine TC.isSl (i := 5) z (fun _ hb252 _ => ?_)
   refine TC.isSl (i := 6) z (fun _ hb253 _ => ?_)
   refine TC.isSl (i := 7) z (fun _ hb254 _ => ?_)
   refine TC.know (isSl_nest (q := 8) z zf250) (fun ⟨_, hb255⟩ => ?_)
   refine TC.a (TL.w z (OpVal.lss z z z) (TL.en (TC.seq (TC.cD z hh (fun h256 hh => ?_) (fun h256 hh => ?_)))))
   ·refine TC.skip (S.n (TC.seq (TC.block (TC.a (TL.w z (indexN z underlying22 sz41 z z f0_1.rv.sl (by omega)) (TL.w z (loadSA Tip.zero z ag41 sz41 z f0_1 (by omega) (by omega)) (TL.op z (OpOk.alloc z ze41 z z (fun b257 => ?_)))))))))
    refine TL.op z (storeAll z sz41 z z z z z z ?_)
    refine TL.en (TC.a (TL.w z (fieldLoc z fo25_1 z) (TL.w z (loadLoc z ag22 z (i := 2) z z) (TL.w z (lenC z underlying22 z) (TL.i z z (TL.en (TC.block (TC.loopG (α := (Int × (List Tip) × (List Tip) × (List Arc) × Bool × Nat) × ((Option Addr) × Nat × (Option Addr) × Nat × (Option Addr) × Nat)) (rgs [(14, 1), (16, 1), (89, 52)]) (fun g => [(89, .int .i64 ((g.1.2.2.2.2.2 : Nat) : Int))]) (fun g => [Res.cells b101 #[.int .i64 x0.states, .slice a0_0 x0.starts.length c0_0, .slice a0_1 x0.ends.length c0_1, .slice a0_2 x0.arcs.length c0_2] 25, Res.cells b103 #[.int .i64 x1.states, .slice a1_0 x1.starts.length c1_0, .slice a1_1 x1.ends.length c1_1, .slice a1_2 x1.arcs.length c1_2] 25, Res.cells b105 #[.int .i64 0, .slice none 0 0, .slice none 0 0, .slice none 0 0] 25, Res.cells b107 #[.int .i64 0] 33, Res.cells b110 #[.int .i64 g.1.1, .slice g.2.1 g.1.2.1.length g.2.2.1, .slice g.2.2.2.1 g.1.2.2.1.length g.2.2.2.2.1, .slice g.2.2.2.2.2.1 g.1.2.2.2.1.length g.2.2.2.2.2.2, .bool g.1.2.2.2.2.1] 67, Res.rowS 41 2 encTip (.slice g.2.1 g.1.2.1.length g.2.2.1) g.1.2.1, Res.rowS 41 2 encTip (.slice g.2.2.2.1 g.1.2.2.1.length g.2.2.2.2.1) g.1.2.2.1, Res.rowS 59 8 encArc (.slice g.2.2.2.2.2.1 g.1.2.2.2.1.length g.2.2.2.2.2.2) g.1.2.2.2.1, Res.nest 22 41 2 encTip (.slice a132 (List.replicate x1.states.toNat ([] : List Tip)).length c133) z149, Res.cells b257 #[.int .i64 ((nth x0.ends k251 Tip.zero).state), .string (bs ((nth x0.ends k251 Tip.zero).out))] 41]) (fun g => τ131) (fun g => iter (fun q : Int × (List Tip) × (List Tip) × (List Arc) × Bool × Nat => Bz_ x1 v48 x0 k251 l147 q.1 q.2.1 q.2.2.1 q.2.2.2.1 q.2.2.2.2.1 q.2.2.2.2.2) g.1 = some z1 ∧ l147.length = (List.replicate x1.states.toNat ([] : List Tip)).length ∧ Zn z149 l147) (fun g => rounds (fun q : Int × (List Tip) × (List Tip) × (List Arc) × Bool × Nat => Bz_ x1 v48 x0 k251 l147 q.1 q.2.1 q.2.2.1 q.2.2.2.1 q.2.2.2.2.1 q.2.2.2.2.2) g.1) ((i235, l237, l241, l245, t248, 0), (a238, c239, a242, c243, a246, c247)) (Sub.f [9, 9, 9, 9, 9, 9, 9, 9, 9] 10) z (by repeat (first | exact trivial | refine ⟨z, ?_⟩)) ⟨hh, hn249, zf250⟩ (fun g3 j3 hg3 => ?_)))))))))
    obtain ⟨⟨i295, l297, l301, l305, t308, k311⟩, ⟨a298, c299, a302, c303, a306, c307⟩⟩ := g3
    obtain ⟨hh, hn309, zf310⟩ := hg3
    try dsimp only at hn309 zf310 ⊢
    obtain ⟨z2, hh, hR2⟩ := iter_e hh
    dsimp only [Bz_] at hh
    have hn309b := hn309
    have zf310b := zf310.len
    refine TC.isSl (i := 5) z (fun _ hb312 _ => ?_)
    refine TC.isSl (i := 6) z (fun _ hb313 _ => ?_)
    refine TC.isSl (i := 7) z (fun _ hb314 _ => ?_)
    refine TC.know (isSl_nest (q := 8) z zf310) (fun ⟨_, hb315⟩ => ?_)
    refine TC.a (TL.w z (OpVal.lss z z z) (TL.en (TC.seq (TC.cD z hh (fun h316 hh => ?_) (fun h316 hh => ?_)))))
    ·refine TC.skip (S.n (TC.seq (TC.block (TC.a (TL.w z (indexN z underlying22 sz41 z z f1_0.rv.sl (by omega)) (TL.w z (loadSA Tip.zero z ag41 sz41 z f1_0 (by omega) (by omega)) (TL.op z (OpOk.alloc z ze41 z z (fun b317 => ?_)))))))))
     refine TL.op z (storeAll z sz41 z z z z z z ?_)
     refine TL.en (TC.seq ?_)
     have u106 := grd_c hh
     replace hh := grd_t hh
     obtain ⟨v110, u110, hh⟩ := bnd_e hh
     refine TC.drawR (Hr := [Res.cells b317 #[.int .i64 ((nth x1.starts k311 Tip.zero).state), .string (bs ((nth x1.starts k311 Tip.zero).out))] 41, Res.cells b101 #[.int .i64 x0.states, .slice a0_0 x0.starts.length c0_0, .slice a0_1 x0.ends.length c0_1, .slice a0_2 x0.arcs.length c0_2] 25, Res.cells b103 #[.int .i64 x1.states, .slice a1_0 x1.starts.length c1_0, .slice a1_1 x1.ends.length c1_1, .slice a1_2 x1.arcs.length c1_2] 25, Res.cells b105 #[.int .i64 0, .slice none 0 0, .slice none 0 0, .slice none 0 0] 25, Res.cells b107 #[.int .i64 0] 33, Res.nest 22 41 2 encTip (.slice a132 (List.replicate x1.states.toNat ([] : List Tip)).length c133) z149, Res.cells b257 #[.int .i64 ((nth x0.ends k251 Tip.zero).state), .string (bs ((nth x0.ends k251 Tip.zero).out))] 41]) (fun r hr => mem_pick [0, 1, 2, 3, 4, 9, 10] z hr) [] (by kernel_rfl) (TA.a 0 z (moveLoc (.inl z) z) z (TA.a 1 z (fieldLoc z fo41_0 z) z (TA.b 2 z (loadLoc z ag3 z (i := 6) z z) z (TA.a 3 z (fieldLoc z fo41_1 z) z (TA.b 4 z (loadLoc z ag9 z (i := 6) z z) z (TA.a 5 z (fieldLoc z fo41_1 z) z (TA.b 6 z (loadLoc z ag9 z (i := 0) z z) z (TA.a 7 z (moveSl (.inl z) z) z (TA.a 8 z (fieldLoc z fo41_0 z) z (TA.b 9 z (loadLoc z ag3 z (i := 0) z z) z (TA.b 10 z (OpVal.index z underlying82 sz23 z z hr131_0.isSl u106.1 u106.2) z ?_)))))))))))
     obtain ⟨p324, hk324, hg324⟩ := RZ.seg hr131_0 (((nth x1.starts k311 Tip.zero).state).toNat) (by omega)
     replace hk324 : RS _ 8 encArc (.slice p324.1 (nth v48 (((nth x1.starts k311 Tip.zero).state).toNat) ([] : List Arc)).length p324.2) (nth v48 (((nth x1.starts k311 Tip.zero).state).toNat) ([] : List Arc)) := hk324
     have hk324b := hk324.rv.big
     refine TA.b 11 z (OpVal.of (loadSeg0 z ag23 z hg324 z) (v' := .slice p324.1 ((nth v48 (((nth x1.starts k311 Tip.zero).state).toNat) ([] : List Arc)).length) p324.2) z) z (TA.a 12 z (fieldLoc z fo25_0 z) z (TA.b 13 z (loadLoc z ag3 z (i := 1) z z) z (TA.front 8 z z (TA.front 8 z z (TA.front 8 z z (TA.front 8 z z (TA.ac 14 z (OpOk.call (D6_ hk324 u110) z z pf40 z z z z ?_))))))))
     rintro _ _ _ hle325 ⟨a325_1, c325_2, a325_3, c325_4, a325_5, c325_6, rfl, rfl, rfl⟩
     refine kc 4 (TA.dn (S.n (TC.cutG (α := (Int × (List Tip) × (List Tip) × (List Arc) × Bool) × ((Option Addr) × Nat × (Option Addr) × Nat × (Option Addr) × Nat)) (rgs [(16, 1), (108, 28)]) (fun g => []) (fun g => [Res.cells b101 #[.int .i64 x0.states, .slice a0_0 x0.starts.length c0_0, .slice a0_1 x0.ends.length c0_1, .slice a0_2 x0.arcs.length c0_2] 25, Res.cells b103 #[.int .i64 x1.states, .slice a1_0 x1.starts.length c1_0, .slice a1_1 x1.ends.length c1_1, .slice a1_2 x1.arcs.length c1_2] 25, Res.cells b105 #[.int .i64 0, .slice none 0 0, .slice none 0 0, .slice none 0 0] 25, Res.cells b107 #[.int .i64 0] 33, Res.cells b110 #[.int .i64 g.1.1, .slice g.2.1 g.1.2.1.length g.2.2.1, .slice g.2.2.2.1 g.1.2.2.1.length g.2.2.2.2.1, .slice g.2.2.2.2.2.1 g.1.2.2.2.1.length g.2.2.2.2.2.2, .bool g.1.2.2.2.2] 67, Res.rowS 41 2 encTip (.slice g.2.1 g.1.2.1.length g.2.2.1) g.1.2.1, Res.rowS 41 2 encTip (.slice g.2.2.2.1 g.1.2.2.1.length g.2.2.2.2.1) g.1.2.2.1, Res.rowS 59 8 encArc (.slice g.2.2.2.2.2.1 g.1.2.2.2.1.length g.2.2.2.2.2.2) g.1.2.2.2.1, Res.nest 22 41 2 encTip (.slice a132 (List.replicate x1.states.toNat ([] : List Tip)).length c133) z149, Res.cells b257 #[.int .i64 ((nth x0.ends k251 Tip.zero).state), .string (bs ((nth x0.ends k251 Tip.zero).out))] 41]) (fun g => τ131) (fun g => Dm_ k311 g.1.1 g.1.2.1 g.1.2.2.1 g.1.2.2.2.1 g.1.2.2.2.2 = some z2 ∧ l147.length = (List.replicate x1.states.toNat ([] : List Tip)).length ∧ Zn z149 l147) ?_ (fun g j hg => ?_))))
     ·skip
      refine TC.a (TL.s z z (TL.w z (fieldLoc z fo41_0 z) (TL.w z (loadLoc z ag3 z (i := 4) z z) ?_)))
      have u114 := grd_c hh
      replace hh := grd_t hh
      refine TL.know (isSl_nest (q := 9) z zf310) (fun ⟨hs345, hs345b⟩ => ?_)
      refine TL.w z (OpVal.index z underlying84 sz22 z z hs345 u114.1 u114.2) ?_
      obtain ⟨p346, hz346, hm346⟩ := Zn.at zf310 (i := ((nth x1.starts k311 Tip.zero).state).toNat) (by omega)
      refine TL.w z (loadN z ag22 z (q := 9) z hz346 hm346) (TL.w z (lenC z underlying22 z) (TL.i z z (TL.en (TC.block (TC.loopG (α := (Int × (List Tip) × (List Tip) × (List Arc) × Bool × Nat) × ((Option Addr) × Nat × (Option Addr) × Nat × (Option Addr) × Nat)) (rgs [(16, 1), (114, 22)]) (fun g => [(114, .int .i64 ((g.1.2.2.2.2.2 : Nat) : Int))]) (fun g => [Res.cells b101 #[.int .i64 x0.states, .slice a0_0 x0.starts.length c0_0, .slice a0_1 x0.ends.length c0_1, .slice a0_2 x0.arcs.length c0_2] 25, Res.cells b103 #[.int .i64 x1.states, .slice a1_0 x1.starts.length c1_0, .slice a1_1 x1.ends.length c1_1, .slice a1_2 x1.arcs.length c1_2] 25, Res.cells b105 #[.int .i64 0, .slice none 0 0, .slice none 0 0, .slice none 0 0] 25, Res.cells b107 #[.int .i64 0] 33, Res.cells b110 #[.int .i64 g.1.1, .slice g.2.1 g.1.2.1.length g.2.2.1, .slice g.2.2.2.1 g.1.2.2.1.length g.2.2.2.2.1, .slice g.2.2.2.2.2.1 g.1.2.2.2.1.length g.2.2.2.2.2.2, .bool g.1.2.2.2.2.1] 67, Res.rowS 41 2 encTip (.slice g.2.1 g.1.2.1.length g.2.2.1) g.1.2.1, Res.rowS 41 2 encTip (.slice g.2.2.2.1 g.1.2.2.1.length g.2.2.2.2.1) g.1.2.2.1, Res.rowS 59 8 encArc (.slice g.2.2.2.2.2.1 g.1.2.2.2.1.length g.2.2.2.2.2.2) g.1.2.2.2.1, Res.nest 22 41 2 encTip (.slice a132 (List.replicate x1.states.toNat ([] : List Tip)).length c133) z149, Res.cells b257 #[.int .i64 ((nth x0.ends k251 Tip.zero).state), .string (bs ((nth x0.ends k251 Tip.zero).out))] 41, Res.cells b317 #[.int .i64 ((nth x1.starts k311 Tip.zero).state), .string (bs ((nth x1.starts k311 Tip.zero).out))] 41]) (fun g => τ131) (fun g => iter (fun q : Int × (List Tip) × (List Tip) × (List Arc) × Bool × Nat => Bm_ l147 x1 k311 x0 k251 q.1 q.2.1 q.2.2.1 q.2.2.2.1 q.2.2.2.2.1 q.2.2.2.2.2) g.1 = some z2 ∧ l147.length = (List.replicate x1.states.toNat ([] : List Tip)).length ∧ Zn z149 l147) (fun g => rounds (fun q : Int × (List Tip) × (List Tip) × (List Arc) × Bool × Nat => Bm_ l147 x1 k311 x0 k251 q.1 q.2.1 q.2.2.1 q.2.2.2.1 q.2.2.2.2.1 q.2.2.2.2.2) g.1) ((v110.f.states, v110.f.starts, v110.f.ends, v110.f.arcs, v110.over, 0), (a325_1, c325_2, a325_3, c325_4, a325_5, c325_6)) (Sub.f [4, 10, 10, 6, 6, 6, 6, 10, 10, 10, 10] 11) z (by repeat (first | exact trivial | refine ⟨z, ?_⟩)) ⟨hh, hn309, zf310⟩ (fun g4 j4 hg4 => ?_))))))
      obtain ⟨⟨i383, l385, l389, l393, t396, k399⟩, ⟨a386, c387, a390, c391, a394, c395⟩⟩ := g4
      obtain ⟨hh, hn397, zf398⟩ := hg4
      try dsimp only at hn397 zf398 ⊢
      obtain ⟨z3, hh, hR3⟩ := iter_e hh
      dsimp only [Bm_] at hh
      have hn397b := hn397
      have zf398b := zf398.len
      refine TC.isSl (i := 5) z (fun _ hb400 _ => ?_)
      refine TC.isSl (i := 6) z (fun _ hb401 _ => ?_)
      refine TC.isSl (i := 7) z (fun _ hb402 _ => ?_)
      refine TC.know (isSl_nest (q := 8) z zf398) (fun ⟨_, hb403⟩ => ?_)
      refine TC.a (TL.w z (OpVal.lss z z z) (TL.en (TC.seq (TC.cD z hh (fun h404 hh => ?_) (fun h404 hh => ?_)))))
      ·refine TC.skip (S.n (TC.seq (TC.block (TC.a (TL.know (isSl_inner (q := 8) z hz346 hm346) (fun ⟨hs405, hs405b⟩ => ?_))))))
       refine TL.w z (indexN z underlying22 sz41 z z hs405 (by omega)) (TL.w z (OpVal.seen (sees_inner (q := 8) z hz346 hm346) (loadOA Tip.zero z ag41 sz41 z (q := 0) z encTip_len (by omega) (by omega))) (TL.op z (OpOk.alloc z ze41 z z (fun b406 => ?_))))
       refine TL.op z (storeAll z sz41 z z z z z z ?_)
       refine TL.en (TC.a (TL.l z z (TL.w z (fieldLoc z fo41_0 z) (TL.w z (loadLoc z ag3 z (i := 10) z z) (TL.w z (fieldLoc z fo41_1 z) (TL.w z (loadLoc z ag9 z (i := 10) z z) (TL.w z (fieldLoc z fo41_1 z) (TL.w z (loadLoc z ag9 z (i := 11) z z) ?_))))))))
       have u130 := grd_c hh
       replace hh := grd_t hh
       refine TL.w z (catBs z z z u130) (TL.w z (fieldLoc z fo41_1 z) (TL.w z (loadLoc z ag9 z (i := 0) z z) ?_))
       have u133 := grd_c hh
       replace hh := grd_t hh
       refine TL.w z (catBs z z z u133) (TL.w z (buildL z pl41 ze41 z) (TL.front 8 z z (TL.front 8 z z (TL.front 8 z z (TL.front 8 z z ?_)))))
       obtain ⟨v135, u135, hh⟩ := bnd_e hh
       refine TL.op z (OpOk.call (Ck_ u135) z z pf28 z z z z ?_)
       rintro _ _ _ hle408 ⟨a408_1, c408_2, a408_3, c408_4, a408_5, c408_6, rfl, rfl, rfl⟩
       refine TL.en (TC.a (TL.l z z (TL.w z (nilCheckLoc z z) (TL.w z (fieldLoc z fo67_1 z) (TL.w z (loadLoc z ag4 z (i := 0) z z) (TL.en (TC.cB z hh (fun h412 hh => ?_) (fun h412 hh => ?_))))))))
       ·refine TC.exit (TC.exitOn z (S.x (S.x ?_)))
        replace hh := fin_x hR3 hh
        exact TC.exitHere (S.n (cf ((v135.f.states, v135.f.starts, v135.f.ends, v135.f.arcs, v135.over), (a408_1, c408_2, a408_3, c408_4, a408_5, c408_6)) ⟨hh, hn397, zf398⟩ (Sub.f [10, 10, 5, 5, 5, 5, 10, 10, 10, 10] 10)))
       ·refine TC.skip (B.n (S.n (TC.region (TL.w z (OpVal.succ z z z (by omega)) (TL.i z z (TL.en ?_))))))
        obtain ⟨hh, hlt413⟩ := nxt_x hR3 hh
        exact lf ((v135.f.states, v135.f.starts, v135.f.ends, v135.f.arcs, v135.over, (k399 + 1)), (a408_1, c408_2, a408_3, c408_4, a408_5, c408_6)) hlt413 ⟨hh, hn397, zf398⟩ (Sub.f [11, 11, 11, 6, 6, 6, 6, 11, 11, 11, 11] 11)
      ·refine TC.exit (S.x (S.x ?_))
       replace hh := fin_x hR3 hh
       exact TC.exitHere (S.n (cf ((i383, l385, l389, l393, t396), (a386, c387, a390, c391, a394, c395)) ⟨hh, hn397, zf398⟩ (Sub.f [9, 9, 9, 9, 9, 9, 9, 9, 9, 9] 10)))
     ·skip
      obtain ⟨⟨i329, l331, l335, l339, t342⟩, ⟨a332, c333, a336, c337, a340, c341⟩⟩ := g
      obtain ⟨hh, hn343, zf344⟩ := hg
      try dsimp only at hn343 zf344 ⊢
      dsimp only [Dm_] at hh
      have hn343b := hn343
      have zf344b := zf344.len
      refine TC.isSl (i := 5) z (fun _ hb414 _ => ?_)
      refine TC.isSl (i := 6) z (fun _ hb415 _ => ?_)
      refine TC.isSl (i := 7) z (fun _ hb416 _ => ?_)
      refine TC.know (isSl_nest (q := 8) z zf344) (fun ⟨_, hb417⟩ => ?_)
      refine TC.a (TL.l z z (TL.w z (nilCheckLoc z z) (TL.w z (fieldLoc z fo67_1 z) (TL.w z (loadLoc z ag4 z (i := 4) z z) (TL.en (TC.cB z hh (fun h418 hh => ?_) (fun h418 hh => ?_)))))))
      ·refine TC.front 3 z z (TC.front 3 z z (TC.front 7 z z (TC.front 7 z z (TC.front 7 z z (TC.front 7 z z ?_)))))
       obtain ⟨v168, u168, hh⟩ := bnd_e hh
       refine TC.ret (B.r (S.r (S.r ?_)))
       replace hh := fin_x hR2 hh
       refine B.r (B.r (S.r (S.r ?_)))
       replace hh := fin_x hR1 hh
       refine B.r (S.r (⟨.inl z, _, Sub.pre 6 z, (Ar_ u168).mono ?_⟩))
       rintro _ τ419 _ hle419 ⟨a419_1, c419_2, a419_4, c419_5, a419_7, c419_8, rfl, f419_3, f419_6, f419_9, rfl⟩
       have f419_3b := f419_3.rv.big
       have f419_6b := f419_6.rv.big
       have f419_9b := f419_9.rv.big
       obtain rfl := so hh
       exact RetOk.mk' (rs := [.cell 4 25, .cell 5 33]) [] z (.inl z) (RVs.agg ag25 sz25 z (i := 0) z z (RVs.one ag33 z (i := 1) z z RVs.nil)) (List.nil_sublist _) ⟨a419_1, c419_2, a419_4, c419_5, a419_7, c419_8, z, f419_3, f419_6, f419_9, z⟩
      ·refine TC.skip (B.n (S.n (TC.region (TL.w z (OpVal.succ z z z (by omega)) (TL.i z z (TL.en ?_))))))
       obtain ⟨hh, hlt423⟩ := nxt_x hR2 hh
       exact lf ((i329, l331, l335, l339, t342, (k311 + 1)), (a332, c333, a336, c337, a340, c341)) hlt423 ⟨hh, hn343, zf344⟩ (Sub.f [9, 9, 9, 9, 9, 9, 9, 9, 9, 9] 10)
    ·refine TC.exit (S.x (S.x ?_))
     replace hh := fin_x hR2 hh
     refine TC.exitHere (B.n (S.n (TC.region (TL.w z (OpVal.succ z z z (by omega)) (TL.i z z (TL.en ?_))))))
     obtain ⟨hh, hlt424⟩ := nxt_x hR1 hh
     exact lf ((i295, l297, l301, l305, t308, (k251 + 1)), (a298, c299, a302, c303, a306, c307)) hlt424 ⟨hh, hn309, zf310⟩ (Sub.f [8, 8, 8, 8, 8, 8, 8, 8, 8] 9)
   ·refine TC.exit (S.x (S.x ?_))
    replace hh := fin_x hR1 hh
    refine TC.exitHere (S.n (TC.front 3 z z (TC.front 3 z z (TC.front 7 z z (TC.front 7 z z (TC.front 7 z z (TC.front 7 z z ?_)))))))
    obtain ⟨v169, u169, hh⟩ := bnd_e hh
    refine TC.ret (⟨.inl z, _, Sub.pre 6 z, (Ar_ u169).mono ?_⟩)
    rintro _ τ425 _ hle425 ⟨a425_1, c425_2, a425_4, c425_5, a425_7, c425_8, rfl, f425_3, f425_6, f425_9, rfl⟩
    have f425_3b := f425_3.rv.big
    have f425_6b := f425_6.rv.big
    have f425_9b := f425_9.rv.big
    obtain rfl := so hh
    exact RetOk.mk' (rs := [.cell 4 25, .cell 5 33]) [] z (.inl z) (RVs.agg ag25 sz25 z (i := 0) z z (RVs.one ag33 z (i := 1) z z RVs.nil)) (List.nil_sublist _) ⟨a425_1, c425_2, a425_4, c425_5, a425_7, c425_8, z, f425_3, f425_6, f425_9, z⟩
noncomputable def Dy_ (x0 : Fst) (v47 : (List (List Arc))) (k237 : Nat) (i274 : Int) (l276 : List Tip) (l280 : List Tip) (l284 : List Arc) (t287 : Bool) (k288 : Nat) : Option ((Int × (List Tip) × (List Tip) × (List Arc) × Bool × Nat) ⊕ ((Int × (List Tip) × (List Tip) × (List Arc) × Bool × Nat) ⊕ (Fst × Int))) :=
 iteO (decide (((k288 : Nat) : Int) < ((x0.starts.length : Nat) : Int))) (grd (0 ≤ ((nth x0.starts k288 Tip.zero).state) ∧ ((nth x0.starts k288 Tip.zero).state) < (v47.length : Int)) (bnd (Aw_ (⟨(⟨i274, l276, l280, l284⟩ : Fst), t287⟩ : Grow) ((nth x0.ends k237 Tip.zero).state) ((nth x0.ends k237 Tip.zero).out) ((nth x0.starts k288 Tip.zero).out) (nth v47 (((nth x0.starts k288 Tip.zero).state).toNat) ([] : List Arc)) 0) (fun v101 => iteO v101.over (bnd (Ae_ (⟨(⟨v101.f.states, v101.f.starts, v101.f.ends, v101.f.arcs⟩ : Fst), v101.over⟩ : Grow)) (fun v120 => fin (fin (some ((⟨v120.1.states, v120.1.starts, v120.1.ends, v120.1.arcs⟩ : Fst), v120.2))))) (nxt (v101.f.states, v101.f.starts, v101.f.ends, v101.f.arcs, v101.over, (k288 + 1)))))) (fin (nxt (i274, l276, l280, l284, t287, (k237 + 1))))
noncomputable def Dv_ (x0 : Fst) (v47 : (List (List Arc))) (i223 : Int) (l225 : List Tip) (l229 : List Tip) (l233 : List Arc) (t236 : Bool) (k237 : Nat) : Option ((Int × (List Tip) × (List Tip) × (List Arc) × Bool × Nat) ⊕ (Fst × Int)) :=
 iteO (decide (((k237 : Nat) : Int) < ((x0.ends.length : Nat) : Int))) (iter (fun q : Int × (List Tip) × (List Tip) × (List Arc) × Bool × Nat => Dy_ x0 v47 k237 q.1 q.2.1 q.2.2.1 q.2.2.2.1 q.2.2.2.2.1 q.2.2.2.2.2) (i223, l225, l229, l233, t236, 0)) (fin (bnd (Ae_ (⟨(⟨i223, l225, l229, l233⟩ : Fst), t236⟩ : Grow)) (fun v121 => some ((⟨v121.1.states, v121.1.starts, v121.1.ends, v121.1.arcs⟩ : Fst), v121.2))))
noncomputable def Ds_ (x0 : Fst) (v47 : (List (List Arc))) (i161 : Int) (l163 : List Tip) (l167 : List Tip) (l171 : List Arc) (t174 : Bool) (k175 : Nat) : Option ((Int × (List Tip) × (List Tip) × (List Arc) × Bool × Nat) ⊕ (Fst × Int)) :=
 iteO (decide (((k175 : Nat) : Int) < ((x0.starts.length : Nat) : Int))) (grd (0 ≤ ((nth x0.starts k175 Tip.zero).state) ∧ ((nth x0.starts k175 Tip.zero).state) < (v47.length : Int)) (bnd (Aw_ (⟨(⟨i161, l163, l167, l171⟩ : Fst), t174⟩ : Grow) x0.states ([] : List UInt8) ((nth x0.starts k175 Tip.zero).out) (nth v47 (((nth x0.starts k175 Tip.zero).state).toNat) ([] : List Arc)) 0) (fun v68 => nxt (v68.f.states, v68.f.starts, v68.f.ends, v68.f.arcs, v68.over, (k175 + 1))))) (fin (iter (fun q : Int × (List Tip) × (List Tip) × (List Arc) × Bool × Nat => Dv_ x0 v47 q.1 q.2.1 q.2.2.1 q.2.2.2.1 q.2.2.2.2.1 q.2.2.2.2.2) (i161, l163, l167, l171, t174, 0)))
noncomputable def Fp_ (x0 : Fst) : Option (Fst × Int) :=
 bnd (B7_ x0) (fun v5 => iteO (decide (v5 ≠ 0)) (some ((⟨0, ([] : List Tip), ([] : List Tip), ([] : List Arc)⟩ : Fst), 1)) (bnd (Gn_ x0) (fun v11 => iteO v11 (some ((⟨0, ([] : List Tip), ([] : List Tip), ([] : List Arc)⟩ : Fst), 11)) (bnd (A1_ (⟨(⟨IntKind.i64.wrap (x0.states + 1), ([] : List Tip), ([] : List Tip), ([] : List Arc)⟩ : Fst), false⟩ : Grow) (⟨x0.states, ([] : List UInt8)⟩ : Tip)) (fun v32 => bnd (A6_ (⟨(⟨v32.f.states, v32.f.starts, v32.f.ends, v32.f.arcs⟩ : Fst), v32.over⟩ : Grow) (⟨x0.states, ([] : List UInt8)⟩ : Tip)) (fun v37 => bnd (A8_ (⟨(⟨v37.f.states, v37.f.starts, v37.f.ends, v37.f.arcs⟩ : Fst), v37.over⟩ : Grow) x0.ends 0) (fun v41 => bnd (A0_ (⟨(⟨v41.f.states, v41.f.starts, v41.f.ends, v41.f.arcs⟩ : Fst), v41.over⟩ : Grow) x0.arcs 0) (fun v45 => bnd (Cd_ x0) (fun v47 => iter (fun q : Int × (List Tip) × (List Tip) × (List Arc) × Bool × Nat => Ds_ x0 v47 q.1 q.2.1 q.2.2.1 q.2.2.2.1 q.2.2.2.2.1 q.2.2.2.2.2) (v45.f.states, v45.f.starts, v45.f.ends, v45.f.arcs, v45.over, 0))))))))))
def Iy_ (σ : Store) (r : Fst × Int) : Value → Store → List Res → Prop := fun v σ' H' =>
 ∃ (a1 : Option Addr), ∃ (c1 : Nat), ∃ (a2 : Option Addr), ∃ (c2 : Nat), ∃ (a3 : Option Addr), ∃ (c3 : Nat),  v = .tuple #[.agg #[.int .i64 r.1.states, .slice a1 r.1.starts.length c1, .slice a2 r.1.ends.length c2, .slice a3 r.1.arcs.length c3], .int .i64 r.2] ∧ RS σ' 2 encTip (.slice a1 r.1.starts.length c1) r.1.starts ∧ RS σ' 2 encTip (.slice a2 r.1.ends.length c2) r.1.ends ∧ RS σ' 8 encArc (.slice a3 r.1.arcs.length c3) r.1.arcs ∧ H' = []
theorem Id_ {σ : Store} {x0 : Fst} {a0_0 : Option Addr} {c0_0 : Nat} {a0_1 : Option Addr} {c0_1 : Nat} {a0_2 : Option Addr} {c0_2 : Nat} (f0_0 : RS σ 2 encTip (.slice a0_0 x0.starts.length c0_0) x0.starts) (f0_1 : RS σ 2 encTip (.slice a0_1 x0.ends.length c0_1) x0.ends) (f0_2 : RS σ 8 encArc (.slice a0_2 x0.arcs.length c0_2) x0.arcs) {r : Fst × Int} (hh : Fp_ x0 = some r) :
  Con Tryz.prog 44 #[.agg #[.int .i64 x0.states, .slice a0_0 x0.starts.length c0_0, .slice a0_1 x0.ends.length c0_1, .slice a0_2 x0.arcs.length c0_2]] σ [] (Iy_ σ r) := by
 dsimp only [Fp_] at hh
 have f0_0b := f0_0.rv.big
 have f0_1b := f0_1.rv.big
 have f0_2b := f0_2.rv.big
 refine Con.mkD (n := 101) Tryz.func44 z z z (fun w0 => ?_)
 refine TB.seq endR_ret (TC.region (TL.op z (boxA z z z z (fun b101 => ?_))))
 refine TL.op z (OpOk.alloc z ze25 z z (fun b103 => ?_))
 refine TL.op z (OpOk.alloc z ze33 z z (fun b105 => ?_))
 refine TL.en (TB.seq endR_ret (TC.a (TL.w z (loadAll z ag25 sz25 z (i := 2) z z) ?_)))
 obtain ⟨v5, u5, hh⟩ := bnd_e hh
 refine TL.op z (callP (Dq_ (x0 := x0) f0_0 f0_1 f0_2 u5) z z pf24 z z z ?_)
 refine TL.w z (OpVal.neq z z z) (TL.en (TC.cD z hh (fun h107 hh => ?_) (fun h107 hh => ?_)))
 ·refine TC.a (TL.w z (buildL z pl25 ze25 z) (TL.front 1 z z (TL.op z (storeAll z sz25 z z z z z z ?_))))
  refine TL.front 1 z z (TL.op z (storeI z sz33 z z z z z ?_))
  refine TL.en (TC.ofSub (Sub.f [1] 2) (TC.ret (S.r ?_)))
  obtain rfl := so hh
  exact ro [] z (RVs.agg ag25 sz25 z (i := 0) z z (RVs.one ag33 z (i := 1) z z RVs.nil)) ⟨none, 0, none, 0, none, 0, z, (RS.nilF _ encTip encTip_len), (RS.nilF _ encTip encTip_len), (RS.nilF _ encArc encArc_len), z⟩
 ·refine TC.skip (S.n (TB.seq endR_ret (TC.a (TL.w z (loadAll z ag25 sz25 z (i := 2) z z) ?_))))
  obtain ⟨v11, u11, hh⟩ := bnd_e hh
  refine TL.op z (callP (Ik_ (x0 := x0) f0_0 f0_1 f0_2 u11) z z pf68 z z z ?_)
  refine TL.en (TC.cB z hh (fun h108 hh => ?_) (fun h108 hh => ?_))
  ·refine TC.a (TL.w z (buildL z pl25 ze25 z) (TL.front 1 z z (TL.op z (storeAll z sz25 z z z z z z ?_))))
   refine TL.front 1 z z (TL.op z (storeI z sz33 z z z z z ?_))
   refine TL.en (TC.ofSub (Sub.f [1] 2) (TC.ret (S.r ?_)))
   obtain rfl := so hh
   exact ro [] z (RVs.agg ag25 sz25 z (i := 0) z z (RVs.one ag33 z (i := 1) z z RVs.nil)) ⟨none, 0, none, 0, none, 0, z, (RS.nilF _ encTip encTip_len), (RS.nilF _ encTip encTip_len), (RS.nilF _ encArc encArc_len), z⟩
  ·refine TC.skip (S.n (TB.seq endR_ret (TC.region (TL.w z (buildL z pl67 ze67 z) (TL.op z (boxA z z z z (fun b109 => ?_)))))))
   refine TL.l z z (TL.en (TB.seqD (TLB.v z (moveLoc (.inl z) z) z z (TLB.dfr (dargs := [loc b109 0, loc b103 0, loc b105 0]) z z z z z (fun a_ w_ hw_ ha_ => ?_)))))
   refine TB.fin (Q := dfrQ _ _ _ _ 26 [loc b109 0, loc b103 0, loc b105 0]) (endR_dfr (cap := []) (dargs := [loc b109 0, loc b103 0, loc b105 0]) pf26) ?_ w_ a_ hw_ ha_
   clear hw_ ha_ a_ w_
   refine TC.a (TL.l z z (TL.w z (fieldLoc z fo25_0 z) (TL.w z (loadLoc z ag3 z (i := 3) z z) (TL.w z (addW z z z) (TL.w z (nilCheckLoc z z) (TL.w z (fieldLoc z fo67_0 z) (TL.w z (fieldLoc z fo25_0 z) (TL.op z (storeI z sz3 z z z z z ?_)))))))))
   refine TL.en (TC.a (TL.l z z (TL.w z (fieldLoc z fo25_0 z) (TL.w z (loadLoc z ag3 z (i := 3) z z) (TL.w z (buildL z pl41 ze41 z) (TL.nilS 41 2 encTip (TL.nilS 41 2 encTip (TL.nilS 59 8 encArc (TL.front 1 z z (TL.front 2 z z (TL.front 3 z z ?_)))))))))))
   obtain ⟨v32, u32, hh⟩ := bnd_e hh
   refine TL.op z (OpOk.call (C2_ u32) z z pf27 z z z z ?_)
   rintro _ _ _ hle114 ⟨a114_1, c114_2, a114_3, c114_4, a114_5, c114_6, rfl, rfl, rfl⟩
   refine TL.en (TC.a (TL.l z z (TL.w z (fieldLoc z fo25_0 z) (TL.w z (loadLoc z ag3 z (i := 6) z z) (TL.w z (buildL z pl41 ze41 z) (TL.front 3 z z (TL.front 3 z z (TL.front 3 z z (TL.front 3 z z ?_)))))))))
   obtain ⟨v37, u37, hh⟩ := bnd_e hh
   refine TL.op z (OpOk.call (Ck_ u37) z z pf28 z z z z ?_)
   rintro _ _ _ hle118 ⟨a118_1, c118_2, a118_3, c118_4, a118_5, c118_6, rfl, rfl, rfl⟩
   refine TL.en (TC.a (TL.l z z (TL.w z (fieldLoc z fo25_2 z) (TL.w z (loadLoc z ag22 z (i := 6) z z) (TL.front 3 z z (TL.front 3 z z (TL.front 3 z z (TL.front 3 z z ?_))))))))
   obtain ⟨v41, u41, hh⟩ := bnd_e hh
   refine TL.op z (OpOk.call (Db_ f0_1 u41) z z pf35 z z z z ?_)
   rintro _ _ _ hle122 ⟨a122_1, c122_2, a122_3, c122_4, a122_5, c122_6, rfl, rfl, rfl⟩
   refine TL.en (TC.a (TL.l z z (TL.w z (fieldLoc z fo25_3 z) (TL.w z (loadLoc z ag23 z (i := 6) z z) (TL.front 3 z z (TL.front 3 z z (TL.front 3 z z (TL.front 3 z z ?_))))))))
   obtain ⟨v45, u45, hh⟩ := bnd_e hh
   refine TL.op z (OpOk.call (Cb_ f0_2 u45) z z pf36 z z z z ?_)
   rintro _ _ _ hle126 ⟨a126_1, c126_2, a126_3, c126_4, a126_5, c126_6, rfl, rfl, rfl⟩
   refine TL.en (TC.a (TL.w z (loadAll z ag25 sz25 z (i := 6) z z) ?_))
   obtain ⟨v47, u47, hh⟩ := bnd_e hh
   refine TL.op z (OpOk.call (G0_ (x0 := x0) f0_0 f0_1 f0_2 u47) z z pf39 z z z z ?_)
   rintro _ τ130 _ hle130 ⟨a130_1, c130_1, rfl, hr130_0, rfl⟩
   replace f0_0 := f0_0.mono hle130
   replace f0_1 := f0_1.mono hle130
   have hr130_0b := hr130_0.big
   refine TL.s z z (TL.en (TC.seq (TC.a (TL.w z (fieldLoc z fo25_1 z) (TL.w z (loadLoc z ag22 z (i := 6) z z) (TL.w z (lenC z underlying22 z) (TL.i z z (TL.en (TC.block (TC.loopG (α := (Int × (List Tip) × (List Tip) × (List Arc) × Bool × Nat) × ((Option Addr) × Nat × (Option Addr) × Nat × (Option Addr) × Nat)) (rgs [(7, 1), (52, 16)]) (fun g => [(52, .int .i64 ((g.1.2.2.2.2.2 : Nat) : Int))]) (fun g => [Res.cells b101 #[.int .i64 x0.states, .slice a0_0 x0.starts.length c0_0, .slice a0_1 x0.ends.length c0_1, .slice a0_2 x0.arcs.length c0_2] 25, Res.cells b103 #[.int .i64 0, .slice none 0 0, .slice none 0 0, .slice none 0 0] 25, Res.cells b105 #[.int .i64 0] 33, Res.cells b109 #[.int .i64 g.1.1, .slice g.2.1 g.1.2.1.length g.2.2.1, .slice g.2.2.2.1 g.1.2.2.1.length g.2.2.2.2.1, .slice g.2.2.2.2.2.1 g.1.2.2.2.1.length g.2.2.2.2.2.2, .bool g.1.2.2.2.2.1] 67, Res.rowS 41 2 encTip (.slice g.2.1 g.1.2.1.length g.2.2.1) g.1.2.1, Res.rowS 41 2 encTip (.slice g.2.2.2.1 g.1.2.2.1.length g.2.2.2.2.1) g.1.2.2.1, Res.rowS 59 8 encArc (.slice g.2.2.2.2.2.1 g.1.2.2.2.1.length g.2.2.2.2.2.2) g.1.2.2.2.1]) (fun g => τ130) (fun g => iter (fun q : Int × (List Tip) × (List Tip) × (List Arc) × Bool × Nat => Ds_ x0 v47 q.1 q.2.1 q.2.2.1 q.2.2.2.1 q.2.2.2.2.1 q.2.2.2.2.2) g.1 = some r) (fun g => rounds (fun q : Int × (List Tip) × (List Tip) × (List Arc) × Bool × Nat => Ds_ x0 v47 q.1 q.2.1 q.2.2.1 q.2.2.2.1 q.2.2.2.2.1 q.2.2.2.2.2) g.1) ((v45.f.states, v45.f.starts, v45.f.ends, v45.f.arcs, v45.over, 0), (a126_1, c126_2, a126_3, c126_4, a126_5, c126_6)) (Sub.f [3, 3, 3, 3, 4, 5, 6] 7) z (by repeat (first | exact trivial | refine ⟨z, ?_⟩)) hh (fun g1 j1 hg1 => ?_)))))))))))
   obtain ⟨⟨i161, l163, l167, l171, t174, k175⟩, ⟨a164, c165, a168, c169, a172, c173⟩⟩ := g1
   have hh := hg1; clear hg1
   try dsimp only
   obtain ⟨z1, hh, hR1⟩ := iter_e hh
   dsimp only [Ds_] at hh
   refine TC.isSl (i := 4) z (fun _ hb176 _ => ?_)
   refine TC.isSl (i := 5) z (fun _ hb177 _ => ?_)
   refine TC.isSl (i := 6) z (fun _ hb178 _ => ?_)
   refine TC.a (TL.w z (OpVal.lss z z z) (TL.en (TC.seq (TC.cD z hh (fun h179 hh => ?_) (fun h179 hh => ?_)))))
   ·refine TC.skip (S.n (TC.seq (TC.block (TC.a (TL.w z (indexN z underlying22 sz41 z z f0_0.rv.sl (by omega)) (TL.w z (loadSA Tip.zero z ag41 sz41 z f0_0 (by omega) (by omega)) (TL.op z (OpOk.alloc z ze41 z z (fun b180 => ?_)))))))))
    refine TL.op z (storeAll z sz41 z z z z z z ?_)
    refine TL.en ?_
    have u66 := grd_c hh
    replace hh := grd_t hh
    obtain ⟨v68, u68, hh⟩ := bnd_e hh
    refine TC.drawR (Hr := [Res.cells b180 #[.int .i64 ((nth x0.starts k175 Tip.zero).state), .string (bs ((nth x0.starts k175 Tip.zero).out))] 41, Res.cells b101 #[.int .i64 x0.states, .slice a0_0 x0.starts.length c0_0, .slice a0_1 x0.ends.length c0_1, .slice a0_2 x0.arcs.length c0_2] 25, Res.cells b103 #[.int .i64 0, .slice none 0 0, .slice none 0 0, .slice none 0 0] 25, Res.cells b105 #[.int .i64 0] 33]) (fun r hr => mem_pick [0, 1, 2, 3] z hr) [] (by kernel_rfl) (TA.a 0 z (moveLoc (.inl z) z) z (TA.a 1 z (fieldLoc z fo25_0 z) z (TA.b 2 z (loadLoc z ag3 z (i := 1) z z) z (TA.a 3 z (fieldLoc z fo41_1 z) z (TA.b 4 z (loadLoc z ag9 z (i := 0) z z) z (TA.a 5 z (moveSl (.inl z) z) z (TA.a 6 z (fieldLoc z fo41_0 z) z (TA.b 7 z (loadLoc z ag3 z (i := 0) z z) z (TA.b 8 z (OpVal.index z underlying82 sz23 z z hr130_0.isSl u66.1 u66.2) z ?_)))))))))
    obtain ⟨p187, hk187, hg187⟩ := RZ.seg hr130_0 (((nth x0.starts k175 Tip.zero).state).toNat) (by omega)
    replace hk187 : RS _ 8 encArc (.slice p187.1 (nth v47 (((nth x0.starts k175 Tip.zero).state).toNat) ([] : List Arc)).length p187.2) (nth v47 (((nth x0.starts k175 Tip.zero).state).toNat) ([] : List Arc)) := hk187
    have hk187b := hk187.rv.big
    refine TA.b 9 z (OpVal.of (loadSeg0 z ag23 z hg187 z) (v' := .slice p187.1 ((nth v47 (((nth x0.starts k175 Tip.zero).state).toNat) ([] : List Arc)).length) p187.2) z) z (TA.front 7 z z (TA.front 7 z z (TA.front 7 z z (TA.front 7 z z (TA.ac 10 z (OpOk.call (D6_ hk187 u68) z z pf40 z z z z ?_))))))
    rintro _ _ _ hle188 ⟨a188_1, c188_2, a188_3, c188_4, a188_5, c188_6, rfl, rfl, rfl⟩
    refine kc 4 (TA.dn (B.n (S.n (TC.region (TL.w z (OpVal.succ z z z (by omega)) (TL.i z z (TL.en ?_)))))))
    obtain ⟨hh, hlt192⟩ := nxt_x hR1 hh
    exact lf ((v68.f.states, v68.f.starts, v68.f.ends, v68.f.arcs, v68.over, (k175 + 1)), (a188_1, c188_2, a188_3, c188_4, a188_5, c188_6)) hlt192 hh (Sub.f [3, 3, 3, 3, 7, 7, 7] 7)
   ·refine TC.exit (S.x (S.x ?_))
    replace hh := fin_x hR1 hh
    refine TC.exitHere (S.n (TC.seq (TC.a (TL.w z (fieldLoc z fo25_2 z) (TL.w z (loadLoc z ag22 z (i := 0) z z) (TL.w z (lenC z underlying22 z) (TL.i z z (TL.en (TC.block (TC.loopG (α := (Int × (List Tip) × (List Tip) × (List Arc) × Bool × Nat) × ((Option Addr) × Nat × (Option Addr) × Nat × (Option Addr) × Nat)) (rgs [(9, 1), (11, 1), (71, 30)]) (fun g => [(71, .int .i64 ((g.1.2.2.2.2.2 : Nat) : Int))]) (fun g => [Res.cells b101 #[.int .i64 x0.states, .slice a0_0 x0.starts.length c0_0, .slice a0_1 x0.ends.length c0_1, .slice a0_2 x0.arcs.length c0_2] 25, Res.cells b103 #[.int .i64 0, .slice none 0 0, .slice none 0 0, .slice none 0 0] 25, Res.cells b105 #[.int .i64 0] 33, Res.cells b109 #[.int .i64 g.1.1, .slice g.2.1 g.1.2.1.length g.2.2.1, .slice g.2.2.2.1 g.1.2.2.1.length g.2.2.2.2.1, .slice g.2.2.2.2.2.1 g.1.2.2.2.1.length g.2.2.2.2.2.2, .bool g.1.2.2.2.2.1] 67, Res.rowS 41 2 encTip (.slice g.2.1 g.1.2.1.length g.2.2.1) g.1.2.1, Res.rowS 41 2 encTip (.slice g.2.2.2.1 g.1.2.2.1.length g.2.2.2.2.1) g.1.2.2.1, Res.rowS 59 8 encArc (.slice g.2.2.2.2.2.1 g.1.2.2.2.1.length g.2.2.2.2.2.2) g.1.2.2.2.1]) (fun g => τ130) (fun g => iter (fun q : Int × (List Tip) × (List Tip) × (List Arc) × Bool × Nat => Dv_ x0 v47 q.1 q.2.1 q.2.2.1 q.2.2.2.1 q.2.2.2.2.1 q.2.2.2.2.2) g.1 = some r) (fun g => rounds (fun q : Int × (List Tip) × (List Tip) × (List Arc) × Bool × Nat => Dv_ x0 v47 q.1 q.2.1 q.2.2.1 q.2.2.2.1 q.2.2.2.2.1 q.2.2.2.2.2) g.1) ((i161, l163, l167, l171, t174, 0), (a164, c165, a168, c169, a172, c173)) (Sub.f [6, 6, 6, 6, 6, 6, 6] 7) z (by repeat (first | exact trivial | refine ⟨z, ?_⟩)) hh (fun g2 j2 hg2 => ?_)))))))))))
    obtain ⟨⟨i223, l225, l229, l233, t236, k237⟩, ⟨a226, c227, a230, c231, a234, c235⟩⟩ := g2
    have hh := hg2; clear hg2
    try dsimp only
    obtain ⟨z1, hh, hR1⟩ := iter_e hh
    dsimp only [Dv_] at hh
    refine TC.isSl (i := 4) z (fun _ hb238 _ => ?_)
    refine TC.isSl (i := 5) z (fun _ hb239 _ => ?_)
    refine TC.isSl (i := 6) z (fun _ hb240 _ => ?_)
    refine TC.a (TL.w z (OpVal.lss z z z) (TL.en (TC.seq (TC.cD z hh (fun h241 hh => ?_) (fun h241 hh => ?_)))))
    ·refine TC.skip (S.n (TC.seq (TC.block (TC.a (TL.w z (indexN z underlying22 sz41 z z f0_1.rv.sl (by omega)) (TL.w z (loadSA Tip.zero z ag41 sz41 z f0_1 (by omega) (by omega)) (TL.op z (OpOk.alloc z ze41 z z (fun b242 => ?_)))))))))
     refine TL.op z (storeAll z sz41 z z z z z z ?_)
     refine TL.en (TC.a (TL.w z (fieldLoc z fo25_1 z) (TL.w z (loadLoc z ag22 z (i := 1) z z) (TL.w z (lenC z underlying22 z) (TL.i z z (TL.en (TC.block (TC.loopG (α := (Int × (List Tip) × (List Tip) × (List Arc) × Bool × Nat) × ((Option Addr) × Nat × (Option Addr) × Nat × (Option Addr) × Nat)) (rgs [(11, 1), (78, 22)]) (fun g => [(78, .int .i64 ((g.1.2.2.2.2.2 : Nat) : Int))]) (fun g => [Res.cells b101 #[.int .i64 x0.states, .slice a0_0 x0.starts.length c0_0, .slice a0_1 x0.ends.length c0_1, .slice a0_2 x0.arcs.length c0_2] 25, Res.cells b103 #[.int .i64 0, .slice none 0 0, .slice none 0 0, .slice none 0 0] 25, Res.cells b105 #[.int .i64 0] 33, Res.cells b109 #[.int .i64 g.1.1, .slice g.2.1 g.1.2.1.length g.2.2.1, .slice g.2.2.2.1 g.1.2.2.1.length g.2.2.2.2.1, .slice g.2.2.2.2.2.1 g.1.2.2.2.1.length g.2.2.2.2.2.2, .bool g.1.2.2.2.2.1] 67, Res.rowS 41 2 encTip (.slice g.2.1 g.1.2.1.length g.2.2.1) g.1.2.1, Res.rowS 41 2 encTip (.slice g.2.2.2.1 g.1.2.2.1.length g.2.2.2.2.1) g.1.2.2.1, Res.rowS 59 8 encArc (.slice g.2.2.2.2.2.1 g.1.2.2.2.1.length g.2.2.2.2.2.2) g.1.2.2.2.1, Res.cells b242 #[.int .i64 ((nth x0.ends k237 Tip.zero).state), .string (bs ((nth x0.ends k237 Tip.zero).out))] 41]) (fun g => τ130) (fun g => iter (fun q : Int × (List Tip) × (List Tip) × (List Arc) × Bool × Nat => Dy_ x0 v47 k237 q.1 q.2.1 q.2.2.1 q.2.2.2.1 q.2.2.2.2.1 q.2.2.2.2.2) g.1 = some z1) (fun g => rounds (fun q : Int × (List Tip) × (List Tip) × (List Arc) × Bool × Nat => Dy_ x0 v47 k237 q.1 q.2.1 q.2.2.1 q.2.2.2.1 q.2.2.2.2.1 q.2.2.2.2.2) g.1) ((i223, l225, l229, l233, t236, 0), (a226, c227, a230, c231, a234, c235)) (Sub.f [7, 7, 7, 7, 7, 7, 7] 8) z (by repeat (first | exact trivial | refine ⟨z, ?_⟩)) hh (fun g3 j3 hg3 => ?_)))))))))
     obtain ⟨⟨i274, l276, l280, l284, t287, k288⟩, ⟨a277, c278, a281, c282, a285, c286⟩⟩ := g3
     have hh := hg3; clear hg3
     try dsimp only
     obtain ⟨z2, hh, hR2⟩ := iter_e hh
     dsimp only [Dy_] at hh
     refine TC.isSl (i := 4) z (fun _ hb289 _ => ?_)
     refine TC.isSl (i := 5) z (fun _ hb290 _ => ?_)
     refine TC.isSl (i := 6) z (fun _ hb291 _ => ?_)
     refine TC.a (TL.w z (OpVal.lss z z z) (TL.en (TC.seq (TC.cD z hh (fun h292 hh => ?_) (fun h292 hh => ?_)))))
     ·refine TC.skip (S.n (TC.seq (TC.block (TC.a (TL.w z (indexN z underlying22 sz41 z z f0_0.rv.sl (by omega)) (TL.w z (loadSA Tip.zero z ag41 sz41 z f0_0 (by omega) (by omega)) (TL.op z (OpOk.alloc z ze41 z z (fun b293 => ?_)))))))))
      refine TL.op z (storeAll z sz41 z z z z z z ?_)
      refine TL.en (TC.seq ?_)
      have u99 := grd_c hh
      replace hh := grd_t hh
      obtain ⟨v101, u101, hh⟩ := bnd_e hh
      refine TC.drawR (Hr := [Res.cells b293 #[.int .i64 ((nth x0.starts k288 Tip.zero).state), .string (bs ((nth x0.starts k288 Tip.zero).out))] 41, Res.cells b101 #[.int .i64 x0.states, .slice a0_0 x0.starts.length c0_0, .slice a0_1 x0.ends.length c0_1, .slice a0_2 x0.arcs.length c0_2] 25, Res.cells b103 #[.int .i64 0, .slice none 0 0, .slice none 0 0, .slice none 0 0] 25, Res.cells b105 #[.int .i64 0] 33, Res.cells b242 #[.int .i64 ((nth x0.ends k237 Tip.zero).state), .string (bs ((nth x0.ends k237 Tip.zero).out))] 41]) (fun r hr => mem_pick [0, 1, 2, 3, 8] z hr) [] (by kernel_rfl) (TA.a 0 z (moveLoc (.inl z) z) z (TA.a 1 z (fieldLoc z fo41_0 z) z (TA.b 2 z (loadLoc z ag3 z (i := 4) z z) z (TA.a 3 z (fieldLoc z fo41_1 z) z (TA.b 4 z (loadLoc z ag9 z (i := 4) z z) z (TA.a 5 z (fieldLoc z fo41_1 z) z (TA.b 6 z (loadLoc z ag9 z (i := 0) z z) z (TA.a 7 z (moveSl (.inl z) z) z (TA.a 8 z (fieldLoc z fo41_0 z) z (TA.b 9 z (loadLoc z ag3 z (i := 0) z z) z (TA.b 10 z (OpVal.index z underlying82 sz23 z z hr130_0.isSl u99.1 u99.2) z ?_)))))))))))
      obtain ⟨p300, hk300, hg300⟩ := RZ.seg hr130_0 (((nth x0.starts k288 Tip.zero).state).toNat) (by omega)
      replace hk300 : RS _ 8 encArc (.slice p300.1 (nth v47 (((nth x0.starts k288 Tip.zero).state).toNat) ([] : List Arc)).length p300.2) (nth v47 (((nth x0.starts k288 Tip.zero).state).toNat) ([] : List Arc)) := hk300
      have hk300b := hk300.rv.big
      refine TA.b 11 z (OpVal.of (loadSeg0 z ag23 z hg300 z) (v' := .slice p300.1 ((nth v47 (((nth x0.starts k288 Tip.zero).state).toNat) ([] : List Arc)).length) p300.2) z) z (TA.front 7 z z (TA.front 7 z z (TA.front 7 z z (TA.front 7 z z (TA.ac 12 z (OpOk.call (D6_ hk300 u101) z z pf40 z z z z ?_))))))
      rintro _ _ _ hle301 ⟨a301_1, c301_2, a301_3, c301_4, a301_5, c301_6, rfl, rfl, rfl⟩
      refine kc 4 (TA.dn (S.n (TC.a (TL.l z z (TL.w z (nilCheckLoc z z) (TL.w z (fieldLoc z fo67_1 z) (TL.w z (loadLoc z ag4 z (i := 0) z z) (TL.en (TC.cB z hh (fun h305 hh => ?_) (fun h305 hh => ?_))))))))))
      ·refine TC.front 7 z z (TC.front 7 z z (TC.front 5 z z (TC.front 5 z z (TC.front 5 z z (TC.front 5 z z ?_)))))
       obtain ⟨v120, u120, hh⟩ := bnd_e hh
       refine TC.ret (B.r (S.r (S.r ?_)))
       replace hh := fin_x hR2 hh
       refine B.r (B.r (S.r (S.r ?_)))
       replace hh := fin_x hR1 hh
       refine B.r (S.r (⟨.inl z, _, Sub.pre 6 z, (Ar_ u120).mono ?_⟩))
       rintro _ τ306 _ hle306 ⟨a306_1, c306_2, a306_4, c306_5, a306_7, c306_8, rfl, f306_3, f306_6, f306_9, rfl⟩
       have f306_3b := f306_3.rv.big
       have f306_6b := f306_6.rv.big
       have f306_9b := f306_9.rv.big
       obtain rfl := so hh
       exact RetOk.mk' (rs := [.cell 2 25, .cell 3 33]) [] z (.inl z) (RVs.agg ag25 sz25 z (i := 0) z z (RVs.one ag33 z (i := 1) z z RVs.nil)) (List.nil_sublist _) ⟨a306_1, c306_2, a306_4, c306_5, a306_7, c306_8, z, f306_3, f306_6, f306_9, z⟩
      ·refine TC.skip (B.n (S.n (TC.region (TL.w z (OpVal.succ z z z (by omega)) (TL.i z z (TL.en ?_))))))
       obtain ⟨hh, hlt310⟩ := nxt_x hR2 hh
       exact lf ((v101.f.states, v101.f.starts, v101.f.ends, v101.f.arcs, v101.over, (k288 + 1)), (a301_1, c301_2, a301_3, c301_4, a301_5, c301_6)) hlt310 hh (Sub.f [8, 4, 4, 4, 4, 8, 8, 8] 8)
     ·refine TC.exit (S.x (S.x ?_))
      replace hh := fin_x hR2 hh
      refine TC.exitHere (B.n (S.n (TC.region (TL.w z (OpVal.succ z z z (by omega)) (TL.i z z (TL.en ?_))))))
      obtain ⟨hh, hlt311⟩ := nxt_x hR1 hh
      exact lf ((i274, l276, l280, l284, t287, (k237 + 1)), (a277, c278, a281, c282, a285, c286)) hlt311 hh (Sub.f [6, 6, 6, 6, 6, 6, 6] 7)
    ·refine TC.exit (S.x (S.x ?_))
     replace hh := fin_x hR1 hh
     refine TC.exitHere (S.n (TC.front 2 z z (TC.front 2 z z (TC.front 6 z z (TC.front 6 z z (TC.front 6 z z (TC.front 6 z z ?_)))))))
     obtain ⟨v121, u121, hh⟩ := bnd_e hh
     refine TC.ret (⟨.inl z, _, Sub.pre 6 z, (Ar_ u121).mono ?_⟩)
     rintro _ τ312 _ hle312 ⟨a312_1, c312_2, a312_4, c312_5, a312_7, c312_8, rfl, f312_3, f312_6, f312_9, rfl⟩
     have f312_3b := f312_3.rv.big
     have f312_6b := f312_6.rv.big
     have f312_9b := f312_9.rv.big
     obtain rfl := so hh
     exact RetOk.mk' (rs := [.cell 2 25, .cell 3 33]) [] z (.inl z) (RVs.agg ag25 sz25 z (i := 0) z z (RVs.one ag33 z (i := 1) z z RVs.nil)) (List.nil_sublist _) ⟨a312_1, c312_2, a312_4, c312_5, a312_7, c312_8, z, f312_3, f312_6, f312_9, z⟩
end Go.Proofs.YtcaaiphgikpgjaaGreatDoor
end

section
namespace Go.Proofs.YtcaaiphgikpgjaaGreatDoor
open Go Go.E
structure GB (F : Fst) : Prop where
  sN : F.starts.length ≤ 1024
  eN : F.ends.length ≤ 1024
  aN : F.arcs.length ≤ 16384
  s : ∀ x ∈ F.starts, x.out.length ≤ 1024
  e : ∀ x ∈ F.ends, x.out.length ≤ 1024
  a : ∀ x ∈ F.arcs, x.out.length ≤ 1024
def Gr (g : Grow) (F : Fst) : Prop := g.over = true ∨ g = ⟨F, false⟩ ∧ GB F
theorem Gr.nil (n : Int) : Gr ⟨⟨n, [], [], []⟩, false⟩ ⟨n, [], [], []⟩ := .inr ⟨rfl, by simp, by simp, by simp, by simp, by simp, by simp⟩
theorem Gr.st {g : Grow} {F : Fst} (h : Gr g F) (x : Tip) : Gr (growSt g x) ⟨F.states, F.starts ++ [x], F.ends, F.arcs⟩ := by
  unfold growSt
  split
  · exact .inl rfl
  · rename_i hn
    rcases h with h | ⟨rfl, h⟩
    · exact absurd (.inl h) hn
    · simp only [Bool.false_eq_true, false_or, not_or, Nat.not_le, Nat.not_lt] at hn
      refine .inr ⟨rfl, ?_, h.eN, h.aN, fun y hy => ?_, h.e, h.a⟩
      · simp only [List.length_append, List.length_singleton]; omega
      · rcases List.mem_append.1 hy with hy | hy
        · exact h.s y hy
        · rw [List.mem_singleton.1 hy]; exact hn.2
theorem Gr.en {g : Grow} {F : Fst} (h : Gr g F) (x : Tip) : Gr (growEn g x) ⟨F.states, F.starts, F.ends ++ [x], F.arcs⟩ := by
  unfold growEn
  split
  · exact .inl rfl
  · rename_i hn
    rcases h with h | ⟨rfl, h⟩
    · exact absurd (.inl h) hn
    · simp only [Bool.false_eq_true, false_or, not_or, Nat.not_le, Nat.not_lt] at hn
      refine .inr ⟨rfl, h.sN, ?_, h.aN, h.s, fun y hy => ?_, h.a⟩
      · simp only [List.length_append, List.length_singleton]; omega
      · rcases List.mem_append.1 hy with hy | hy
        · exact h.e y hy
        · rw [List.mem_singleton.1 hy]; exact hn.2
theorem Gr.ar {g : Grow} {F : Fst} (h : Gr g F) (x : Arc) : Gr (growAr g x) ⟨F.states, F.starts, F.ends, F.arcs ++ [x]⟩ := by
  unfold growAr
  split
  · exact .inl rfl
  · rename_i hn
    rcases h with h | ⟨rfl, h⟩
    · exact absurd (.inl h) hn
    · simp only [Bool.false_eq_true, false_or, not_or, Nat.not_le, Nat.not_lt] at hn
      refine .inr ⟨rfl, h.sN, h.eN, ?_, h.s, h.e, fun y hy => ?_⟩
      · simp only [List.length_append, List.length_singleton]; omega
      · rcases List.mem_append.1 hy with hy | hy
        · exact h.a y hy
        · rw [List.mem_singleton.1 hy]; exact hn.2
def pS (F : Fst) (l : List Tip) : Fst := ⟨F.states, F.starts ++ l, F.ends, F.arcs⟩
def pE (F : Fst) (l : List Tip) : Fst := ⟨F.states, F.starts, F.ends ++ l, F.arcs⟩
def pA (F : Fst) (l : List Arc) : Fst := ⟨F.states, F.starts, F.ends, F.arcs ++ l⟩
theorem pS_nil (F : Fst) : pS F [] = F := by simp [pS]
theorem pE_nil (F : Fst) : pE F [] = F := by simp [pE]
theorem pA_nil (F : Fst) : pA F [] = F := by simp [pA]
theorem pS_snoc (F : Fst) (l : List Tip) (x : Tip) : pS F (l ++ [x]) = ⟨(pS F l).states, (pS F l).starts ++ [x], (pS F l).ends, (pS F l).arcs⟩ := by simp [pS]
theorem pE_snoc (F : Fst) (l : List Tip) (x : Tip) : pE F (l ++ [x]) = ⟨(pE F l).states, (pE F l).starts, (pE F l).ends ++ [x], (pE F l).arcs⟩ := by simp [pE]
theorem pA_snoc (F : Fst) (l : List Arc) (x : Arc) : pA F (l ++ [x]) = ⟨(pA F l).states, (pA F l).starts, (pA F l).ends, (pA F l).arcs ++ [x]⟩ := by simp [pA]
theorem pA_app (F : Fst) (l m : List Arc) : pA (pA F l) m = pA F (l ++ m) := by simp [pA]
theorem pE_app (F : Fst) (l m : List Tip) : pE (pE F l) m = pE F (l ++ m) := by simp [pE]
theorem shT_snoc (n : Int) (l : List Tip) {k : Nat} (h : k < l.length) : shT n (l.take (k + 1)) = shT n (l.take k) ++ [⟨(nth l k Tip.zero).state + n, (nth l k Tip.zero).out⟩] := by
  rw [take_snoc l h Tip.zero]; unfold shT; rw [List.map_append]; rfl
theorem shA_snoc (n : Int) (l : List Arc) {k : Nat} (h : k < l.length) : shA n (l.take (k + 1)) = shA n (l.take k) ++ [⟨(nth l k Arc.zero).frm + n, (nth l k Arc.zero).to + n, (nth l k Arc.zero).set, (nth l k Arc.zero).out, (nth l k Arc.zero).copy⟩] := by
  rw [take_snoc l h Arc.zero]; unfold shA; rw [List.map_append]; rfl
theorem brA_snoc (s : Int) (p q : List UInt8) (l : List Arc) (n : Int) {k : Nat} (h : k < l.length) : brA s p q (l.take (k + 1)) n = brA s p q (l.take k) n ++ [⟨s, (nth l k Arc.zero).to + n, (nth l k Arc.zero).set, (p ++ q) ++ (nth l k Arc.zero).out, (nth l k Arc.zero).copy⟩] := by
  rw [take_snoc l h Arc.zero]; unfold brA; rw [List.map_append]; rfl
theorem wr_ok {a : Int} (h : -100000 ≤ a ∧ a ≤ 100000) : IntKind.i64.wrap a = a := wrap64_of (by omega) (by omega)
theorem starts_go {l : List Tip} {up : Int} (hr : ∀ x ∈ l, -100000 ≤ x.state + up ∧ x.state + up ≤ 100000) {g : Grow} {F : Fst} (h : Gr g F) : ∃ g', A3_ g l up = some g' ∧ Gr g' (pS F (shT up l)) := by
  unfold A3_
  refine iter_up (step := fun q : Int × (List Tip) × (List Tip) × (List Arc) × Bool × Nat => Af_ l up q.1 q.2.1 q.2.2.1 q.2.2.2.1 q.2.2.2.2.1 q.2.2.2.2.2) (fun (s : Grow) k => (s.f.states, s.f.starts, s.f.ends, s.f.arcs, s.over, k)) l.length
    (fun k s => Gr s (pS F (shT up (l.take k)))) _ (fun k s hk hI => ?_) (fun s hI => ?_) (s0 := g) (by simpa [shT, pS_nil] using h)
  · refine .inl ⟨growSt s ⟨(nth l k Tip.zero).state + up, (nth l k Tip.zero).out⟩, ?_, ?_⟩
    · show Af_ l up s.f.states s.f.starts s.f.ends s.f.arcs s.over k = _
      unfold Af_
      rw [iteO_dt (by omega), start_eq, bnd_mk, wr_ok (hr _ (nth_mem' hk _))]; rfl
    · rw [shT_snoc up l hk, pS_snoc]; exact hI.st _
  · rw [List.take_length] at hI
    refine ⟨s, ?_, hI⟩
    show Af_ l up s.f.states s.f.starts s.f.ends s.f.arcs s.over l.length = _
    unfold Af_
    rw [iteO_df (by omega)]; rfl
theorem ends_go {l : List Tip} {up : Int} (hr : ∀ x ∈ l, -100000 ≤ x.state + up ∧ x.state + up ≤ 100000) {g : Grow} {F : Fst} (h : Gr g F) : ∃ g', A8_ g l up = some g' ∧ Gr g' (pE F (shT up l)) := by
  unfold A8_
  refine iter_up (step := fun q : Int × (List Tip) × (List Tip) × (List Arc) × Bool × Nat => An_ l up q.1 q.2.1 q.2.2.1 q.2.2.2.1 q.2.2.2.2.1 q.2.2.2.2.2) (fun (s : Grow) k => (s.f.states, s.f.starts, s.f.ends, s.f.arcs, s.over, k)) l.length
    (fun k s => Gr s (pE F (shT up (l.take k)))) _ (fun k s hk hI => ?_) (fun s hI => ?_) (s0 := g) (by simpa [shT, pE_nil] using h)
  · refine .inl ⟨growEn s ⟨(nth l k Tip.zero).state + up, (nth l k Tip.zero).out⟩, ?_, ?_⟩
    · show An_ l up s.f.states s.f.starts s.f.ends s.f.arcs s.over k = _
      unfold An_
      rw [iteO_dt (by omega), end_eq, bnd_mk, wr_ok (hr _ (nth_mem' hk _))]; rfl
    · rw [shT_snoc up l hk, pE_snoc]; exact hI.en _
  · rw [List.take_length] at hI
    refine ⟨s, ?_, hI⟩
    show An_ l up s.f.states s.f.starts s.f.ends s.f.arcs s.over l.length = _
    unfold An_
    rw [iteO_df (by omega)]; rfl
theorem arcs_go {l : List Arc} {up : Int} (hr : ∀ x ∈ l, (-100000 ≤ x.frm + up ∧ x.frm + up ≤ 100000) ∧ -100000 ≤ x.to + up ∧ x.to + up ≤ 100000) {g : Grow} {F : Fst} (h : Gr g F) : ∃ g', A0_ g l up = some g' ∧ Gr g' (pA F (shA up l)) := by
  unfold A0_
  refine iter_up (step := fun q : Int × (List Tip) × (List Tip) × (List Arc) × Bool × Nat => Ap_ l up q.1 q.2.1 q.2.2.1 q.2.2.2.1 q.2.2.2.2.1 q.2.2.2.2.2) (fun (s : Grow) k => (s.f.states, s.f.starts, s.f.ends, s.f.arcs, s.over, k)) l.length
    (fun k s => Gr s (pA F (shA up (l.take k)))) _ (fun k s hk hI => ?_) (fun s hI => ?_) (s0 := g) (by simpa [shA, pA_nil] using h)
  · have hm := hr _ (nth_mem' hk Arc.zero)
    refine .inl ⟨growAr s ⟨(nth l k Arc.zero).frm + up, (nth l k Arc.zero).to + up, (nth l k Arc.zero).set, (nth l k Arc.zero).out, (nth l k Arc.zero).copy⟩, ?_, ?_⟩
    · show Ap_ l up s.f.states s.f.starts s.f.ends s.f.arcs s.over k = _
      unfold Ap_
      rw [iteO_dt (by omega), arc_eq, bnd_mk, wr_ok hm.1, wr_ok hm.2]; rfl
    · rw [shA_snoc up l hk, pA_snoc]; exact hI.ar _
  · rw [List.take_length] at hI
    refine ⟨s, ?_, hI⟩
    show Ap_ l up s.f.states s.f.starts s.f.ends s.f.arcs s.over l.length = _
    unfold Ap_
    rw [iteO_df (by omega)]; rfl
theorem bridge_go {l : List Arc} {s0 up : Int} {p q : List UInt8} (hp : p.length ≤ 1024) (hq : q.length ≤ 1024) (hr : ∀ x ∈ l, (-100000 ≤ x.to + up ∧ x.to + up ≤ 100000) ∧ x.out.length ≤ 1024) {g : Grow} {F : Fst} (h : Gr g F) : ∃ g', Aw_ g s0 p q l up = some g' ∧ Gr g' (pA F (brA s0 p q l up)) := by
  unfold Aw_
  rw [grd_mk (by omega), grd_mk (by omega)]
  refine iter_up (step := fun z : Int × (List Tip) × (List Tip) × (List Arc) × Bool × Nat => Ad_ l p q s0 up z.1 z.2.1 z.2.2.1 z.2.2.2.1 z.2.2.2.2.1 z.2.2.2.2.2) (fun (s : Grow) k => (s.f.states, s.f.starts, s.f.ends, s.f.arcs, s.over, k)) l.length
    (fun k s => Gr s (pA F (brA s0 p q (l.take k) up))) _ (fun k s hk hI => ?_) (fun s hI => ?_) (s0 := g) (by simpa [brA, pA_nil] using h)
  · have hm := hr _ (nth_mem' hk Arc.zero)
    have hs : Ad_ l p q s0 up s.f.states s.f.starts s.f.ends s.f.arcs s.over k = (fun v26 : Grow => iteO v26.over (fin (some (⟨(⟨v26.f.states, v26.f.starts, v26.f.ends, v26.f.arcs⟩ : Fst), v26.over⟩ : Grow))) (nxt (v26.f.states, v26.f.starts, v26.f.ends, v26.f.arcs, v26.over, (k + 1)))) (growAr s ⟨s0, (nth l k Arc.zero).to + up, (nth l k Arc.zero).set, (p ++ q) ++ (nth l k Arc.zero).out, (nth l k Arc.zero).copy⟩) := by
      unfold Ad_
      rw [iteO_dt (by omega), grd_mk (by omega), grd_mk (by rw [List.length_append]; omega), arc_eq, bnd_mk, wr_ok hm.1]
    have hG := hI.ar ⟨s0, (nth l k Arc.zero).to + up, (nth l k Arc.zero).set, (p ++ q) ++ (nth l k Arc.zero).out, (nth l k Arc.zero).copy⟩
    rw [← pA_snoc, ← brA_snoc s0 p q l up hk] at hG
    generalize growAr s ⟨s0, (nth l k Arc.zero).to + up, (nth l k Arc.zero).set, (p ++ q) ++ (nth l k Arc.zero).out, (nth l k Arc.zero).copy⟩ = g' at hs hG
    cases ho : g'.over with
    | true => exact .inr ⟨g', by show Ad_ l p q s0 up s.f.states s.f.starts s.f.ends s.f.arcs s.over k = _; rw [hs]; dsimp only; rw [ho]; show some (Sum.inr _) = _; rw [← ho], .inl ho⟩
    | false => exact .inl ⟨g', by show Ad_ l p q s0 up s.f.states s.f.starts s.f.ends s.f.arcs s.over k = _; rw [hs]; dsimp only; rw [ho]; rfl, hG⟩
  · rw [List.take_length] at hI
    refine ⟨s, ?_, hI⟩
    show Ad_ l p q s0 up s.f.states s.f.starts s.f.ends s.f.arcs s.over l.length = _
    unfold Ad_
    rw [iteO_df (by omega)]; rfl
theorem leaving_go {t : Fst} (ht : FstOk t) : ∃ l, Cd_ t = some l ∧ Grp Arc.frm id t.states.toNat l t.arcs := by
  have h0 := ht.st0
  have h1 := ht.st1
  unfold Cd_
  rw [grd_mk ⟨h0, by omega⟩]
  refine iter_up (step := fun q : (List (List Arc)) × Nat => Av_ t q.1 q.2) (fun (l : List (List Arc)) k => (l, k)) t.arcs.length (fun k l => Grp Arc.frm id t.states.toNat l (t.arcs.take k)) _
    (fun k l hk hI => ?_) (fun l hI => ?_) (s0 := List.replicate t.states.toNat []) (by simpa using Grp.nil Arc.frm id t.states.toNat)
  · have hlen := hI.len
    have hm := ht.arcs _ (nth_mem' hk Arc.zero)
    have hrow : (nth l (nth t.arcs k Arc.zero).frm.toNat []).length ≤ 16384 := by
      rw [hI.at hm.1.1 (by omega), List.length_map]
      have := List.length_filter_le (fun x : Arc => decide (x.frm = (nth t.arcs k Arc.zero).frm)) (t.arcs.take k)
      rw [List.length_take] at this
      have := ht.arcsN; omega
    refine .inl ⟨l.set (nth t.arcs k Arc.zero).frm.toNat (nth l (nth t.arcs k Arc.zero).frm.toNat [] ++ [nth t.arcs k Arc.zero]), ?_, ?_⟩
    · show Av_ t l k = _
      unfold Av_
      rw [iteO_dt (by omega), grd_mk (by omega), grd_mk (by rw [List.length_singleton]; omega), grd_mk (by omega)]; rfl
    · rw [take_snoc t.arcs hk Arc.zero]; exact hI.snoc hm.1.1 (by omega)
  · rw [List.take_length] at hI
    refine ⟨l, ?_, hI⟩
    show Av_ t l t.arcs.length = _
    unfold Av_
    rw [iteO_df (by omega)]; rfl
def GEnd (F : Fst) (r : Fst × Int) : Prop := r = (⟨0, [], [], []⟩, 2) ∨ r = (F, 0) ∧ GB F ∧ F.states ≤ 1024
theorem gend {g : Grow} {F : Fst} (h : Gr g F) : GEnd F (lookG g) := by
  unfold lookG
  split
  · exact .inl rfl
  · rename_i hn
    rcases h with h | ⟨rfl, h⟩
    · exact absurd (.inl h) hn
    · simp only [Bool.false_eq_true, false_or, Int.not_lt] at hn
      exact .inr ⟨rfl, h, hn⟩
theorem shT_zero (l : List Tip) : shT 0 l = l := by
  unfold shT
  have : (fun x : Tip => (⟨x.state + 0, x.out⟩ : Tip)) = id := funext fun x => by rw [Int.add_zero]; rfl
  rw [this, List.map_id]
theorem shA_zero (l : List Arc) : shA 0 l = l := by
  unfold shA
  have : (fun x : Arc => (⟨x.frm + 0, x.to + 0, x.set, x.out, x.copy⟩ : Arc)) = id := funext fun x => by rw [Int.add_zero, Int.add_zero]; rfl
  rw [this, List.map_id]
theorem both_go (a b : Fst) : Ef_ a b = some (fstB a && fstB b) := by
  unfold Ef_
  rw [Dg_, bnd_mk]
  cases ha : fstB a
  · rfl
  · rw [Dg_, bnd_mk]
    cases hb : fstB b <;> rfl
theorem alt_go {a b : Fst} (ha : FstOk a) (hb : FstOk b) : ∃ r, Dc_ a b = some r ∧ GEnd (fAlt a b) r := by
  have a0 := ha.st0
  have a1 := ha.st1
  have b0 := hb.st0
  have b1 := hb.st1
  have rT0 : ∀ l : List Tip, (∀ x ∈ l, (0 ≤ x.state ∧ x.state < a.states) ∧ x.out.length ≤ 1024) → ∀ x ∈ l, -100000 ≤ x.state + 0 ∧ x.state + 0 ≤ 100000 := fun l hl x hx => by have := hl x hx; omega
  have rT1 : ∀ l : List Tip, (∀ x ∈ l, (0 ≤ x.state ∧ x.state < b.states) ∧ x.out.length ≤ 1024) → ∀ x ∈ l, -100000 ≤ x.state + a.states ∧ x.state + a.states ≤ 100000 := fun l hl x hx => by have := hl x hx; omega
  unfold Dc_
  rw [both_go, (fstB_iff a).2 ha, (fstB_iff b).2 hb, bnd_mk]
  simp only [Bool.and_self, Bool.not_true, iteO_false]
  rw [wr_ok (by omega)]
  obtain ⟨g1, e1, h1⟩ := starts_go (rT0 _ ha.starts) (Gr.nil (a.states + b.states))
  rw [bnd_some e1]
  obtain ⟨g2, e2, h2⟩ := starts_go (rT1 _ hb.starts) h1
  rw [bnd_some e2]
  obtain ⟨g3, e3, h3⟩ := ends_go (rT0 _ ha.ends) h2
  rw [bnd_some e3]
  obtain ⟨g4, e4, h4⟩ := ends_go (rT1 _ hb.ends) h3
  rw [bnd_some e4]
  obtain ⟨g5, e5, h5⟩ := arcs_go (l := a.arcs) (up := 0) (fun x hx => by have := ha.arcs x hx; omega) h4
  rw [bnd_some e5]
  obtain ⟨g6, e6, h6⟩ := arcs_go (l := b.arcs) (up := a.states) (fun x hx => by have := hb.arcs x hx; omega) h5
  rw [bnd_some e6, bnd_some (look_eq g6)]
  refine ⟨lookG g6, rfl, ?_⟩
  have := gend h6
  rw [shT_zero, shT_zero, shA_zero] at this
  exact this
theorem ends_grp {t : Fst} (ht : FstOk t) {R : Type} {Q : R → Prop} {step : List (List Tip) × Nat → Option ((List (List Tip) × Nat) ⊕ R)}
    (hs : ∀ l k, k < t.ends.length → step (l, k) = grd (0 ≤ ((nth t.ends k Tip.zero).state) ∧ ((nth t.ends k Tip.zero).state) < (l.length : Int)) (grd (((nth l (((nth t.ends k Tip.zero).state).toNat) ([] : List Tip)).length + [(nth t.ends k Tip.zero)].length) * 24 ≤ 140737488355328) (grd (0 ≤ ((nth t.ends k Tip.zero).state) ∧ ((nth t.ends k Tip.zero).state) < (l.length : Int)) (nxt ((l.set (((nth t.ends k Tip.zero).state).toNat) ((nth l (((nth t.ends k Tip.zero).state).toNat) ([] : List Tip)) ++ [(nth t.ends k Tip.zero)])), (k + 1))))))
    (hd : ∀ l, Grp Tip.state id t.states.toNat l t.ends → ∃ r, step (l, t.ends.length) = some (.inr r) ∧ Q r) : ∃ r, iter step (List.replicate t.states.toNat [], 0) = some r ∧ Q r := by
  have h0 := ht.st0
  refine iter_up (step := step) (fun (l : List (List Tip)) k => (l, k)) t.ends.length (fun k l => Grp Tip.state id t.states.toNat l (t.ends.take k)) _
    (fun k l hk hI => ?_) (fun l hI => ?_) (s0 := List.replicate t.states.toNat []) (by simpa using Grp.nil Tip.state id t.states.toNat)
  · have hlen := hI.len
    have hm := ht.ends _ (nth_mem' hk Tip.zero)
    have hrow : (nth l (nth t.ends k Tip.zero).state.toNat []).length ≤ 1024 := by
      rw [hI.at hm.1.1 (by omega), List.length_map]
      have := List.length_filter_le (fun x : Tip => decide (x.state = (nth t.ends k Tip.zero).state)) (t.ends.take k)
      rw [List.length_take] at this
      have := ht.endsN; omega
    refine .inl ⟨l.set (nth t.ends k Tip.zero).state.toNat (nth l (nth t.ends k Tip.zero).state.toNat [] ++ [nth t.ends k Tip.zero]), ?_, ?_⟩
    · rw [hs l k hk, grd_mk (by omega), grd_mk (by rw [List.length_singleton]; omega), grd_mk (by omega)]; rfl
    · rw [take_snoc t.ends hk Tip.zero]; exact hI.snoc hm.1.1 (by omega)
  · rw [List.take_length] at hI; exact hd l hI
def endA (b : Fst) (s : Int) : List Tip := b.ends.filter fun z => decide (z.state = s)
def cEnd (p q : Tip) (l : List Tip) : List Tip := l.map fun z => ⟨p.state, (p.out ++ q.out) ++ z.out⟩
def catS (F : Fst) (a b : Fst) (p q : Tip) : Fst := pE (pA F (brA p.state p.out q.out (lvA b q.state) a.states)) (cEnd p q (endA b q.state))
def catL (F : Fst) (a b : Fst) (p : Tip) (l : List Tip) : Fst := pE (pA F (l.flatMap fun q => brA p.state p.out q.out (lvA b q.state) a.states)) (l.flatMap fun q => cEnd p q (endA b q.state))
theorem catL_nil (F : Fst) (a b : Fst) (p : Tip) : catL F a b p [] = F := by simp [catL, pA, pE]
theorem catL_snoc (F : Fst) (a b : Fst) (p : Tip) (l : List Tip) (q : Tip) : catL F a b p (l ++ [q]) = catS (catL F a b p l) a b p q := by simp [catL, catS, pA, pE]
def catM (F : Fst) (a b : Fst) (l : List Tip) : Fst := pE (pA F (l.flatMap fun p => b.starts.flatMap fun q => brA p.state p.out q.out (lvA b q.state) a.states)) (l.flatMap fun p => b.starts.flatMap fun q => cEnd p q (endA b q.state))
theorem catM_nil (F : Fst) (a b : Fst) : catM F a b [] = F := by simp [catM, pA, pE]
theorem catM_snoc (F : Fst) (a b : Fst) (l : List Tip) (p : Tip) : catM F a b (l ++ [p]) = catL (catM F a b l) a b p b.starts := by simp [catM, catL, pA, pE]
theorem cat_b4 {a b : Fst} (ha : FstOk a) (hb : FstOk b) {l147 : List (List Tip)} (h147 : Grp Tip.state id b.states.toNat l147 b.ends) {k3 k2 : Nat} (hk3 : k3 < b.starts.length) (hk2 : k2 < a.ends.length) {g : Grow} {F : Fst} (hg : Gr g F) :
    ∃ r, iter (fun q : Int × (List Tip) × (List Tip) × (List Arc) × Bool × Nat => Bm_ l147 b k3 a k2 q.1 q.2.1 q.2.2.1 q.2.2.2.1 q.2.2.2.2.1 q.2.2.2.2.2) (g.f.states, g.f.starts, g.f.ends, g.f.arcs, g.over, 0) = some r ∧
      ((∃ g' : Grow, r = .inl (g'.f.states, g'.f.starts, g'.f.ends, g'.f.arcs, g'.over, k3 + 1) ∧ Gr g' (pE F (cEnd (nth a.ends k2 Tip.zero) (nth b.starts k3 Tip.zero) (endA b (nth b.starts k3 Tip.zero).state)))) ∨ r = .inr (.inr (⟨0, [], [], []⟩, 2))) := by
  have hp := ha.ends _ (nth_mem' hk2 Tip.zero)
  have hq := hb.starts _ (nth_mem' hk3 Tip.zero)
  have b0 := hb.st0
  have hrow := h147.at hq.1.1 (by have := hq.1.2; omega)
  rw [List.map_id] at hrow
  obtain ⟨p, hpe⟩ : ∃ p, nth a.ends k2 Tip.zero = p := ⟨_, rfl⟩
  rw [hpe] at hp ⊢
  have hj : ∀ s : Grow, Gr s (pE F (cEnd p (nth b.starts k3 Tip.zero) (endA b (nth b.starts k3 Tip.zero).state))) → ∃ r, Dm_ k3 s.f.states s.f.starts s.f.ends s.f.arcs s.over = some r ∧
      ((∃ g' : Grow, r = .inl (g'.f.states, g'.f.starts, g'.f.ends, g'.f.arcs, g'.over, k3 + 1) ∧ Gr g' (pE F (cEnd p (nth b.starts k3 Tip.zero) (endA b (nth b.starts k3 Tip.zero).state)))) ∨ r = .inr (.inr (⟨0, [], [], []⟩, 2))) := fun s hs => by
    unfold Dm_
    cases ho : s.over with
    | true => exact ⟨_, by rw [iteO_true, bnd_some (look_eq ⟨s.f, true⟩)]; rfl, .inr rfl⟩
    | false => exact ⟨_, rfl, .inl ⟨s, by rw [ho], hs⟩⟩
  refine iter_up (step := fun q : Int × (List Tip) × (List Tip) × (List Arc) × Bool × Nat => Bm_ l147 b k3 a k2 q.1 q.2.1 q.2.2.1 q.2.2.2.1 q.2.2.2.2.1 q.2.2.2.2.2) (fun (s : Grow) k => (s.f.states, s.f.starts, s.f.ends, s.f.arcs, s.over, k)) (endA b (nth b.starts k3 Tip.zero).state).length
    (fun k s => Gr s (pE F (cEnd p (nth b.starts k3 Tip.zero) ((endA b (nth b.starts k3 Tip.zero).state).take k)))) _ (fun k s hk hI => ?_) (fun s hI => ?_) (s0 := g) (by simpa [cEnd, pE_nil] using hg)
  · have hz : nth (endA b (nth b.starts k3 Tip.zero).state) k Tip.zero ∈ b.ends := (List.mem_filter.1 (nth_mem' hk Tip.zero)).1
    have hzl := (hb.ends _ hz).2
    have hs : Bm_ l147 b k3 a k2 s.f.states s.f.starts s.f.ends s.f.arcs s.over k = (fun v135 : Grow => iteO v135.over (fin (Dm_ k3 v135.f.states v135.f.starts v135.f.ends v135.f.arcs v135.over)) (nxt (v135.f.states, v135.f.starts, v135.f.ends, v135.f.arcs, v135.over, (k + 1)))) (growEn s ⟨(nth a.ends k2 Tip.zero).state, ((nth a.ends k2 Tip.zero).out ++ (nth b.starts k3 Tip.zero).out) ++ (nth (endA b (nth b.starts k3 Tip.zero).state) k Tip.zero).out⟩) := by
      unfold Bm_
      rw [show nth l147 (nth b.starts k3 Tip.zero).state.toNat [] = endA b (nth b.starts k3 Tip.zero).state from hrow, iteO_dt (by omega), hpe, grd_mk (by omega), grd_mk (by rw [List.length_append]; omega), end_eq, bnd_mk]
    have hG := hI.en ⟨(nth a.ends k2 Tip.zero).state, ((nth a.ends k2 Tip.zero).out ++ (nth b.starts k3 Tip.zero).out) ++ (nth (endA b (nth b.starts k3 Tip.zero).state) k Tip.zero).out⟩
    rw [← pE_snoc, hpe, ← show cEnd p (nth b.starts k3 Tip.zero) ((endA b (nth b.starts k3 Tip.zero).state).take (k + 1)) = cEnd p (nth b.starts k3 Tip.zero) ((endA b (nth b.starts k3 Tip.zero).state).take k) ++ [⟨p.state, (p.out ++ (nth b.starts k3 Tip.zero).out) ++ (nth (endA b (nth b.starts k3 Tip.zero).state) k Tip.zero).out⟩] from by rw [take_snoc _ hk Tip.zero]; unfold cEnd; rw [List.map_append]; rfl, ← hpe] at hG
    generalize growEn s ⟨(nth a.ends k2 Tip.zero).state, ((nth a.ends k2 Tip.zero).out ++ (nth b.starts k3 Tip.zero).out) ++ (nth (endA b (nth b.starts k3 Tip.zero).state) k Tip.zero).out⟩ = g' at hs hG
    rw [hpe] at hG
    cases ho : g'.over with
    | true =>
      obtain ⟨r, h1, h2⟩ := hj g' (.inl ho)
      exact .inr ⟨r, by show Bm_ l147 b k3 a k2 s.f.states s.f.starts s.f.ends s.f.arcs s.over k = _; rw [hs]; dsimp only; rw [h1, ho]; rfl, h2⟩
    | false => exact .inl ⟨g', by show Bm_ l147 b k3 a k2 s.f.states s.f.starts s.f.ends s.f.arcs s.over k = _; rw [hs]; dsimp only; rw [ho]; rfl, hG⟩
  · rw [List.take_length] at hI
    obtain ⟨r, h1, h2⟩ := hj s hI
    refine ⟨r, ?_, h2⟩
    show Bm_ l147 b k3 a k2 s.f.states s.f.starts s.f.ends s.f.arcs s.over (endA b (nth b.starts k3 Tip.zero).state).length = _
    unfold Bm_
    rw [show nth l147 (nth b.starts k3 Tip.zero).state.toNat [] = endA b (nth b.starts k3 Tip.zero).state from hrow, iteO_df (by omega), h1]; rfl
section
variable {a b : Fst} (ha : FstOk a) (hb : FstOk b) {v48 : List (List Arc)} {l147 : List (List Tip)} (h48 : Grp Arc.frm id b.states.toNat v48 b.arcs) (h147 : Grp Tip.state id b.states.toNat l147 b.ends)
include ha hb h48 h147
theorem cat_b3 {k2 : Nat} (hk2 : k2 < a.ends.length) {g : Grow} {F : Fst} (hg : Gr g F) :
    ∃ r, iter (fun q : Int × (List Tip) × (List Tip) × (List Arc) × Bool × Nat => Bz_ b v48 a k2 l147 q.1 q.2.1 q.2.2.1 q.2.2.2.1 q.2.2.2.2.1 q.2.2.2.2.2) (g.f.states, g.f.starts, g.f.ends, g.f.arcs, g.over, 0) = some r ∧
      ((∃ g' : Grow, r = .inl (g'.f.states, g'.f.starts, g'.f.ends, g'.f.arcs, g'.over, k2 + 1) ∧ Gr g' (catL F a b (nth a.ends k2 Tip.zero) b.starts)) ∨ r = .inr (⟨0, [], [], []⟩, 2)) := by
  have hp := ha.ends _ (nth_mem' hk2 Tip.zero)
  have b0 := hb.st0
  have a0 := ha.st0
  have a1 := ha.st1
  have b1 := hb.st1
  have l1 := h48.len
  have l2 := h147.len
  refine iter_up (step := fun q : Int × (List Tip) × (List Tip) × (List Arc) × Bool × Nat => Bz_ b v48 a k2 l147 q.1 q.2.1 q.2.2.1 q.2.2.2.1 q.2.2.2.2.1 q.2.2.2.2.2) (fun (s : Grow) k => (s.f.states, s.f.starts, s.f.ends, s.f.arcs, s.over, k)) b.starts.length
    (fun k s => Gr s (catL F a b (nth a.ends k2 Tip.zero) (b.starts.take k))) _ (fun k s hk hI => ?_) (fun s hI => ?_) (s0 := g) (by simpa [catL_nil] using hg)
  · have hq := hb.starts _ (nth_mem' hk Tip.zero)
    have hrow := h48.at hq.1.1 (by omega)
    rw [List.map_id] at hrow
    obtain ⟨g1, e1, h1⟩ := bridge_go (l := lvA b (nth b.starts k Tip.zero).state) (s0 := (nth a.ends k2 Tip.zero).state) (up := a.states) hp.2 hq.2 (fun x hx => by have := hb.arcs x (List.mem_filter.1 hx).1; omega) hI
    obtain ⟨r, e2, h2⟩ := cat_b4 ha hb h147 hk hk2 h1
    have hs : Bz_ b v48 a k2 l147 s.f.states s.f.starts s.f.ends s.f.arcs s.over k = some r := by
      unfold Bz_
      rw [iteO_dt (by omega), grd_mk (by omega), show nth v48 (nth b.starts k Tip.zero).state.toNat [] = lvA b (nth b.starts k Tip.zero).state from hrow, bnd_some (show Aw_ (⟨(⟨s.f.states, s.f.starts, s.f.ends, s.f.arcs⟩ : Fst), s.over⟩ : Grow) _ _ _ _ _ = some g1 from e1), grd_mk (by omega)]
      exact e2
    rcases h2 with ⟨g', rfl, hG⟩ | rfl
    · refine .inl ⟨g', hs, ?_⟩
      rw [take_snoc b.starts hk Tip.zero, catL_snoc]; exact hG
    · exact .inr ⟨_, hs, .inr rfl⟩
  · rw [List.take_length] at hI
    refine ⟨_, ?_, .inl ⟨s, rfl, hI⟩⟩
    show Bz_ b v48 a k2 l147 s.f.states s.f.starts s.f.ends s.f.arcs s.over b.starts.length = _
    unfold Bz_
    rw [iteO_df (by omega)]; rfl
theorem cat_b2 {g : Grow} {F : Fst} (hg : Gr g F) :
    ∃ r, iter (fun q : Int × (List Tip) × (List Tip) × (List Arc) × Bool × Nat => B4_ a b v48 l147 q.1 q.2.1 q.2.2.1 q.2.2.2.1 q.2.2.2.2.1 q.2.2.2.2.2) (g.f.states, g.f.starts, g.f.ends, g.f.arcs, g.over, 0) = some r ∧ GEnd (catM F a b a.ends) r := by
  refine iter_up (step := fun q : Int × (List Tip) × (List Tip) × (List Arc) × Bool × Nat => B4_ a b v48 l147 q.1 q.2.1 q.2.2.1 q.2.2.2.1 q.2.2.2.2.1 q.2.2.2.2.2) (fun (s : Grow) k => (s.f.states, s.f.starts, s.f.ends, s.f.arcs, s.over, k)) a.ends.length
    (fun k s => Gr s (catM F a b (a.ends.take k))) _ (fun k s hk hI => ?_) (fun s hI => ?_) (s0 := g) (by simpa [catM_nil] using hg)
  · obtain ⟨r, e2, h2⟩ := cat_b3 ha hb h48 h147 hk hI
    have hs : B4_ a b v48 l147 s.f.states s.f.starts s.f.ends s.f.arcs s.over k = some r := by
      unfold B4_
      rw [iteO_dt (by omega)]; exact e2
    rcases h2 with ⟨g', rfl, hG⟩ | rfl
    · refine .inl ⟨g', hs, ?_⟩
      rw [take_snoc a.ends hk Tip.zero, catM_snoc]; exact hG
    · exact .inr ⟨_, hs, .inl rfl⟩
  · rw [List.take_length] at hI
    refine ⟨lookG s, ?_, gend hI⟩
    show B4_ a b v48 l147 s.f.states s.f.starts s.f.ends s.f.arcs s.over a.ends.length = _
    unfold B4_
    rw [iteO_df (by omega), bnd_some (look_eq s)]; rfl
end
theorem cat_go {a b : Fst} (ha : FstOk a) (hb : FstOk b) : ∃ r, Fn_ a b = some r ∧ GEnd (fCat a b) r := by
  have a0 := ha.st0
  have a1 := ha.st1
  have b0 := hb.st0
  have b1 := hb.st1
  unfold Fn_
  rw [both_go, (fstB_iff a).2 ha, (fstB_iff b).2 hb, bnd_mk]
  simp only [Bool.and_self, Bool.not_true, iteO_false]
  rw [wr_ok (by omega)]
  obtain ⟨g1, e1, h1⟩ := starts_go (l := a.starts) (up := 0) (fun x hx => by have := ha.starts x hx; omega) (Gr.nil (a.states + b.states))
  rw [bnd_some e1]
  obtain ⟨g2, e2, h2⟩ := ends_go (l := b.ends) (up := a.states) (fun x hx => by have := hb.ends x hx; omega) h1
  rw [bnd_some e2]
  obtain ⟨g5, e5, h5⟩ := arcs_go (l := a.arcs) (up := 0) (fun x hx => by have := ha.arcs x hx; omega) h2
  rw [bnd_some e5]
  obtain ⟨g6, e6, h6⟩ := arcs_go (l := b.arcs) (up := a.states) (fun x hx => by have := hb.arcs x hx; omega) h5
  obtain ⟨v48, e48, h48⟩ := leaving_go hb
  rw [bnd_some e6, bnd_some e48, grd_mk ⟨b0, by omega⟩]
  refine ends_grp (step := fun q : (List (List Tip)) × Nat => Cc_ b a v48 g6 q.1 q.2) hb (fun l k hk => ?_) (fun l hl => ?_)
  · show Cc_ b a v48 g6 l k = _
    unfold Cc_ Gk_
    rw [iteO_dt (by omega)]
  · obtain ⟨r, e7, h7⟩ := cat_b2 ha hb h48 hl h6
    refine ⟨r, ?_, ?_⟩
    · show Cc_ b a v48 g6 l b.ends.length = _
      unfold Cc_
      rw [iteO_df (by omega)]
      exact (congrArg fin e7).trans rfl
    · rw [shT_zero, shA_zero] at h7
      exact h7
section
variable {a : Fst} (ha : FstOk a) {v47 : List (List Arc)} (h47 : Grp Arc.frm id a.states.toNat v47 a.arcs)
include ha h47
end
end Go.Proofs.YtcaaiphgikpgjaaGreatDoor
end

section
namespace Go.Proofs.YtcaaiphgikpgjaaGreatDoor
open Go Go.E
end Go.Proofs.YtcaaiphgikpgjaaGreatDoor
end

section
namespace Go.E
open Go
structure ReLeaf where
  kind : Int
  text : List UInt8
  set : BSet
  min : Int
  max : Int
  deriving DecidableEq
def ReLeaf.zero : ReLeaf := ⟨0, [], BSet.zero, 0, 0⟩
def encReLeaf (x : ReLeaf) : List Value := [.int .i64 x.kind, .string (bs x.text), .int .u64 ((x.set.a : Nat) : Int), .int .u64 ((x.set.b : Nat) : Int), .int .u64 ((x.set.c : Nat) : Int), .int .u64 ((x.set.d : Nat) : Int), .slice none 0 0, .int .i64 x.min, .int .i64 x.max]
theorem encReLeaf_len (x : ReLeaf) : (encReLeaf x).length = 9 := rfl
theorem encReLeaf_one : ∀ x, ∀ u ∈ encReLeaf x, u.oneCell' = true := fun x u hu => by
  simp [encReLeaf] at hu
  rcases hu with rfl | rfl | rfl | rfl | rfl | rfl | rfl | rfl | rfl <;> rfl
structure ReRoot where
  kind : Int
  text : List UInt8
  set : BSet
  parts : List ReLeaf
  min : Int
  max : Int
def ReRoot.zero : ReRoot := ⟨0, [], BSet.zero, [], 0, 0⟩
end Go.E
end

section
namespace Go.Proofs.YtcaaiphgikpgjaaGreatDoor
open Go Go.E Go.E.OpVal Go.E.OpOk Go.Proofs.Tryz
private theorem ag93 : Go.E.aggOf Tryz.prog 93 = some false := by kernel_rfl
private theorem ag95 : Go.E.aggOf Tryz.prog 95 = some true := by kernel_rfl
private theorem by9 : Go.E.byOf Tryz.prog 9 = some 16 := by kernel_rfl
private theorem by95 : Go.E.byOf Tryz.prog 95 = some 96 := by kernel_rfl
private theorem fo95_0 : Go.E.foOf Tryz.prog 95 0 = some 0 := by kernel_rfl
private theorem fo95_1 : Go.E.foOf Tryz.prog 95 1 = some 1 := by kernel_rfl
private theorem fo95_3 : Go.E.foOf Tryz.prog 95 3 = some 6 := by kernel_rfl
private theorem pf108 : Go.E.plainF Tryz.prog 108 = true := by kernel_rfl
private theorem pf144 : Go.E.plainF Tryz.prog 144 = true := by kernel_rfl
private theorem pf47 : Go.E.plainF Tryz.prog 47 = true := by kernel_rfl
private theorem pf72 : Go.E.plainF Tryz.prog 72 = true := by kernel_rfl
private theorem pl95 : Go.E.plOf Tryz.prog 95 = some #[(0, 1), (1, 1), (2, 4), (6, 1), (7, 1), (8, 1)] := by kernel_rfl
private theorem sz9 : Go.E.szOf Tryz.prog 9 = some 1 := by kernel_rfl
private theorem sz93 : Go.E.szOf Tryz.prog 93 = some 1 := by kernel_rfl
private theorem sz95 : Go.E.szOf Tryz.prog 95 = some 9 := by kernel_rfl
private theorem ze9 : Go.E.zeroOf Tryz.prog 9 = some (.string ByteArray.empty) := by kernel_rfl
private theorem ze95 : Go.E.zeroOf Tryz.prog 95 = some (.agg #[.int .i64 0, .string ByteArray.empty, .int .u64 0, .int .u64 0, .int .u64 0, .int .u64 0, .slice none 0 0, .int .i64 0, .int .i64 0]) := by kernel_rfl
noncomputable def Ay_ (x1 : List (List UInt8)) (x0 : List UInt8) (k103 : Nat) : Option ((Nat) ⊕ (Bool)) :=
 iteO (decide (((k103 : Nat) : Int) < ((x1.length : Nat) : Int))) (iteO (decide ((nth x1 k103 ([] : List UInt8)) = x0)) (fin (some true)) (nxt (k103 + 1))) (fin (some false))
noncomputable def C3_ (x0 : List UInt8) (x1 : List (List UInt8)) : Option (Bool) :=
 grd (x0.length ≤ 281474976710656) (iter (fun q : Nat => Ay_ x1 x0 q) 0)
theorem Hp_ {σ : Store} {x0 : List UInt8} {x1 : List (List UInt8)} {a1_0 : Option Addr} {c1_0 : Nat} (f1_0 : RS σ 1 Go.E.encS (.slice a1_0 x1.length c1_0) x1) {r : Bool} (hh : C3_ x0 x1 = some r) :
  Con Tryz.prog 144 #[.string (bs x0), .slice a1_0 x1.length c1_0] σ [] (PureP (.bool r) σ) := by
 dsimp only [C3_] at hh
 have f1_0b := f1_0.rv.big
 refine Con.mk (n := 18) Tryz.func144 z z z (fun w0 => ?_)
 have x0b := grd_c hh
 replace hh := grd_t hh
 refine TC.a (TL.j z z (TL.en (TC.seq (TC.a (TL.i z z (TL.en (TC.block (TC.loopG (α := (Nat) × (Unit)) (rgs [(4, 14)]) (fun g => [(5, .int .i64 ((g.1 : Nat) : Int))]) (fun g => []) (fun g => σ) (fun g => iter (fun q : Nat => Ay_ x1 x0 q) g.1 = some r) (fun g => rounds (fun q : Nat => Ay_ x1 x0 q) g.1) (0, ()) (Sub.pre 0 z) z (by repeat (first | exact trivial | refine ⟨z, ?_⟩)) hh (fun g1 j1 hg1 => ?_)))))))))
 obtain ⟨k103, _⟩ := g1
 have hh := hg1; clear hg1
 try dsimp only
 obtain ⟨z1, hh, hR1⟩ := iter_e hh
 dsimp only [Ay_] at hh
 refine TC.seq (TC.a (TL.i z z (TL.s z z (TL.w z (lenC z underlying45 z) (TL.w z (OpVal.lss z z z) (TL.en (TC.cD z hh (fun h104 hh => ?_) (fun h104 hh => ?_))))))))
 ·refine TC.skip (S.n (TC.seq (TC.block (TC.a (TL.s z z (TL.i z z (TL.w z (indexN z underlying45 sz9 z z f1_0.rv.sl (by omega)) (TL.w z (loadS1 ([] : List UInt8) z ag9 z f1_0 (by omega) z) (TL.w z (moveStr (.inl z) z) (TL.w z (eqlBs z z z) (TL.en (TC.cD z hh (fun h105 hh => ?_) (fun h105 hh => ?_)))))))))))))
  ·refine TC.a (TL.j z z (TL.en (TC.ret (B.r (S.r (S.r ?_))))))
   replace hh := fin_x hR1 hh
   refine B.r (S.r ?_)
   obtain rfl := so hh
   exact rq [4] ⟨z, z, z⟩
  ·refine TC.skip (B.n (S.n (TC.region (TL.i z z (TL.w z (OpVal.succ z z z (by omega)) (TL.i z z (TL.en ?_)))))))
   obtain ⟨hh, hlt106⟩ := nxt_x hR1 hh
   exact lf ((k103 + 1), ()) hlt106 hh (Sub.pre 0 z)
 ·refine TC.exit (S.x (S.x ?_))
  replace hh := fin_x hR1 hh
  refine TC.exitHere (S.n (TC.a (TL.j z z (TL.en (TC.ret ?_)))))
  obtain rfl := so hh
  exact rq [4] ⟨z, z, z⟩
noncomputable def Aq_ (x0 : List (List UInt8)) (k119 : Nat) (l123 : List (List UInt8)) (t126 : Bool) : Option (((List (List UInt8)) × Bool × Nat) ⊕ ((List (List UInt8)))) :=
 grd ((l123.length + [(nth x0 k119 ([] : List UInt8))].length) * 16 ≤ 140737488355328) (nxt ((l123 ++ [(nth x0 k119 ([] : List UInt8))]), t126, (k119 + 1)))
noncomputable def Cn_ (l141 : List (List UInt8)) : Option ((List (List UInt8))) :=
 some l141
noncomputable def Al_ (x0 : List (List UInt8)) (x1 : List UInt8) (l115 : List (List UInt8)) (t118 : Bool) (k119 : Nat) : Option (((List (List UInt8)) × Bool × Nat) ⊕ ((List (List UInt8)))) :=
 iteO (decide (((k119 : Nat) : Int) < ((x0.length : Nat) : Int))) (iteO (!t118) (iteO (decide (Lib.compareBytes x1 (nth x0 k119 ([] : List UInt8)) < 0)) (grd ((l115.length + [x1].length) * 16 ≤ 140737488355328) (Aq_ x0 k119 (l115 ++ [x1]) true)) (Aq_ x0 k119 l115 t118)) (Aq_ x0 k119 l115 t118)) (fin (iteO (!t118) (grd ((l115.length + [x1].length) * 16 ≤ 140737488355328) (Cn_ (l115 ++ [x1]))) (Cn_ l115)))
noncomputable def Bx_ (x0 : List (List UInt8)) (x1 : List UInt8) : Option ((List (List UInt8))) :=
 grd (x1.length ≤ 281474976710656) (bnd (C3_ x1 x0) (fun v4 => iteO v4 (some x0) (iter (fun q : (List (List UInt8)) × Bool × Nat => Al_ x0 x1 q.1 q.2.1 q.2.2) (([] : List (List UInt8)), false, 0))))
def Hu_ (σ : Store) (r : (List (List UInt8))) : Value → Store → List Res → Prop := fun v σ' H' =>
 ∃ (a1 : Option Addr), ∃ (c1 : Nat),  v = .slice a1 r.length c1 ∧ RS σ' 1 Go.E.encS (.slice a1 r.length c1) r ∧ H' = []
theorem Fb_ {σ : Store} {x0 : List (List UInt8)} {a0_0 : Option Addr} {c0_0 : Nat} {x1 : List UInt8} (f0_0 : RS σ 1 Go.E.encS (.slice a0_0 x0.length c0_0) x0) {r : (List (List UInt8))} (hh : Bx_ x0 x1 = some r) :
  Con Tryz.prog 108 #[.slice a0_0 x0.length c0_0, .string (bs x1)] σ [] (Hu_ σ r) := by
 dsimp only [Bx_] at hh
 have f0_0b := f0_0.rv.big
 refine Con.mk (n := 46) Tryz.func108 z z z (fun w0 => ?_)
 have x1b := grd_c hh
 replace hh := grd_t hh
 refine TC.a (TL.s z z (TL.en (TC.seq (TC.a (TL.w z (moveStr (.inl z) z) (TL.s z z ?_))))))
 obtain ⟨v4, u4, hh⟩ := bnd_e hh
 refine TL.op z (callP (Hp_ f0_0 u4) z z pf144 z z z ?_)
 refine TL.en (TC.cB z hh (fun h101 hh => ?_) (fun h101 hh => ?_))
 ·refine TC.a (TL.s z z (TL.s z z (TL.en (TC.ret (S.r ?_)))))
  obtain rfl := so hh
  exact rq [4] ⟨a0_0, c0_0, z, f0_0, z⟩
 ·refine TC.skip (S.n (TC.a (TL.s z z (TL.en (TC.a (TL.j z z (TL.en (TC.seq (TC.a (TL.i z z (TL.en (TC.block (TC.nilS 9 1 Go.E.encS (TC.loopG (α := ((List (List UInt8)) × Bool × Nat) × ((Option Addr) × Nat)) (rgs [(5, 3), (12, 27)]) (fun g => [(5, .slice g.2.1 g.1.1.length g.2.2), (6, .bool g.1.2.1), (7, .int .i64 ((g.1.2.2 : Nat) : Int))]) (fun g => [Res.rowS 9 1 Go.E.encS (.slice g.2.1 g.1.1.length g.2.2) g.1.1]) (fun g => σ) (fun g => iter (fun q : (List (List UInt8)) × Bool × Nat => Al_ x0 x1 q.1 q.2.1 q.2.2) g.1 = some r) (fun g => rounds (fun q : (List (List UInt8)) × Bool × Nat => Al_ x0 x1 q.1 q.2.1 q.2.2) g.1) ((([] : List (List UInt8)), false, 0), (none, 0)) (Sub.pre 1 z) z (by repeat (first | exact trivial | refine ⟨z, ?_⟩)) hh (fun g1 j1 hg1 => ?_)))))))))))))))
  obtain ⟨⟨l115, t118, k119⟩, ⟨a116, c117⟩⟩ := g1
  have hh := hg1; clear hg1
  try dsimp only
  obtain ⟨z1, hh, hR1⟩ := iter_e hh
  dsimp only [Al_] at hh
  refine TC.isSl (i := 0) z (fun _ hb121 _ => ?_)
  refine TC.seq (TC.a (TL.i z z (TL.s z z (TL.w z (lenC z underlying45 z) (TL.w z (OpVal.lss z z z) (TL.en (TC.cD z hh (fun h122 hh => ?_) (fun h122 hh => ?_))))))))
  ·refine TC.skip (S.n (TC.seq (TC.block (TC.cutG (α := ((List (List UInt8)) × Bool) × ((Option Addr) × Nat)) (rgs [(5, 2), (18, 14)]) (fun g => [(5, .slice g.2.1 g.1.1.length g.2.2), (6, .bool g.1.2)]) (fun g => [Res.rowS 9 1 Go.E.encS (.slice g.2.1 g.1.1.length g.2.2) g.1.1]) (fun g => σ) (fun g => Aq_ x0 k119 g.1.1 g.1.2 = some z1) ?_ (fun g j hg => ?_)))))
   ·skip
    refine TC.a (TL.j z z (TL.w z (OpVal.not z z) (TL.j z z (TL.split 20 z (fun h127 => ?_) (fun h127 => ?_)))))
    ·replace hh := iteO_t h127 hh
     refine TL.g z (moveStr (.inl z) z) (TL.g z (moveSl (.inl z) z) (TL.g z (moveI (.inl z) z) (TL.g z (indexN z underlying45 sz9 z z f0_0.rv.sl (by omega)) (TL.g z (loadS1 ([] : List UInt8) z ag9 z f0_0 (by omega) z) (TL.g z (lssBs z z z) (TL.w z (pickTB z z z) (TL.en (TC.cD z hh (fun h128 hh => ?_) (fun h128 hh => ?_)))))))))
     ·refine TC.a (TL.s z z (TL.w z (moveStr (.inl z) z) (TL.op z (OpOk.lit (enc := Go.E.encS) [x1] z underlying45 sz9 ze9 z z z Go.E.encS_len (by decide) (by decide) ([] : List UInt8) z (by decide) z (by decide) Go.E.encS_one (fun a129 c130 => ?_)))))
      refine TL.front 1 z z ?_
      have u27 := grd_c hh
      replace hh := grd_t hh
      refine TL.op z (appendS z z underlying45 sz9 by9 ze9 z z (by decide) z z z (.inr ⟨_, 0, z⟩) (by simpa using u27) (by decide) (fun a132 c133 => ?_))
      exact TL.s z z (TL.en (TC.region (TL.j z z (TL.en (cf (((l115 ++ [x1]), true), (a132, c133)) hh (Sub.pre 1 z))))))
     ·exact TC.skip (S.n (cf ((l115, t118), (a116, c117)) hh (Sub.pre 1 z)))
    ·replace hh := iteO_f h127 hh
     exact TL.f z (TL.f z (TL.f z (TL.f z (TL.f z (TL.f z (TL.w z (pickFB z z z) (TL.en (TC.f z (TC.skip (S.n (cf ((l115, t118), (a116, c117)) hh (Sub.pre 1 z))))))))))))
   ·skip
    obtain ⟨⟨l123, t126⟩, ⟨a124, c125⟩⟩ := g
    have hh := hg; clear hg
    try dsimp only
    dsimp only [Aq_] at hh
    refine TC.isSl (i := 0) z (fun _ hb134 _ => ?_)
    refine TC.region (TL.s z z (TL.s z z (TL.i z z (TL.w z (indexN z underlying45 sz9 z z f0_0.rv.sl (by omega)) (TL.w z (loadS1 ([] : List UInt8) z ag9 z f0_0 (by omega) z) (TL.op z (OpOk.lit (enc := Go.E.encS) [(nth x0 k119 ([] : List UInt8))] z underlying45 sz9 ze9 z z z Go.E.encS_len (by decide) (by decide) ([] : List UInt8) z (by decide) z (by decide) Go.E.encS_one (fun a135 c136 => ?_))))))))
    refine TL.front 1 z z ?_
    have u36 := grd_c hh
    replace hh := grd_t hh
    refine TL.op z (appendS z z underlying45 sz9 by9 ze9 z z (by decide) z z z (.inr ⟨_, 0, z⟩) (by simpa using u36) (by decide) (fun a138 c139 => ?_))
    refine TL.s z z (TL.nil (B.n (S.n (TC.region (TL.i z z (TL.w z (OpVal.succ z z z (by omega)) (TL.i z z (TL.en ?_))))))))
    obtain ⟨hh, hlt140⟩ := nxt_x hR1 hh
    exact lf (((l123 ++ [(nth x0 k119 ([] : List UInt8))]), t126, (k119 + 1)), (a138, c139)) hlt140 hh (Sub.pre 1 z)
  ·refine TC.exit (S.x (S.x ?_))
   replace hh := fin_x hR1 hh
   refine TC.exitHere (S.n (TC.cutG (α := ((List (List UInt8))) × ((Option Addr) × Nat)) [5, 39, 40, 41, 42, 43, 44] (fun g => [(5, .slice g.2.1 g.1.length g.2.2)]) (fun g => [Res.rowS 9 1 Go.E.encS (.slice g.2.1 g.1.length g.2.2) g.1]) (fun g => σ) (fun g => Cn_ g.1 = some r) ?_ (fun g j hg => ?_)))
   ·skip
    refine TC.a (TL.j z z (TL.w z (OpVal.not z z) (TL.en (TC.cB z hh (fun h144 hh => ?_) (fun h144 hh => ?_)))))
    ·refine TC.region (TL.s z z (TL.w z (moveStr (.inl z) z) (TL.op z (OpOk.lit (enc := Go.E.encS) [x1] z underlying45 sz9 ze9 z z z Go.E.encS_len (by decide) (by decide) ([] : List UInt8) z (by decide) z (by decide) Go.E.encS_one (fun a145 c146 => ?_)))))
     refine TL.front 1 z z ?_
     have u46 := grd_c hh
     replace hh := grd_t hh
     refine TL.op z (appendS z z underlying45 sz9 by9 ze9 z z (by decide) z z z (.inr ⟨_, 0, z⟩) (by simpa using u46) (by decide) (fun a148 c149 => ?_))
     exact TL.s z z (TL.en (cf ((l115 ++ [x1]), (a148, c149)) hh (Sub.pre 1 z)))
    ·exact TC.skip (S.n (cf (l115, (a116, c117)) hh (Sub.pre 1 z)))
   ·skip
    obtain ⟨l141, ⟨a142, c143⟩⟩ := g
    have hh := hg; clear hg
    try dsimp only
    dsimp only [Cn_] at hh
    refine TC.isSl (i := 0) z (fun _ hb150 _ => ?_)
    refine TC.a (TL.s z z (TL.s z z (TL.en (TC.sealS Go.E.encS_len (fun τ153 hle152 hr151 => ?_)))))
    have hr151b := hr151.rv.big
    refine TC.ret ?_
    obtain rfl := so hh
    exact rq [4] ⟨a142, c143, z, hr151, z⟩
noncomputable def usesLeaf_b1 (l103 : List (List UInt8)) : Option ((Unit) ⊕ ((List (List UInt8)))) :=
 iteO (decide (0 < ((0 : Nat) : Int))) (none) (fin (some l103))
noncomputable def usesLeaf_j1 (l103 : List (List UInt8)) : Option ((List (List UInt8))) :=
 iter (fun q : Unit => usesLeaf_b1 l103) ()
noncomputable def usesLeaf (x0 : ReLeaf) (x1 : List (List UInt8)) : Option ((List (List UInt8))) :=
 iteO (decide (x0.kind = 3)) (bnd (Bx_ x1 x0.text) (fun v9 => usesLeaf_j1 v9)) (usesLeaf_j1 x1)
def usesLeaf_P (σ : Store) (r : (List (List UInt8))) : Value → Store → List Res → Prop := fun v σ' H' =>
 ∃ (a1 : Option Addr), ∃ (c1 : Nat),  v = .slice a1 r.length c1 ∧ RS σ' 1 Go.E.encS (.slice a1 r.length c1) r ∧ H' = []
theorem usesLeaf_con {σ : Store} {x0 : ReLeaf} {x1 : List (List UInt8)} {a1_0 : Option Addr} {c1_0 : Nat} (f1_0 : RS σ 1 Go.E.encS (.slice a1_0 x1.length c1_0) x1) {r : (List (List UInt8))} (hh : usesLeaf x0 x1 = some r) :
  Con Tryz.prog 72 #[.agg #[.int .i64 x0.kind, .string (bs x0.text), .int .u64 ((x0.set.a : Nat) : Int), .int .u64 ((x0.set.b : Nat) : Int), .int .u64 ((x0.set.c : Nat) : Int), .int .u64 ((x0.set.d : Nat) : Int), .slice none 0 0, .int .i64 x0.min, .int .i64 x0.max], .slice a1_0 x1.length c1_0] σ [] (usesLeaf_P σ r) := by
 dsimp only [usesLeaf] at hh
 have f1_0b := f1_0.rv.big
 refine Con.mk (n := 28) Tryz.func72 z z z (fun w0 => ?_)
 refine TC.a (TL.op z (boxA z z z z (fun b101 => ?_)))
 refine TL.s z z (TL.en (TC.cutG (α := ((List (List UInt8))) × ((Option Addr) × Nat × Store)) (rgs [(1, 1), (6, 7)]) (fun g => [(1, .slice g.2.1 g.1.length g.2.2.1)]) (fun g => [Res.cells b101 #[.int .i64 x0.kind, .string (bs x0.text), .int .u64 ((x0.set.a : Nat) : Int), .int .u64 ((x0.set.b : Nat) : Int), .int .u64 ((x0.set.c : Nat) : Int), .int .u64 ((x0.set.d : Nat) : Int), .slice none 0 0, .int .i64 x0.min, .int .i64 x0.max] 95]) (fun g => g.2.2.2) (fun g => usesLeaf_j1 g.1 = some r ∧ RS g.2.2.2 1 Go.E.encS (.slice g.2.1 g.1.length g.2.2.1) g.1 ∧ Store.le σ g.2.2.2) ?_ (fun g j hg => ?_)))
 ·skip
  refine TC.a (TL.w z (fieldLoc z fo95_0 z) (TL.w z (loadLoc z ag3 z (i := 0) z z) (TL.w z (OpVal.eql z z z) (TL.en (TC.cD z hh (fun h107 hh => ?_) (fun h107 hh => ?_))))))
  ·refine TC.region (TL.s z z (TL.w z (fieldLoc z fo95_1 z) (TL.w z (loadLoc z ag9 z (i := 0) z z) ?_)))
   obtain ⟨v9, u9, hh⟩ := bnd_e hh
   refine TL.op z (OpOk.call (Fb_ f1_0 u9) z z pf108 z z z z ?_)
   rintro _ τ108 _ hle108 ⟨a108_1, c108_1, rfl, hr108_0, rfl⟩
   replace f1_0 := f1_0.mono hle108
   have hr108_0b := hr108_0.rv.big
   exact TL.s z z (TL.en (cf (v9, (a108_1, c108_1, τ108)) ⟨hh, hr108_0, hle108⟩ (Sub.pre 1 z)))
  ·exact TC.skip (S.n (cf (x1, (a1_0, c1_0, σ)) ⟨hh, f1_0, (Store.le.refl _)⟩ (Sub.pre 1 z)))
 ·skip
  obtain ⟨l103, ⟨a104, c105, τ109⟩⟩ := g
  obtain ⟨hh, hr106, hle110⟩ := hg
  try dsimp only at hr106 hle110 ⊢
  dsimp only [usesLeaf_j1] at hh
  have hr106b := hr106.rv.big
  refine TC.seq (TC.a (TL.i z z (TL.en (TC.block (TC.loopG (α := (Unit) × (Unit)) (rgs [(1, 1), (5, 1), (13, 14)]) (fun g => [(1, .slice a104 l103.length c105), (5, .int .i64 0)]) (fun g => [Res.cells b101 #[.int .i64 x0.kind, .string (bs x0.text), .int .u64 ((x0.set.a : Nat) : Int), .int .u64 ((x0.set.b : Nat) : Int), .int .u64 ((x0.set.c : Nat) : Int), .int .u64 ((x0.set.d : Nat) : Int), .slice none 0 0, .int .i64 x0.min, .int .i64 x0.max] 95]) (fun g => τ109) (fun g => iter (fun q : Unit => usesLeaf_b1 l103) g.1 = some r) (fun g => rounds (fun q : Unit => usesLeaf_b1 l103) g.1) ((), ()) (Sub.pre 1 z) z (by repeat (first | exact trivial | refine ⟨z, ?_⟩)) hh (fun g1 j1 hg1 => ?_))))))
  obtain ⟨_, _⟩ := g1
  have hh := hg1; clear hg1
  try dsimp only
  obtain ⟨z1, hh, hR1⟩ := iter_e hh
  dsimp only [usesLeaf_b1] at hh
  refine TC.seq (TC.a (TL.i z z (TL.w z (fieldLoc z fo95_3 z) (TL.w z (loadLoc z ag93 z (i := 0) z z) (TL.w z (lenC z underlying93 z) (TL.w z (OpVal.lss z z z) (TL.en (TC.cond z (fun h111 => ?_) (fun h111 => ?_)))))))))
  ·exact absurd (of_decide_eq_true h111) (by omega)
  ·replace hh := iteO_f h111 hh
   replace h111 := of_decide_eq_false h111
   refine TC.exit (S.x (S.x ?_))
   replace hh := fin_x hR1 hh
   refine TC.exitHere (S.n (TC.a (TL.s z z (TL.s z z (TL.en (TC.rt 0 ?_))))))
   obtain rfl := so hh
   exact rq [4] ⟨a104, c105, z, hr106, z⟩
noncomputable def usesRoot_b1 (x0 : ReRoot) (l121 : List (List UInt8)) (k125 : Nat) : Option (((List (List UInt8)) × Nat) ⊕ ((List (List UInt8)))) :=
 iteO (decide (((k125 : Nat) : Int) < ((x0.parts.length : Nat) : Int))) (bnd (usesLeaf (nth x0.parts k125 ReLeaf.zero) l121) (fun v23 => nxt (v23, (k125 + 1)))) (fin (some l121))
noncomputable def usesRoot_j1 (x0 : ReRoot) (l103 : List (List UInt8)) : Option ((List (List UInt8))) :=
 iter (fun q : (List (List UInt8)) × Nat => usesRoot_b1 x0 q.1 q.2) (l103, 0)
noncomputable def usesRoot (x0 : ReRoot) (x1 : List (List UInt8)) : Option ((List (List UInt8))) :=
 iteO (decide (x0.kind = 3)) (bnd (Bx_ x1 x0.text) (fun v9 => usesRoot_j1 x0 v9)) (usesRoot_j1 x0 x1)
def usesRoot_P (σ : Store) (r : (List (List UInt8))) : Value → Store → List Res → Prop := fun v σ' H' =>
 ∃ (a1 : Option Addr), ∃ (c1 : Nat),  v = .slice a1 r.length c1 ∧ RS σ' 1 Go.E.encS (.slice a1 r.length c1) r ∧ H' = []
theorem usesRoot_con {σ : Store} {x0 : ReRoot} {a0_0 : Option Addr} {c0_0 : Nat} {x1 : List (List UInt8)} {a1_0 : Option Addr} {c1_0 : Nat} (f0_0 : RS σ 9 encReLeaf (.slice a0_0 x0.parts.length c0_0) x0.parts) (f1_0 : RS σ 1 Go.E.encS (.slice a1_0 x1.length c1_0) x1) {r : (List (List UInt8))} (hh : usesRoot x0 x1 = some r) :
  Con Tryz.prog 72 #[.agg #[.int .i64 x0.kind, .string (bs x0.text), .int .u64 ((x0.set.a : Nat) : Int), .int .u64 ((x0.set.b : Nat) : Int), .int .u64 ((x0.set.c : Nat) : Int), .int .u64 ((x0.set.d : Nat) : Int), .slice a0_0 x0.parts.length c0_0, .int .i64 x0.min, .int .i64 x0.max], .slice a1_0 x1.length c1_0] σ [] (usesRoot_P σ r) := by
 dsimp only [usesRoot] at hh
 have f0_0b := f0_0.rv.big
 have f1_0b := f1_0.rv.big
 refine Con.mk (n := 28) Tryz.func72 z z z (fun w0 => ?_)
 refine TC.a (TL.op z (boxA z z z z (fun b101 => ?_)))
 refine TL.s z z (TL.en (TC.cutG (α := ((List (List UInt8))) × ((Option Addr) × Nat × Store)) (rgs [(1, 1), (6, 7)]) (fun g => [(1, .slice g.2.1 g.1.length g.2.2.1)]) (fun g => [Res.cells b101 #[.int .i64 x0.kind, .string (bs x0.text), .int .u64 ((x0.set.a : Nat) : Int), .int .u64 ((x0.set.b : Nat) : Int), .int .u64 ((x0.set.c : Nat) : Int), .int .u64 ((x0.set.d : Nat) : Int), .slice a0_0 x0.parts.length c0_0, .int .i64 x0.min, .int .i64 x0.max] 95]) (fun g => g.2.2.2) (fun g => usesRoot_j1 x0 g.1 = some r ∧ RS g.2.2.2 1 Go.E.encS (.slice g.2.1 g.1.length g.2.2.1) g.1 ∧ Store.le σ g.2.2.2) ?_ (fun g j hg => ?_)))
 ·skip
  refine TC.a (TL.w z (fieldLoc z fo95_0 z) (TL.w z (loadLoc z ag3 z (i := 0) z z) (TL.w z (OpVal.eql z z z) (TL.en (TC.cD z hh (fun h107 hh => ?_) (fun h107 hh => ?_))))))
  ·refine TC.region (TL.s z z (TL.w z (fieldLoc z fo95_1 z) (TL.w z (loadLoc z ag9 z (i := 0) z z) ?_)))
   obtain ⟨v9, u9, hh⟩ := bnd_e hh
   refine TL.op z (OpOk.call (Fb_ f1_0 u9) z z pf108 z z z z ?_)
   rintro _ τ108 _ hle108 ⟨a108_1, c108_1, rfl, hr108_0, rfl⟩
   replace f0_0 := f0_0.mono hle108
   replace f1_0 := f1_0.mono hle108
   have hr108_0b := hr108_0.rv.big
   exact TL.s z z (TL.en (cf (v9, (a108_1, c108_1, τ108)) ⟨hh, hr108_0, hle108⟩ (Sub.pre 1 z)))
  ·exact TC.skip (S.n (cf (x1, (a1_0, c1_0, σ)) ⟨hh, f1_0, (Store.le.refl _)⟩ (Sub.pre 1 z)))
 ·skip
  obtain ⟨l103, ⟨a104, c105, τ109⟩⟩ := g
  obtain ⟨hh, hr106, hle110⟩ := hg
  try dsimp only at hr106
  dsimp only at hle110
  replace f0_0 := f0_0.mono hle110
  try dsimp only
  dsimp only [usesRoot_j1] at hh
  have hr106b := hr106.rv.big
  refine TC.seq (TC.a (TL.i z z (TL.en (TC.block (TC.loopG (α := ((List (List UInt8)) × Nat) × ((Option Addr) × Nat × Store)) (rgs [(1, 1), (5, 1), (13, 14)]) (fun g => [(1, .slice g.2.1 g.1.1.length g.2.2.1), (5, .int .i64 ((g.1.2 : Nat) : Int))]) (fun g => [Res.cells b101 #[.int .i64 x0.kind, .string (bs x0.text), .int .u64 ((x0.set.a : Nat) : Int), .int .u64 ((x0.set.b : Nat) : Int), .int .u64 ((x0.set.c : Nat) : Int), .int .u64 ((x0.set.d : Nat) : Int), .slice a0_0 x0.parts.length c0_0, .int .i64 x0.min, .int .i64 x0.max] 95]) (fun g => g.2.2.2) (fun g => iter (fun q : (List (List UInt8)) × Nat => usesRoot_b1 x0 q.1 q.2) g.1 = some r ∧ RS g.2.2.2 1 Go.E.encS (.slice g.2.1 g.1.1.length g.2.2.1) g.1.1 ∧ Store.le τ109 g.2.2.2) (fun g => rounds (fun q : (List (List UInt8)) × Nat => usesRoot_b1 x0 q.1 q.2) g.1) ((l103, 0), (a104, c105, τ109)) (Sub.pre 1 z) z (by repeat (first | exact trivial | refine ⟨z, ?_⟩)) ⟨hh, hr106, (Store.le.refl _)⟩ (fun g1 j1 hg1 => ?_))))))
  obtain ⟨⟨l121, k125⟩, ⟨a122, c123, τ126⟩⟩ := g1
  obtain ⟨hh, hr124, hle127⟩ := hg1
  try dsimp only at hr124
  dsimp only at hle127
  replace f0_0 := f0_0.mono hle127
  try dsimp only
  obtain ⟨z1, hh, hR1⟩ := iter_e hh
  dsimp only [usesRoot_b1] at hh
  have hr124b := hr124.rv.big
  refine TC.seq (TC.a (TL.i z z (TL.w z (fieldLoc z fo95_3 z) (TL.w z (loadLoc z ag93 z (i := 0) z z) (TL.w z (lenC z underlying93 z) (TL.w z (OpVal.lss z z z) (TL.en (TC.cD z hh (fun h128 hh => ?_) (fun h128 hh => ?_)))))))))
  ·refine TC.skip (S.n (TC.seq (TC.block (TC.region (TL.w z (fieldLoc z fo95_3 z) (TL.w z (loadLoc z ag93 z (i := 0) z z) (TL.i z z (TL.w z (indexN z underlying93 sz95 z z f0_0.rv.sl (by omega)) (TL.w z (loadSA ReLeaf.zero z ag95 sz95 z f0_0 (by omega) (by omega)) (TL.s z z ?_))))))))))
   obtain ⟨v23, u23, hh⟩ := bnd_e hh
   refine TL.op z (OpOk.call (usesLeaf_con hr124 u23) z z pf72 z z z z ?_)
   rintro _ τ129 _ hle129 ⟨a129_1, c129_1, rfl, hr129_0, rfl⟩
   replace hr124 := hr124.mono hle129
   have hr129_0b := hr129_0.rv.big
   refine TL.s z z (TL.nil (B.n (S.n (TC.region (TL.i z z (TL.w z (OpVal.succ z z z (by omega)) (TL.i z z (TL.en ?_))))))))
   obtain ⟨hh, hlt130⟩ := nxt_x hR1 hh
   exact lf ((v23, (k125 + 1)), (a129_1, c129_1, τ129)) hlt130 ⟨hh, hr129_0, (hle127.trans hle129)⟩ (Sub.pre 1 z)
  ·refine TC.exit (S.x (S.x ?_))
   replace hh := fin_x hR1 hh
   refine TC.exitHere (S.n (TC.a (TL.s z z (TL.s z z (TL.en (TC.rt 0 ?_))))))
   obtain rfl := so hh
   exact rq [4] ⟨a122, c123, z, hr124, z⟩
noncomputable def C9_ (x0 : ReRoot) : Option ((List (List UInt8))) :=
 bnd (usesRoot x0 ([] : List (List UInt8))) (fun v4 => some v4)
def Hn_ (σ : Store) (r : (List (List UInt8))) : Value → Store → List Res → Prop := fun v σ' H' =>
 ∃ (a1 : Option Addr), ∃ (c1 : Nat),  v = .slice a1 r.length c1 ∧ RS σ' 1 Go.E.encS (.slice a1 r.length c1) r ∧ H' = []
theorem Ha_ {σ : Store} {x0 : ReRoot} {a0_0 : Option Addr} {c0_0 : Nat} (f0_0 : RS σ 9 encReLeaf (.slice a0_0 x0.parts.length c0_0) x0.parts) {r : (List (List UInt8))} (hh : C9_ x0 = some r) :
  Con Tryz.prog 47 #[.agg #[.int .i64 x0.kind, .string (bs x0.text), .int .u64 ((x0.set.a : Nat) : Int), .int .u64 ((x0.set.b : Nat) : Int), .int .u64 ((x0.set.c : Nat) : Int), .int .u64 ((x0.set.d : Nat) : Int), .slice a0_0 x0.parts.length c0_0, .int .i64 x0.min, .int .i64 x0.max]] σ [] (Hn_ σ r) := by
 dsimp only [C9_] at hh
 have f0_0b := f0_0.rv.big
 refine Con.mk (n := 5) Tryz.func47 z z z (fun w0 => ?_)
 refine TC.a (TL.op z (boxA z z z z (fun b101 => ?_)))
 refine TL.s z z (TL.en (TC.a (TL.w z (loadAll z ag95 sz95 z (i := 0) z z) ?_)))
 obtain ⟨v4, u4, hh⟩ := bnd_e hh
 refine TL.op z (OpOk.call (usesRoot_con (x0 := x0) f0_0 (RS.nilF _ Go.E.encS Go.E.encS_len) u4) z z pf72 z z z z ?_)
 rintro _ τ103 _ hle103 ⟨a103_1, c103_1, rfl, hr103_0, rfl⟩
 have hr103_0b := hr103_0.rv.big
 refine TL.s z z (TL.en (TC.rt 0 ?_))
 obtain rfl := so hh
 exact rq [2] ⟨a103_1, c103_1, z, hr103_0, z⟩
noncomputable def As_ (x0 : List (List UInt8)) (l114 : List ReLeaf) (k117 : Nat) : Option (((List ReLeaf) × Nat) ⊕ ((List (List UInt8)))) :=
 iteO (decide (((k117 : Nat) : Int) < ((x0.length : Nat) : Int))) (grd ((l114.length + [(⟨3, (nth x0 k117 ([] : List UInt8)), BSet.zero, 0, 0⟩ : ReLeaf)].length) * 96 ≤ 140737488355328) (nxt ((l114 ++ [(⟨3, (nth x0 k117 ([] : List UInt8)), BSet.zero, 0, 0⟩ : ReLeaf)]), (k117 + 1)))) (fin (bnd (C9_ (⟨5, ([] : List UInt8), BSet.zero, l114, 0, 0⟩ : ReRoot)) (fun v25 => some v25)))
noncomputable def Bn_ (x0 : List (List UInt8)) : Option ((List (List UInt8))) :=
 iter (fun q : (List ReLeaf) × Nat => As_ x0 q.1 q.2) (([] : List ReLeaf), 0)
def Hh_ (σ : Store) (r : (List (List UInt8))) : Value → Store → List Res → Prop := fun v σ' H' =>
 ∃ (a1 : Option Addr), ∃ (c1 : Nat),  v = .slice a1 r.length c1 ∧ RS σ' 1 Go.E.encS (.slice a1 r.length c1) r ∧ H' = []
theorem Eo_ {σ : Store} {x0 : List (List UInt8)} {a0_0 : Option Addr} {c0_0 : Nat} (f0_0 : RS σ 1 Go.E.encS (.slice a0_0 x0.length c0_0) x0) {r : (List (List UInt8))} (hh : Bn_ x0 = some r) :
  Con Tryz.prog 19 #[.slice a0_0 x0.length c0_0] σ [] (Hh_ σ r) := by
 dsimp only [Bn_] at hh
 have f0_0b := f0_0.rv.big
 refine Con.mk (n := 24) Tryz.func19 z z z (fun w0 => ?_)
 refine TC.a (TL.s z z (TL.en (TC.a (TL.w z (buildL z pl95 ze95 z) (TL.op z (OpOk.alloc z ze95 z z (fun b101 => ?_)))))))
 refine TL.op z (storeAll z sz95 z z z z z z ?_)
 refine TL.en (TC.seq (TC.a (TL.i z z (TL.en (TC.block (TC.nilS 95 9 encReLeaf (TC.loopG (α := ((List ReLeaf) × Nat) × ((Option Addr) × Nat)) (rgs [(4, 1), (6, 16)]) (fun g => [(4, .int .i64 ((g.1.2 : Nat) : Int))]) (fun g => [Res.cells b101 #[.int .i64 5, .string (bs ([] : List UInt8)), .int .u64 ((BSet.zero.a : Nat) : Int), .int .u64 ((BSet.zero.b : Nat) : Int), .int .u64 ((BSet.zero.c : Nat) : Int), .int .u64 ((BSet.zero.d : Nat) : Int), .slice g.2.1 g.1.1.length g.2.2, .int .i64 0, .int .i64 0] 95, Res.rowS 95 9 encReLeaf (.slice g.2.1 g.1.1.length g.2.2) g.1.1]) (fun g => σ) (fun g => iter (fun q : (List ReLeaf) × Nat => As_ x0 q.1 q.2) g.1 = some r) (fun g => rounds (fun q : (List ReLeaf) × Nat => As_ x0 q.1 q.2) g.1) ((([] : List ReLeaf), 0), (none, 0)) (Sub.f [1] 2) z (by repeat (first | exact trivial | refine ⟨z, ?_⟩)) hh (fun g1 j1 hg1 => ?_))))))))
 obtain ⟨⟨l114, k117⟩, ⟨a115, c116⟩⟩ := g1
 have hh := hg1; clear hg1
 try dsimp only
 obtain ⟨z1, hh, hR1⟩ := iter_e hh
 dsimp only [As_] at hh
 refine TC.isSl (i := 1) z (fun _ hb119 _ => ?_)
 refine TC.seq (TC.a (TL.i z z (TL.s z z (TL.w z (lenC z underlying45 z) (TL.w z (OpVal.lss z z z) (TL.en (TC.cD z hh (fun h120 hh => ?_) (fun h120 hh => ?_))))))))
 ·refine TC.skip (S.n (TC.seq (TC.block ?_)))
  have u18 := grd_c hh
  replace hh := grd_t hh
  refine TC.draw [8, 9, 10] (by kernel_rfl) (TA.a 0 z (fieldLoc z fo95_3 z) z (TA.b 1 z (loadLoc z ag93 z (i := 0) z z) z (TA.a 2 z (moveSl (.inl z) z) z (TA.a 3 z (moveI (.inl z) z) z (TA.b 4 z (indexN z underlying45 sz9 z z f0_0.rv.sl (by omega)) z (TA.b 5 z (loadS1 ([] : List UInt8) z ag9 z f0_0 (by omega) z) z (TA.a 6 z (buildL z pl95 ze95 z) z (TA.ac 7 z (OpOk.lit (enc := encReLeaf) [(⟨3, (nth x0 k117 ([] : List UInt8)), BSet.zero, 0, 0⟩ : ReLeaf)] z underlying93 sz95 ze95 z z z encReLeaf_len (by decide) (by decide) ReLeaf.zero z (by decide) z (by decide) encReLeaf_one (fun a126 c127 => (k1 ?_)))))))))))
  refine TA.front 2 z z (TA.last 8 (by kernel_rfl) z z z (appendS z z underlying93 sz95 by95 ze95 z z (by decide) z z z (.inr ⟨_, 0, z⟩) (by simpa using u18) (by decide) (fun a129 c130 => ?_)))
  refine TZ.v 9 (by kernel_rfl) z z z (fieldLoc z fo95_3 z) z z (TZ.front 2 z z (TZ.last 10 (by kernel_rfl) z z z (storeSl z sz93 z z z z z ?_)))
  refine TZ.done (by kernel_rfl) (B.n (S.n (TC.region (TL.i z z (TL.w z (OpVal.succ z z z (by omega)) (TL.i z z (TL.en ?_)))))))
  obtain ⟨hh, hlt131⟩ := nxt_x hR1 hh
  exact lf (((l114 ++ [(⟨3, (nth x0 k117 ([] : List UInt8)), BSet.zero, 0, 0⟩ : ReLeaf)]), (k117 + 1)), (a129, c130)) hlt131 hh (Sub.f [1, 1] 2)
 ·refine TC.exit (S.x (S.x ?_))
  replace hh := fin_x hR1 hh
  refine TC.exitHere (S.n (TC.a (TL.w z (loadAll z ag95 sz95 z (i := 0) z z) (TL.front 1 z z (TL.sealS encReLeaf_len (fun τ134 hle133 hr132 => ?_))))))
  have hr132b := hr132.rv.big
  obtain ⟨v25, u25, hh⟩ := bnd_e hh
  refine TL.op z (OpOk.call (Ha_ (x0 := (⟨5, ([] : List UInt8), BSet.zero, l114, 0, 0⟩ : ReRoot)) hr132 u25) z z pf47 z z z z ?_)
  rintro _ τ135 _ hle135 ⟨a135_1, c135_1, rfl, hr135_0, rfl⟩
  have hr135_0b := hr135_0.rv.big
  refine TL.s z z (TL.en (TC.rt 0 ?_))
  obtain rfl := so hh
  exact rq [2] ⟨a135_1, c135_1, z, hr135_0, z⟩
end Go.Proofs.YtcaaiphgikpgjaaGreatDoor
end

section
namespace Go.Proofs.YtcaaiphgikpgjaaGreatDoor
open Go Go.E
theorem rin9_eq (x : List UInt8) (l : List (List UInt8)) (hx : x.length ≤ 281474976710656) : C3_ x l = some (decide (x ∈ l)) := by
  unfold C3_
  rw [grd_mk hx]
  refine Exists.elim (iter_for (step := fun q : Nat => Ay_ l x q) (fun (_ : Unit) k => k) l [] (fun p _ => x ∉ p) (fun r => r = decide (x ∈ l)) ?_ ?_ (s0 := ()) (by simp)) (fun r hr => by rw [hr.1, hr.2])
  · intro k s hk hI
    by_cases he : nth l k [] = x
    · right
      refine ⟨true, by simp only [Ay_, lt_dec hk, iteO_true, he, decide_true]; rfl, ?_⟩
      have := nth_mem' hk []; rw [he] at this; simp [this]
    · left
      refine ⟨(), by simp only [Ay_, lt_dec hk, iteO_true, decide_eq_false he, iteO_false]; rfl, ?_⟩
      rw [List.mem_append, List.mem_singleton]
      rintro (h | h)
      · exact hI h
      · exact he h.symm
  · intro s hI
    exact ⟨false, by simp only [Ay_, Int.lt_irrefl, decide_false, iteO_false]; rfl, by simp [hI]⟩
abbrev ltB (x y : List UInt8) : Prop := Lib.compareBytes x y < 0
theorem ltB_of {x y : List UInt8} (h : ¬ ltB x y) (hn : x ≠ y) : ltB y x := by
  have a := cmpB_good.anti y x
  have b := cmpB_good.eq x y
  have : Lib.compareBytes x y ≠ 0 := fun h => hn (b.1 h)
  unfold ltB at *; omega
theorem add9_eq (l : List (List UInt8)) (x : List UInt8) (hx : x.length ≤ 281474976710656) (hl : l.length ≤ 4000000000) (hp : l.Pairwise ltB) : ∃ r, Bx_ l x = some r ∧ r.Pairwise ltB ∧ (∀ y, y ∈ r ↔ y ∈ l ∨ y = x) ∧ r.length ≤ l.length + 1 := by
  unfold Bx_
  rw [grd_mk hx, rin9_eq x l hx, bnd, Option.bind_some]
  by_cases hm : x ∈ l
  · rw [decide_eq_true hm, iteO_true]
    refine ⟨l, rfl, hp, fun y => ⟨.inl, ?_⟩, by omega⟩
    rintro (h | rfl)
    · exact h
    · exact hm
  rw [decide_eq_false hm, iteO_false]
  refine iter_for (step := fun q : (List (List UInt8)) × Bool × Nat => Al_ l x q.1 q.2.1 q.2.2) (fun (s : List (List UInt8) × Bool) k => (s.1, s.2, k)) l []
    (fun p s => (s.2 = false → s.1 = p ∧ ∀ y ∈ p, ltB y x) ∧ (s.2 = true → s.1.Pairwise ltB ∧ (∀ y, y ∈ s.1 ↔ y ∈ p ∨ y = x) ∧ (∃ y ∈ p, ltB x y) ∧ s.1.length = p.length + 1)) _ ?_ ?_ (s0 := ([], false)) ⟨fun _ => ⟨rfl, by simp⟩, fun h => by cases h⟩
  · rintro k ⟨o, t⟩ hk ⟨h1, h2⟩
    simp only at h1 h2
    left
    have hsp := take_split l hk []
    have hpre : (l.take k ++ [nth l k []]).Pairwise ltB := by
      rw [← take_snoc l hk []]; exact hp.sublist (List.take_sublist _ _)
    rw [List.pairwise_append] at hpre
    have hlt : ∀ y ∈ l.take k, ltB y (nth l k []) := fun y hy => hpre.2.2 y hy _ (List.mem_singleton.2 rfl)
    have hne : x ≠ nth l k [] := fun e => hm (e ▸ nth_mem' hk [])
    have htl : (l.take k).length = k := by rw [List.length_take]; omega
    cases t with
    | false =>
      obtain ⟨rfl, h4⟩ := h1 rfl
      by_cases hc : ltB x (nth l k [])
      · refine ⟨(l.take k ++ [x] ++ [nth l k []], true), ?_, ⟨fun h => (by cases h), fun _ => ⟨?_, ?_, ⟨_, by simp, hc⟩, by simp⟩⟩⟩
        · simp only [Al_, lt_dec hk, iteO_true, Bool.not_false, decide_eq_true (show Lib.compareBytes x (nth l k []) < 0 from hc), Aq_]
          rw [grd_mk (by rw [htl, List.length_singleton]; omega), grd_mk (by rw [List.length_append, htl, List.length_singleton, List.length_singleton]; omega)]
          rfl
        · show (l.take k ++ [x] ++ [nth l k []]).Pairwise ltB
          rw [List.pairwise_append, List.pairwise_append]
          refine ⟨⟨hpre.1, List.pairwise_singleton .., fun y hy z hz => ?_⟩, List.pairwise_singleton .., fun y hy z hz => ?_⟩
          · rw [List.mem_singleton.1 hz]; exact h4 y hy
          · rw [List.mem_singleton.1 hz]
            rw [List.mem_append, List.mem_singleton] at hy
            rcases hy with hy | rfl
            · exact hlt y hy
            · exact hc
        · intro y
          simp only [List.mem_append, List.mem_singleton]
          constructor
          · rintro ((h | h) | h)
            · exact .inl (.inl h)
            · exact .inr h
            · exact .inl (.inr h)
          · rintro ((h | h) | h)
            · exact .inl (.inl h)
            · exact .inr h
            · exact .inl (.inr h)
      · refine ⟨(l.take k ++ [nth l k []], false), ?_, ⟨fun _ => ⟨rfl, fun y hy => ?_⟩, fun h => (by cases h)⟩⟩
        · simp only [Al_, lt_dec hk, iteO_true, Bool.not_false, decide_eq_false (show ¬ Lib.compareBytes x (nth l k []) < 0 from hc), iteO_false, Aq_]
          rw [grd_mk (by rw [htl, List.length_singleton]; omega)]
          rfl
        · rw [List.mem_append, List.mem_singleton] at hy
          rcases hy with hy | rfl
          · exact h4 y hy
          · exact ltB_of hc hne
    | true =>
      obtain ⟨h3, h4, ⟨y0, hy0, hxy⟩, h5⟩ := h2 rfl
      refine ⟨(o ++ [nth l k []], true), ?_, ⟨fun h => (by cases h), fun _ => ⟨?_, ?_, ⟨y0, List.mem_append_left _ hy0, hxy⟩, by simp only [List.length_append, h5, List.length_singleton]⟩⟩⟩
      · simp only [Al_, lt_dec hk, iteO_true, Bool.not_true, iteO_false, Aq_]
        rw [grd_mk (by rw [h5, htl, List.length_singleton]; omega)]
        rfl
      · show (o ++ [nth l k []]).Pairwise ltB
        rw [List.pairwise_append]
        refine ⟨h3, List.pairwise_singleton .., fun y hy z hz => ?_⟩
        rw [List.mem_singleton.1 hz]
        rcases (h4 y).1 hy with h | rfl
        · exact hlt y h
        · exact cmpB_good.trans _ _ _ hxy (hlt _ hy0)
      · intro y
        rw [List.mem_append, List.mem_append, h4]
        constructor
        · rintro ((h | h) | h)
          · exact .inl (.inl h)
          · exact .inr h
          · exact .inl (.inr h)
        · rintro ((h | h) | h)
          · exact .inl (.inl h)
          · exact .inr h
          · exact .inl (.inr h)
  · rintro ⟨o, t⟩ ⟨h1, h2⟩
    simp only at h1 h2
    cases t with
    | false =>
      obtain ⟨rfl, h4⟩ := h1 rfl
      refine ⟨o ++ [x], ?_, ?_, ?_, by simp⟩
      · simp only [Al_, Int.lt_irrefl, decide_false, iteO_false, Bool.not_false, iteO_true]
        rw [grd_mk (by rw [List.length_singleton]; omega)]; rfl
      · rw [List.pairwise_append]
        exact ⟨hp, List.pairwise_singleton .., fun y hy z hz => by rw [List.mem_singleton.1 hz]; exact h4 y hy⟩
      · intro y; rw [List.mem_append, List.mem_singleton]
    | true =>
      obtain ⟨h3, h4, _, h5⟩ := h2 rfl
      refine ⟨o, ?_, h3, h4, by omega⟩
      simp only [Al_, Int.lt_irrefl, decide_false, iteO_false, Bool.not_true]; rfl
def leafOf (x : List UInt8) : ReLeaf := ⟨3, x, BSet.zero, 0, 0⟩
theorem leaf_end (l : List (List UInt8)) : usesLeaf_j1 l = some l := by
  unfold usesLeaf_j1
  refine iter_done (s := ()) ?_
  simp only [usesLeaf_b1]; rfl
theorem texts_eq (l : List (List UInt8)) (hl : l.length ≤ 1000000000) (ho : ∀ x ∈ l, x.length ≤ 281474976710656) : Bn_ l = some (onceL [] Lib.compareBytes l) := by
  unfold Bn_
  refine iter_fold (step := fun q : (List ReLeaf) × Nat => As_ l q.1 q.2) l [] (fun k => (l.take k).map leafOf) ?_ ?_
  · intro k hk
    simp only [As_, lt_dec hk, iteO_true]
    rw [grd_mk (by simp only [List.length_map, List.length_take, List.length_singleton]; omega), take_snoc l hk [], List.map_append]
    rfl
  · simp only [As_, Int.lt_irrefl, decide_false, iteO_false, List.take_length]
    unfold C9_ usesRoot
    rw [decide_eq_false (show ¬ (5 : Int) = 3 by decide), iteO_false]
    unfold usesRoot_j1
    have hlen : (l.map leafOf).length = l.length := List.length_map _
    refine Exists.elim (iter_for (step := fun q : (List (List UInt8)) × Nat => usesRoot_b1 ⟨5, [], BSet.zero, l.map leafOf, 0, 0⟩ q.1 q.2) (fun s k => (s, k)) l [] (fun p s => s.Pairwise ltB ∧ (∀ y, y ∈ s ↔ y ∈ p) ∧ s.length ≤ p.length)
      (fun r => r = onceL [] Lib.compareBytes l) ?_ ?_ (s0 := []) ⟨List.Pairwise.nil, by simp, by simp⟩) (fun r hr => by rw [hr.1, hr.2]; rfl)
    · rintro k s hk ⟨h1, h2, h3⟩
      left
      have htl : (l.take k).length = k := by rw [List.length_take]; omega
      obtain ⟨r, hr, g1, g2, g3⟩ := add9_eq s (nth l k []) (ho _ (nth_mem' hk [])) (by omega) h1
      have hn : nth (l.map leafOf) k ReLeaf.zero = leafOf (nth l k []) := by
        simp only [nth, List.getD, List.getElem?_map]
        have := getD_some l hk []
        rw [this]; rfl
      refine ⟨r, ?_, g1, fun y => by rw [g2, h2, List.mem_append, List.mem_singleton], by rw [List.length_append, List.length_singleton]; omega⟩
      have hk' : k < (l.map leafOf).length := by rw [hlen]; exact hk
      simp only [usesRoot_b1, lt_dec hk', iteO_true, hn]
      unfold usesLeaf
      simp only [leafOf, decide_true, iteO_true, hr, bnd, Option.bind_some, leaf_end]; rfl
    · rintro s ⟨h1, h2, _⟩
      refine ⟨s, ?_, rising_eq cmpB_good h1 (sorted_onceL cmpB_good l) fun x => by rw [h2, mem_onceL]⟩
      simp only [usesRoot_b1, hlen, Int.lt_irrefl, decide_false, iteO_false]; rfl
structure Gath (o : List Tip) (S : List FPair) : Prop where
  nd : o.Nodup
  sub : ∀ y ∈ o, tp y ∈ S
  len : o.length ≤ 4097
  all : o.length ≤ 4096 → ∀ q ∈ S, ∃ y ∈ o, tp y = q
theorem Gath.more {o : List Tip} {S : List FPair} (h : Gath o S) (hl : o.length ≤ 4096) (x : Tip) : Gath (if x ∈ o then o else o ++ [x]) (S ++ [tp x]) := by
  by_cases hx : x ∈ o
  · rw [if_pos hx]
    refine ⟨h.nd, fun y hy => List.mem_append_left _ (h.sub y hy), h.len, fun h4 q hq => ?_⟩
    rw [List.mem_append, List.mem_singleton] at hq
    rcases hq with hq | rfl
    · exact h.all h4 q hq
    · exact ⟨x, hx, rfl⟩
  · rw [if_neg hx]
    refine ⟨?_, fun y hy => ?_, by rw [List.length_append, List.length_singleton]; omega, fun h4 q hq => ?_⟩
    · rw [List.nodup_append]
      exact ⟨h.nd, by simp, fun a ha b hb => by rw [List.mem_singleton.1 hb]; intro e; subst e; exact hx ha⟩
    · rw [List.mem_append, List.mem_singleton] at *
      rcases hy with hy | rfl
      · exact .inl (h.sub y hy)
      · exact .inr rfl
    · rw [List.mem_append, List.mem_singleton] at hq
      rcases hq with hq | rfl
      · obtain ⟨y, hy, e⟩ := h.all hl q hq
        exact ⟨y, List.mem_append_left _ hy, e⟩
      · exact ⟨x, by simp, rfl⟩
end Go.Proofs.YtcaaiphgikpgjaaGreatDoor
end

section
namespace Go.Proofs.YtcaaiphgikpgjaaGreatDoor
open Go Go.E
theorem state_con (σ : Store) (s n : Int) : Con Tryz.prog 134 #[.int .i64 s, .int .i64 n] σ [] (PureP (.bool (stateB s n)) σ) := by
  refine Con.mk (n := 12) Tryz.func134 rfl rfl rfl (fun w0 => ?_)
  refine TC.seq ?_
  refine TC.region ?_
  refine TL.v rfl (OpVal.moveB (.inr rfl) rfl) rfl rfl ?_
  refine TL.nil ?_
  refine S.n ?_
  refine TC.seq ?_
  refine TC.region ?_
  refine TL.v rfl (OpVal.moveI (.inl rfl) rfl) rfl rfl ?_
  refine TL.v rfl (OpVal.leq rfl rfl rfl) rfl rfl ?_
  refine TL.v rfl (OpVal.moveB (.inl rfl) rfl) rfl rfl ?_
  refine TL.split 7 rfl (fun h1 => ?_) (fun h1 => ?_)
  · try simp only [decide_eq_true_eq, decide_eq_false_iff_not, Bool.not_eq_true', Bool.not_eq_false', Bool.not_eq_eq_eq_not, Bool.not_true, Bool.not_false, Int.not_lt, Int.not_le, Decidable.not_not] at h1
    refine TL.gv rfl rfl rfl rfl rfl (OpVal.moveI (.inl rfl) rfl) rfl rfl ?_
    refine TL.gv rfl rfl rfl rfl rfl (OpVal.moveI (.inl rfl) rfl) rfl rfl ?_
    refine TL.gv rfl rfl rfl rfl rfl (OpVal.lss rfl rfl rfl) rfl rfl ?_
    refine TL.v rfl (OpVal.pickTB rfl rfl rfl) rfl rfl ?_
    refine TL.v rfl (OpVal.moveB (.inr rfl) rfl) rfl rfl ?_
    refine TL.nil ?_
    refine S.n ?_
    refine TC.ret ?_
    -- leaf 1 ret [h1: t7=True] H=[]
    refine ret1P rfl (congrArg Value.bool ?_)
    simp [stateB, *] <;> omega
  · try simp only [decide_eq_true_eq, decide_eq_false_iff_not, Bool.not_eq_true', Bool.not_eq_false', Bool.not_eq_eq_eq_not, Bool.not_true, Bool.not_false, Int.not_lt, Int.not_le, Decidable.not_not] at h1
    refine TL.goff rfl rfl rfl rfl rfl rfl rfl rfl ?_
    refine TL.goff rfl rfl rfl rfl rfl rfl rfl rfl ?_
    refine TL.goff rfl rfl rfl rfl rfl rfl rfl rfl ?_
    refine TL.v rfl (OpVal.pickFB rfl rfl rfl) rfl rfl ?_
    refine TL.v rfl (OpVal.moveB (.inr rfl) rfl) rfl rfl ?_
    refine TL.nil ?_
    refine S.n ?_
    refine TC.ret ?_
    -- leaf 2 ret [h1: t7=False] H=[]
    refine ret1P rfl (congrArg Value.bool ?_)
    simp [stateB, *] <;> omega
theorem rise_con (σ : Store) (a : Option Addr) (c : Nat) (l : List Int) (st : Int) (hl : RS σ 1 Go.E.encI (.slice a l.length c) l) :
    Con Tryz.prog 133 #[.slice a l.length c, .int .i64 st] σ [] (PureP (.bool (riseB l st)) σ) := by
  have hb := hl.rv.big
  refine Con.mk (n := 32) Tryz.func133 rfl rfl rfl (fun w0 => ?_)
  refine TC.seq ?_
  refine TC.region ?_
  refine TL.v rfl (OpVal.moveB (.inr rfl) rfl) rfl rfl ?_
  refine TL.nil ?_
  refine S.n ?_
  refine TC.seq ?_
  refine TC.seq ?_
  refine TC.region ?_
  refine TL.v rfl (OpVal.moveSl (.inl rfl) rfl) rfl rfl ?_
  refine TL.v rfl (OpVal.lenC rfl Tryz.underlying26 rfl) rfl rfl ?_
  refine TL.v rfl (OpVal.moveI (.inl rfl) rfl) rfl rfl ?_
  refine TL.nil ?_
  refine S.n ?_
  refine TC.block ?_
  refine TC.loopF (α := Nat) [4, 5, 6, 9, 10, 11, 12, 13, 14, 15, 16, 17, 18, 19, 20, 21, 22, 23, 24, 25, 26, 27, 28, 29, 30, 31] (fun k => [(9, .int .i64 (k : Nat))]) (fun _ => _) (fun _ => _) (fun k => k ≤ l.length ∧ ∀ i, i < k → riseFrom st l i = true) (fun k => l.length - k) (0) (by first | exact True.intro | omega | (dsimp only; omega) | (simp; done) | (simp; omega)) (by repeat (first | exact trivial | refine ⟨rfl, ?_⟩)) (by rfl) (by rfl) (fun g1 j1 hg1 => ?_)
  obtain ⟨hk, hi⟩ := hg1
  refine TC.seq ?_
  refine TC.region ?_
  refine TL.v rfl (OpVal.lss rfl rfl rfl) rfl rfl ?_
  refine TL.nil ?_
  refine S.n ?_
  refine TC.seq ?_
  refine TC.condD rfl (fun h1 => ?_) (fun h1 => ?_)
  · try simp only [decide_eq_true_eq, decide_eq_false_iff_not, Bool.not_eq_true', Bool.not_eq_false', Bool.not_eq_eq_eq_not, Bool.not_true, Bool.not_false, Int.not_lt, Int.not_le, Decidable.not_not] at h1
    refine TC.skip ?_
    refine S.n ?_
    refine TC.seq ?_
    refine TC.block ?_
    refine TC.seq ?_
    refine TC.region ?_
    refine TL.v rfl (OpVal.moveI (.inl rfl) rfl) rfl rfl ?_
    refine TL.v rfl (OpVal.indexN rfl Tryz.underlying26 sz3 rfl rfl (by first | assumption | exact (RS.rv (by assumption)).sl) (by omega)) rfl rfl ?_
    refine TL.v rfl (OpVal.loadS1 (0 : Int) rfl ag3 rfl (by assumption) (by omega) rfl) rfl rfl ?_
    refine TL.v rfl (OpVal.moveI (.inr rfl) rfl) rfl rfl ?_
    refine TL.v rfl (OpVal.moveI (.inr rfl) rfl) rfl rfl ?_
    refine TL.nil ?_
    refine S.n ?_
    refine TC.seq ?_
    refine TC.region ?_
    refine TL.v rfl (OpVal.moveI (.inl rfl) rfl) rfl rfl ?_
    refine TL.v rfl (OpVal.moveI (.inl rfl) rfl) rfl rfl ?_
    refine TL.op rfl (OpOk.callP (state_con _ _ _) rfl rfl pf134 rfl rfl rfl ?_)
    refine TL.v rfl (OpVal.not rfl rfl) rfl rfl ?_
    refine TL.v rfl (OpVal.moveB (.inl rfl) rfl) rfl rfl ?_
    refine TL.split 18 rfl (fun h2 => ?_) (fun h2 => ?_)
    · try simp only [decide_eq_true_eq, decide_eq_false_iff_not, Bool.not_eq_true', Bool.not_eq_false', Bool.not_eq_eq_eq_not, Bool.not_true, Bool.not_false, Int.not_lt, Int.not_le, Decidable.not_not] at h2
      refine TL.goff rfl rfl rfl rfl rfl rfl rfl rfl ?_
      refine TL.goff rfl rfl rfl rfl rfl rfl rfl rfl ?_
      refine TL.goff rfl rfl rfl rfl rfl rfl rfl rfl ?_
      refine TL.goff' rfl rfl rfl rfl rfl rfl rfl ?_
      refine TL.goff' rfl rfl rfl rfl rfl rfl rfl ?_
      refine TL.goff' rfl rfl rfl rfl rfl rfl rfl ?_
      refine TL.goff' rfl rfl rfl rfl rfl rfl rfl ?_
      refine TL.goff' rfl rfl rfl rfl rfl rfl rfl ?_
      refine TL.goff' rfl rfl rfl rfl rfl rfl rfl ?_
      refine TL.goff' rfl rfl rfl rfl rfl rfl rfl ?_
      refine TL.goff rfl rfl rfl rfl rfl rfl rfl rfl ?_
      refine TL.v rfl (OpVal.pickTB rfl rfl rfl) rfl rfl ?_
      refine TL.nil ?_
      refine S.n ?_
      refine TC.cond rfl (fun _ => ?_) (fun h => Bool.noConfusion h)
      refine TC.seq ?_
      refine TC.region ?_
      refine TL.v rfl (OpVal.moveB (.inr rfl) rfl) rfl rfl ?_
      refine TL.nil ?_
      refine S.n ?_
      refine TC.ret ?_
      refine B.r ?_
      refine S.r ?_
      refine S.r ?_
      refine B.r ?_
      refine S.r ?_
      -- leaf 1 ret [h1: True; h2: t18=True] H=[]
      refine ret1P rfl (congrArg Value.bool ?_)
      exact (riseB_no (k := g1) (by omega) (by simp [riseFrom, h2])).symm
    · try simp only [decide_eq_true_eq, decide_eq_false_iff_not, Bool.not_eq_true', Bool.not_eq_false', Bool.not_eq_eq_eq_not, Bool.not_true, Bool.not_false, Int.not_lt, Int.not_le, Decidable.not_not] at h2
      refine TL.gv rfl rfl rfl rfl rfl (OpVal.moveI (.inl rfl) rfl) rfl rfl ?_
      refine TL.gv rfl rfl rfl rfl rfl (OpVal.gtr rfl rfl rfl) rfl rfl ?_
      refine TL.gv rfl rfl rfl rfl rfl (OpVal.moveB (.inl rfl) rfl) rfl rfl ?_
      refine TL.split 21 rfl (fun h3 => ?_) (fun h3 => ?_)
      · try simp only [decide_eq_true_eq, decide_eq_false_iff_not, Bool.not_eq_true', Bool.not_eq_false', Bool.not_eq_eq_eq_not, Bool.not_true, Bool.not_false, Int.not_lt, Int.not_le, Decidable.not_not] at h3
        refine TL.gv rfl rfl rfl rfl rfl (OpVal.moveI (.inl rfl) rfl) rfl rfl ?_
        refine TL.gv rfl rfl rfl rfl rfl (OpVal.moveSl (.inl rfl) rfl) rfl rfl ?_
        refine TL.gv rfl rfl rfl rfl rfl (OpVal.moveI (.inl rfl) rfl) rfl rfl ?_
        refine TL.gv rfl rfl rfl rfl rfl (OpVal.sub rfl rfl rfl (by omega) (by omega)) rfl rfl ?_
        refine TL.gv rfl rfl rfl rfl rfl (OpVal.index rfl Tryz.underlying26 sz3 rfl rfl (by first | assumption | exact (RS.rv (by assumption)).sl) (by omega) (by omega)) rfl rfl ?_
        refine TL.gv rfl rfl rfl rfl rfl (OpVal.loadS1 (0 : Int) rfl ag3 rfl (by assumption) (by omega) rfl) rfl rfl ?_
        refine TL.gv rfl rfl rfl rfl rfl (OpVal.leq rfl rfl rfl) rfl rfl ?_
        refine TL.gv rfl rfl rfl rfl rfl (OpVal.pickTB rfl rfl rfl) rfl rfl ?_
        refine TL.v rfl (OpVal.pickFB rfl rfl rfl) rfl rfl ?_
        refine TL.nil ?_
        refine S.n ?_
        refine TC.condD rfl (fun h4 => ?_) (fun h4 => ?_)
        · try simp only [decide_eq_true_eq, decide_eq_false_iff_not, Bool.not_eq_true', Bool.not_eq_false', Bool.not_eq_eq_eq_not, Bool.not_true, Bool.not_false, Int.not_lt, Int.not_le, Decidable.not_not] at h4
          refine TC.seq ?_
          refine TC.region ?_
          refine TL.v rfl (OpVal.moveB (.inr rfl) rfl) rfl rfl ?_
          refine TL.nil ?_
          refine S.n ?_
          refine TC.ret ?_
          refine B.r ?_
          refine S.r ?_
          refine S.r ?_
          refine B.r ?_
          refine S.r ?_
          -- leaf 2 ret [h1: True; h2: t18=False; h3: t21=True; h4: True] H=[]
          refine ret1P rfl (congrArg Value.bool ?_)
          exact (riseB_no (k := g1) (by omega) (by rw [show ((g1 : Int) - 1).toNat = g1 - 1 from by omega] at h4; simp [riseFrom, h2, h4]; omega)).symm
        · try simp only [decide_eq_true_eq, decide_eq_false_iff_not, Bool.not_eq_true', Bool.not_eq_false', Bool.not_eq_eq_eq_not, Bool.not_true, Bool.not_false, Int.not_lt, Int.not_le, Decidable.not_not] at h4
          refine TC.skip ?_
          refine B.n ?_
          refine S.n ?_
          refine TC.region ?_
          refine TL.v rfl (OpVal.succ rfl rfl rfl (by omega)) rfl rfl ?_
          refine TL.v rfl (OpVal.moveI (.inl rfl) rfl) rfl rfl ?_
          refine TL.nil ?_
          refine S.n ?_
          -- leaf 3 next [h1: True; h2: t18=False; h3: t21=True; h4: False] H=[]
          refine ⟨by repeat (first | exact Agr.mask | refine Agr.upd rfl ?_ | refine Agr.maskIn rfl ?_), g1 + 1, ?_, ?_, ?_, ?_, ?_⟩
          · omega
          · exact ⟨by omega, all_step hi (by rw [show ((g1 : Int) - 1).toNat = g1 - 1 from by omega] at h4; simp [riseFrom, h2]; omega)⟩
          · repeat (first | exact trivial | refine ⟨rfl, ?_⟩)
          · rfl
          · rfl
      · try simp only [decide_eq_true_eq, decide_eq_false_iff_not, Bool.not_eq_true', Bool.not_eq_false', Bool.not_eq_eq_eq_not, Bool.not_true, Bool.not_false, Int.not_lt, Int.not_le, Decidable.not_not] at h3
        refine TL.goff rfl rfl rfl rfl rfl rfl rfl rfl ?_
        refine TL.goff rfl rfl rfl rfl rfl rfl rfl rfl ?_
        refine TL.goff rfl rfl rfl rfl rfl rfl rfl rfl ?_
        refine TL.goff rfl rfl rfl rfl rfl rfl rfl rfl ?_
        refine TL.goff rfl rfl rfl rfl rfl rfl rfl rfl ?_
        refine TL.goff rfl rfl rfl rfl rfl rfl rfl rfl ?_
        refine TL.goff rfl rfl rfl rfl rfl rfl rfl rfl ?_
        refine TL.gv rfl rfl rfl rfl rfl (OpVal.pickFB rfl rfl rfl) rfl rfl ?_
        refine TL.v rfl (OpVal.pickFB rfl rfl rfl) rfl rfl ?_
        refine TL.nil ?_
        refine S.n ?_
        refine TC.cond rfl (fun h => Bool.noConfusion h) (fun _ => ?_)
        refine TC.skip ?_
        refine B.n ?_
        refine S.n ?_
        refine TC.region ?_
        refine TL.v rfl (OpVal.succ rfl rfl rfl (by omega)) rfl rfl ?_
        refine TL.v rfl (OpVal.moveI (.inl rfl) rfl) rfl rfl ?_
        refine TL.nil ?_
        refine S.n ?_
        -- leaf 4 next [h1: True; h2: t18=False; h3: t21=False] H=[]
        refine ⟨by repeat (first | exact Agr.mask | refine Agr.upd rfl ?_ | refine Agr.maskIn rfl ?_), g1 + 1, ?_, ?_, ?_, ?_, ?_⟩
        · omega
        · exact ⟨by omega, all_step hi (by simp [riseFrom, h2]; omega)⟩
        · repeat (first | exact trivial | refine ⟨rfl, ?_⟩)
        · rfl
        · rfl
  · try simp only [decide_eq_true_eq, decide_eq_false_iff_not, Bool.not_eq_true', Bool.not_eq_false', Bool.not_eq_eq_eq_not, Bool.not_true, Bool.not_false, Int.not_lt, Int.not_le, Decidable.not_not] at h1
    refine TC.exit ?_
    refine S.x ?_
    refine S.x ?_
    refine TC.exitHere ?_
    refine S.n ?_
    refine TC.seq ?_
    refine TC.region ?_
    refine TL.v rfl (OpVal.moveB (.inr rfl) rfl) rfl rfl ?_
    refine TL.nil ?_
    refine S.n ?_
    refine TC.ret ?_
    -- leaf 5 ret [h1: False] H=[]
    refine ret1P rfl (congrArg Value.bool ?_)
    exact (riseB_yes (k := g1) (by omega) hi).symm
theorem check_con (σ : Store) (n : Nfa) (p : NfaP) (hn : RNfa σ n p) : Con Tryz.prog 93 #[nfaV n p] σ [] (PureP (.int .i64 (errB (checkB n))) σ) := by
  have hb := hn.d.rv.big
  have hd := hn.d
  refine Con.mk (n := 61) Tryz.func93 rfl rfl rfl (fun w0 => ?_)
  refine TC.seq ?_
  refine TC.region ?_
  refine TL.op rfl (OpOk.boxA rfl rfl rfl rfl (fun b1 => ?_))
  refine TL.v rfl (OpVal.moveI (.inr rfl) rfl) rfl rfl ?_
  refine TL.nil ?_
  refine S.n ?_
  refine TC.seq ?_
  refine TC.seq ?_
  refine TC.region ?_
  refine TL.v rfl (OpVal.fieldLoc rfl fo124_0 rfl) rfl rfl ?_
  refine TL.v rfl (OpVal.loadLoc rfl ag3 rfl (i := 0) rfl rfl) rfl rfl ?_
  refine TL.v rfl (OpVal.lss rfl rfl rfl) rfl rfl ?_
  refine TL.v rfl (OpVal.moveB (.inl rfl) rfl) rfl rfl ?_
  refine TL.split 8 rfl (fun h3 => ?_) (fun h3 => ?_)
  · try simp only [decide_eq_true_eq, decide_eq_false_iff_not, Bool.not_eq_true', Bool.not_eq_false', Bool.not_eq_eq_eq_not, Bool.not_true, Bool.not_false, Int.not_lt, Int.not_le, Decidable.not_not] at h3
    refine TL.goff rfl rfl rfl rfl rfl rfl rfl rfl ?_
    refine TL.goff rfl rfl rfl rfl rfl rfl rfl rfl ?_
    refine TL.goff rfl rfl rfl rfl rfl rfl rfl rfl ?_
    refine TL.v rfl (OpVal.pickTB rfl rfl rfl) rfl rfl ?_
    refine TL.v rfl (OpVal.moveB (.inl rfl) rfl) rfl rfl ?_
    refine TL.goff rfl rfl rfl rfl rfl rfl rfl rfl ?_
    refine TL.goff rfl rfl rfl rfl rfl rfl rfl rfl ?_
    refine TL.goff rfl rfl rfl rfl rfl rfl rfl rfl ?_
    refine TL.goff rfl rfl rfl rfl rfl rfl rfl rfl ?_
    refine TL.v rfl (OpVal.pickTB rfl rfl rfl) rfl rfl ?_
    refine TL.nil ?_
    refine S.n ?_
    refine TC.cond rfl (fun _ => ?_) (fun h => Bool.noConfusion h)
    refine TC.seq ?_
    refine TC.region ?_
    refine TL.v rfl (OpVal.moveI (.inr rfl) rfl) rfl rfl ?_
    refine TL.nil ?_
    refine S.n ?_
    refine TC.ret ?_
    refine S.r ?_
    -- leaf 1 ret [h3: t8=True] H=['q2']
    refine ret1P rfl (congrArg (Value.int _) ?_)
    exact (congrArg errB (show checkB n = false from by simp only [checkB, Bool.and_eq_false_iff, decide_eq_false_iff_not]; omega)).symm
  · try simp only [decide_eq_true_eq, decide_eq_false_iff_not, Bool.not_eq_true', Bool.not_eq_false', Bool.not_eq_eq_eq_not, Bool.not_true, Bool.not_false, Int.not_lt, Int.not_le, Decidable.not_not] at h3
    refine TL.gv rfl rfl rfl rfl rfl (OpVal.fieldLoc rfl fo124_0 rfl) rfl rfl ?_
    refine TL.gv rfl rfl rfl rfl rfl (OpVal.loadLoc rfl ag3 rfl (i := 0) rfl rfl) rfl rfl ?_
    refine TL.gv rfl rfl rfl rfl rfl (OpVal.gtr rfl rfl rfl) rfl rfl ?_
    refine TL.v rfl (OpVal.pickFB rfl rfl rfl) rfl rfl ?_
    refine TL.v rfl (OpVal.moveB (.inl rfl) rfl) rfl rfl ?_
    refine TL.split 13 rfl (fun h4 => ?_) (fun h4 => ?_)
    · try simp only [decide_eq_true_eq, decide_eq_false_iff_not, Bool.not_eq_true', Bool.not_eq_false', Bool.not_eq_eq_eq_not, Bool.not_true, Bool.not_false, Int.not_lt, Int.not_le, Decidable.not_not] at h4
      refine TL.goff rfl rfl rfl rfl rfl rfl rfl rfl ?_
      refine TL.goff rfl rfl rfl rfl rfl rfl rfl rfl ?_
      refine TL.goff rfl rfl rfl rfl rfl rfl rfl rfl ?_
      refine TL.goff rfl rfl rfl rfl rfl rfl rfl rfl ?_
      refine TL.v rfl (OpVal.pickTB rfl rfl rfl) rfl rfl ?_
      refine TL.nil ?_
      refine S.n ?_
      refine TC.cond rfl (fun _ => ?_) (fun h => Bool.noConfusion h)
      refine TC.seq ?_
      refine TC.region ?_
      refine TL.v rfl (OpVal.moveI (.inr rfl) rfl) rfl rfl ?_
      refine TL.nil ?_
      refine S.n ?_
      refine TC.ret ?_
      refine S.r ?_
      -- leaf 2 ret [h3: t8=False; h4: t13=True] H=['q2']
      refine ret1P rfl (congrArg (Value.int _) ?_)
      exact (congrArg errB (show checkB n = false from by simp only [checkB, Bool.and_eq_false_iff, decide_eq_false_iff_not]; omega)).symm
    · try simp only [decide_eq_true_eq, decide_eq_false_iff_not, Bool.not_eq_true', Bool.not_eq_false', Bool.not_eq_eq_eq_not, Bool.not_true, Bool.not_false, Int.not_lt, Int.not_le, Decidable.not_not] at h4
      refine TL.gv rfl rfl rfl rfl rfl (OpVal.fieldLoc rfl fo124_3 rfl) rfl rfl ?_
      refine TL.gv rfl rfl rfl rfl rfl (OpVal.loadLoc rfl ag122 rfl (i := 0) rfl rfl) rfl rfl ?_
      refine TL.gv rfl rfl rfl rfl rfl (OpVal.lenC rfl Tryz.underlying122 rfl) rfl rfl ?_
      refine TL.gv rfl rfl rfl rfl rfl (OpVal.gtr rfl rfl rfl) rfl rfl ?_
      refine TL.v rfl (OpVal.pickFB rfl rfl rfl) rfl rfl ?_
      refine TL.nil ?_
      refine S.n ?_
      refine TC.condD rfl (fun h5 => ?_) (fun h5 => ?_)
      · try simp only [decide_eq_true_eq, decide_eq_false_iff_not, Bool.not_eq_true', Bool.not_eq_false', Bool.not_eq_eq_eq_not, Bool.not_true, Bool.not_false, Int.not_lt, Int.not_le, Decidable.not_not] at h5
        refine TC.seq ?_
        refine TC.region ?_
        refine TL.v rfl (OpVal.moveI (.inr rfl) rfl) rfl rfl ?_
        refine TL.nil ?_
        refine S.n ?_
        refine TC.ret ?_
        refine S.r ?_
        -- leaf 3 ret [h3: t8=False; h4: t13=False; h5: True] H=['q2']
        refine ret1P rfl (congrArg (Value.int _) ?_)
        exact (congrArg errB (show checkB n = false from by simp only [checkB, Bool.and_eq_false_iff, decide_eq_false_iff_not]; omega)).symm
      · try simp only [decide_eq_true_eq, decide_eq_false_iff_not, Bool.not_eq_true', Bool.not_eq_false', Bool.not_eq_eq_eq_not, Bool.not_true, Bool.not_false, Int.not_lt, Int.not_le, Decidable.not_not] at h5
        refine TC.skip ?_
        refine S.n ?_
        refine TC.seq ?_
        refine TC.seq ?_
        refine TC.region ?_
        refine TL.v rfl (OpVal.fieldLoc rfl fo124_1 rfl) rfl rfl ?_
        refine TL.v rfl (OpVal.loadLoc rfl ag26 rfl (i := 0) rfl rfl) rfl rfl ?_
        refine TL.v rfl (OpVal.fieldLoc rfl fo124_0 rfl) rfl rfl ?_
        refine TL.v rfl (OpVal.loadLoc rfl ag3 rfl (i := 0) rfl rfl) rfl rfl ?_
        refine TL.op rfl (OpOk.callP (rise_con _ _ _ _ _ hn.s) rfl rfl pf133 rfl rfl rfl ?_)
        refine TL.v rfl (OpVal.not rfl rfl) rfl rfl ?_
        refine TL.v rfl (OpVal.moveB (.inl rfl) rfl) rfl rfl ?_
        refine TL.split 25 rfl (fun h6 => ?_) (fun h6 => ?_)
        · try simp only [decide_eq_true_eq, decide_eq_false_iff_not, Bool.not_eq_true', Bool.not_eq_false', Bool.not_eq_eq_eq_not, Bool.not_true, Bool.not_false, Int.not_lt, Int.not_le, Decidable.not_not] at h6
          refine TL.goff rfl rfl rfl rfl rfl rfl rfl rfl ?_
          refine TL.goff rfl rfl rfl rfl rfl rfl rfl rfl ?_
          refine TL.goff rfl rfl rfl rfl rfl rfl rfl rfl ?_
          refine TL.goff rfl rfl rfl rfl rfl rfl rfl rfl ?_
          refine TL.goff rfl rfl rfl rfl rfl rfl rfl rfl ?_
          refine TL.goff rfl rfl rfl rfl rfl rfl rfl rfl ?_
          refine TL.v rfl (OpVal.pickTB rfl rfl rfl) rfl rfl ?_
          refine TL.nil ?_
          refine S.n ?_
          refine TC.cond rfl (fun _ => ?_) (fun h => Bool.noConfusion h)
          refine TC.seq ?_
          refine TC.region ?_
          refine TL.v rfl (OpVal.moveI (.inr rfl) rfl) rfl rfl ?_
          refine TL.nil ?_
          refine S.n ?_
          refine TC.ret ?_
          refine S.r ?_
          -- leaf 4 ret [h3: t8=False; h4: t13=False; h5: False; h6: t25=True] H=['q2']
          refine ret1P rfl (congrArg (Value.int _) ?_)
          exact (congrArg errB (show checkB n = false from by simp [checkB, h6])).symm
        · try simp only [decide_eq_true_eq, decide_eq_false_iff_not, Bool.not_eq_true', Bool.not_eq_false', Bool.not_eq_eq_eq_not, Bool.not_true, Bool.not_false, Int.not_lt, Int.not_le, Decidable.not_not] at h6
          refine TL.gv rfl rfl rfl rfl rfl (OpVal.fieldLoc rfl fo124_2 rfl) rfl rfl ?_
          refine TL.gv rfl rfl rfl rfl rfl (OpVal.loadLoc rfl ag26 rfl (i := 0) rfl rfl) rfl rfl ?_
          refine TL.gv rfl rfl rfl rfl rfl (OpVal.fieldLoc rfl fo124_0 rfl) rfl rfl ?_
          refine TL.gv rfl rfl rfl rfl rfl (OpVal.loadLoc rfl ag3 rfl (i := 0) rfl rfl) rfl rfl ?_
          refine TL.gon rfl rfl rfl rfl rfl (OpOk.callP (rise_con _ _ _ _ _ (by first | exact hn.s | exact hn.e)) rfl rfl pf133 rfl rfl rfl ?_)
          refine TL.gv rfl rfl rfl rfl rfl (OpVal.not rfl rfl) rfl rfl ?_
          refine TL.v rfl (OpVal.pickFB rfl rfl rfl) rfl rfl ?_
          refine TL.nil ?_
          refine S.n ?_
          refine TC.cond rfl (fun h7 => ?_) (fun h7 => ?_)
          · try simp only [decide_eq_true_eq, decide_eq_false_iff_not, Bool.not_eq_true', Bool.not_eq_false', Bool.not_eq_eq_eq_not, Bool.not_true, Bool.not_false, Int.not_lt, Int.not_le, Decidable.not_not] at h7
            refine TC.seq ?_
            refine TC.region ?_
            refine TL.v rfl (OpVal.moveI (.inr rfl) rfl) rfl rfl ?_
            refine TL.nil ?_
            refine S.n ?_
            refine TC.ret ?_
            refine S.r ?_
            -- leaf 5 ret [h3: t8=False; h4: t13=False; h5: False; h6: t25=False; h7: True] H=['q2']
            refine ret1P rfl (congrArg (Value.int _) ?_)
            exact (congrArg errB (show checkB n = false from by simp [checkB, h7])).symm
          · try simp only [decide_eq_true_eq, decide_eq_false_iff_not, Bool.not_eq_true', Bool.not_eq_false', Bool.not_eq_eq_eq_not, Bool.not_true, Bool.not_false, Int.not_lt, Int.not_le, Decidable.not_not] at h7
            refine TC.skip ?_
            refine S.n ?_
            refine TC.seq ?_
            refine TC.seq ?_
            refine TC.region ?_
            refine TL.v rfl (OpVal.fieldLoc rfl fo124_3 rfl) rfl rfl ?_
            refine TL.v rfl (OpVal.loadLoc rfl ag122 rfl (i := 0) rfl rfl) rfl rfl ?_
            refine TL.v rfl (OpVal.lenC rfl Tryz.underlying122 rfl) rfl rfl ?_
            refine TL.v rfl (OpVal.moveI (.inl rfl) rfl) rfl rfl ?_
            refine TL.nil ?_
            refine S.n ?_
            refine TC.block ?_
            refine TC.loopF (α := Nat) [2, 4, 36, 37, 38, 39, 40, 41, 42, 43, 44, 45, 46, 47, 48, 49, 50, 51, 52, 53, 54, 55, 56, 57, 58, 59, 60] (fun k => [(36, .int .i64 (k : Nat))]) (fun _ => _) (fun _ => _) (fun k => k ≤ n.edges.length ∧ ∀ i, i < k → edgeB n.states (nth n.edges i Arrow.zero) = true) (fun k => n.edges.length - k) (0) (by first | exact True.intro | omega | (dsimp only; omega) | (simp; done) | (simp; omega)) (by repeat (first | exact trivial | refine ⟨rfl, ?_⟩)) (by rfl) (by rfl) (fun g1 j1 hg1 => ?_)
            obtain ⟨hk, hi⟩ := hg1
            refine TC.seq ?_
            refine TC.region ?_
            refine TL.v rfl (OpVal.lss rfl rfl rfl) rfl rfl ?_
            refine TL.nil ?_
            refine S.n ?_
            refine TC.seq ?_
            refine TC.condD rfl (fun h8 => ?_) (fun h8 => ?_)
            · try simp only [decide_eq_true_eq, decide_eq_false_iff_not, Bool.not_eq_true', Bool.not_eq_false', Bool.not_eq_eq_eq_not, Bool.not_true, Bool.not_false, Int.not_lt, Int.not_le, Decidable.not_not] at h8
              refine TC.skip ?_
              refine S.n ?_
              refine TC.seq ?_
              refine TC.block ?_
              refine TC.seq ?_
              refine TC.region ?_
              refine TL.v rfl (OpVal.indexN rfl Tryz.underlying122 sz163 rfl rfl (by first | assumption | exact (RS.rv (by assumption)).sl) (by omega)) rfl rfl ?_
              refine TL.v rfl (OpVal.loadSA Arrow.zero rfl ag163 sz163 rfl (by assumption) (by omega) (by omega)) rfl rfl ?_
              refine TL.op rfl (OpOk.alloc rfl ze163 rfl rfl (fun b9 => ?_))
              refine TL.op rfl (OpOk.storeAll rfl sz163 rfl rfl rfl rfl rfl rfl ?_)
              refine TL.nil ?_
              refine S.n ?_
              refine TC.seq ?_
              refine TC.region ?_
              refine TL.v rfl (OpVal.fieldLoc rfl fo163_0 rfl) rfl rfl ?_
              refine TL.v rfl (OpVal.loadLoc rfl ag3 rfl (i := 0) rfl rfl) rfl rfl ?_
              refine TL.v rfl (OpVal.fieldLoc rfl fo124_0 rfl) rfl rfl ?_
              refine TL.v rfl (OpVal.loadLoc rfl ag3 rfl (i := 1) rfl rfl) rfl rfl ?_
              refine TL.op rfl (OpOk.callP (state_con _ _ _) rfl rfl pf134 rfl rfl rfl ?_)
              refine TL.v rfl (OpVal.not rfl rfl) rfl rfl ?_
              refine TL.v rfl (OpVal.moveB (.inl rfl) rfl) rfl rfl ?_
              refine TL.split 46 rfl (fun h11 => ?_) (fun h11 => ?_)
              · try simp only [decide_eq_true_eq, decide_eq_false_iff_not, Bool.not_eq_true', Bool.not_eq_false', Bool.not_eq_eq_eq_not, Bool.not_true, Bool.not_false, Int.not_lt, Int.not_le, Decidable.not_not] at h11
                refine TL.goff rfl rfl rfl rfl rfl rfl rfl rfl ?_
                refine TL.goff rfl rfl rfl rfl rfl rfl rfl rfl ?_
                refine TL.goff rfl rfl rfl rfl rfl rfl rfl rfl ?_
                refine TL.goff rfl rfl rfl rfl rfl rfl rfl rfl ?_
                refine TL.goff rfl rfl rfl rfl rfl rfl rfl rfl ?_
                refine TL.goff rfl rfl rfl rfl rfl rfl rfl rfl ?_
                refine TL.v rfl (OpVal.pickTB rfl rfl rfl) rfl rfl ?_
                refine TL.v rfl (OpVal.moveB (.inl rfl) rfl) rfl rfl ?_
                refine TL.goff rfl rfl rfl rfl rfl rfl rfl rfl ?_
                refine TL.goff rfl rfl rfl rfl rfl rfl rfl rfl ?_
                refine TL.goff rfl rfl rfl rfl rfl rfl rfl rfl ?_
                refine TL.goff rfl rfl rfl rfl rfl rfl rfl rfl ?_
                refine TL.v rfl (OpVal.pickTB rfl rfl rfl) rfl rfl ?_
                refine TL.nil ?_
                refine S.n ?_
                refine TC.cond rfl (fun _ => ?_) (fun h => Bool.noConfusion h)
                refine TC.seq ?_
                refine TC.region ?_
                refine TL.v rfl (OpVal.moveI (.inr rfl) rfl) rfl rfl ?_
                refine TL.nil ?_
                refine S.n ?_
                refine TC.ret ?_
                refine B.r ?_
                refine S.r ?_
                refine S.r ?_
                refine B.r ?_
                refine S.r ?_
                -- leaf 6 ret [h3: t8=False; h4: t13=False; h5: False; h6: t25=False; h7: False; h8: True; h11: t46=True] H=['q10', 'q2']
                refine ret1P rfl (congrArg (Value.int _) ?_)
                exact (congrArg errB (show checkB n = false from by rw [checkB, edges_no (n := n) (k := g1) (by omega) (by simp [edgeB, h11]), Bool.and_false])).symm
              · try simp only [decide_eq_true_eq, decide_eq_false_iff_not, Bool.not_eq_true', Bool.not_eq_false', Bool.not_eq_eq_eq_not, Bool.not_true, Bool.not_false, Int.not_lt, Int.not_le, Decidable.not_not] at h11
                refine TL.gv rfl rfl rfl rfl rfl (OpVal.fieldLoc rfl fo163_1 rfl) rfl rfl ?_
                refine TL.gv rfl rfl rfl rfl rfl (OpVal.loadLoc rfl ag3 rfl (i := 0) rfl rfl) rfl rfl ?_
                refine TL.gv rfl rfl rfl rfl rfl (OpVal.fieldLoc rfl fo124_0 rfl) rfl rfl ?_
                refine TL.gv rfl rfl rfl rfl rfl (OpVal.loadLoc rfl ag3 rfl (i := 1) rfl rfl) rfl rfl ?_
                refine TL.gon rfl rfl rfl rfl rfl (OpOk.callP (state_con _ _ _) rfl rfl pf134 rfl rfl rfl ?_)
                refine TL.gv rfl rfl rfl rfl rfl (OpVal.not rfl rfl) rfl rfl ?_
                refine TL.v rfl (OpVal.pickFB rfl rfl rfl) rfl rfl ?_
                refine TL.v rfl (OpVal.moveB (.inl rfl) rfl) rfl rfl ?_
                refine TL.split 54 rfl (fun h12 => ?_) (fun h12 => ?_)
                · try simp only [decide_eq_true_eq, decide_eq_false_iff_not, Bool.not_eq_true', Bool.not_eq_false', Bool.not_eq_eq_eq_not, Bool.not_true, Bool.not_false, Int.not_lt, Int.not_le, Decidable.not_not] at h12
                  refine TL.goff rfl rfl rfl rfl rfl rfl rfl rfl ?_
                  refine TL.goff rfl rfl rfl rfl rfl rfl rfl rfl ?_
                  refine TL.goff rfl rfl rfl rfl rfl rfl rfl rfl ?_
                  refine TL.goff rfl rfl rfl rfl rfl rfl rfl rfl ?_
                  refine TL.v rfl (OpVal.pickTB rfl rfl rfl) rfl rfl ?_
                  refine TL.nil ?_
                  refine S.n ?_
                  refine TC.cond rfl (fun _ => ?_) (fun h => Bool.noConfusion h)
                  refine TC.seq ?_
                  refine TC.region ?_
                  refine TL.v rfl (OpVal.moveI (.inr rfl) rfl) rfl rfl ?_
                  refine TL.nil ?_
                  refine S.n ?_
                  refine TC.ret ?_
                  refine B.r ?_
                  refine S.r ?_
                  refine S.r ?_
                  refine B.r ?_
                  refine S.r ?_
                  -- leaf 7 ret [h3: t8=False; h4: t13=False; h5: False; h6: t25=False; h7: False; h8: True; h11: t46=False; h12: t54=True] H=['q10', 'q2']
                  refine ret1P rfl (congrArg (Value.int _) ?_)
                  exact (congrArg errB (show checkB n = false from by rw [checkB, edges_no (n := n) (k := g1) (by omega) (by simp [edgeB, h11, h12]), Bool.and_false])).symm
                · try simp only [decide_eq_true_eq, decide_eq_false_iff_not, Bool.not_eq_true', Bool.not_eq_false', Bool.not_eq_eq_eq_not, Bool.not_true, Bool.not_false, Int.not_lt, Int.not_le, Decidable.not_not] at h12
                  refine TL.gv rfl rfl rfl rfl rfl (OpVal.fieldLoc rfl fo163_2 rfl) rfl rfl ?_
                  refine TL.gv rfl rfl rfl rfl rfl (OpVal.loadLocA rfl ag57 sz57 rfl (i := 0) rfl rfl rfl) rfl rfl ?_
                  refine TL.gv rfl rfl rfl rfl rfl (OpVal.buildArrL rfl Tryz.underlying57 sz55 ze57 rfl) rfl rfl ?_
                  refine TL.gv rfl rfl rfl rfl rfl (OpVal.eqlArr4 rfl Tryz.underlying57 Tryz.underlying55 ag55 sz55 eg57 rfl rfl rfl rfl) rfl rfl ?_
                  refine TL.v rfl (OpVal.pickFB rfl rfl rfl) rfl rfl ?_
                  refine TL.nil ?_
                  refine S.n ?_
                  refine TC.condD rfl (fun h13 => ?_) (fun h13 => ?_)
                  · try simp only [decide_eq_true_eq, decide_eq_false_iff_not, Bool.not_eq_true', Bool.not_eq_false', Bool.not_eq_eq_eq_not, Bool.not_true, Bool.not_false, Int.not_lt, Int.not_le, Decidable.not_not] at h13
                    refine TC.seq ?_
                    refine TC.region ?_
                    refine TL.v rfl (OpVal.moveI (.inr rfl) rfl) rfl rfl ?_
                    refine TL.nil ?_
                    refine S.n ?_
                    refine TC.ret ?_
                    refine B.r ?_
                    refine S.r ?_
                    refine S.r ?_
                    refine B.r ?_
                    refine S.r ?_
                    -- leaf 8 ret [h3: t8=False; h4: t13=False; h5: False; h6: t25=False; h7: False; h8: True; h11: t46=False; h12: t54=False; h13: True] H=['q10', 'q2']
                    refine ret1P rfl (congrArg (Value.int _) ?_)
                    exact (congrArg errB (show checkB n = false from by rw [checkB, edges_no (n := n) (k := g1) (by omega) (by simp [edgeB, (BSet.zero_iff _).1 h13]), Bool.and_false])).symm
                  · try simp only [decide_eq_true_eq, decide_eq_false_iff_not, Bool.not_eq_true', Bool.not_eq_false', Bool.not_eq_eq_eq_not, Bool.not_true, Bool.not_false, Int.not_lt, Int.not_le, Decidable.not_not] at h13
                    refine TC.skip ?_
                    refine B.n ?_
                    refine S.n ?_
                    refine TC.region ?_
                    refine TL.v rfl (OpVal.succ rfl rfl rfl (by omega)) rfl rfl ?_
                    refine TL.v rfl (OpVal.moveI (.inl rfl) rfl) rfl rfl ?_
                    refine TL.dropN 1 rfl ?_
                    refine TL.nil ?_
                    refine S.n ?_
                    -- leaf 9 next [h3: t8=False; h4: t13=False; h5: False; h6: t25=False; h7: False; h8: True; h11: t46=False; h12: t54=False; h13: False] H=['q2']
                    refine ⟨by repeat (first | exact Agr.mask | refine Agr.upd rfl ?_ | refine Agr.maskIn rfl ?_), g1 + 1, ?_, ?_, ?_, ?_, ?_⟩
                    · omega
                    · exact ⟨by omega, all_step (p := fun i => edgeB n.states (nth n.edges i Arrow.zero)) hi (by simp only [edgeB, h11, h12, Bool.true_and, Bool.not_eq_true', decide_eq_false_iff_not]; exact fun hx => h13 ((BSet.zero_iff _).2 hx))⟩
                    · repeat (first | exact trivial | refine ⟨rfl, ?_⟩)
                    · rfl
                    · rfl
            · try simp only [decide_eq_true_eq, decide_eq_false_iff_not, Bool.not_eq_true', Bool.not_eq_false', Bool.not_eq_eq_eq_not, Bool.not_true, Bool.not_false, Int.not_lt, Int.not_le, Decidable.not_not] at h8
              refine TC.exit ?_
              refine S.x ?_
              refine S.x ?_
              refine TC.exitHere ?_
              refine S.n ?_
              refine TC.seq ?_
              refine TC.region ?_
              refine TL.v rfl (OpVal.moveI (.inr rfl) rfl) rfl rfl ?_
              refine TL.nil ?_
              refine S.n ?_
              refine TC.ret ?_
              -- leaf 10 ret [h3: t8=False; h4: t13=False; h5: False; h6: t25=False; h7: False; h8: False] H=['q2']
              refine ret1P rfl (congrArg (Value.int _) ?_)
              have he := edges_yes (n := n) (fun i h => hi i (by omega))
              simp [errB, checkB, h3, h4, h5, h6, h7, he]
end Go.Proofs.YtcaaiphgikpgjaaGreatDoor
end

section
namespace Go.Proofs.YtcaaiphgikpgjaaGreatDoor
open Go Go.E Go.E.OpVal Go.E.OpOk Go.Proofs.Tryz
private theorem ag169 : Go.E.aggOf Tryz.prog 169 = some false := by kernel_rfl
private theorem ag170 : Go.E.aggOf Tryz.prog 170 = some false := by kernel_rfl
private theorem ag27 : Go.E.aggOf Tryz.prog 27 = some false := by kernel_rfl
private theorem ag28 : Go.E.aggOf Tryz.prog 28 = some false := by kernel_rfl
private theorem ag30 : Go.E.aggOf Tryz.prog 30 = some true := by kernel_rfl
private theorem by122 : Go.E.byOf Tryz.prog 122 = some 24 := by kernel_rfl
private theorem by26 : Go.E.byOf Tryz.prog 26 = some 24 := by kernel_rfl
private theorem by4 : Go.E.byOf Tryz.prog 4 = some 1 := by kernel_rfl
private theorem fo30_1 : Go.E.foOf Tryz.prog 30 1 = some 1 := by kernel_rfl
private theorem fo30_2 : Go.E.foOf Tryz.prog 30 2 = some 2 := by kernel_rfl
private theorem pf100 : Go.E.plainF Tryz.prog 100 = true := by kernel_rfl
private theorem pf101 : Go.E.plainF Tryz.prog 101 = true := by kernel_rfl
private theorem pf102 : Go.E.plainF Tryz.prog 102 = true := by kernel_rfl
private theorem pf141 : Go.E.plainF Tryz.prog 141 = true := by kernel_rfl
private theorem pf93 : Go.E.plainF Tryz.prog 93 = true := by kernel_rfl
private theorem pf94 : Go.E.plainF Tryz.prog 94 = true := by kernel_rfl
private theorem pf95 : Go.E.plainF Tryz.prog 95 = true := by kernel_rfl
private theorem pf96 : Go.E.plainF Tryz.prog 96 = true := by kernel_rfl
private theorem pf97 : Go.E.plainF Tryz.prog 97 = true := by kernel_rfl
private theorem pf98 : Go.E.plainF Tryz.prog 98 = true := by kernel_rfl
private theorem pf99 : Go.E.plainF Tryz.prog 99 = true := by kernel_rfl
private theorem pl30 : Go.E.plOf Tryz.prog 30 = some #[(0, 1), (1, 1), (2, 1)] := by kernel_rfl
private theorem sz169 : Go.E.szOf Tryz.prog 169 = some 1 := by kernel_rfl
private theorem sz170 : Go.E.szOf Tryz.prog 170 = some 1 := by kernel_rfl
private theorem sz26 : Go.E.szOf Tryz.prog 26 = some 1 := by kernel_rfl
private theorem sz27 : Go.E.szOf Tryz.prog 27 = some 1 := by kernel_rfl
private theorem sz28 : Go.E.szOf Tryz.prog 28 = some 1 := by kernel_rfl
private theorem sz30 : Go.E.szOf Tryz.prog 30 = some 3 := by kernel_rfl
private theorem sz4 : Go.E.szOf Tryz.prog 4 = some 1 := by kernel_rfl
private theorem ze122 : Go.E.zeroOf Tryz.prog 122 = some (.slice none 0 0) := by kernel_rfl
private theorem ze169 : Go.E.zeroOf Tryz.prog 169 = some (.slice none 0 0) := by kernel_rfl
private theorem ze170 : Go.E.zeroOf Tryz.prog 170 = some (.pointer none) := by kernel_rfl
private theorem ze26 : Go.E.zeroOf Tryz.prog 26 = some (.slice none 0 0) := by kernel_rfl
private theorem ze30 : Go.E.zeroOf Tryz.prog 30 = some (.agg #[.slice none 0 0, .slice none 0 0, .slice none 0 0]) := by kernel_rfl
private theorem ze4 : Go.E.zeroOf Tryz.prog 4 = some (.bool false) := by kernel_rfl
noncomputable def F1_ (l130 : List (List Arrow)) (x0 : Nfa) (k134 : Nat) : Option (((List (List Arrow)) × Nat) ⊕ (Dfa × Int)) :=
 nxt ((l130.set (((nth x0.edges k134 Arrow.zero).frm).toNat) ((nth l130 (((nth x0.edges k134 Arrow.zero).frm).toNat) ([] : List Arrow)) ++ [(nth x0.edges k134 Arrow.zero)])), (k134 + 1))
noncomputable def E2_ (k323 : Nat) (t335 : Bool) : Option ((Bool × Nat) ⊕ ((Int × (List (List Int)) × (FM (List UInt8) Int) × (List (List Int)) × (List Bool) × Nat) ⊕ (Dfa × Int))) :=
 nxt (t335, (k323 + 1))
noncomputable def Ep_ (l130 : List (List Arrow)) (v116 : (List Int) × Int) (i388 : Int) (l391 : List (List Int)) (m397 : FM (List UInt8) Int) (l401 : List Int) (y256_0 : Int) (y256_1 : BSet) : Option (Nat × (Int × (List (List Int)) × (FM (List UInt8) Int) × (List Int))) :=
 bnd (Ff_ l130 v116.1 y256_1) (fun v161 => bnd (putKeep (⟨(⟨l391, m397⟩ : IStore)⟩ : ITable) v161) (fun v162 => iteO (decide (v162.2.2.1 ≠ 0)) (some (1, (v162.2.2.1, v162.2.2.2.of.rows, v162.2.2.2.of.places, l401))) (iteO (decide (1024 ≤ v162.1)) (some (1, (2, v162.2.2.2.of.rows, v162.2.2.2.of.places, l401))) (grd (0 ≤ y256_0 ∧ y256_0 < (l401.length : Int)) (some (0, (i388, v162.2.2.2.of.rows, v162.2.2.2.of.places, (l401.set y256_0.toNat v162.1))))))))
noncomputable def Fv_ (l277 : List (List Int)) (l283 : List Bool) (t322 : Bool) (k286 : Nat) (jz : Nat) (i388 : Int) (l391 : List (List Int)) (m397 : FM (List UInt8) Int) (l401 : List Int) : Option ((Int × (List (List Int)) × (FM (List UInt8) Int) × (List (List Int)) × (List Bool) × Nat) ⊕ (Dfa × Int)) :=
 jsel jz (grd ((l277.length + [l401].length) * 24 ≤ 140737488355328) (grd ((l283.length + [t322].length) * 1 ≤ 140737488355328) (grd (k286 + 1 ≤ 9223372036854775807) (nxt (i388, l391, m397, (l277 ++ [l401]), (l283 ++ [t322]), (k286 + 1)))))) (fun j_ => jsel j_ (fin (some ((⟨([] : List Int), ([] : List (List Int)), ([] : List Bool)⟩ : Dfa), i388))) (fun _ => none))
noncomputable def E1_ (v116 : (List Int) × Int) (l193 : List Bool) (v13 : (List BSet) × Int) (l130 : List (List Arrow)) (i264 : Int) (l268 : List (List Int)) (m274 : FM (List UInt8) Int) (l277 : List (List Int)) (l283 : List Bool) (k286 : Nat) (t322 : Bool) (k323 : Nat) : Option ((Bool × Nat) ⊕ ((Int × (List (List Int)) × (FM (List UInt8) Int) × (List (List Int)) × (List Bool) × Nat) ⊕ (Dfa × Int))) :=
 iteO (decide (((k323 : Nat) : Int) < ((v116.1.length : Nat) : Int))) (iteO t322 (E2_ k323 true) (grd (0 ≤ (nth v116.1 k323 (0 : Int)) ∧ (nth v116.1 k323 (0 : Int)) < (l193.length : Int)) (E2_ k323 (nth l193 ((nth v116.1 k323 (0 : Int)).toNat) false)))) (fin (grd (8 * v13.1.length ≤ 281474976710656) (bnd (C7_ v13.1) (fun v153 => bnd (Bl_ (stepY (fun (q : Int × (List (List Int)) × (FM (List UInt8) Int) × (List Int)) (x : Int × BSet) => Ep_ l130 v116 q.1 q.2.1 q.2.2.1 q.2.2.2 x.1 x.2)) (0, (i264, l268, m274, (List.replicate v13.1.length (0 : Int)))) v153) (fun zr256 => Fv_ l277 l283 t322 k286 zr256.1 zr256.2.1 zr256.2.2.1 zr256.2.2.2.1 zr256.2.2.2.2)))))
noncomputable def Ex_ (l193 : List Bool) (v13 : (List BSet) × Int) (l130 : List (List Arrow)) (v26 : (List Int) × Int) (i264 : Int) (l268 : List (List Int)) (m274 : FM (List UInt8) Int) (l277 : List (List Int)) (l283 : List Bool) (k286 : Nat) : Option ((Int × (List (List Int)) × (FM (List UInt8) Int) × (List (List Int)) × (List Bool) × Nat) ⊕ (Dfa × Int)) :=
 bnd (intern_Table_Size (⟨(⟨l268, m274⟩ : IStore)⟩ : ITable)) (fun v112 => iteO (decide (((k286 : Nat) : Int) < v112)) (bnd (intern_Table_Row (⟨(⟨l268, m274⟩ : IStore)⟩ : ITable) ((k286 : Nat) : Int)) (fun v116 => iteO (decide (v116.2 ≠ 0)) (fin (some ((⟨([] : List Int), ([] : List (List Int)), ([] : List Bool)⟩ : Dfa), v116.2))) (iter (fun q : Bool × Nat => E1_ v116 l193 v13 l130 i264 l268 m274 l277 l283 k286 q.1 q.2) (false, 0)))) (fin (some ((⟨v26.1, l277, l283⟩ : Dfa), 0))))
noncomputable def E0_ (x0 : Nfa) (v13 : (List BSet) × Int) (l130 : List (List Arrow)) (v26 : (List Int) × Int) (l193 : List Bool) (k195 : Nat) : Option (((List Bool) × Nat) ⊕ (Dfa × Int)) :=
 iteO (decide (((k195 : Nat) : Int) < ((x0.ends.length : Nat) : Int))) (grd (0 ≤ (nth x0.ends k195 (0 : Int)) ∧ (nth x0.ends k195 (0 : Int)) < (l193.length : Int)) (nxt ((l193.set ((nth x0.ends k195 (0 : Int)).toNat) true), (k195 + 1)))) (fin (bnd (intern_New) (fun v85 => bnd (intern_Table_Put (⟨(⟨v85.of.rows, v85.of.places⟩ : IStore)⟩ : ITable) x0.starts) (fun v91 => iteO (decide (v91.2.2.1 ≠ 0)) (some ((⟨([] : List Int), ([] : List (List Int)), ([] : List Bool)⟩ : Dfa), v91.2.2.1)) (iter (fun q : Int × (List (List Int)) × (FM (List UInt8) Int) × (List (List Int)) × (List Bool) × Nat => Ex_ l193 v13 l130 v26 q.1 q.2.1 q.2.2.1 q.2.2.2.1 q.2.2.2.2.1 q.2.2.2.2.2) (0, v91.2.2.2.of.rows, v91.2.2.2.of.places, ([] : List (List Int)), ([] : List Bool), 0))))))
noncomputable def Ey_ (x0 : Nfa) (v13 : (List BSet) × Int) (v26 : (List Int) × Int) (l130 : List (List Arrow)) (k134 : Nat) : Option (((List (List Arrow)) × Nat) ⊕ (Dfa × Int)) :=
 iteO (decide (((k134 : Nat) : Int) < ((x0.edges.length : Nat) : Int))) (grd (0 ≤ ((nth x0.edges k134 Arrow.zero).frm) ∧ ((nth x0.edges k134 Arrow.zero).frm) < (l130.length : Int)) (grd (((nth l130 (((nth x0.edges k134 Arrow.zero).frm).toNat) ([] : List Arrow)).length + [(nth x0.edges k134 Arrow.zero)].length) * 48 ≤ 140737488355328) (grd (0 ≤ ((nth x0.edges k134 Arrow.zero).frm) ∧ ((nth x0.edges k134 Arrow.zero).frm) < (l130.length : Int)) (F1_ l130 x0 k134)))) (fin (grd (0 ≤ x0.states ∧ 1 * x0.states.toNat ≤ 281474976710656) (iter (fun q : (List Bool) × Nat => E0_ x0 v13 l130 v26 q.1 q.2) ((List.replicate x0.states.toNat false), 0))))
noncomputable def Gv_ (x0 : Nfa) : Option (Dfa × Int) :=
 iteO (decide ((errB (checkB x0)) ≠ 0)) (some ((⟨([] : List Int), ([] : List (List Int)), ([] : List Bool)⟩ : Dfa), 1)) (bnd (Fi_ x0.edges) (fun v12 => bnd (Fc_ v12) (fun v13 => iteO (decide (v13.2 ≠ 0)) (some ((⟨([] : List Int), ([] : List (List Int)), ([] : List Bool)⟩ : Dfa), v13.2)) (bnd (E9_ v13.1) (fun v26 => iteO (decide (v26.2 ≠ 0)) (some ((⟨([] : List Int), ([] : List (List Int)), ([] : List Bool)⟩ : Dfa), v26.2)) (grd (0 ≤ x0.states ∧ 24 * x0.states.toNat ≤ 281474976710656) (iter (fun q : (List (List Arrow)) × Nat => Ey_ x0 v13 v26 q.1 q.2) ((List.replicate x0.states.toNat ([] : List Arrow)), 0))))))))
def I7_ (σ : Store) (r : Dfa × Int) : Value → Store → List Res → Prop := fun v σ' H' =>
 ∃ (a1 : Option Addr), ∃ (c1 : Nat), ∃ (a2 : Option Addr), ∃ (c2 : Nat), ∃ (a3 : Option Addr), ∃ (c3 : Nat),  v = .tuple #[.agg #[.slice a1 r.1.cls.length c1, .slice a2 r.1.next.length c2, .slice a3 r.1.fin.length c3], .int .i64 r.2] ∧ RS σ' 1 Go.E.encI (.slice a1 r.1.cls.length c1) r.1.cls ∧ RZ σ' (pkSl 1 Go.E.encI Go.E.encI_len) (.slice a2 r.1.next.length c2) r.1.next ∧ RS σ' 1 encB (.slice a3 r.1.fin.length c3) r.1.fin ∧ H' = []
set_option maxHeartbeats 8000000 in
theorem Iv_ {σ : Store} {x0 : Nfa} {a0_0 : Option Addr} {c0_0 : Nat} {a0_1 : Option Addr} {c0_1 : Nat} {a0_2 : Option Addr} {c0_2 : Nat} (hgl : GT σ 1 encU8 deB) (f0_0 : RS σ 1 Go.E.encI (.slice a0_0 x0.starts.length c0_0) x0.starts) (f0_1 : RS σ 1 Go.E.encI (.slice a0_1 x0.ends.length c0_1) x0.ends) (f0_2 : RS σ 6 encE (.slice a0_2 x0.edges.length c0_2) x0.edges) {r : Dfa × Int} (hh : Gv_ x0 = some r) :
  Con Tryz.prog 66 #[.agg #[.int .i64 x0.states, .slice a0_0 x0.starts.length c0_0, .slice a0_1 x0.ends.length c0_1, .slice a0_2 x0.edges.length c0_2]] σ [] (I7_ σ r) := by
 dsimp only [Gv_] at hh
 have f0_0b := f0_0.rv.big
 have f0_1b := f0_1.rv.big
 have f0_2b := f0_2.rv.big
 refine Con.mk (n := 177) Tryz.func66 z z z (fun w0 => ?_)
 refine TC.a (TL.op z (boxA z z z z (fun b101 => ?_)))
 refine TL.op z (OpOk.alloc z ze30 z z (fun b103 => ?_))
 refine TL.op z (OpOk.alloc z ze33 z z (fun b105 => ?_))
 refine TL.en (TC.seq (TC.a (TL.w z (loadAll z ag124 sz124 z (i := 2) z z) (TL.op z (callP (check_con _ x0 ⟨a0_0, c0_0, a0_1, c0_1, a0_2, c0_2⟩ ⟨f0_0, f0_1, f0_2, fun x _ => x.set.isOk⟩) z z pf93 z z z ?_)))))
 refine TL.w z (OpVal.neq z z z) (TL.en (TC.cD z hh (fun h107 hh => ?_) (fun h107 hh => ?_)))
 ·refine TC.a (TL.w z (buildL z pl30 ze30 z) (TL.front 1 z z (TL.op z (storeAll z sz30 z z z z z z ?_))))
  refine TL.front 1 z z (TL.op z (storeI z sz33 z z z z z ?_))
  refine TL.en (TC.ofSub (Sub.f [1] 2) (TC.ret (S.r ?_)))
  obtain rfl := so hh
  exact ro [] z (RVs.agg ag30 sz30 z (i := 0) z z (RVs.one ag33 z (i := 1) z z RVs.nil)) ⟨none, 0, none, 0, none, 0, z, (RS.nilF _ Go.E.encI Go.E.encI_len), (RZ.nilF _ (pkSl 1 Go.E.encI Go.E.encI_len)), (RS.nilF _ encB encB_len), z⟩
 ·refine TC.skip (S.n (TC.a (TL.w z (fieldLoc z fo124_3 z) (TL.w z (loadLoc z ag122 z (i := 2) z z) ?_))))
  obtain ⟨v12, u12, hh⟩ := bnd_e hh
  refine TL.op z (OpOk.call (H2_ f0_2 u12) z z pf95 z z z z ?_)
  rintro _ τ108 _ hle108 ⟨a108_1, c108_1, rfl, hr108_0, rfl⟩
  replace f0_0 := f0_0.mono hle108
  replace f0_1 := f0_1.mono hle108
  replace f0_2 := f0_2.mono hle108
  replace hgl := hgl.mono hle108
  have hr108_0b := hr108_0.rv.big
  obtain ⟨v13, u13, hh⟩ := bnd_e hh
  refine TL.op z (OpOk.call (H0_ hr108_0 u13) z z pf94 z z z z ?_)
  rintro _ τ109 _ hle109 ⟨a109_1, c109_1, rfl, hr109_0, rfl⟩
  replace f0_0 := f0_0.mono hle109
  replace f0_1 := f0_1.mono hle109
  replace f0_2 := f0_2.mono hle109
  replace hgl := hgl.mono hle109
  have hr109_0b := hr109_0.rv.big
  refine TL.w z (moveT (.inl z) z) (TL.w z (OpVal.extract z z z) (TL.w z (OpVal.extract z z z) (TL.s z z (TL.i z z (TL.en (TC.seq (TC.a (TL.i z z (TL.w z (OpVal.neq z z z) (TL.en (TC.cD z hh (fun h110 hh => ?_) (fun h110 hh => ?_))))))))))))
  ·refine TC.a (TL.w z (buildL z pl30 ze30 z) (TL.i z z (TL.front 1 z z (TL.op z (storeAll z sz30 z z z z z z ?_)))))
   refine TL.front 1 z z (TL.op z (storeI z sz33 z z z z z ?_))
   refine TL.en (TC.ofSub (Sub.f [1] 2) (TC.ret (S.r ?_)))
   obtain rfl := so hh
   exact ro [] z (RVs.agg ag30 sz30 z (i := 0) z z (RVs.one ag33 z (i := 1) z z RVs.nil)) ⟨none, 0, none, 0, none, 0, z, (RS.nilF _ Go.E.encI Go.E.encI_len), (RZ.nilF _ (pkSl 1 Go.E.encI Go.E.encI_len)), (RS.nilF _ encB encB_len), z⟩
  ·refine TC.skip (S.n (TC.a (TL.s z z ?_)))
   obtain ⟨v26, u26, hh⟩ := bnd_e hh
   refine TL.op z (OpOk.call (H1_ hgl hr109_0 u26) z z pf96 z z z z ?_)
   rintro _ τ111 _ hle111 ⟨a111_1, c111_1, rfl, hr111_0, rfl⟩
   replace f0_0 := f0_0.mono hle111
   replace f0_1 := f0_1.mono hle111
   replace f0_2 := f0_2.mono hle111
   replace hgl := hgl.mono hle111
   replace hr109_0 := hr109_0.mono hle111
   have hr111_0b := hr111_0.rv.big
   refine TL.w z (moveT (.inl z) z) (TL.w z (OpVal.extract z z z) (TL.w z (OpVal.extract z z z) (TL.s z z (TL.i z z (TL.en (TC.seq (TC.a (TL.i z z (TL.w z (OpVal.neq z z z) (TL.en (TC.cD z hh (fun h112 hh => ?_) (fun h112 hh => ?_))))))))))))
   ·refine TC.a (TL.w z (buildL z pl30 ze30 z) (TL.i z z (TL.front 1 z z (TL.op z (storeAll z sz30 z z z z z z ?_)))))
    refine TL.front 1 z z (TL.op z (storeI z sz33 z z z z z ?_))
    refine TL.en (TC.ofSub (Sub.f [1] 2) (TC.ret (S.r ?_)))
    obtain rfl := so hh
    exact ro [] z (RVs.agg ag30 sz30 z (i := 0) z z (RVs.one ag33 z (i := 1) z z RVs.nil)) ⟨none, 0, none, 0, none, 0, z, (RS.nilF _ Go.E.encI Go.E.encI_len), (RZ.nilF _ (pkSl 1 Go.E.encI Go.E.encI_len)), (RS.nilF _ encB encB_len), z⟩
   ·refine TC.skip (S.n (TC.a (TL.w z (fieldLoc z fo124_0 z) (TL.w z (loadLoc z ag3 z (i := 2) z z) ?_))))
    have u40 := grd_c hh
    replace hh := grd_t hh
    refine TL.op rfl (makeN (q := x0.states.toNat) (E := 163) (size := 6) (enc := encE) rfl underlying169 sz122 by122 ze122 rfl rfl (by show Value.int _ _ = _; rw [Int.toNat_of_nonneg u40.1]) (by show Value.int _ _ = _; rw [Int.toNat_of_nonneg u40.1]) (by omega) (by decide) rfl (fun a113 c114 zf115 => ?_))
    refine TL.op z (OpOk.alloc z ze169 z z (fun b117 => ?_))
    refine TL.op z (storeSl z sz169 z z z z z ?_)
    refine TL.en (TC.seq (TC.a (TL.w z (fieldLoc z fo124_3 z) (TL.w z (loadLoc z ag122 z (i := 4) z z) (TL.w z (lenC z underlying122 z) (TL.i z z (TL.en (TC.block (TC.loopG (α := ((List (List Arrow)) × Nat) × ((List (NP Arrow)))) (rgs [(9, 1), (60, 17)]) (fun g => [(60, .int .i64 ((g.1.2 : Nat) : Int))]) (fun g => [Res.cells b101 #[.int .i64 x0.states, .slice a0_0 x0.starts.length c0_0, .slice a0_1 x0.ends.length c0_1, .slice a0_2 x0.edges.length c0_2] 124, Res.cells b103 #[.slice none 0 0, .slice none 0 0, .slice none 0 0] 30, Res.cells b105 #[.int .i64 0] 33, Res.cells b117 #[.slice a113 ((List.replicate x0.states.toNat ([] : List Arrow)).length) c114] 169, Res.nest 122 163 6 encE (.slice a113 (List.replicate x0.states.toNat ([] : List Arrow)).length c114) g.2]) (fun g => τ111) (fun g => iter (fun q : (List (List Arrow)) × Nat => Ey_ x0 v13 v26 q.1 q.2) g.1 = some r ∧ g.1.1.length = (List.replicate x0.states.toNat ([] : List Arrow)).length ∧ Zn g.2 g.1.1) (fun g => rounds (fun q : (List (List Arrow)) × Nat => Ey_ x0 v13 v26 q.1 q.2) g.1) (((List.replicate x0.states.toNat ([] : List Arrow)), 0), (List.replicate x0.states.toNat (nilN : NP Arrow))) (Sub.f [1, 1, 2, 3, 4] 5) z (by repeat (first | exact trivial | refine ⟨z, ?_⟩)) ⟨hh, z, zf115⟩ (fun g1 j1 hg1 => ?_))))))))))
    obtain ⟨⟨l130, k134⟩, z132⟩ := g1
    obtain ⟨hh, hn131, zf133⟩ := hg1
    try dsimp only at hn131 zf133 ⊢
    obtain ⟨z1, hh, hR1⟩ := iter_e hh
    dsimp only [Ey_] at hh
    have hn131b := hn131
    have zf133b := zf133.len
    refine TC.know (isSl_nest (q := 4) z zf133) (fun ⟨_, hb135⟩ => ?_)
    refine TC.a (TL.w z (OpVal.lss z z z) (TL.en (TC.seq (TC.cD z hh (fun h136 hh => ?_) (fun h136 hh => ?_)))))
    ·refine TC.skip (S.n (TC.cutG (α := (Unit) × ((List (NP Arrow)))) (rgs [(9, 1), (62, 14)]) (fun g => []) (fun g => [Res.cells b101 #[.int .i64 x0.states, .slice a0_0 x0.starts.length c0_0, .slice a0_1 x0.ends.length c0_1, .slice a0_2 x0.edges.length c0_2] 124, Res.cells b103 #[.slice none 0 0, .slice none 0 0, .slice none 0 0] 30, Res.cells b105 #[.int .i64 0] 33, Res.cells b117 #[.slice a113 ((List.replicate x0.states.toNat ([] : List Arrow)).length) c114] 169, Res.nest 122 163 6 encE (.slice a113 (List.replicate x0.states.toNat ([] : List Arrow)).length c114) g.2]) (fun g => τ111) (fun g => F1_ l130 x0 k134 = some z1 ∧ (l130.set (((nth x0.edges k134 Arrow.zero).frm).toNat) ((nth l130 (((nth x0.edges k134 Arrow.zero).frm).toNat) ([] : List Arrow)) ++ [(nth x0.edges k134 Arrow.zero)])).length = (List.replicate x0.states.toNat ([] : List Arrow)).length ∧ Zn g.2 (l130.set (((nth x0.edges k134 Arrow.zero).frm).toNat) ((nth l130 (((nth x0.edges k134 Arrow.zero).frm).toNat) ([] : List Arrow)) ++ [(nth x0.edges k134 Arrow.zero)]))) ?_ (fun g j hg => ?_)))
     ·skip
      refine TC.block (TC.a (TL.w z (indexN z underlying122 sz163 z z f0_2.rv.sl (by omega)) (TL.w z (loadSA Arrow.zero z ag163 sz163 z f0_2 (by omega) (by omega)) (TL.op z (OpOk.alloc z ze163 z z (fun b140 => ?_))))))
      refine TL.op z (storeAll z sz163 z z z z z z ?_)
      refine TL.en ?_
      have u58 := grd_c hh
      replace hh := grd_t hh
      have u62 := grd_c hh
      replace hh := grd_t hh
      have u63 := grd_c hh
      replace hh := grd_t hh
      refine TC.drawR (Hr := [Res.cells b140 #[.int .i64 ((nth x0.edges k134 Arrow.zero).frm), .int .i64 ((nth x0.edges k134 Arrow.zero).to), .int .u64 ((((nth x0.edges k134 Arrow.zero).set).a : Nat) : Int), .int .u64 ((((nth x0.edges k134 Arrow.zero).set).b : Nat) : Int), .int .u64 ((((nth x0.edges k134 Arrow.zero).set).c : Nat) : Int), .int .u64 ((((nth x0.edges k134 Arrow.zero).set).d : Nat) : Int)] 163, Res.cells b101 #[.int .i64 x0.states, .slice a0_0 x0.starts.length c0_0, .slice a0_1 x0.ends.length c0_1, .slice a0_2 x0.edges.length c0_2] 124, Res.cells b103 #[.slice none 0 0, .slice none 0 0, .slice none 0 0] 30, Res.cells b105 #[.int .i64 0] 33, Res.cells b117 #[.slice a113 ((List.replicate x0.states.toNat ([] : List Arrow)).length) c114] 169]) (fun r hr => mem_pick [0, 1, 2, 3, 4] z hr) [] (by kernel_rfl) (TA.b 0 z (loadLoc z ag169 z (i := 4) z z) z (TA.a 1 z (fieldLoc z fo163_0 z) z (TA.b 2 z (loadLoc z ag3 z (i := 0) z z) z (TA.b 3 z (loadLoc z ag169 z (i := 4) z z) z (TA.a 4 z (fieldLoc z fo163_0 z) z (TA.b 5 z (loadLoc z ag3 z (i := 0) z z) z (TA.know (isSl_nest (q := 5) z zf133) (fun ⟨hs153, hs153b⟩ => ?_))))))))
      refine TA.b 6 z (OpVal.index z underlying169 sz122 z z hs153 u58.1 u58.2) z (TA.b 8 z (loadAll z ag163 sz163 z (i := 0) z z) z ?_)
      obtain ⟨p154, hz154, hm154⟩ := Zn.at zf133 (i := ((nth x0.edges k134 Arrow.zero).frm).toNat) (by omega)
      refine TA.actN [7, 9] (by kernel_rfl) (an z z (OpVal.ok (loadN z ag122 z (q := 5) z hz154 hm154) z z ⟨(fun w h => sees_of (Store.le.refl _) (fun r hr => mem_pick [0, 1, 2, 3, 4] z hr) w h), ?_⟩) (an z z (OpOk.lit (enc := encE) [(nth x0.edges k134 Arrow.zero)] z underlying122 sz163 ze163 z z z encE_len (by decide) (by decide) Arrow.zero z (by decide) z (by decide) encE_one (fun a155 c156 => ⟨(fun w h => sees_of (Store.le.refl _) (fun r hr => mem_pick [1, 2, 3, 4, 5] z hr) w h), ?_⟩)) (True.intro)))
      ·skip
       refine TA.ac 9 z (OpOk.lit (enc := encE) [(nth x0.edges k134 Arrow.zero)] z underlying122 sz163 ze163 z z z encE_len (by decide) (by decide) Arrow.zero z (by decide) z (by decide) encE_one (fun a158 c159 => ⟨(fun w h => sees_of (Store.le.refl _) (fun r hr => mem_pick [1, 2, 3, 4, 5] z hr) w h), ?_⟩))
       refine TA.front 6 z z (TA.by (fun w h => Reach.takeN hz154 hm154 h) (TA.ac 10 z (appendS z z underlying122 sz163 by163 ze163 z z (by decide) z z z (.inr ⟨_, 1, z⟩) (by simpa using u62) (by decide) (fun a162 c163 => (k3 ?_)))))
       refine TA.know (isSl_nestX (q := 1) z zf133) (fun ⟨hs164, hs164b⟩ => ?_)
       refine TA.b 11 z (OpVal.index z underlying169 sz122 z z hs164 u63.1 u63.2) z (TA.front 1 z z (TA.front 1 z z ?_))
       have hn166 : (l130.set (((nth x0.edges k134 Arrow.zero).frm).toNat) ((nth l130 (((nth x0.edges k134 Arrow.zero).frm).toNat) ([] : List Arrow)) ++ [(nth x0.edges k134 Arrow.zero)])).length = (List.replicate x0.states.toNat ([] : List Arrow)).length := (List.length_set ..).trans hn131
       refine TA.ac 12 rfl (storeX (l' := ((nth l130 (((nth x0.edges k134 Arrow.zero).frm).toNat) ([] : List Arrow)) ++ [(nth x0.edges k134 Arrow.zero)])) rfl sz122 rfl rfl rfl rfl rfl (by rw [zf133.len]; omega) zf133 (fun zf165 => (k2 ?_)))
       exact TA.dn (B.n (S.n (cf ((), (z132.set (((nth x0.edges k134 Arrow.zero).frm).toNat) (((nth l130 (((nth x0.edges k134 Arrow.zero).frm).toNat) ([] : List Arrow)) ++ [(nth x0.edges k134 Arrow.zero)]), (a162, c163)))) ⟨hh, hn166, zf165⟩ (Sub.f [6, 6, 6, 6] 5))))
      ·skip
       obtain ⟨p167, hz167, hm167⟩ := Zn.at zf133 (i := ((nth x0.edges k134 Arrow.zero).frm).toNat) (by omega)
       refine TA.ac 7 z (OpVal.ok (loadN z ag122 z (q := 6) z hz167 hm167) z z ⟨(fun w h => sees_of (Store.le.refl _) (fun r hr => mem_pick [1, 2, 3, 4, 5] z hr) w h), ?_⟩)
       refine TA.front 6 z z (TA.by (fun w h => Reach.takeN hz167 hm167 h) (TA.ac 10 z (appendS z z underlying122 sz163 by163 ze163 z z (by decide) z z z (.inr ⟨_, 1, z⟩) (by simpa using u62) (by decide) (fun a169 c170 => (k3 ?_)))))
       refine TA.know (isSl_nestX (q := 1) z zf133) (fun ⟨hs171, hs171b⟩ => ?_)
       refine TA.b 11 z (OpVal.index z underlying169 sz122 z z hs171 u63.1 u63.2) z (TA.front 1 z z (TA.front 1 z z ?_))
       have hn173 : (l130.set (((nth x0.edges k134 Arrow.zero).frm).toNat) ((nth l130 (((nth x0.edges k134 Arrow.zero).frm).toNat) ([] : List Arrow)) ++ [(nth x0.edges k134 Arrow.zero)])).length = (List.replicate x0.states.toNat ([] : List Arrow)).length := (List.length_set ..).trans hn131
       refine TA.ac 12 rfl (storeX (l' := ((nth l130 (((nth x0.edges k134 Arrow.zero).frm).toNat) ([] : List Arrow)) ++ [(nth x0.edges k134 Arrow.zero)])) rfl sz122 rfl rfl rfl rfl rfl (by rw [zf133.len]; omega) zf133 (fun zf172 => (k2 ?_)))
       exact TA.dn (B.n (S.n (cf ((), (z132.set (((nth x0.edges k134 Arrow.zero).frm).toNat) (((nth l130 (((nth x0.edges k134 Arrow.zero).frm).toNat) ([] : List Arrow)) ++ [(nth x0.edges k134 Arrow.zero)]), (a169, c170)))) ⟨hh, hn173, zf172⟩ (Sub.f [6, 6, 6, 6] 5))))
     ·skip
      obtain ⟨_, z138⟩ := g
      obtain ⟨hh, hn137, zf139⟩ := hg
      try dsimp only at hn137 zf139 ⊢
      dsimp only [F1_] at hh
      have hn137b := hn137
      have zf139b := zf139.len
      refine TC.know (isSl_nest (q := 4) z zf139) (fun ⟨_, hb174⟩ => ?_)
      refine TC.region (TL.w z (OpVal.succ z z z (by omega)) (TL.i z z (TL.en ?_)))
      obtain ⟨hh, hlt175⟩ := nxt_x hR1 hh
      exact lf (((l130.set (((nth x0.edges k134 Arrow.zero).frm).toNat) ((nth l130 (((nth x0.edges k134 Arrow.zero).frm).toNat) ([] : List Arrow)) ++ [(nth x0.edges k134 Arrow.zero)])), (k134 + 1)), z138) hlt175 ⟨hh, hn137, zf139⟩ (Sub.f [4, 4, 4, 4, 4] 5)
    ·refine TC.exit (S.x (S.x ?_))
     replace hh := fin_x hR1 hh
     refine TC.exitHere (S.n (TC.a (TL.w z (fieldLoc z fo124_0 z) (TL.w z (loadLoc z ag3 z (i := 0) z z) ?_))))
     have u69 := grd_c hh
     replace hh := grd_t hh
     refine TL.op rfl (makeS2 (m := x0.states.toNat) (enc := encB) false rfl underlying28 sz4 by4 ze4 rfl rfl (by show Value.int _ _ = _; rw [Int.toNat_of_nonneg u69.1]) (by show Value.int _ _ = _; rw [Int.toNat_of_nonneg u69.1]) (by omega) (by decide) encB_len (by decide) rfl encB_one (fun a176 c177 => ?_))
     refine TL.s z z (TL.en (TC.seq (TC.a (TL.w z (fieldLoc z fo124_2 z) (TL.w z (loadLoc z ag26 z (i := 1) z z) (TL.w z (lenC z underlying26 z) (TL.i z z (TL.en (TC.block (TC.loopG (α := ((List Bool) × Nat) × (Unit)) (rgs [(12, 1), (83, 8)]) (fun g => [(83, .int .i64 ((g.1.2 : Nat) : Int))]) (fun g => [Res.cells b101 #[.int .i64 x0.states, .slice a0_0 x0.starts.length c0_0, .slice a0_1 x0.ends.length c0_1, .slice a0_2 x0.edges.length c0_2] 124, Res.cells b103 #[.slice none 0 0, .slice none 0 0, .slice none 0 0] 30, Res.cells b105 #[.int .i64 0] 33, Res.cells b117 #[.slice a113 ((List.replicate x0.states.toNat ([] : List Arrow)).length) c114] 169, Res.nest 122 163 6 encE (.slice a113 (List.replicate x0.states.toNat ([] : List Arrow)).length c114) z132, Res.rowS 4 1 encB (.slice a176 (List.replicate x0.states.toNat false).length c177) g.1.1]) (fun g => τ111) (fun g => iter (fun q : (List Bool) × Nat => E0_ x0 v13 l130 v26 q.1 q.2) g.1 = some r ∧ l130.length = (List.replicate x0.states.toNat ([] : List Arrow)).length ∧ Zn z132 l130 ∧ g.1.1.length = (List.replicate x0.states.toNat false).length) (fun g => rounds (fun q : (List Bool) × Nat => E0_ x0 v13 l130 v26 q.1 q.2) g.1) (((List.replicate x0.states.toNat false), 0), ()) (Sub.f [5, 5, 5, 5, 5] 6) z (by repeat (first | exact trivial | refine ⟨z, ?_⟩)) ⟨hh, hn131, zf133, z⟩ (fun g2 j2 hg2 => ?_)))))))))))
     obtain ⟨⟨l193, k195⟩, _⟩ := g2
     obtain ⟨hh, hn191, zf192, hn194⟩ := hg2
     try dsimp only at hn191 zf192 hn194 ⊢
     obtain ⟨z1, hh, hR1⟩ := iter_e hh
     dsimp only [E0_] at hh
     have hn191b := hn191
     have zf192b := zf192.len
     have hn194b := hn194
     refine TC.know (isSl_nest (q := 4) z zf192) (fun ⟨_, hb196⟩ => ?_)
     refine TC.isSl (i := 5) z (fun _ hb197 _ => ?_)
     refine TC.a (TL.w z (OpVal.lss z z z) (TL.en (TC.seq (TC.cD z hh (fun h198 hh => ?_) (fun h198 hh => ?_)))))
     ·refine TC.skip (S.n (TC.seq (TC.block (TC.a (TL.w z (indexN z underlying26 sz3 z z f0_1.rv.sl (by omega)) (TL.w z (loadS1 (0 : Int) z ag3 z f0_1 (by omega) z) (TL.i z z (TL.en (TC.region (TL.s z z (TL.i z z ?_)))))))))))
      have u81 := grd_c hh
      replace hh := grd_t hh
      refine TL.isSl (i := 5) z (fun hs199 _ _ => ?_)
      refine TL.w z (OpVal.index z underlying28 sz4 z z hs199 u81.1 u81.2) (TL.front 5 z z ?_)
      have hn200 : (l193.set ((nth x0.ends k195 (0 : Int)).toNat) true).length = (List.replicate x0.states.toNat false).length := by rw [List.length_set]; exact hn194
      refine TL.op z (storeS true z sz4 z z z z encB_len encB_one (by omega) (by omega) ?_)
      refine TL.nil (B.n (S.n (TC.region (TL.w z (OpVal.succ z z z (by omega)) (TL.i z z (TL.en ?_))))))
      obtain ⟨hh, hlt201⟩ := nxt_x hR1 hh
      exact lf (((l193.set ((nth x0.ends k195 (0 : Int)).toNat) true), (k195 + 1)), ()) hlt201 ⟨hh, hn191, zf192, hn200⟩ (Sub.f [5, 5, 5, 5, 5] 6)
     ·refine TC.exit (S.x (S.x ?_))
      replace hh := fin_x hR1 hh
      refine TC.exitHere (S.n (TC.a ?_))
      obtain ⟨v85, u85, hh⟩ := bnd_e hh
      refine TL.op z (OpOk.call (intern_New_con u85) z z pf97 z z z z ?_)
      rintro _ τ202 _ hle202 ⟨b202_1, a202_2, c202_3, z202_4, b202_6, rfl, zf202_5, rfl⟩
      replace f0_0 := f0_0.mono hle202
      replace hgl := hgl.mono hle202
      replace hr109_0 := hr109_0.mono hle202
      replace hr111_0 := hr111_0.mono hle202
      have zf202_5b := zf202_5.length
      refine TL.op z (OpOk.alloc z ze170 z z (fun b206 => ?_))
      refine TL.op z (storeLoc z sz170 z z z z z ?_)
      refine TL.en (TC.seq (TC.a (TL.w z (loadLoc z ag170 z (i := 0) z z) (TL.w z (fieldLoc z fo124_1 z) (TL.w z (loadLoc z ag26 z (i := 4) z z) (TL.front 3 z z (TL.front 3 z z (TL.front 3 z z ?_))))))))
      obtain ⟨v91, u91, hh⟩ := bnd_e hh
      refine TL.op z (OpOk.call (intern_Table_Put_con zf202_5 f0_0 u91) z z pf98 z z z z ?_)
      rintro _ τ208 _ hle208 ⟨a208_1, c208_2, z208_3, b208_5, rfl, zf208_4, rfl⟩
      replace hgl := hgl.mono hle208
      replace hr109_0 := hr109_0.mono hle208
      replace hr111_0 := hr111_0.mono hle208
      have zf208_4b := zf208_4.length
      refine TL.w z (moveT (.inl z) z) (TL.w z (OpVal.extract z z z) (TL.w z (OpVal.extract z z z) (TL.w z (OpVal.extract z z z) (TL.i z z (TL.j z z (TL.i z z (TL.en (TC.a (TL.i z z (TL.w z (OpVal.neq z z z) (TL.en (TC.cD z hh (fun h211 hh => ?_) (fun h211 hh => ?_)))))))))))))
      ·refine TC.a (TL.w z (buildL z pl30 ze30 z) (TL.i z z (TL.front 5 z z (TL.op z (storeAll z sz30 z z z z z z ?_)))))
       refine TL.front 6 z z (TL.op z (storeI z sz33 z z z z z ?_))
       refine TL.en (TC.ofSub (Sub.f [1] 2) (TC.ret (S.r ?_)))
       obtain rfl := so hh
       exact ro [] z (RVs.agg ag30 sz30 z (i := 0) z z (RVs.one ag33 z (i := 1) z z RVs.nil)) ⟨none, 0, none, 0, none, 0, z, (RS.nilF _ Go.E.encI Go.E.encI_len), (RZ.nilF _ (pkSl 1 Go.E.encI Go.E.encI_len)), (RS.nilF _ encB encB_len), z⟩
      ·refine TC.skip (S.n (TC.a (TL.s z z (TL.w z (buildL z pl30 ze30 z) (TL.op z (OpOk.alloc z ze30 z z (fun b212 => ?_)))))))
       refine TL.op z (storeAll z sz30 z z z z z z ?_)
       refine TL.en (TC.seq (TC.a (TL.i z z (TL.en (TC.block ?_)))))
       rw [← hn191]
       refine TC.front 9 z z (TC.seals (fun w h => Reach.sealNest encE_len zf192 h) (fun τ289 hle288 hr287 => ?_))
       replace hgl := hgl.mono hle288
       replace hr109_0 := hr109_0.mono hle288
       replace hr111_0 := hr111_0.mono hle288
       replace zf208_4 := zf208_4.mono hle288
       have hr287b := hr287.big
       refine TC.nilS 26 1 (pkSl 1 Go.E.encI Go.E.encI_len).en ?_
       have zf290 := ZOk.nil τ289 (pkSl 1 Go.E.encI Go.E.encI_len)
       refine TC.nilS 4 1 encB (TC.loopG (α := (Int × (List (List Int)) × (FM (List UInt8) Int) × (List (List Int)) × (List Bool) × Nat) × ((Option Addr) × Nat × (List (List Int × (pkSl 1 Go.E.encI Go.E.encI_len).P)) × Nat × (Option Addr) × Nat × (List (List Int × (pkSl 1 Go.E.encI Go.E.encI_len).P)) × (Option Addr) × Nat × Store)) (rgs [(18, 4), (23, 2), (106, 35), (164, 12)]) (fun g => [(18, .int .i64 ((g.1.2.2.2.2.2 : Nat) : Int))]) (fun g => [Res.cells b103 #[.slice none 0 0, .slice none 0 0, .slice none 0 0] 30, Res.cells b105 #[.int .i64 g.1.1] 33, Res.cells b117 #[.slice a113 l130.length c114] 169, Res.rowS 4 1 encB (.slice a176 (List.replicate x0.states.toNat false).length c177) l193, Res.cells b206 #[loc b202_1 0] 170, Res.cells b202_1 #[.slice g.2.1 g.1.2.1.length g.2.2.1, .map (some g.2.2.2.2.1)] 223, Res.rowS 26 1 (pkSl 1 Go.E.encI Go.E.encI_len).en (.slice g.2.1 g.1.2.1.length g.2.2.1) g.2.2.2.1, Res.mapB keyS keyI (some g.2.2.2.2.1) g.1.2.2.1, Res.cells b212 #[.slice a111_1 v26.1.length c111_1, .slice g.2.2.2.2.2.1 g.1.2.2.2.1.length g.2.2.2.2.2.2.1, .slice g.2.2.2.2.2.2.2.2.1 g.1.2.2.2.2.1.length g.2.2.2.2.2.2.2.2.2.1] 30, Res.rowS 26 1 (pkSl 1 Go.E.encI Go.E.encI_len).en (.slice g.2.2.2.2.2.1 g.1.2.2.2.1.length g.2.2.2.2.2.2.1) g.2.2.2.2.2.2.2.1, Res.rowS 4 1 encB (.slice g.2.2.2.2.2.2.2.2.1 g.1.2.2.2.2.1.length g.2.2.2.2.2.2.2.2.2.1) g.1.2.2.2.2.1]) (fun g => g.2.2.2.2.2.2.2.2.2.2) (fun g => iter (fun q : Int × (List (List Int)) × (FM (List UInt8) Int) × (List (List Int)) × (List Bool) × Nat => Ex_ l193 v13 l130 v26 q.1 q.2.1 q.2.2.1 q.2.2.2.1 q.2.2.2.2.1 q.2.2.2.2.2) g.1 = some r ∧ RZ g.2.2.2.2.2.2.2.2.2.2 (pkSl 6 encE encE_len) (.slice a113 l130.length c114) l130 ∧ l193.length = (List.replicate x0.states.toNat false).length ∧ ZOk g.2.2.2.2.2.2.2.2.2.2 (pkSl 1 Go.E.encI Go.E.encI_len) g.2.2.2.1 g.1.2.1 ∧ ZOk g.2.2.2.2.2.2.2.2.2.2 (pkSl 1 Go.E.encI Go.E.encI_len) g.2.2.2.2.2.2.2.1 g.1.2.2.2.1 ∧ Store.le τ289 g.2.2.2.2.2.2.2.2.2.2) (fun g => rounds (fun q : Int × (List (List Int)) × (FM (List UInt8) Int) × (List (List Int)) × (List Bool) × Nat => Ex_ l193 v13 l130 v26 q.1 q.2.1 q.2.2.1 q.2.2.2.1 q.2.2.2.2.1 q.2.2.2.2.2) g.1) ((0, v91.2.2.2.of.rows, v91.2.2.2.of.places, ([] : List (List Int)), ([] : List Bool), 0), (a208_1, c208_2, z208_3, b208_5, none, 0, [], none, 0, τ289)) (Sub.f [1, 2, 5, 5, 5, 6, 11, 11, 11, 11] 11) z (by repeat (first | exact trivial | refine ⟨z, ?_⟩)) ⟨hh, hr287, hn194, zf208_4, zf290, (Store.le.refl _)⟩ (fun g3 j3 hg3 => ?_))
       obtain ⟨⟨i264, l268, m274, l277, l283, k286⟩, ⟨a269, c270, z271, b275, a278, c279, z280, a284, c285, τ293⟩⟩ := g3
       obtain ⟨hh, hr265, hn266, zf272, zf281, hle294⟩ := hg3
       try dsimp only at hr265
       try dsimp only at hn266
       try dsimp only at zf272
       try dsimp only at zf281
       dsimp only at hle294
       replace hgl := hgl.mono hle294
       replace hr109_0 := hr109_0.mono hle294
       replace hr111_0 := hr111_0.mono hle294
       try dsimp only
       obtain ⟨z1, hh, hR1⟩ := iter_e hh
       dsimp only [Ex_] at hh
       have hr265b := hr265.big
       have hn266b := hn266
       have zf272b := zf272.length
       have zf281b := zf281.length
       refine TC.isSl (i := 3) z (fun _ hb295 _ => ?_)
       refine TC.isSl (i := 6) z (fun _ hb296 _ => ?_)
       refine TC.isSl (i := 9) z (fun _ hb297 _ => ?_)
       refine TC.isSl (i := 10) z (fun _ hb298 _ => ?_)
       refine TC.seq (TC.a (TL.i z z (TL.w z (loadLoc z ag170 z (i := 4) z z) (TL.front 7 z z (TL.front 7 z z (TL.front 7 z z ?_))))))
       obtain ⟨v112, u112, hh⟩ := bnd_e hh
       refine TL.op z (OpOk.call (intern_Table_Size_con zf272 u112) z z pf99 z z z z ?_)
       rintro _ _ _ hle299 ⟨rfl, rfl, rfl⟩
       refine TL.w z (OpVal.lss z z z) (TL.en (TC.cD z hh (fun h300 hh => ?_) (fun h300 hh => ?_)))
       ·refine TC.skip (S.n (TC.seq (TC.block (TC.a (TL.w z (loadLoc z ag170 z (i := 7) z z) (TL.i z z (TL.front 2 z z (TL.front 2 z z (TL.front 2 z z ?_)))))))))
        obtain ⟨v116, u116, hh⟩ := bnd_e hh
        refine TL.op z (OpOk.call (intern_Table_Row_con zf272 u116) z z pf100 z z z z ?_)
        rintro _ _ _ hle301 ⟨a301_1, c301_2, rfl, rfl, rfl⟩
        refine TL.w z (moveT (.inl z) z) (TL.w z (OpVal.extract z z z) (TL.w z (OpVal.extract z z z) (TL.op z (OpOk.alloc z ze26 z z (fun b303 => ?_)))))
        refine TL.op z (storeSl z sz26 z z z z z ?_)
        refine TL.i z z (TL.en (TC.seq (TC.a (TL.i z z (TL.w z (OpVal.neq z z z) (TL.en (TC.cD z hh (fun h305 hh => ?_) (fun h305 hh => ?_))))))))
        ·refine TC.a (TL.w z (buildL z pl30 ze30 z) (TL.i z z (TL.front 5 z z (TL.op z (storeAll z sz30 z z z z z z ?_)))))
         refine TL.front 6 z z (TL.op z (storeI z sz33 z z z z z ?_))
         refine TL.en (TC.ofSub (Sub.f [1] 2) (TC.ret (S.r (B.r (S.r (S.r ?_))))))
         replace hh := fin_x hR1 hh
         refine B.r (S.r ?_)
         obtain rfl := so hh
         exact ro [] z (RVs.agg ag30 sz30 z (i := 0) z z (RVs.one ag33 z (i := 1) z z RVs.nil)) ⟨none, 0, none, 0, none, 0, z, (RS.nilF _ Go.E.encI Go.E.encI_len), (RZ.nilF _ (pkSl 1 Go.E.encI Go.E.encI_len)), (RS.nilF _ encB encB_len), z⟩
        ·refine TC.skip (S.n (TC.a (TL.j z z (TL.en (TC.seq (TC.a (TL.w z (loadLoc z ag26 z (i := 0) z z) (TL.w z (lenC z underlying26 z) (TL.i z z (TL.en (TC.block (TC.loopG (α := (Bool × Nat) × (Store)) (rgs [(21, 1), (23, 1), (124, 12)]) (fun g => [(21, .bool g.1.1), (124, .int .i64 ((g.1.2 : Nat) : Int))]) (fun g => [Res.cells b103 #[.slice none 0 0, .slice none 0 0, .slice none 0 0] 30, Res.cells b105 #[.int .i64 i264] 33, Res.cells b117 #[.slice a113 l130.length c114] 169, Res.rowS 4 1 encB (.slice a176 (List.replicate x0.states.toNat false).length c177) l193, Res.cells b206 #[loc b202_1 0] 170, Res.cells b202_1 #[.slice a269 l268.length c270, .map (some b275)] 223, Res.rowS 26 1 (pkSl 1 Go.E.encI Go.E.encI_len).en (.slice a269 l268.length c270) z271, Res.mapB keyS keyI (some b275) m274, Res.cells b212 #[.slice a111_1 v26.1.length c111_1, .slice a278 l277.length c279, .slice a284 l283.length c285] 30, Res.rowS 26 1 (pkSl 1 Go.E.encI Go.E.encI_len).en (.slice a278 l277.length c279) z280, Res.rowS 4 1 encB (.slice a284 l283.length c285) l283, Res.cells b303 #[.slice a301_1 v116.1.length c301_2] 26, Res.rowS 3 1 Go.E.encI (.slice a301_1 v116.1.length c301_2) v116.1]) (fun g => g.2) (fun g => iter (fun q : Bool × Nat => E1_ v116 l193 v13 l130 i264 l268 m274 l277 l283 k286 q.1 q.2) g.1 = some z1 ∧ l193.length = (List.replicate x0.states.toNat false).length ∧ ZOk g.2 (pkSl 1 Go.E.encI Go.E.encI_len) z271 l268 ∧ ZOk g.2 (pkSl 1 Go.E.encI Go.E.encI_len) z280 l277 ∧ Store.le τ293 g.2) (fun g => rounds (fun q : Bool × Nat => E1_ v116 l193 v13 l130 i264 l268 m274 l277 l283 k286 q.1 q.2) g.1) ((false, 0), τ293) (Sub.f [1, 1, 12, 12, 12, 7, 7, 7, 12, 12, 12, 12, 12] 13) z (by repeat (first | exact trivial | refine ⟨z, ?_⟩)) ⟨hh, hn266, zf272, zf281, (Store.le.refl _)⟩ (fun g4 j4 hg4 => ?_)))))))))))))
         obtain ⟨⟨t322, k323⟩, τ324⟩ := g4
         obtain ⟨hh, hn319, zf320, zf321, hle325⟩ := hg4
         try dsimp only at hn319
         try dsimp only at zf320
         try dsimp only at zf321
         dsimp only at hle325
         replace hgl := hgl.mono hle325
         replace hr109_0 := hr109_0.mono hle325
         replace hr111_0 := hr111_0.mono hle325
         replace hr265 := hr265.mono hle325
         replace zf281 := zf281.mono hle325
         try dsimp only
         obtain ⟨z2, hh, hR2⟩ := iter_e hh
         dsimp only [E1_] at hh
         have hn319b := hn319
         have zf320b := zf320.length
         have zf321b := zf321.length
         refine TC.isSl (i := 3) z (fun _ hb326 _ => ?_)
         refine TC.isSl (i := 6) z (fun _ hb327 _ => ?_)
         refine TC.isSl (i := 9) z (fun _ hb328 _ => ?_)
         refine TC.isSl (i := 10) z (fun _ hb329 _ => ?_)
         refine TC.isSl (i := 12) z (fun _ hb330 _ => ?_)
         refine TC.a (TL.w z (OpVal.lss z z z) (TL.en (TC.seq (TC.cD z hh (fun h331 hh => ?_) (fun h331 hh => ?_)))))
         ·refine TC.skip (S.n (TC.cutG (α := (Bool) × (Store)) (rgs [(21, 1), (23, 1), (126, 9)]) (fun g => [(21, .bool g.1)]) (fun g => [Res.cells b103 #[.slice none 0 0, .slice none 0 0, .slice none 0 0] 30, Res.cells b105 #[.int .i64 i264] 33, Res.cells b117 #[.slice a113 l130.length c114] 169, Res.rowS 4 1 encB (.slice a176 (List.replicate x0.states.toNat false).length c177) l193, Res.cells b206 #[loc b202_1 0] 170, Res.cells b202_1 #[.slice a269 l268.length c270, .map (some b275)] 223, Res.rowS 26 1 (pkSl 1 Go.E.encI Go.E.encI_len).en (.slice a269 l268.length c270) z271, Res.mapB keyS keyI (some b275) m274, Res.cells b212 #[.slice a111_1 v26.1.length c111_1, .slice a278 l277.length c279, .slice a284 l283.length c285] 30, Res.rowS 26 1 (pkSl 1 Go.E.encI Go.E.encI_len).en (.slice a278 l277.length c279) z280, Res.rowS 4 1 encB (.slice a284 l283.length c285) l283, Res.cells b303 #[.slice a301_1 v116.1.length c301_2] 26, Res.rowS 3 1 Go.E.encI (.slice a301_1 v116.1.length c301_2) v116.1]) (fun g => g.2) (fun g => E2_ k323 g.1 = some z2 ∧ l193.length = (List.replicate x0.states.toNat false).length ∧ ZOk g.2 (pkSl 1 Go.E.encI Go.E.encI_len) z271 l268 ∧ ZOk g.2 (pkSl 1 Go.E.encI Go.E.encI_len) z280 l277 ∧ Store.le τ324 g.2) ?_ (fun g j hg => ?_)))
          ·skip
           refine TC.block (TC.a (TL.isSl (i := 12) z (fun hs336 _ _ => ?_)))
           refine TL.w z (indexN z underlying26 sz3 z z hs336 (by omega)) (TL.w z (loadO1 (0 : Int) z ag3 z (q := 12) z Go.E.encI_len (by omega) z) (TL.i z z (TL.en (TC.region (TL.j z z (TL.j z z (TL.split 129 z (fun h337 => ?_) (fun h337 => ?_))))))))
           ·replace hh := iteO_t h337 hh
            exact TL.f z (TL.f z (TL.f z (TL.f z (TL.w z (pickTB z z z) (TL.j z z (TL.nil (B.n (S.n (cf (true, τ324) ⟨hh, hn319, zf320, zf321, (Store.le.refl _)⟩ (Sub.f [12, 12, 12, 12, 12, 12, 12, 12, 12, 12, 12, 12, 12] 13))))))))))
           ·replace hh := iteO_f h337 hh
            refine TL.g z (moveSl (.inl z) z) (TL.g z (moveI (.inl z) z) ?_)
            have u141 := grd_c hh
            replace hh := grd_t hh
            refine TL.isSl (i := 3) z (fun hs338 _ _ => ?_)
            exact TL.g z (OpVal.index z underlying28 sz4 z z hs338 u141.1 u141.2) (TL.g z (loadO1 false z ag4 z (q := 3) z encB_len (by omega) z) (TL.w z (pickFB z z z) (TL.j z z (TL.nil (B.n (S.n (cf ((nth l193 ((nth v116.1 k323 (0 : Int)).toNat) false), τ324) ⟨hh, hn319, zf320, zf321, (Store.le.refl _)⟩ (Sub.f [12, 12, 12, 12, 12, 12, 12, 12, 12, 12, 12, 12, 12] 13))))))))
          ·skip
           obtain ⟨t335, τ339⟩ := g
           obtain ⟨hh, hn332, zf333, zf334, hle340⟩ := hg
           try dsimp only at hn332
           try dsimp only at zf333
           try dsimp only at zf334
           dsimp only at hle340
           replace hgl := hgl.mono hle340
           replace hr109_0 := hr109_0.mono hle340
           replace hr111_0 := hr111_0.mono hle340
           replace hr265 := hr265.mono hle340
           replace zf281 := zf281.mono hle340
           replace zf320 := zf320.mono hle340
           replace zf321 := zf321.mono hle340
           try dsimp only
           dsimp only [E2_] at hh
           have hn332b := hn332
           have zf333b := zf333.length
           have zf334b := zf334.length
           refine TC.isSl (i := 3) z (fun _ hb341 _ => ?_)
           refine TC.isSl (i := 6) z (fun _ hb342 _ => ?_)
           refine TC.isSl (i := 9) z (fun _ hb343 _ => ?_)
           refine TC.isSl (i := 10) z (fun _ hb344 _ => ?_)
           refine TC.isSl (i := 12) z (fun _ hb345 _ => ?_)
           refine TC.region (TL.w z (OpVal.succ z z z (by omega)) (TL.i z z (TL.en ?_)))
           obtain ⟨hh, hlt346⟩ := nxt_x hR2 hh
           exact lf ((t335, (k323 + 1)), τ339) hlt346 ⟨hh, hn332, zf333, zf334, (hle325.trans hle340)⟩ (Sub.f [12, 12, 12, 12, 12, 12, 12, 12, 12, 12, 12, 12, 12] 13)
         ·refine TC.exit (S.x (S.x ?_))
          replace hh := fin_x hR2 hh
          refine TC.exitHere (S.n (TC.a (TL.s z z (TL.w z (lenC z underlying107 z) ?_))))
          have u149 := grd_c hh
          replace hh := grd_t hh
          refine TL.op z (makeS2 (enc := Go.E.encI) (0 : Int) z underlying26 sz3 by3 ze3 z z z z (by omega) (by decide) Go.E.encI_len (by decide) z Go.E.encI_one (fun a347 c348 => ?_))
          refine TL.op z (OpOk.alloc z ze26 z z (fun b350 => ?_))
          refine TL.op z (storeSl z sz26 z z z z z ?_)
          refine TL.en (TC.seq (TC.a (TL.s z z ?_)))
          obtain ⟨v153, u153, hh⟩ := bnd_e hh
          refine TL.op z (OpOk.call (G1_ hr109_0 u153) z z pf101 z z z z ?_)
          rintro _ τ352 _ hle352 ⟨b352_4, a352_1, c352_2, rfl, f352_3, rfl⟩
          replace hgl := hgl.mono hle352
          replace hr111_0 := hr111_0.mono hle352
          replace hr265 := hr265.mono hle352
          replace zf281 := zf281.mono hle352
          replace zf320 := zf320.mono hle352
          replace zf321 := zf321.mono hle352
          have f352_3b := f352_3.rv.big
          refine TL.en (TC.block (TC.front 15 z z (TC.sealS Go.E.encI_len (fun τ405 hle404 hr403 => ?_))))
          replace hgl := hgl.mono hle404
          replace hr111_0 := hr111_0.mono hle404
          replace hr265 := hr265.mono hle404
          replace zf281 := zf281.mono hle404
          replace zf320 := zf320.mono hle404
          replace zf321 := zf321.mono hle404
          replace f352_3 := f352_3.mono hle404
          have hr403b := hr403.rv.big
          refine TC.ofSub (Sub.f [2, 2, 14, 14, 14, 14, 14, 14, 14, 14, 14, 14, 14, 14] 15) ?_
          obtain ⟨zr256, hz256, hh⟩ := bnd_e hh
          obtain ⟨jz256, ⟨i388, l391, m397, l401⟩⟩ := zr256
          dsimp only at hh
          refine TC.rangeG (A := (fun (x : Int × BSet) _ vs => vs = [.int .i64 x.1, setV x.2])) [.ret] (fun (q : Int × (List (List Int)) × (FM (List UInt8) Int) × (List Int)) (x : Int × BSet) => Ep_ l130 v116 q.1 q.2.1 q.2.2.1 q.2.2.2 x.1 x.2) (fun (q : Int × (List (List Int)) × (FM (List UInt8) Int) × (List Int)) (τ406 : Store) Hs => ∃ (a392 : Option Addr), ∃ (c393 : Nat), ∃ (z394 : List (List Int × (pkSl 1 Go.E.encI Go.E.encI_len).P)), ∃ (b398 : Nat), Hs = [Res.cells b103 #[.slice none 0 0, .slice none 0 0, .slice none 0 0] 30, Res.cells b105 #[.int .i64 q.1] 33, Res.cells b117 #[.slice a113 l130.length c114] 169, Res.rowS 4 1 encB (.slice a176 (List.replicate x0.states.toNat false).length c177) l193, Res.cells b206 #[loc b202_1 0] 170, Res.cells b202_1 #[.slice a392 q.2.1.length c393, .map (some b398)] 223, Res.rowS 26 1 (pkSl 1 Go.E.encI Go.E.encI_len).en (.slice a392 q.2.1.length c393) z394, Res.mapB keyS keyI (some b398) q.2.2.1, Res.cells b212 #[.slice a111_1 v26.1.length c111_1, .slice a278 l277.length c279, .slice a284 l283.length c285] 30, Res.rowS 26 1 (pkSl 1 Go.E.encI Go.E.encI_len).en (.slice a278 l277.length c279) z280, Res.rowS 4 1 encB (.slice a284 l283.length c285) l283, Res.cells b303 #[.slice a301_1 v116.1.length c301_2] 26, Res.cells b350 #[.slice a347 ((List.replicate v13.1.length (0 : Int)).length) c348] 26, Res.rowS 3 1 Go.E.encI (.slice a347 (List.replicate v13.1.length (0 : Int)).length c348) q.2.2.2] ∧ l193.length = (List.replicate x0.states.toNat false).length ∧ ZOk τ406 (pkSl 1 Go.E.encI Go.E.encI_len) z394 q.2.1 ∧ ZOk τ406 (pkSl 1 Go.E.encI Go.E.encI_len) z280 l277 ∧ RS τ406 1 Go.E.encI (.slice a301_1 v116.1.length c301_2) v116.1 ∧ q.2.2.2.length = (List.replicate v13.1.length (0 : Int)).length) (s := (i264, l268, m274, (List.replicate v13.1.length (0 : Int)))) rfl pf141 rfl rfl (by rintro _ _ _ _ ⟨a392, c393, z394, b398, rfl, hn389, zf395, zf399, hr400, hn402⟩ hle_; exact ⟨a392, c393, z394, b398, rfl, hn389, zf395.mono hle_, zf399.mono hle_, hr400.mono hle_, hn402⟩) ⟨a269, c270, z271, b275, rfl, hn319, zf320, zf321, hr403, rfl⟩ (fun _ _ _ h_ => by subst h_; rfl) (Gj_ f352_3 hz256) ?_ ?_
          ·clear hh hz256
           rintro l_ _ _ _ τ406 ⟨i388, l391, m397, l401⟩ ⟨y256_0, y256_1⟩ z256 _ _ hh hle407 rfl ⟨a392, c393, z394, b398, rfl, hn389, zf395, zf399, hr400, hn402⟩
           dsimp only [Ep_] at hh
           replace hgl := hgl.mono hle407
           replace hr111_0 := hr111_0.mono hle407
           replace hr265 := hr265.mono hle407
           replace zf281 := zf281.mono hle407
           have hn389b := hn389
           have zf395b := zf395.length
           have zf399b := zf399.length
           have hr400b := hr400.rv.big
           have hn402b := hn402
           show TC _ _ _ (upds _ [(142, setV y256_1), (141, .int .i64 y256_0)]) τ406 [Res.cells b103 #[.slice none 0 0, .slice none 0 0, .slice none 0 0] 30, Res.cells b105 #[.int .i64 i388] 33, Res.cells b117 #[.slice a113 l130.length c114] 169, Res.rowS 4 1 encB (.slice a176 (List.replicate x0.states.toNat false).length c177) l193, Res.cells b206 #[loc b202_1 0] 170, Res.cells b202_1 #[.slice a392 l391.length c393, .map (some b398)] 223, Res.rowS 26 1 (pkSl 1 Go.E.encI Go.E.encI_len).en (.slice a392 l391.length c393) z394, Res.mapB keyS keyI (some b398) m397, Res.cells b212 #[.slice a111_1 v26.1.length c111_1, .slice a278 l277.length c279, .slice a284 l283.length c285] 30, Res.rowS 26 1 (pkSl 1 Go.E.encI Go.E.encI_len).en (.slice a278 l277.length c279) z280, Res.rowS 4 1 encB (.slice a284 l283.length c285) l283, Res.cells b303 #[.slice a301_1 v116.1.length c301_2] 26, Res.cells b350 #[.slice a347 ((List.replicate v13.1.length (0 : Int)).length) c348] 26, Res.rowS 3 1 Go.E.encI (.slice a347 (List.replicate v13.1.length (0 : Int)).length c348) l401]
           refine TC.isSl (i := 3) z (fun _ hb408 _ => ?_)
           refine TC.isSl (i := 6) z (fun _ hb409 _ => ?_)
           refine TC.isSl (i := 9) z (fun _ hb410 _ => ?_)
           refine TC.isSl (i := 10) z (fun _ hb411 _ => ?_)
           refine TC.isSl (i := 13) z (fun _ hb412 _ => ?_)
           refine TC.a (TL.i z z (TL.en (TC.region (TL.op z (OpOk.alloc z ze57 z z (fun b413 => ?_))))))
           refine TL.op z (storeAll z sz57 z z z z z z ?_)
           refine TL.nil (asg_n (fun _ _ _ => ?_))
           refine TC.block (TC.seq ?_)
           obtain ⟨v161, u161, hh⟩ := bnd_e hh
           obtain ⟨v162, u162, hh⟩ := bnd_e hh
           refine TC.drawR (Hr := [Res.cells b413 (setA y256_1) 57, Res.cells b103 #[.slice none 0 0, .slice none 0 0, .slice none 0 0] 30, Res.cells b105 #[.int .i64 i388] 33, Res.cells b117 #[.slice a113 l130.length c114] 169, Res.rowS 4 1 encB (.slice a176 (List.replicate x0.states.toNat false).length c177) l193, Res.cells b206 #[loc b202_1 0] 170, Res.cells b212 #[.slice a111_1 v26.1.length c111_1, .slice a278 l277.length c279, .slice a284 l283.length c285] 30, Res.rowS 26 1 (pkSl 1 Go.E.encI Go.E.encI_len).en (.slice a278 l277.length c279) z280, Res.rowS 4 1 encB (.slice a284 l283.length c285) l283, Res.cells b303 #[.slice a301_1 v116.1.length c301_2] 26, Res.cells b350 #[.slice a347 ((List.replicate v13.1.length (0 : Int)).length) c348] 26, Res.rowS 3 1 Go.E.encI (.slice a347 (List.replicate v13.1.length (0 : Int)).length c348) l401]) (fun r hr => mem_pick [0, 1, 2, 3, 4, 5, 9, 10, 11, 12, 13, 14] z hr) [] (by kernel_rfl) (TA.b 0 z (loadLoc z ag170 z (i := 5) z z) z (TA.b 1 z (loadLoc z ag169 z (i := 3) z z) z (TA.b 2 z (loadLoc z ag26 z (i := 9) z z) z (TA.b 3 z (loadAll z ag57 sz57 z (i := 0) z z) z (TA.ac 4 z (OpOk.call (H4_ hgl hr265 hr400 u161) z z pf102 z z z z ?_))))))
           rintro _ _ _ hle420 ⟨a420_1, c420_1, rfl, rfl, rfl⟩
           refine ⟨(fun w h => sees_of (Store.le.refl _) (fun r hr => mem_pick [1, 2, 3, 4, 5, 6, 10, 11, 12, 13, 14, 15] z hr) w h), ?_⟩
           refine TA.front 9 z z (TA.front 9 z z (TA.front 9 z z (TA.ac 5 z (OpOk.call (putKeep_con zf395 u162) z z pf98 z z z z ?_))))
           rintro _ τ422 _ hle422 ⟨a422_1, c422_2, z422_3, b422_5, rfl, zf422_4, rfl⟩
           replace hr111_0 := hr111_0.mono hle422
           replace hr265 := hr265.mono hle422
           replace zf281 := zf281.mono hle422
           replace zf395 := zf395.mono hle422
           replace zf399 := zf399.mono hle422
           replace hr400 := hr400.mono hle422
           have zf422_4b := zf422_4.length
           refine kl 4 hle422 (TA.a 6 z (moveT (.inl z) z) z (TA.a 7 z (OpVal.extract z z z) z (TA.a 8 z (OpVal.extract z z z) z (TA.a 9 z (OpVal.extract z z z) z (TA.a 10 z (moveI (.inr z) z) z (TA.a 11 z (moveB (.inr z) z) z (TA.a 12 z (moveI (.inr z) z) z (TA.dn (S.n (TC.seq (TC.a (TL.i z z (TL.w z (OpVal.neq z z z) (TL.en (TC.cD z hh (fun h425 hh => ?_) (fun h425 hh => ?_))))))))))))))))
           ·refine TC.a (TL.w z (buildL z pl30 ze30 z) (TL.i z z (TL.front 5 z z (TL.op z (storeAll z sz30 z z z z z z ?_)))))
            refine TL.front 6 z z (TL.op z (storeI z sz33 z z z z z ?_))
            refine TL.en (TC.ret (S.r (B.r ?_)))
            obtain rfl := so hh
            exact rnd_r 0 z ⟨z, _, Sub.f [15, 15, 15, 15, 15, 15, 10, 10, 10, 15, 15, 15, 12, 13] 14, ⟨a422_1, c422_2, z422_3, b422_5, z, hn389, zf422_4, zf399, hr400, hn402⟩⟩
           ·refine TC.skip (S.n (TC.seq (TC.a (TL.i z z (TL.w z (OpVal.geq z z z) (TL.en (TC.cD z hh (fun h426 hh => ?_) (fun h426 hh => ?_))))))))
            ·refine TC.a (TL.w z (buildL z pl30 ze30 z) (TL.front 5 z z (TL.op z (storeAll z sz30 z z z z z z ?_))))
             refine TL.front 6 z z (TL.op z (storeI z sz33 z z z z z ?_))
             refine TL.en (TC.ret (S.r (B.r ?_)))
             obtain rfl := so hh
             exact rnd_r 0 z ⟨z, _, Sub.f [15, 15, 15, 15, 15, 15, 10, 10, 10, 15, 15, 15, 12, 13] 14, ⟨a422_1, c422_2, z422_3, b422_5, z, hn389, zf422_4, zf399, hr400, hn402⟩⟩
            ·refine TC.skip (S.n (TC.region (TL.w z (loadLoc z ag26 z (i := 14) z z) (TL.i z z (TL.i z z ?_)))))
             have u184 := grd_c hh
             replace hh := grd_t hh
             refine TL.isSl (i := 15) z (fun hs427 _ _ => ?_)
             refine TL.w z (OpVal.index z underlying26 sz3 z z hs427 u184.1 u184.2) (TL.front 15 z z ?_)
             have hn428 : (l401.set y256_0.toNat v162.1).length = (List.replicate v13.1.length (0 : Int)).length := by rw [List.length_set]; exact hn402
             refine TL.op z (storeS v162.1 z sz3 z z z z Go.E.encI_len Go.E.encI_one (by omega) (by omega) ?_)
             refine TL.nil (B.n ?_)
             obtain rfl := so hh
             exact rnd_n ⟨z, _, Sub.f [15, 15, 15, 15, 15, 8, 8, 8, 15, 15, 15, 15, 15] 14, ⟨a422_1, c422_2, z422_3, b422_5, z, hn389, zf422_4, zf399, hr400, hn428⟩⟩
          ·rintro τ406 _ _ hle407 ⟨a392, c393, z394, b398, rfl, hn389, zf395, zf399, hr400, hn402⟩ ⟨rfl⟩
           replace hr111_0 := hr111_0.mono hle407
           replace hr265 := hr265.mono hle407
           replace zf281 := zf281.mono hle407
           have hn389b := hn389
           have zf395b := zf395.length
           have zf399b := zf399.length
           have hr400b := hr400.rv.big
           have hn402b := hn402
           dsimp only [Fv_] at hh
           show jmpQ _ _ _ _ _ τ406 [Res.cells b103 #[.slice none 0 0, .slice none 0 0, .slice none 0 0] 30, Res.cells b105 #[.int .i64 i388] 33, Res.cells b117 #[.slice a113 l130.length c114] 169, Res.rowS 4 1 encB (.slice a176 (List.replicate x0.states.toNat false).length c177) l193, Res.cells b206 #[loc b202_1 0] 170, Res.cells b202_1 #[.slice a392 l391.length c393, .map (some b398)] 223, Res.rowS 26 1 (pkSl 1 Go.E.encI Go.E.encI_len).en (.slice a392 l391.length c393) z394, Res.mapB keyS keyI (some b398) m397, Res.cells b212 #[.slice a111_1 v26.1.length c111_1, .slice a278 l277.length c279, .slice a284 l283.length c285] 30, Res.rowS 26 1 (pkSl 1 Go.E.encI Go.E.encI_len).en (.slice a278 l277.length c279) z280, Res.rowS 4 1 encB (.slice a284 l283.length c285) l283, Res.cells b303 #[.slice a301_1 v116.1.length c301_2] 26, Res.cells b350 #[.slice a347 ((List.replicate v13.1.length (0 : Int)).length) c348] 26, Res.rowS 3 1 Go.E.encI (.slice a347 (List.replicate v13.1.length (0 : Int)).length c348) l401, Res.cells b352_4 #[.slice a352_1 v153.length c352_2] 107]
           refine jmp_split hh ?_ ?_ <;> clear hh
           ·intro hh
            refine B.n (S.n (TC.a (TL.w z (fieldLoc z fo30_1 z) (TL.w z (loadLoc z ag27 z (i := 8) z z) (TL.w z (loadLoc z ag26 z (i := 12) z z) ?_)))))
            rw [← hn402]
            refine TL.front 13 z z (TL.sealS Go.E.encI_len (fun τ433 hle432 hr431 => ?_))
            replace hr111_0 := hr111_0.mono hle432
            replace hr265 := hr265.mono hle432
            replace zf281 := zf281.mono hle432
            replace zf395 := zf395.mono hle432
            replace zf399 := zf399.mono hle432
            have hr431b := hr431.rv.big
            have zf434 : ZOk _ (pkSl 1 Go.E.encI Go.E.encI_len) ([(l401, (a347, c348))] : List (List Int × (pkSl 1 Go.E.encI Go.E.encI_len).P)) [l401] := ZOk.cons (hr431) (ZOk.nil _ _)
            refine TL.op z (litZ zf434 z underlying27 sz26 z ze26 z z z (by decide) (by decide) z (by decide) z (by decide) (fun a429 c430 => ?_))
            refine TL.front 10 z z ?_
            have u190 := grd_c hh
            replace hh := grd_t hh
            refine TL.op z (appendZ (k := (pkSl 1 Go.E.encI Go.E.encI_len)) zf399 zf434 z z underlying27 sz26 by26 ze26 z z (by decide) z z z (.inr ⟨_, 0, z⟩) (by simpa using u190) (by decide) (fun a436 c437 zf438 => ?_))
            refine TL.w z (fieldLoc z fo30_1 z) (TL.front 10 z z (TL.op z (storeSl z sz27 z z z z z ?_)))
            refine TL.en (TC.region (TL.w z (fieldLoc z fo30_2 z) (TL.w z (loadLoc z ag28 z (i := 0) z z) (TL.j z z (TL.op z (OpOk.lit (enc := encB) [t322] z underlying28 sz4 ze4 z z z encB_len (by decide) (by decide) false z (by decide) z (by decide) encB_one (fun a439 c440 => ?_)))))))
            refine TL.front 12 z z ?_
            have u197 := grd_c hh
            replace hh := grd_t hh
            refine TL.op z (appendS z z underlying28 sz4 by4 ze4 z z (by decide) z z z (.inr ⟨_, 0, z⟩) (by simpa using u197) (by decide) (fun a442 c443 => ?_))
            refine TL.w z (fieldLoc z fo30_2 z) (TL.front 2 z z (TL.op z (storeSl z sz28 z z z z z ?_)))
            refine TL.nil (B.n (S.n (TC.region (TL.i z z ?_))))
            have u201 := grd_c hh
            replace hh := grd_t hh
            refine TL.w z (OpVal.succ z z z (by omega)) (TL.i z z (TL.en ?_))
            obtain ⟨hh, hlt444⟩ := nxt_x hR1 hh
            exact lf ((i388, l391, m397, (l277 ++ [l401]), (l283 ++ [t322]), (k286 + 1)), (a392, c393, z394, b398, a436, c437, (z280 ++ ([(l401, (a347, c348))] : List (List Int × (pkSl 1 Go.E.encI Go.E.encI_len).P))), a442, c443, τ433)) hlt444 ⟨hh, hr265, hn389, zf395, zf438, (((((hle294.trans hle325).trans hle352).trans hle404).trans hle407).trans hle432)⟩ (Sub.f [1, 3, 2, 12, 12, 12, 12, 12, 12, 12, 12] 11)
           ·intro m_ c_ hh hc_
            refine jl_split hh hc_ ?_ ?_ <;> clear hh hc_
            ·intro hh
             refine TC.ofSub (Sub.f [1, 1] 2) (TC.ret (B.r (S.r (B.r (S.r (S.r ?_))))))
             replace hh := fin_x hR1 hh
             refine B.r (S.r ?_)
             obtain rfl := so hh
             exact ro [] z (RVs.agg ag30 sz30 z (i := 0) z z (RVs.one ag33 z (i := 1) z z RVs.nil)) ⟨none, 0, none, 0, none, 0, z, (RS.nilF _ Go.E.encI Go.E.encI_len), (RZ.nilF _ (pkSl 1 Go.E.encI Go.E.encI_len)), (RS.nilF _ encB encB_len), z⟩
            ·intro m_ hh hc_
             exact jl_nil hc_
       ·refine TC.exit (S.x (S.x ?_))
        replace hh := fin_x hR1 hh
        refine TC.exitHere (S.n (TC.a (TL.w z (loadAll z ag30 sz30 z (i := 8) z z) (TL.front 3 z z (TL.op z (storeAll z sz30 z z z z z z ?_))))))
        refine TL.front 4 z z (TL.op z (storeI z sz33 z z z z z ?_))
        refine TL.en (TC.front 9 z z (TC.sealZ zf281 (fun τ447 hle446 hr445 => ?_)))
        replace hr111_0 := hr111_0.mono hle446
        have hr445b := hr445.big
        refine TC.front 9 z z (TC.sealS encB_len (fun τ450 hle449 hr448 => ?_))
        replace hr111_0 := hr111_0.mono hle449
        replace hr445 := hr445.mono hle449
        have hr448b := hr448.rv.big
        refine TC.ofSub (Sub.f [1] 2) (TC.ret ?_)
        obtain rfl := so hh
        exact ro [] z (RVs.agg ag30 sz30 z (i := 0) z z (RVs.one ag33 z (i := 1) z z RVs.nil)) ⟨a111_1, c111_1, a278, c279, a284, c285, z, hr111_0, hr445, hr448, z⟩
end Go.Proofs.YtcaaiphgikpgjaaGreatDoor
end
