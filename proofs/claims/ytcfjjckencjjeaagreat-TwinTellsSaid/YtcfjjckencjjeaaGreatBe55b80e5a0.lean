/- Parts of a proof, one behind the other: what a machine reaches, functions decompiled, plain lemmas. Conditions stand with each lemma. -/
import Derived.Test.YtcfjjckencjjeaaGreatBfe2174d4b5
import Derived.Test.YtcfjjckencjjeaaGreatBb8b5bcad2e
import Derived.Test.YtcfjjckencjjeaaGreatB85b8c4d583

/- P2 -/
section
/- Decompiled: whether two ways stay near one another. -/
set_option linter.unusedVariables false
set_option linter.unusedSimpArgs false
namespace Go.Proofs.YtcfjjckencjjeaaGreat
open Go Go.E Go.E.OpVal Go.E.OpOk Go.Proofs.Tryz
set_option maxRecDepth 100000
private theorem ag22 : Go.E.aggOf Tryz.prog 22 = some false := by kernel_rfl
private theorem ag23 : Go.E.aggOf Tryz.prog 23 = some false := by kernel_rfl
private theorem ag25 : Go.E.aggOf Tryz.prog 25 = some true := by kernel_rfl
private theorem ag3 : Go.E.aggOf Tryz.prog 3 = some false := by kernel_rfl
private theorem ag38 : Go.E.aggOf Tryz.prog 38 = some true := by kernel_rfl
private theorem ag43 : Go.E.aggOf Tryz.prog 43 = some true := by kernel_rfl
private theorem ag45 : Go.E.aggOf Tryz.prog 45 = some false := by kernel_rfl
private theorem ag46 : Go.E.aggOf Tryz.prog 46 = some false := by kernel_rfl
private theorem ag47 : Go.E.aggOf Tryz.prog 47 = some false := by kernel_rfl
private theorem ag50 : Go.E.aggOf Tryz.prog 50 = some false := by kernel_rfl
private theorem ag71 : Go.E.aggOf Tryz.prog 71 = some true := by kernel_rfl
private theorem ag74 : Go.E.aggOf Tryz.prog 74 = some false := by kernel_rfl
private theorem ag9 : Go.E.aggOf Tryz.prog 9 = some false := by kernel_rfl
private theorem by23 : Go.E.byOf Tryz.prog 23 = some 24 := by kernel_rfl
private theorem by38 : Go.E.byOf Tryz.prog 38 = some 72 := by kernel_rfl
private theorem by71 : Go.E.byOf Tryz.prog 71 = some 48 := by kernel_rfl
private theorem fo25_0 : Go.E.foOf Tryz.prog 25 0 = some 0 := by kernel_rfl
private theorem fo25_1 : Go.E.foOf Tryz.prog 25 1 = some 1 := by kernel_rfl
private theorem fo25_3 : Go.E.foOf Tryz.prog 25 3 = some 3 := by kernel_rfl
private theorem fo38_0 : Go.E.foOf Tryz.prog 38 0 = some 0 := by kernel_rfl
private theorem fo38_1 : Go.E.foOf Tryz.prog 38 1 = some 1 := by kernel_rfl
private theorem fo38_2 : Go.E.foOf Tryz.prog 38 2 = some 2 := by kernel_rfl
private theorem fo38_3 : Go.E.foOf Tryz.prog 38 3 = some 6 := by kernel_rfl
private theorem fo38_4 : Go.E.foOf Tryz.prog 38 4 = some 7 := by kernel_rfl
private theorem fo43_0 : Go.E.foOf Tryz.prog 43 0 = some 0 := by kernel_rfl
private theorem fo43_1 : Go.E.foOf Tryz.prog 43 1 = some 1 := by kernel_rfl
private theorem fo49_0 : Go.E.foOf Tryz.prog 49 0 = some 0 := by kernel_rfl
private theorem fo49_1 : Go.E.foOf Tryz.prog 49 1 = some 4 := by kernel_rfl
private theorem fo49_2 : Go.E.foOf Tryz.prog 49 2 = some 5 := by kernel_rfl
private theorem fo49_3 : Go.E.foOf Tryz.prog 49 3 = some 6 := by kernel_rfl
private theorem fo71_0 : Go.E.foOf Tryz.prog 71 0 = some 0 := by kernel_rfl
private theorem fo71_1 : Go.E.foOf Tryz.prog 71 1 = some 1 := by kernel_rfl
private theorem fo71_2 : Go.E.foOf Tryz.prog 71 2 = some 2 := by kernel_rfl
private theorem fo71_3 : Go.E.foOf Tryz.prog 71 3 = some 3 := by kernel_rfl
private theorem es71 (x y : TLag) : Go.E.EqAt Tryz.prog 2 71 (.agg (Go.E.encLag x).toArray) (.agg (Go.E.encLag y).toArray) (decide (x = y)) :=
 (EqAt.struct (ts := [(false, 3, 0), (false, 3, 1), (false, 9, 2), (false, 9, 3)]) (by kernel_rfl) (by kernel_rfl) (by kernel_rfl) (EqC.one (by kernel_rfl) rfl rfl (EqAt.int underlying3 x.p y.p) (EqC.one (by kernel_rfl) rfl rfl (EqAt.int underlying3 x.q y.q) (EqC.one (by kernel_rfl) rfl rfl (EqAt.str underlying9 x.a y.a) (EqC.one (by kernel_rfl) rfl rfl (EqAt.str underlying9 x.b y.b) EqC.nil))))).of (by rw [Bool.eq_iff_iff]; cases x; cases y; simp)
private theorem kl71 : Go.E.KeyL Tryz.prog 71 (fun x => Value.agg (Go.E.encLag x).toArray) :=
 KeyL.struct underlying71 es71 rfl (fun x => CkAt.struct (n := 1) (ts := [(false, 3, 0), (false, 3, 1), (false, 9, 2), (false, 9, 3)]) (by kernel_rfl) (by kernel_rfl) (CkC.one (by kernel_rfl) rfl (CkAt.int underlying3 _) (CkC.one (by kernel_rfl) rfl (CkAt.int underlying3 _) (CkC.one (by kernel_rfl) rfl (CkAt.str underlying9 _) (CkC.one (by kernel_rfl) rfl (CkAt.str underlying9 _) CkC.nil))))) rfl encLag_bits
private theorem pf12 : Go.E.plainF Tryz.prog 12 = true := by kernel_rfl
private theorem pf13 : Go.E.plainF Tryz.prog 13 = true := by kernel_rfl
private theorem pf16 : Go.E.plainF Tryz.prog 16 = true := by kernel_rfl
private theorem pf17 : Go.E.plainF Tryz.prog 17 = true := by kernel_rfl
private theorem pf18 : Go.E.plainF Tryz.prog 18 = true := by kernel_rfl
private theorem pf25 : Go.E.plainF Tryz.prog 25 = true := by kernel_rfl
private theorem pf30 : Go.E.plainF Tryz.prog 30 = true := by kernel_rfl
private theorem pf31 : Go.E.plainF Tryz.prog 31 = true := by kernel_rfl
private theorem pf32 : Go.E.plainF Tryz.prog 32 = true := by kernel_rfl
private theorem pf33 : Go.E.plainF Tryz.prog 33 = true := by kernel_rfl
private theorem pf43 : Go.E.plainF Tryz.prog 43 = true := by kernel_rfl
private theorem pf44 : Go.E.plainF Tryz.prog 44 = true := by kernel_rfl
private theorem pf45 : Go.E.plainF Tryz.prog 45 = true := by kernel_rfl
private theorem pf46 : Go.E.plainF Tryz.prog 46 = true := by kernel_rfl
private theorem pf47 : Go.E.plainF Tryz.prog 47 = true := by kernel_rfl
private theorem pl25 : Go.E.plOf Tryz.prog 25 = some #[(0, 1), (1, 1), (2, 1), (3, 1)] := by kernel_rfl
private theorem pl49 : Go.E.plOf Tryz.prog 49 = some #[(0, 4), (4, 1), (5, 1), (6, 1)] := by kernel_rfl
private theorem pl71 : Go.E.plOf Tryz.prog 71 = some #[(0, 1), (1, 1), (2, 1), (3, 1)] := by kernel_rfl
private theorem pl72 : Go.E.plOf Tryz.prog 72 = some #[] := by kernel_rfl
private theorem sz23 : Go.E.szOf Tryz.prog 23 = some 1 := by kernel_rfl
private theorem sz25 : Go.E.szOf Tryz.prog 25 = some 4 := by kernel_rfl
private theorem sz38 : Go.E.szOf Tryz.prog 38 = some 8 := by kernel_rfl
private theorem sz43 : Go.E.szOf Tryz.prog 43 = some 2 := by kernel_rfl
private theorem sz50 : Go.E.szOf Tryz.prog 50 = some 1 := by kernel_rfl
private theorem sz71 : Go.E.szOf Tryz.prog 71 = some 4 := by kernel_rfl
private theorem sz72 : Go.E.szOf Tryz.prog 72 = some 0 := by kernel_rfl
private theorem ze23 : Go.E.zeroOf Tryz.prog 23 = some (.slice none 0 0) := by kernel_rfl
private theorem ze25 : Go.E.zeroOf Tryz.prog 25 = some (.agg #[.int .i64 0, .slice none 0 0, .slice none 0 0, .slice none 0 0]) := by kernel_rfl
private theorem ze38 : Go.E.zeroOf Tryz.prog 38 = some (.agg #[.int .i64 0, .int .i64 0, .int .u64 0, .int .u64 0, .int .u64 0, .int .u64 0, .string ByteArray.empty, .bool false]) := by kernel_rfl
private theorem ze4 : Go.E.zeroOf Tryz.prog 4 = some (.bool false) := by kernel_rfl
private theorem ze43 : Go.E.zeroOf Tryz.prog 43 = some (.agg #[.int .i64 0, .string ByteArray.empty]) := by kernel_rfl
private theorem ze49 : Go.E.zeroOf Tryz.prog 49 = some (.agg #[.int .i64 0, .slice none 0 0, .slice none 0 0, .slice none 0 0, .slice none 0 0, .int .i64 0, .map none]) := by kernel_rfl
private theorem ze5 : Go.E.zeroOf Tryz.prog 5 = some (.int .u8 0) := by kernel_rfl
private theorem ze50 : Go.E.zeroOf Tryz.prog 50 = some (.slice none 0 0) := by kernel_rfl
private theorem ze71 : Go.E.zeroOf Tryz.prog 71 = some (.agg #[.int .i64 0, .int .i64 0, .string ByteArray.empty, .string ByteArray.empty]) := by kernel_rfl
private theorem ze72 : Go.E.zeroOf Tryz.prog 72 = some (.agg #[]) := by kernel_rfl

noncomputable def twin_trim (x0 : Fst) : Option (Fst × Int) :=
 bnd (prune_Trim x0) (fun v5 => iteO (decide (v5.2 ≠ 0)) (some ((⟨0, ([] : List Tip), ([] : List Tip), ([] : List Arc)⟩ : Fst), v5.2)) (iteO (decide (32 < v5.1.states)) (some ((⟨0, ([] : List Tip), ([] : List Tip), ([] : List Arc)⟩ : Fst), 2)) (some (v5.1, 0))))
def twin_trim_P (σ : Store) (r : Fst × Int) : Value → Store → List Res → Prop := fun v σ' H' =>
 ∃ (a1 : Option Addr), ∃ (c1 : Nat), ∃ (a2 : Option Addr), ∃ (c2 : Nat), ∃ (a3 : Option Addr), ∃ (c3 : Nat),  v = .tuple #[.agg #[.int .i64 r.1.states, .slice a1 r.1.starts.length c1, .slice a2 r.1.ends.length c2, .slice a3 r.1.arcs.length c3], .int .i64 r.2] ∧ RS σ' 2 encTip (.slice a1 r.1.starts.length c1) r.1.starts ∧ RS σ' 2 encTip (.slice a2 r.1.ends.length c2) r.1.ends ∧ RS σ' 8 encArc (.slice a3 r.1.arcs.length c3) r.1.arcs ∧ H' = []
theorem twin_trim_con {σ : Store} {x0 : Fst} {a0_0 : Option Addr} {c0_0 : Nat} {a0_1 : Option Addr} {c0_1 : Nat} {a0_2 : Option Addr} {c0_2 : Nat} (f0_0 : RS σ 2 encTip (.slice a0_0 x0.starts.length c0_0) x0.starts) (f0_1 : RS σ 2 encTip (.slice a0_1 x0.ends.length c0_1) x0.ends) (f0_2 : RS σ 8 encArc (.slice a0_2 x0.arcs.length c0_2) x0.arcs) {r : Fst × Int} (hh : twin_trim x0 = some r) :
  Con Tryz.prog 12 #[.agg #[.int .i64 x0.states, .slice a0_0 x0.starts.length c0_0, .slice a0_1 x0.ends.length c0_1, .slice a0_2 x0.arcs.length c0_2]] σ [] (twin_trim_P σ r) := by
 dsimp only [twin_trim] at hh
 have f0_0b := f0_0.rv.big
 have f0_1b := f0_1.rv.big
 have f0_2b := f0_2.rv.big
 refine Con.mk (n := 19) Tryz.func12 z z z (fun w0 => ?_)
 refine TC.a (TL.op z (boxA z z z z (fun b101 => ?_)))
 refine TL.op z (OpOk.alloc z ze25 z z (fun b103 => ?_))
 refine TL.i z z (TL.en (TC.a (TL.w z (loadAll z ag25 sz25 z (i := 1) z z) ?_)))
 obtain ⟨v5, u5, hh⟩ := bnd_e hh
 refine TL.op z (OpOk.call (prune_Trim_con (x0 := x0) f0_0 f0_1 f0_2 u5) z z pf25 z z z z ?_)
 rintro _ τ105 _ hle105 ⟨a105_1, c105_1, a105_2, c105_2, a105_3, c105_3, rfl, hr105_0, hr105_1, hr105_2, rfl⟩
 have hr105_0b := hr105_0.rv.big
 have hr105_1b := hr105_1.rv.big
 have hr105_2b := hr105_2.rv.big
 refine TL.w z (moveT (.inl z) z) (TL.w z (OpVal.extract z z z) (TL.w z (OpVal.extract z z z) (TL.front 1 z z (TL.op z (storeAll z sz25 z z z z z z ?_)))))
 refine TL.i z z (TL.en (TC.seq (TC.a (TL.i z z (TL.w z (OpVal.neq z z z) (TL.en (TC.cD z hh (fun h106 hh => ?_) (fun h106 hh => ?_))))))))
 ·refine TC.a (TL.w z (buildL z pl25 ze25 z) (TL.i z z (TL.front 1 z z (TL.op z (storeAll z sz25 z z z z z z ?_)))))
  refine TL.i z z (TL.en (TC.rt 1 (S.r ?_)))
  obtain rfl := so hh
  exact ro [] z (RVs.agg ag25 sz25 z (i := 0) z z (RVs.tmp z RVs.nil)) ⟨none, 0, none, 0, none, 0, z, (RS.nilF _ encTip encTip_len), (RS.nilF _ encTip encTip_len), (RS.nilF _ encArc encArc_len), z⟩
 ·refine TC.skip (S.n (TC.seq (TC.a (TL.w z (fieldLoc z fo25_0 z) (TL.w z (loadLoc z ag3 z (i := 0) z z) (TL.w z (OpVal.gtr z z z) (TL.en (TC.cD z hh (fun h107 hh => ?_) (fun h107 hh => ?_)))))))))
  ·refine TC.a (TL.w z (buildL z pl25 ze25 z) (TL.front 1 z z (TL.op z (storeAll z sz25 z z z z z z ?_))))
   refine TL.i z z (TL.en (TC.rt 1 (S.r ?_)))
   obtain rfl := so hh
   exact ro [] z (RVs.agg ag25 sz25 z (i := 0) z z (RVs.tmp z RVs.nil)) ⟨none, 0, none, 0, none, 0, z, (RS.nilF _ encTip encTip_len), (RS.nilF _ encTip encTip_len), (RS.nilF _ encArc encArc_len), z⟩
  ·refine TC.skip (S.n (TC.a (TL.w z (loadAll z ag25 sz25 z (i := 0) z z) (TL.front 1 z z (TL.op z (storeAll z sz25 z z z z z z ?_))))))
   refine TL.i z z (TL.en (TC.rt 1 ?_))
   obtain rfl := so hh
   exact ro [] z (RVs.agg ag25 sz25 z (i := 0) z z (RVs.tmp z RVs.nil)) ⟨a105_1, c105_1, a105_2, c105_2, a105_3, c105_3, z, hr105_0, hr105_1, hr105_2, z⟩

noncomputable def twin_bound_j1 (i107 : Int) (k108 : Nat) (k112 : Nat) : Option ((Int × Nat) ⊕ (Int)) :=
 nxt ((max i107 ((k112 : Nat) : Int)), (k108 + 1))
noncomputable def twin_bound_b2 (x0 : Fst) (i107 : Int) (i119 : Int) (k120 : Nat) : Option ((Int × Nat) ⊕ (Int)) :=
 iteO (decide (((k120 : Nat) : Int) < ((x0.starts.length : Nat) : Int))) (nxt ((max i119 ((((nth x0.starts k120 Tip.zero).out).length : Nat) : Int)), (k120 + 1))) (fin (some (IntKind.i64.wrap ((IntKind.i64.wrap ((IntKind.i64.wrap (x0.states * x0.states)) * i107)) + i119))))
noncomputable def twin_bound_b1 (x0 : Fst) (i107 : Int) (k108 : Nat) : Option ((Int × Nat) ⊕ (Int)) :=
 iteO (decide (((k108 : Nat) : Int) < ((x0.arcs.length : Nat) : Int))) (iteO ((nth x0.arcs k108 Arc.zero).copy) (grd (((nth x0.arcs k108 Arc.zero).out).length + 1 ≤ 9223372036854775807) (twin_bound_j1 i107 k108 (((nth x0.arcs k108 Arc.zero).out).length + 1))) (twin_bound_j1 i107 k108 (((nth x0.arcs k108 Arc.zero).out).length))) (fin (iter (fun q : Int × Nat => twin_bound_b2 x0 i107 q.1 q.2) (0, 0)))
noncomputable def twin_bound (x0 : Fst) : Option (Int) :=
 iter (fun q : Int × Nat => twin_bound_b1 x0 q.1 q.2) (0, 0)
theorem twin_bound_con {σ : Store} {x0 : Fst} {a0_0 : Option Addr} {c0_0 : Nat} {a0_1 : Option Addr} {c0_1 : Nat} {a0_2 : Option Addr} {c0_2 : Nat} (f0_0 : RS σ 2 encTip (.slice a0_0 x0.starts.length c0_0) x0.starts) (f0_1 : RS σ 2 encTip (.slice a0_1 x0.ends.length c0_1) x0.ends) (f0_2 : RS σ 8 encArc (.slice a0_2 x0.arcs.length c0_2) x0.arcs) {r : Int} (hh : twin_bound x0 = some r) :
  Con Tryz.prog 13 #[.agg #[.int .i64 x0.states, .slice a0_0 x0.starts.length c0_0, .slice a0_1 x0.ends.length c0_1, .slice a0_2 x0.arcs.length c0_2]] σ [] (PureP (.int .i64 r) σ) := by
 dsimp only [twin_bound] at hh
 have f0_0b := f0_0.rv.big
 have f0_1b := f0_1.rv.big
 have f0_2b := f0_2.rv.big
 refine Con.mk (n := 50) Tryz.func13 z z z (fun w0 => ?_)
 refine TC.a (TL.op z (boxA z z z z (fun b101 => ?_)))
 refine TL.i z z (TL.en (TC.a (TL.i z z (TL.i z z (TL.en (TC.seq (TC.a (TL.w z (fieldLoc z fo25_3 z) (TL.w z (loadLoc z ag23 z (i := 0) z z) (TL.w z (lenC z underlying23 z) (TL.i z z (TL.en (TC.block (TC.loopG (α := (Int × Nat) × (Unit)) (rgs [(3, 1), (6, 2), (13, 15)]) (fun g => [(3, .int .i64 g.1.1), (13, .int .i64 ((g.1.2 : Nat) : Int))]) (fun g => [Res.cells b101 #[.int .i64 x0.states, .slice a0_0 x0.starts.length c0_0, .slice a0_1 x0.ends.length c0_1, .slice a0_2 x0.arcs.length c0_2] 25]) (fun g => σ) (fun g => iter (fun q : Int × Nat => twin_bound_b1 x0 q.1 q.2) g.1 = some r) (fun g => rounds (fun q : Int × Nat => twin_bound_b1 x0 q.1 q.2) g.1) ((0, 0), ()) (Sub.pre 1 z) z (by repeat (first | exact trivial | refine ⟨z, ?_⟩)) hh (fun g1 j1 hg1 => ?_)))))))))))))))
 obtain ⟨⟨i107, k108⟩, _⟩ := g1
 have hh := hg1; clear hg1
 try dsimp only
 obtain ⟨z1, hh, hR1⟩ := iter_e hh
 dsimp only [twin_bound_b1] at hh
 refine TC.a (TL.w z (OpVal.lss z z z) (TL.en (TC.seq (TC.cD z hh (fun h109 hh => ?_) (fun h109 hh => ?_)))))
 ·refine TC.skip (S.n (TC.seq (TC.block (TC.a (TL.w z (indexN z underlying23 sz38 z z f0_2.rv.sl (by omega)) (TL.w z (loadSA Arc.zero z ag38 sz38 z f0_2 (by omega) (by omega)) (TL.op z (OpOk.alloc z ze38 z z (fun b110 => ?_)))))))))
  refine TL.op z (storeAll z sz38 z z z z z z ?_)
  refine TL.en (TC.a (TL.w z (fieldLoc z fo38_3 z) (TL.w z (loadLoc z ag9 z (i := 0) z z) (TL.w z (lenBs z underlying9 z) (TL.i z z (TL.en (TC.cutG (α := (Nat) × (Unit)) [7, 20, 21, 22, 23] (fun g => [(7, .int .i64 ((g.1 : Nat) : Int))]) (fun g => [Res.cells b101 #[.int .i64 x0.states, .slice a0_0 x0.starts.length c0_0, .slice a0_1 x0.ends.length c0_1, .slice a0_2 x0.arcs.length c0_2] 25]) (fun g => σ) (fun g => twin_bound_j1 i107 k108 g.1 = some z1) ?_ (fun g j hg => ?_))))))))
  ·skip
   refine TC.a (TL.w z (fieldLoc z fo38_4 z) (TL.w z (loadLoc z ag4 z (i := 0) z z) (TL.en (TC.cB z hh (fun h113 hh => ?_) (fun h113 hh => ?_)))))
   ·refine TC.region (TL.i z z ?_)
    have u21 := grd_c hh
    replace hh := grd_t hh
    exact TL.w z (OpVal.succ z z z (by omega)) (TL.i z z (TL.en (cf ((((nth x0.arcs k108 Arc.zero).out).length + 1), ()) hh (Sub.f [1] 1))))
   ·exact TC.skip (S.n (cf (((nth x0.arcs k108 Arc.zero).out).length, ()) hh (Sub.f [1] 1)))
  ·skip
   obtain ⟨k112, _⟩ := g
   have hh := hg; clear hg
   try dsimp only
   dsimp only [twin_bound_j1] at hh
   refine TC.region (TL.i z z (TL.i z z (TL.w z (maxI z z z) (TL.i z z (TL.nil (B.n (S.n (TC.region (TL.w z (OpVal.succ z z z (by omega)) (TL.i z z (TL.en ?_)))))))))))
   obtain ⟨hh, hlt114⟩ := nxt_x hR1 hh
   exact lf (((max i107 ((k112 : Nat) : Int)), (k108 + 1)), ()) hlt114 hh (Sub.pre 1 z)
 ·refine TC.exit (S.x (S.x ?_))
  replace hh := fin_x hR1 hh
  refine TC.exitHere (S.n (TC.seq (TC.a (TL.w z (fieldLoc z fo25_1 z) (TL.w z (loadLoc z ag22 z (i := 0) z z) (TL.w z (lenC z underlying22 z) (TL.i z z (TL.en (TC.block (TC.loopG (α := (Int × Nat) × (Unit)) (rgs [(4, 1), (9, 1), (31, 10)]) (fun g => [(4, .int .i64 g.1.1), (31, .int .i64 ((g.1.2 : Nat) : Int))]) (fun g => [Res.cells b101 #[.int .i64 x0.states, .slice a0_0 x0.starts.length c0_0, .slice a0_1 x0.ends.length c0_1, .slice a0_2 x0.arcs.length c0_2] 25]) (fun g => σ) (fun g => iter (fun q : Int × Nat => twin_bound_b2 x0 i107 q.1 q.2) g.1 = some r) (fun g => rounds (fun q : Int × Nat => twin_bound_b2 x0 i107 q.1 q.2) g.1) ((0, 0), ()) (Sub.pre 1 z) z (by repeat (first | exact trivial | refine ⟨z, ?_⟩)) hh (fun g2 j2 hg2 => ?_)))))))))))
  obtain ⟨⟨i119, k120⟩, _⟩ := g2
  have hh := hg2; clear hg2
  try dsimp only
  obtain ⟨z1, hh, hR1⟩ := iter_e hh
  dsimp only [twin_bound_b2] at hh
  refine TC.a (TL.w z (OpVal.lss z z z) (TL.en (TC.seq (TC.cD z hh (fun h121 hh => ?_) (fun h121 hh => ?_)))))
  ·refine TC.skip (S.n (TC.seq (TC.block (TC.a (TL.w z (indexN z underlying22 sz43 z z f0_0.rv.sl (by omega)) (TL.w z (loadSA Tip.zero z ag43 sz43 z f0_0 (by omega) (by omega)) (TL.op z (OpOk.alloc z ze43 z z (fun b122 => ?_)))))))))
   refine TL.op z (storeAll z sz43 z z z z z z ?_)
   refine TL.en (TC.region (TL.i z z (TL.w z (fieldLoc z fo43_1 z) (TL.w z (loadLoc z ag9 z (i := 0) z z) (TL.w z (lenBs z underlying9 z) (TL.w z (maxI z z z) (TL.i z z (TL.nil (B.n (S.n (TC.region (TL.w z (OpVal.succ z z z (by omega)) (TL.i z z (TL.en ?_))))))))))))))
   obtain ⟨hh, hlt124⟩ := nxt_x hR1 hh
   exact lf (((max i119 ((((nth x0.starts k120 Tip.zero).out).length : Nat) : Int)), (k120 + 1)), ()) hlt124 hh (Sub.f [1] 1)
  ·refine TC.exit (S.x (S.x ?_))
   replace hh := fin_x hR1 hh
   refine TC.exitHere (S.n (TC.a (TL.w z (fieldLoc z fo25_0 z) (TL.w z (loadLoc z ag3 z (i := 0) z z) (TL.w z (fieldLoc z fo25_0 z) (TL.w z (loadLoc z ag3 z (i := 0) z z) (TL.w z (mulW z z z) (TL.i z z (TL.w z (mulW z z z) (TL.i z z (TL.w z (addW z z z) (TL.i z z (TL.en (TC.rt 0 ?_))))))))))))))
   obtain rfl := so hh
   exact rq [2] ⟨z, z, z⟩

noncomputable def twin_Bound (x0 : Fst) : Option (Int × Int) :=
 bnd (twin_trim x0) (fun v5 => iteO (decide (v5.2 ≠ 0)) (some (0, v5.2)) (bnd (twin_bound v5.1) (fun v17 => some (v17, 0))))
theorem twin_Bound_con {σ : Store} {x0 : Fst} {a0_0 : Option Addr} {c0_0 : Nat} {a0_1 : Option Addr} {c0_1 : Nat} {a0_2 : Option Addr} {c0_2 : Nat} (f0_0 : RS σ 2 encTip (.slice a0_0 x0.starts.length c0_0) x0.starts) (f0_1 : RS σ 2 encTip (.slice a0_1 x0.ends.length c0_1) x0.ends) (f0_2 : RS σ 8 encArc (.slice a0_2 x0.arcs.length c0_2) x0.arcs) {r : Int × Int} (hh : twin_Bound x0 = some r) :
  Con Tryz.prog 5 #[.agg #[.int .i64 x0.states, .slice a0_0 x0.starts.length c0_0, .slice a0_1 x0.ends.length c0_1, .slice a0_2 x0.arcs.length c0_2]] σ [] (PureP (.tuple #[.int .i64 r.1, .int .i64 r.2]) σ) := by
 dsimp only [twin_Bound] at hh
 have f0_0b := f0_0.rv.big
 have f0_1b := f0_1.rv.big
 have f0_2b := f0_2.rv.big
 refine Con.mk (n := 15) Tryz.func5 z z z (fun w0 => ?_)
 refine TC.a (TL.op z (boxA z z z z (fun b101 => ?_)))
 refine TL.i z z (TL.i z z (TL.en (TC.a (TL.w z (loadAll z ag25 sz25 z (i := 0) z z) ?_))))
 obtain ⟨v5, u5, hh⟩ := bnd_e hh
 refine TL.op z (OpOk.call (twin_trim_con (x0 := x0) f0_0 f0_1 f0_2 u5) z z pf12 z z z z ?_)
 rintro _ τ103 _ hle103 ⟨a103_1, c103_1, a103_2, c103_2, a103_3, c103_3, rfl, hr103_0, hr103_1, hr103_2, rfl⟩
 have hr103_0b := hr103_0.rv.big
 have hr103_1b := hr103_1.rv.big
 have hr103_2b := hr103_2.rv.big
 refine TL.w z (moveT (.inl z) z) (TL.w z (OpVal.extract z z z) (TL.w z (OpVal.extract z z z) (TL.op z (storeAll z sz25 z z z z z z ?_))))
 refine TL.i z z (TL.en (TC.seq (TC.a (TL.i z z (TL.w z (OpVal.neq z z z) (TL.en (TC.cD z hh (fun h104 hh => ?_) (fun h104 hh => ?_))))))))
 ·refine TC.a (TL.i z z (TL.i z z (TL.i z z (TL.en (TC.ofSub (Sub.pre 0 z) (TC.back (TC.ret (S.r ?_))))))))
  obtain rfl := so hh
  exact rq [2, 3] ⟨z, z, z⟩
 ·refine TC.skip (S.n (TC.a (TL.w z (loadAll z ag25 sz25 z (i := 0) z z) ?_)))
  obtain ⟨v17, u17, hh⟩ := bnd_e hh
  refine TL.op z (callP (twin_bound_con (x0 := v5.1) hr103_0 hr103_1 hr103_2 u17) z z pf13 z z z ?_)
  refine TL.i z z (TL.i z z (TL.en (TC.ofSub (Sub.pre 0 z) (TC.back (TC.ret ?_)))))
  obtain rfl := so hh
  exact rq [2, 3] ⟨z, z, z⟩

noncomputable def text_front_b1 (x0 : List UInt8) (x1 : List UInt8) (k103 : Nat) : Option ((Nat) ⊕ (Int)) :=
 iteO (decide (((k103 : Nat) : Int) < (min ((x0.length : Nat) : Int) ((x1.length : Nat) : Int)))) (grd (k103 < x0.length) (grd (k103 < x1.length) (iteO (decide ((((nth x0 k103 (0 : UInt8)).toNat : Nat) : Int) ≠ (((nth x1 k103 (0 : UInt8)).toNat : Nat) : Int))) (fin (some ((k103 : Nat) : Int))) (nxt (k103 + 1))))) (fin (some (min ((x0.length : Nat) : Int) ((x1.length : Nat) : Int))))
noncomputable def text_front (x0 : List UInt8) (x1 : List UInt8) : Option (Int) :=
 grd (x0.length ≤ 281474976710656) (grd (x1.length ≤ 281474976710656) (iter (fun q : Nat => text_front_b1 x0 x1 q) 0))
theorem text_front_con {σ : Store} {x0 : List UInt8} {x1 : List UInt8}  {r : Int} (hh : text_front x0 x1 = some r) :
  Con Tryz.prog 43 #[.string (bs x0), .string (bs x1)] σ [] (PureP (.int .i64 r) σ) := by
 dsimp only [text_front] at hh
 refine Con.mk (n := 26) Tryz.func43 z z z (fun w0 => ?_)
 have x0b := grd_c hh
 replace hh := grd_t hh
 have x1b := grd_c hh
 replace hh := grd_t hh
 refine TC.a (TL.i z z (TL.en (TC.a (TL.w z (moveStr (.inl z) z) (TL.w z (lenBs z underlying9 z) (TL.w z (moveStr (.inl z) z) (TL.w z (lenBs z underlying9 z) (TL.w z (minI z z z) (TL.i z z (TL.en (TC.seq (TC.a (TL.i z z (TL.i z z (TL.en ?_)))))))))))))))
 refine TC.block (TC.loopG (α := (Nat) × (Unit)) (rgs [(4, 1), (6, 1), (13, 12)]) (fun g => [(13, .int .i64 ((g.1 : Nat) : Int))]) (fun g => []) (fun g => σ) (fun g => iter (fun q : Nat => text_front_b1 x0 x1 q) g.1 = some r) (fun g => rounds (fun q : Nat => text_front_b1 x0 x1 q) g.1) (0, ()) (Sub.pre 0 z) z (by repeat (first | exact trivial | refine ⟨z, ?_⟩)) hh (fun g1 j1 hg1 => ?_))
 obtain ⟨k103, _⟩ := g1
 have hh := hg1; clear hg1
 try dsimp only
 obtain ⟨z1, hh, hR1⟩ := iter_e hh
 dsimp only [text_front_b1] at hh
 refine TC.a (TL.w z (OpVal.lss z z z) (TL.en (TC.seq (TC.cD z hh (fun h104 hh => ?_) (fun h104 hh => ?_)))))
 ·refine TC.skip (S.n (TC.seq (TC.block (TC.a (TL.i z z (TL.i z z (TL.en (TC.seq ?_))))))))
  have u15 := grd_c hh
  replace hh := grd_t hh
  have u18 := grd_c hh
  replace hh := grd_t hh
  refine TC.draw [] (by kernel_rfl) (TA.a 0 z (moveStr (.inl z) z) z (TA.a 1 z (moveI (.inl z) z) z (TA.a 2 z (indexBs z underlying9 z z (by omega)) z (TA.a 3 z (moveStr (.inl z) z) z (TA.a 4 z (moveI (.inl z) z) z (TA.a 5 z (indexBs z underlying9 z z (by omega)) z (TA.a 6 z (OpVal.neq z z z) z (TA.dn (S.n (TC.cD z hh (fun h105 hh => ?_) (fun h105 hh => ?_)))))))))))
  ·refine TC.a (TL.i z z (TL.i z z (TL.en (TC.ret (B.r (S.r (S.r ?_)))))))
   replace hh := fin_x hR1 hh
   refine B.r (S.r ?_)
   obtain rfl := so hh
   exact rq [4] ⟨z, z, z⟩
  ·refine TC.skip (B.n (S.n (TC.region (TL.w z (OpVal.succ z z z (by omega)) (TL.i z z (TL.en ?_))))))
   obtain ⟨hh, hlt106⟩ := nxt_x hR1 hh
   exact lf ((k103 + 1), ()) hlt106 hh (Sub.pre 0 z)
 ·refine TC.exit (S.x (S.x ?_))
  replace hh := fin_x hR1 hh
  refine TC.exitHere (S.n (TC.a (TL.i z z (TL.i z z (TL.en (TC.ret ?_))))))
  obtain rfl := so hh
  exact rq [4] ⟨z, z, z⟩

noncomputable def text_Lag (x0 : List UInt8) (x1 : List UInt8) : Option ((List UInt8) × (List UInt8)) :=
 grd (x0.length ≤ 281474976710656) (grd (x1.length ≤ 281474976710656) (bnd (text_front x0 x1) (fun v5 => grd (0 ≤ v5 ∧ v5.toNat ≤ x0.length ∧ x0.length ≤ x0.length) (grd (0 ≤ v5 ∧ v5.toNat ≤ x1.length ∧ x1.length ≤ x1.length) (some ((x0.drop v5.toNat), (x1.drop v5.toNat)))))))
theorem text_Lag_con {σ : Store} {x0 : List UInt8} {x1 : List UInt8}  {r : (List UInt8) × (List UInt8)} (hh : text_Lag x0 x1 = some r) :
  Con Tryz.prog 31 #[.string (bs x0), .string (bs x1)] σ [] (PureP (.tuple #[.string (bs r.1), .string (bs r.2)]) σ) := by
 dsimp only [text_Lag] at hh
 refine Con.mk (n := 16) Tryz.func31 z z z (fun w0 => ?_)
 have x0b := grd_c hh
 replace hh := grd_t hh
 have x1b := grd_c hh
 replace hh := grd_t hh
 refine TC.a (TL.w z (moveStr (.inr z) z) (TL.w z (moveStr (.inr z) z) (TL.en (TC.a (TL.w z (moveStr (.inl z) z) (TL.w z (moveStr (.inl z) z) ?_))))))
 obtain ⟨v5, u5, hh⟩ := bnd_e hh
 refine TL.op z (callP (text_front_con u5) z z pf43 z z z ?_)
 refine TL.i z z (TL.en (TC.seq ?_))
 have u9 := grd_c hh
 replace hh := grd_t hh
 have u12 := grd_c hh
 replace hh := grd_t hh
 refine TC.draw [] (by kernel_rfl) (TA.a 0 z (moveStr (.inl z) z) z (TA.a 1 z (moveI (.inl z) z) z (TA.b 2 rfl (sliceBsL (l := x0) (i := v5.toNat) rfl underlying9 rfl (by show Value.int _ _ = _; rw [Int.toNat_of_nonneg (by omega)]) (by omega) (by omega)) rfl (TA.a 3 z (moveStr (.inl z) z) z (TA.a 4 z (moveI (.inl z) z) z (TA.b 5 rfl (sliceBsL (l := x1) (i := v5.toNat) rfl underlying9 rfl (by show Value.int _ _ = _; rw [Int.toNat_of_nonneg (by omega)]) (by omega) (by omega)) rfl (TA.a 6 z (moveStr (.inr z) z) z (TA.a 7 z (moveStr (.inr z) z) z (TA.dn (S.n (TC.ret ?_)))))))))))
 obtain rfl := so hh
 exact rq [4, 5] ⟨z, z, z⟩

noncomputable def set_Both_b1 (x1 : BSet) (z111 : BSet) (k112 : Nat) : Option ((BSet × Nat) ⊕ (BSet)) :=
 iteO (decide (((k112 : Nat) : Int) < 4)) (grd (k112 < 4) (grd (k112 < 4) (grd (k112 < 4) (grd ((u64and (BSet.word z111 k112) (BSet.word x1 k112)) < 18446744073709551616) (nxt ((BSet.setWord z111 k112 (u64and (BSet.word z111 k112) (BSet.word x1 k112))), (k112 + 1))))))) (fin (some z111))
noncomputable def set_Both (x0 : BSet) (x1 : BSet) : Option (BSet) :=
 iter (fun q : BSet × Nat => set_Both_b1 x1 q.1 q.2) (x0, 0)
theorem set_Both_con {σ : Store} {x0 : BSet} {x1 : BSet}  {r : BSet} (hh : set_Both x0 x1 = some r) :
  Con Tryz.prog 45 #[setV x0, setV x1] σ [] (PureP (setV r) σ) := by
 dsimp only [set_Both] at hh
 refine Con.mk (n := 19) Tryz.func45 z z z (fun w0 => ?_)
 refine TC.a (TL.op z (boxA z z z z (fun b101 => ?_)))
 refine TL.op z (boxA z z z z (fun b103 => ?_))
 refine TL.op z (OpOk.alloc z ze36 z z (fun b105 => ?_))
 refine TL.en (TC.seq (TC.a (TL.i z z (TL.en (TC.block (TC.loopG (α := (BSet × Nat) × (Unit)) (rgs [(5, 13)]) (fun g => [(6, .int .i64 ((g.1.2 : Nat) : Int))]) (fun g => [Res.cells b101 (setA g.1.1) 36, Res.cells b103 (setA x1) 36, Res.cells b105 (setA BSet.zero) 36]) (fun g => σ) (fun g => iter (fun q : BSet × Nat => set_Both_b1 x1 q.1 q.2) g.1 = some r) (fun g => rounds (fun q : BSet × Nat => set_Both_b1 x1 q.1 q.2) g.1) ((x0, 0), ()) (Sub.f [1, 2] 3) z (by repeat (first | exact trivial | refine ⟨z, ?_⟩)) hh (fun g1 j1 hg1 => ?_)))))))
 obtain ⟨⟨z111, k112⟩, _⟩ := g1
 have hh := hg1; clear hg1
 try dsimp only
 obtain ⟨z1, hh, hR1⟩ := iter_e hh
 dsimp only [set_Both_b1] at hh
 refine TC.a (TL.w z (OpVal.lss z z z) (TL.en (TC.seq (TC.cD z hh (fun h113 hh => ?_) (fun h113 hh => ?_)))))
 ·refine TC.skip (S.n (TC.seq (TC.block (TC.a (TL.i z z (TL.i z z (TL.en ?_)))))))
  have u9 := grd_c hh
  replace hh := grd_t hh
  have u12 := grd_c hh
  replace hh := grd_t hh
  have u15 := grd_c hh
  replace hh := grd_t hh
  have u16 := grd_c hh
  replace hh := grd_t hh
  refine TC.draw [8] (by kernel_rfl) (TA.a 0 z (moveI (.inl z) z) z (TA.b 1 z (indexArrN z underlying36 sz34 z z (by omega)) z (TA.b 2 z (loadWordAt z111 z ag34 z (j := 0) z (by omega) z) z (TA.a 3 z (moveI (.inl z) z) z (TA.b 4 z (indexArrN z underlying36 sz34 z z (by omega)) z (TA.b 5 z (loadWordAt x1 z ag34 z (j := 1) z (by omega) z) z (TA.a 6 z (andU z z z) z (TA.b 7 z (indexArrN z underlying36 sz34 z z (by omega)) z (TA.last 8 (by kernel_rfl) z z z (storeWord z sz34 z z z (by omega) u16 ?_))))))))))
  refine TZ.done (by kernel_rfl) (B.n (S.n (TC.region (TL.w z (OpVal.succ z z z (by omega)) (TL.i z z (TL.en ?_))))))
  obtain ⟨hh, hlt114⟩ := nxt_x hR1 hh
  exact lf (((BSet.setWord z111 k112 (u64and (BSet.word z111 k112) (BSet.word x1 k112))), (k112 + 1)), ()) hlt114 hh (Sub.f [2, 2, 2] 3)
 ·refine TC.exit (S.x (S.x ?_))
  replace hh := fin_x hR1 hh
  refine TC.exitHere (S.n (TC.a (TL.w z (loadAll z ag36 sz36 z (i := 0) z z) (TL.front 2 z z (TL.op z (storeAll z sz36 z z z z z z ?_))))))
  refine TL.en (TC.rt 1 ?_)
  obtain rfl := so hh
  exact ro [] z (RVs.agg ag36 sz36 z (i := 0) z z RVs.nil) ⟨z, z, z⟩

noncomputable def twin_comes (x0 : Arc) (x1 : UInt8) : Option ((List UInt8)) :=
 iteO x0.copy (grd (x0.out.length + [x1].length ≤ 9223372036854775807) (some (x0.out ++ [x1]))) (some x0.out)
theorem twin_comes_con {σ : Store} {x0 : Arc} {x1 : UInt8}  {r : (List UInt8)} (hh : twin_comes x0 x1 = some r) :
  Con Tryz.prog 47 #[.agg #[.int .i64 x0.frm, .int .i64 x0.to, .int .u64 ((x0.set.a : Nat) : Int), .int .u64 ((x0.set.b : Nat) : Int), .int .u64 ((x0.set.c : Nat) : Int), .int .u64 ((x0.set.d : Nat) : Int), .string (bs x0.out), .bool x0.copy], .int .u8 ((x1.toNat : Nat) : Int)] σ [] (PureP (.string (bs r)) σ) := by
 dsimp only [twin_comes] at hh
 refine Con.mk (n := 15) Tryz.func47 z z z (fun w0 => ?_)
 refine TC.a (TL.op z (boxA z z z z (fun b101 => ?_)))
 refine TL.w z (moveStr (.inr z) z) (TL.en (TC.seq (TC.a (TL.w z (fieldLoc z fo38_4 z) (TL.w z (loadLoc z ag4 z (i := 0) z z) (TL.en (TC.cB z hh (fun h103 hh => ?_) (fun h103 hh => ?_))))))))
 ·refine TC.a (TL.w z (fieldLoc z fo38_3 z) (TL.w z (loadLoc z ag9 z (i := 0) z z) (TL.i z z (TL.op z (OpOk.lit (enc := encU8) [x1] z underlying63 sz5 ze5 z z z encU8_len (by decide) (by decide) (0 : UInt8) z (by decide) z (by decide) encU8_one (fun a104 c105 => ?_))))))
  refine TL.isSl (i := 0) z (fun hs107 _ _ => ?_)
  refine TL.w z (bytesStr (l := [x1]) z underlying63 underlying5 underlying9 z hs107 (fun w hw => rdb_row (q := 0) z hw)) ?_
  have u10 := grd_c hh
  replace hh := grd_t hh
  refine TL.w z (catBs z z z u10) (TL.w z (moveStr (.inr z) z) (TL.en (TC.rt 0 (S.r ?_))))
  obtain rfl := so hh
  exact rq [4] ⟨z, z, z⟩
 ·refine TC.skip (S.n (TC.a (TL.w z (fieldLoc z fo38_3 z) (TL.w z (loadLoc z ag9 z (i := 0) z z) (TL.w z (moveStr (.inr z) z) (TL.en (TC.rt 0 ?_)))))))
  obtain rfl := so hh
  exact rq [4] ⟨z, z, z⟩

noncomputable def twin_by_1_j1 {Sy : Type} (k114 : Nat) (s121 : Sy) : Option ((Nat × Sy) ⊕ (Sy)) :=
 nxt ((k114 + 1), s121)
noncomputable def twin_by_1_b1 {Sy : Type} (v5 : BSet) (x1 : Arc) (x3 : TLag) (x2 : Arc) (Y : Sy → TLag → Option (Sy × Bool)) (k114 : Nat) (s115 : Sy) : Option ((Nat × Sy) ⊕ (Sy)) :=
 iteO (decide (((k114 : Nat) : Int) < 256)) (iteO (!(v5.has (toU8 ((k114 : Nat) : Int)).toNat)) (twin_by_1_j1 k114 s115) (bnd (twin_comes x1 (toU8 ((k114 : Nat) : Int))) (fun v23 => grd (x3.a.length + v23.length ≤ 9223372036854775807) (bnd (twin_comes x2 (toU8 ((k114 : Nat) : Int))) (fun v29 => grd (x3.b.length + v29.length ≤ 9223372036854775807) (bnd (text_Lag (x3.a ++ v23) (x3.b ++ v29)) (fun v31 => bnd (Y s115 (⟨x1.to, x2.to, v31.1, v31.2⟩ : TLag)) (fun v45 => iteO (!v45.2) (fin (some v45.1)) (iteO (!x1.copy) (iteO (!x2.copy) (fin (some v45.1)) (twin_by_1_j1 k114 v45.1)) (twin_by_1_j1 k114 v45.1)))))))))) (fin (some s115))
noncomputable def twin_by_1 {Sy : Type} (Y : Sy → TLag → Option (Sy × Bool)) (s0 : Sy) (x1 : Arc) (x2 : Arc) (x3 : TLag) : Option (Sy) :=
 bnd (set_Both x1.set x2.set) (fun v5 => iter (fun q : Nat × Sy => twin_by_1_b1 v5 x1 x3 x2 Y q.1 q.2) (0, s0))
theorem twin_by_1_con {Sy : Type} {σ : Store} {Y : Sy → TLag → Option (Sy × Bool)} {s0 : Sy} {x1 : Arc} {b1_0 : Nat} {Eb1 : Nat} {x2 : Arc} {b2_0 : Nat} {Eb2 : Nat} {x3 : TLag} {b3_0 : Nat} {Eb3 : Nat}  {r : Sy} (hh : twin_by_1 Y s0 x1 x2 x3 = some r) :
  IterOk Tryz.prog 44 [loc b1_0 0, loc b2_0 0, loc b3_0 0] (fun (x : TLag) _ vs => vs = [.agg #[.int .i64 x.p, .int .i64 x.q, .string (bs x.a), .string (bs x.b)]]) Y σ [Res.cells b1_0 #[.int .i64 x1.frm, .int .i64 x1.to, .int .u64 ((x1.set.a : Nat) : Int), .int .u64 ((x1.set.b : Nat) : Int), .int .u64 ((x1.set.c : Nat) : Int), .int .u64 ((x1.set.d : Nat) : Int), .string (bs x1.out), .bool x1.copy] Eb1, Res.cells b2_0 #[.int .i64 x2.frm, .int .i64 x2.to, .int .u64 ((x2.set.a : Nat) : Int), .int .u64 ((x2.set.b : Nat) : Int), .int .u64 ((x2.set.c : Nat) : Int), .int .u64 ((x2.set.d : Nat) : Int), .string (bs x2.out), .bool x2.copy] Eb2, Res.cells b3_0 #[.int .i64 x3.p, .int .i64 x3.q, .string (bs x3.a), .string (bs x3.b)] Eb3] s0 r (fun σ' H' => H' = [Res.cells b1_0 #[.int .i64 x1.frm, .int .i64 x1.to, .int .u64 ((x1.set.a : Nat) : Int), .int .u64 ((x1.set.b : Nat) : Int), .int .u64 ((x1.set.c : Nat) : Int), .int .u64 ((x1.set.d : Nat) : Int), .string (bs x1.out), .bool x1.copy] Eb1, Res.cells b2_0 #[.int .i64 x2.frm, .int .i64 x2.to, .int .u64 ((x2.set.a : Nat) : Int), .int .u64 ((x2.set.b : Nat) : Int), .int .u64 ((x2.set.c : Nat) : Int), .int .u64 ((x2.set.d : Nat) : Int), .string (bs x2.out), .bool x2.copy] Eb2, Res.cells b3_0 #[.int .i64 x3.p, .int .i64 x3.q, .string (bs x3.a), .string (bs x3.b)] Eb3]) := by
 intro l Z ry0 hY hys
 dsimp only [twin_by_1] at hh
 refine Con.mk (n := 61) Tryz.func44 z z z (fun w0 => ?_)
 refine TC.weakR (TC.a (TL.w z (fieldLoc z fo38_2 z) (TL.w z (loadLocA z ag36 sz36 z (i := 1) z z z) (TL.w z (fieldLoc z fo38_2 z) (TL.w z (loadLocA z ag36 sz36 z (i := 2) z z z) ?_)))))
 obtain ⟨v5, u5, hh⟩ := bnd_e hh
 refine TL.op z (callP (set_Both_con u5) z z pf45 z z z ?_)
 refine TL.op z (OpOk.alloc z ze36 z z (fun b104 => ?_))
 refine TL.op z (storeAll z sz36 z z z z z z ?_)
 refine TL.en (TC.a (TL.i z z (TL.en (TC.block (TC.loopG (α := (Nat × Sy) × (Res × Store)) (rgs [(6, 4), (15, 46)]) (fun g => [(15, .int .i64 ((g.1.1 : Nat) : Int))]) (fun g => [Res.cells b1_0 #[.int .i64 x1.frm, .int .i64 x1.to, .int .u64 ((x1.set.a : Nat) : Int), .int .u64 ((x1.set.b : Nat) : Int), .int .u64 ((x1.set.c : Nat) : Int), .int .u64 ((x1.set.d : Nat) : Int), .string (bs x1.out), .bool x1.copy] Eb1, Res.cells b2_0 #[.int .i64 x2.frm, .int .i64 x2.to, .int .u64 ((x2.set.a : Nat) : Int), .int .u64 ((x2.set.b : Nat) : Int), .int .u64 ((x2.set.c : Nat) : Int), .int .u64 ((x2.set.d : Nat) : Int), .string (bs x2.out), .bool x2.copy] Eb2, Res.cells b3_0 #[.int .i64 x3.p, .int .i64 x3.q, .string (bs x3.a), .string (bs x3.b)] Eb3, Res.cells b104 (setA v5) 36, g.2.1]) (fun g => g.2.2) (fun g => iter (fun q : Nat × Sy => twin_by_1_b1 v5 x1 x3 x2 Y q.1 q.2) g.1 = some r ∧ YR Z g.1.2 g.2.2 g.2.1 ∧ Store.le σ g.2.2) (fun g => rounds (fun q : Nat × Sy => twin_by_1_b1 v5 x1 x3 x2 Y q.1 q.2) g.1) ((0, s0), (ry0, σ)) (Sub.f [1, 1, 4, 4, 4] 5) z (by repeat (first | exact trivial | refine ⟨z, ?_⟩)) ⟨hh, hys, (Store.le.refl _)⟩ (fun g1 j1 hg1 => ?_))))))
 obtain ⟨⟨k114, s115⟩, ⟨ry116, τ118⟩⟩ := g1
 obtain ⟨hh, hy117, hle119⟩ := hg1
 try dsimp only at hy117 hle119 ⊢
 obtain ⟨z1, hh, hR1⟩ := iter_e hh
 dsimp only [twin_by_1_b1] at hh
 skip
 refine TC.a (TL.w z (OpVal.lss z z z) (TL.en (TC.seq (TC.cD z hh (fun h120 hh => ?_) (fun h120 hh => ?_)))))
 ·refine TC.skip (S.n (TC.cutG (α := (Sy) × (Res × Store)) (rgs [(6, 4), (17, 43)]) (fun g => []) (fun g => [Res.cells b1_0 #[.int .i64 x1.frm, .int .i64 x1.to, .int .u64 ((x1.set.a : Nat) : Int), .int .u64 ((x1.set.b : Nat) : Int), .int .u64 ((x1.set.c : Nat) : Int), .int .u64 ((x1.set.d : Nat) : Int), .string (bs x1.out), .bool x1.copy] Eb1, Res.cells b2_0 #[.int .i64 x2.frm, .int .i64 x2.to, .int .u64 ((x2.set.a : Nat) : Int), .int .u64 ((x2.set.b : Nat) : Int), .int .u64 ((x2.set.c : Nat) : Int), .int .u64 ((x2.set.d : Nat) : Int), .string (bs x2.out), .bool x2.copy] Eb2, Res.cells b3_0 #[.int .i64 x3.p, .int .i64 x3.q, .string (bs x3.a), .string (bs x3.b)] Eb3, Res.cells b104 (setA v5) 36, g.2.1]) (fun g => g.2.2) (fun g => twin_by_1_j1 k114 g.1 = some z1 ∧ YR Z g.1 g.2.2 g.2.1 ∧ Store.le τ118 g.2.2) ?_ (fun g j hg => ?_)))
  ·skip
   refine TC.block (TC.a (TL.i z z (TL.i z z (TL.en (TC.a (TL.i z z (TL.w z (convU8 z underlying3 underlying5 z) (TL.i z z (TL.en (TC.seq (TC.a (TL.w z (loadAll z ag36 sz36 z (i := 3) z z) (TL.i z z (TL.op z (callP (has_con _ v5 (toU8 ((k114 : Nat) : Int)).toNat (BSet.isOk _) (UInt8.toNat_lt _)) z z pf46 z z z ?_)))))))))))))))
   refine TL.w z (OpVal.not z z) (TL.en (TC.cB z hh (fun h124 hh => ?_) (fun h124 hh => ?_)))
   ·exact TC.exit (S.x (TC.exitHere (S.n (cf (s115, (ry116, τ118)) ⟨hh, hy117, (Store.le.refl _)⟩ (Sub.f [4, 4, 4, 4, 4] 5)))))
   ·refine TC.skip (S.n (TC.seq ?_))
    obtain ⟨v23, u23, hh⟩ := bnd_e hh
    have u24 := grd_c hh
    replace hh := grd_t hh
    obtain ⟨v29, u29, hh⟩ := bnd_e hh
    have u30 := grd_c hh
    replace hh := grd_t hh
    obtain ⟨v31, u31, hh⟩ := bnd_e hh
    refine TC.draw [] (by kernel_rfl) (TA.a 0 z (fieldLoc z fo71_2 z) z (TA.b 1 z (loadLoc z ag9 z (i := 2) z z) z (TA.b 2 z (loadAll z ag38 sz38 z (i := 0) z z) z (TA.a 3 z (moveI (.inl z) z) z (TA.a 6 z (fieldLoc z fo71_3 z) z (TA.b 7 z (loadLoc z ag9 z (i := 2) z z) z (TA.b 8 z (loadAll z ag38 sz38 z (i := 1) z z) z (TA.a 9 z (moveI (.inl z) z) z (TA.ac 4 z (callP (twin_comes_con u23) z z pf47 z z z (k0 ?_)))))))))))
    refine TA.a 5 z (catBs z z z u24) z (TA.ac 10 z (callP (twin_comes_con u29) z z pf47 z z z (k0 ?_)))
    refine TA.a 11 z (catBs z z z u30) z (TA.ac 12 z (callP (text_Lag_con u31) z z pf31 z z z (k0 ?_)))
    refine TA.a 13 z (moveT (.inl z) z) z (TA.a 14 z (OpVal.extract z z z) z (TA.a 15 z (OpVal.extract z z z) z (TA.a 16 z (moveStr (.inr z) z) z (TA.a 17 z (moveStr (.inr z) z) z (TA.dn (S.n (TC.a (TL.w z (OpVal.mv (.inl z)) (TL.w z (fieldLoc z fo38_1 z) (TL.w z (loadLoc z ag3 z (i := 0) z z) (TL.w z (fieldLoc z fo38_1 z) (TL.w z (loadLoc z ag3 z (i := 1) z z) (TL.w z (moveStr (.inl z) z) (TL.w z (moveStr (.inl z) z) (TL.w z (buildL z pl71 ze71 z) ?_)))))))))))))))
    obtain ⟨v45, u45, hh⟩ := bnd_e hh
    refine TL.front 4 z z (TL.op z (callY hY hy117 u45 z z z z z z ?_))
    rintro τ125 ry125 hle125 hy125
    refine TL.w z (OpVal.not z z) (TL.j z z (TL.split 50 z (fun h126 => ?_) (fun h126 => ?_)))
    ·replace hh := iteO_t h126 hh
     refine TL.f z (TL.f z (TL.f z (TL.f z (TL.f z (TL.f z (TL.f z (TL.f z (TL.w z (pickTB z z z) (TL.en (TC.t z (TC.ofSub (Sub.f [3, 3, 3, 3] 4) (TC.ret (B.r (S.r (S.r ?_)))))))))))))))
     replace hh := fin_x hR1 hh
     refine B.r ?_
     obtain rfl := so hh
     refine ⟨_, Sub.f [3, 3, 3, 3] 4, ?_⟩
     exact ro [ry125, Res.cells b1_0 #[.int .i64 x1.frm, .int .i64 x1.to, .int .u64 ((x1.set.a : Nat) : Int), .int .u64 ((x1.set.b : Nat) : Int), .int .u64 ((x1.set.c : Nat) : Int), .int .u64 ((x1.set.d : Nat) : Int), .string (bs x1.out), .bool x1.copy] Eb1, Res.cells b2_0 #[.int .i64 x2.frm, .int .i64 x2.to, .int .u64 ((x2.set.a : Nat) : Int), .int .u64 ((x2.set.b : Nat) : Int), .int .u64 ((x2.set.c : Nat) : Int), .int .u64 ((x2.set.d : Nat) : Int), .string (bs x2.out), .bool x2.copy] Eb2, Res.cells b3_0 #[.int .i64 x3.p, .int .i64 x3.q, .string (bs x3.a), .string (bs x3.b)] Eb3] z RVs.nil ⟨_, _, z, hy125, z⟩
    ·replace hh := iteO_f h126 hh
     refine TL.g z (fieldLoc z fo38_4 z) (TL.g z (loadLoc z ag4 z (i := 1) z z) (TL.g z (OpVal.not z z) (TL.g z (moveB (.inl z) z) (TL.split 54 z (fun h127 => ?_) (fun h127 => ?_)))))
     ·replace hh := iteO_t h127 hh
      refine TL.g z (fieldLoc z fo38_4 z) (TL.g z (loadLoc z ag4 z (i := 2) z z) (TL.g z (OpVal.not z z) (TL.g z (pickTB z z z) (TL.w z (pickFB z z z) (TL.en (TC.cB z hh (fun h128 hh => ?_) (fun h128 hh => ?_)))))))
      ·refine TC.ofSub (Sub.f [3, 3, 3, 3] 4) (TC.ret (B.r (S.r (S.r ?_))))
       replace hh := fin_x hR1 hh
       refine B.r ?_
       obtain rfl := so hh
       refine ⟨_, Sub.f [3, 3, 3, 3] 4, ?_⟩
       exact ro [ry125, Res.cells b1_0 #[.int .i64 x1.frm, .int .i64 x1.to, .int .u64 ((x1.set.a : Nat) : Int), .int .u64 ((x1.set.b : Nat) : Int), .int .u64 ((x1.set.c : Nat) : Int), .int .u64 ((x1.set.d : Nat) : Int), .string (bs x1.out), .bool x1.copy] Eb1, Res.cells b2_0 #[.int .i64 x2.frm, .int .i64 x2.to, .int .u64 ((x2.set.a : Nat) : Int), .int .u64 ((x2.set.b : Nat) : Int), .int .u64 ((x2.set.c : Nat) : Int), .int .u64 ((x2.set.d : Nat) : Int), .string (bs x2.out), .bool x2.copy] Eb2, Res.cells b3_0 #[.int .i64 x3.p, .int .i64 x3.q, .string (bs x3.a), .string (bs x3.b)] Eb3] z RVs.nil ⟨_, _, z, hy125, z⟩
      ·exact TC.skip (B.n (S.n (cf (v45.1, (ry125, τ125)) ⟨hh, hy125, hle125⟩ (Sub.f [4, 4, 4, 4] 5))))
     ·replace hh := iteO_f h127 hh
      exact TL.f z (TL.f z (TL.f z (TL.g z (pickFB z z z) (TL.w z (pickFB z z z) (TL.en (TC.f z (TC.skip (B.n (S.n (cf (v45.1, (ry125, τ125)) ⟨hh, hy125, hle125⟩ (Sub.f [4, 4, 4, 4] 5)))))))))))
  ·skip
   obtain ⟨s121, ⟨ry122, τ129⟩⟩ := g
   obtain ⟨hh, hy123, hle130⟩ := hg
   try dsimp only at hy123
   dsimp only at hle130
   replace hy117 := hy117.mono hle130
   try dsimp only
   dsimp only [twin_by_1_j1] at hh
   skip
   refine TC.region (TL.w z (OpVal.succ z z z (by omega)) (TL.i z z (TL.en ?_)))
   obtain ⟨hh, hlt131⟩ := nxt_x hR1 hh
   exact lf (((k114 + 1), s121), (ry122, τ129)) hlt131 ⟨hh, hy123, (hle119.trans hle130)⟩ (Sub.f [4, 4, 4, 4, 4] 5)
 ·refine TC.exit (S.x (S.x ?_))
  replace hh := fin_x hR1 hh
  refine TC.exitHere ?_
  obtain rfl := so hh
  refine ⟨_, Sub.f [2, 2, 2, 4] 4, ?_⟩
  exact RetOk.mk' (rs := []) [ry116, Res.cells b1_0 #[.int .i64 x1.frm, .int .i64 x1.to, .int .u64 ((x1.set.a : Nat) : Int), .int .u64 ((x1.set.b : Nat) : Int), .int .u64 ((x1.set.c : Nat) : Int), .int .u64 ((x1.set.d : Nat) : Int), .string (bs x1.out), .bool x1.copy] Eb1, Res.cells b2_0 #[.int .i64 x2.frm, .int .i64 x2.to, .int .u64 ((x2.set.a : Nat) : Int), .int .u64 ((x2.set.b : Nat) : Int), .int .u64 ((x2.set.c : Nat) : Int), .int .u64 ((x2.set.d : Nat) : Int), .string (bs x2.out), .bool x2.copy] Eb2, Res.cells b3_0 #[.int .i64 x3.p, .int .i64 x3.q, .string (bs x3.a), .string (bs x3.b)] Eb3] z (.inr z) RVs.nil (List.sublist_append_left _ _) ⟨_, _, z, hy117, z⟩

noncomputable def twin_by (x0 : TLag) (x1 : Arc) (x2 : Arc) : Option ((Arc × Arc × TLag)) :=
 some (x1, x2, x0)
theorem twin_by_con {σ : Store} {x0 : TLag} {x1 : Arc} {x2 : Arc}  {r : (Arc × Arc × TLag)} (hh : twin_by x0 x1 x2 = some r) :
  Con Tryz.prog 33 #[.agg #[.int .i64 x0.p, .int .i64 x0.q, .string (bs x0.a), .string (bs x0.b)], .agg #[.int .i64 x1.frm, .int .i64 x1.to, .int .u64 ((x1.set.a : Nat) : Int), .int .u64 ((x1.set.b : Nat) : Int), .int .u64 ((x1.set.c : Nat) : Int), .int .u64 ((x1.set.d : Nat) : Int), .string (bs x1.out), .bool x1.copy], .agg #[.int .i64 x2.frm, .int .i64 x2.to, .int .u64 ((x2.set.a : Nat) : Int), .int .u64 ((x2.set.b : Nat) : Int), .int .u64 ((x2.set.c : Nat) : Int), .int .u64 ((x2.set.d : Nat) : Int), .string (bs x2.out), .bool x2.copy]] σ [] (fun v σ' H' => ∃ (br1 : Nat), ∃ (br2 : Nat), ∃ (br3 : Nat), v = .func (.func 44) #[] #[loc br1 0, loc br2 0, loc br3 0] ∧ σ = σ' ∧ H' = [Res.cells br1 #[.int .i64 r.1.frm, .int .i64 r.1.to, .int .u64 ((r.1.set.a : Nat) : Int), .int .u64 ((r.1.set.b : Nat) : Int), .int .u64 ((r.1.set.c : Nat) : Int), .int .u64 ((r.1.set.d : Nat) : Int), .string (bs r.1.out), .bool r.1.copy] 38, Res.cells br2 #[.int .i64 r.2.1.frm, .int .i64 r.2.1.to, .int .u64 ((r.2.1.set.a : Nat) : Int), .int .u64 ((r.2.1.set.b : Nat) : Int), .int .u64 ((r.2.1.set.c : Nat) : Int), .int .u64 ((r.2.1.set.d : Nat) : Int), .string (bs r.2.1.out), .bool r.2.1.copy] 38, Res.cells br3 #[.int .i64 r.2.2.p, .int .i64 r.2.2.q, .string (bs r.2.2.a), .string (bs r.2.2.b)] 71]) := by
 dsimp only [twin_by] at hh
 refine Con.mk (n := 8) Tryz.func33 z z z (fun w0 => ?_)
 refine TC.a (TL.op z (boxA z z z z (fun b104 => ?_)))
 refine TL.op z (boxA z z z z (fun b106 => ?_))
 refine TL.op z (boxA z z z z (fun b108 => ?_))
 refine TL.w z (OpVal.mv (.inr z)) (TL.en (TC.a (TL.w z (makeFn z) (TL.w z (moveFn (.inr z) z) (TL.en (TC.ofSub (Sub.f [2, 1, 2] 3) (TC.ret ?_)))))))
 obtain rfl := so hh
 exact ro [Res.cells b106 #[.int .i64 x1.frm, .int .i64 x1.to, .int .u64 ((x1.set.a : Nat) : Int), .int .u64 ((x1.set.b : Nat) : Int), .int .u64 ((x1.set.c : Nat) : Int), .int .u64 ((x1.set.d : Nat) : Int), .string (bs x1.out), .bool x1.copy] 38, Res.cells b108 #[.int .i64 x2.frm, .int .i64 x2.to, .int .u64 ((x2.set.a : Nat) : Int), .int .u64 ((x2.set.b : Nat) : Int), .int .u64 ((x2.set.c : Nat) : Int), .int .u64 ((x2.set.d : Nat) : Int), .string (bs x2.out), .bool x2.copy] 38, Res.cells b104 #[.int .i64 x0.p, .int .i64 x0.q, .string (bs x0.a), .string (bs x0.b)] 71] z (RVs.tmp z RVs.nil) ⟨b106, b108, b104, z, z, z⟩

noncomputable def twin_walk_first_1_b2 {Sy : Type} (x1 : Walk) (k114 : Nat) (Y : Sy → TLag → Option (Sy × Bool)) (k131 : Nat) (s132 : Sy) : Option ((Nat × Sy) ⊕ ((Nat × Sy) ⊕ (Sy))) :=
 iteO (decide (((k131 : Nat) : Int) < ((x1.t.starts.length : Nat) : Int))) (bnd (text_Lag ((nth x1.t.starts k114 Tip.zero).out) ((nth x1.t.starts k131 Tip.zero).out)) (fun v29 => bnd (Y s132 (⟨(nth x1.t.starts k114 Tip.zero).state, (nth x1.t.starts k131 Tip.zero).state, v29.1, v29.2⟩ : TLag)) (fun v43 => iteO (!v43.2) (fin (fin (some v43.1))) (nxt ((k131 + 1), v43.1))))) (fin (nxt ((k114 + 1), s132)))
noncomputable def twin_walk_first_1_b1 {Sy : Type} (x1 : Walk) (Y : Sy → TLag → Option (Sy × Bool)) (k114 : Nat) (s115 : Sy) : Option ((Nat × Sy) ⊕ (Sy)) :=
 iteO (decide (((k114 : Nat) : Int) < ((x1.t.starts.length : Nat) : Int))) (iter (fun q : Nat × Sy => twin_walk_first_1_b2 x1 k114 Y q.1 q.2) (0, s115)) (fin (some s115))
noncomputable def twin_walk_first_1 {Sy : Type} (Y : Sy → TLag → Option (Sy × Bool)) (s0 : Sy) (x1 : Walk) : Option (Sy) :=
 iter (fun q : Nat × Sy => twin_walk_first_1_b1 x1 Y q.1 q.2) (0, s0)
theorem twin_walk_first_1_con {Sy : Type} {σ : Store} {Y : Sy → TLag → Option (Sy × Bool)} {s0 : Sy} {x1 : Walk} {b1_0 : Nat} {Eb1 : Nat} {b1_1 : Nat} {Eb1_2 : Nat} {a1_4 : Option Addr} {c1_5 : Nat} {a1_7 : Option Addr} {c1_8 : Nat} {a1_10 : Option Addr} {c1_11 : Nat} {a1_13 : Option Addr} {c1_14 : Nat} {m1_16 : Option Nat} (h1_3 : SC σ b1_1 #[.int .i64 x1.t.states, .slice a1_4 x1.t.starts.length c1_5, .slice a1_7 x1.t.ends.length c1_8, .slice a1_10 x1.t.arcs.length c1_11, .slice a1_13 x1.arcs.length c1_14, .int .i64 x1.most, .map m1_16] Eb1_2) (f1_6 : RS σ 2 encTip (.slice a1_4 x1.t.starts.length c1_5) x1.t.starts) (f1_9 : RS σ 2 encTip (.slice a1_7 x1.t.ends.length c1_8) x1.t.ends) (f1_12 : RS σ 8 encArc (.slice a1_10 x1.t.arcs.length c1_11) x1.t.arcs) (f1_15 : RZ σ (pkSl 8 encArc encArc_len) (.slice a1_13 x1.arcs.length c1_14) x1.arcs) {r : Sy} (hh : twin_walk_first_1 Y s0 x1 = some r) :
  IterOk Tryz.prog 30 [loc b1_0 0] (fun (x : TLag) _ vs => vs = [.agg #[.int .i64 x.p, .int .i64 x.q, .string (bs x.a), .string (bs x.b)]]) Y σ [Res.cells b1_0 #[loc b1_1 0] Eb1] s0 r (fun σ' H' => H' = [Res.cells b1_0 #[loc b1_1 0] Eb1]) := by
 intro l Z ry0 hY hys
 dsimp only [twin_walk_first_1] at hh
 skip
 have f1_6b := f1_6.rv.big
 have f1_9b := f1_9.rv.big
 have f1_12b := f1_12.rv.big
 have f1_15b := f1_15.big
 refine Con.mk (n := 49) Tryz.func30 z z z (fun w0 => ?_)
 refine TC.weakR (TC.a (TL.w z (loadLoc z ag45 z (i := 1) z z) (TL.w z (nilCheckLoc z z) (TL.w z (fieldLoc z fo49_0 z) (TL.w z (fieldLoc z fo25_1 z) (TL.w z (OpVal.seen (SC.sees h1_3) (loadLoc z ag22 z (i := 0) z z)) (TL.w z (lenC z underlying22 z) (TL.i z z (TL.en (TC.block (TC.loopG (α := (Nat × Sy) × (Res × Store)) (rgs [(4, 1), (6, 3), (15, 34)]) (fun g => [(15, .int .i64 ((g.1.1 : Nat) : Int))]) (fun g => [Res.cells b1_0 #[loc b1_1 0] Eb1, g.2.1]) (fun g => g.2.2) (fun g => iter (fun q : Nat × Sy => twin_walk_first_1_b1 x1 Y q.1 q.2) g.1 = some r ∧ YR Z g.1.2 g.2.2 g.2.1 ∧ Store.le σ g.2.2) (fun g => rounds (fun q : Nat × Sy => twin_walk_first_1_b1 x1 Y q.1 q.2) g.1) ((0, s0), (ry0, σ)) (Sub.f [1] 2) z (by repeat (first | exact trivial | refine ⟨z, ?_⟩)) ⟨hh, hys, (Store.le.refl _)⟩ (fun g1 j1 hg1 => ?_))))))))))))
 obtain ⟨⟨k114, s115⟩, ⟨ry116, τ118⟩⟩ := g1
 obtain ⟨hh, hy117, hle119⟩ := hg1
 try dsimp only at hy117
 dsimp only at hle119
 replace h1_3 := h1_3.mono hle119
 replace f1_6 := f1_6.mono hle119
 try dsimp only
 obtain ⟨z1, hh, hR1⟩ := iter_e hh
 dsimp only [twin_walk_first_1_b1] at hh
 skip
 refine TC.a (TL.w z (OpVal.lss z z z) (TL.en (TC.seq (TC.cD z hh (fun h120 hh => ?_) (fun h120 hh => ?_)))))
 ·refine TC.skip (S.n (TC.seq (TC.block (TC.a (TL.w z (indexN z underlying22 sz43 z z f1_6.rv.sl (by omega)) (TL.w z (loadSA Tip.zero z ag43 sz43 z f1_6 (by omega) (by omega)) (TL.op z (OpOk.alloc z ze43 z z (fun b121 => ?_)))))))))
  refine TL.op z (storeAll z sz43 z z z z z z ?_)
  refine TL.en (TC.a (TL.w z (loadLoc z ag45 z (i := 1) z z) (TL.w z (nilCheckLoc z z) (TL.w z (fieldLoc z fo49_0 z) (TL.w z (fieldLoc z fo25_1 z) (TL.w z (OpVal.seen (SC.sees h1_3) (loadLoc z ag22 z (i := 0) z z)) (TL.w z (lenC z underlying22 z) (TL.i z z (TL.en (TC.block (TC.loopG (α := (Nat × Sy) × (Res × Store)) (rgs [(6, 3), (25, 23)]) (fun g => [(25, .int .i64 ((g.1.1 : Nat) : Int))]) (fun g => [Res.cells b1_0 #[loc b1_1 0] Eb1, Res.cells b121 #[.int .i64 ((nth x1.t.starts k114 Tip.zero).state), .string (bs ((nth x1.t.starts k114 Tip.zero).out))] 43, g.2.1]) (fun g => g.2.2) (fun g => iter (fun q : Nat × Sy => twin_walk_first_1_b2 x1 k114 Y q.1 q.2) g.1 = some z1 ∧ YR Z g.1.2 g.2.2 g.2.1 ∧ Store.le τ118 g.2.2) (fun g => rounds (fun q : Nat × Sy => twin_walk_first_1_b2 x1 k114 Y q.1 q.2) g.1) ((0, s115), (ry116, τ118)) (Sub.f [2, 1, 2] 3) z (by repeat (first | exact trivial | refine ⟨z, ?_⟩)) ⟨hh, hy117, (Store.le.refl _)⟩ (fun g2 j2 hg2 => ?_))))))))))))
  obtain ⟨⟨k131, s132⟩, ⟨ry133, τ135⟩⟩ := g2
  obtain ⟨hh, hy134, hle136⟩ := hg2
  try dsimp only at hy134
  dsimp only at hle136
  replace f1_6 := f1_6.mono hle136
  replace hy117 := hy117.mono hle136
  try dsimp only
  obtain ⟨z2, hh, hR2⟩ := iter_e hh
  dsimp only [twin_walk_first_1_b2] at hh
  skip
  refine TC.a (TL.w z (OpVal.lss z z z) (TL.en (TC.seq (TC.cD z hh (fun h137 hh => ?_) (fun h137 hh => ?_)))))
  ·refine TC.skip (S.n (TC.seq (TC.block (TC.a (TL.w z (indexN z underlying22 sz43 z z f1_6.rv.sl (by omega)) (TL.w z (loadSA Tip.zero z ag43 sz43 z f1_6 (by omega) (by omega)) (TL.op z (OpOk.alloc z ze43 z z (fun b138 => ?_)))))))))
   refine TL.op z (storeAll z sz43 z z z z z z ?_)
   refine TL.en (TC.a (TL.w z (fieldLoc z fo43_1 z) (TL.w z (loadLoc z ag9 z (i := 2) z z) (TL.w z (fieldLoc z fo43_1 z) (TL.w z (loadLoc z ag9 z (i := 0) z z) ?_)))))
   obtain ⟨v29, u29, hh⟩ := bnd_e hh
   refine TL.op z (callP (text_Lag_con u29) z z pf31 z z z ?_)
   refine TL.w z (moveT (.inl z) z) (TL.w z (OpVal.extract z z z) (TL.w z (OpVal.extract z z z) (TL.w z (moveStr (.inr z) z) (TL.w z (moveStr (.inr z) z) (TL.en (TC.a (TL.w z (OpVal.mv (.inl z)) (TL.w z (fieldLoc z fo43_0 z) (TL.w z (loadLoc z ag3 z (i := 2) z z) (TL.w z (fieldLoc z fo43_0 z) (TL.w z (loadLoc z ag3 z (i := 0) z z) (TL.w z (moveStr (.inl z) z) (TL.w z (moveStr (.inl z) z) (TL.w z (buildL z pl71 ze71 z) ?_))))))))))))))
   obtain ⟨v43, u43, hh⟩ := bnd_e hh
   refine TL.front 3 z z (TL.op z (callY hY hy134 u43 z z z z z z ?_))
   rintro τ140 ry140 hle140 hy140
   replace hy117 := hy117.mono hle140
   refine TL.w z (OpVal.not z z) (TL.en (TC.cB z hh (fun h141 hh => ?_) (fun h141 hh => ?_)))
   ·refine TC.ofSub (Sub.f [2, 1] 2) (TC.ret (B.r (S.r (S.r ?_))))
    replace hh := fin_x hR2 hh
    refine B.r (B.r (S.r (S.r ?_)))
    replace hh := fin_x hR1 hh
    refine B.r ?_
    obtain rfl := so hh
    refine ⟨_, Sub.f [1, 1] 2, ?_⟩
    exact ro [ry140, Res.cells b1_0 #[loc b1_1 0] Eb1] z RVs.nil ⟨_, _, z, hy140, z⟩
   ·refine TC.skip (B.n (S.n (TC.region (TL.w z (OpVal.succ z z z (by omega)) (TL.i z z (TL.en ?_))))))
    obtain ⟨hh, hlt142⟩ := nxt_x hR2 hh
    exact lf (((k131 + 1), v43.1), (ry140, τ140)) hlt142 ⟨hh, hy140, (hle136.trans hle140)⟩ (Sub.f [3, 3] 3)
  ·refine TC.exit (S.x (S.x ?_))
   replace hh := fin_x hR2 hh
   refine TC.exitHere (B.n (S.n (TC.region (TL.w z (OpVal.succ z z z (by omega)) (TL.i z z (TL.en ?_))))))
   obtain ⟨hh, hlt143⟩ := nxt_x hR1 hh
   exact lf (((k114 + 1), s132), (ry133, τ135)) hlt143 ⟨hh, hy134, (hle119.trans hle136)⟩ (Sub.f [2, 1] 2)
 ·refine TC.exit (S.x (S.x ?_))
  replace hh := fin_x hR1 hh
  refine TC.exitHere ?_
  obtain rfl := so hh
  refine ⟨_, Sub.f [1] 2, ?_⟩
  exact RetOk.mk' (rs := []) [ry116, Res.cells b1_0 #[loc b1_1 0] Eb1] z (.inr z) RVs.nil (List.sublist_append_left _ _) ⟨_, _, z, hy117, z⟩

noncomputable def twin_walk_first (x0 : Walk) : Option (Walk) :=
 some (⟨(⟨x0.t.states, x0.t.starts, x0.t.ends, x0.t.arcs⟩ : Fst), x0.arcs, x0.most⟩ : Walk)
theorem twin_walk_first_con {σ : Store} {x0 : Walk} {b0_1 : Nat} {Eb0_2 : Nat} {a0_4 : Option Addr} {c0_5 : Nat} {a0_7 : Option Addr} {c0_8 : Nat} {a0_10 : Option Addr} {c0_11 : Nat} {a0_13 : Option Addr} {c0_14 : Nat} {m0_16 : Option Nat} (h0_3 : SC σ b0_1 #[.int .i64 x0.t.states, .slice a0_4 x0.t.starts.length c0_5, .slice a0_7 x0.t.ends.length c0_8, .slice a0_10 x0.t.arcs.length c0_11, .slice a0_13 x0.arcs.length c0_14, .int .i64 x0.most, .map m0_16] Eb0_2) (f0_6 : RS σ 2 encTip (.slice a0_4 x0.t.starts.length c0_5) x0.t.starts) (f0_9 : RS σ 2 encTip (.slice a0_7 x0.t.ends.length c0_8) x0.t.ends) (f0_12 : RS σ 8 encArc (.slice a0_10 x0.t.arcs.length c0_11) x0.t.arcs) (f0_15 : RZ σ (pkSl 8 encArc encArc_len) (.slice a0_13 x0.arcs.length c0_14) x0.arcs) {r : Walk} (hh : twin_walk_first x0 = some r) :
  Con Tryz.prog 17 #[loc b0_1 0] σ [] (fun v σ' H' => ∃ (br17 : Nat), ∃ (br1 : Nat), ∃ (Ebr2 : Nat), ∃ (ar4 : Option Addr), ∃ (cr5 : Nat), ∃ (ar7 : Option Addr), ∃ (cr8 : Nat), ∃ (ar10 : Option Addr), ∃ (cr11 : Nat), ∃ (ar13 : Option Addr), ∃ (cr14 : Nat), ∃ (mr16 : Option Nat), v = .func (.func 30) #[] #[loc br17 0] ∧ SC σ' br1 #[.int .i64 r.t.states, .slice ar4 r.t.starts.length cr5, .slice ar7 r.t.ends.length cr8, .slice ar10 r.t.arcs.length cr11, .slice ar13 r.arcs.length cr14, .int .i64 r.most, .map mr16] Ebr2 ∧ RS σ' 2 encTip (.slice ar4 r.t.starts.length cr5) r.t.starts ∧ RS σ' 2 encTip (.slice ar7 r.t.ends.length cr8) r.t.ends ∧ RS σ' 8 encArc (.slice ar10 r.t.arcs.length cr11) r.t.arcs ∧ RZ σ' (pkSl 8 encArc encArc_len) (.slice ar13 r.arcs.length cr14) r.arcs ∧ H' = [Res.cells br17 #[loc br1 0] 45]) := by
 dsimp only [twin_walk_first] at hh
 skip
 have f0_6b := f0_6.rv.big
 have f0_9b := f0_9.rv.big
 have f0_12b := f0_12.rv.big
 have f0_15b := f0_15.big
 refine Con.mk (n := 4) Tryz.func17 z z z (fun w0 => ?_)
 refine TC.a (TL.op z (OpOk.box z z z z (fun b110 => ?_)))
 refine TL.w z (OpVal.mv (.inr z)) (TL.en (TC.a (TL.w z (makeFn z) (TL.w z (moveFn (.inr z) z) (TL.en (TC.ret ?_))))))
 obtain rfl := so hh
 exact ro [Res.cells b110 #[loc b0_1 0] 45] z (RVs.tmp z RVs.nil) ⟨b110, b0_1, Eb0_2, a0_4, c0_5, a0_7, c0_8, a0_10, c0_11, a0_13, c0_14, m0_16, z, h0_3, f0_6, f0_9, f0_12, f0_15, z⟩

noncomputable def twin_walk_next_1_r512 {Sy : Type} (Y : Sy → TLag → Option (Sy × Bool)) (s175 : Sy) (y512_0 : TLag) : Option (Nat × Sy) :=
 bnd (Y s175 y512_0) (fun v48 => iteO (!v48.2) (some (1, v48.1)) (some (0, v48.1)))
noncomputable def twin_walk_next_1_k512 {Sy : Type} (k156 : Nat) (jz : Nat) (s175 : Sy) : Option ((Nat × Sy) ⊕ ((Nat × Sy) ⊕ ((Nat × Sy) ⊕ (Sy)))) :=
 jsel jz (nxt ((k156 + 1), s175)) (fun j_ => jsel j_ (fin (fin (fin (some s175)))) (fun _ => none))
noncomputable def twin_walk_next_1_b3 {Sy : Type} (x2 : Walk) (x1 : List TLag) (k118 : Nat) (k137 : Nat) (Y : Sy → TLag → Option (Sy × Bool)) (k156 : Nat) (s157 : Sy) : Option ((Nat × Sy) ⊕ ((Nat × Sy) ⊕ ((Nat × Sy) ⊕ (Sy)))) :=
 iteO (decide (((k156 : Nat) : Int) < (((nth x2.arcs (((nth x1 k118 TLag.zero).q).toNat) ([] : List Arc)).length : Nat) : Int))) (bnd (twin_by (nth x1 k118 TLag.zero) (nth (nth x2.arcs (((nth x1 k118 TLag.zero).p).toNat) ([] : List Arc)) k137 Arc.zero) (nth (nth x2.arcs (((nth x1 k118 TLag.zero).q).toNat) ([] : List Arc)) k156 Arc.zero)) (fun v43 => bnd (twin_by_1 (stepY (fun (q : Sy) (x : TLag) => twin_walk_next_1_r512 Y q x)) (0, s157) v43.1 v43.2.1 v43.2.2) (fun zr512 => twin_walk_next_1_k512 k156 zr512.1 zr512.2))) (fin (nxt ((k137 + 1), s157)))
noncomputable def twin_walk_next_1_b2 {Sy : Type} (x2 : Walk) (x1 : List TLag) (k118 : Nat) (Y : Sy → TLag → Option (Sy × Bool)) (k137 : Nat) (s138 : Sy) : Option ((Nat × Sy) ⊕ ((Nat × Sy) ⊕ (Sy))) :=
 iteO (decide (((k137 : Nat) : Int) < (((nth x2.arcs (((nth x1 k118 TLag.zero).p).toNat) ([] : List Arc)).length : Nat) : Int))) (grd (0 ≤ ((nth x1 k118 TLag.zero).q) ∧ ((nth x1 k118 TLag.zero).q) < (x2.arcs.length : Int)) (iter (fun q : Nat × Sy => twin_walk_next_1_b3 x2 x1 k118 k137 Y q.1 q.2) (0, s138))) (fin (nxt ((k118 + 1), s138)))
noncomputable def twin_walk_next_1_b1 {Sy : Type} (x1 : List TLag) (x2 : Walk) (Y : Sy → TLag → Option (Sy × Bool)) (k118 : Nat) (s119 : Sy) : Option ((Nat × Sy) ⊕ (Sy)) :=
 iteO (decide (((k118 : Nat) : Int) < ((x1.length : Nat) : Int))) (grd (0 ≤ ((nth x1 k118 TLag.zero).p) ∧ ((nth x1 k118 TLag.zero).p) < (x2.arcs.length : Int)) (iter (fun q : Nat × Sy => twin_walk_next_1_b2 x2 x1 k118 Y q.1 q.2) (0, s119))) (fin (some s119))
noncomputable def twin_walk_next_1 {Sy : Type} (Y : Sy → TLag → Option (Sy × Bool)) (s0 : Sy) (x1 : List TLag) (x2 : Walk) : Option (Sy) :=
 iter (fun q : Nat × Sy => twin_walk_next_1_b1 x1 x2 Y q.1 q.2) (0, s0)
theorem twin_walk_next_1_con {Sy : Type} {σ : Store} {Y : Sy → TLag → Option (Sy × Bool)} {s0 : Sy} {x1 : List TLag} {b1_0 : Nat} {Eb1 : Nat} {a1_1 : Option Addr} {c1_2 : Nat} {x2 : Walk} {b2_0 : Nat} {Eb2 : Nat} {b2_1 : Nat} {Eb2_2 : Nat} {a2_4 : Option Addr} {c2_5 : Nat} {a2_7 : Option Addr} {c2_8 : Nat} {a2_10 : Option Addr} {c2_11 : Nat} {a2_13 : Option Addr} {c2_14 : Nat} {m2_16 : Option Nat} (f1_3 : RS σ 4 encLag (.slice a1_1 x1.length c1_2) x1) (h2_3 : SC σ b2_1 #[.int .i64 x2.t.states, .slice a2_4 x2.t.starts.length c2_5, .slice a2_7 x2.t.ends.length c2_8, .slice a2_10 x2.t.arcs.length c2_11, .slice a2_13 x2.arcs.length c2_14, .int .i64 x2.most, .map m2_16] Eb2_2) (f2_6 : RS σ 2 encTip (.slice a2_4 x2.t.starts.length c2_5) x2.t.starts) (f2_9 : RS σ 2 encTip (.slice a2_7 x2.t.ends.length c2_8) x2.t.ends) (f2_12 : RS σ 8 encArc (.slice a2_10 x2.t.arcs.length c2_11) x2.t.arcs) (f2_15 : RZ σ (pkSl 8 encArc encArc_len) (.slice a2_13 x2.arcs.length c2_14) x2.arcs) {r : Sy} (hh : twin_walk_next_1 Y s0 x1 x2 = some r) :
  IterOk Tryz.prog 32 [loc b1_0 0, loc b2_0 0] (fun (x : TLag) _ vs => vs = [.agg #[.int .i64 x.p, .int .i64 x.q, .string (bs x.a), .string (bs x.b)]]) Y σ [Res.cells b1_0 #[.slice a1_1 x1.length c1_2] Eb1, Res.cells b2_0 #[loc b2_1 0] Eb2] s0 r (fun σ' H' => H' = [Res.cells b1_0 #[.slice a1_1 x1.length c1_2] Eb1, Res.cells b2_0 #[loc b2_1 0] Eb2]) := by
 intro l Z ry0 hY hys
 dsimp only [twin_walk_next_1] at hh
 have f1_3b := f1_3.rv.big
 skip
 have f2_6b := f2_6.rv.big
 have f2_9b := f2_9.rv.big
 have f2_12b := f2_12.rv.big
 have f2_15b := f2_15.big
 refine Con.mk (n := 55) Tryz.func32 z z z (fun w0 => ?_)
 refine TC.weakR (TC.a (TL.op z (OpOk.box z z z z (fun b108 => ?_))))
 refine TL.en (TC.a (TL.w z (loadLoc z ag50 z (i := 2) z z) (TL.w z (lenC z underlying50 z) (TL.i z z (TL.en (TC.block (TC.loopG (α := (Nat × Sy) × (Res × Store)) (rgs [(5, 1), (7, 1), (9, 1), (13, 34), (52, 3)]) (fun g => [(13, .int .i64 ((g.1.1 : Nat) : Int))]) (fun g => [Res.cells b2_0 #[loc b2_1 0] Eb2, Res.cells b108 #[.func (.yield l) #[] #[]] 74, Res.cells b1_0 #[.slice a1_1 x1.length c1_2] Eb1, g.2.1]) (fun g => g.2.2) (fun g => iter (fun q : Nat × Sy => twin_walk_next_1_b1 x1 x2 Y q.1 q.2) g.1 = some r ∧ YR Z g.1.2 g.2.2 g.2.1 ∧ Store.le σ g.2.2) (fun g => rounds (fun q : Nat × Sy => twin_walk_next_1_b1 x1 x2 Y q.1 q.2) g.1) ((0, s0), (ry0, σ)) (Sub.f [1, 2, 2, 3] 4) z (by repeat (first | exact trivial | refine ⟨z, ?_⟩)) ⟨hh, hys, (Store.le.refl _)⟩ (fun g1 j1 hg1 => ?_))))))))
 obtain ⟨⟨k118, s119⟩, ⟨ry120, τ122⟩⟩ := g1
 obtain ⟨hh, hy121, hle123⟩ := hg1
 try dsimp only at hy121
 dsimp only at hle123
 replace f1_3 := f1_3.mono hle123
 replace h2_3 := h2_3.mono hle123
 replace f2_15 := f2_15.mono hle123
 try dsimp only
 obtain ⟨z1, hh, hR1⟩ := iter_e hh
 dsimp only [twin_walk_next_1_b1] at hh
 skip
 refine TC.a (TL.w z (OpVal.lss z z z) (TL.en (TC.seq (TC.cD z hh (fun h124 hh => ?_) (fun h124 hh => ?_)))))
 ·refine TC.skip (S.n (TC.seq (TC.block (TC.a (TL.w z (indexN z underlying50 sz71 z z f1_3.rv.sl (by omega)) (TL.w z (loadSA TLag.zero z ag71 sz71 z f1_3 (by omega) (by omega)) (TL.op z (OpOk.alloc z ze71 z z (fun b125 => ?_)))))))))
  refine TL.op z (storeAll z sz71 z z z z z z ?_)
  refine TL.en (TC.seq ?_)
  have u16 := grd_c hh
  replace hh := grd_t hh
  refine TC.draw [] (by kernel_rfl) (TA.b 0 z (loadLoc z ag45 z (i := 1) z z) z (TA.a 1 z (nilCheckLoc z z) z (TA.a 2 z (fieldLoc z fo49_1 z) z (TA.b 3 z (OpVal.seen (SC.sees h2_3) (loadLoc z ag46 z (i := 0) z z)) z (TA.a 4 z (fieldLoc z fo71_0 z) z (TA.b 5 z (loadLoc z ag3 z (i := 0) z z) z (TA.b 6 z (OpVal.index z underlying46 sz23 z z f2_15.isSl u16.1 u16.2) z ?_)))))))
  obtain ⟨p128, hk128, hg128⟩ := RZ.seg f2_15 (((nth x1 k118 TLag.zero).p).toNat) (by omega)
  replace hk128 : RS _ 8 encArc (.slice p128.1 (nth x2.arcs (((nth x1 k118 TLag.zero).p).toNat) ([] : List Arc)).length p128.2) (nth x2.arcs (((nth x1 k118 TLag.zero).p).toNat) ([] : List Arc)) := hk128
  have hk128b := hk128.rv.big
  refine TA.b 7 z (OpVal.of (loadSeg0 z ag23 z hg128 z) (v' := .slice p128.1 ((nth x2.arcs (((nth x1 k118 TLag.zero).p).toNat) ([] : List Arc)).length) p128.2) z) z (TA.b 8 z (lenC z underlying23 z) z (TA.a 9 z (moveI (.inl z) z) z (TA.dn (S.n (TC.block (TC.loopG (α := (Nat × Sy) × (Res × Store)) (rgs [(7, 1), (9, 1), (26, 21), (52, 2)]) (fun g => [(26, .int .i64 ((g.1.1 : Nat) : Int))]) (fun g => [Res.cells b2_0 #[loc b2_1 0] Eb2, Res.cells b108 #[.func (.yield l) #[] #[]] 74, Res.cells b125 #[.int .i64 ((nth x1 k118 TLag.zero).p), .int .i64 ((nth x1 k118 TLag.zero).q), .string (bs ((nth x1 k118 TLag.zero).a)), .string (bs ((nth x1 k118 TLag.zero).b))] 71, Res.cells b1_0 #[.slice a1_1 x1.length c1_2] Eb1, g.2.1]) (fun g => g.2.2) (fun g => iter (fun q : Nat × Sy => twin_walk_next_1_b2 x2 x1 k118 Y q.1 q.2) g.1 = some z1 ∧ YR Z g.1.2 g.2.2 g.2.1 ∧ Store.le τ122 g.2.2) (fun g => rounds (fun q : Nat × Sy => twin_walk_next_1_b2 x2 x1 k118 Y q.1 q.2) g.1) ((0, s119), (ry120, τ122)) (Sub.f [4, 4, 2, 4, 4] 5) z (by repeat (first | exact trivial | refine ⟨z, ?_⟩)) ⟨hh, hy121, (Store.le.refl _)⟩ (fun g2 j2 hg2 => ?_)))))))
  obtain ⟨⟨k137, s138⟩, ⟨ry139, τ141⟩⟩ := g2
  obtain ⟨hh, hy140, hle142⟩ := hg2
  try dsimp only at hy140
  dsimp only at hle142
  replace h2_3 := h2_3.mono hle142
  replace f2_15 := f2_15.mono hle142
  replace hy121 := hy121.mono hle142
  replace hk128 := hk128.mono hle142
  try dsimp only
  obtain ⟨z2, hh, hR2⟩ := iter_e hh
  dsimp only [twin_walk_next_1_b2] at hh
  skip
  refine TC.a (TL.w z (OpVal.lss z z z) (TL.en (TC.seq (TC.cD z hh (fun h143 hh => ?_) (fun h143 hh => ?_)))))
  ·refine TC.skip (S.n (TC.seq (TC.block (TC.a (TL.w z (indexN z underlying23 sz38 z z hk128.rv.sl (by omega)) (TL.w z (loadSA Arc.zero z ag38 sz38 z hk128 (by omega) (by omega)) (TL.op z (OpOk.alloc z ze38 z z (fun b144 => ?_)))))))))
   refine TL.op z (storeAll z sz38 z z z z z z ?_)
   refine TL.en (TC.seq ?_)
   have u31 := grd_c hh
   replace hh := grd_t hh
   refine TC.draw [] (by kernel_rfl) (TA.b 0 z (loadLoc z ag45 z (i := 1) z z) z (TA.a 1 z (nilCheckLoc z z) z (TA.a 2 z (fieldLoc z fo49_1 z) z (TA.b 3 z (OpVal.seen (SC.sees h2_3) (loadLoc z ag46 z (i := 0) z z)) z (TA.a 4 z (fieldLoc z fo71_1 z) z (TA.b 5 z (loadLoc z ag3 z (i := 3) z z) z (TA.b 6 z (OpVal.index z underlying46 sz23 z z f2_15.isSl u31.1 u31.2) z ?_)))))))
   obtain ⟨p147, hk147, hg147⟩ := RZ.seg f2_15 (((nth x1 k118 TLag.zero).q).toNat) (by omega)
   replace hk147 : RS _ 8 encArc (.slice p147.1 (nth x2.arcs (((nth x1 k118 TLag.zero).q).toNat) ([] : List Arc)).length p147.2) (nth x2.arcs (((nth x1 k118 TLag.zero).q).toNat) ([] : List Arc)) := hk147
   have hk147b := hk147.rv.big
   refine TA.b 7 z (OpVal.of (loadSeg0 z ag23 z hg147 z) (v' := .slice p147.1 ((nth x2.arcs (((nth x1 k118 TLag.zero).q).toNat) ([] : List Arc)).length) p147.2) z) z (TA.b 8 z (lenC z underlying23 z) z (TA.a 9 z (moveI (.inl z) z) z (TA.dn (S.n (TC.block (TC.loopG (α := (Nat × Sy) × (Res × Store)) (rgs [(9, 1), (39, 8), (52, 1)]) (fun g => [(39, .int .i64 ((g.1.1 : Nat) : Int))]) (fun g => [Res.cells b2_0 #[loc b2_1 0] Eb2, Res.cells b108 #[.func (.yield l) #[] #[]] 74, Res.cells b125 #[.int .i64 ((nth x1 k118 TLag.zero).p), .int .i64 ((nth x1 k118 TLag.zero).q), .string (bs ((nth x1 k118 TLag.zero).a)), .string (bs ((nth x1 k118 TLag.zero).b))] 71, Res.cells b144 #[.int .i64 ((nth (nth x2.arcs (((nth x1 k118 TLag.zero).p).toNat) ([] : List Arc)) k137 Arc.zero).frm), .int .i64 ((nth (nth x2.arcs (((nth x1 k118 TLag.zero).p).toNat) ([] : List Arc)) k137 Arc.zero).to), .int .u64 ((((nth (nth x2.arcs (((nth x1 k118 TLag.zero).p).toNat) ([] : List Arc)) k137 Arc.zero).set).a : Nat) : Int), .int .u64 ((((nth (nth x2.arcs (((nth x1 k118 TLag.zero).p).toNat) ([] : List Arc)) k137 Arc.zero).set).b : Nat) : Int), .int .u64 ((((nth (nth x2.arcs (((nth x1 k118 TLag.zero).p).toNat) ([] : List Arc)) k137 Arc.zero).set).c : Nat) : Int), .int .u64 ((((nth (nth x2.arcs (((nth x1 k118 TLag.zero).p).toNat) ([] : List Arc)) k137 Arc.zero).set).d : Nat) : Int), .string (bs ((nth (nth x2.arcs (((nth x1 k118 TLag.zero).p).toNat) ([] : List Arc)) k137 Arc.zero).out)), .bool ((nth (nth x2.arcs (((nth x1 k118 TLag.zero).p).toNat) ([] : List Arc)) k137 Arc.zero).copy)] 38, Res.cells b1_0 #[.slice a1_1 x1.length c1_2] Eb1, g.2.1]) (fun g => g.2.2) (fun g => iter (fun q : Nat × Sy => twin_walk_next_1_b3 x2 x1 k118 k137 Y q.1 q.2) g.1 = some z2 ∧ YR Z g.1.2 g.2.2 g.2.1 ∧ Store.le τ141 g.2.2) (fun g => rounds (fun q : Nat × Sy => twin_walk_next_1_b3 x2 x1 k118 k137 Y q.1 q.2) g.1) ((0, s138), (ry139, τ141)) (Sub.f [5, 5, 2, 5, 5, 5] 6) z (by repeat (first | exact trivial | refine ⟨z, ?_⟩)) ⟨hh, hy140, (Store.le.refl _)⟩ (fun g3 j3 hg3 => ?_)))))))
   obtain ⟨⟨k156, s157⟩, ⟨ry158, τ160⟩⟩ := g3
   obtain ⟨hh, hy159, hle161⟩ := hg3
   try dsimp only at hy159
   dsimp only at hle161
   replace hy121 := hy121.mono hle161
   replace hy140 := hy140.mono hle161
   replace hk147 := hk147.mono hle161
   try dsimp only
   obtain ⟨z3, hh, hR3⟩ := iter_e hh
   dsimp only [twin_walk_next_1_b3] at hh
   skip
   refine TC.a (TL.w z (OpVal.lss z z z) (TL.en (TC.seq (TC.cD z hh (fun h162 hh => ?_) (fun h162 hh => ?_)))))
   ·refine TC.skip (S.n (TC.seq (TC.block (TC.a (TL.w z (indexN z underlying23 sz38 z z hk147.rv.sl (by omega)) (TL.w z (loadSA Arc.zero z ag38 sz38 z hk147 (by omega) (by omega)) (TL.op z (OpOk.alloc z ze38 z z (fun b163 => ?_)))))))))
    refine TL.op z (storeAll z sz38 z z z z z z ?_)
    refine TL.en (TC.a (TL.w z (loadAll z ag71 sz71 z (i := 3) z z) (TL.w z (loadAll z ag38 sz38 z (i := 4) z z) (TL.w z (loadAll z ag38 sz38 z (i := 0) z z) ?_))))
    obtain ⟨v43, u43, hh⟩ := bnd_e hh
    refine TL.op z (OpOk.call (twin_by_con u43) z z pf33 z z z z ?_)
    rintro _ _ _ hle165 ⟨b165_1, b165_2, b165_3, rfl, rfl, rfl⟩
    refine TL.en (TC.block (TC.ofSub (Sub.f [2, 2, 2, 9, 9, 9, 9, 9, 9] 9) ?_))
    obtain ⟨zr512, hz512, hh⟩ := bnd_e hh
    obtain ⟨jz512, s175⟩ := zr512
    dsimp only at hh
    refine TC.rangeG (A := (fun (x : TLag) _ vs => vs = [.agg #[.int .i64 x.p, .int .i64 x.q, .string (bs x.a), .string (bs x.b)]])) [.ret] (fun (q : Sy) (x : TLag) => twin_walk_next_1_r512 Y q x) (fun (q : Sy) (τ178 : Store) Hs => ∃ (ry176 : Res), Hs = [Res.cells b2_0 #[loc b2_1 0] Eb2, Res.cells b108 #[.func (.yield l) #[] #[]] 74, Res.cells b125 #[.int .i64 ((nth x1 k118 TLag.zero).p), .int .i64 ((nth x1 k118 TLag.zero).q), .string (bs ((nth x1 k118 TLag.zero).a)), .string (bs ((nth x1 k118 TLag.zero).b))] 71, Res.cells b144 #[.int .i64 ((nth (nth x2.arcs (((nth x1 k118 TLag.zero).p).toNat) ([] : List Arc)) k137 Arc.zero).frm), .int .i64 ((nth (nth x2.arcs (((nth x1 k118 TLag.zero).p).toNat) ([] : List Arc)) k137 Arc.zero).to), .int .u64 ((((nth (nth x2.arcs (((nth x1 k118 TLag.zero).p).toNat) ([] : List Arc)) k137 Arc.zero).set).a : Nat) : Int), .int .u64 ((((nth (nth x2.arcs (((nth x1 k118 TLag.zero).p).toNat) ([] : List Arc)) k137 Arc.zero).set).b : Nat) : Int), .int .u64 ((((nth (nth x2.arcs (((nth x1 k118 TLag.zero).p).toNat) ([] : List Arc)) k137 Arc.zero).set).c : Nat) : Int), .int .u64 ((((nth (nth x2.arcs (((nth x1 k118 TLag.zero).p).toNat) ([] : List Arc)) k137 Arc.zero).set).d : Nat) : Int), .string (bs ((nth (nth x2.arcs (((nth x1 k118 TLag.zero).p).toNat) ([] : List Arc)) k137 Arc.zero).out)), .bool ((nth (nth x2.arcs (((nth x1 k118 TLag.zero).p).toNat) ([] : List Arc)) k137 Arc.zero).copy)] 38, Res.cells b1_0 #[.slice a1_1 x1.length c1_2] Eb1, ry176] ∧ YR Z q τ178 ry176) (s := s157) rfl pf44 rfl rfl (by rintro _ _ _ _ ⟨ry176, rfl, hy177⟩ hle_; exact ⟨ry176, rfl, hy177.mono hle_⟩) ⟨ry158, rfl, hy159⟩ (fun _ _ _ h_ => by subst h_; rfl) (twin_by_1_con hz512) ?_ ?_
    ·clear hh hz512
     rintro l_ _ _ _ τ178 s175 y512_0 z512 _ _ hh hle179 rfl ⟨ry176, rfl, hy177⟩
     dsimp only [twin_walk_next_1_r512] at hh
     replace hy121 := hy121.mono hle179
     replace hy140 := hy140.mono hle179
     replace hy159 := hy159.mono hle179
     skip
     show TC _ _ _ (upds _ [(47, .agg #[.int .i64 y512_0.p, .int .i64 y512_0.q, .string (bs y512_0.a), .string (bs y512_0.b)])]) τ178 [Res.cells b2_0 #[loc b2_1 0] Eb2, Res.cells b108 #[.func (.yield l) #[] #[]] 74, Res.cells b125 #[.int .i64 ((nth x1 k118 TLag.zero).p), .int .i64 ((nth x1 k118 TLag.zero).q), .string (bs ((nth x1 k118 TLag.zero).a)), .string (bs ((nth x1 k118 TLag.zero).b))] 71, Res.cells b144 #[.int .i64 ((nth (nth x2.arcs (((nth x1 k118 TLag.zero).p).toNat) ([] : List Arc)) k137 Arc.zero).frm), .int .i64 ((nth (nth x2.arcs (((nth x1 k118 TLag.zero).p).toNat) ([] : List Arc)) k137 Arc.zero).to), .int .u64 ((((nth (nth x2.arcs (((nth x1 k118 TLag.zero).p).toNat) ([] : List Arc)) k137 Arc.zero).set).a : Nat) : Int), .int .u64 ((((nth (nth x2.arcs (((nth x1 k118 TLag.zero).p).toNat) ([] : List Arc)) k137 Arc.zero).set).b : Nat) : Int), .int .u64 ((((nth (nth x2.arcs (((nth x1 k118 TLag.zero).p).toNat) ([] : List Arc)) k137 Arc.zero).set).c : Nat) : Int), .int .u64 ((((nth (nth x2.arcs (((nth x1 k118 TLag.zero).p).toNat) ([] : List Arc)) k137 Arc.zero).set).d : Nat) : Int), .string (bs ((nth (nth x2.arcs (((nth x1 k118 TLag.zero).p).toNat) ([] : List Arc)) k137 Arc.zero).out)), .bool ((nth (nth x2.arcs (((nth x1 k118 TLag.zero).p).toNat) ([] : List Arc)) k137 Arc.zero).copy)] 38, Res.cells b1_0 #[.slice a1_1 x1.length c1_2] Eb1, ry176]
     refine TC.region (TL.op z (OpOk.alloc z ze71 z z (fun b180 => ?_)))
     refine TL.op z (storeAll z sz71 z z z z z z ?_)
     refine TL.nil (asg_n (fun _ _ _ => ?_))
     refine TC.block (TC.a (TL.w z (loadLoc z ag74 z (i := 2) z z) (TL.w z (loadAll z ag71 sz71 z (i := 0) z z) ?_)))
     obtain ⟨v48, u48, hh⟩ := bnd_e hh
     refine TL.front 6 z z (TL.op z (callY hY hy177 u48 z z z z z z ?_))
     rintro τ182 ry182 hle182 hy182
     replace hy121 := hy121.mono hle182
     replace hy140 := hy140.mono hle182
     replace hy159 := hy159.mono hle182
     refine TL.w z (OpVal.not z z) (TL.en (TC.cB z hh (fun h183 hh => ?_) (fun h183 hh => ?_)))
     ·refine TC.ret (B.r ?_)
      obtain rfl := so hh
      exact rnd_r 0 z ⟨z, _, Sub.f [6, 6, 6, 6, 6] 6, ⟨ry182, z, hy182⟩⟩
     ·refine TC.skip (B.n ?_)
      obtain rfl := so hh
      exact rnd_n ⟨z, _, Sub.f [6, 6, 6, 6, 6] 6, ⟨ry182, z, hy182⟩⟩
    ·rintro τ178 _ _ hle179 ⟨ry176, rfl, hy177⟩ ⟨rfl⟩
     replace hy121 := hy121.mono hle179
     replace hy140 := hy140.mono hle179
     replace hy159 := hy159.mono hle179
     skip
     dsimp only [twin_walk_next_1_k512] at hh
     show jmpQ _ _ _ _ _ τ178 [Res.cells b2_0 #[loc b2_1 0] Eb2, Res.cells b108 #[.func (.yield l) #[] #[]] 74, Res.cells b125 #[.int .i64 ((nth x1 k118 TLag.zero).p), .int .i64 ((nth x1 k118 TLag.zero).q), .string (bs ((nth x1 k118 TLag.zero).a)), .string (bs ((nth x1 k118 TLag.zero).b))] 71, Res.cells b144 #[.int .i64 ((nth (nth x2.arcs (((nth x1 k118 TLag.zero).p).toNat) ([] : List Arc)) k137 Arc.zero).frm), .int .i64 ((nth (nth x2.arcs (((nth x1 k118 TLag.zero).p).toNat) ([] : List Arc)) k137 Arc.zero).to), .int .u64 ((((nth (nth x2.arcs (((nth x1 k118 TLag.zero).p).toNat) ([] : List Arc)) k137 Arc.zero).set).a : Nat) : Int), .int .u64 ((((nth (nth x2.arcs (((nth x1 k118 TLag.zero).p).toNat) ([] : List Arc)) k137 Arc.zero).set).b : Nat) : Int), .int .u64 ((((nth (nth x2.arcs (((nth x1 k118 TLag.zero).p).toNat) ([] : List Arc)) k137 Arc.zero).set).c : Nat) : Int), .int .u64 ((((nth (nth x2.arcs (((nth x1 k118 TLag.zero).p).toNat) ([] : List Arc)) k137 Arc.zero).set).d : Nat) : Int), .string (bs ((nth (nth x2.arcs (((nth x1 k118 TLag.zero).p).toNat) ([] : List Arc)) k137 Arc.zero).out)), .bool ((nth (nth x2.arcs (((nth x1 k118 TLag.zero).p).toNat) ([] : List Arc)) k137 Arc.zero).copy)] 38, Res.cells b1_0 #[.slice a1_1 x1.length c1_2] Eb1, ry176, Res.cells b165_1 #[.int .i64 v43.1.frm, .int .i64 v43.1.to, .int .u64 ((v43.1.set.a : Nat) : Int), .int .u64 ((v43.1.set.b : Nat) : Int), .int .u64 ((v43.1.set.c : Nat) : Int), .int .u64 ((v43.1.set.d : Nat) : Int), .string (bs v43.1.out), .bool v43.1.copy] 38, Res.cells b165_2 #[.int .i64 v43.2.1.frm, .int .i64 v43.2.1.to, .int .u64 ((v43.2.1.set.a : Nat) : Int), .int .u64 ((v43.2.1.set.b : Nat) : Int), .int .u64 ((v43.2.1.set.c : Nat) : Int), .int .u64 ((v43.2.1.set.d : Nat) : Int), .string (bs v43.2.1.out), .bool v43.2.1.copy] 38, Res.cells b165_3 #[.int .i64 v43.2.2.p, .int .i64 v43.2.2.q, .string (bs v43.2.2.a), .string (bs v43.2.2.b)] 71]
     refine jmp_split hh ?_ ?_ <;> clear hh
     ·intro hh
      refine B.n (B.n (S.n (TC.region (TL.w z (OpVal.succ z z z (by omega)) (TL.i z z (TL.en ?_))))))
      obtain ⟨hh, hlt184⟩ := nxt_x hR3 hh
      exact lf (((k156 + 1), s175), (ry176, τ178)) hlt184 ⟨hh, hy177, (hle161.trans hle179)⟩ (Sub.f [5, 5, 5, 5, 5, 5] 6)
     ·intro m_ c_ hh hc_
      refine jl_split hh hc_ ?_ ?_ <;> clear hh hc_
      ·intro hh
       refine TC.ofSub (Sub.f [4, 5] 3) (TC.ret (B.r (B.r (S.r (S.r ?_)))))
       replace hh := fin_x hR3 hh
       refine B.r (B.r (S.r (S.r ?_)))
       replace hh := fin_x hR2 hh
       refine B.r (B.r (S.r (S.r ?_)))
       replace hh := fin_x hR1 hh
       refine B.r ?_
       obtain rfl := so hh
       refine ⟨_, Sub.f [2, 2, 2] 3, ?_⟩
       exact ro [ry176, Res.cells b1_0 #[.slice a1_1 x1.length c1_2] Eb1, Res.cells b2_0 #[loc b2_1 0] Eb2] z RVs.nil ⟨_, _, z, hy177, z⟩
      ·intro m_ hh hc_
       exact jl_nil hc_
   ·refine TC.exit (S.x (S.x ?_))
    replace hh := fin_x hR3 hh
    refine TC.exitHere (B.n (S.n (TC.region (TL.w z (OpVal.succ z z z (by omega)) (TL.i z z (TL.en ?_))))))
    obtain ⟨hh, hlt185⟩ := nxt_x hR2 hh
    exact lf (((k137 + 1), s157), (ry158, τ160)) hlt185 ⟨hh, hy159, (hle142.trans hle161)⟩ (Sub.f [5, 5, 4, 4, 4] 5)
  ·refine TC.exit (S.x (S.x ?_))
   replace hh := fin_x hR2 hh
   refine TC.exitHere (B.n (S.n (TC.region (TL.w z (OpVal.succ z z z (by omega)) (TL.i z z (TL.en ?_))))))
   obtain ⟨hh, hlt186⟩ := nxt_x hR1 hh
   exact lf (((k118 + 1), s138), (ry139, τ141)) hlt186 ⟨hh, hy140, (hle123.trans hle142)⟩ (Sub.f [4, 4, 3, 3] 4)
 ·refine TC.exit (S.x (S.x ?_))
  replace hh := fin_x hR1 hh
  refine TC.exitHere ?_
  obtain rfl := so hh
  refine ⟨_, Sub.f [2, 3] 3, ?_⟩
  exact RetOk.mk' (rs := []) [ry120, Res.cells b1_0 #[.slice a1_1 x1.length c1_2] Eb1, Res.cells b2_0 #[loc b2_1 0] Eb2] z (.inr z) RVs.nil (List.sublist_append_left _ _) ⟨_, _, z, hy121, z⟩

noncomputable def twin_walk_next (x0 : Walk) (x1 : List TLag) : Option (((List TLag) × Walk)) :=
 some (x1, (⟨(⟨x0.t.states, x0.t.starts, x0.t.ends, x0.t.arcs⟩ : Fst), x0.arcs, x0.most⟩ : Walk))
theorem twin_walk_next_con {σ : Store} {x0 : Walk} {b0_1 : Nat} {Eb0_2 : Nat} {a0_4 : Option Addr} {c0_5 : Nat} {a0_7 : Option Addr} {c0_8 : Nat} {a0_10 : Option Addr} {c0_11 : Nat} {a0_13 : Option Addr} {c0_14 : Nat} {m0_16 : Option Nat} {x1 : List TLag} {a1_0 : Option Addr} {c1_0 : Nat} (h0_3 : SC σ b0_1 #[.int .i64 x0.t.states, .slice a0_4 x0.t.starts.length c0_5, .slice a0_7 x0.t.ends.length c0_8, .slice a0_10 x0.t.arcs.length c0_11, .slice a0_13 x0.arcs.length c0_14, .int .i64 x0.most, .map m0_16] Eb0_2) (f0_6 : RS σ 2 encTip (.slice a0_4 x0.t.starts.length c0_5) x0.t.starts) (f0_9 : RS σ 2 encTip (.slice a0_7 x0.t.ends.length c0_8) x0.t.ends) (f0_12 : RS σ 8 encArc (.slice a0_10 x0.t.arcs.length c0_11) x0.t.arcs) (f0_15 : RZ σ (pkSl 8 encArc encArc_len) (.slice a0_13 x0.arcs.length c0_14) x0.arcs) (f1_0 : RS σ 4 encLag (.slice a1_0 x1.length c1_0) x1) {r : ((List TLag) × Walk)} (hh : twin_walk_next x0 x1 = some r) :
  Con Tryz.prog 18 #[loc b0_1 0, .slice a1_0 x1.length c1_0] σ [] (fun v σ' H' => ∃ (br4 : Nat), ∃ (ar1 : Option Addr), ∃ (cr2 : Nat), ∃ (br21 : Nat), ∃ (br5 : Nat), ∃ (Ebr6 : Nat), ∃ (ar8 : Option Addr), ∃ (cr9 : Nat), ∃ (ar11 : Option Addr), ∃ (cr12 : Nat), ∃ (ar14 : Option Addr), ∃ (cr15 : Nat), ∃ (ar17 : Option Addr), ∃ (cr18 : Nat), ∃ (mr20 : Option Nat), v = .func (.func 32) #[] #[loc br4 0, loc br21 0] ∧ RS σ' 4 encLag (.slice ar1 r.1.length cr2) r.1 ∧ SC σ' br5 #[.int .i64 r.2.t.states, .slice ar8 r.2.t.starts.length cr9, .slice ar11 r.2.t.ends.length cr12, .slice ar14 r.2.t.arcs.length cr15, .slice ar17 r.2.arcs.length cr18, .int .i64 r.2.most, .map mr20] Ebr6 ∧ RS σ' 2 encTip (.slice ar8 r.2.t.starts.length cr9) r.2.t.starts ∧ RS σ' 2 encTip (.slice ar11 r.2.t.ends.length cr12) r.2.t.ends ∧ RS σ' 8 encArc (.slice ar14 r.2.t.arcs.length cr15) r.2.t.arcs ∧ RZ σ' (pkSl 8 encArc encArc_len) (.slice ar17 r.2.arcs.length cr18) r.2.arcs ∧ H' = [Res.cells br4 #[.slice ar1 r.1.length cr2] 50, Res.cells br21 #[loc br5 0] 45]) := by
 dsimp only [twin_walk_next] at hh
 skip
 have f0_6b := f0_6.rv.big
 have f0_9b := f0_9.rv.big
 have f0_12b := f0_12.rv.big
 have f0_15b := f0_15.big
 have f1_0b := f1_0.rv.big
 refine Con.mk (n := 6) Tryz.func18 z z z (fun w0 => ?_)
 refine TC.a (TL.op z (OpOk.box z z z z (fun b112 => ?_)))
 refine TL.op z (OpOk.box z z z z (fun b114 => ?_))
 refine TL.w z (OpVal.mv (.inr z)) (TL.en (TC.a (TL.w z (makeFn z) (TL.w z (moveFn (.inr z) z) (TL.en (TC.ret ?_))))))
 obtain rfl := so hh
 exact ro [Res.cells b114 #[.slice a1_0 x1.length c1_0] 50, Res.cells b112 #[loc b0_1 0] 45] z (RVs.tmp z RVs.nil) ⟨b114, a1_0, c1_0, b112, b0_1, Eb0_2, a0_4, c0_5, a0_7, c0_8, a0_10, c0_11, a0_13, c0_14, m0_16, z, f1_0, h0_3, f0_6, f0_9, f0_12, f0_15, z⟩

noncomputable def takeFirst_r2 (x0 : Walk) (m134 : FM TLag Unit) (l136 : List TLag) (t139 : Bool) (t140 : Bool) (y2_0 : TLag) : Option (Nat × ((FM TLag Unit) × (List TLag) × Bool × Bool)) :=
 iteO (decide (x0.most < ((y2_0.a.length : Nat) : Int))) (some (1, (m134, ([] : List TLag), true, false))) (iteO (decide (x0.most < ((y2_0.b.length : Nat) : Int))) (some (1, (m134, ([] : List TLag), true, false))) (iteO (m134.has y2_0) (some (0, (m134, l136, t139, t140))) (iteO (decide (2048 ≤ ((m134.n : Nat) : Int))) (some (0, (m134, l136, t139, true))) (grd ((l136.length + [y2_0].length) * 48 ≤ 140737488355328) (some (0, ((m134.put y2_0 ()), (l136 ++ [y2_0]), t139, t140)))))))
noncomputable def takeFirst_k2 (jz : Nat) (m134 : FM TLag Unit) (l136 : List TLag) (t139 : Bool) (t140 : Bool) : Option ((List TLag) × Bool × Bool × (FM TLag Unit)) :=
 jsel jz (some (l136, false, t140, m134)) (fun j_ => jsel j_ (some (l136, t139, t140, m134)) (fun _ => none))
noncomputable def takeFirst (x0 : Walk) (x0m : FM TLag Unit) (x1_0 : Walk) : Option ((List TLag) × Bool × Bool × (FM TLag Unit)) :=
 bnd (twin_walk_first_1 (stepY (fun (q : (FM TLag Unit) × (List TLag) × Bool × Bool) (x : TLag) => takeFirst_r2 x0 q.1 q.2.1 q.2.2.1 q.2.2.2 x)) (0, (x0m, ([] : List TLag), false, false)) (⟨(⟨x1_0.t.states, x1_0.t.starts, x1_0.t.ends, x1_0.t.arcs⟩ : Fst), x1_0.arcs, x1_0.most⟩ : Walk)) (fun zr2 => takeFirst_k2 zr2.1 zr2.2.1 zr2.2.2.1 zr2.2.2.2.1 zr2.2.2.2.2)
theorem takeFirst_con {σ : Store} {x0 : Walk} {b0_1 : Nat} {Eb0_2 : Nat} {a0_4 : Option Addr} {c0_5 : Nat} {a0_7 : Option Addr} {c0_8 : Nat} {a0_10 : Option Addr} {c0_11 : Nat} {a0_13 : Option Addr} {c0_14 : Nat} {b0_16 : Nat} {x0m : FM TLag Unit} {x1_0 : Walk} {b1_0_0 : Nat} {Eb1_0 : Nat} {b1_0_1 : Nat} {Eb1_0_2 : Nat} {a1_0_4 : Option Addr} {c1_0_5 : Nat} {a1_0_7 : Option Addr} {c1_0_8 : Nat} {a1_0_10 : Option Addr} {c1_0_11 : Nat} {a1_0_13 : Option Addr} {c1_0_14 : Nat} {m1_0_16 : Option Nat} (h0_3 : SC σ b0_1 #[.int .i64 x0.t.states, .slice a0_4 x0.t.starts.length c0_5, .slice a0_7 x0.t.ends.length c0_8, .slice a0_10 x0.t.arcs.length c0_11, .slice a0_13 x0.arcs.length c0_14, .int .i64 x0.most, .map (some b0_16)] Eb0_2) (f0_6 : RS σ 2 encTip (.slice a0_4 x0.t.starts.length c0_5) x0.t.starts) (f0_9 : RS σ 2 encTip (.slice a0_7 x0.t.ends.length c0_8) x0.t.ends) (f0_12 : RS σ 8 encArc (.slice a0_10 x0.t.arcs.length c0_11) x0.t.arcs) (f0_15 : RZ σ (pkSl 8 encArc encArc_len) (.slice a0_13 x0.arcs.length c0_14) x0.arcs) (h1_0_3 : SC σ b1_0_1 #[.int .i64 x1_0.t.states, .slice a1_0_4 x1_0.t.starts.length c1_0_5, .slice a1_0_7 x1_0.t.ends.length c1_0_8, .slice a1_0_10 x1_0.t.arcs.length c1_0_11, .slice a1_0_13 x1_0.arcs.length c1_0_14, .int .i64 x1_0.most, .map m1_0_16] Eb1_0_2) (f1_0_6 : RS σ 2 encTip (.slice a1_0_4 x1_0.t.starts.length c1_0_5) x1_0.t.starts) (f1_0_9 : RS σ 2 encTip (.slice a1_0_7 x1_0.t.ends.length c1_0_8) x1_0.t.ends) (f1_0_12 : RS σ 8 encArc (.slice a1_0_10 x1_0.t.arcs.length c1_0_11) x1_0.t.arcs) (f1_0_15 : RZ σ (pkSl 8 encArc encArc_len) (.slice a1_0_13 x1_0.arcs.length c1_0_14) x1_0.arcs) {r : (List TLag) × Bool × Bool × (FM TLag Unit)} (hh : takeFirst x0 x0m x1_0 = some r) :
  Con Tryz.prog 16 #[loc b0_1 0, .func (.func 30) #[] #[loc b1_0_0 0]] σ [Res.mapB (fun x => Value.agg (encLag x).toArray) unitV (some b0_16) x0m, Res.cells b1_0_0 #[loc b1_0_1 0] Eb1_0] (fun v σ' H' => ∃ (a1 : Option Addr), ∃ (c1 : Nat), v = .tuple #[.slice a1 r.1.length c1, .bool r.2.1, .bool r.2.2.1] ∧ σ = σ' ∧ H' = [Res.rowS 71 4 encLag (.slice a1 r.1.length c1) r.1, Res.mapB (fun x => Value.agg (encLag x).toArray) unitV (some b0_16) r.2.2.2, Res.cells b1_0_0 #[loc b1_0_1 0] Eb1_0]) := by
 dsimp only [takeFirst] at hh
 skip
 have f0_6b := f0_6.rv.big
 have f0_9b := f0_9.rv.big
 have f0_12b := f0_12.rv.big
 have f0_15b := f0_15.big
 skip
 have f1_0_6b := f1_0_6.rv.big
 have f1_0_9b := f1_0_9.rv.big
 have f1_0_12b := f1_0_12.rv.big
 have f1_0_15b := f1_0_15.big
 refine Con.mk (n := 58) Tryz.func16 z z z (fun w0 => ?_)
 refine TC.a (TL.op z (OpOk.box z z z z (fun b112 => ?_)))
 refine TL.op z (OpOk.alloc z ze50 z z (fun b114 => ?_))
 refine TL.op z (OpOk.alloc z ze4 z z (fun b116 => ?_))
 refine TL.op z (OpOk.alloc z ze4 z z (fun b118 => ?_))
 refine TL.en (TC.seq (TC.a (TL.w z (moveFn (.inl z) z) (TL.en (TC.block (TC.nilS 71 4 encLag (TC.ofSub (Sub.f [6, 2, 3, 3, 4, 6, 6] 7) ?_)))))))
 obtain ⟨zr2, hz2, hh⟩ := bnd_e hh
 obtain ⟨jz2, ⟨m134, l136, t139, t140⟩⟩ := zr2
 dsimp only at hh
 refine TC.rangeG (A := (fun (x : TLag) _ vs => vs = [.agg #[.int .i64 x.p, .int .i64 x.q, .string (bs x.a), .string (bs x.b)]])) [.ret] (fun (q : (FM TLag Unit) × (List TLag) × Bool × Bool) (x : TLag) => takeFirst_r2 x0 q.1 q.2.1 q.2.2.1 q.2.2.2 x) (fun (q : (FM TLag Unit) × (List TLag) × Bool × Bool) (τ142 : Store) Hs => ∃ (a137 : Option Addr), ∃ (c138 : Nat), Hs = [Res.cells b112 #[loc b0_1 0] 45, Res.mapB (fun x => Value.agg (encLag x).toArray) unitV (some b0_16) q.1, Res.cells b114 #[.slice a137 q.2.1.length c138] 50, Res.rowS 71 4 encLag (.slice a137 q.2.1.length c138) q.2.1, Res.cells b116 #[.bool q.2.2.1] 4, Res.cells b118 #[.bool q.2.2.2] 4]) (s := (x0m, ([] : List TLag), false, false)) rfl pf30 rfl rfl (by rintro _ _ _ _ ⟨a137, c138, rfl⟩ hle_; exact ⟨a137, c138, rfl⟩) ⟨none, 0, rfl⟩ (fun _ _ _ h_ => by subst h_; rfl) (twin_walk_first_1_con h1_0_3 f1_0_6 f1_0_9 f1_0_12 f1_0_15 hz2) ?_ ?_
 ·clear hh hz2
  rintro l_ _ _ _ τ142 ⟨m134, l136, t139, t140⟩ y2_0 z2 _ _ hh hle143 rfl ⟨a137, c138, rfl⟩
  dsimp only [takeFirst_r2] at hh
  replace h0_3 := h0_3.mono hle143
  show TC _ _ _ (upds _ [(11, .agg #[.int .i64 y2_0.p, .int .i64 y2_0.q, .string (bs y2_0.a), .string (bs y2_0.b)])]) τ142 [Res.cells b112 #[loc b0_1 0] 45, Res.mapB (fun x => Value.agg (encLag x).toArray) unitV (some b0_16) m134, Res.cells b114 #[.slice a137 l136.length c138] 50, Res.rowS 71 4 encLag (.slice a137 l136.length c138) l136, Res.cells b116 #[.bool t139] 4, Res.cells b118 #[.bool t140] 4]
  refine TC.isSl (i := 3) z (fun _ hb144 _ => ?_)
  refine TC.region (TL.op z (OpOk.alloc z ze71 z z (fun b145 => ?_)))
  refine TL.op z (storeAll z sz71 z z z z z z ?_)
  refine TL.nil (asg_n (fun _ _ _ => ?_))
  refine TC.block (TC.seq (TC.seq (TC.draw [] (by kernel_rfl) (TA.a 0 z (fieldLoc z fo71_2 z) z (TA.b 1 z (loadLoc z ag9 z (i := 0) z z) z (TA.b 2 z (lenBs z underlying9 z) z (TA.b 3 z (loadLoc z ag45 z (i := 1) z z) z (TA.a 4 z (nilCheckLoc z z) z (TA.a 5 z (fieldLoc z fo49_2 z) z (TA.b 6 z (OpVal.seen (SC.sees h0_3) (loadLoc z ag3 z (i := 0) z z)) z (TA.a 7 z (OpVal.gtr z z z) z (TA.a 8 z (moveB (.inl z) z) z (TA.split 20 z (fun h147 => ?_) (fun h147 => ?_))))))))))))))
  ·replace hh := iteO_t h147 hh
   replace h147 := of_decide_eq_true h147
   refine TA.off 9 z z z z z z (TA.off 10 z z z z z z (TA.off 11 z z z z z z (TA.off 12 z z z z z z (TA.off 13 z z z z z z (TA.off 14 z z z z z z (TA.off 15 z z z z z z (TA.off 16 z z z z z z (TA.a 17 z (pickTB z z z) z (TA.dn (S.n (TC.t z (TC.a (TL.front 3 z z (TL.op z (storeSl z sz50 z z z z z ?_)))))))))))))))
   refine TL.front 5 z z (TL.op z (storeB z sz4 z z z z z ?_))
   refine TL.front 6 z z (TL.op z (storeB z sz4 z z z z z ?_))
   refine TL.en (TC.nilS 71 4 encLag (TC.ret (S.r (B.r ?_))))
   obtain rfl := so hh
   exact rnd_r 0 z ⟨z, _, Sub.f [1, 2, 2, 3, 6, 6] 6, ⟨none, 0, z⟩⟩
  ·replace hh := iteO_f h147 hh
   replace h147 := of_decide_eq_false h147
   refine TA.on 9 z z z z (fieldLoc z fo71_3 z) z (TA.on 10 z z z z (loadLoc z ag9 z (i := 0) z z) z (TA.on 11 z z z z (lenBs z underlying9 z) z (TA.on 12 z z z z (loadLoc z ag45 z (i := 1) z z) z (TA.on 13 z z z z (nilCheckLoc z z) z (TA.on 14 z z z z (fieldLoc z fo49_2 z) z (TA.on 15 z z z z (OpVal.seen (SC.sees h0_3) (loadLoc z ag3 z (i := 0) z z)) z (TA.on 16 z z z z (OpVal.gtr z z z) z (TA.a 17 z (pickFB z z z) z (TA.dn (S.n (TC.cD z hh (fun h149 hh => ?_) (fun h149 hh => ?_))))))))))))
   ·refine TC.a (TL.front 3 z z (TL.op z (storeSl z sz50 z z z z z ?_)))
    refine TL.front 5 z z (TL.op z (storeB z sz4 z z z z z ?_))
    refine TL.front 6 z z (TL.op z (storeB z sz4 z z z z z ?_))
    refine TL.en (TC.nilS 71 4 encLag (TC.ret (S.r (B.r ?_))))
    obtain rfl := so hh
    exact rnd_r 0 z ⟨z, _, Sub.f [1, 2, 2, 3, 6, 6] 6, ⟨none, 0, z⟩⟩
   ·refine TC.skip (S.n (TC.seq (TC.seq (TC.draw [8, 10, 11] (by kernel_rfl) (TA.b 0 z (loadLoc z ag45 z (i := 1) z z) z (TA.a 1 z (nilCheckLoc z z) z (TA.a 2 z (fieldLoc z fo49_3 z) z (TA.b 3 z (OpVal.seen (SC.sees h0_3) (loadLoc z ag47 z (i := 0) z z)) z (TA.b 4 z (loadAll z ag71 sz71 z (i := 0) z z) z (TA.b 5 z (OpVal.of (lookB () (q := y2_0) z underlying47 ze72 z (i := 2) z z kl71) (v' := .tuple #[.agg #[], .bool (m134.has y2_0)]) z) z (TA.a 6 z (moveT (.inl z) z) z (TA.a 7 z (OpVal.extract z z z) z (TA.a 8 z (OpVal.extract z z z) z (TA.ac 9 z (OpOk.alloc z ze72 z z (fun b153 => (k1 ?_)))))))))))))))))
    refine TA.last 10 (by kernel_rfl) z z z (storeAll z sz72 z z z z z z ?_)
    refine TZ.v 11 (by kernel_rfl) z z z (moveB (.inr z) z) z z (TZ.done (by kernel_rfl) (S.n (TC.a (TL.j z z (TL.en (TC.cB z hh (fun h155 hh => ?_) (fun h155 hh => ?_)))))))
    ·refine TC.exit (S.x (TC.exitHere ?_))
     obtain rfl := so hh
     exact rnd_n ⟨z, _, Sub.f [7, 7, 7, 7, 7, 7] 6, ⟨a137, c138, z⟩⟩
    ·refine TC.skip (S.n (TC.seq (TC.a (TL.w z (loadLoc z ag45 z (i := 2) z z) (TL.w z (nilCheckLoc z z) (TL.w z (fieldLoc z fo49_3 z) (TL.w z (OpVal.seen (SC.sees h0_3) (loadLoc z ag47 z (i := 0) z z)) (TL.w z (lenB z underlying47 z (i := 3) z) (TL.w z (OpVal.geq z z z) (TL.en (TC.cD z hh (fun h156 hh => ?_) (fun h156 hh => ?_))))))))))))
     ·refine TC.a (TL.front 7 z z (TL.op z (storeB z sz4 z z z z z ?_)))
      refine TL.en (TC.exit (S.x (TC.exitHere ?_)))
      obtain rfl := so hh
      exact rnd_n ⟨z, _, Sub.f [7, 7, 7, 7, 7] 6, ⟨a137, c138, z⟩⟩
     ·refine TC.skip (S.n (TC.seq (TC.draw [6] (by kernel_rfl) (TA.b 0 z (loadLoc z ag45 z (i := 2) z z) z (TA.a 1 z (nilCheckLoc z z) z (TA.a 2 z (fieldLoc z fo49_3 z) z (TA.b 3 z (OpVal.seen (SC.sees h0_3) (loadLoc z ag47 z (i := 0) z z)) z (TA.b 4 z (loadAll z ag71 sz71 z (i := 1) z z) z (TA.a 5 z (buildL z pl72 ze72 z) z (TA.front 3 z z (TA.last 6 (by kernel_rfl) z z z (updB y2_0 () z underlying47 z z z z kl71 ?_))))))))))))
      refine TZ.done (by kernel_rfl) (S.n (TC.region (TL.w z (loadLoc z ag50 z (i := 4) z z) (TL.w z (loadAll z ag71 sz71 z (i := 2) z z) (TL.op z (OpOk.lit (enc := encLag) [y2_0] z underlying50 sz71 ze71 z z z encLag_len (by decide) (by decide) TLag.zero z (by decide) z (by decide) encLag_one (fun a157 c158 => ?_)))))))
      refine TL.front 6 z z ?_
      have u59 := grd_c hh
      replace hh := grd_t hh
      refine TL.op z (appendS z z underlying50 sz71 by71 ze71 z z (by decide) z z z (.inr ⟨_, 0, z⟩) (by simpa using u59) (by decide) (fun a160 c161 => ?_))
      refine TL.front 6 z z (TL.op z (storeSl z sz50 z z z z z ?_))
      refine TL.nil (B.n ?_)
      obtain rfl := so hh
      exact rnd_n ⟨z, _, Sub.f [8, 8, 3, 3, 5, 8] 6, ⟨a160, c161, z⟩⟩
 ·rintro τ142 _ _ hle143 ⟨a137, c138, rfl⟩ ⟨rfl⟩
  dsimp only [takeFirst_k2] at hh
  show jmpQ _ _ _ _ _ τ142 [Res.cells b112 #[loc b0_1 0] 45, Res.mapB (fun x => Value.agg (encLag x).toArray) unitV (some b0_16) m134, Res.cells b114 #[.slice a137 l136.length c138] 50, Res.rowS 71 4 encLag (.slice a137 l136.length c138) l136, Res.cells b116 #[.bool t139] 4, Res.cells b118 #[.bool t140] 4, Res.cells b1_0_0 #[loc b1_0_1 0] Eb1_0]
  refine jmp_split hh ?_ ?_ <;> clear hh
  ·intro hh
   refine B.n (S.n (TC.seq (TC.drawR (Hr := [Res.cells b112 #[loc b0_1 0] 45, Res.mapB (fun x => Value.agg (encLag x).toArray) unitV (some b0_16) m134, Res.cells b114 #[.slice a137 l136.length c138] 50, Res.rowS 71 4 encLag (.slice a137 l136.length c138) l136, Res.cells b118 #[.bool t140] 4, Res.cells b1_0_0 #[loc b1_0_1 0] Eb1_0]) (fun r hr => mem_pick [0, 1, 2, 3, 5, 6] z hr) [] (by kernel_rfl) (TA.b 0 z (loadLoc z ag50 z (i := 2) z z) z (TA.b 1 z (loadLoc z ag4 z (i := 4) z z) z (TA.front 2 z z (TA.ac 2 z (storeSl z sz50 z z z z z ⟨(fun w h => sees_of (Store.le.refl _) (fun r hr => mem_pick [1, 2, 0, 3, 5, 6] z hr) w h), ?_⟩))))))))
   refine TA.front 4 z z (TA.ac 3 z (storeB z sz4 z z z z z ⟨(fun w h => sees_of (Store.le.refl _) (fun r hr => mem_pick [2, 3, 1, 4, 5, 6] z hr) w h), ?_⟩))
   refine TA.front 5 z z (TA.ac 4 z (storeB z sz4 z z z z z ⟨(fun w h => sees_of (Store.le.refl _) (fun r hr => mem_pick [3, 4, 2, 5, 0, 6] z hr) w h), ?_⟩))
   refine TA.dn (S.n (TC.ofSub (Sub.f [1, 2, 6, 5, 6] 6) (TC.back (TC.ret ?_))))
   obtain rfl := so hh
   exact ro [Res.rowS 71 4 encLag (.slice a137 l136.length c138) l136, Res.mapB (fun x => Value.agg (encLag x).toArray) unitV (some b0_16) m134, Res.cells b1_0_0 #[loc b1_0_1 0] Eb1_0] z (RVs.one ag50 z (i := 3) z z (RVs.one ag4 z (i := 4) z z (RVs.one ag4 z (i := 5) z z RVs.nil))) ⟨a137, c138, z, z, z⟩
  ·intro m_ c_ hh hc_
   refine jl_split hh hc_ ?_ ?_ <;> clear hh hc_
   ·intro hh
    refine TC.ofSub (Sub.f [5, 5, 4, 6, 5, 6] 6) (TC.back (TC.ret (B.r (S.r ?_))))
    obtain rfl := so hh
    exact ro [Res.rowS 71 4 encLag (.slice a137 l136.length c138) l136, Res.mapB (fun x => Value.agg (encLag x).toArray) unitV (some b0_16) m134, Res.cells b1_0_0 #[loc b1_0_1 0] Eb1_0] z (RVs.one ag50 z (i := 3) z z (RVs.one ag4 z (i := 4) z z (RVs.one ag4 z (i := 5) z z RVs.nil))) ⟨a137, c138, z, z, z⟩
   ·intro m_ hh hc_
    exact jl_nil hc_

noncomputable def takeNext_r2 (x0 : Walk) (m136 : FM TLag Unit) (l138 : List TLag) (t141 : Bool) (t142 : Bool) (y2_0 : TLag) : Option (Nat × ((FM TLag Unit) × (List TLag) × Bool × Bool)) :=
 iteO (decide (x0.most < ((y2_0.a.length : Nat) : Int))) (some (1, (m136, ([] : List TLag), true, false))) (iteO (decide (x0.most < ((y2_0.b.length : Nat) : Int))) (some (1, (m136, ([] : List TLag), true, false))) (iteO (m136.has y2_0) (some (0, (m136, l138, t141, t142))) (iteO (decide (2048 ≤ ((m136.n : Nat) : Int))) (some (0, (m136, l138, t141, true))) (grd ((l138.length + [y2_0].length) * 48 ≤ 140737488355328) (some (0, ((m136.put y2_0 ()), (l138 ++ [y2_0]), t141, t142)))))))
noncomputable def takeNext_k2 (jz : Nat) (m136 : FM TLag Unit) (l138 : List TLag) (t141 : Bool) (t142 : Bool) : Option ((List TLag) × Bool × Bool × (FM TLag Unit)) :=
 jsel jz (some (l138, false, t142, m136)) (fun j_ => jsel j_ (some (l138, t141, t142, m136)) (fun _ => none))
noncomputable def takeNext (x0 : Walk) (x0m : FM TLag Unit) (x1_0 : List TLag) (x1_1 : Walk) : Option ((List TLag) × Bool × Bool × (FM TLag Unit)) :=
 bnd (twin_walk_next_1 (stepY (fun (q : (FM TLag Unit) × (List TLag) × Bool × Bool) (x : TLag) => takeNext_r2 x0 q.1 q.2.1 q.2.2.1 q.2.2.2 x)) (0, (x0m, ([] : List TLag), false, false)) x1_0 (⟨(⟨x1_1.t.states, x1_1.t.starts, x1_1.t.ends, x1_1.t.arcs⟩ : Fst), x1_1.arcs, x1_1.most⟩ : Walk)) (fun zr2 => takeNext_k2 zr2.1 zr2.2.1 zr2.2.2.1 zr2.2.2.2.1 zr2.2.2.2.2)
theorem takeNext_con {σ : Store} {x0 : Walk} {b0_1 : Nat} {Eb0_2 : Nat} {a0_4 : Option Addr} {c0_5 : Nat} {a0_7 : Option Addr} {c0_8 : Nat} {a0_10 : Option Addr} {c0_11 : Nat} {a0_13 : Option Addr} {c0_14 : Nat} {b0_16 : Nat} {x0m : FM TLag Unit} {x1_0 : List TLag} {b1_0_0 : Nat} {Eb1_0 : Nat} {a1_0_1 : Option Addr} {c1_0_2 : Nat} {x1_1 : Walk} {b1_1_0 : Nat} {Eb1_1 : Nat} {b1_1_1 : Nat} {Eb1_1_2 : Nat} {a1_1_4 : Option Addr} {c1_1_5 : Nat} {a1_1_7 : Option Addr} {c1_1_8 : Nat} {a1_1_10 : Option Addr} {c1_1_11 : Nat} {a1_1_13 : Option Addr} {c1_1_14 : Nat} {m1_1_16 : Option Nat} (h0_3 : SC σ b0_1 #[.int .i64 x0.t.states, .slice a0_4 x0.t.starts.length c0_5, .slice a0_7 x0.t.ends.length c0_8, .slice a0_10 x0.t.arcs.length c0_11, .slice a0_13 x0.arcs.length c0_14, .int .i64 x0.most, .map (some b0_16)] Eb0_2) (f0_6 : RS σ 2 encTip (.slice a0_4 x0.t.starts.length c0_5) x0.t.starts) (f0_9 : RS σ 2 encTip (.slice a0_7 x0.t.ends.length c0_8) x0.t.ends) (f0_12 : RS σ 8 encArc (.slice a0_10 x0.t.arcs.length c0_11) x0.t.arcs) (f0_15 : RZ σ (pkSl 8 encArc encArc_len) (.slice a0_13 x0.arcs.length c0_14) x0.arcs) (f1_0_3 : RS σ 4 encLag (.slice a1_0_1 x1_0.length c1_0_2) x1_0) (h1_1_3 : SC σ b1_1_1 #[.int .i64 x1_1.t.states, .slice a1_1_4 x1_1.t.starts.length c1_1_5, .slice a1_1_7 x1_1.t.ends.length c1_1_8, .slice a1_1_10 x1_1.t.arcs.length c1_1_11, .slice a1_1_13 x1_1.arcs.length c1_1_14, .int .i64 x1_1.most, .map m1_1_16] Eb1_1_2) (f1_1_6 : RS σ 2 encTip (.slice a1_1_4 x1_1.t.starts.length c1_1_5) x1_1.t.starts) (f1_1_9 : RS σ 2 encTip (.slice a1_1_7 x1_1.t.ends.length c1_1_8) x1_1.t.ends) (f1_1_12 : RS σ 8 encArc (.slice a1_1_10 x1_1.t.arcs.length c1_1_11) x1_1.t.arcs) (f1_1_15 : RZ σ (pkSl 8 encArc encArc_len) (.slice a1_1_13 x1_1.arcs.length c1_1_14) x1_1.arcs) {r : (List TLag) × Bool × Bool × (FM TLag Unit)} (hh : takeNext x0 x0m x1_0 x1_1 = some r) :
  Con Tryz.prog 16 #[loc b0_1 0, .func (.func 32) #[] #[loc b1_0_0 0, loc b1_1_0 0]] σ [Res.mapB (fun x => Value.agg (encLag x).toArray) unitV (some b0_16) x0m, Res.cells b1_0_0 #[.slice a1_0_1 x1_0.length c1_0_2] Eb1_0, Res.cells b1_1_0 #[loc b1_1_1 0] Eb1_1] (fun v σ' H' => ∃ (a1 : Option Addr), ∃ (c1 : Nat), v = .tuple #[.slice a1 r.1.length c1, .bool r.2.1, .bool r.2.2.1] ∧ σ = σ' ∧ H' = [Res.rowS 71 4 encLag (.slice a1 r.1.length c1) r.1, Res.mapB (fun x => Value.agg (encLag x).toArray) unitV (some b0_16) r.2.2.2, Res.cells b1_0_0 #[.slice a1_0_1 x1_0.length c1_0_2] Eb1_0, Res.cells b1_1_0 #[loc b1_1_1 0] Eb1_1]) := by
 dsimp only [takeNext] at hh
 skip
 have f0_6b := f0_6.rv.big
 have f0_9b := f0_9.rv.big
 have f0_12b := f0_12.rv.big
 have f0_15b := f0_15.big
 have f1_0_3b := f1_0_3.rv.big
 skip
 have f1_1_6b := f1_1_6.rv.big
 have f1_1_9b := f1_1_9.rv.big
 have f1_1_12b := f1_1_12.rv.big
 have f1_1_15b := f1_1_15.big
 refine Con.mk (n := 58) Tryz.func16 z z z (fun w0 => ?_)
 refine TC.a (TL.op z (OpOk.box z z z z (fun b114 => ?_)))
 refine TL.op z (OpOk.alloc z ze50 z z (fun b116 => ?_))
 refine TL.op z (OpOk.alloc z ze4 z z (fun b118 => ?_))
 refine TL.op z (OpOk.alloc z ze4 z z (fun b120 => ?_))
 refine TL.en (TC.seq (TC.a (TL.w z (moveFn (.inl z) z) (TL.en (TC.block (TC.nilS 71 4 encLag (TC.ofSub (Sub.f [7, 7, 3, 4, 4, 5, 7, 7] 8) ?_)))))))
 obtain ⟨zr2, hz2, hh⟩ := bnd_e hh
 obtain ⟨jz2, ⟨m136, l138, t141, t142⟩⟩ := zr2
 dsimp only at hh
 refine TC.rangeG (A := (fun (x : TLag) _ vs => vs = [.agg #[.int .i64 x.p, .int .i64 x.q, .string (bs x.a), .string (bs x.b)]])) [.ret] (fun (q : (FM TLag Unit) × (List TLag) × Bool × Bool) (x : TLag) => takeNext_r2 x0 q.1 q.2.1 q.2.2.1 q.2.2.2 x) (fun (q : (FM TLag Unit) × (List TLag) × Bool × Bool) (τ144 : Store) Hs => ∃ (a139 : Option Addr), ∃ (c140 : Nat), Hs = [Res.cells b114 #[loc b0_1 0] 45, Res.mapB (fun x => Value.agg (encLag x).toArray) unitV (some b0_16) q.1, Res.cells b116 #[.slice a139 q.2.1.length c140] 50, Res.rowS 71 4 encLag (.slice a139 q.2.1.length c140) q.2.1, Res.cells b118 #[.bool q.2.2.1] 4, Res.cells b120 #[.bool q.2.2.2] 4]) (s := (x0m, ([] : List TLag), false, false)) rfl pf32 rfl rfl (by rintro _ _ _ _ ⟨a139, c140, rfl⟩ hle_; exact ⟨a139, c140, rfl⟩) ⟨none, 0, rfl⟩ (fun _ _ _ h_ => by subst h_; rfl) (twin_walk_next_1_con f1_0_3 h1_1_3 f1_1_6 f1_1_9 f1_1_12 f1_1_15 hz2) ?_ ?_
 ·clear hh hz2
  rintro l_ _ _ _ τ144 ⟨m136, l138, t141, t142⟩ y2_0 z2 _ _ hh hle145 rfl ⟨a139, c140, rfl⟩
  dsimp only [takeNext_r2] at hh
  replace h0_3 := h0_3.mono hle145
  show TC _ _ _ (upds _ [(11, .agg #[.int .i64 y2_0.p, .int .i64 y2_0.q, .string (bs y2_0.a), .string (bs y2_0.b)])]) τ144 [Res.cells b114 #[loc b0_1 0] 45, Res.mapB (fun x => Value.agg (encLag x).toArray) unitV (some b0_16) m136, Res.cells b116 #[.slice a139 l138.length c140] 50, Res.rowS 71 4 encLag (.slice a139 l138.length c140) l138, Res.cells b118 #[.bool t141] 4, Res.cells b120 #[.bool t142] 4]
  refine TC.isSl (i := 3) z (fun _ hb146 _ => ?_)
  refine TC.region (TL.op z (OpOk.alloc z ze71 z z (fun b147 => ?_)))
  refine TL.op z (storeAll z sz71 z z z z z z ?_)
  refine TL.nil (asg_n (fun _ _ _ => ?_))
  refine TC.block (TC.seq (TC.seq (TC.draw [] (by kernel_rfl) (TA.a 0 z (fieldLoc z fo71_2 z) z (TA.b 1 z (loadLoc z ag9 z (i := 0) z z) z (TA.b 2 z (lenBs z underlying9 z) z (TA.b 3 z (loadLoc z ag45 z (i := 1) z z) z (TA.a 4 z (nilCheckLoc z z) z (TA.a 5 z (fieldLoc z fo49_2 z) z (TA.b 6 z (OpVal.seen (SC.sees h0_3) (loadLoc z ag3 z (i := 0) z z)) z (TA.a 7 z (OpVal.gtr z z z) z (TA.a 8 z (moveB (.inl z) z) z (TA.split 20 z (fun h149 => ?_) (fun h149 => ?_))))))))))))))
  ·replace hh := iteO_t h149 hh
   replace h149 := of_decide_eq_true h149
   refine TA.off 9 z z z z z z (TA.off 10 z z z z z z (TA.off 11 z z z z z z (TA.off 12 z z z z z z (TA.off 13 z z z z z z (TA.off 14 z z z z z z (TA.off 15 z z z z z z (TA.off 16 z z z z z z (TA.a 17 z (pickTB z z z) z (TA.dn (S.n (TC.t z (TC.a (TL.front 3 z z (TL.op z (storeSl z sz50 z z z z z ?_)))))))))))))))
   refine TL.front 5 z z (TL.op z (storeB z sz4 z z z z z ?_))
   refine TL.front 6 z z (TL.op z (storeB z sz4 z z z z z ?_))
   refine TL.en (TC.nilS 71 4 encLag (TC.ret (S.r (B.r ?_))))
   obtain rfl := so hh
   exact rnd_r 0 z ⟨z, _, Sub.f [1, 2, 2, 3, 6, 6] 6, ⟨none, 0, z⟩⟩
  ·replace hh := iteO_f h149 hh
   replace h149 := of_decide_eq_false h149
   refine TA.on 9 z z z z (fieldLoc z fo71_3 z) z (TA.on 10 z z z z (loadLoc z ag9 z (i := 0) z z) z (TA.on 11 z z z z (lenBs z underlying9 z) z (TA.on 12 z z z z (loadLoc z ag45 z (i := 1) z z) z (TA.on 13 z z z z (nilCheckLoc z z) z (TA.on 14 z z z z (fieldLoc z fo49_2 z) z (TA.on 15 z z z z (OpVal.seen (SC.sees h0_3) (loadLoc z ag3 z (i := 0) z z)) z (TA.on 16 z z z z (OpVal.gtr z z z) z (TA.a 17 z (pickFB z z z) z (TA.dn (S.n (TC.cD z hh (fun h151 hh => ?_) (fun h151 hh => ?_))))))))))))
   ·refine TC.a (TL.front 3 z z (TL.op z (storeSl z sz50 z z z z z ?_)))
    refine TL.front 5 z z (TL.op z (storeB z sz4 z z z z z ?_))
    refine TL.front 6 z z (TL.op z (storeB z sz4 z z z z z ?_))
    refine TL.en (TC.nilS 71 4 encLag (TC.ret (S.r (B.r ?_))))
    obtain rfl := so hh
    exact rnd_r 0 z ⟨z, _, Sub.f [1, 2, 2, 3, 6, 6] 6, ⟨none, 0, z⟩⟩
   ·refine TC.skip (S.n (TC.seq (TC.seq (TC.draw [8, 10, 11] (by kernel_rfl) (TA.b 0 z (loadLoc z ag45 z (i := 1) z z) z (TA.a 1 z (nilCheckLoc z z) z (TA.a 2 z (fieldLoc z fo49_3 z) z (TA.b 3 z (OpVal.seen (SC.sees h0_3) (loadLoc z ag47 z (i := 0) z z)) z (TA.b 4 z (loadAll z ag71 sz71 z (i := 0) z z) z (TA.b 5 z (OpVal.of (lookB () (q := y2_0) z underlying47 ze72 z (i := 2) z z kl71) (v' := .tuple #[.agg #[], .bool (m136.has y2_0)]) z) z (TA.a 6 z (moveT (.inl z) z) z (TA.a 7 z (OpVal.extract z z z) z (TA.a 8 z (OpVal.extract z z z) z (TA.ac 9 z (OpOk.alloc z ze72 z z (fun b155 => (k1 ?_)))))))))))))))))
    refine TA.last 10 (by kernel_rfl) z z z (storeAll z sz72 z z z z z z ?_)
    refine TZ.v 11 (by kernel_rfl) z z z (moveB (.inr z) z) z z (TZ.done (by kernel_rfl) (S.n (TC.a (TL.j z z (TL.en (TC.cB z hh (fun h157 hh => ?_) (fun h157 hh => ?_)))))))
    ·refine TC.exit (S.x (TC.exitHere ?_))
     obtain rfl := so hh
     exact rnd_n ⟨z, _, Sub.f [7, 7, 7, 7, 7, 7] 6, ⟨a139, c140, z⟩⟩
    ·refine TC.skip (S.n (TC.seq (TC.a (TL.w z (loadLoc z ag45 z (i := 2) z z) (TL.w z (nilCheckLoc z z) (TL.w z (fieldLoc z fo49_3 z) (TL.w z (OpVal.seen (SC.sees h0_3) (loadLoc z ag47 z (i := 0) z z)) (TL.w z (lenB z underlying47 z (i := 3) z) (TL.w z (OpVal.geq z z z) (TL.en (TC.cD z hh (fun h158 hh => ?_) (fun h158 hh => ?_))))))))))))
     ·refine TC.a (TL.front 7 z z (TL.op z (storeB z sz4 z z z z z ?_)))
      refine TL.en (TC.exit (S.x (TC.exitHere ?_)))
      obtain rfl := so hh
      exact rnd_n ⟨z, _, Sub.f [7, 7, 7, 7, 7] 6, ⟨a139, c140, z⟩⟩
     ·refine TC.skip (S.n (TC.seq (TC.draw [6] (by kernel_rfl) (TA.b 0 z (loadLoc z ag45 z (i := 2) z z) z (TA.a 1 z (nilCheckLoc z z) z (TA.a 2 z (fieldLoc z fo49_3 z) z (TA.b 3 z (OpVal.seen (SC.sees h0_3) (loadLoc z ag47 z (i := 0) z z)) z (TA.b 4 z (loadAll z ag71 sz71 z (i := 1) z z) z (TA.a 5 z (buildL z pl72 ze72 z) z (TA.front 3 z z (TA.last 6 (by kernel_rfl) z z z (updB y2_0 () z underlying47 z z z z kl71 ?_))))))))))))
      refine TZ.done (by kernel_rfl) (S.n (TC.region (TL.w z (loadLoc z ag50 z (i := 4) z z) (TL.w z (loadAll z ag71 sz71 z (i := 2) z z) (TL.op z (OpOk.lit (enc := encLag) [y2_0] z underlying50 sz71 ze71 z z z encLag_len (by decide) (by decide) TLag.zero z (by decide) z (by decide) encLag_one (fun a159 c160 => ?_)))))))
      refine TL.front 6 z z ?_
      have u59 := grd_c hh
      replace hh := grd_t hh
      refine TL.op z (appendS z z underlying50 sz71 by71 ze71 z z (by decide) z z z (.inr ⟨_, 0, z⟩) (by simpa using u59) (by decide) (fun a162 c163 => ?_))
      refine TL.front 6 z z (TL.op z (storeSl z sz50 z z z z z ?_))
      refine TL.nil (B.n ?_)
      obtain rfl := so hh
      exact rnd_n ⟨z, _, Sub.f [8, 8, 3, 3, 5, 8] 6, ⟨a162, c163, z⟩⟩
 ·rintro τ144 _ _ hle145 ⟨a139, c140, rfl⟩ ⟨rfl⟩
  dsimp only [takeNext_k2] at hh
  show jmpQ _ _ _ _ _ τ144 [Res.cells b114 #[loc b0_1 0] 45, Res.mapB (fun x => Value.agg (encLag x).toArray) unitV (some b0_16) m136, Res.cells b116 #[.slice a139 l138.length c140] 50, Res.rowS 71 4 encLag (.slice a139 l138.length c140) l138, Res.cells b118 #[.bool t141] 4, Res.cells b120 #[.bool t142] 4, Res.cells b1_0_0 #[.slice a1_0_1 x1_0.length c1_0_2] Eb1_0, Res.cells b1_1_0 #[loc b1_1_1 0] Eb1_1]
  refine jmp_split hh ?_ ?_ <;> clear hh
  ·intro hh
   refine B.n (S.n (TC.seq (TC.drawR (Hr := [Res.cells b114 #[loc b0_1 0] 45, Res.mapB (fun x => Value.agg (encLag x).toArray) unitV (some b0_16) m136, Res.cells b116 #[.slice a139 l138.length c140] 50, Res.rowS 71 4 encLag (.slice a139 l138.length c140) l138, Res.cells b120 #[.bool t142] 4, Res.cells b1_0_0 #[.slice a1_0_1 x1_0.length c1_0_2] Eb1_0, Res.cells b1_1_0 #[loc b1_1_1 0] Eb1_1]) (fun r hr => mem_pick [0, 1, 2, 3, 5, 6, 7] z hr) [] (by kernel_rfl) (TA.b 0 z (loadLoc z ag50 z (i := 2) z z) z (TA.b 1 z (loadLoc z ag4 z (i := 4) z z) z (TA.front 2 z z (TA.ac 2 z (storeSl z sz50 z z z z z ⟨(fun w h => sees_of (Store.le.refl _) (fun r hr => mem_pick [1, 2, 0, 3, 5, 6, 7] z hr) w h), ?_⟩))))))))
   refine TA.front 4 z z (TA.ac 3 z (storeB z sz4 z z z z z ⟨(fun w h => sees_of (Store.le.refl _) (fun r hr => mem_pick [2, 3, 1, 4, 5, 6, 7] z hr) w h), ?_⟩))
   refine TA.front 5 z z (TA.ac 4 z (storeB z sz4 z z z z z ⟨(fun w h => sees_of (Store.le.refl _) (fun r hr => mem_pick [3, 4, 2, 5, 0, 6, 7] z hr) w h), ?_⟩))
   refine TA.dn (S.n (TC.ofSub (Sub.f [1, 2, 7, 7, 6, 7] 7) (TC.back (TC.ret ?_))))
   obtain rfl := so hh
   exact ro [Res.rowS 71 4 encLag (.slice a139 l138.length c140) l138, Res.mapB (fun x => Value.agg (encLag x).toArray) unitV (some b0_16) m136, Res.cells b1_0_0 #[.slice a1_0_1 x1_0.length c1_0_2] Eb1_0, Res.cells b1_1_0 #[loc b1_1_1 0] Eb1_1] z (RVs.one ag50 z (i := 4) z z (RVs.one ag4 z (i := 5) z z (RVs.one ag4 z (i := 6) z z RVs.nil))) ⟨a139, c140, z, z, z⟩
  ·intro m_ c_ hh hc_
   refine jl_split hh hc_ ?_ ?_ <;> clear hh hc_
   ·intro hh
    refine TC.ofSub (Sub.f [5, 5, 4, 7, 7, 6, 7] 7) (TC.back (TC.ret (B.r (S.r ?_))))
    obtain rfl := so hh
    exact ro [Res.rowS 71 4 encLag (.slice a139 l138.length c140) l138, Res.mapB (fun x => Value.agg (encLag x).toArray) unitV (some b0_16) m136, Res.cells b1_0_0 #[.slice a1_0_1 x1_0.length c1_0_2] Eb1_0, Res.cells b1_1_0 #[loc b1_1_1 0] Eb1_1] z (RVs.one ag50 z (i := 4) z z (RVs.one ag4 z (i := 5) z z (RVs.one ag4 z (i := 6) z z RVs.nil))) ⟨a139, c140, z, z, z⟩
   ·intro m_ hh hc_
    exact jl_nil hc_

noncomputable def twin_Twin_j2 (l176 : List (List Arc)) (v5 : Fst × Int) (k180 : Nat) : Option (((List (List Arc)) × Nat) ⊕ (Bool × Int)) :=
 nxt ((l176.set (((nth v5.1.arcs k180 Arc.zero).frm).toNat) ((nth l176 (((nth v5.1.arcs k180 Arc.zero).frm).toNat) ([] : List Arc)) ++ [(nth v5.1.arcs k180 Arc.zero)])), (k180 + 1))
noncomputable def twin_Twin_b2 (v5 : Fst × Int) (l176 : List (List Arc)) (i111 : Int) (m250 : FM TLag Unit) (l252 : List TLag) (t255 : Bool) (t256 : Bool) : Option (((FM TLag Unit) × (List TLag) × Bool × Bool) ⊕ (Bool × Int)) :=
 iteO t255 (fin (some (false, 0))) (iteO t256 (fin (some (false, 2))) (iteO (decide (((l252.length : Nat) : Int) = 0)) (fin (some (true, 0))) (bnd (twin_walk_next (⟨v5.1, l176, i111⟩ : Walk) l252) (fun v84 => bnd (takeNext (⟨v5.1, l176, i111⟩ : Walk) m250 v84.1 (⟨(⟨v84.2.t.states, v84.2.t.starts, v84.2.t.ends, v84.2.t.arcs⟩ : Fst), v84.2.arcs, v84.2.most⟩ : Walk)) (fun v85 => nxt (v85.2.2.2, v85.1, v85.2.1, v85.2.2.1))))))
noncomputable def twin_Twin_b1 (v5 : Fst × Int) (i111 : Int) (l176 : List (List Arc)) (k180 : Nat) : Option (((List (List Arc)) × Nat) ⊕ (Bool × Int)) :=
 iteO (decide (((k180 : Nat) : Int) < ((v5.1.arcs.length : Nat) : Int))) (grd (0 ≤ ((nth v5.1.arcs k180 Arc.zero).frm) ∧ ((nth v5.1.arcs k180 Arc.zero).frm) < (l176.length : Int)) (grd (((nth l176 (((nth v5.1.arcs k180 Arc.zero).frm).toNat) ([] : List Arc)).length + [(nth v5.1.arcs k180 Arc.zero)].length) * 72 ≤ 140737488355328) (grd (0 ≤ ((nth v5.1.arcs k180 Arc.zero).frm) ∧ ((nth v5.1.arcs k180 Arc.zero).frm) < (l176.length : Int)) (twin_Twin_j2 l176 v5 k180)))) (fin (bnd (twin_walk_first (⟨v5.1, l176, i111⟩ : Walk)) (fun v58 => bnd (takeFirst (⟨v5.1, l176, i111⟩ : Walk) (FM.emp : FM TLag Unit) (⟨(⟨v58.t.states, v58.t.starts, v58.t.ends, v58.t.arcs⟩ : Fst), v58.arcs, v58.most⟩ : Walk)) (fun v59 => iter (fun q : (FM TLag Unit) × (List TLag) × Bool × Bool => twin_Twin_b2 v5 l176 i111 q.1 q.2.1 q.2.2.1 q.2.2.2) (v59.2.2.2, v59.1, v59.2.1, v59.2.2.1)))))
noncomputable def twin_Twin_j1 (v5 : Fst × Int) (i111 : Int) : Option (Bool × Int) :=
 iter (fun q : (List (List Arc)) × Nat => twin_Twin_b1 v5 i111 q.1 q.2) ((List.replicate v5.1.states.toNat ([] : List Arc)), 0)
noncomputable def twin_Twin (x0 : Fst) : Option (Bool × Int) :=
 bnd (twin_trim x0) (fun v5 => iteO (decide (v5.2 ≠ 0)) (some (false, v5.2)) (grd (0 ≤ v5.1.states ∧ 24 * v5.1.states.toNat ≤ 281474976710656) (bnd (twin_bound v5.1) (fun v21 => twin_Twin_j1 v5 v21))))
theorem twin_Twin_con {σ : Store} {x0 : Fst} {a0_0 : Option Addr} {c0_0 : Nat} {a0_1 : Option Addr} {c0_1 : Nat} {a0_2 : Option Addr} {c0_2 : Nat} (f0_0 : RS σ 2 encTip (.slice a0_0 x0.starts.length c0_0) x0.starts) (f0_1 : RS σ 2 encTip (.slice a0_1 x0.ends.length c0_1) x0.ends) (f0_2 : RS σ 8 encArc (.slice a0_2 x0.arcs.length c0_2) x0.arcs) {r : Bool × Int} (hh : twin_Twin x0 = some r) :
  Con Tryz.prog 8 #[.agg #[.int .i64 x0.states, .slice a0_0 x0.starts.length c0_0, .slice a0_1 x0.ends.length c0_1, .slice a0_2 x0.arcs.length c0_2]] σ [] (PureP (.tuple #[.bool r.1, .int .i64 r.2]) σ) := by
 dsimp only [twin_Twin] at hh
 have f0_0b := f0_0.rv.big
 have f0_1b := f0_1.rv.big
 have f0_2b := f0_2.rv.big
 refine Con.mk (n := 79) Tryz.func8 z z z (fun w0 => ?_)
 refine TC.a (TL.op z (boxA z z z z (fun b101 => ?_)))
 refine TL.j z z (TL.i z z (TL.en (TC.a (TL.w z (loadAll z ag25 sz25 z (i := 0) z z) ?_))))
 obtain ⟨v5, u5, hh⟩ := bnd_e hh
 refine TL.op z (OpOk.call (twin_trim_con (x0 := x0) f0_0 f0_1 f0_2 u5) z z pf12 z z z z ?_)
 rintro _ τ103 _ hle103 ⟨a103_1, c103_1, a103_2, c103_2, a103_3, c103_3, rfl, hr103_0, hr103_1, hr103_2, rfl⟩
 have hr103_0b := hr103_0.rv.big
 have hr103_1b := hr103_1.rv.big
 have hr103_2b := hr103_2.rv.big
 refine TL.w z (moveT (.inl z) z) (TL.w z (OpVal.extract z z z) (TL.w z (OpVal.extract z z z) (TL.op z (storeAll z sz25 z z z z z z ?_))))
 refine TL.i z z (TL.en (TC.seq (TC.a (TL.i z z (TL.w z (OpVal.neq z z z) (TL.en (TC.cD z hh (fun h104 hh => ?_) (fun h104 hh => ?_))))))))
 ·refine TC.a (TL.i z z (TL.j z z (TL.i z z (TL.en (TC.ofSub (Sub.pre 0 z) (TC.back (TC.ret (S.r ?_))))))))
  obtain rfl := so hh
  exact rq [2, 3] ⟨z, z, z⟩
 ·refine TC.skip (S.n (TC.cutG (α := (Int) × (Nat × (Option Addr) × Nat × Nat)) (rgs [(5, 1), (19, 9)]) (fun g => [(5, loc g.2.1 0)]) (fun g => [Res.cells b101 #[.int .i64 v5.1.states, .slice a103_1 v5.1.starts.length c103_1, .slice a103_2 v5.1.ends.length c103_2, .slice a103_3 v5.1.arcs.length c103_3] 25, Res.cells g.2.1 #[.int .i64 v5.1.states, .slice a103_1 v5.1.starts.length c103_1, .slice a103_2 v5.1.ends.length c103_2, .slice a103_3 v5.1.arcs.length c103_3, .slice g.2.2.1 ((List.replicate v5.1.states.toNat ([] : List Arc)).length) g.2.2.2.1, .int .i64 g.1, .map (some g.2.2.2.2)] 49, Res.nest 23 38 8 encArc (.slice g.2.2.1 (List.replicate v5.1.states.toNat ([] : List Arc)).length g.2.2.2.1) (List.replicate v5.1.states.toNat (nilN : NP Arc)), Res.mapB (fun x => Value.agg (encLag x).toArray) unitV (some g.2.2.2.2) (FM.emp : FM TLag Unit)]) (fun g => τ103) (fun g => twin_Twin_j1 v5 g.1 = some r ∧ Zn (List.replicate v5.1.states.toNat (nilN : NP Arc)) (List.replicate v5.1.states.toNat ([] : List Arc))) ?_ (fun g j hg => ?_)))
  ·skip
   have u19 := grd_c hh
   replace hh := grd_t hh
   obtain ⟨v21, u21, hh⟩ := bnd_e hh
   refine TC.draw [] (by kernel_rfl) (TA.b 0 z (loadAll z ag25 sz25 z (i := 0) z z) z (TA.a 1 z (fieldLoc z fo25_0 z) z (TA.b 2 z (loadLoc z ag3 z (i := 0) z z) z (TA.b 4 z (loadAll z ag25 sz25 z (i := 0) z z) z ?_))))
   refine TA.actN [3, 5, 6] (by kernel_rfl) (an rfl rfl (makeN (q := v5.1.states.toNat) (E := 38) (size := 8) (enc := encArc) rfl underlying46 sz23 by23 ze23 rfl rfl (by show Value.int _ _ = _; rw [Int.toNat_of_nonneg u19.1]) (by show Value.int _ _ = _; rw [Int.toNat_of_nonneg u19.1]) (by omega) (by decide) rfl (fun a122 c123 zf124 => (k1 ?_))) (an rfl rfl (callP (twin_bound_con (x0 := v5.1) hr103_0 hr103_1 hr103_2 u21) rfl rfl pf13 rfl rfl rfl (k0 ?_)) (an rfl rfl (makeMapB (enc := (fun x => Value.agg (encLag x).toArray)) (encV := unitV) rfl rfl rfl (fun b126 => (k1 ?_))) (True.intro))))
   ·skip
    refine TA.actN [5, 6] (by kernel_rfl) (an z z (callP (twin_bound_con (x0 := v5.1) hr103_0 hr103_1 hr103_2 u21) z z pf13 z z z (k1 ?_)) (an z z (makeMapB (enc := (fun x => Value.agg (encLag x).toArray)) (encV := unitV) z z z (fun b128 => (k2 ?_))) (True.intro)))
    ·skip
     refine TA.ac 6 z (makeMapB (enc := (fun x => Value.agg (encLag x).toArray)) (encV := unitV) z z z (fun b130 => (k2 ?_)))
     refine TA.a 7 z (buildL z pl49 ze49 z) z (TA.ac 8 z (boxA z z z z (fun b132 => (k3 ?_))))
     exact TA.a 9 z (moveLoc (.inr z) z) z (TA.dn (S.n (cf (v21, (b132, a122, c123, b130)) ⟨hh, zf124⟩ (Sub.f [1, 2, 2, 3] 4))))
    ·skip
     refine TA.ac 5 z (callP (twin_bound_con (x0 := v5.1) hr103_0 hr103_1 hr103_2 u21) z z pf13 z z z (k2 ?_))
     refine TA.a 7 z (buildL z pl49 ze49 z) z (TA.ac 8 z (boxA z z z z (fun b134 => (k3 ?_))))
     exact TA.a 9 z (moveLoc (.inr z) z) z (TA.dn (S.n (cf (v21, (b134, a122, c123, b128)) ⟨hh, zf124⟩ (Sub.f [1, 2, 2, 3] 4))))
   ·skip
    refine TA.actN [3, 6] (by kernel_rfl) (an rfl rfl (makeN (q := v5.1.states.toNat) (E := 38) (size := 8) (enc := encArc) rfl underlying46 sz23 by23 ze23 rfl rfl (by show Value.int _ _ = _; rw [Int.toNat_of_nonneg u19.1]) (by show Value.int _ _ = _; rw [Int.toNat_of_nonneg u19.1]) (by omega) (by decide) rfl (fun a136 c137 zf138 => (k1 ?_))) (an rfl rfl (makeMapB (enc := (fun x => Value.agg (encLag x).toArray)) (encV := unitV) rfl rfl rfl (fun b140 => (k1 ?_))) (True.intro)))
    ·skip
     refine TA.ac 6 z (makeMapB (enc := (fun x => Value.agg (encLag x).toArray)) (encV := unitV) z z z (fun b142 => (k2 ?_)))
     refine TA.a 7 z (buildL z pl49 ze49 z) z (TA.ac 8 z (boxA z z z z (fun b144 => (k3 ?_))))
     exact TA.a 9 z (moveLoc (.inr z) z) z (TA.dn (S.n (cf (v21, (b144, a136, c137, b142)) ⟨hh, zf138⟩ (Sub.f [1, 2, 2, 3] 4))))
    ·skip
     refine TA.ac 3 rfl (makeN (q := v5.1.states.toNat) (E := 38) (size := 8) (enc := encArc) rfl underlying46 sz23 by23 ze23 rfl rfl (by show Value.int _ _ = _; rw [Int.toNat_of_nonneg u19.1]) (by show Value.int _ _ = _; rw [Int.toNat_of_nonneg u19.1]) (by omega) (by decide) rfl (fun a146 c147 zf148 => (k2 ?_)))
     refine TA.a 7 z (buildL z pl49 ze49 z) z (TA.ac 8 z (boxA z z z z (fun b150 => (k3 ?_))))
     exact TA.a 9 z (moveLoc (.inr z) z) z (TA.dn (S.n (cf (v21, (b150, a146, c147, b140)) ⟨hh, zf148⟩ (Sub.f [2, 2, 2, 3] 4))))
   ·skip
    refine TA.actN [3, 5] (by kernel_rfl) (an rfl rfl (makeN (q := v5.1.states.toNat) (E := 38) (size := 8) (enc := encArc) rfl underlying46 sz23 by23 ze23 rfl rfl (by show Value.int _ _ = _; rw [Int.toNat_of_nonneg u19.1]) (by show Value.int _ _ = _; rw [Int.toNat_of_nonneg u19.1]) (by omega) (by decide) rfl (fun a152 c153 zf154 => (k2 ?_))) (an rfl rfl (callP (twin_bound_con (x0 := v5.1) hr103_0 hr103_1 hr103_2 u21) rfl rfl pf13 rfl rfl rfl (k1 ?_)) (True.intro)))
    ·skip
     refine TA.ac 5 z (callP (twin_bound_con (x0 := v5.1) hr103_0 hr103_1 hr103_2 u21) z z pf13 z z z (k2 ?_))
     refine TA.a 7 z (buildL z pl49 ze49 z) z (TA.ac 8 z (boxA z z z z (fun b156 => (k3 ?_))))
     exact TA.a 9 z (moveLoc (.inr z) z) z (TA.dn (S.n (cf (v21, (b156, a152, c153, b126)) ⟨hh, zf154⟩ (Sub.f [2, 2, 2, 3] 4))))
    ·skip
     refine TA.ac 3 rfl (makeN (q := v5.1.states.toNat) (E := 38) (size := 8) (enc := encArc) rfl underlying46 sz23 by23 ze23 rfl rfl (by show Value.int _ _ = _; rw [Int.toNat_of_nonneg u19.1]) (by show Value.int _ _ = _; rw [Int.toNat_of_nonneg u19.1]) (by omega) (by decide) rfl (fun a158 c159 zf160 => (k2 ?_)))
     refine TA.a 7 z (buildL z pl49 ze49 z) z (TA.ac 8 z (boxA z z z z (fun b162 => (k3 ?_))))
     exact TA.a 9 z (moveLoc (.inr z) z) z (TA.dn (S.n (cf (v21, (b162, a158, c159, b126)) ⟨hh, zf160⟩ (Sub.f [2, 2, 2, 3] 4))))
  ·skip
   obtain ⟨i111, ⟨b106, a108, c109, b113⟩⟩ := g
   obtain ⟨hh, zf110⟩ := hg
   try dsimp only at zf110 ⊢
   dsimp only [twin_Twin_j1] at hh
   have zf110b := zf110.len
   refine TC.know (isSl_nest (q := 2) z zf110) (fun ⟨_, hb164⟩ => ?_)
   refine TC.seq (TC.a (TL.w z (fieldLoc z fo25_3 z) (TL.w z (loadLoc z ag23 z (i := 0) z z) (TL.w z (lenC z underlying23 z) (TL.i z z (TL.en (TC.block (TC.loopG (α := ((List (List Arc)) × Nat) × ((List (NP Arc)))) (rgs [(7, 1), (31, 23)]) (fun g => [(31, .int .i64 ((g.1.2 : Nat) : Int))]) (fun g => [Res.cells b106 #[.int .i64 v5.1.states, .slice a103_1 v5.1.starts.length c103_1, .slice a103_2 v5.1.ends.length c103_2, .slice a103_3 v5.1.arcs.length c103_3, .slice a108 ((List.replicate v5.1.states.toNat ([] : List Arc)).length) c109, .int .i64 i111, .map (some b113)] 49, Res.nest 23 38 8 encArc (.slice a108 (List.replicate v5.1.states.toNat ([] : List Arc)).length c109) g.2, Res.mapB (fun x => Value.agg (encLag x).toArray) unitV (some b113) (FM.emp : FM TLag Unit)]) (fun g => τ103) (fun g => iter (fun q : (List (List Arc)) × Nat => twin_Twin_b1 v5 i111 q.1 q.2) g.1 = some r ∧ g.1.1.length = (List.replicate v5.1.states.toNat ([] : List Arc)).length ∧ Zn g.2 g.1.1) (fun g => rounds (fun q : (List (List Arc)) × Nat => twin_Twin_b1 v5 i111 q.1 q.2) g.1) (((List.replicate v5.1.states.toNat ([] : List Arc)), 0), (List.replicate v5.1.states.toNat (nilN : NP Arc))) (Sub.f [3, 3, 3] 3) z (by repeat (first | exact trivial | refine ⟨z, ?_⟩)) ⟨hh, z, zf110⟩ (fun g1 j1 hg1 => ?_)))))))))
   obtain ⟨⟨l176, k180⟩, z178⟩ := g1
   obtain ⟨hh, hn177, zf179⟩ := hg1
   try dsimp only at hn177 zf179 ⊢
   obtain ⟨z1, hh, hR1⟩ := iter_e hh
   dsimp only [twin_Twin_b1] at hh
   have hn177b := hn177
   have zf179b := zf179.len
   refine TC.know (isSl_nest (q := 1) z zf179) (fun ⟨_, hb181⟩ => ?_)
   refine TC.a (TL.w z (OpVal.lss z z z) (TL.en (TC.seq (TC.cD z hh (fun h182 hh => ?_) (fun h182 hh => ?_)))))
   ·refine TC.skip (S.n (TC.cutG (α := (Unit) × ((List (NP Arc)))) (rgs [(7, 1), (33, 20)]) (fun g => []) (fun g => [Res.cells b106 #[.int .i64 v5.1.states, .slice a103_1 v5.1.starts.length c103_1, .slice a103_2 v5.1.ends.length c103_2, .slice a103_3 v5.1.arcs.length c103_3, .slice a108 ((List.replicate v5.1.states.toNat ([] : List Arc)).length) c109, .int .i64 i111, .map (some b113)] 49, Res.nest 23 38 8 encArc (.slice a108 (List.replicate v5.1.states.toNat ([] : List Arc)).length c109) g.2, Res.mapB (fun x => Value.agg (encLag x).toArray) unitV (some b113) (FM.emp : FM TLag Unit)]) (fun g => τ103) (fun g => twin_Twin_j2 l176 v5 k180 = some z1 ∧ (l176.set (((nth v5.1.arcs k180 Arc.zero).frm).toNat) ((nth l176 (((nth v5.1.arcs k180 Arc.zero).frm).toNat) ([] : List Arc)) ++ [(nth v5.1.arcs k180 Arc.zero)])).length = (List.replicate v5.1.states.toNat ([] : List Arc)).length ∧ Zn g.2 (l176.set (((nth v5.1.arcs k180 Arc.zero).frm).toNat) ((nth l176 (((nth v5.1.arcs k180 Arc.zero).frm).toNat) ([] : List Arc)) ++ [(nth v5.1.arcs k180 Arc.zero)]))) ?_ (fun g j hg => ?_)))
    ·skip
     refine TC.block (TC.a (TL.w z (indexN z underlying23 sz38 z z hr103_2.rv.sl (by omega)) (TL.w z (loadSA Arc.zero z ag38 sz38 z hr103_2 (by omega) (by omega)) (TL.op z (OpOk.alloc z ze38 z z (fun b186 => ?_))))))
     refine TL.op z (storeAll z sz38 z z z z z z ?_)
     refine TL.en ?_
     have u47 := grd_c hh
     replace hh := grd_t hh
     have u51 := grd_c hh
     replace hh := grd_t hh
     have u52 := grd_c hh
     replace hh := grd_t hh
     refine TC.drawR (Hr := [Res.cells b186 #[.int .i64 ((nth v5.1.arcs k180 Arc.zero).frm), .int .i64 ((nth v5.1.arcs k180 Arc.zero).to), .int .u64 ((((nth v5.1.arcs k180 Arc.zero).set).a : Nat) : Int), .int .u64 ((((nth v5.1.arcs k180 Arc.zero).set).b : Nat) : Int), .int .u64 ((((nth v5.1.arcs k180 Arc.zero).set).c : Nat) : Int), .int .u64 ((((nth v5.1.arcs k180 Arc.zero).set).d : Nat) : Int), .string (bs ((nth v5.1.arcs k180 Arc.zero).out)), .bool ((nth v5.1.arcs k180 Arc.zero).copy)] 38, Res.cells b106 #[.int .i64 v5.1.states, .slice a103_1 v5.1.starts.length c103_1, .slice a103_2 v5.1.ends.length c103_2, .slice a103_3 v5.1.arcs.length c103_3, .slice a108 ((List.replicate v5.1.states.toNat ([] : List Arc)).length) c109, .int .i64 i111, .map (some b113)] 49, Res.mapB (fun x => Value.agg (encLag x).toArray) unitV (some b113) (FM.emp : FM TLag Unit)]) (fun r hr => mem_pick [0, 1, 3] z hr) [] (by kernel_rfl) (TA.a 0 z (moveLoc (.inl z) z) z (TA.a 1 z (nilCheckLoc z z) z (TA.a 2 z (fieldLoc z fo49_1 z) z (TA.b 3 z (loadLoc z ag46 z (i := 1) z z) z (TA.a 4 z (fieldLoc z fo38_0 z) z (TA.b 5 z (loadLoc z ag3 z (i := 0) z z) z (TA.a 6 z (moveLoc (.inl z) z) z (TA.a 7 z (nilCheckLoc z z) z (TA.a 8 z (fieldLoc z fo49_1 z) z (TA.b 9 z (loadLoc z ag46 z (i := 1) z z) z (TA.a 10 z (fieldLoc z fo38_0 z) z (TA.b 11 z (loadLoc z ag3 z (i := 0) z z) z (TA.know (isSl_nest (q := 2) z zf179) (fun ⟨hs199, hs199b⟩ => ?_))))))))))))))
     refine TA.b 12 z (OpVal.index z underlying46 sz23 z z hs199 u47.1 u47.2) z (TA.b 14 z (loadAll z ag38 sz38 z (i := 0) z z) z ?_)
     obtain ⟨p200, hz200, hm200⟩ := Zn.at zf179 (i := ((nth v5.1.arcs k180 Arc.zero).frm).toNat) (by omega)
     refine TA.actN [13, 15] (by kernel_rfl) (an z z (OpVal.ok (loadN z ag23 z (q := 2) z hz200 hm200) z z ⟨(fun w h => sees_of (Store.le.refl _) (fun r hr => mem_pick [0, 1, 3] z hr) w h), ?_⟩) (an z z (OpOk.lit (enc := encArc) [(nth v5.1.arcs k180 Arc.zero)] z underlying23 sz38 ze38 z z z encArc_len (by decide) (by decide) Arc.zero z (by decide) z (by decide) encArc_one (fun a201 c202 => ⟨(fun w h => sees_of (Store.le.refl _) (fun r hr => mem_pick [1, 2, 4] z hr) w h), ?_⟩)) (True.intro)))
     ·skip
      refine TA.ac 15 z (OpOk.lit (enc := encArc) [(nth v5.1.arcs k180 Arc.zero)] z underlying23 sz38 ze38 z z z encArc_len (by decide) (by decide) Arc.zero z (by decide) z (by decide) encArc_one (fun a204 c205 => ⟨(fun w h => sees_of (Store.le.refl _) (fun r hr => mem_pick [1, 2, 4] z hr) w h), ?_⟩))
      refine TA.front 3 z z (TA.by (fun w h => Reach.takeN hz200 hm200 h) (TA.ac 16 z (appendS z z underlying23 sz38 by38 ze38 z z (by decide) z z z (.inr ⟨_, 1, z⟩) (by simpa using u51) (by decide) (fun a208 c209 => (k3 ?_)))))
      refine TA.know (isSl_nestX (q := 1) z zf179) (fun ⟨hs210, hs210b⟩ => ?_)
      refine TA.b 17 z (OpVal.index z underlying46 sz23 z z hs210 u52.1 u52.2) z (TA.front 1 z z (TA.front 1 z z ?_))
      have hn212 : (l176.set (((nth v5.1.arcs k180 Arc.zero).frm).toNat) ((nth l176 (((nth v5.1.arcs k180 Arc.zero).frm).toNat) ([] : List Arc)) ++ [(nth v5.1.arcs k180 Arc.zero)])).length = (List.replicate v5.1.states.toNat ([] : List Arc)).length := (List.length_set ..).trans hn177
      refine TA.ac 18 rfl (storeX (l' := ((nth l176 (((nth v5.1.arcs k180 Arc.zero).frm).toNat) ([] : List Arc)) ++ [(nth v5.1.arcs k180 Arc.zero)])) rfl sz23 rfl rfl rfl rfl rfl (by rw [zf179.len]; omega) zf179 (fun zf211 => (k2 ?_)))
      exact TA.dn (B.n (S.n (cf ((), (z178.set (((nth v5.1.arcs k180 Arc.zero).frm).toNat) (((nth l176 (((nth v5.1.arcs k180 Arc.zero).frm).toNat) ([] : List Arc)) ++ [(nth v5.1.arcs k180 Arc.zero)]), (a208, c209)))) ⟨hh, hn212, zf211⟩ (Sub.f [4, 1, 4] 3))))
     ·skip
      obtain ⟨p213, hz213, hm213⟩ := Zn.at zf179 (i := ((nth v5.1.arcs k180 Arc.zero).frm).toNat) (by omega)
      refine TA.ac 13 z (OpVal.ok (loadN z ag23 z (q := 3) z hz213 hm213) z z ⟨(fun w h => sees_of (Store.le.refl _) (fun r hr => mem_pick [1, 2, 4] z hr) w h), ?_⟩)
      refine TA.front 3 z z (TA.by (fun w h => Reach.takeN hz213 hm213 h) (TA.ac 16 z (appendS z z underlying23 sz38 by38 ze38 z z (by decide) z z z (.inr ⟨_, 1, z⟩) (by simpa using u51) (by decide) (fun a215 c216 => (k3 ?_)))))
      refine TA.know (isSl_nestX (q := 1) z zf179) (fun ⟨hs217, hs217b⟩ => ?_)
      refine TA.b 17 z (OpVal.index z underlying46 sz23 z z hs217 u52.1 u52.2) z (TA.front 1 z z (TA.front 1 z z ?_))
      have hn219 : (l176.set (((nth v5.1.arcs k180 Arc.zero).frm).toNat) ((nth l176 (((nth v5.1.arcs k180 Arc.zero).frm).toNat) ([] : List Arc)) ++ [(nth v5.1.arcs k180 Arc.zero)])).length = (List.replicate v5.1.states.toNat ([] : List Arc)).length := (List.length_set ..).trans hn177
      refine TA.ac 18 rfl (storeX (l' := ((nth l176 (((nth v5.1.arcs k180 Arc.zero).frm).toNat) ([] : List Arc)) ++ [(nth v5.1.arcs k180 Arc.zero)])) rfl sz23 rfl rfl rfl rfl rfl (by rw [zf179.len]; omega) zf179 (fun zf218 => (k2 ?_)))
      exact TA.dn (B.n (S.n (cf ((), (z178.set (((nth v5.1.arcs k180 Arc.zero).frm).toNat) (((nth l176 (((nth v5.1.arcs k180 Arc.zero).frm).toNat) ([] : List Arc)) ++ [(nth v5.1.arcs k180 Arc.zero)]), (a215, c216)))) ⟨hh, hn219, zf218⟩ (Sub.f [4, 1, 4] 3))))
    ·skip
     obtain ⟨_, z184⟩ := g
     obtain ⟨hh, hn183, zf185⟩ := hg
     try dsimp only at hn183 zf185 ⊢
     dsimp only [twin_Twin_j2] at hh
     have hn183b := hn183
     have zf185b := zf185.len
     refine TC.know (isSl_nest (q := 1) z zf185) (fun ⟨_, hb220⟩ => ?_)
     refine TC.region (TL.w z (OpVal.succ z z z (by omega)) (TL.i z z (TL.en ?_)))
     obtain ⟨hh, hlt221⟩ := nxt_x hR1 hh
     exact lf (((l176.set (((nth v5.1.arcs k180 Arc.zero).frm).toNat) ((nth l176 (((nth v5.1.arcs k180 Arc.zero).frm).toNat) ([] : List Arc)) ++ [(nth v5.1.arcs k180 Arc.zero)])), (k180 + 1)), z184) hlt221 ⟨hh, hn183, zf185⟩ (Sub.f [2, 2, 2] 3)
   ·refine TC.exit (S.x (S.x ?_))
    replace hh := fin_x hR1 hh
    refine TC.exitHere (S.n (TC.a (TL.l z z (TL.l z z ?_))))
    rw [← hn177]
    refine TL.front 1 z z (TL.seals (fun w h => Reach.sealNest encArc_len zf179 h) (fun τ224 hle223 hr222 => ?_))
    replace hr103_0 := hr103_0.mono hle223
    replace hr103_1 := hr103_1.mono hle223
    replace hr103_2 := hr103_2.mono hle223
    have hr222b := hr222.big
    refine TL.seals (fun w h => Reach.sealC h) (fun τ227 hle226 hs225 => ?_)
    replace hr103_0 := hr103_0.mono hle226
    replace hr103_1 := hr103_1.mono hle226
    replace hr103_2 := hr103_2.mono hle226
    replace hr222 := hr222.mono hle226
    obtain ⟨v58, u58, hh⟩ := bnd_e hh
    refine TL.op z (OpOk.call (twin_walk_first_con hs225 hr103_0 hr103_1 hr103_2 hr222 u58) z z pf17 z z z z ?_)
    rintro _ τ228 _ hle228 ⟨b228_17, b228_1, Eb228_2, a228_4, c228_5, a228_7, c228_8, a228_10, c228_11, a228_13, c228_14, m228_16, rfl, h228_3, f228_6, f228_9, f228_12, f228_15, rfl⟩
    replace hr103_0 := hr103_0.mono hle228
    replace hr103_1 := hr103_1.mono hle228
    replace hr103_2 := hr103_2.mono hle228
    replace hr222 := hr222.mono hle228
    replace hs225 := hs225.mono hle228
    skip
    have f228_6b := f228_6.rv.big
    have f228_9b := f228_9.rv.big
    have f228_12b := f228_12.rv.big
    have f228_15b := f228_15.big
    refine TL.front 1 z z ?_
    obtain ⟨v59, u59, hh⟩ := bnd_e hh
    refine TL.op z (OpOk.call (takeFirst_con hs225 hr103_0 hr103_1 hr103_2 hr222 h228_3 f228_6 f228_9 f228_12 f228_15 u59) z z pf16 z z z z ?_)
    rintro _ _ _ hle234 ⟨a234_1, c234_2, rfl, rfl, rfl⟩
    refine TL.w z (moveT (.inl z) z) (TL.w z (OpVal.extract z z z) (TL.w z (OpVal.extract z z z) (TL.w z (OpVal.extract z z z) (TL.s z z (TL.j z z (TL.j z z (TL.en (TC.block (TC.loopG (α := ((FM TLag Unit) × (List TLag) × Bool × Bool) × ((Option Addr) × Nat × Store)) (rgs [(2, 2), (8, 3), (62, 17)]) (fun g => [(8, .slice g.2.1 g.1.2.1.length g.2.2.1), (9, .bool g.1.2.2.1), (10, .bool g.1.2.2.2)]) (fun g => [Res.mapB (fun x => Value.agg (encLag x).toArray) unitV (some b113) g.1.1, Res.rowS 71 4 encLag (.slice g.2.1 g.1.2.1.length g.2.2.1) g.1.2.1]) (fun g => g.2.2.2) (fun g => iter (fun q : (FM TLag Unit) × (List TLag) × Bool × Bool => twin_Twin_b2 v5 l176 i111 q.1 q.2.1 q.2.2.1 q.2.2.2) g.1 = some r ∧ Store.le τ228 g.2.2.2) (fun g => rounds (fun q : (FM TLag Unit) × (List TLag) × Bool × Bool => twin_Twin_b2 v5 l176 i111 q.1 q.2.1 q.2.2.1 q.2.2.2) g.1) ((v59.2.2.2, v59.1, v59.2.1, v59.2.2.1), (a234_1, c234_2, τ228)) (Sub.f [1] 2) z (by repeat (first | exact trivial | refine ⟨z, ?_⟩)) ⟨hh, (Store.le.refl _)⟩ (fun g2 j2 hg2 => ?_))))))))))
    obtain ⟨⟨m250, l252, t255, t256⟩, ⟨a253, c254, τ257⟩⟩ := g2
    obtain ⟨hh, hle258⟩ := hg2
    dsimp only at hle258
    replace hr103_0 := hr103_0.mono hle258
    replace hr103_1 := hr103_1.mono hle258
    replace hr103_2 := hr103_2.mono hle258
    replace hr222 := hr222.mono hle258
    replace hs225 := hs225.mono hle258
    try dsimp only
    obtain ⟨z1, hh, hR1⟩ := iter_e hh
    dsimp only [twin_Twin_b2] at hh
    refine TC.isSl (i := 1) z (fun _ hb259 _ => ?_)
    refine TC.block (TC.seq (TC.block (TC.a (TL.j z z (TL.j z z (TL.en (TC.cB z hh (fun h260 hh => ?_) (fun h260 hh => ?_))))))))
    ·refine TC.a (TL.j z z (TL.i z z (TL.en (TC.ofSub (Sub.pre 0 z) (TC.back (TC.ret (B.r (S.r (B.r (S.r ?_))))))))))
     replace hh := fin_x hR1 hh
     refine B.r ?_
     obtain rfl := so hh
     exact rq [2, 3] ⟨z, z, z⟩
    ·refine TC.a (TL.j z z (TL.j z z (TL.en (TC.cB z hh (fun h261 hh => ?_) (fun h261 hh => ?_)))))
     ·refine TC.a (TL.j z z (TL.i z z (TL.en (TC.ofSub (Sub.pre 0 z) (TC.back (TC.ret (B.r (S.r (B.r (S.r ?_))))))))))
      replace hh := fin_x hR1 hh
      refine B.r ?_
      obtain rfl := so hh
      exact rq [2, 3] ⟨z, z, z⟩
     ·refine TC.a (TL.s z z (TL.w z (lenC z underlying50 z) (TL.w z (OpVal.eql z z z) (TL.j z z (TL.en (TC.cD z hh (fun h262 hh => ?_) (fun h262 hh => ?_)))))))
      ·refine TC.a (TL.j z z (TL.i z z (TL.en (TC.ofSub (Sub.pre 0 z) (TC.back (TC.ret (B.r (S.r (B.r (S.r ?_))))))))))
       replace hh := fin_x hR1 hh
       refine B.r ?_
       obtain rfl := so hh
       exact rq [2, 3] ⟨z, z, z⟩
      ·refine TC.skip (B.n (S.n (TC.region (TL.l z z (TL.l z z (TL.s z z (TL.front 1 z z (TL.sealS encLag_len (fun τ265 hle264 hr263 => ?_)))))))))
       replace hr103_0 := hr103_0.mono hle264
       replace hr103_1 := hr103_1.mono hle264
       replace hr103_2 := hr103_2.mono hle264
       replace hr222 := hr222.mono hle264
       replace hs225 := hs225.mono hle264
       have hr263b := hr263.rv.big
       obtain ⟨v84, u84, hh⟩ := bnd_e hh
       refine TL.op z (OpOk.call (twin_walk_next_con hs225 hr103_0 hr103_1 hr103_2 hr222 hr263 u84) z z pf18 z z z z ?_)
       rintro _ τ266 _ hle266 ⟨b266_4, a266_1, c266_2, b266_21, b266_5, Eb266_6, a266_8, c266_9, a266_11, c266_12, a266_14, c266_15, a266_17, c266_18, m266_20, rfl, f266_3, h266_7, f266_10, f266_13, f266_16, f266_19, rfl⟩
       replace hr103_0 := hr103_0.mono hle266
       replace hr103_1 := hr103_1.mono hle266
       replace hr103_2 := hr103_2.mono hle266
       replace hr222 := hr222.mono hle266
       replace hs225 := hs225.mono hle266
       have f266_3b := f266_3.rv.big
       skip
       have f266_10b := f266_10.rv.big
       have f266_13b := f266_13.rv.big
       have f266_16b := f266_16.rv.big
       have f266_19b := f266_19.big
       refine TL.front 1 z z (TL.front 1 z z (TL.front 2 z z ?_))
       obtain ⟨v85, u85, hh⟩ := bnd_e hh
       refine TL.op z (OpOk.call (takeNext_con hs225 hr103_0 hr103_1 hr103_2 hr222 f266_3 h266_7 f266_10 f266_13 f266_16 f266_19 u85) z z pf16 z z z z ?_)
       rintro _ _ _ hle274 ⟨a274_1, c274_2, rfl, rfl, rfl⟩
       refine TL.w z (moveT (.inl z) z) (TL.w z (OpVal.extract z z z) (TL.w z (OpVal.extract z z z) (TL.w z (OpVal.extract z z z) (TL.s z z (TL.j z z (TL.j z z (TL.nil (B.n (S.n ?_)))))))))
       obtain ⟨hh, hlt276⟩ := nxt_x hR1 hh
       exact lf ((v85.2.2.2, v85.1, v85.2.1, v85.2.2.1), (a274_1, c274_2, τ266)) hlt276 ⟨hh, ((hle258.trans hle264).trans hle266)⟩ (Sub.f [1] 2)

end Go.Proofs.YtcfjjckencjjeaaGreat
end

/- Par -/
section
/- Drawn regions whose operations do not meet: each is looked at once, in whatever order they come up. Plain lemmas over any program; no condition. -/
set_option linter.unusedVariables false
set_option linter.unusedSimpArgs false
namespace Go.E
open Go
abbrev Gh := Nat → Option Addr × Nat
def updG (γ : Gh) (i : Nat) (g : Option Addr × Nat) : Gh := fun j => if j = i then g else γ j
/-- An operation: its slot; whose names its value speaks of; its value; what it makes; whose makings it uses up. -/
structure PO where
  dst : Nat
  use : List Nat
  val : List (Option Addr × Nat) → Value
  res : List (Option Addr × Nat) → List Res
  eat : List Nat
def PO.no : PO := ⟨0, [], fun _ => undef, fun _ => [], []⟩
def po (D : List PO) (k : Nat) : PO := D.getD k PO.no
def pv (D : List PO) (k : Nat) (γ : Gh) : Value := (po D k).val ((po D k).use.map γ)
def pr (D : List PO) (k : Nat) (γ : Gh) : List Res := (po D k).res ((po D k).use.map γ)
def eaten (D : List PO) (L : Array Bool) (k : Nat) : Bool := (List.range D.length).any fun i => L.getD i false && (po D i).eat.contains k
def pick (p : Nat → Bool) (f : Nat → List Res) (n : Nat) : List Res := (List.range n).flatMap fun k => if p k = true then f k else []
/-- What stands, once these have come up. -/
def pR (D : List PO) (L : Array Bool) (γ : Gh) : List Res := pick (fun k => L.getD k false && !eaten D L k) (fun k => pr D k γ) D.length
def penv (D : List PO) (e : Env) (γ : Gh) : Env := (List.range D.length).foldl (fun e k => upd e (po D k).dst (pv D k γ)) e
def endL (n m : Nat) : Array Bool := ((List.range n).map fun i => Nat.blt i m).toArray
def chkPar (ops : Array Oper) (late : List Nat) (D : List PO) : Bool :=
  Nat.ble D.length ops.size && late.all (fun j => Nat.ble D.length j) &&
  (List.range D.length).all (fun i =>
    (match ops[i]? with | some o => o.after.toList.all fun e => !Region.binds .any e || Nat.blt e.on i | none => false) &&
    (po D i).use.all (fun j => j == i || after? ops ops.size i j) && (po D i).eat.all (fun k => Nat.blt k i && after? ops ops.size i k) &&
    (List.range D.length).all (fun k => k == i || (!((po D k).dst == (po D i).dst) && (po D i).eat.all fun j => !(po D k).eat.contains j)) &&
    ((List.range D.length).filter fun k => (po D i).eat.contains k) == (po D i).eat) &&
  (List.range ops.size).all fun j => Nat.blt j D.length || (List.range D.length).all fun i => after? ops ops.size j i

theorem pick_perm (p q : Nat → Bool) (f : Nat → List Res) : ∀ n, (pick p f n).Perm (pick (fun k => p k && q k) f n ++ pick (fun k => p k && !q k) f n)
  | 0 => List.Perm.refl _
  | n + 1 => by
    have ih := pick_perm p q f n
    unfold pick at *
    rw [List.range_succ, List.flatMap_append, List.flatMap_append, List.flatMap_append, List.flatMap_singleton, List.flatMap_singleton, List.flatMap_singleton]
    dsimp only at ih ⊢
    rcases Bool.eq_false_or_eq_true (p n) with hp | hp <;> rcases Bool.eq_false_or_eq_true (q n) with hq | hq <;> simp only [hp, hq, Bool.false_and, Bool.true_and, Bool.not_true, Bool.not_false, Bool.false_eq_true, if_true, if_false, List.append_nil]
    · refine (ih.append_right _).trans ?_
      rw [List.append_assoc, List.append_assoc]
      exact (List.perm_append_comm).append_left _
    · refine (ih.append_right _).trans ?_
      rw [List.append_assoc]
    · exact ih
    · exact ih
theorem pick_congr {p q : Nat → Bool} {f g : Nat → List Res} : ∀ {n : Nat}, (∀ k, k < n → p k = q k ∧ (p k = true → f k = g k)) → pick p f n = pick q g n
  | 0, _ => rfl
  | n + 1, h => by
    have ih := pick_congr (n := n) (p := p) (q := q) (f := f) (g := g) fun k hk => h k (Nat.lt_succ_of_lt hk)
    unfold pick at *
    rw [List.range_succ, List.flatMap_append, List.flatMap_append, List.flatMap_singleton, List.flatMap_singleton, ih]
    obtain ⟨h1, h2⟩ := h n (Nat.lt_succ_self n)
    rw [← h1]
    split
    · rename_i hp; rw [h2 hp]
    · rfl
theorem pick_filter (p : Nat → Bool) (f : Nat → List Res) : ∀ n, pick p f n = ((List.range n).filter p).flatMap f
  | 0 => rfl
  | n + 1 => by
    have ih := pick_filter p f n
    unfold pick at *
    rw [List.range_succ, List.flatMap_append, List.flatMap_singleton, ih, List.filter_append, List.flatMap_append]
    cases h : p n <;> simp [h]
theorem pick_one {f : Nat → List Res} {i : Nat} : ∀ {n : Nat}, i < n → pick (fun k => k == i) f n = f i := fun {n} hi => by
  rw [pick_filter]
  have : (List.range n).filter (fun k => k == i) = [i] := by
    have h1 := List.filter_beq (l := List.range n) (a := i)
    rw [h1, List.nodup_range.count, if_pos (List.mem_range.2 hi)]; rfl
  rw [this]; simp
theorem updG_ne (γ : Gh) {i j : Nat} (g : Option Addr × Nat) (h : j ≠ i) : updG γ i g j = γ j := if_neg h

section
variable {X : Ctx} {ops : Array Oper} {Q : QP} {e0 : Env} {σ : Store} {H0 : List Res} {late : List Nat} {f : Nat} {D : List PO}
/-- What is asked of an operation. -/
def PObl (X : Ctx) (ops : Array Oper) (σ : Store) (H0 : List Res) (e0 : Env) (D : List PO) (i : Nat) : Prop :=
  ∃ oi : Oper, ops[i]? = some oi ∧ oi.guard = none ∧ ∀ (e : Env) (γ : Gh) (F : List Res),
    (∀ k, after? ops ops.size i k = true → Nat.blt k D.length = true → e (po D k).dst = pv D k γ) → (∀ t, (D.map PO.dst).contains t = false → e t = e0 t) →
    OpOk X oi e σ ((po D i).eat.flatMap (fun k => pr D k γ) ++ (H0 ++ F)) fun e' σ' H' => σ' = σ ∧ ∃ g, e' = upd e (po D i).dst (pv D i (updG γ i g)) ∧ H'.Perm (pr D i (updG γ i g) ++ (H0 ++ F))
def PObls (X : Ctx) (ops : Array Oper) (σ : Store) (H0 : List Res) (e0 : Env) (D : List PO) : Nat → Prop
  | 0 => True
  | i + 1 => PObls X ops σ H0 e0 D i ∧ PObl X ops σ H0 e0 D i
theorem PObls.at : ∀ {n : Nat}, PObls X ops σ H0 e0 D n → ∀ {i : Nat}, i < n → PObl X ops σ H0 e0 D i
  | n + 1, h, i, hi => by
    rcases Nat.lt_succ_iff_lt_or_eq.1 hi with h1 | rfl
    · exact h.1.at h1
    · exact h.2
structure PJ (ops : Array Oper) (e0 : Env) (H0 : List Res) (D : List PO) (L : Array Bool) (γ : Gh) (e : Env) (H : List Res) : Prop where
  size : L.size = ops.size
  on : ∀ k, k < D.length → L.getD k false = true → e (po D k).dst = pv D k γ
  off : ∀ t, (∀ k, k < D.length → L.getD k false = true → (po D k).dst ≠ t) → e t = e0 t
  rest : ∀ j, D.length ≤ j → L.getD j false = false
  heap : H.Perm (H0 ++ pR D L γ)
theorem getD_ff {L : Array Bool} {i : Nat} (hi : i < L.size) : L.getD i true = L.getD i false := by
  simp [Array.getD_eq_getD_getElem?, hi]
structure ChkI (ops : Array Oper) (D : List PO) (i : Nat) : Prop where
  deps : ∃ o, ops[i]? = some o ∧ ∀ e ∈ o.after, Region.binds .any e = true → e.on < i
  use : ∀ j ∈ (po D i).use, j = i ∨ after? ops ops.size i j = true
  eat : ∀ j ∈ (po D i).eat, j < i ∧ after? ops ops.size i j = true
  dst : ∀ k, k < D.length → k ≠ i → (po D k).dst ≠ (po D i).dst
  sep : ∀ k, k < D.length → k ≠ i → ∀ j ∈ (po D i).eat, (po D k).eat.contains j = false
  ord : (List.range D.length).filter (fun k => (po D i).eat.contains k) = (po D i).eat
theorem chk_i (h : chkPar ops late D = true) {i : Nat} (hi : i < D.length) : ChkI ops D i := by
  simp only [chkPar, Bool.and_eq_true, List.all_eq_true, List.mem_range] at h
  have h2 := h.1.2 i hi
  obtain ⟨⟨⟨⟨h3, h4⟩, h5⟩, h6⟩, h7⟩ := h2
  refine ⟨?_, fun j hj => ?_, fun j hj => ?_, fun k hk hn => ?_, fun k hk hn j hj => ?_, by simpa using h7⟩
  · cases ho : ops[i]? with
    | none => rw [ho] at h3; cases h3
    | some o =>
      rw [ho] at h3
      refine ⟨o, rfl, fun e he hb => ?_⟩
      have := List.all_eq_true.1 h3 e (by simpa using he)
      simpa [hb, Nat.blt_eq] using this
  · have := h4 j hj; simpa using this
  · have := h5 j hj; simpa [Nat.blt_eq] using this
  · have := h6 k hk
    simp only [Bool.or_eq_true, beq_iff_eq, hn, false_or, Bool.and_eq_true, Bool.not_eq_true', beq_eq_false_iff_ne] at this
    exact this.1
  · have := h6 k hk
    simp only [Bool.or_eq_true, beq_iff_eq, hn, false_or, Bool.and_eq_true, Bool.not_eq_true', beq_eq_false_iff_ne, List.all_eq_true] at this
    exact this.2 j hj
theorem blt_t {a b : Nat} (h : a < b) : Nat.blt a b = true := by rw [Nat.blt_eq]; exact h
theorem blt_f {a b : Nat} (h : ¬ a < b) : Nat.blt a b = false := by rw [Bool.eq_false_iff]; intro hb; rw [Nat.blt_eq] at hb; exact h hb
theorem getD_endL {n m i : Nat} : (endL n m).getD i false = (Nat.blt i n && Nat.blt i m) := by
  unfold endL
  rw [Array.getD_eq_getD_getElem?, List.getElem?_toArray, List.getElem?_map]
  by_cases h : i < n
  · rw [List.getElem?_range h]
    rw [blt_t h]; rfl
  · have h' : Nat.blt i n = false := blt_f h
    rw [h', List.getElem?_eq_none (by simpa using h)]; rfl
theorem all_L {L : Array Bool} {n m : Nat} (hs : L.size = n) (h1 : ∀ k, k < m → L.getD k false = true) (h2 : ∀ j, m ≤ j → L.getD j false = false) : L = endL n m := by
  apply Array.ext
  · simp [endL, hs]
  · intro i hi hi2
    have e1 : L[i] = L.getD i false := by simp [Array.getD_eq_getD_getElem?, hi]
    have e2 : (endL n m)[i] = (endL n m).getD i false := by simp [Array.getD_eq_getD_getElem?, hi2]
    rw [e1, e2, getD_endL, blt_t (hs ▸ hi : i < n), Bool.true_and]
    by_cases c : i < m
    · rw [h1 i c, blt_t c]
    · rw [h2 i (Nat.le_of_not_lt c)]
      exact (blt_f c).symm
theorem penv_at (γ : Gh) : ∀ (n : Nat) (t : Nat), (∀ k j, k < n → j < n → k ≠ j → (po D k).dst ≠ (po D j).dst) →
    (∀ k, k < n → (po D k).dst = t → (List.range n).foldl (fun e k => upd e (po D k).dst (pv D k γ)) e0 t = pv D k γ) ∧ ((∀ k, k < n → (po D k).dst ≠ t) → (List.range n).foldl (fun e k => upd e (po D k).dst (pv D k γ)) e0 t = e0 t)
  | 0, t, _ => ⟨fun k hk => absurd hk (Nat.not_lt_zero _), fun _ => rfl⟩
  | n + 1, t, h => by
    obtain ⟨i1, i2⟩ := penv_at γ n t fun k j hk hj => h k j (Nat.lt_succ_of_lt hk) (Nat.lt_succ_of_lt hj)
    rw [List.range_succ, List.foldl_append, List.foldl_cons, List.foldl_nil]
    unfold upd at *
    refine ⟨fun k hk hd => ?_, fun hk => ?_⟩
    · by_cases c : k = n
      · subst c; rw [if_pos hd.symm]
      · have hk' : k < n := by omega
        rw [if_neg (fun he => h k n hk (Nat.lt_succ_self n) c (hd.trans he)), i1 k hk' hd]
    · rw [if_neg (fun he => hk n (Nat.lt_succ_self n) he.symm), i2 fun k hk' => hk k (Nat.lt_succ_of_lt hk')]
theorem least_off {L : Array Bool} : ∀ {m : Nat}, (∃ i, i < m ∧ L.getD i false = false) → ∃ i, i < m ∧ L.getD i false = false ∧ ∀ k, k < i → L.getD k false = true
  | 0, ⟨_, h, _⟩ => absurd h (Nat.not_lt_zero _)
  | m + 1, ⟨i, hi, h⟩ => by
    by_cases c : ∃ i, i < m ∧ L.getD i false = false
    · obtain ⟨j, h1, h2⟩ := least_off c
      exact ⟨j, by omega, h2⟩
    · have : i = m := by
        rcases Nat.lt_succ_iff_lt_or_eq.1 hi with h1 | h1
        · exact absurd ⟨i, h1, h⟩ c
        · exact h1
      subst this
      refine ⟨i, hi, h, fun k hk => ?_⟩
      cases hL : L.getD k false with
      | true => rfl
      | false => exact absurd ⟨k, hk, hL⟩ c
theorem pv_keep {γ : Gh} {i k : Nat} {g : Option Addr × Nat} (h : i ∉ (po D k).use) : pv D k (updG γ i g) = pv D k γ := by
  unfold pv
  congr 1
  exact List.map_congr_left fun j hj => updG_ne γ g fun he => h (he ▸ hj)
theorem pr_keep {γ : Gh} {i k : Nat} {g : Option Addr × Nat} (h : i ∉ (po D k).use) : pr D k (updG γ i g) = pr D k γ := by
  unfold pr
  congr 1
  exact List.map_congr_left fun j hj => updG_ne γ g fun he => h (he ▸ hj)

theorem par_go (hc : chkPar ops late D = true) (hOb : PObls X ops σ H0 e0 D D.length) (hE : ∀ γ, TA X ops Q σ H0 late f (endL ops.size D.length) (penv D e0 γ) σ (H0 ++ pR D (endL ops.size D.length) γ)) :
    ∀ (u : Nat) (L : Array Bool) (γ : Gh) (e : Env) (H : List Res), ((List.range D.length).filter fun k => !L.getD k false).length = u → PJ ops e0 H0 D L γ e H → TA X ops Q σ H0 late (u + f) L e σ H := by
  have hc' := hc
  simp only [chkPar, Bool.and_eq_true, List.all_eq_true, List.mem_range, Nat.ble_eq] at hc'
  obtain ⟨⟨⟨hm, hlate⟩, _⟩, hlast⟩ := hc'
  intro u
  induction u with
  | zero =>
    intro L γ e H hu J
    have hall : ∀ k, k < D.length → L.getD k false = true := fun k hk => by
      cases hL : L.getD k false with
      | true => rfl
      | false =>
        have : k ∈ (List.range D.length).filter fun k => !L.getD k false := List.mem_filter.2 ⟨List.mem_range.2 hk, by rw [hL]; rfl⟩
        rw [List.length_eq_zero_iff.1 hu] at this; cases this
    obtain rfl := all_L J.size hall J.rest
    have he : e = penv D e0 γ := by
      funext t
      have := penv_at (D := D) (e0 := e0) γ D.length t fun k j hk hj hn => (chk_i hc hj).dst k hk hn
      by_cases c : ∃ k, k < D.length ∧ (po D k).dst = t
      · obtain ⟨k, hk, hd⟩ := c
        rw [show penv D e0 γ t = pv D k γ from this.1 k hk hd, ← hd]
        exact J.on k hk (hall k hk)
      · rw [show penv D e0 γ t = e0 t from this.2 fun k hk hd => c ⟨k, hk, hd⟩]
        exact J.off t fun k hk _ hd => c ⟨k, hk, hd⟩
    subst he
    rw [Nat.zero_add]
    intro hnd w a hw hS hcl ha
    exact hE γ hnd w a (hw.perm J.heap.symm) hS hcl ha
  | succ u ih =>
    intro L γ e H hu J
    rw [show u + 1 + f = (u + f) + 1 by omega]
    intro hnd w a hw hS hcl ha
    have hoff : ∃ i, i < D.length ∧ L.getD i false = false := by
      cases hl : (List.range D.length).filter fun k => !L.getD k false with
      | nil => rw [hl] at hu; cases hu
      | cons i r =>
        have : i ∈ (List.range D.length).filter fun k => !L.getD k false := by rw [hl]; exact List.mem_cons_self
        obtain ⟨h1, h2⟩ := List.mem_filter.1 this
        exact ⟨i, List.mem_range.1 h1, by simpa using h2⟩
    have hne : Region.ready .any ops L ≠ [] := by
      obtain ⟨i, hi, h1, h2⟩ := least_off hoff
      obtain ⟨o, ho, hd⟩ := (chk_i hc hi).deps
      have : i ∈ Region.ready .any ops L := mem_ready.2 ⟨by rw [getD_ff (by rw [J.size]; omega)]; exact h1, o, ho, fun e he hb => h2 _ (hd e he hb)⟩
      intro h0; rw [h0] at this; cases this
    refine ⟨fun h0 => absurd h0 hne, fun j hj => ?_⟩
    have hst := hcl.step hj
    obtain ⟨hju, o, ho, hdl⟩ := mem_ready.1 hj
    have hjs : j < L.size := by
      rcases Nat.lt_or_ge j L.size with h | h
      · exact h
      · simp [Array.getD_eq_getD_getElem?, Array.getElem?_eq_none h] at hju
    have hju' : L.getD j false = false := by rw [← getD_ff hjs]; exact hju
    have hlist : ∀ k, after? ops ops.size j k = true → L.getD k false = true := fun k hk => hcl.after _ j k (fun o' ho' => by rw [ho] at ho'; cases ho'; exact hdl) hk
    have hjm : j < D.length := by
      rcases Nat.lt_or_ge j D.length with h | h
      · exact h
      · exfalso
        obtain ⟨i, hi, h1⟩ := hoff
        have := hlast j (by rw [← J.size]; exact hjs)
        simp only [Bool.or_eq_true, List.all_eq_true, List.mem_range, Nat.blt_eq] at this
        rcases this with h2 | h2
        · omega
        · rw [hlist i (h2 i hi)] at h1; cases h1
    have C := chk_i hc hjm
    obtain ⟨oi, hi, hg, hob⟩ := hOb.at hjm
    have hF : (pR D L γ).Perm ((po D j).eat.flatMap (fun k => pr D k γ) ++ pick (fun k => (L.getD k false && !eaten D L k) && !(po D j).eat.contains k) (fun k => pr D k γ) D.length) := by
      refine (pick_perm _ (fun k => (po D j).eat.contains k) _ _).trans ?_
      refine List.Perm.append_right _ ?_
      have : pick (fun k => (L.getD k false && !eaten D L k) && (po D j).eat.contains k) (fun k => pr D k γ) D.length = (po D j).eat.flatMap fun k => pr D k γ := by
        rw [← C.ord, ← pick_filter, C.ord]
        refine pick_congr fun k hk => ⟨?_, fun _ => rfl⟩
        cases hct : (po D j).eat.contains k with
        | false => rw [Bool.and_false]
        | true =>
          have hmem : k ∈ (po D j).eat := by simpa using hct
          have h1 := hlist k (C.eat k hmem).2
          have h2 : eaten D L k = false := by
            rw [Bool.eq_false_iff]
            intro he
            obtain ⟨i, hi', h3⟩ := List.any_eq_true.1 he
            simp only [Bool.and_eq_true] at h3
            have hij : i ≠ j := fun h => by rw [h, hju'] at h3; cases h3.1
            have := C.sep i (List.mem_range.1 hi') hij k hmem
            rw [this] at h3; cases h3.2
          rw [h1, h2]; rfl
      rw [this]
    generalize hFe : pick (fun k => (L.getD k false && !eaten D L k) && !(po D j).eat.contains k) (fun k => pr D k γ) D.length = F at hF
    have hw' := hw.perm (J.heap.trans ((hF.append_left H0).trans (List.perm_append_comm_assoc _ _ _))).symm
    refine wpOp_of hi hg ((hob e γ F (fun k hk hkm => J.on k (by simpa [Nat.blt_eq] using hkm) (hlist k hk)) (fun t ht => J.off t fun k hk _ hd => ?_)).at hw' ha fun e' σ' H' a' w' hk hw'' ha' => ?_)
    · subst hd
      have : (po D k).dst ∈ D.map PO.dst := by
        refine List.mem_map.2 ⟨po D k, ?_, rfl⟩
        unfold po
        rw [List.getD_eq_getElem?_getD, List.getElem?_eq_getElem hk]
        exact List.getElem_mem hk
      rw [List.contains_iff_mem.2 this] at ht; cases ht
    · obtain ⟨rfl, g, rfl, hH'⟩ := hk
      have hs : Sees σ' H0 w' := sees_of (Store.le.refl _) (fun r hr => hH'.mem_iff.2 (List.mem_append_right _ (List.mem_append_left _ hr))) w' hw''.sees
      refine ⟨fun _ _ => hs, ih (L.setIfInBounds j true) (updG γ j g) _ H' ?_ ?_ hnd w' a' hw'' hs hst ha'⟩
      · have hset : ∀ k, (L.setIfInBounds j true).getD k false = (k == j || L.getD k false) := fun k => by
          by_cases c : k = j
          · subst c; simp [Array.getD_eq_getD_getElem?, hjs]
          · rw [getD_set_ne false (Ne.symm c)]; simp [c]
        have hp : ((List.range D.length).filter fun k => !L.getD k false).Perm (j :: (List.range D.length).filter fun k => !(L.setIfInBounds j true).getD k false) := by
          rw [List.perm_iff_count]
          intro k
          have nd : ∀ p : Nat → Bool, ((List.range D.length).filter p).count k = if k < D.length ∧ p k = true then 1 else 0 := fun p => by
            by_cases c : k < D.length ∧ p k = true
            · rw [if_pos c]; rw [List.Nodup.count (List.nodup_range.filter _), if_pos (List.mem_filter.2 ⟨List.mem_range.2 c.1, c.2⟩)]
            · rw [if_neg c]; exact List.count_eq_zero.2 fun h => c ⟨List.mem_range.1 (List.mem_filter.1 h).1, (List.mem_filter.1 h).2⟩
          rw [List.count_cons, nd, nd, hset]
          by_cases c : k = j
          · subst c; simp [hju', hjm]
          · have c' : (j == k) = false := by simpa using Ne.symm c
            have c2 : (k == j) = false := by simpa using c
            simp [c', c2]
        have := hp.length_eq
        rw [hu, List.length_cons] at this
        omega
      · have hset : ∀ k, (L.setIfInBounds j true).getD k false = (k == j || L.getD k false) := fun k => by
          by_cases c : k = j
          · subst c; simp [Array.getD_eq_getD_getElem?, hjs]
          · rw [getD_set_ne false (Ne.symm c)]; simp [c]
        have huse : ∀ k, k < D.length → k ≠ j → L.getD k false = true → j ∉ (po D k).use := fun k hk hn hL hm' => by
          rcases (chk_i hc hk).use j hm' with h | h
          · exact hn h.symm
          · obtain ⟨o', ho', _⟩ := (chk_i hc hk).deps
            have := hcl.after _ k j (fun o'' ho'' => hcl k o'' ho'' hL) h
            rw [hju'] at this; cases this
        have hnot : eaten D (L.setIfInBounds j true) j = false := by
          rw [Bool.eq_false_iff]
          intro he
          obtain ⟨i, hi', h3⟩ := List.any_eq_true.1 he
          simp only [Bool.and_eq_true, hset] at h3
          have hmem : j ∈ (po D i).eat := by simpa using h3.2
          have h4 := (chk_i hc (List.mem_range.1 hi')).eat j hmem
          have hij : i ≠ j := by omega
          have hLi : L.getD i false = true := by simpa [hij] using h3.1
          have := hcl.after _ i j (fun o'' ho'' => hcl i o'' ho'' hLi) h4.2
          rw [hju'] at this; cases this
        refine ⟨by rw [Array.size_setIfInBounds]; exact J.size, fun k hk hL => ?_, fun t ht => ?_, fun k hk => ?_, ?_⟩
        · by_cases c : k = j
          · subst c; exact if_pos rfl
          · have hL' : L.getD k false = true := by rw [hset] at hL; simpa [c] using hL
            rw [pv_keep (huse k hk c hL'), ← J.on k hk hL']
            exact if_neg (C.dst k hk c)
        · have h1 : t ≠ (po D j).dst := fun h => ht j hjm (by rw [hset]; simp) h.symm
          rw [show upd e (po D j).dst (pv D j (updG γ j g)) t = e t from if_neg h1]
          exact J.off t fun k hk hL => ht k hk (by rw [hset, hL, Bool.or_true])
        · rw [hset, J.rest k hk, Bool.or_false]; simp; omega
        · refine hH'.trans ?_
          refine (List.perm_append_comm_assoc _ _ _).trans (List.Perm.append_left _ ?_)
          refine List.Perm.trans ?_ (pick_perm _ (fun k => k == j) _ _).symm
          refine List.Perm.append ?_ ?_
          · rw [← pick_one (f := fun k => pr D k (updG γ j g)) hjm]
            rw [pick_congr (n := D.length) (p := fun k => k == j) (q := fun k => ((L.setIfInBounds j true).getD k false && !eaten D (L.setIfInBounds j true) k) && k == j) (f := fun k => pr D k (updG γ j g)) (g := fun k => pr D k (updG γ j g))]
            intro k hk
            refine ⟨?_, fun _ => rfl⟩
            by_cases c : k = j
            · subst c; simp [hset, hnot]
            · simp [c]
          · rw [← hFe]
            rw [pick_congr (n := D.length) (q := fun k => ((L.setIfInBounds j true).getD k false && !eaten D (L.setIfInBounds j true) k) && !(k == j)) (g := fun k => pr D k (updG γ j g))]
            intro k hk
            have heat : eaten D (L.setIfInBounds j true) k = (eaten D L k || (po D j).eat.contains k) := by
              rw [Bool.eq_iff_iff]
              simp only [eaten, Bool.or_eq_true, List.any_eq_true, Bool.and_eq_true, List.mem_range]
              constructor
              · rintro ⟨i, hi', h1, h2⟩
                by_cases c : i = j
                · subst c; exact .inr h2
                · exact .inl ⟨i, hi', by rw [hset] at h1; simpa [c] using h1, h2⟩
              · rintro (⟨i, hi', h1, h2⟩ | h2)
                · exact ⟨i, hi', by rw [hset, h1, Bool.or_true], h2⟩
                · exact ⟨j, hjm, by rw [hset]; simp, h2⟩
            by_cases c : k = j
            · subst c; rw [hju']; simp
            · have c2 : (k == j) = false := by simpa using c
              refine ⟨?_, fun hp => ?_⟩
              · simp only [hset, heat, c2, Bool.false_or, Bool.not_false, Bool.and_true, Bool.not_or, Bool.and_assoc]
              · have hL' : L.getD k false = true := by
                  simp only [Bool.and_eq_true] at hp; exact hp.1.1
                exact (pr_keep (huse k hk c hL')).symm

/-- A drawn region whose operations do not meet; then the late ones. -/
theorem TA.par {E : Env → Gh → Env} {Hn : Gh → List Res} {n : Nat} (D : List PO) (hOb : PObls X ops σ H0 e0 D D.length)
    (hEnd : ∀ γ, TA X ops Q σ H0 late f (endL ops.size D.length) (E e0 γ) σ (Hn γ))
    (hc : chkPar ops late D = true := by kernel_rfl) (hE : ∀ e γ, E e γ = penv D e γ := by intro e γ; rfl) (hH : ∀ γ, Hn γ = H0 ++ pR D (endL ops.size D.length) γ := by intro γ; rfl) (hn : n = D.length + f := by rfl) :
    TA X ops Q σ H0 late n (Array.replicate ops.size false) e0 σ H0 := by
  subst hn
  have hfalse : ∀ k, (Array.replicate ops.size false).getD k false = false := fun k => by
    rw [Array.getD_eq_getD_getElem?, Array.getElem?_replicate]; split <;> rfl
  refine par_go hc hOb (fun γ => by rw [← hE, ← hH]; exact hEnd γ) D.length _ (fun _ => (none, 0)) e0 H0 ?_ ⟨by simp, fun k _ h => ?_, fun _ _ => rfl, fun j _ => hfalse j, ?_⟩
  · rw [List.filter_eq_self.2 fun k _ => by rw [hfalse]; rfl, List.length_range]
  · rw [hfalse] at h; cases h
  · have : pR D (Array.replicate ops.size false) (fun _ => (none, 0)) = [] := by
      unfold pR
      rw [pick_filter, List.filter_eq_nil_iff.2 fun k _ => by rw [hfalse]; simp]; rfl
    rw [this, List.append_nil]
end
end Go.E
end

/- Glb -/
section
/- Tables of the program's own that nobody turns. Plain lemmas over any program; no condition. -/
set_option linter.unusedVariables false
set_option linter.unusedSimpArgs false
namespace Go.E
open Go

/-- A word of a set, as a value. -/
theorem OpVal.indexSet {P : Program} {n : Nat} {e : Env} {σ : Store} {H : List Res} {o : Oper} {x y : Operand} {T E i : Nat} {k : IntKind} {s : BSet} (ho : o.op = .index T x y) (ht : P.underlying T = some (.array 4 E)) (hz : szOf P E = some 1) (hA : aggOf P E = some false) (hx : ev e x = setV s) (hy : ev e y = .int k (i : Nat)) (hi : i < 4) :
    OpVal P n o e σ H (.int .u64 ((s.word i : Nat) : Int)) := fun w _ => by
  have h1 := setA_get s hi
  simp [execOp, ho, hx, hy, setV, Instr.index, asIntOf, run_underlying ht, run_sizeOf hz, part, run_isAgg hA, h1]
  omega
end Go.E
end

/- P3 -/
section
/- Decompiled: what the laws on two ways look at. -/
set_option linter.unusedVariables false
set_option linter.unusedSimpArgs false
namespace Go.Proofs.YtcfjjckencjjeaaGreat
open Go Go.E Go.E.OpVal Go.E.OpOk Go.Proofs.Tryz
set_option maxRecDepth 100000
private theorem by5 : Go.E.byOf Tryz.prog 5 = some 1 := by kernel_rfl
private theorem fo25_2 : Go.E.foOf Tryz.prog 25 2 = some 2 := by kernel_rfl
private theorem pf10 : Go.E.plainF Tryz.prog 10 = true := by kernel_rfl
private theorem pf11 : Go.E.plainF Tryz.prog 11 = true := by kernel_rfl
private theorem pf15 : Go.E.plainF Tryz.prog 15 = true := by kernel_rfl
private theorem pf22 : Go.E.plainF Tryz.prog 22 = true := by kernel_rfl
private theorem pf23 : Go.E.plainF Tryz.prog 23 = true := by kernel_rfl
private theorem pf24 : Go.E.plainF Tryz.prog 24 = true := by kernel_rfl
private theorem pf29 : Go.E.plainF Tryz.prog 29 = true := by kernel_rfl
private theorem pf36 : Go.E.plainF Tryz.prog 36 = true := by kernel_rfl
private theorem pf5 : Go.E.plainF Tryz.prog 5 = true := by kernel_rfl
private theorem pf8 : Go.E.plainF Tryz.prog 8 = true := by kernel_rfl
private theorem pl38 : Go.E.plOf Tryz.prog 38 = some #[(0, 1), (1, 1), (2, 4), (6, 1), (7, 1)] := by kernel_rfl
private theorem pl43 : Go.E.plOf Tryz.prog 43 = some #[(0, 1), (1, 1)] := by kernel_rfl

noncomputable def whittleref01_Bytes_j1 (k117 : Nat) (l121 : List UInt8) : Option (((List UInt8) × Nat) ⊕ ((List UInt8))) :=
 nxt (l121, (k117 + 1))
noncomputable def whittleref01_Bytes_b1 (x0 : BSet) (l114 : List UInt8) (k117 : Nat) : Option (((List UInt8) × Nat) ⊕ ((List UInt8))) :=
 iteO (decide (((k117 : Nat) : Int) < 256)) (grd (k117 < 256) (iteO (x0.has k117) (grd ((l114.length + [(toU8 ((k117 : Nat) : Int))].length) * 1 ≤ 140737488355328) (whittleref01_Bytes_j1 k117 (l114 ++ [(toU8 ((k117 : Nat) : Int))]))) (whittleref01_Bytes_j1 k117 l114))) (fin (some l114))
noncomputable def whittleref01_Bytes (x0 : BSet) : Option ((List UInt8)) :=
 iter (fun q : (List UInt8) × Nat => whittleref01_Bytes_b1 x0 q.1 q.2) (([] : List UInt8), 0)
def whittleref01_Bytes_P (σ : Store) (r : (List UInt8)) : Value → Store → List Res → Prop := fun v σ' H' =>
 ∃ (a1 : Option Addr), ∃ (c1 : Nat),  v = .slice a1 r.length c1 ∧ σ = σ' ∧ H' = [Res.rowS 5 1 encU8 (.slice a1 r.length c1) r]
theorem whittleref01_Bytes_con {σ : Store} {x0 : BSet}  {r : (List UInt8)} (hh : whittleref01_Bytes x0 = some r) :
  Con Tryz.prog 22 #[setV x0] σ [] (whittleref01_Bytes_P σ r) := by
 dsimp only [whittleref01_Bytes] at hh
 refine Con.mk (n := 18) Tryz.func22 z z z (fun w0 => ?_)
 refine TC.a (TL.op z (boxA z z z z (fun b101 => ?_)))
 refine TL.s z z (TL.en (TC.a (TL.s z z (TL.en (TC.seq (TC.a (TL.i z z (TL.en (TC.block (TC.nilS 5 1 encU8 (TC.loopG (α := ((List UInt8) × Nat) × ((Option Addr) × Nat)) (rgs [(3, 14)]) (fun g => [(3, .slice g.2.1 g.1.1.length g.2.2), (4, .int .i64 ((g.1.2 : Nat) : Int))]) (fun g => [Res.cells b101 (setA x0) 36, Res.rowS 5 1 encU8 (.slice g.2.1 g.1.1.length g.2.2) g.1.1]) (fun g => σ) (fun g => iter (fun q : (List UInt8) × Nat => whittleref01_Bytes_b1 x0 q.1 q.2) g.1 = some r) (fun g => rounds (fun q : (List UInt8) × Nat => whittleref01_Bytes_b1 x0 q.1 q.2) g.1) ((([] : List UInt8), 0), (none, 0)) (Sub.f [1] 2) z (by repeat (first | exact trivial | refine ⟨z, ?_⟩)) hh (fun g1 j1 hg1 => ?_))))))))))))
 obtain ⟨⟨l114, k117⟩, ⟨a115, c116⟩⟩ := g1
 have hh := hg1; clear hg1
 try dsimp only
 obtain ⟨z1, hh, hR1⟩ := iter_e hh
 dsimp only [whittleref01_Bytes_b1] at hh
 refine TC.isSl (i := 1) z (fun _ hb119 _ => ?_)
 refine TC.seq (TC.a (TL.i z z (TL.w z (OpVal.lss z z z) (TL.en (TC.cD z hh (fun h120 hh => ?_) (fun h120 hh => ?_))))))
 ·refine TC.skip (S.n (TC.cutG (α := ((List UInt8)) × ((Option Addr) × Nat)) (rgs [(3, 1), (9, 8)]) (fun g => [(3, .slice g.2.1 g.1.length g.2.2)]) (fun g => [Res.cells b101 (setA x0) 36, Res.rowS 5 1 encU8 (.slice g.2.1 g.1.length g.2.2) g.1]) (fun g => σ) (fun g => whittleref01_Bytes_j1 k117 g.1 = some z1) ?_ (fun g j hg => ?_)))
  ·skip
   refine TC.block (TC.a (TL.w z (loadAll z ag36 sz36 z (i := 0) z z) (TL.i z z ?_)))
   have u9 := grd_c hh
   replace hh := grd_t hh
   refine TL.op z (callP (rhas_con _ x0 k117 (BSet.isOk _) u9) z z pf36 z z z ?_)
   refine TL.en (TC.cB z hh (fun h124 hh => ?_) (fun h124 hh => ?_))
   ·refine TC.region (TL.s z z (TL.i z z (TL.w z (convU8 z underlying3 underlying5 z) (TL.op z (OpOk.lit (enc := encU8) [(toU8 ((k117 : Nat) : Int))] z underlying63 sz5 ze5 z z z encU8_len (by decide) (by decide) (0 : UInt8) z (by decide) z (by decide) encU8_one (fun a125 c126 => ?_))))))
    refine TL.front 2 z z ?_
    have u14 := grd_c hh
    replace hh := grd_t hh
    refine TL.op z (appendS z z underlying63 sz5 by5 ze5 z z (by decide) z z z (.inr ⟨_, 0, z⟩) (by simpa using u14) (by decide) (fun a128 c129 => ?_))
    exact TL.s z z (TL.nil (B.n (S.n (cf ((l114 ++ [(toU8 ((k117 : Nat) : Int))]), (a128, c129)) hh (Sub.f [2] 2)))))
   ·exact TC.skip (B.n (S.n (cf (l114, (a115, c116)) hh (Sub.f [1, 1] 2))))
  ·skip
   obtain ⟨l121, ⟨a122, c123⟩⟩ := g
   have hh := hg; clear hg
   try dsimp only
   dsimp only [whittleref01_Bytes_j1] at hh
   refine TC.isSl (i := 1) z (fun _ hb130 _ => ?_)
   refine TC.region (TL.i z z (TL.w z (OpVal.succ z z z (by omega)) (TL.i z z (TL.en ?_))))
   obtain ⟨hh, hlt131⟩ := nxt_x hR1 hh
   exact lf ((l121, (k117 + 1)), (a122, c123)) hlt131 hh (Sub.f [1, 1] 2)
 ·refine TC.exit (S.x (S.x ?_))
  replace hh := fin_x hR1 hh
  refine TC.exitHere (S.n (TC.a (TL.s z z (TL.s z z (TL.en (TC.ofSub (Sub.f [1] 1) (TC.ret ?_)))))))
  obtain rfl := so hh
  exact ro [Res.rowS 5 1 encU8 (.slice a115 l114.length c116) l114] z (RVs.tmp z RVs.nil) ⟨a115, c116, z, z, z⟩

noncomputable def whittleref15_Few_j3 (x0 : Fst) (i123 : Int) : Option (Bool) :=
 iteO (decide (i123 ≤ 60)) (iteO (decide (x0.states ≤ 20)) (some true) (some (decide (1024 < x0.states)))) (some false)
noncomputable def whittleref15_Few_b3 (x0 : Fst) (i128 : Int) (k129 : Nat) : Option ((Int × Nat) ⊕ (Bool)) :=
 iteO (decide (((k129 : Nat) : Int) < ((x0.arcs.length : Nat) : Int))) (iteO (decide (i128 ≤ 60)) (nxt ((IntKind.i64.wrap (i128 + (IntKind.i64.wrap (Int.tdiv ((((nth x0.arcs k129 Arc.zero).out).length : Nat) : Int) 40)))), (k129 + 1))) (fin (whittleref15_Few_j3 x0 i128))) (fin (whittleref15_Few_j3 x0 i128))
noncomputable def whittleref15_Few_j2 (x0 : Fst) (i113 : Int) : Option (Bool) :=
 iter (fun q : Int × Nat => whittleref15_Few_b3 x0 q.1 q.2) (i113, 0)
noncomputable def whittleref15_Few_b2 (x0 : Fst) (i118 : Int) (k119 : Nat) : Option ((Int × Nat) ⊕ (Bool)) :=
 iteO (decide (((k119 : Nat) : Int) < ((x0.ends.length : Nat) : Int))) (iteO (decide (i118 ≤ 60)) (nxt ((IntKind.i64.wrap (i118 + (IntKind.i64.wrap (Int.tdiv ((((nth x0.ends k119 Tip.zero).out).length : Nat) : Int) 40)))), (k119 + 1))) (fin (whittleref15_Few_j2 x0 i118))) (fin (whittleref15_Few_j2 x0 i118))
noncomputable def whittleref15_Few_j1 (x0 : Fst) (i103 : Int) : Option (Bool) :=
 iter (fun q : Int × Nat => whittleref15_Few_b2 x0 q.1 q.2) (i103, 0)
noncomputable def whittleref15_Few_b1 (x0 : Fst) (i108 : Int) (k109 : Nat) : Option ((Int × Nat) ⊕ (Bool)) :=
 iteO (decide (((k109 : Nat) : Int) < ((x0.starts.length : Nat) : Int))) (iteO (decide (i108 ≤ 60)) (nxt ((IntKind.i64.wrap (i108 + (IntKind.i64.wrap (Int.tdiv ((((nth x0.starts k109 Tip.zero).out).length : Nat) : Int) 40)))), (k109 + 1))) (fin (whittleref15_Few_j1 x0 i108))) (fin (whittleref15_Few_j1 x0 i108))
noncomputable def whittleref15_Few (x0 : Fst) : Option (Bool) :=
 iter (fun q : Int × Nat => whittleref15_Few_b1 x0 q.1 q.2) ((IntKind.i64.wrap ((IntKind.i64.wrap (((x0.starts.length : Nat) : Int) + ((x0.ends.length : Nat) : Int))) + ((x0.arcs.length : Nat) : Int))), 0)
theorem whittleref15_Few_con {σ : Store} {x0 : Fst} {a0_0 : Option Addr} {c0_0 : Nat} {a0_1 : Option Addr} {c0_1 : Nat} {a0_2 : Option Addr} {c0_2 : Nat} (f0_0 : RS σ 2 encTip (.slice a0_0 x0.starts.length c0_0) x0.starts) (f0_1 : RS σ 2 encTip (.slice a0_1 x0.ends.length c0_1) x0.ends) (f0_2 : RS σ 8 encArc (.slice a0_2 x0.arcs.length c0_2) x0.arcs) {r : Bool} (hh : whittleref15_Few x0 = some r) :
  Con Tryz.prog 23 #[.agg #[.int .i64 x0.states, .slice a0_0 x0.starts.length c0_0, .slice a0_1 x0.ends.length c0_1, .slice a0_2 x0.arcs.length c0_2]] σ [] (PureP (.bool r) σ) := by
 dsimp only [whittleref15_Few] at hh
 have f0_0b := f0_0.rv.big
 have f0_1b := f0_1.rv.big
 have f0_2b := f0_2.rv.big
 refine Con.mk (n := 93) Tryz.func23 z z z (fun w0 => ?_)
 refine TC.a (TL.op z (boxA z z z z (fun b101 => ?_)))
 refine TL.j z z (TL.en (TC.a (TL.w z (fieldLoc z fo25_1 z) (TL.w z (loadLoc z ag22 z (i := 0) z z) (TL.w z (lenC z underlying22 z) (TL.w z (fieldLoc z fo25_2 z) (TL.w z (loadLoc z ag22 z (i := 0) z z) (TL.w z (lenC z underlying22 z) (TL.w z (addW z z z) (TL.w z (fieldLoc z fo25_3 z) (TL.w z (loadLoc z ag23 z (i := 0) z z) (TL.w z (lenC z underlying23 z) (TL.w z (addW z z z) (TL.i z z (TL.en ?_)))))))))))))))
 refine TC.cutG (α := (Int) × (Unit)) (rgs [(3, 2), (18, 21)]) (fun g => [(3, .int .i64 g.1)]) (fun g => [Res.cells b101 #[.int .i64 x0.states, .slice a0_0 x0.starts.length c0_0, .slice a0_1 x0.ends.length c0_1, .slice a0_2 x0.arcs.length c0_2] 25]) (fun g => σ) (fun g => whittleref15_Few_j1 x0 g.1 = some r) ?_ (fun g j hg => ?_)
 ·skip
  refine TC.a (TL.i z z (TL.en (TC.block (TC.loopG (α := (Int × Nat) × (Unit)) (rgs [(3, 2), (18, 21)]) (fun g => [(3, .int .i64 g.1.1), (4, .int .i64 ((g.1.2 : Nat) : Int))]) (fun g => [Res.cells b101 #[.int .i64 x0.states, .slice a0_0 x0.starts.length c0_0, .slice a0_1 x0.ends.length c0_1, .slice a0_2 x0.arcs.length c0_2] 25]) (fun g => σ) (fun g => iter (fun q : Int × Nat => whittleref15_Few_b1 x0 q.1 q.2) g.1 = some r) (fun g => rounds (fun q : Int × Nat => whittleref15_Few_b1 x0 q.1 q.2) g.1) (((IntKind.i64.wrap ((IntKind.i64.wrap (((x0.starts.length : Nat) : Int) + ((x0.ends.length : Nat) : Int))) + ((x0.arcs.length : Nat) : Int))), 0), ()) (Sub.pre 1 z) z (by repeat (first | exact trivial | refine ⟨z, ?_⟩)) hh (fun g1 j1 hg1 => ?_)))))
  obtain ⟨⟨i108, k109⟩, _⟩ := g1
  have hh := hg1; clear hg1
  try dsimp only
  obtain ⟨z1, hh, hR1⟩ := iter_e hh
  dsimp only [whittleref15_Few_b1] at hh
  refine TC.seq (TC.a (TL.i z z (TL.w z (fieldLoc z fo25_1 z) (TL.w z (loadLoc z ag22 z (i := 0) z z) (TL.w z (lenC z underlying22 z) (TL.w z (OpVal.lss z z z) (TL.j z z (TL.split 23 z (fun h110 => ?_) (fun h110 => ?_)))))))))
  ·replace hh := iteO_t h110 hh
   replace h110 := of_decide_eq_true h110
   refine TL.g z (moveI (.inl z) z) (TL.g z (OpVal.leq z z z) (TL.w z (pickTB z z z) (TL.en (TC.cD z hh (fun h111 hh => ?_) (fun h111 hh => ?_)))))
   ·refine TC.skip (S.n (TC.seq (TC.block (TC.region (TL.i z z (TL.w z (fieldLoc z fo25_1 z) (TL.w z (loadLoc z ag22 z (i := 0) z z) (TL.i z z (TL.w z (indexN z underlying22 sz43 z z f0_0.rv.sl (by omega)) (TL.w z (fieldElem z fo43_1 z f0_0.rv.sl (by omega)) (TL.w z (loadS Tip.zero z ag9 z f0_0 (by omega) (by omega) z) (TL.w z (lenBs z underlying9 z) (TL.w z (quoW z z z (by decide)) (TL.w z (addW z z z) (TL.i z z ?_)))))))))))))))
    refine TL.nil (B.n (S.n (TC.region (TL.i z z (TL.w z (OpVal.succ z z z (by omega)) (TL.i z z (TL.en ?_)))))))
    obtain ⟨hh, hlt112⟩ := nxt_x hR1 hh
    exact lf (((IntKind.i64.wrap (i108 + (IntKind.i64.wrap (Int.tdiv ((((nth x0.starts k109 Tip.zero).out).length : Nat) : Int) 40)))), (k109 + 1)), ()) hlt112 hh (Sub.pre 1 z)
   ·refine TC.exit (S.x (S.x ?_))
    replace hh := fin_x hR1 hh
    exact TC.exitHere (S.n (cf (i108, ()) hh (Sub.pre 1 z)))
  ·replace hh := iteO_f h110 hh
   replace h110 := of_decide_eq_false h110
   refine TL.f z (TL.f z (TL.w z (pickFB z z z) (TL.en (TC.f z (TC.exit (S.x (S.x ?_)))))))
   replace hh := fin_x hR1 hh
   exact TC.exitHere (S.n (cf (i108, ()) hh (Sub.pre 1 z)))
 ·skip
  obtain ⟨i103, _⟩ := g
  have hh := hg; clear hg
  try dsimp only
  dsimp only [whittleref15_Few_j1] at hh
  refine TC.cutG (α := (Int) × (Unit)) (rgs [(3, 1), (5, 1), (39, 21)]) (fun g => [(3, .int .i64 g.1)]) (fun g => [Res.cells b101 #[.int .i64 x0.states, .slice a0_0 x0.starts.length c0_0, .slice a0_1 x0.ends.length c0_1, .slice a0_2 x0.arcs.length c0_2] 25]) (fun g => σ) (fun g => whittleref15_Few_j2 x0 g.1 = some r) ?_ (fun g j hg => ?_)
  ·skip
   refine TC.a (TL.i z z (TL.en (TC.block (TC.loopG (α := (Int × Nat) × (Unit)) (rgs [(3, 1), (5, 1), (39, 21)]) (fun g => [(3, .int .i64 g.1.1), (5, .int .i64 ((g.1.2 : Nat) : Int))]) (fun g => [Res.cells b101 #[.int .i64 x0.states, .slice a0_0 x0.starts.length c0_0, .slice a0_1 x0.ends.length c0_1, .slice a0_2 x0.arcs.length c0_2] 25]) (fun g => σ) (fun g => iter (fun q : Int × Nat => whittleref15_Few_b2 x0 q.1 q.2) g.1 = some r) (fun g => rounds (fun q : Int × Nat => whittleref15_Few_b2 x0 q.1 q.2) g.1) ((i103, 0), ()) (Sub.pre 1 z) z (by repeat (first | exact trivial | refine ⟨z, ?_⟩)) hh (fun g2 j2 hg2 => ?_)))))
   obtain ⟨⟨i118, k119⟩, _⟩ := g2
   have hh := hg2; clear hg2
   try dsimp only
   obtain ⟨z1, hh, hR1⟩ := iter_e hh
   dsimp only [whittleref15_Few_b2] at hh
   refine TC.seq (TC.a (TL.i z z (TL.w z (fieldLoc z fo25_2 z) (TL.w z (loadLoc z ag22 z (i := 0) z z) (TL.w z (lenC z underlying22 z) (TL.w z (OpVal.lss z z z) (TL.j z z (TL.split 44 z (fun h120 => ?_) (fun h120 => ?_)))))))))
   ·replace hh := iteO_t h120 hh
    replace h120 := of_decide_eq_true h120
    refine TL.g z (moveI (.inl z) z) (TL.g z (OpVal.leq z z z) (TL.w z (pickTB z z z) (TL.en (TC.cD z hh (fun h121 hh => ?_) (fun h121 hh => ?_)))))
    ·refine TC.skip (S.n (TC.seq (TC.block (TC.region (TL.i z z (TL.w z (fieldLoc z fo25_2 z) (TL.w z (loadLoc z ag22 z (i := 0) z z) (TL.i z z (TL.w z (indexN z underlying22 sz43 z z f0_1.rv.sl (by omega)) (TL.w z (fieldElem z fo43_1 z f0_1.rv.sl (by omega)) (TL.w z (loadS Tip.zero z ag9 z f0_1 (by omega) (by omega) z) (TL.w z (lenBs z underlying9 z) (TL.w z (quoW z z z (by decide)) (TL.w z (addW z z z) (TL.i z z ?_)))))))))))))))
     refine TL.nil (B.n (S.n (TC.region (TL.i z z (TL.w z (OpVal.succ z z z (by omega)) (TL.i z z (TL.en ?_)))))))
     obtain ⟨hh, hlt122⟩ := nxt_x hR1 hh
     exact lf (((IntKind.i64.wrap (i118 + (IntKind.i64.wrap (Int.tdiv ((((nth x0.ends k119 Tip.zero).out).length : Nat) : Int) 40)))), (k119 + 1)), ()) hlt122 hh (Sub.pre 1 z)
    ·refine TC.exit (S.x (S.x ?_))
     replace hh := fin_x hR1 hh
     exact TC.exitHere (S.n (cf (i118, ()) hh (Sub.pre 1 z)))
   ·replace hh := iteO_f h120 hh
    replace h120 := of_decide_eq_false h120
    refine TL.f z (TL.f z (TL.w z (pickFB z z z) (TL.en (TC.f z (TC.exit (S.x (S.x ?_)))))))
    replace hh := fin_x hR1 hh
    exact TC.exitHere (S.n (cf (i118, ()) hh (Sub.pre 1 z)))
  ·skip
   obtain ⟨i113, _⟩ := g
   have hh := hg; clear hg
   try dsimp only
   dsimp only [whittleref15_Few_j2] at hh
   refine TC.cutG (α := (Int) × (Unit)) (rgs [(3, 1), (6, 1), (60, 21)]) (fun g => [(3, .int .i64 g.1)]) (fun g => [Res.cells b101 #[.int .i64 x0.states, .slice a0_0 x0.starts.length c0_0, .slice a0_1 x0.ends.length c0_1, .slice a0_2 x0.arcs.length c0_2] 25]) (fun g => σ) (fun g => whittleref15_Few_j3 x0 g.1 = some r) ?_ (fun g j hg => ?_)
   ·skip
    refine TC.a (TL.i z z (TL.en (TC.block (TC.loopG (α := (Int × Nat) × (Unit)) (rgs [(3, 1), (6, 1), (60, 21)]) (fun g => [(3, .int .i64 g.1.1), (6, .int .i64 ((g.1.2 : Nat) : Int))]) (fun g => [Res.cells b101 #[.int .i64 x0.states, .slice a0_0 x0.starts.length c0_0, .slice a0_1 x0.ends.length c0_1, .slice a0_2 x0.arcs.length c0_2] 25]) (fun g => σ) (fun g => iter (fun q : Int × Nat => whittleref15_Few_b3 x0 q.1 q.2) g.1 = some r) (fun g => rounds (fun q : Int × Nat => whittleref15_Few_b3 x0 q.1 q.2) g.1) ((i113, 0), ()) (Sub.pre 1 z) z (by repeat (first | exact trivial | refine ⟨z, ?_⟩)) hh (fun g3 j3 hg3 => ?_)))))
    obtain ⟨⟨i128, k129⟩, _⟩ := g3
    have hh := hg3; clear hg3
    try dsimp only
    obtain ⟨z1, hh, hR1⟩ := iter_e hh
    dsimp only [whittleref15_Few_b3] at hh
    refine TC.seq (TC.a (TL.i z z (TL.w z (fieldLoc z fo25_3 z) (TL.w z (loadLoc z ag23 z (i := 0) z z) (TL.w z (lenC z underlying23 z) (TL.w z (OpVal.lss z z z) (TL.j z z (TL.split 65 z (fun h130 => ?_) (fun h130 => ?_)))))))))
    ·replace hh := iteO_t h130 hh
     replace h130 := of_decide_eq_true h130
     refine TL.g z (moveI (.inl z) z) (TL.g z (OpVal.leq z z z) (TL.w z (pickTB z z z) (TL.en (TC.cD z hh (fun h131 hh => ?_) (fun h131 hh => ?_)))))
     ·refine TC.skip (S.n (TC.seq (TC.block (TC.region (TL.i z z (TL.w z (fieldLoc z fo25_3 z) (TL.w z (loadLoc z ag23 z (i := 0) z z) (TL.i z z (TL.w z (indexN z underlying23 sz38 z z f0_2.rv.sl (by omega)) (TL.w z (fieldElem z fo38_3 z f0_2.rv.sl (by omega)) (TL.w z (loadS Arc.zero z ag9 z f0_2 (by omega) (by omega) z) (TL.w z (lenBs z underlying9 z) (TL.w z (quoW z z z (by decide)) (TL.w z (addW z z z) (TL.i z z ?_)))))))))))))))
      refine TL.nil (B.n (S.n (TC.region (TL.i z z (TL.w z (OpVal.succ z z z (by omega)) (TL.i z z (TL.en ?_)))))))
      obtain ⟨hh, hlt132⟩ := nxt_x hR1 hh
      exact lf (((IntKind.i64.wrap (i128 + (IntKind.i64.wrap (Int.tdiv ((((nth x0.arcs k129 Arc.zero).out).length : Nat) : Int) 40)))), (k129 + 1)), ()) hlt132 hh (Sub.pre 1 z)
     ·refine TC.exit (S.x (S.x ?_))
      replace hh := fin_x hR1 hh
      exact TC.exitHere (S.n (cf (i128, ()) hh (Sub.pre 1 z)))
    ·replace hh := iteO_f h130 hh
     replace h130 := of_decide_eq_false h130
     refine TL.f z (TL.f z (TL.w z (pickFB z z z) (TL.en (TC.f z (TC.exit (S.x (S.x ?_)))))))
     replace hh := fin_x hR1 hh
     exact TC.exitHere (S.n (cf (i128, ()) hh (Sub.pre 1 z)))
   ·skip
    obtain ⟨i123, _⟩ := g
    have hh := hg; clear hg
    try dsimp only
    dsimp only [whittleref15_Few_j3] at hh
    refine TC.a (TL.i z z (TL.w z (OpVal.leq z z z) (TL.j z z (TL.split 83 z (fun h133 => ?_) (fun h133 => ?_)))))
    ·replace hh := iteO_t h133 hh
     replace h133 := of_decide_eq_true h133
     refine TL.g z (fieldLoc z fo25_0 z) (TL.g z (loadLoc z ag3 z (i := 0) z z) (TL.g z (OpVal.leq z z z) (TL.g z (moveB (.inl z) z) (TL.split 87 z (fun h134 => ?_) (fun h134 => ?_)))))
     ·replace hh := iteO_t h134 hh
      replace h134 := of_decide_eq_true h134
      refine TL.f z (TL.f z (TL.f z (TL.g z (pickTB z z z) (TL.w z (pickTB z z z) (TL.j z z (TL.en (TC.rt 0 ?_)))))))
      obtain rfl := so hh
      exact rq [2] ⟨z, z, z⟩
     ·replace hh := iteO_f h134 hh
      replace h134 := of_decide_eq_false h134
      refine TL.g z (fieldLoc z fo25_0 z) (TL.g z (loadLoc z ag3 z (i := 0) z z) (TL.g z (OpVal.gtr z z z) (TL.g z (pickFB z z z) (TL.w z (pickTB z z z) (TL.j z z (TL.en (TC.rt 0 ?_)))))))
      obtain rfl := so hh
      exact rq [2] ⟨z, z, z⟩
    ·replace hh := iteO_f h133 hh
     replace h133 := of_decide_eq_false h133
     refine TL.f z (TL.f z (TL.f z (TL.f z (TL.f z (TL.f z (TL.f z (TL.f z (TL.w z (pickFB z z z) (TL.j z z (TL.en (TC.rt 0 ?_)))))))))))
     obtain rfl := so hh
     exact rq [2] ⟨z, z, z⟩

noncomputable def whittleref19_Few_j1 (x0 : Fst) (i103 : Int) : Option (Bool) :=
 bnd (whittleref15_Few x0) (fun v29 => iteO v29 (iteO (decide (((x0.arcs.length : Nat) : Int) ≤ 14)) (iteO (decide (x0.states ≤ 5)) (some (decide (i103 ≤ 40))) (iteO (decide (1024 < x0.states)) (some (decide (i103 ≤ 40))) (some false))) (some false)) (some false))
noncomputable def whittleref19_Few_b1 (x0 : Fst) (i108 : Int) (k109 : Nat) : Option ((Int × Nat) ⊕ (Bool)) :=
 iteO (decide (((k109 : Nat) : Int) < ((x0.arcs.length : Nat) : Int))) (iteO (decide (i108 ≤ 40)) (bnd (whittleref01_Bytes ((nth x0.arcs k109 Arc.zero).set)) (fun v21 => nxt ((IntKind.i64.wrap (i108 + ((v21.length : Nat) : Int))), (k109 + 1)))) (fin (whittleref19_Few_j1 x0 i108))) (fin (whittleref19_Few_j1 x0 i108))
noncomputable def whittleref19_Few (x0 : Fst) : Option (Bool) :=
 iter (fun q : Int × Nat => whittleref19_Few_b1 x0 q.1 q.2) (0, 0)
theorem whittleref19_Few_con {σ : Store} {x0 : Fst} {a0_0 : Option Addr} {c0_0 : Nat} {a0_1 : Option Addr} {c0_1 : Nat} {a0_2 : Option Addr} {c0_2 : Nat} (f0_0 : RS σ 2 encTip (.slice a0_0 x0.starts.length c0_0) x0.starts) (f0_1 : RS σ 2 encTip (.slice a0_1 x0.ends.length c0_1) x0.ends) (f0_2 : RS σ 8 encArc (.slice a0_2 x0.arcs.length c0_2) x0.arcs) {r : Bool} (hh : whittleref19_Few x0 = some r) :
  Con Tryz.prog 10 #[.agg #[.int .i64 x0.states, .slice a0_0 x0.starts.length c0_0, .slice a0_1 x0.ends.length c0_1, .slice a0_2 x0.arcs.length c0_2]] σ [] (PureP (.bool r) σ) := by
 dsimp only [whittleref19_Few] at hh
 have f0_0b := f0_0.rv.big
 have f0_1b := f0_1.rv.big
 have f0_2b := f0_2.rv.big
 refine Con.mk (n := 48) Tryz.func10 z z z (fun w0 => ?_)
 refine TC.a (TL.op z (boxA z z z z (fun b101 => ?_)))
 refine TL.j z z (TL.en (TC.a (TL.i z z (TL.en (TC.cutG (α := (Int) × (Unit)) (rgs [(3, 23)]) (fun g => [(3, .int .i64 g.1)]) (fun g => [Res.cells b101 #[.int .i64 x0.states, .slice a0_0 x0.starts.length c0_0, .slice a0_1 x0.ends.length c0_1, .slice a0_2 x0.arcs.length c0_2] 25]) (fun g => σ) (fun g => whittleref19_Few_j1 x0 g.1 = some r) ?_ (fun g j hg => ?_))))))
 ·skip
  refine TC.a (TL.i z z (TL.en (TC.block (TC.loopG (α := (Int × Nat) × (Unit)) (rgs [(3, 23)]) (fun g => [(3, .int .i64 g.1.1), (4, .int .i64 ((g.1.2 : Nat) : Int))]) (fun g => [Res.cells b101 #[.int .i64 x0.states, .slice a0_0 x0.starts.length c0_0, .slice a0_1 x0.ends.length c0_1, .slice a0_2 x0.arcs.length c0_2] 25]) (fun g => σ) (fun g => iter (fun q : Int × Nat => whittleref19_Few_b1 x0 q.1 q.2) g.1 = some r) (fun g => rounds (fun q : Int × Nat => whittleref19_Few_b1 x0 q.1 q.2) g.1) ((0, 0), ()) (Sub.pre 1 z) z (by repeat (first | exact trivial | refine ⟨z, ?_⟩)) hh (fun g1 j1 hg1 => ?_)))))
  obtain ⟨⟨i108, k109⟩, _⟩ := g1
  have hh := hg1; clear hg1
  try dsimp only
  obtain ⟨z1, hh, hR1⟩ := iter_e hh
  dsimp only [whittleref19_Few_b1] at hh
  refine TC.seq (TC.a (TL.i z z (TL.w z (fieldLoc z fo25_3 z) (TL.w z (loadLoc z ag23 z (i := 0) z z) (TL.w z (lenC z underlying23 z) (TL.w z (OpVal.lss z z z) (TL.j z z (TL.split 10 z (fun h110 => ?_) (fun h110 => ?_)))))))))
  ·replace hh := iteO_t h110 hh
   replace h110 := of_decide_eq_true h110
   refine TL.g z (moveI (.inl z) z) (TL.g z (OpVal.leq z z z) (TL.w z (pickTB z z z) (TL.en (TC.cD z hh (fun h111 hh => ?_) (fun h111 hh => ?_)))))
   ·refine TC.skip (S.n (TC.seq (TC.block (TC.region (TL.i z z (TL.w z (fieldLoc z fo25_3 z) (TL.w z (loadLoc z ag23 z (i := 0) z z) (TL.i z z (TL.w z (indexN z underlying23 sz38 z z f0_2.rv.sl (by omega)) (TL.w z (fieldElem z fo38_2 z f0_2.rv.sl (by omega)) (TL.w z (loadSub Arc.zero z ag36 sz36 z f0_2 (by omega) (by omega) (by omega) z z) ?_)))))))))))
    obtain ⟨v21, u21, hh⟩ := bnd_e hh
    refine TL.op z (OpOk.call (whittleref01_Bytes_con u21) z z pf22 z z z z ?_)
    rintro _ _ _ hle112 ⟨a112_1, c112_1, rfl, rfl, rfl⟩
    refine TL.w z (lenC z underlying63 z) (TL.w z (addW z z z) (TL.i z z (TL.nil (B.n (S.n (TC.region (TL.i z z (TL.w z (OpVal.succ z z z (by omega)) (TL.i z z (TL.en ?_))))))))))
    obtain ⟨hh, hlt114⟩ := nxt_x hR1 hh
    exact lf (((IntKind.i64.wrap (i108 + ((v21.length : Nat) : Int))), (k109 + 1)), ()) hlt114 hh (Sub.f [1] 1)
   ·refine TC.exit (S.x (S.x ?_))
    replace hh := fin_x hR1 hh
    exact TC.exitHere (S.n (cf (i108, ()) hh (Sub.pre 1 z)))
  ·replace hh := iteO_f h110 hh
   replace h110 := of_decide_eq_false h110
   refine TL.f z (TL.f z (TL.w z (pickFB z z z) (TL.en (TC.f z (TC.exit (S.x (S.x ?_)))))))
   replace hh := fin_x hR1 hh
   exact TC.exitHere (S.n (cf (i108, ()) hh (Sub.pre 1 z)))
 ·skip
  obtain ⟨i103, _⟩ := g
  have hh := hg; clear hg
  try dsimp only
  dsimp only [whittleref19_Few_j1] at hh
  refine TC.a (TL.w z (loadAll z ag25 sz25 z (i := 0) z z) ?_)
  obtain ⟨v29, u29, hh⟩ := bnd_e hh
  refine TL.op z (callP (whittleref15_Few_con (x0 := x0) f0_0 f0_1 f0_2 u29) z z pf23 z z z ?_)
  refine TL.j z z (TL.split 28 z (fun h115 => ?_) (fun h115 => ?_))
  ·replace hh := iteO_t h115 hh
   refine TL.g z (fieldLoc z fo25_3 z) (TL.g z (loadLoc z ag23 z (i := 0) z z) (TL.g z (lenC z underlying23 z) (TL.g z (OpVal.leq z z z) (TL.w z (pickTB z z z) (TL.j z z (TL.split 34 z (fun h116 => ?_) (fun h116 => ?_)))))))
   ·replace hh := iteO_t h116 hh
    replace h116 := of_decide_eq_true h116
    refine TL.g z (fieldLoc z fo25_0 z) (TL.g z (loadLoc z ag3 z (i := 0) z z) (TL.g z (OpVal.leq z z z) (TL.g z (moveB (.inl z) z) (TL.split 38 z (fun h117 => ?_) (fun h117 => ?_)))))
    ·replace hh := iteO_t h117 hh
     replace h117 := of_decide_eq_true h117
     refine TL.f z (TL.f z (TL.f z (TL.g z (pickTB z z z) (TL.w z (pickTB z z z) (TL.j z z (TL.g z (moveI (.inl z) z) (TL.g z (OpVal.leq z z z) (TL.w z (pickTB z z z) (TL.j z z (TL.en (TC.rt 0 ?_)))))))))))
     obtain rfl := so hh
     exact rq [2] ⟨z, z, z⟩
    ·replace hh := iteO_f h117 hh
     replace h117 := of_decide_eq_false h117
     refine TL.g z (fieldLoc z fo25_0 z) (TL.g z (loadLoc z ag3 z (i := 0) z z) (TL.g z (OpVal.gtr z z z) (TL.g z (pickFB z z z) (TL.w z (pickTB z z z) (TL.j z z (TL.split 44 z (fun h118 => ?_) (fun h118 => ?_)))))))
     ·replace hh := iteO_t h118 hh
      replace h118 := of_decide_eq_true h118
      refine TL.g z (moveI (.inl z) z) (TL.g z (OpVal.leq z z z) (TL.w z (pickTB z z z) (TL.j z z (TL.en (TC.rt 0 ?_)))))
      obtain rfl := so hh
      exact rq [2] ⟨z, z, z⟩
     ·replace hh := iteO_f h118 hh
      replace h118 := of_decide_eq_false h118
      refine TL.f z (TL.f z (TL.w z (pickFB z z z) (TL.j z z (TL.en (TC.rt 0 ?_)))))
      obtain rfl := so hh
      exact rq [2] ⟨z, z, z⟩
   ·replace hh := iteO_f h116 hh
    replace h116 := of_decide_eq_false h116
    refine TL.f z (TL.f z (TL.f z (TL.f z (TL.f z (TL.f z (TL.f z (TL.f z (TL.w z (pickFB z z z) (TL.j z z (TL.f z (TL.f z (TL.w z (pickFB z z z) (TL.j z z (TL.en (TC.rt 0 ?_)))))))))))))))
    obtain rfl := so hh
    exact rq [2] ⟨z, z, z⟩
  ·replace hh := iteO_f h115 hh
   refine TL.f z (TL.f z (TL.f z (TL.f z (TL.w z (pickFB z z z) (TL.j z z (TL.f z (TL.f z (TL.f z (TL.f z (TL.f z (TL.f z (TL.f z (TL.f z (TL.w z (pickFB z z z) (TL.j z z ?_)))))))))))))))
   refine TL.f z (TL.f z (TL.w z (pickFB z z z) (TL.j z z (TL.en (TC.rt 0 ?_)))))
   obtain rfl := so hh
   exact rq [2] ⟨z, z, z⟩

noncomputable def math_bits_OnesCount64 (x0 : Nat) : Option (Int) :=
 some (iand .i64 (IntKind.i64.wrap (((u64add (u64add (u64add (u64and (u64add (u64shr (u64add (u64and (u64shr (u64add (u64and (u64shr x0 1) 6148914691236517205) (u64and x0 6148914691236517205)) 2) 3689348814741910323) (u64and (u64add (u64and (u64shr x0 1) 6148914691236517205) (u64and x0 6148914691236517205)) 3689348814741910323)) 4) (u64add (u64and (u64shr (u64add (u64and (u64shr x0 1) 6148914691236517205) (u64and x0 6148914691236517205)) 2) 3689348814741910323) (u64and (u64add (u64and (u64shr x0 1) 6148914691236517205) (u64and x0 6148914691236517205)) 3689348814741910323))) 1085102592571150095) (u64shr (u64and (u64add (u64shr (u64add (u64and (u64shr (u64add (u64and (u64shr x0 1) 6148914691236517205) (u64and x0 6148914691236517205)) 2) 3689348814741910323) (u64and (u64add (u64and (u64shr x0 1) 6148914691236517205) (u64and x0 6148914691236517205)) 3689348814741910323)) 4) (u64add (u64and (u64shr (u64add (u64and (u64shr x0 1) 6148914691236517205) (u64and x0 6148914691236517205)) 2) 3689348814741910323) (u64and (u64add (u64and (u64shr x0 1) 6148914691236517205) (u64and x0 6148914691236517205)) 3689348814741910323))) 1085102592571150095) 8)) (u64shr (u64add (u64and (u64add (u64shr (u64add (u64and (u64shr (u64add (u64and (u64shr x0 1) 6148914691236517205) (u64and x0 6148914691236517205)) 2) 3689348814741910323) (u64and (u64add (u64and (u64shr x0 1) 6148914691236517205) (u64and x0 6148914691236517205)) 3689348814741910323)) 4) (u64add (u64and (u64shr (u64add (u64and (u64shr x0 1) 6148914691236517205) (u64and x0 6148914691236517205)) 2) 3689348814741910323) (u64and (u64add (u64and (u64shr x0 1) 6148914691236517205) (u64and x0 6148914691236517205)) 3689348814741910323))) 1085102592571150095) (u64shr (u64and (u64add (u64shr (u64add (u64and (u64shr (u64add (u64and (u64shr x0 1) 6148914691236517205) (u64and x0 6148914691236517205)) 2) 3689348814741910323) (u64and (u64add (u64and (u64shr x0 1) 6148914691236517205) (u64and x0 6148914691236517205)) 3689348814741910323)) 4) (u64add (u64and (u64shr (u64add (u64and (u64shr x0 1) 6148914691236517205) (u64and x0 6148914691236517205)) 2) 3689348814741910323) (u64and (u64add (u64and (u64shr x0 1) 6148914691236517205) (u64and x0 6148914691236517205)) 3689348814741910323))) 1085102592571150095) 8)) 16)) (u64shr (u64add (u64add (u64and (u64add (u64shr (u64add (u64and (u64shr (u64add (u64and (u64shr x0 1) 6148914691236517205) (u64and x0 6148914691236517205)) 2) 3689348814741910323) (u64and (u64add (u64and (u64shr x0 1) 6148914691236517205) (u64and x0 6148914691236517205)) 3689348814741910323)) 4) (u64add (u64and (u64shr (u64add (u64and (u64shr x0 1) 6148914691236517205) (u64and x0 6148914691236517205)) 2) 3689348814741910323) (u64and (u64add (u64and (u64shr x0 1) 6148914691236517205) (u64and x0 6148914691236517205)) 3689348814741910323))) 1085102592571150095) (u64shr (u64and (u64add (u64shr (u64add (u64and (u64shr (u64add (u64and (u64shr x0 1) 6148914691236517205) (u64and x0 6148914691236517205)) 2) 3689348814741910323) (u64and (u64add (u64and (u64shr x0 1) 6148914691236517205) (u64and x0 6148914691236517205)) 3689348814741910323)) 4) (u64add (u64and (u64shr (u64add (u64and (u64shr x0 1) 6148914691236517205) (u64and x0 6148914691236517205)) 2) 3689348814741910323) (u64and (u64add (u64and (u64shr x0 1) 6148914691236517205) (u64and x0 6148914691236517205)) 3689348814741910323))) 1085102592571150095) 8)) (u64shr (u64add (u64and (u64add (u64shr (u64add (u64and (u64shr (u64add (u64and (u64shr x0 1) 6148914691236517205) (u64and x0 6148914691236517205)) 2) 3689348814741910323) (u64and (u64add (u64and (u64shr x0 1) 6148914691236517205) (u64and x0 6148914691236517205)) 3689348814741910323)) 4) (u64add (u64and (u64shr (u64add (u64and (u64shr x0 1) 6148914691236517205) (u64and x0 6148914691236517205)) 2) 3689348814741910323) (u64and (u64add (u64and (u64shr x0 1) 6148914691236517205) (u64and x0 6148914691236517205)) 3689348814741910323))) 1085102592571150095) (u64shr (u64and (u64add (u64shr (u64add (u64and (u64shr (u64add (u64and (u64shr x0 1) 6148914691236517205) (u64and x0 6148914691236517205)) 2) 3689348814741910323) (u64and (u64add (u64and (u64shr x0 1) 6148914691236517205) (u64and x0 6148914691236517205)) 3689348814741910323)) 4) (u64add (u64and (u64shr (u64add (u64and (u64shr x0 1) 6148914691236517205) (u64and x0 6148914691236517205)) 2) 3689348814741910323) (u64and (u64add (u64and (u64shr x0 1) 6148914691236517205) (u64and x0 6148914691236517205)) 3689348814741910323))) 1085102592571150095) 8)) 16)) 32)) : Nat) : Int)) 127)
theorem math_bits_OnesCount64_con {σ : Store} {x0 : Nat}  {r : Int} (hh : math_bits_OnesCount64 x0 = some r) :
  Con Tryz.prog 24 #[.int .u64 ((x0 : Nat) : Int)] σ [] (PureP (.int .i64 r) σ) := by
 dsimp only [math_bits_OnesCount64] at hh
 refine Con.mk (n := 35) Tryz.func24 z z z (fun w0 => ?_)
 refine TC.a (TL.i z z (TL.en (TC.a (TL.i z z (TL.w z (shrU (b := 1) z z z) (TL.w z (andU (b := 6148914691236517205) z z z) (TL.i z z (TL.w z (andU (b := 6148914691236517205) z z z) (TL.w z (addU z z z) (TL.i z z (TL.en (TC.a (TL.i z z (TL.w z (shrU (b := 2) z z z) (TL.w z (andU (b := 3689348814741910323) z z z) ?_)))))))))))))))
 refine TL.i z z (TL.w z (andU (b := 3689348814741910323) z z z) (TL.w z (addU z z z) (TL.i z z (TL.en (TC.a (TL.i z z (TL.w z (shrU (b := 4) z z z) (TL.i z z (TL.w z (addU z z z) (TL.w z (andU (b := 1085102592571150095) z z z) (TL.i z z (TL.en (TC.a (TL.i z z (TL.i z z ?_)))))))))))))))
 refine TL.w z (shrU (b := 8) z z z) (TL.w z (addU z z z) (TL.i z z (TL.en (TC.a (TL.i z z (TL.i z z (TL.w z (shrU (b := 16) z z z) (TL.w z (addU z z z) (TL.i z z (TL.en (TC.a (TL.i z z (TL.i z z (TL.w z (shrU (b := 32) z z z) (TL.w z (addU z z z) ?_)))))))))))))))
 refine TL.i z z (TL.en (TC.a (TL.i z z (TL.w z (convInt z underlying34 underlying3 z) (TL.w z (andI z z z) (TL.i z z (TL.en (TC.ret ?_))))))))
 obtain rfl := so hh
 exact rq [2] ⟨z, z, z⟩

noncomputable def set_Size_b1 (x0 : BSet) (i107 : Int) (k108 : Nat) : Option ((Int × Nat) ⊕ (Int)) :=
 iteO (decide (((k108 : Nat) : Int) < 4)) (grd (k108 < 4) (bnd (math_bits_OnesCount64 (BSet.word x0 k108)) (fun v11 => nxt ((IntKind.i64.wrap (i107 + v11)), (k108 + 1))))) (fin (some i107))
noncomputable def set_Size (x0 : BSet) : Option (Int) :=
 iter (fun q : Int × Nat => set_Size_b1 x0 q.1 q.2) (0, 0)
theorem set_Size_con {σ : Store} {x0 : BSet}  {r : Int} (hh : set_Size x0 = some r) :
  Con Tryz.prog 11 #[setV x0] σ [] (PureP (.int .i64 r) σ) := by
 dsimp only [set_Size] at hh
 refine Con.mk (n := 16) Tryz.func11 z z z (fun w0 => ?_)
 refine TC.a (TL.op z (boxA z z z z (fun b101 => ?_)))
 refine TL.i z z (TL.en (TC.a (TL.i z z (TL.en (TC.seq (TC.a (TL.w z (loadAll z ag36 sz36 z (i := 0) z z) (TL.i z z (TL.en (TC.block (TC.loopG (α := (Int × Nat) × (Unit)) (rgs [(3, 1), (5, 1), (7, 8)]) (fun g => [(3, .int .i64 g.1.1), (7, .int .i64 ((g.1.2 : Nat) : Int))]) (fun g => []) (fun g => σ) (fun g => iter (fun q : Int × Nat => set_Size_b1 x0 q.1 q.2) g.1 = some r) (fun g => rounds (fun q : Int × Nat => set_Size_b1 x0 q.1 q.2) g.1) ((0, 0), ()) (Sub.pre 0 z) z (by repeat (first | exact trivial | refine ⟨z, ?_⟩)) hh (fun g1 j1 hg1 => ?_))))))))))))
 obtain ⟨⟨i107, k108⟩, _⟩ := g1
 have hh := hg1; clear hg1
 try dsimp only
 obtain ⟨z1, hh, hR1⟩ := iter_e hh
 dsimp only [set_Size_b1] at hh
 refine TC.a (TL.w z (OpVal.lss z z z) (TL.en (TC.seq (TC.cD z hh (fun h109 hh => ?_) (fun h109 hh => ?_)))))
 ·refine TC.skip (S.n (TC.seq (TC.block (TC.a ?_))))
  have u7 := grd_c hh
  replace hh := grd_t hh
  refine TL.w z (indexSet z underlying36 sz34 ag34 z z (by omega)) (TL.i z z (TL.en (TC.region (TL.i z z (TL.i z z ?_)))))
  obtain ⟨v11, u11, hh⟩ := bnd_e hh
  refine TL.op z (callP (math_bits_OnesCount64_con u11) z z pf24 z z z ?_)
  refine TL.w z (addW z z z) (TL.i z z (TL.nil (B.n (S.n (TC.region (TL.w z (OpVal.succ z z z (by omega)) (TL.i z z (TL.en ?_))))))))
  obtain ⟨hh, hlt110⟩ := nxt_x hR1 hh
  exact lf (((IntKind.i64.wrap (i107 + v11)), (k108 + 1)), ()) hlt110 hh (Sub.pre 0 z)
 ·refine TC.exit (S.x (S.x ?_))
  replace hh := fin_x hR1 hh
  refine TC.exitHere (S.n (TC.a (TL.i z z (TL.i z z (TL.en (TC.ret ?_))))))
  obtain rfl := so hh
  exact rq [2] ⟨z, z, z⟩

noncomputable def whittlelaw20_fork (x0 : List UInt8) (x1 : List UInt8) : Option (Fst) :=
 grd (x0.length ≤ 281474976710656) (grd (x1.length ≤ 281474976710656) (grd ([(97 : UInt8)].length ≤ 1000000000000) (grd ([(98 : UInt8)].length ≤ 1000000000000) (grd ([(99 : UInt8)].length ≤ 1000000000000) (some (⟨3, [(⟨0, ([] : List UInt8)⟩ : Tip), (⟨1, ([] : List UInt8)⟩ : Tip)], [(⟨2, ([] : List UInt8)⟩ : Tip)], [(⟨0, 0, (BSet.ofL [(97 : UInt8)]), x0, false⟩ : Arc), (⟨1, 1, (BSet.ofL [(97 : UInt8)]), x1, false⟩ : Arc), (⟨0, 2, (BSet.ofL [(98 : UInt8)]), ([] : List UInt8), false⟩ : Arc), (⟨1, 2, (BSet.ofL [(99 : UInt8)]), ([] : List UInt8), false⟩ : Arc)]⟩ : Fst))))))
def whittlelaw20_fork_P (σ : Store) (r : Fst) : Value → Store → List Res → Prop := fun v σ' H' =>
 ∃ (a1 : Option Addr), ∃ (c1 : Nat), ∃ (a2 : Option Addr), ∃ (c2 : Nat), ∃ (a3 : Option Addr), ∃ (c3 : Nat),  v = .agg #[.int .i64 r.states, .slice a1 r.starts.length c1, .slice a2 r.ends.length c2, .slice a3 r.arcs.length c3] ∧ RS σ' 2 encTip (.slice a1 r.starts.length c1) r.starts ∧ RS σ' 2 encTip (.slice a2 r.ends.length c2) r.ends ∧ RS σ' 8 encArc (.slice a3 r.arcs.length c3) r.arcs ∧ H' = []
set_option maxHeartbeats 8000000 in
theorem whittlelaw20_fork_con {σ : Store} {x0 : List UInt8} {x1 : List UInt8}  {r : Fst} (hh : whittlelaw20_fork x0 x1 = some r) :
  Con Tryz.prog 15 #[.string (bs x0), .string (bs x1)] σ [] (whittlelaw20_fork_P σ r) := by
 dsimp only [whittlelaw20_fork] at hh
 refine Con.mk (n := 27) Tryz.func15 z z z (fun w0 => ?_)
 have x0b := grd_c hh
 replace hh := grd_t hh
 have x1b := grd_c hh
 replace hh := grd_t hh
 refine TC.a (TL.op z (OpOk.alloc z ze25 z z (fun b101 => ?_)))
 refine TL.en (TC.a (TL.op z (OpOk.lit (enc := encU8) [(97 : UInt8)] z underlying63 sz5 ze5 z z z encU8_len (by decide) (by decide) (0 : UInt8) z (by decide) z (by decide) encU8_one (fun a103 c104 => ?_))))
 have u3 := grd_c hh
 replace hh := grd_t hh
 refine TL.op z (callT (of_con _ _ _ [(97 : UInt8)] u3) z z pf29 z z z z ?_)
 refine TL.op z (OpOk.alloc z ze36 z z (fun b106 => ?_))
 refine TL.op z (storeAll z sz36 z z z z z z ?_)
 refine TL.en (TC.seq ?_)
 have u18 := grd_c hh
 replace hh := grd_t hh
 have u21 := grd_c hh
 replace hh := grd_t hh
 refine TC.draw [19] (by kernel_rfl) (TA.par (f := 1) (E := fun e γ => upd (upd (upd (upd (upd (upd (upd (upd (upd (upd (upd (upd (upd (upd (upd (upd (upd (upd (upd (e) 8 (.agg #[.int .i64 0, .string (bs ([] : List UInt8))])) 9 (.agg #[.int .i64 1, .string (bs ([] : List UInt8))])) 10 (.slice (γ 2).1 ([(⟨0, ([] : List UInt8)⟩ : Tip), (⟨1, ([] : List UInt8)⟩ : Tip)].length) (γ 2).2)) 11 (.agg #[.int .i64 2, .string (bs ([] : List UInt8))])) 12 (.slice (γ 4).1 ([(⟨2, ([] : List UInt8)⟩ : Tip)].length) (γ 4).2)) 13 (setV (BSet.ofL [(97 : UInt8)]))) 14 (.string (bs x0))) 15 (.agg #[.int .i64 0, .int .i64 0, .int .u64 (((BSet.ofL [(97 : UInt8)]).a : Nat) : Int), .int .u64 (((BSet.ofL [(97 : UInt8)]).b : Nat) : Int), .int .u64 (((BSet.ofL [(97 : UInt8)]).c : Nat) : Int), .int .u64 (((BSet.ofL [(97 : UInt8)]).d : Nat) : Int), .string (bs x0), .bool false])) 16 (setV (BSet.ofL [(97 : UInt8)]))) 17 (.string (bs x1))) 18 (.agg #[.int .i64 1, .int .i64 1, .int .u64 (((BSet.ofL [(97 : UInt8)]).a : Nat) : Int), .int .u64 (((BSet.ofL [(97 : UInt8)]).b : Nat) : Int), .int .u64 (((BSet.ofL [(97 : UInt8)]).c : Nat) : Int), .int .u64 (((BSet.ofL [(97 : UInt8)]).d : Nat) : Int), .string (bs x1), .bool false])) 19 (.slice (γ 11).1 ([(98 : UInt8)].length) (γ 11).2)) 20 (setV (BSet.ofL [(98 : UInt8)]))) 21 (.agg #[.int .i64 0, .int .i64 2, .int .u64 (((BSet.ofL [(98 : UInt8)]).a : Nat) : Int), .int .u64 (((BSet.ofL [(98 : UInt8)]).b : Nat) : Int), .int .u64 (((BSet.ofL [(98 : UInt8)]).c : Nat) : Int), .int .u64 (((BSet.ofL [(98 : UInt8)]).d : Nat) : Int), .string (bs ([] : List UInt8)), .bool false])) 22 (.slice (γ 14).1 ([(99 : UInt8)].length) (γ 14).2)) 23 (setV (BSet.ofL [(99 : UInt8)]))) 24 (.agg #[.int .i64 1, .int .i64 2, .int .u64 (((BSet.ofL [(99 : UInt8)]).a : Nat) : Int), .int .u64 (((BSet.ofL [(99 : UInt8)]).b : Nat) : Int), .int .u64 (((BSet.ofL [(99 : UInt8)]).c : Nat) : Int), .int .u64 (((BSet.ofL [(99 : UInt8)]).d : Nat) : Int), .string (bs ([] : List UInt8)), .bool false])) 25 (.slice (γ 17).1 ([(⟨0, 0, (BSet.ofL [(97 : UInt8)]), x0, false⟩ : Arc), (⟨1, 1, (BSet.ofL [(97 : UInt8)]), x1, false⟩ : Arc), (⟨0, 2, (BSet.ofL [(98 : UInt8)]), ([] : List UInt8), false⟩ : Arc), (⟨1, 2, (BSet.ofL [(99 : UInt8)]), ([] : List UInt8), false⟩ : Arc)].length) (γ 17).2)) 26 (.agg #[.int .i64 3, .slice (γ 2).1 ([(⟨0, ([] : List UInt8)⟩ : Tip), (⟨1, ([] : List UInt8)⟩ : Tip)].length) (γ 2).2, .slice (γ 4).1 ([(⟨2, ([] : List UInt8)⟩ : Tip)].length) (γ 4).2, .slice (γ 17).1 ([(⟨0, 0, (BSet.ofL [(97 : UInt8)]), x0, false⟩ : Arc), (⟨1, 1, (BSet.ofL [(97 : UInt8)]), x1, false⟩ : Arc), (⟨0, 2, (BSet.ofL [(98 : UInt8)]), ([] : List UInt8), false⟩ : Arc), (⟨1, 2, (BSet.ofL [(99 : UInt8)]), ([] : List UInt8), false⟩ : Arc)].length) (γ 17).2])) (Hn := fun γ => [Res.cells b106 (setA (BSet.ofL [(97 : UInt8)])) 36, Res.cells b101 #[.int .i64 0, .slice none 0 0, .slice none 0 0, .slice none 0 0] 25, Res.rowS 43 2 encTip (.slice (γ 2).1 [(⟨0, ([] : List UInt8)⟩ : Tip), (⟨1, ([] : List UInt8)⟩ : Tip)].length (γ 2).2) [(⟨0, ([] : List UInt8)⟩ : Tip), (⟨1, ([] : List UInt8)⟩ : Tip)], Res.rowS 43 2 encTip (.slice (γ 4).1 [(⟨2, ([] : List UInt8)⟩ : Tip)].length (γ 4).2) [(⟨2, ([] : List UInt8)⟩ : Tip)], Res.rowS 38 8 encArc (.slice (γ 17).1 [(⟨0, 0, (BSet.ofL [(97 : UInt8)]), x0, false⟩ : Arc), (⟨1, 1, (BSet.ofL [(97 : UInt8)]), x1, false⟩ : Arc), (⟨0, 2, (BSet.ofL [(98 : UInt8)]), ([] : List UInt8), false⟩ : Arc), (⟨1, 2, (BSet.ofL [(99 : UInt8)]), ([] : List UInt8), false⟩ : Arc)].length (γ 17).2) [(⟨0, 0, (BSet.ofL [(97 : UInt8)]), x0, false⟩ : Arc), (⟨1, 1, (BSet.ofL [(97 : UInt8)]), x1, false⟩ : Arc), (⟨0, 2, (BSet.ofL [(98 : UInt8)]), ([] : List UInt8), false⟩ : Arc), (⟨1, 2, (BSet.ofL [(99 : UInt8)]), ([] : List UInt8), false⟩ : Arc)]]) [⟨8, [], fun _ => .agg #[.int .i64 0, .string (bs ([] : List UInt8))], fun _ => [], []⟩, ⟨9, [], fun _ => .agg #[.int .i64 1, .string (bs ([] : List UInt8))], fun _ => [], []⟩, ⟨10, [2], fun l => match l with | [(a123, c124)] => .slice a123 ([(⟨0, ([] : List UInt8)⟩ : Tip), (⟨1, ([] : List UInt8)⟩ : Tip)].length) c124 | _ => undef, fun l => match l with | [(a123, c124)] => [Res.rowS 43 2 encTip (.slice a123 [(⟨0, ([] : List UInt8)⟩ : Tip), (⟨1, ([] : List UInt8)⟩ : Tip)].length c124) [(⟨0, ([] : List UInt8)⟩ : Tip), (⟨1, ([] : List UInt8)⟩ : Tip)]] | _ => [], []⟩, ⟨11, [], fun _ => .agg #[.int .i64 2, .string (bs ([] : List UInt8))], fun _ => [], []⟩, ⟨12, [4], fun l => match l with | [(a126, c127)] => .slice a126 ([(⟨2, ([] : List UInt8)⟩ : Tip)].length) c127 | _ => undef, fun l => match l with | [(a126, c127)] => [Res.rowS 43 2 encTip (.slice a126 [(⟨2, ([] : List UInt8)⟩ : Tip)].length c127) [(⟨2, ([] : List UInt8)⟩ : Tip)]] | _ => [], []⟩, ⟨13, [], fun _ => setV (BSet.ofL [(97 : UInt8)]), fun _ => [], []⟩, ⟨14, [], fun _ => .string (bs x0), fun _ => [], []⟩, ⟨15, [], fun _ => .agg #[.int .i64 0, .int .i64 0, .int .u64 (((BSet.ofL [(97 : UInt8)]).a : Nat) : Int), .int .u64 (((BSet.ofL [(97 : UInt8)]).b : Nat) : Int), .int .u64 (((BSet.ofL [(97 : UInt8)]).c : Nat) : Int), .int .u64 (((BSet.ofL [(97 : UInt8)]).d : Nat) : Int), .string (bs x0), .bool false], fun _ => [], []⟩, ⟨16, [], fun _ => setV (BSet.ofL [(97 : UInt8)]), fun _ => [], []⟩, ⟨17, [], fun _ => .string (bs x1), fun _ => [], []⟩, ⟨18, [], fun _ => .agg #[.int .i64 1, .int .i64 1, .int .u64 (((BSet.ofL [(97 : UInt8)]).a : Nat) : Int), .int .u64 (((BSet.ofL [(97 : UInt8)]).b : Nat) : Int), .int .u64 (((BSet.ofL [(97 : UInt8)]).c : Nat) : Int), .int .u64 (((BSet.ofL [(97 : UInt8)]).d : Nat) : Int), .string (bs x1), .bool false], fun _ => [], []⟩, ⟨19, [11], fun l => match l with | [(a129, c130)] => .slice a129 ([(98 : UInt8)].length) c130 | _ => undef, fun l => match l with | [(a129, c130)] => [Res.rowS 5 1 encU8 (.slice a129 [(98 : UInt8)].length c130) [(98 : UInt8)]] | _ => [], []⟩, ⟨20, [], fun _ => setV (BSet.ofL [(98 : UInt8)]), fun _ => [], [11]⟩, ⟨21, [], fun _ => .agg #[.int .i64 0, .int .i64 2, .int .u64 (((BSet.ofL [(98 : UInt8)]).a : Nat) : Int), .int .u64 (((BSet.ofL [(98 : UInt8)]).b : Nat) : Int), .int .u64 (((BSet.ofL [(98 : UInt8)]).c : Nat) : Int), .int .u64 (((BSet.ofL [(98 : UInt8)]).d : Nat) : Int), .string (bs ([] : List UInt8)), .bool false], fun _ => [], []⟩, ⟨22, [14], fun l => match l with | [(a132, c133)] => .slice a132 ([(99 : UInt8)].length) c133 | _ => undef, fun l => match l with | [(a132, c133)] => [Res.rowS 5 1 encU8 (.slice a132 [(99 : UInt8)].length c133) [(99 : UInt8)]] | _ => [], []⟩, ⟨23, [], fun _ => setV (BSet.ofL [(99 : UInt8)]), fun _ => [], [14]⟩, ⟨24, [], fun _ => .agg #[.int .i64 1, .int .i64 2, .int .u64 (((BSet.ofL [(99 : UInt8)]).a : Nat) : Int), .int .u64 (((BSet.ofL [(99 : UInt8)]).b : Nat) : Int), .int .u64 (((BSet.ofL [(99 : UInt8)]).c : Nat) : Int), .int .u64 (((BSet.ofL [(99 : UInt8)]).d : Nat) : Int), .string (bs ([] : List UInt8)), .bool false], fun _ => [], []⟩, ⟨25, [17], fun l => match l with | [(a135, c136)] => .slice a135 ([(⟨0, 0, (BSet.ofL [(97 : UInt8)]), x0, false⟩ : Arc), (⟨1, 1, (BSet.ofL [(97 : UInt8)]), x1, false⟩ : Arc), (⟨0, 2, (BSet.ofL [(98 : UInt8)]), ([] : List UInt8), false⟩ : Arc), (⟨1, 2, (BSet.ofL [(99 : UInt8)]), ([] : List UInt8), false⟩ : Arc)].length) c136 | _ => undef, fun l => match l with | [(a135, c136)] => [Res.rowS 38 8 encArc (.slice a135 [(⟨0, 0, (BSet.ofL [(97 : UInt8)]), x0, false⟩ : Arc), (⟨1, 1, (BSet.ofL [(97 : UInt8)]), x1, false⟩ : Arc), (⟨0, 2, (BSet.ofL [(98 : UInt8)]), ([] : List UInt8), false⟩ : Arc), (⟨1, 2, (BSet.ofL [(99 : UInt8)]), ([] : List UInt8), false⟩ : Arc)].length c136) [(⟨0, 0, (BSet.ofL [(97 : UInt8)]), x0, false⟩ : Arc), (⟨1, 1, (BSet.ofL [(97 : UInt8)]), x1, false⟩ : Arc), (⟨0, 2, (BSet.ofL [(98 : UInt8)]), ([] : List UInt8), false⟩ : Arc), (⟨1, 2, (BSet.ofL [(99 : UInt8)]), ([] : List UInt8), false⟩ : Arc)]] | _ => [], []⟩, ⟨26, [2, 4, 17], fun l => match l with | [(a123, c124), (a126, c127), (a135, c136)] => .agg #[.int .i64 3, .slice a123 ([(⟨0, ([] : List UInt8)⟩ : Tip), (⟨1, ([] : List UInt8)⟩ : Tip)].length) c124, .slice a126 ([(⟨2, ([] : List UInt8)⟩ : Tip)].length) c127, .slice a135 ([(⟨0, 0, (BSet.ofL [(97 : UInt8)]), x0, false⟩ : Arc), (⟨1, 1, (BSet.ofL [(97 : UInt8)]), x1, false⟩ : Arc), (⟨0, 2, (BSet.ofL [(98 : UInt8)]), ([] : List UInt8), false⟩ : Arc), (⟨1, 2, (BSet.ofL [(99 : UInt8)]), ([] : List UInt8), false⟩ : Arc)].length) c136] | _ => undef, fun _ => [], []⟩] (And.intro (And.intro (And.intro (And.intro (And.intro (And.intro (And.intro (And.intro (And.intro (And.intro (And.intro (And.intro (And.intro (And.intro (And.intro (And.intro (And.intro (And.intro (And.intro (True.intro) ?_) ?_) ?_) ?_) ?_) ?_) ?_) ?_) ?_) ?_) ?_) ?_) ?_) ?_) ?_) ?_) ?_) ?_) ?_) (fun γ => ?_))
 ·refine ⟨_, z, z, fun e γ F hd ho => ?_⟩
  show OpOk _ _ _ _ ((Res.cells b106 (setA (BSet.ofL [(97 : UInt8)])) 36) :: (Res.cells b101 #[.int .i64 0, .slice none 0 0, .slice none 0 0, .slice none 0 0] 25) :: F) _
  exact OpVal.ok (buildL z pl43 ze43 z) z z ⟨z, (none, 0), z, List.Perm.refl _⟩
 ·refine ⟨_, z, z, fun e γ F hd ho => ?_⟩
  show OpOk _ _ _ _ ((Res.cells b106 (setA (BSet.ofL [(97 : UInt8)])) 36) :: (Res.cells b101 #[.int .i64 0, .slice none 0 0, .slice none 0 0, .slice none 0 0] 25) :: F) _
  exact OpVal.ok (buildL z pl43 ze43 z) z z ⟨z, (none, 0), z, List.Perm.refl _⟩
 ·refine ⟨_, z, z, fun e γ F hd ho => ?_⟩
  rw [← upds_of_has (e := e) (l := [(8, .agg #[.int .i64 0, .string (bs ([] : List UInt8))]), (9, .agg #[.int .i64 1, .string (bs ([] : List UInt8))])]) ⟨hd 0 (by kernel_rfl) rfl, hd 1 (by kernel_rfl) rfl, trivial⟩]
  show OpOk _ _ _ _ ((Res.cells b106 (setA (BSet.ofL [(97 : UInt8)])) 36) :: (Res.cells b101 #[.int .i64 0, .slice none 0 0, .slice none 0 0, .slice none 0 0] 25) :: F) _
  exact OpOk.lit (enc := encTip) [(⟨0, ([] : List UInt8)⟩ : Tip), (⟨1, ([] : List UInt8)⟩ : Tip)] z underlying22 sz43 ze43 z z z encTip_len (by decide) (by decide) Tip.zero z (by decide) z (by decide) encTip_one (fun a138 c139 => ⟨z, (a138, c139), z, List.Perm.refl _⟩)
 ·refine ⟨_, z, z, fun e γ F hd ho => ?_⟩
  show OpOk _ _ _ _ ((Res.cells b106 (setA (BSet.ofL [(97 : UInt8)])) 36) :: (Res.cells b101 #[.int .i64 0, .slice none 0 0, .slice none 0 0, .slice none 0 0] 25) :: F) _
  exact OpVal.ok (buildL z pl43 ze43 z) z z ⟨z, (none, 0), z, List.Perm.refl _⟩
 ·refine ⟨_, z, z, fun e γ F hd ho => ?_⟩
  rw [← upds_of_has (e := e) (l := [(11, .agg #[.int .i64 2, .string (bs ([] : List UInt8))])]) ⟨hd 3 (by kernel_rfl) rfl, trivial⟩]
  show OpOk _ _ _ _ ((Res.cells b106 (setA (BSet.ofL [(97 : UInt8)])) 36) :: (Res.cells b101 #[.int .i64 0, .slice none 0 0, .slice none 0 0, .slice none 0 0] 25) :: F) _
  exact OpOk.lit (enc := encTip) [(⟨2, ([] : List UInt8)⟩ : Tip)] z underlying22 sz43 ze43 z z z encTip_len (by decide) (by decide) Tip.zero z (by decide) z (by decide) encTip_one (fun a141 c142 => ⟨z, (a141, c142), z, List.Perm.refl _⟩)
 ·refine ⟨_, z, z, fun e γ F hd ho => ?_⟩
  rw [← upds_of_has (e := e) (l := [(5, loc b106 0)]) ⟨ho 5 rfl, trivial⟩]
  show OpOk _ _ _ _ ((Res.cells b106 (setA (BSet.ofL [(97 : UInt8)])) 36) :: (Res.cells b101 #[.int .i64 0, .slice none 0 0, .slice none 0 0, .slice none 0 0] 25) :: F) _
  exact OpVal.ok (loadAll z ag36 sz36 z (i := 0) z z) z z ⟨z, (none, 0), z, List.Perm.refl _⟩
 ·refine ⟨_, z, z, fun e γ F hd ho => ?_⟩
  rw [← upds_of_has (e := e) (l := [(0, .string (bs x0))]) ⟨ho 0 rfl, trivial⟩]
  show OpOk _ _ _ _ ((Res.cells b106 (setA (BSet.ofL [(97 : UInt8)])) 36) :: (Res.cells b101 #[.int .i64 0, .slice none 0 0, .slice none 0 0, .slice none 0 0] 25) :: F) _
  exact OpVal.ok (moveStr (.inl z) z) z z ⟨z, (none, 0), z, List.Perm.refl _⟩
 ·refine ⟨_, z, z, fun e γ F hd ho => ?_⟩
  rw [← upds_of_has (e := e) (l := [(13, setV (BSet.ofL [(97 : UInt8)])), (14, .string (bs x0))]) ⟨hd 5 (by kernel_rfl) rfl, hd 6 (by kernel_rfl) rfl, trivial⟩]
  show OpOk _ _ _ _ ((Res.cells b106 (setA (BSet.ofL [(97 : UInt8)])) 36) :: (Res.cells b101 #[.int .i64 0, .slice none 0 0, .slice none 0 0, .slice none 0 0] 25) :: F) _
  exact OpVal.ok (buildL z pl38 ze38 z) z z ⟨z, (none, 0), z, List.Perm.refl _⟩
 ·refine ⟨_, z, z, fun e γ F hd ho => ?_⟩
  rw [← upds_of_has (e := e) (l := [(5, loc b106 0)]) ⟨ho 5 rfl, trivial⟩]
  show OpOk _ _ _ _ ((Res.cells b106 (setA (BSet.ofL [(97 : UInt8)])) 36) :: (Res.cells b101 #[.int .i64 0, .slice none 0 0, .slice none 0 0, .slice none 0 0] 25) :: F) _
  exact OpVal.ok (loadAll z ag36 sz36 z (i := 0) z z) z z ⟨z, (none, 0), z, List.Perm.refl _⟩
 ·refine ⟨_, z, z, fun e γ F hd ho => ?_⟩
  rw [← upds_of_has (e := e) (l := [(1, .string (bs x1))]) ⟨ho 1 rfl, trivial⟩]
  show OpOk _ _ _ _ ((Res.cells b106 (setA (BSet.ofL [(97 : UInt8)])) 36) :: (Res.cells b101 #[.int .i64 0, .slice none 0 0, .slice none 0 0, .slice none 0 0] 25) :: F) _
  exact OpVal.ok (moveStr (.inl z) z) z z ⟨z, (none, 0), z, List.Perm.refl _⟩
 ·refine ⟨_, z, z, fun e γ F hd ho => ?_⟩
  rw [← upds_of_has (e := e) (l := [(16, setV (BSet.ofL [(97 : UInt8)])), (17, .string (bs x1))]) ⟨hd 8 (by kernel_rfl) rfl, hd 9 (by kernel_rfl) rfl, trivial⟩]
  show OpOk _ _ _ _ ((Res.cells b106 (setA (BSet.ofL [(97 : UInt8)])) 36) :: (Res.cells b101 #[.int .i64 0, .slice none 0 0, .slice none 0 0, .slice none 0 0] 25) :: F) _
  exact OpVal.ok (buildL z pl38 ze38 z) z z ⟨z, (none, 0), z, List.Perm.refl _⟩
 ·refine ⟨_, z, z, fun e γ F hd ho => ?_⟩
  show OpOk _ _ _ _ ((Res.cells b106 (setA (BSet.ofL [(97 : UInt8)])) 36) :: (Res.cells b101 #[.int .i64 0, .slice none 0 0, .slice none 0 0, .slice none 0 0] 25) :: F) _
  exact OpOk.lit (enc := encU8) [(98 : UInt8)] z underlying63 sz5 ze5 z z z encU8_len (by decide) (by decide) (0 : UInt8) z (by decide) z (by decide) encU8_one (fun a144 c145 => ⟨z, (a144, c145), z, List.Perm.refl _⟩)
 ·refine ⟨_, z, z, fun e γ F hd ho => ?_⟩
  rw [← upds_of_has (e := e) (l := [(19, .slice (γ 11).1 ([(98 : UInt8)].length) (γ 11).2)]) ⟨hd 11 (by kernel_rfl) rfl, trivial⟩]
  show OpOk _ _ _ _ ((Res.rowS 5 1 encU8 (.slice (γ 11).1 [(98 : UInt8)].length (γ 11).2) [(98 : UInt8)]) :: (Res.cells b106 (setA (BSet.ofL [(97 : UInt8)])) 36) :: (Res.cells b101 #[.int .i64 0, .slice none 0 0, .slice none 0 0, .slice none 0 0] 25) :: F) _
  exact callT (of_con _ _ _ [(98 : UInt8)] u18) z z pf29 z z z z ⟨z, (none, 0), z, List.Perm.refl _⟩
 ·refine ⟨_, z, z, fun e γ F hd ho => ?_⟩
  rw [← upds_of_has (e := e) (l := [(20, setV (BSet.ofL [(98 : UInt8)]))]) ⟨hd 12 (by kernel_rfl) rfl, trivial⟩]
  show OpOk _ _ _ _ ((Res.cells b106 (setA (BSet.ofL [(97 : UInt8)])) 36) :: (Res.cells b101 #[.int .i64 0, .slice none 0 0, .slice none 0 0, .slice none 0 0] 25) :: F) _
  exact OpVal.ok (buildL z pl38 ze38 z) z z ⟨z, (none, 0), z, List.Perm.refl _⟩
 ·refine ⟨_, z, z, fun e γ F hd ho => ?_⟩
  show OpOk _ _ _ _ ((Res.cells b106 (setA (BSet.ofL [(97 : UInt8)])) 36) :: (Res.cells b101 #[.int .i64 0, .slice none 0 0, .slice none 0 0, .slice none 0 0] 25) :: F) _
  exact OpOk.lit (enc := encU8) [(99 : UInt8)] z underlying63 sz5 ze5 z z z encU8_len (by decide) (by decide) (0 : UInt8) z (by decide) z (by decide) encU8_one (fun a147 c148 => ⟨z, (a147, c148), z, List.Perm.refl _⟩)
 ·refine ⟨_, z, z, fun e γ F hd ho => ?_⟩
  rw [← upds_of_has (e := e) (l := [(22, .slice (γ 14).1 ([(99 : UInt8)].length) (γ 14).2)]) ⟨hd 14 (by kernel_rfl) rfl, trivial⟩]
  show OpOk _ _ _ _ ((Res.rowS 5 1 encU8 (.slice (γ 14).1 [(99 : UInt8)].length (γ 14).2) [(99 : UInt8)]) :: (Res.cells b106 (setA (BSet.ofL [(97 : UInt8)])) 36) :: (Res.cells b101 #[.int .i64 0, .slice none 0 0, .slice none 0 0, .slice none 0 0] 25) :: F) _
  exact callT (of_con _ _ _ [(99 : UInt8)] u21) z z pf29 z z z z ⟨z, (none, 0), z, List.Perm.refl _⟩
 ·refine ⟨_, z, z, fun e γ F hd ho => ?_⟩
  rw [← upds_of_has (e := e) (l := [(23, setV (BSet.ofL [(99 : UInt8)]))]) ⟨hd 15 (by kernel_rfl) rfl, trivial⟩]
  show OpOk _ _ _ _ ((Res.cells b106 (setA (BSet.ofL [(97 : UInt8)])) 36) :: (Res.cells b101 #[.int .i64 0, .slice none 0 0, .slice none 0 0, .slice none 0 0] 25) :: F) _
  exact OpVal.ok (buildL z pl38 ze38 z) z z ⟨z, (none, 0), z, List.Perm.refl _⟩
 ·refine ⟨_, z, z, fun e γ F hd ho => ?_⟩
  rw [← upds_of_has (e := e) (l := [(15, .agg #[.int .i64 0, .int .i64 0, .int .u64 (((BSet.ofL [(97 : UInt8)]).a : Nat) : Int), .int .u64 (((BSet.ofL [(97 : UInt8)]).b : Nat) : Int), .int .u64 (((BSet.ofL [(97 : UInt8)]).c : Nat) : Int), .int .u64 (((BSet.ofL [(97 : UInt8)]).d : Nat) : Int), .string (bs x0), .bool false]), (18, .agg #[.int .i64 1, .int .i64 1, .int .u64 (((BSet.ofL [(97 : UInt8)]).a : Nat) : Int), .int .u64 (((BSet.ofL [(97 : UInt8)]).b : Nat) : Int), .int .u64 (((BSet.ofL [(97 : UInt8)]).c : Nat) : Int), .int .u64 (((BSet.ofL [(97 : UInt8)]).d : Nat) : Int), .string (bs x1), .bool false]), (21, .agg #[.int .i64 0, .int .i64 2, .int .u64 (((BSet.ofL [(98 : UInt8)]).a : Nat) : Int), .int .u64 (((BSet.ofL [(98 : UInt8)]).b : Nat) : Int), .int .u64 (((BSet.ofL [(98 : UInt8)]).c : Nat) : Int), .int .u64 (((BSet.ofL [(98 : UInt8)]).d : Nat) : Int), .string (bs ([] : List UInt8)), .bool false]), (24, .agg #[.int .i64 1, .int .i64 2, .int .u64 (((BSet.ofL [(99 : UInt8)]).a : Nat) : Int), .int .u64 (((BSet.ofL [(99 : UInt8)]).b : Nat) : Int), .int .u64 (((BSet.ofL [(99 : UInt8)]).c : Nat) : Int), .int .u64 (((BSet.ofL [(99 : UInt8)]).d : Nat) : Int), .string (bs ([] : List UInt8)), .bool false])]) ⟨hd 7 (by kernel_rfl) rfl, hd 10 (by kernel_rfl) rfl, hd 13 (by kernel_rfl) rfl, hd 16 (by kernel_rfl) rfl, trivial⟩]
  show OpOk _ _ _ _ ((Res.cells b106 (setA (BSet.ofL [(97 : UInt8)])) 36) :: (Res.cells b101 #[.int .i64 0, .slice none 0 0, .slice none 0 0, .slice none 0 0] 25) :: F) _
  exact OpOk.lit (enc := encArc) [(⟨0, 0, (BSet.ofL [(97 : UInt8)]), x0, false⟩ : Arc), (⟨1, 1, (BSet.ofL [(97 : UInt8)]), x1, false⟩ : Arc), (⟨0, 2, (BSet.ofL [(98 : UInt8)]), ([] : List UInt8), false⟩ : Arc), (⟨1, 2, (BSet.ofL [(99 : UInt8)]), ([] : List UInt8), false⟩ : Arc)] z underlying23 sz38 ze38 z z z encArc_len (by decide) (by decide) Arc.zero z (by decide) z (by decide) encArc_one (fun a150 c151 => ⟨z, (a150, c151), z, List.Perm.refl _⟩)
 ·refine ⟨_, z, z, fun e γ F hd ho => ?_⟩
  rw [← upds_of_has (e := e) (l := [(10, .slice (γ 2).1 ([(⟨0, ([] : List UInt8)⟩ : Tip), (⟨1, ([] : List UInt8)⟩ : Tip)].length) (γ 2).2), (12, .slice (γ 4).1 ([(⟨2, ([] : List UInt8)⟩ : Tip)].length) (γ 4).2), (25, .slice (γ 17).1 ([(⟨0, 0, (BSet.ofL [(97 : UInt8)]), x0, false⟩ : Arc), (⟨1, 1, (BSet.ofL [(97 : UInt8)]), x1, false⟩ : Arc), (⟨0, 2, (BSet.ofL [(98 : UInt8)]), ([] : List UInt8), false⟩ : Arc), (⟨1, 2, (BSet.ofL [(99 : UInt8)]), ([] : List UInt8), false⟩ : Arc)].length) (γ 17).2)]) ⟨hd 2 (by kernel_rfl) rfl, hd 4 (by kernel_rfl) rfl, hd 17 (by kernel_rfl) rfl, trivial⟩]
  show OpOk _ _ _ _ ((Res.cells b106 (setA (BSet.ofL [(97 : UInt8)])) 36) :: (Res.cells b101 #[.int .i64 0, .slice none 0 0, .slice none 0 0, .slice none 0 0] 25) :: F) _
  exact OpVal.ok (buildL z pl25 ze25 z) z z ⟨z, (none, 0), z, List.Perm.refl _⟩
 ·skip
  refine TA.front 1 z z (TA.last 19 (by kernel_rfl) z z z (storeAll z sz25 z z z z z z ?_))
  refine TZ.done (by kernel_rfl) (S.n (TC.front 2 z z (TC.sealS encTip_len (fun τ155 hle154 hr153 => ?_))))
  have hr153b := hr153.rv.big
  refine TC.front 2 z z (TC.sealS encTip_len (fun τ158 hle157 hr156 => ?_))
  replace hr153 := hr153.mono hle157
  have hr156b := hr156.rv.big
  refine TC.front 2 z z (TC.sealS encArc_len (fun τ161 hle160 hr159 => ?_))
  replace hr153 := hr153.mono hle160
  replace hr156 := hr156.mono hle160
  have hr159b := hr159.rv.big
  refine TC.rt 1 ?_
  obtain rfl := so hh
  exact ro [] z (RVs.agg ag25 sz25 z (i := 0) z z RVs.nil) ⟨(γ 2).1, (γ 2).2, (γ 4).1, (γ 4).2, (γ 17).1, (γ 17).2, z, hr153, hr156, hr159, z⟩

noncomputable def whittlelaw20_awake : Option (Bool) :=
 bnd (whittlelaw20_fork ([120] : List UInt8) ([121] : List UInt8)) (fun v2 => bnd (twin_Twin v2) (fun v3 => bnd (whittlelaw20_fork ([120] : List UInt8) ([120] : List UInt8)) (fun v9 => bnd (twin_Twin v9) (fun v10 => bnd (whittlelaw20_fork ([120] : List UInt8) ([121, 121] : List UInt8)) (fun v16 => bnd (twin_Bound v16) (fun v17 => iteO (!v3.1) (iteO (decide (v3.2 = 0)) (iteO v10.1 (iteO (decide (v10.2 = v3.2)) (iteO (decide (v17.1 = 18)) (some (decide (v17.2 = v3.2))) (some false)) (some false)) (some false)) (some false)) (some false)))))))
set_option maxHeartbeats 4000000 in
theorem whittlelaw20_awake_con {σ : Store}   {r : Bool} (hh : whittlelaw20_awake = some r) :
  Con Tryz.prog 7 #[] σ [] (PureP (.bool r) σ) := by
 dsimp only [whittlelaw20_awake] at hh
 refine Con.mk (n := 45) Tryz.func7 z z z (fun w0 => ?_)
 refine TC.a (TL.j z z (TL.en (TC.a ?_)))
 obtain ⟨v2, u2, hh⟩ := bnd_e hh
 refine TL.op z (OpOk.call (whittlelaw20_fork_con u2) z z pf15 z z z z ?_)
 rintro _ τ101 _ hle101 ⟨a101_1, c101_1, a101_2, c101_2, a101_3, c101_3, rfl, hr101_0, hr101_1, hr101_2, rfl⟩
 have hr101_0b := hr101_0.rv.big
 have hr101_1b := hr101_1.rv.big
 have hr101_2b := hr101_2.rv.big
 obtain ⟨v3, u3, hh⟩ := bnd_e hh
 refine TL.op z (callP (twin_Twin_con (x0 := v2) hr101_0 hr101_1 hr101_2 u3) z z pf8 z z z ?_)
 refine TL.w z (moveT (.inl z) z) (TL.w z (OpVal.extract z z z) (TL.w z (OpVal.extract z z z) (TL.j z z (TL.i z z (TL.en (TC.a ?_))))))
 obtain ⟨v9, u9, hh⟩ := bnd_e hh
 refine TL.op z (OpOk.call (whittlelaw20_fork_con u9) z z pf15 z z z z ?_)
 rintro _ τ102 _ hle102 ⟨a102_1, c102_1, a102_2, c102_2, a102_3, c102_3, rfl, hr102_0, hr102_1, hr102_2, rfl⟩
 have hr102_0b := hr102_0.rv.big
 have hr102_1b := hr102_1.rv.big
 have hr102_2b := hr102_2.rv.big
 obtain ⟨v10, u10, hh⟩ := bnd_e hh
 refine TL.op z (callP (twin_Twin_con (x0 := v9) hr102_0 hr102_1 hr102_2 u10) z z pf8 z z z ?_)
 refine TL.w z (moveT (.inl z) z) (TL.w z (OpVal.extract z z z) (TL.w z (OpVal.extract z z z) (TL.j z z (TL.i z z (TL.en (TC.a ?_))))))
 obtain ⟨v16, u16, hh⟩ := bnd_e hh
 refine TL.op z (OpOk.call (whittlelaw20_fork_con u16) z z pf15 z z z z ?_)
 rintro _ τ103 _ hle103 ⟨a103_1, c103_1, a103_2, c103_2, a103_3, c103_3, rfl, hr103_0, hr103_1, hr103_2, rfl⟩
 have hr103_0b := hr103_0.rv.big
 have hr103_1b := hr103_1.rv.big
 have hr103_2b := hr103_2.rv.big
 obtain ⟨v17, u17, hh⟩ := bnd_e hh
 refine TL.op z (callP (twin_Bound_con (x0 := v16) hr103_0 hr103_1 hr103_2 u17) z z pf5 z z z ?_)
 refine TL.w z (moveT (.inl z) z) (TL.w z (OpVal.extract z z z) (TL.w z (OpVal.extract z z z) (TL.i z z (TL.i z z (TL.en (TC.a (TL.j z z (TL.w z (OpVal.not z z) (TL.j z z (TL.split 24 z (fun h104 => ?_) (fun h104 => ?_)))))))))))
 ·replace hh := iteO_t h104 hh
  refine TL.g z (moveI (.inl z) z) (TL.g z (OpVal.eql z z z) (TL.w z (pickTB z z z) (TL.j z z (TL.split 28 z (fun h105 => ?_) (fun h105 => ?_)))))
  ·replace hh := iteO_t h105 hh
   replace h105 := of_decide_eq_true h105
   refine TL.g z (moveB (.inl z) z) (TL.w z (pickTB z z z) (TL.j z z (TL.split 31 z (fun h106 => ?_) (fun h106 => ?_))))
   ·replace hh := iteO_t h106 hh
    refine TL.g z (moveI (.inl z) z) (TL.g z (moveI (.inl z) z) (TL.g z (OpVal.eql z z z) (TL.w z (pickTB z z z) (TL.j z z (TL.split 36 z (fun h107 => ?_) (fun h107 => ?_))))))
    ·replace hh := iteO_t h107 hh
     replace h107 := of_decide_eq_true h107
     refine TL.g z (moveI (.inl z) z) (TL.g z (OpVal.eql z z z) (TL.w z (pickTB z z z) (TL.j z z (TL.split 40 z (fun h108 => ?_) (fun h108 => ?_)))))
     ·replace hh := iteO_t h108 hh
      replace h108 := of_decide_eq_true h108
      refine TL.g z (moveI (.inl z) z) (TL.g z (moveI (.inl z) z) (TL.g z (OpVal.eql z z z) (TL.w z (pickTB z z z) (TL.j z z (TL.en (TC.back (TC.ret ?_)))))))
      obtain rfl := so hh
      exact rq [0] ⟨z, z, z⟩
     ·replace hh := iteO_f h108 hh
      replace h108 := of_decide_eq_false h108
      refine TL.f z (TL.f z (TL.f z (TL.w z (pickFB z z z) (TL.j z z (TL.en (TC.back (TC.ret ?_)))))))
      obtain rfl := so hh
      exact rq [0] ⟨z, z, z⟩
    ·replace hh := iteO_f h107 hh
     replace h107 := of_decide_eq_false h107
     refine TL.f z (TL.f z (TL.w z (pickFB z z z) (TL.j z z (TL.f z (TL.f z (TL.f z (TL.w z (pickFB z z z) (TL.j z z (TL.en (TC.back (TC.ret ?_)))))))))))
     obtain rfl := so hh
     exact rq [0] ⟨z, z, z⟩
   ·replace hh := iteO_f h106 hh
    refine TL.f z (TL.f z (TL.f z (TL.w z (pickFB z z z) (TL.j z z (TL.f z (TL.f z (TL.w z (pickFB z z z) (TL.j z z (TL.f z (TL.f z (TL.f z (TL.w z (pickFB z z z) (TL.j z z (TL.en (TC.back ?_)))))))))))))))
    refine TC.ret ?_
    obtain rfl := so hh
    exact rq [0] ⟨z, z, z⟩
  ·replace hh := iteO_f h105 hh
   replace h105 := of_decide_eq_false h105
   refine TL.f z (TL.w z (pickFB z z z) (TL.j z z (TL.f z (TL.f z (TL.f z (TL.w z (pickFB z z z) (TL.j z z (TL.f z (TL.f z (TL.w z (pickFB z z z) (TL.j z z (TL.f z (TL.f z (TL.f z (TL.w z (pickFB z z z) ?_)))))))))))))))
   refine TL.j z z (TL.en (TC.back (TC.ret ?_)))
   obtain rfl := so hh
   exact rq [0] ⟨z, z, z⟩
 ·replace hh := iteO_f h104 hh
  refine TL.f z (TL.f z (TL.w z (pickFB z z z) (TL.j z z (TL.f z (TL.w z (pickFB z z z) (TL.j z z (TL.f z (TL.f z (TL.f z (TL.w z (pickFB z z z) (TL.j z z (TL.f z (TL.f z (TL.w z (pickFB z z z) (TL.j z z ?_)))))))))))))))
  refine TL.f z (TL.f z (TL.f z (TL.w z (pickFB z z z) (TL.j z z (TL.en (TC.back (TC.ret ?_)))))))
  obtain rfl := so hh
  exact rq [0] ⟨z, z, z⟩

noncomputable def whittlelaw20_small_b1 (x0 : Fst) (k110 : Nat) : Option ((Nat) ⊕ (Bool)) :=
 iteO (decide (((k110 : Nat) : Int) < ((x0.arcs.length : Nat) : Int))) (bnd (set_Size ((nth x0.arcs k110 Arc.zero).set)) (fun v35 => iteO (decide (3 < v35)) (fin (some false)) (nxt (k110 + 1)))) (fin (some true))
noncomputable def whittlelaw20_small_j1 (x0 : Fst) : Option (Bool) :=
 iter (fun q : Nat => whittlelaw20_small_b1 x0 q) 0
noncomputable def whittlelaw20_small (x0 : Fst) : Option (Bool) :=
 bnd (whittleref19_Few x0) (fun v4 => iteO (!v4) (some false) (iteO (decide (4 < x0.states)) (iteO (decide (x0.states ≤ 1024)) (some false) (iteO (decide (8 < ((x0.arcs.length : Nat) : Int))) (some false) (whittlelaw20_small_j1 x0))) (iteO (decide (8 < ((x0.arcs.length : Nat) : Int))) (some false) (whittlelaw20_small_j1 x0))))
theorem whittlelaw20_small_con {σ : Store} {x0 : Fst} {a0_0 : Option Addr} {c0_0 : Nat} {a0_1 : Option Addr} {c0_1 : Nat} {a0_2 : Option Addr} {c0_2 : Nat} (f0_0 : RS σ 2 encTip (.slice a0_0 x0.starts.length c0_0) x0.starts) (f0_1 : RS σ 2 encTip (.slice a0_1 x0.ends.length c0_1) x0.ends) (f0_2 : RS σ 8 encArc (.slice a0_2 x0.arcs.length c0_2) x0.arcs) {r : Bool} (hh : whittlelaw20_small x0 = some r) :
  Con Tryz.prog 4 #[.agg #[.int .i64 x0.states, .slice a0_0 x0.starts.length c0_0, .slice a0_1 x0.ends.length c0_1, .slice a0_2 x0.arcs.length c0_2]] σ [] (PureP (.bool r) σ) := by
 dsimp only [whittlelaw20_small] at hh
 have f0_0b := f0_0.rv.big
 have f0_1b := f0_1.rv.big
 have f0_2b := f0_2.rv.big
 refine Con.mk (n := 38) Tryz.func4 z z z (fun w0 => ?_)
 refine TC.a (TL.op z (boxA z z z z (fun b101 => ?_)))
 refine TL.j z z (TL.en (TC.cutG (α := (Unit) × (Unit)) (rgs [(2, 1), (4, 19)]) (fun g => []) (fun g => [Res.cells b101 #[.int .i64 x0.states, .slice a0_0 x0.starts.length c0_0, .slice a0_1 x0.ends.length c0_1, .slice a0_2 x0.arcs.length c0_2] 25]) (fun g => σ) (fun g => whittlelaw20_small_j1 x0 = some r) ?_ (fun g j hg => ?_)))
 ·skip
  refine TC.a (TL.w z (loadAll z ag25 sz25 z (i := 0) z z) ?_)
  obtain ⟨v4, u4, hh⟩ := bnd_e hh
  refine TL.op z (callP (whittleref19_Few_con (x0 := x0) f0_0 f0_1 f0_2 u4) z z pf10 z z z ?_)
  refine TL.w z (OpVal.not z z) (TL.j z z (TL.split 7 z (fun h103 => ?_) (fun h103 => ?_)))
  ·replace hh := iteO_t h103 hh
   refine TL.f z (TL.f z (TL.f z (TL.f z (TL.f z (TL.f z (TL.f z (TL.f z (TL.w z (pickTB z z z) (TL.j z z (TL.f z (TL.f z (TL.f z (TL.f z (TL.w z (pickTB z z z) (TL.en ?_)))))))))))))))
   refine TC.t z (TC.a (TL.j z z (TL.en (TC.rt 0 (S.r ?_)))))
   obtain rfl := so hh
   exact rq [2] ⟨z, z, z⟩
  ·replace hh := iteO_f h103 hh
   refine TL.g z (fieldLoc z fo25_0 z) (TL.g z (loadLoc z ag3 z (i := 0) z z) (TL.g z (OpVal.gtr z z z) (TL.g z (moveB (.inl z) z) (TL.split 11 z (fun h104 => ?_) (fun h104 => ?_)))))
   ·replace hh := iteO_t h104 hh
    replace h104 := of_decide_eq_true h104
    refine TL.g z (fieldLoc z fo25_0 z) (TL.g z (loadLoc z ag3 z (i := 0) z z) (TL.g z (OpVal.leq z z z) (TL.g z (pickTB z z z) (TL.w z (pickFB z z z) (TL.j z z (TL.split 17 z (fun h105 => ?_) (fun h105 => ?_)))))))
    ·replace hh := iteO_t h105 hh
     replace h105 := of_decide_eq_true h105
     refine TL.f z (TL.f z (TL.f z (TL.f z (TL.w z (pickTB z z z) (TL.en (TC.t z (TC.a (TL.j z z (TL.en (TC.rt 0 (S.r ?_)))))))))))
     obtain rfl := so hh
     exact rq [2] ⟨z, z, z⟩
    ·replace hh := iteO_f h105 hh
     replace h105 := of_decide_eq_false h105
     refine TL.g z (fieldLoc z fo25_3 z) (TL.g z (loadLoc z ag23 z (i := 0) z z) (TL.g z (lenC z underlying23 z) (TL.g z (OpVal.gtr z z z) (TL.w z (pickFB z z z) (TL.en (TC.cD z hh (fun h106 hh => ?_) (fun h106 hh => ?_)))))))
     ·refine TC.a (TL.j z z (TL.en (TC.rt 0 (S.r ?_))))
      obtain rfl := so hh
      exact rq [2] ⟨z, z, z⟩
     ·exact TC.skip (S.n (cf ((), ()) hh (Sub.pre 1 z)))
   ·replace hh := iteO_f h104 hh
    replace h104 := of_decide_eq_false h104
    refine TL.f z (TL.f z (TL.f z (TL.g z (pickFB z z z) (TL.w z (pickFB z z z) (TL.j z z (TL.g z (fieldLoc z fo25_3 z) (TL.g z (loadLoc z ag23 z (i := 0) z z) (TL.g z (lenC z underlying23 z) (TL.g z (OpVal.gtr z z z) (TL.w z (pickFB z z z) (TL.en (TC.cD z hh (fun h107 hh => ?_) (fun h107 hh => ?_)))))))))))))
    ·refine TC.a (TL.j z z (TL.en (TC.rt 0 (S.r ?_))))
     obtain rfl := so hh
     exact rq [2] ⟨z, z, z⟩
    ·exact TC.skip (S.n (cf ((), ()) hh (Sub.pre 1 z)))
 ·skip
  obtain ⟨_, _⟩ := g
  have hh := hg; clear hg
  try dsimp only
  dsimp only [whittlelaw20_small_j1] at hh
  refine TC.seq (TC.a (TL.i z z (TL.en (TC.block (TC.loopG (α := (Nat) × (Unit)) (rgs [(2, 2), (23, 15)]) (fun g => [(3, .int .i64 ((g.1 : Nat) : Int))]) (fun g => [Res.cells b101 #[.int .i64 x0.states, .slice a0_0 x0.starts.length c0_0, .slice a0_1 x0.ends.length c0_1, .slice a0_2 x0.arcs.length c0_2] 25]) (fun g => σ) (fun g => iter (fun q : Nat => whittlelaw20_small_b1 x0 q) g.1 = some r) (fun g => rounds (fun q : Nat => whittlelaw20_small_b1 x0 q) g.1) (0, ()) (Sub.pre 1 z) z (by repeat (first | exact trivial | refine ⟨z, ?_⟩)) hh (fun g1 j1 hg1 => ?_))))))
  obtain ⟨k110, _⟩ := g1
  have hh := hg1; clear hg1
  try dsimp only
  obtain ⟨z1, hh, hR1⟩ := iter_e hh
  dsimp only [whittlelaw20_small_b1] at hh
  refine TC.seq (TC.a (TL.i z z (TL.w z (fieldLoc z fo25_3 z) (TL.w z (loadLoc z ag23 z (i := 0) z z) (TL.w z (lenC z underlying23 z) (TL.w z (OpVal.lss z z z) (TL.en (TC.cD z hh (fun h111 hh => ?_) (fun h111 hh => ?_)))))))))
  ·refine TC.skip (S.n (TC.seq (TC.block (TC.a (TL.w z (fieldLoc z fo25_3 z) (TL.w z (loadLoc z ag23 z (i := 0) z z) (TL.i z z (TL.w z (indexN z underlying23 sz38 z z f0_2.rv.sl (by omega)) (TL.w z (fieldElem z fo38_2 z f0_2.rv.sl (by omega)) (TL.w z (loadSub Arc.zero z ag36 sz36 z f0_2 (by omega) (by omega) (by omega) z z) ?_))))))))))
   obtain ⟨v35, u35, hh⟩ := bnd_e hh
   refine TL.op z (callP (set_Size_con u35) z z pf11 z z z ?_)
   refine TL.w z (OpVal.gtr z z z) (TL.en (TC.cD z hh (fun h112 hh => ?_) (fun h112 hh => ?_)))
   ·refine TC.a (TL.j z z (TL.en (TC.rt 0 (B.r (S.r (S.r ?_))))))
    replace hh := fin_x hR1 hh
    refine B.r (S.r ?_)
    obtain rfl := so hh
    exact rq [2] ⟨z, z, z⟩
   ·refine TC.skip (B.n (S.n (TC.region (TL.i z z (TL.w z (OpVal.succ z z z (by omega)) (TL.i z z (TL.en ?_)))))))
    obtain ⟨hh, hlt113⟩ := nxt_x hR1 hh
    exact lf ((k110 + 1), ()) hlt113 hh (Sub.pre 1 z)
  ·refine TC.exit (S.x (S.x ?_))
   replace hh := fin_x hR1 hh
   refine TC.exitHere (S.n (TC.a (TL.j z z (TL.en (TC.rt 0 ?_)))))
   obtain rfl := so hh
   exact rq [2] ⟨z, z, z⟩

end Go.Proofs.YtcfjjckencjjeaaGreat
end

/- T1 -/
section
/- Decompiled: the reference's trimmed transducers. -/
set_option linter.unusedVariables false
set_option linter.unusedSimpArgs false
namespace Go.Proofs.YtcfjjckencjjeaaGreat
open Go Go.E Go.E.OpVal Go.E.OpOk Go.Proofs.Tryz
set_option maxRecDepth 100000
private theorem by3 : Go.E.byOf Tryz.prog 3 = some 8 := by kernel_rfl
private theorem by4 : Go.E.byOf Tryz.prog 4 = some 1 := by kernel_rfl
private theorem by43 : Go.E.byOf Tryz.prog 43 = some 24 := by kernel_rfl
private theorem pf26 : Go.E.plainF Tryz.prog 26 = true := by kernel_rfl
private theorem pf27 : Go.E.plainF Tryz.prog 27 = true := by kernel_rfl
private theorem pf28 : Go.E.plainF Tryz.prog 28 = true := by kernel_rfl
private theorem sz22 : Go.E.szOf Tryz.prog 22 = some 1 := by kernel_rfl
private theorem sz3 : Go.E.szOf Tryz.prog 3 = some 1 := by kernel_rfl
private theorem ze3 : Go.E.zeroOf Tryz.prog 3 = some (.int .i64 0) := by kernel_rfl

noncomputable def whittleref18_grown_j1 (k144 : Nat) (l147 : List Bool) (t149 : Bool) : Option (((List Bool) × Bool × Nat) ⊕ (((List Bool) × Bool) ⊕ ((List Bool)))) :=
 nxt (l147, t149, (k144 + 1))
noncomputable def whittleref18_grown_j2 (l141 : List Bool) (k144 : Nat) (t143 : Bool) (i151 : Int) (i152 : Int) : Option (((List Bool) × Bool × Nat) ⊕ (((List Bool) × Bool) ⊕ ((List Bool)))) :=
 grd (0 ≤ i151 ∧ i151 < (l141.length : Int)) (iteO (nth l141 i151.toNat false) (grd (0 ≤ i152 ∧ i152 < (l141.length : Int)) (iteO (!(nth l141 i152.toNat false)) (grd (0 ≤ i152 ∧ i152 < (l141.length : Int)) (whittleref18_grown_j1 k144 (l141.set i152.toNat true) true)) (whittleref18_grown_j1 k144 l141 t143))) (whittleref18_grown_j1 k144 l141 t143))
noncomputable def whittleref18_grown_b3 (x0 : Fst) (x2 : Bool) (l141 : List Bool) (t143 : Bool) (k144 : Nat) : Option (((List Bool) × Bool × Nat) ⊕ (((List Bool) × Bool) ⊕ ((List Bool)))) :=
 iteO (decide (((k144 : Nat) : Int) < ((x0.arcs.length : Nat) : Int))) (iteO x2 (whittleref18_grown_j2 l141 k144 t143 ((nth x0.arcs k144 Arc.zero).to) ((nth x0.arcs k144 Arc.zero).frm)) (whittleref18_grown_j2 l141 k144 t143 ((nth x0.arcs k144 Arc.zero).frm) ((nth x0.arcs k144 Arc.zero).to))) (fin (nxt (l141, t143)))
noncomputable def whittleref18_grown_b2 (x0 : Fst) (x2 : Bool) (l127 : List Bool) (t129 : Bool) : Option (((List Bool) × Bool) ⊕ ((List Bool))) :=
 iteO t129 (iter (fun q : (List Bool) × Bool × Nat => whittleref18_grown_b3 x0 x2 q.1 q.2.1 q.2.2) (l127, false, 0)) (fin (some l127))
noncomputable def whittleref18_grown_b1 (x1 : List Tip) (x0 : Fst) (x2 : Bool) (l112 : List Bool) (k114 : Nat) : Option (((List Bool) × Nat) ⊕ ((List Bool))) :=
 iteO (decide (((k114 : Nat) : Int) < ((x1.length : Nat) : Int))) (grd (0 ≤ ((nth x1 k114 Tip.zero).state) ∧ ((nth x1 k114 Tip.zero).state) < (l112.length : Int)) (nxt ((l112.set (((nth x1 k114 Tip.zero).state).toNat) true), (k114 + 1)))) (fin (iter (fun q : (List Bool) × Bool => whittleref18_grown_b2 x0 x2 q.1 q.2) (l112, true)))
noncomputable def whittleref18_grown (x0 : Fst) (x1 : List Tip) (x2 : Bool) : Option ((List Bool)) :=
 grd (0 ≤ x0.states ∧ 1 * x0.states.toNat ≤ 281474976710656) (iter (fun q : (List Bool) × Nat => whittleref18_grown_b1 x1 x0 x2 q.1 q.2) ((List.replicate x0.states.toNat false), 0))
def whittleref18_grown_P (σ : Store) (r : (List Bool)) : Value → Store → List Res → Prop := fun v σ' H' =>
 ∃ (a1 : Option Addr), ∃ (c1 : Nat),  v = .slice a1 r.length c1 ∧ RS σ' 1 encB (.slice a1 r.length c1) r ∧ H' = []
theorem whittleref18_grown_con {σ : Store} {x0 : Fst} {a0_0 : Option Addr} {c0_0 : Nat} {a0_1 : Option Addr} {c0_1 : Nat} {a0_2 : Option Addr} {c0_2 : Nat} {x1 : List Tip} {a1_0 : Option Addr} {c1_0 : Nat} {x2 : Bool} (f0_0 : RS σ 2 encTip (.slice a0_0 x0.starts.length c0_0) x0.starts) (f0_1 : RS σ 2 encTip (.slice a0_1 x0.ends.length c0_1) x0.ends) (f0_2 : RS σ 8 encArc (.slice a0_2 x0.arcs.length c0_2) x0.arcs) (f1_0 : RS σ 2 encTip (.slice a1_0 x1.length c1_0) x1) {r : (List Bool)} (hh : whittleref18_grown x0 x1 x2 = some r) :
  Con Tryz.prog 27 #[.agg #[.int .i64 x0.states, .slice a0_0 x0.starts.length c0_0, .slice a0_1 x0.ends.length c0_1, .slice a0_2 x0.arcs.length c0_2], .slice a1_0 x1.length c1_0, .bool x2] σ [] (whittleref18_grown_P σ r) := by
 dsimp only [whittleref18_grown] at hh
 have f0_0b := f0_0.rv.big
 have f0_1b := f0_1.rv.big
 have f0_2b := f0_2.rv.big
 have f1_0b := f1_0.rv.big
 refine Con.mk (n := 77) Tryz.func27 z z z (fun w0 => ?_)
 refine TC.a (TL.op z (boxA z z z z (fun b101 => ?_)))
 refine TL.s z z (TL.en (TC.a (TL.w z (fieldLoc z fo25_0 z) (TL.w z (loadLoc z ag3 z (i := 0) z z) ?_))))
 have u5 := grd_c hh
 replace hh := grd_t hh
 refine TL.op rfl (makeS2 (m := x0.states.toNat) (enc := encB) false rfl underlying66 sz4 by4 ze4 rfl rfl (by show Value.int _ _ = _; rw [Int.toNat_of_nonneg u5.1]) (by show Value.int _ _ = _; rw [Int.toNat_of_nonneg u5.1]) (by omega) (by decide) encB_len (by decide) rfl encB_one (fun a103 c104 => ?_))
 refine TL.s z z (TL.en (TC.seq (TC.a (TL.i z z (TL.en (TC.block (TC.loopG (α := ((List Bool) × Nat) × (Unit)) (rgs [(8, 1), (16, 13)]) (fun g => [(8, .int .i64 ((g.1.2 : Nat) : Int))]) (fun g => [Res.cells b101 #[.int .i64 x0.states, .slice a0_0 x0.starts.length c0_0, .slice a0_1 x0.ends.length c0_1, .slice a0_2 x0.arcs.length c0_2] 25, Res.rowS 4 1 encB (.slice a103 (List.replicate x0.states.toNat false).length c104) g.1.1]) (fun g => σ) (fun g => iter (fun q : (List Bool) × Nat => whittleref18_grown_b1 x1 x0 x2 q.1 q.2) g.1 = some r ∧ g.1.1.length = (List.replicate x0.states.toNat false).length) (fun g => rounds (fun q : (List Bool) × Nat => whittleref18_grown_b1 x1 x0 x2 q.1 q.2) g.1) (((List.replicate x0.states.toNat false), 0), ()) (Sub.f [1] 2) z (by repeat (first | exact trivial | refine ⟨z, ?_⟩)) ⟨hh, z⟩ (fun g1 j1 hg1 => ?_))))))))
 obtain ⟨⟨l112, k114⟩, _⟩ := g1
 obtain ⟨hh, hn113⟩ := hg1
 try dsimp only at hn113 ⊢
 obtain ⟨z1, hh, hR1⟩ := iter_e hh
 dsimp only [whittleref18_grown_b1] at hh
 have hn113b := hn113
 refine TC.isSl (i := 1) z (fun _ hb115 _ => ?_)
 refine TC.seq (TC.a (TL.i z z (TL.s z z (TL.w z (lenC z underlying22 z) (TL.w z (OpVal.lss z z z) (TL.en (TC.cD z hh (fun h116 hh => ?_) (fun h116 hh => ?_))))))))
 ·refine TC.skip (S.n (TC.seq (TC.block (TC.region (TL.s z z (TL.s z z (TL.i z z (TL.w z (indexN z underlying22 sz43 z z f1_0.rv.sl (by omega)) (TL.w z (fieldElem z fo43_0 z f1_0.rv.sl (by omega)) (TL.w z (loadS Tip.zero z ag3 z f1_0 (by omega) (by omega) z) ?_))))))))))
  have u18 := grd_c hh
  replace hh := grd_t hh
  refine TL.isSl (i := 1) z (fun hs117 _ _ => ?_)
  refine TL.w z (OpVal.index z underlying66 sz4 z z hs117 u18.1 u18.2) (TL.front 1 z z ?_)
  have hn118 : (l112.set (((nth x1 k114 Tip.zero).state).toNat) true).length = (List.replicate x0.states.toNat false).length := by rw [List.length_set]; exact hn113
  refine TL.op z (storeS true z sz4 z z z z encB_len encB_one (by omega) (by omega) ?_)
  refine TL.nil (B.n (S.n (TC.region (TL.i z z (TL.w z (OpVal.succ z z z (by omega)) (TL.i z z (TL.en ?_)))))))
  obtain ⟨hh, hlt119⟩ := nxt_x hR1 hh
  exact lf (((l112.set (((nth x1 k114 Tip.zero).state).toNat) true), (k114 + 1)), ()) hlt119 ⟨hh, hn118⟩ (Sub.f [1] 2)
 ·refine TC.exit (S.x (S.x ?_))
  replace hh := fin_x hR1 hh
  refine TC.exitHere (S.n (TC.seq (TC.a (TL.j z z (TL.en (TC.block (TC.loopG (α := ((List Bool) × Bool) × (Unit)) (rgs [(9, 4), (29, 47)]) (fun g => [(9, .bool g.1.2)]) (fun g => [Res.cells b101 #[.int .i64 x0.states, .slice a0_0 x0.starts.length c0_0, .slice a0_1 x0.ends.length c0_1, .slice a0_2 x0.arcs.length c0_2] 25, Res.rowS 4 1 encB (.slice a103 (List.replicate x0.states.toNat false).length c104) g.1.1]) (fun g => σ) (fun g => iter (fun q : (List Bool) × Bool => whittleref18_grown_b2 x0 x2 q.1 q.2) g.1 = some r ∧ g.1.1.length = (List.replicate x0.states.toNat false).length) (fun g => rounds (fun q : (List Bool) × Bool => whittleref18_grown_b2 x0 x2 q.1 q.2) g.1) ((l112, true), ()) (Sub.f [1, 1] 2) z (by repeat (first | exact trivial | refine ⟨z, ?_⟩)) ⟨hh, hn113⟩ (fun g2 j2 hg2 => ?_))))))))
  obtain ⟨⟨l127, t129⟩, _⟩ := g2
  obtain ⟨hh, hn128⟩ := hg2
  try dsimp only at hn128 ⊢
  obtain ⟨z1, hh, hR1⟩ := iter_e hh
  dsimp only [whittleref18_grown_b2] at hh
  have hn128b := hn128
  refine TC.isSl (i := 1) z (fun _ hb130 _ => ?_)
  refine TC.seq (TC.a (TL.j z z (TL.en (TC.cB z hh (fun h131 hh => ?_) (fun h131 hh => ?_)))))
  ·refine TC.skip (S.n (TC.block (TC.a (TL.j z z (TL.en (TC.a (TL.i z z (TL.en (TC.block (TC.loopG (α := ((List Bool) × Bool × Nat) × (Unit)) (rgs [(9, 4), (30, 46)]) (fun g => [(9, .bool g.1.2.1), (10, .int .i64 ((g.1.2.2 : Nat) : Int))]) (fun g => [Res.cells b101 #[.int .i64 x0.states, .slice a0_0 x0.starts.length c0_0, .slice a0_1 x0.ends.length c0_1, .slice a0_2 x0.arcs.length c0_2] 25, Res.rowS 4 1 encB (.slice a103 (List.replicate x0.states.toNat false).length c104) g.1.1]) (fun g => σ) (fun g => iter (fun q : (List Bool) × Bool × Nat => whittleref18_grown_b3 x0 x2 q.1 q.2.1 q.2.2) g.1 = some z1 ∧ g.1.1.length = (List.replicate x0.states.toNat false).length) (fun g => rounds (fun q : (List Bool) × Bool × Nat => whittleref18_grown_b3 x0 x2 q.1 q.2.1 q.2.2) g.1) ((l127, false, 0), ()) (Sub.f [1, 1] 2) z (by repeat (first | exact trivial | refine ⟨z, ?_⟩)) ⟨hh, hn128⟩ (fun g3 j3 hg3 => ?_)))))))))))
   obtain ⟨⟨l141, t143, k144⟩, _⟩ := g3
   obtain ⟨hh, hn142⟩ := hg3
   try dsimp only at hn142 ⊢
   obtain ⟨z2, hh, hR2⟩ := iter_e hh
   dsimp only [whittleref18_grown_b3] at hh
   have hn142b := hn142
   refine TC.isSl (i := 1) z (fun _ hb145 _ => ?_)
   refine TC.seq (TC.a (TL.i z z (TL.w z (fieldLoc z fo25_3 z) (TL.w z (loadLoc z ag23 z (i := 0) z z) (TL.w z (lenC z underlying23 z) (TL.w z (OpVal.lss z z z) (TL.en (TC.cD z hh (fun h146 hh => ?_) (fun h146 hh => ?_)))))))))
   ·refine TC.skip (S.n (TC.cutG (α := ((List Bool) × Bool) × (Unit)) (rgs [(9, 1), (11, 2), (37, 39)]) (fun g => [(9, .bool g.1.2)]) (fun g => [Res.cells b101 #[.int .i64 x0.states, .slice a0_0 x0.starts.length c0_0, .slice a0_1 x0.ends.length c0_1, .slice a0_2 x0.arcs.length c0_2] 25, Res.rowS 4 1 encB (.slice a103 (List.replicate x0.states.toNat false).length c104) g.1.1]) (fun g => σ) (fun g => whittleref18_grown_j1 k144 g.1.1 g.1.2 = some z2 ∧ g.1.1.length = (List.replicate x0.states.toNat false).length) ?_ (fun g j hg => ?_)))
    ·skip
     refine TC.block (TC.a (TL.w z (fieldLoc z fo25_3 z) (TL.w z (loadLoc z ag23 z (i := 0) z z) (TL.i z z (TL.w z (indexN z underlying23 sz38 z z f0_2.rv.sl (by omega)) (TL.w z (fieldElem z fo38_0 z f0_2.rv.sl (by omega)) (TL.w z (loadS Arc.zero z ag3 z f0_2 (by omega) (by omega) z) (TL.i z z (TL.en (TC.a (TL.w z (fieldLoc z fo25_3 z) (TL.w z (loadLoc z ag23 z (i := 0) z z) (TL.i z z (TL.w z (indexN z underlying23 sz38 z z f0_2.rv.sl (by omega)) (TL.w z (fieldElem z fo38_1 z f0_2.rv.sl (by omega)) ?_)))))))))))))))
     refine TL.w z (loadS Arc.zero z ag3 z f0_2 (by omega) (by omega) z) (TL.i z z (TL.en (TC.cutG (α := (Int × Int) × (Unit)) (rgs [(11, 2), (49, 13)]) (fun g => [(11, .int .i64 g.1.1), (12, .int .i64 g.1.2)]) (fun g => [Res.cells b101 #[.int .i64 x0.states, .slice a0_0 x0.starts.length c0_0, .slice a0_1 x0.ends.length c0_1, .slice a0_2 x0.arcs.length c0_2] 25, Res.rowS 4 1 encB (.slice a103 (List.replicate x0.states.toNat false).length c104) l141]) (fun g => σ) (fun g => whittleref18_grown_j2 l141 k144 t143 g.1.1 g.1.2 = some z2 ∧ l141.length = (List.replicate x0.states.toNat false).length) ?_ (fun g j hg => ?_))))
     ·skip
      refine TC.a (TL.j z z (TL.en (TC.cB z hh (fun h153 hh => ?_) (fun h153 hh => ?_))))
      ·refine TC.a (TL.w z (fieldLoc z fo25_3 z) (TL.w z (loadLoc z ag23 z (i := 0) z z) (TL.i z z (TL.w z (indexN z underlying23 sz38 z z f0_2.rv.sl (by omega)) (TL.w z (fieldElem z fo38_1 z f0_2.rv.sl (by omega)) (TL.w z (loadS Arc.zero z ag3 z f0_2 (by omega) (by omega) z) (TL.i z z (TL.en (TC.region (TL.w z (fieldLoc z fo25_3 z) (TL.w z (loadLoc z ag23 z (i := 0) z z) (TL.i z z (TL.w z (indexN z underlying23 sz38 z z f0_2.rv.sl (by omega)) (TL.w z (fieldElem z fo38_0 z f0_2.rv.sl (by omega)) (TL.w z (loadS Arc.zero z ag3 z f0_2 (by omega) (by omega) z) ?_)))))))))))))))
       exact TL.i z z (TL.en (cf ((((nth x0.arcs k144 Arc.zero).to), ((nth x0.arcs k144 Arc.zero).frm)), ()) ⟨hh, hn142⟩ (Sub.f [1, 1] 2)))
      ·exact TC.skip (S.n (cf ((((nth x0.arcs k144 Arc.zero).frm), ((nth x0.arcs k144 Arc.zero).to)), ()) ⟨hh, hn142⟩ (Sub.f [1, 1] 2)))
     ·skip
      obtain ⟨⟨i151, i152⟩, _⟩ := g
      obtain ⟨hh, hn150⟩ := hg
      try dsimp only at hn150 ⊢
      dsimp only [whittleref18_grown_j2] at hh
      have hn150b := hn150
      refine TC.isSl (i := 1) z (fun _ hb154 _ => ?_)
      refine TC.a (TL.s z z (TL.i z z ?_))
      have u63 := grd_c hh
      replace hh := grd_t hh
      refine TL.isSl (i := 1) z (fun hs155 _ _ => ?_)
      refine TL.w z (OpVal.index z underlying66 sz4 z z hs155 u63.1 u63.2) (TL.w z (loadO1 false z ag4 z (q := 1) z encB_len (by omega) z) (TL.j z z (TL.split 66 z (fun h156 => ?_) (fun h156 => ?_))))
      ·replace hh := iteO_t h156 hh
       refine TL.g z (moveSl (.inl z) z) (TL.g z (moveI (.inl z) z) ?_)
       have u68 := grd_c hh
       replace hh := grd_t hh
       refine TL.isSl (i := 1) z (fun hs157 _ _ => ?_)
       refine TL.g z (OpVal.index z underlying66 sz4 z z hs157 u68.1 u68.2) (TL.g z (loadO1 false z ag4 z (q := 1) z encB_len (by omega) z) (TL.g z (OpVal.not z z) (TL.w z (pickTB z z z) (TL.en (TC.cB z hh (fun h158 hh => ?_) (fun h158 hh => ?_))))))
       ·refine TC.a (TL.s z z (TL.i z z ?_))
        have u74 := grd_c hh
        replace hh := grd_t hh
        refine TL.isSl (i := 1) z (fun hs159 _ _ => ?_)
        refine TL.w z (OpVal.index z underlying66 sz4 z z hs159 u74.1 u74.2) (TL.front 1 z z ?_)
        have hn160 : (l141.set i152.toNat true).length = (List.replicate x0.states.toNat false).length := by rw [List.length_set]; exact hn150
        refine TL.op z (storeS true z sz4 z z z z encB_len encB_one (by omega) (by omega) ?_)
        exact TL.en (TC.region (TL.j z z (TL.nil (B.n (S.n (cf (((l141.set i152.toNat true), true), ()) ⟨hh, hn160⟩ (Sub.f [1] 2)))))))
       ·exact TC.skip (B.n (S.n (cf ((l141, t143), ()) ⟨hh, hn150⟩ (Sub.f [1, 1] 2))))
      ·replace hh := iteO_f h156 hh
       exact TL.f z (TL.f z (TL.f z (TL.f z (TL.f z (TL.w z (pickFB z z z) (TL.en (TC.f z (TC.skip (B.n (S.n (cf ((l141, t143), ()) ⟨hh, hn150⟩ (Sub.f [1, 1] 2))))))))))))
    ·skip
     obtain ⟨⟨l147, t149⟩, _⟩ := g
     obtain ⟨hh, hn148⟩ := hg
     try dsimp only at hn148 ⊢
     dsimp only [whittleref18_grown_j1] at hh
     have hn148b := hn148
     refine TC.isSl (i := 1) z (fun _ hb161 _ => ?_)
     refine TC.region (TL.i z z (TL.w z (OpVal.succ z z z (by omega)) (TL.i z z (TL.en ?_))))
     obtain ⟨hh, hlt162⟩ := nxt_x hR2 hh
     exact lf ((l147, t149, (k144 + 1)), ()) hlt162 ⟨hh, hn148⟩ (Sub.f [1, 1] 2)
   ·refine TC.exit (S.x (S.x ?_))
    replace hh := fin_x hR2 hh
    refine TC.exitHere (B.n (S.n ?_))
    obtain ⟨hh, hlt163⟩ := nxt_x hR1 hh
    exact lf ((l141, t143), ()) hlt163 ⟨hh, hn142⟩ (Sub.f [1, 1] 2)
  ·refine TC.exit (S.x (S.x ?_))
   replace hh := fin_x hR1 hh
   refine TC.exitHere (S.n (TC.a (TL.s z z (TL.s z z (TL.en ?_)))))
   rw [← hn128]
   refine TC.front 1 z z (TC.sealS encB_len (fun τ166 hle165 hr164 => ?_))
   have hr164b := hr164.rv.big
   refine TC.rt 0 ?_
   obtain rfl := so hh
   exact rq [6] ⟨a103, c104, z, hr164, z⟩

noncomputable def whittleref18_Trim_j1 (k124 : Nat) (l127 : List Int) (k129 : Nat) : Option (((List Int) × Nat × Nat) ⊕ (Fst × Int)) :=
 nxt (l127, k129, (k124 + 1))
noncomputable def whittleref18_Trim_j2 (k156 : Nat) (l162 : List Tip) : Option (((List Tip) × Nat) ⊕ (Fst × Int)) :=
 nxt (l162, (k156 + 1))
noncomputable def whittleref18_Trim_j3 (k202 : Nat) (l209 : List Tip) : Option (((List Tip) × Nat) ⊕ (Fst × Int)) :=
 nxt (l209, (k202 + 1))
noncomputable def whittleref18_Trim_j4 (k250 : Nat) (l258 : List Arc) : Option (((List Arc) × Nat) ⊕ (Fst × Int)) :=
 nxt (l258, (k250 + 1))
noncomputable def whittleref18_Trim_b4 (x0 : Fst) (l121 : List Int) (k123 : Nat) (l153 : List Tip) (l199 : List Tip) (l247 : List Arc) (k250 : Nat) : Option (((List Arc) × Nat) ⊕ (Fst × Int)) :=
 iteO (decide (((k250 : Nat) : Int) < ((x0.arcs.length : Nat) : Int))) (grd (0 ≤ ((nth x0.arcs k250 Arc.zero).frm) ∧ ((nth x0.arcs k250 Arc.zero).frm) < (l121.length : Int)) (iteO (decide (0 ≤ (nth l121 (((nth x0.arcs k250 Arc.zero).frm).toNat) (0 : Int)))) (grd (0 ≤ ((nth x0.arcs k250 Arc.zero).to) ∧ ((nth x0.arcs k250 Arc.zero).to) < (l121.length : Int)) (iteO (decide (0 ≤ (nth l121 (((nth x0.arcs k250 Arc.zero).to).toNat) (0 : Int)))) (grd (0 ≤ ((nth x0.arcs k250 Arc.zero).frm) ∧ ((nth x0.arcs k250 Arc.zero).frm) < (l121.length : Int)) (grd (0 ≤ ((nth x0.arcs k250 Arc.zero).to) ∧ ((nth x0.arcs k250 Arc.zero).to) < (l121.length : Int)) (grd ((l247.length + [(⟨(nth l121 (((nth x0.arcs k250 Arc.zero).frm).toNat) (0 : Int)), (nth l121 (((nth x0.arcs k250 Arc.zero).to).toNat) (0 : Int)), (nth x0.arcs k250 Arc.zero).set, (nth x0.arcs k250 Arc.zero).out, (nth x0.arcs k250 Arc.zero).copy⟩ : Arc)].length) * 72 ≤ 140737488355328) (whittleref18_Trim_j4 k250 (l247 ++ [(⟨(nth l121 (((nth x0.arcs k250 Arc.zero).frm).toNat) (0 : Int)), (nth l121 (((nth x0.arcs k250 Arc.zero).to).toNat) (0 : Int)), (nth x0.arcs k250 Arc.zero).set, (nth x0.arcs k250 Arc.zero).out, (nth x0.arcs k250 Arc.zero).copy⟩ : Arc)]))))) (whittleref18_Trim_j4 k250 l247))) (whittleref18_Trim_j4 k250 l247))) (fin (bnd (whittleref15_Sort (⟨((k123 : Nat) : Int), l153, l199, l247⟩ : Fst)) (fun v184 => some (v184.1, v184.2))))
noncomputable def whittleref18_Trim_b3 (x0 : Fst) (l121 : List Int) (k123 : Nat) (l153 : List Tip) (l199 : List Tip) (k202 : Nat) : Option (((List Tip) × Nat) ⊕ (Fst × Int)) :=
 iteO (decide (((k202 : Nat) : Int) < ((x0.ends.length : Nat) : Int))) (grd (0 ≤ ((nth x0.ends k202 Tip.zero).state) ∧ ((nth x0.ends k202 Tip.zero).state) < (l121.length : Int)) (iteO (decide (0 ≤ (nth l121 (((nth x0.ends k202 Tip.zero).state).toNat) (0 : Int)))) (grd (0 ≤ ((nth x0.ends k202 Tip.zero).state) ∧ ((nth x0.ends k202 Tip.zero).state) < (l121.length : Int)) (grd ((l199.length + [(⟨(nth l121 (((nth x0.ends k202 Tip.zero).state).toNat) (0 : Int)), (nth x0.ends k202 Tip.zero).out⟩ : Tip)].length) * 24 ≤ 140737488355328) (whittleref18_Trim_j3 k202 (l199 ++ [(⟨(nth l121 (((nth x0.ends k202 Tip.zero).state).toNat) (0 : Int)), (nth x0.ends k202 Tip.zero).out⟩ : Tip)])))) (whittleref18_Trim_j3 k202 l199))) (fin (iter (fun q : (List Arc) × Nat => whittleref18_Trim_b4 x0 l121 k123 l153 l199 q.1 q.2) (([] : List Arc), 0)))
noncomputable def whittleref18_Trim_b2 (x0 : Fst) (l121 : List Int) (k123 : Nat) (l153 : List Tip) (k156 : Nat) : Option (((List Tip) × Nat) ⊕ (Fst × Int)) :=
 iteO (decide (((k156 : Nat) : Int) < ((x0.starts.length : Nat) : Int))) (grd (0 ≤ ((nth x0.starts k156 Tip.zero).state) ∧ ((nth x0.starts k156 Tip.zero).state) < (l121.length : Int)) (iteO (decide (0 ≤ (nth l121 (((nth x0.starts k156 Tip.zero).state).toNat) (0 : Int)))) (grd (0 ≤ ((nth x0.starts k156 Tip.zero).state) ∧ ((nth x0.starts k156 Tip.zero).state) < (l121.length : Int)) (grd ((l153.length + [(⟨(nth l121 (((nth x0.starts k156 Tip.zero).state).toNat) (0 : Int)), (nth x0.starts k156 Tip.zero).out⟩ : Tip)].length) * 24 ≤ 140737488355328) (whittleref18_Trim_j2 k156 (l153 ++ [(⟨(nth l121 (((nth x0.starts k156 Tip.zero).state).toNat) (0 : Int)), (nth x0.starts k156 Tip.zero).out⟩ : Tip)])))) (whittleref18_Trim_j2 k156 l153))) (fin (iter (fun q : (List Tip) × Nat => whittleref18_Trim_b3 x0 l121 k123 l153 q.1 q.2) (([] : List Tip), 0)))
noncomputable def whittleref18_Trim_b1 (x0 : Fst) (v13 : (List Bool)) (v18 : (List Bool)) (l121 : List Int) (k123 : Nat) (k124 : Nat) : Option (((List Int) × Nat × Nat) ⊕ (Fst × Int)) :=
 iteO (decide (((k124 : Nat) : Int) < x0.states)) (grd (k124 < l121.length) (grd (k124 < v13.length) (iteO (nth v13 k124 false) (grd (k124 < v18.length) (iteO (nth v18 k124 false) (grd (k124 < (l121.set k124 (-1)).length) (grd (k123 + 1 ≤ 9223372036854775807) (whittleref18_Trim_j1 k124 ((l121.set k124 (-1)).set k124 ((k123 : Nat) : Int)) (k123 + 1)))) (whittleref18_Trim_j1 k124 (l121.set k124 (-1)) k123))) (whittleref18_Trim_j1 k124 (l121.set k124 (-1)) k123)))) (fin (iter (fun q : (List Tip) × Nat => whittleref18_Trim_b2 x0 l121 k123 q.1 q.2) (([] : List Tip), 0)))
noncomputable def whittleref18_Trim (x0 : Fst) : Option (Fst × Int) :=
 bnd (whittleref15_Right x0) (fun v5 => iteO (!v5) (some ((⟨0, ([] : List Tip), ([] : List Tip), ([] : List Arc)⟩ : Fst), 1)) (bnd (whittleref18_grown x0 x0.starts false) (fun v13 => bnd (whittleref18_grown x0 x0.ends true) (fun v18 => grd (0 ≤ x0.states ∧ 8 * x0.states.toNat ≤ 281474976710656) (iter (fun q : (List Int) × Nat × Nat => whittleref18_Trim_b1 x0 v13 v18 q.1 q.2.1 q.2.2) ((List.replicate x0.states.toNat (0 : Int)), 0, 0))))))
def whittleref18_Trim_P (σ : Store) (r : Fst × Int) : Value → Store → List Res → Prop := fun v σ' H' =>
 ∃ (a1 : Option Addr), ∃ (c1 : Nat), ∃ (a2 : Option Addr), ∃ (c2 : Nat), ∃ (a3 : Option Addr), ∃ (c3 : Nat),  v = .tuple #[.agg #[.int .i64 r.1.states, .slice a1 r.1.starts.length c1, .slice a2 r.1.ends.length c2, .slice a3 r.1.arcs.length c3], .int .i64 r.2] ∧ RS σ' 2 encTip (.slice a1 r.1.starts.length c1) r.1.starts ∧ RS σ' 2 encTip (.slice a2 r.1.ends.length c2) r.1.ends ∧ RS σ' 8 encArc (.slice a3 r.1.arcs.length c3) r.1.arcs ∧ H' = []
theorem whittleref18_Trim_con {σ : Store} {x0 : Fst} {a0_0 : Option Addr} {c0_0 : Nat} {a0_1 : Option Addr} {c0_1 : Nat} {a0_2 : Option Addr} {c0_2 : Nat} (f0_0 : RS σ 2 encTip (.slice a0_0 x0.starts.length c0_0) x0.starts) (f0_1 : RS σ 2 encTip (.slice a0_1 x0.ends.length c0_1) x0.ends) (f0_2 : RS σ 8 encArc (.slice a0_2 x0.arcs.length c0_2) x0.arcs) {r : Fst × Int} (hh : whittleref18_Trim x0 = some r) :
  Con Tryz.prog 14 #[.agg #[.int .i64 x0.states, .slice a0_0 x0.starts.length c0_0, .slice a0_1 x0.ends.length c0_1, .slice a0_2 x0.arcs.length c0_2]] σ [] (whittleref18_Trim_P σ r) := by
 dsimp only [whittleref18_Trim] at hh
 have f0_0b := f0_0.rv.big
 have f0_1b := f0_1.rv.big
 have f0_2b := f0_2.rv.big
 refine Con.mk (n := 169) Tryz.func14 z z z (fun w0 => ?_)
 refine TC.a (TL.op z (boxA z z z z (fun b101 => ?_)))
 refine TL.op z (OpOk.alloc z ze25 z z (fun b103 => ?_))
 refine TL.i z z (TL.en (TC.seq (TC.a (TL.w z (loadAll z ag25 sz25 z (i := 1) z z) ?_))))
 obtain ⟨v5, u5, hh⟩ := bnd_e hh
 refine TL.op z (callP (whittleref15_Right_con (x0 := x0) f0_0 f0_1 f0_2 u5) z z pf26 z z z ?_)
 refine TL.w z (OpVal.not z z) (TL.en (TC.cB z hh (fun h105 hh => ?_) (fun h105 hh => ?_)))
 ·refine TC.a (TL.w z (buildL z pl25 ze25 z) (TL.op z (storeAll z sz25 z z z z z z ?_)))
  refine TL.i z z (TL.en (TC.rt 1 (S.r ?_)))
  obtain rfl := so hh
  exact ro [] z (RVs.agg ag25 sz25 z (i := 0) z z (RVs.tmp z RVs.nil)) ⟨none, 0, none, 0, none, 0, z, (RS.nilF _ encTip encTip_len), (RS.nilF _ encTip encTip_len), (RS.nilF _ encArc encArc_len), z⟩
 ·refine TC.skip (S.n (TC.a (TL.w z (loadAll z ag25 sz25 z (i := 1) z z) (TL.w z (fieldLoc z fo25_1 z) (TL.w z (loadLoc z ag22 z (i := 1) z z) ?_)))))
  obtain ⟨v13, u13, hh⟩ := bnd_e hh
  refine TL.op z (OpOk.call (whittleref18_grown_con (x0 := x0) f0_0 f0_1 f0_2 f0_0 u13) z z pf27 z z z z ?_)
  rintro _ τ106 _ hle106 ⟨a106_1, c106_1, rfl, hr106_0, rfl⟩
  replace f0_0 := f0_0.mono hle106
  replace f0_1 := f0_1.mono hle106
  replace f0_2 := f0_2.mono hle106
  have hr106_0b := hr106_0.rv.big
  refine TL.s z z (TL.en (TC.a (TL.w z (loadAll z ag25 sz25 z (i := 1) z z) (TL.w z (fieldLoc z fo25_2 z) (TL.w z (loadLoc z ag22 z (i := 1) z z) ?_)))))
  obtain ⟨v18, u18, hh⟩ := bnd_e hh
  refine TL.op z (OpOk.call (whittleref18_grown_con (x0 := x0) f0_0 f0_1 f0_2 f0_1 u18) z z pf27 z z z z ?_)
  rintro _ τ107 _ hle107 ⟨a107_1, c107_1, rfl, hr107_0, rfl⟩
  replace f0_0 := f0_0.mono hle107
  replace f0_1 := f0_1.mono hle107
  replace f0_2 := f0_2.mono hle107
  replace hr106_0 := hr106_0.mono hle107
  have hr107_0b := hr107_0.rv.big
  refine TL.s z z (TL.en (TC.a (TL.w z (fieldLoc z fo25_0 z) (TL.w z (loadLoc z ag3 z (i := 1) z z) ?_))))
  have u22 := grd_c hh
  replace hh := grd_t hh
  refine TL.op rfl (makeS2 (m := x0.states.toNat) (enc := Go.E.encI) (0 : Int) rfl underlying68 sz3 by3 ze3 rfl rfl (by show Value.int _ _ = _; rw [Int.toNat_of_nonneg u22.1]) (by show Value.int _ _ = _; rw [Int.toNat_of_nonneg u22.1]) (by omega) (by decide) Go.E.encI_len (by decide) rfl Go.E.encI_one (fun a108 c109 => ?_))
  refine TL.s z z (TL.en (TC.a (TL.w z (buildL z pl25 ze25 z) (TL.op z (OpOk.alloc z ze25 z z (fun b111 => ?_))))))
  refine TL.op z (storeAll z sz25 z z z z z z ?_)
  refine TL.en (TC.seq (TC.a (TL.i z z (TL.en (TC.block (TC.loopG (α := ((List Int) × Nat × Nat) × (Unit)) (rgs [(8, 1), (31, 28)]) (fun g => [(8, .int .i64 ((g.1.2.2 : Nat) : Int))]) (fun g => [Res.cells b101 #[.int .i64 x0.states, .slice a0_0 x0.starts.length c0_0, .slice a0_1 x0.ends.length c0_1, .slice a0_2 x0.arcs.length c0_2] 25, Res.cells b103 #[.int .i64 0, .slice none 0 0, .slice none 0 0, .slice none 0 0] 25, Res.rowS 3 1 Go.E.encI (.slice a108 (List.replicate x0.states.toNat (0 : Int)).length c109) g.1.1, Res.cells b111 #[.int .i64 ((g.1.2.1 : Nat) : Int), .slice none 0 0, .slice none 0 0, .slice none 0 0] 25]) (fun g => τ107) (fun g => iter (fun q : (List Int) × Nat × Nat => whittleref18_Trim_b1 x0 v13 v18 q.1 q.2.1 q.2.2) g.1 = some r ∧ g.1.1.length = (List.replicate x0.states.toNat (0 : Int)).length) (fun g => rounds (fun q : (List Int) × Nat × Nat => whittleref18_Trim_b1 x0 v13 v18 q.1 q.2.1 q.2.2) g.1) (((List.replicate x0.states.toNat (0 : Int)), 0, 0), ()) (Sub.f [1, 2, 3] 4) z (by repeat (first | exact trivial | refine ⟨z, ?_⟩)) ⟨hh, z⟩ (fun g1 j1 hg1 => ?_)))))))
  obtain ⟨⟨l121, k123, k124⟩, _⟩ := g1
  obtain ⟨hh, hn122⟩ := hg1
  try dsimp only at hn122 ⊢
  obtain ⟨z1, hh, hR1⟩ := iter_e hh
  dsimp only [whittleref18_Trim_b1] at hh
  have hn122b := hn122
  refine TC.isSl (i := 2) z (fun _ hb125 _ => ?_)
  refine TC.seq (TC.a (TL.i z z (TL.w z (fieldLoc z fo25_0 z) (TL.w z (loadLoc z ag3 z (i := 0) z z) (TL.w z (OpVal.lss z z z) (TL.en (TC.cD z hh (fun h126 hh => ?_) (fun h126 hh => ?_))))))))
  ·refine TC.skip (S.n (TC.cutG (α := ((List Int) × Nat) × (Unit)) (rgs [(37, 22)]) (fun g => []) (fun g => [Res.cells b101 #[.int .i64 x0.states, .slice a0_0 x0.starts.length c0_0, .slice a0_1 x0.ends.length c0_1, .slice a0_2 x0.arcs.length c0_2] 25, Res.cells b103 #[.int .i64 0, .slice none 0 0, .slice none 0 0, .slice none 0 0] 25, Res.rowS 3 1 Go.E.encI (.slice a108 (List.replicate x0.states.toNat (0 : Int)).length c109) g.1.1, Res.cells b111 #[.int .i64 ((g.1.2 : Nat) : Int), .slice none 0 0, .slice none 0 0, .slice none 0 0] 25]) (fun g => τ107) (fun g => whittleref18_Trim_j1 k124 g.1.1 g.1.2 = some z1 ∧ g.1.1.length = (List.replicate x0.states.toNat (0 : Int)).length) ?_ (fun g j hg => ?_)))
   ·skip
    refine TC.block (TC.a (TL.s z z (TL.i z z ?_)))
    have u34 := grd_c hh
    replace hh := grd_t hh
    refine TL.isSl (i := 2) z (fun hs130 _ _ => ?_)
    refine TL.w z (indexN z underlying68 sz3 z z hs130 (by omega)) (TL.front 2 z z ?_)
    have hn131 : (l121.set k124 (-1)).length = (List.replicate x0.states.toNat (0 : Int)).length := by rw [List.length_set]; exact hn122
    refine TL.op z (storeS (-1) z sz3 z z z z Go.E.encI_len Go.E.encI_one (by omega) (by omega) ?_)
    refine TL.en (TC.a (TL.s z z (TL.i z z ?_)))
    have u38 := grd_c hh
    replace hh := grd_t hh
    refine TL.w z (indexN z underlying66 sz4 z z hr106_0.rv.sl (by omega)) (TL.w z (loadS1 false z ag4 z hr106_0 (by omega) z) (TL.j z z (TL.split 44 z (fun h132 => ?_) (fun h132 => ?_))))
    ·replace hh := iteO_t h132 hh
     refine TL.g z (moveSl (.inl z) z) (TL.g z (moveI (.inl z) z) ?_)
     have u43 := grd_c hh
     replace hh := grd_t hh
     refine TL.g z (indexN z underlying66 sz4 z z hr107_0.rv.sl (by omega)) (TL.g z (loadS1 false z ag4 z hr107_0 (by omega) z) (TL.w z (pickTB z z z) (TL.en (TC.cB z hh (fun h133 hh => ?_) (fun h133 hh => ?_)))))
     ·refine TC.a (TL.s z z (TL.i z z (TL.w z (fieldLoc z fo25_0 z) (TL.w z (loadLoc z ag3 z (i := 3) z z) ?_))))
      have u50 := grd_c hh
      replace hh := grd_t hh
      refine TL.isSl (i := 0) z (fun hs134 _ _ => ?_)
      refine TL.w z (indexN z underlying68 sz3 z z hs134 (by omega)) ?_
      have hn135 : ((l121.set k124 (-1)).set k124 ((k123 : Nat) : Int)).length = (List.replicate x0.states.toNat (0 : Int)).length := by rw [List.length_set]; exact hn131
      refine TL.op z (storeS ((k123 : Nat) : Int) z sz3 z z z z Go.E.encI_len Go.E.encI_one (by omega) (by omega) ?_)
      refine TL.en (TC.region (TL.w z (fieldLoc z fo25_0 z) (TL.w z (loadLoc z ag3 z (i := 3) z z) ?_)))
      have u54 := grd_c hh
      replace hh := grd_t hh
      refine TL.w z (OpVal.succ z z z (by omega)) (TL.w z (fieldLoc z fo25_0 z) (TL.front 3 z z (TL.op z (storeI z sz3 z z z z z ?_))))
      exact TL.nil (B.n (S.n (cf ((((l121.set k124 (-1)).set k124 ((k123 : Nat) : Int)), (k123 + 1)), ()) ⟨hh, hn135⟩ (Sub.f [1, 3, 3] 4))))
     ·exact TC.skip (B.n (S.n (cf (((l121.set k124 (-1)), k123), ()) ⟨hh, hn131⟩ (Sub.f [3, 1, 3, 3] 4))))
    ·replace hh := iteO_f h132 hh
     exact TL.f z (TL.f z (TL.f z (TL.f z (TL.w z (pickFB z z z) (TL.en (TC.f z (TC.skip (B.n (S.n (cf (((l121.set k124 (-1)), k123), ()) ⟨hh, hn131⟩ (Sub.f [3, 1, 3, 3] 4)))))))))))
   ·skip
    obtain ⟨⟨l127, k129⟩, _⟩ := g
    obtain ⟨hh, hn128⟩ := hg
    try dsimp only at hn128 ⊢
    dsimp only [whittleref18_Trim_j1] at hh
    have hn128b := hn128
    refine TC.isSl (i := 2) z (fun _ hb136 _ => ?_)
    refine TC.region (TL.i z z (TL.w z (OpVal.succ z z z (by omega)) (TL.i z z (TL.en ?_))))
    obtain ⟨hh, hlt137⟩ := nxt_x hR1 hh
    exact lf ((l127, k129, (k124 + 1)), ()) hlt137 ⟨hh, hn128⟩ (Sub.f [3, 3, 3, 3] 4)
  ·refine TC.exit (S.x (S.x ?_))
   replace hh := fin_x hR1 hh
   refine TC.exitHere (S.n (TC.seq (TC.a (TL.i z z (TL.en (TC.block (TC.nilS 43 2 encTip (TC.loopG (α := ((List Tip) × Nat) × ((Option Addr) × Nat)) (rgs [(9, 2), (59, 31)]) (fun g => [(9, .int .i64 ((g.1.2 : Nat) : Int))]) (fun g => [Res.cells b101 #[.int .i64 x0.states, .slice a0_0 x0.starts.length c0_0, .slice a0_1 x0.ends.length c0_1, .slice a0_2 x0.arcs.length c0_2] 25, Res.cells b103 #[.int .i64 0, .slice none 0 0, .slice none 0 0, .slice none 0 0] 25, Res.rowS 3 1 Go.E.encI (.slice a108 (List.replicate x0.states.toNat (0 : Int)).length c109) l121, Res.cells b111 #[.int .i64 ((k123 : Nat) : Int), .slice g.2.1 g.1.1.length g.2.2, .slice none 0 0, .slice none 0 0] 25, Res.rowS 43 2 encTip (.slice g.2.1 g.1.1.length g.2.2) g.1.1]) (fun g => τ107) (fun g => iter (fun q : (List Tip) × Nat => whittleref18_Trim_b2 x0 l121 k123 q.1 q.2) g.1 = some r ∧ l121.length = (List.replicate x0.states.toNat (0 : Int)).length) (fun g => rounds (fun q : (List Tip) × Nat => whittleref18_Trim_b2 x0 l121 k123 q.1 q.2) g.1) ((([] : List Tip), 0), (none, 0)) (Sub.f [4, 4, 4, 4] 5) z (by repeat (first | exact trivial | refine ⟨z, ?_⟩)) ⟨hh, hn122⟩ (fun g2 j2 hg2 => ?_)))))))))
   obtain ⟨⟨l153, k156⟩, ⟨a154, c155⟩⟩ := g2
   obtain ⟨hh, hn151⟩ := hg2
   try dsimp only at hn151 ⊢
   obtain ⟨z1, hh, hR1⟩ := iter_e hh
   dsimp only [whittleref18_Trim_b2] at hh
   have hn151b := hn151
   refine TC.isSl (i := 2) z (fun _ hb158 _ => ?_)
   refine TC.isSl (i := 4) z (fun _ hb159 _ => ?_)
   refine TC.seq (TC.a (TL.i z z (TL.w z (fieldLoc z fo25_1 z) (TL.w z (loadLoc z ag22 z (i := 0) z z) (TL.w z (lenC z underlying22 z) (TL.w z (OpVal.lss z z z) (TL.en (TC.cD z hh (fun h160 hh => ?_) (fun h160 hh => ?_)))))))))
   ·refine TC.skip (S.n (TC.cutG (α := ((List Tip)) × ((Option Addr) × Nat)) (rgs [(10, 1), (66, 24)]) (fun g => []) (fun g => [Res.cells b101 #[.int .i64 x0.states, .slice a0_0 x0.starts.length c0_0, .slice a0_1 x0.ends.length c0_1, .slice a0_2 x0.arcs.length c0_2] 25, Res.cells b103 #[.int .i64 0, .slice none 0 0, .slice none 0 0, .slice none 0 0] 25, Res.rowS 3 1 Go.E.encI (.slice a108 (List.replicate x0.states.toNat (0 : Int)).length c109) l121, Res.cells b111 #[.int .i64 ((k123 : Nat) : Int), .slice g.2.1 g.1.length g.2.2, .slice none 0 0, .slice none 0 0] 25, Res.rowS 43 2 encTip (.slice g.2.1 g.1.length g.2.2) g.1]) (fun g => τ107) (fun g => whittleref18_Trim_j2 k156 g.1 = some z1 ∧ l121.length = (List.replicate x0.states.toNat (0 : Int)).length) ?_ (fun g j hg => ?_)))
    ·skip
     refine TC.block (TC.a (TL.w z (fieldLoc z fo25_1 z) (TL.w z (loadLoc z ag22 z (i := 0) z z) (TL.i z z (TL.w z (indexN z underlying22 sz43 z z f0_0.rv.sl (by omega)) (TL.w z (loadSA Tip.zero z ag43 sz43 z f0_0 (by omega) (by omega)) (TL.op z (OpOk.alloc z ze43 z z (fun b165 => ?_)))))))))
     refine TL.op z (storeAll z sz43 z z z z z z ?_)
     refine TL.en (TC.a (TL.s z z (TL.w z (fieldLoc z fo43_0 z) (TL.w z (loadLoc z ag3 z (i := 0) z z) ?_))))
     have u76 := grd_c hh
     replace hh := grd_t hh
     refine TL.isSl (i := 3) z (fun hs167 _ _ => ?_)
     refine TL.w z (OpVal.index z underlying68 sz3 z z hs167 u76.1 u76.2) (TL.w z (loadO1 (0 : Int) z ag3 z (q := 3) z Go.E.encI_len (by omega) z) (TL.w z (OpVal.geq z z z) (TL.en (TC.cD z hh (fun h168 hh => ?_) (fun h168 hh => ?_)))))
     ·have u84 := grd_c hh
      replace hh := grd_t hh
      have u90 := grd_c hh
      replace hh := grd_t hh
      refine TC.draw [11, 12, 13] (by kernel_rfl) (TA.a 0 z (fieldLoc z fo25_1 z) z (TA.b 1 z (loadLoc z ag22 z (i := 4) z z) z (TA.a 2 z (moveSl (.inl z) z) z (TA.a 3 z (fieldLoc z fo43_0 z) z (TA.b 4 z (loadLoc z ag3 z (i := 0) z z) z (TA.isSl (i := 3) z (fun hs175 _ _ => ?_)))))))
      refine TA.b 5 z (OpVal.index z underlying68 sz3 z z hs175 u84.1 u84.2) z (TA.b 6 z (loadO1 (0 : Int) z ag3 z (q := 3) z Go.E.encI_len (by omega) z) z (TA.a 7 z (fieldLoc z fo43_1 z) z (TA.b 8 z (loadLoc z ag9 z (i := 0) z z) z (TA.a 9 z (buildL z pl43 ze43 z) z (TA.ac 10 z (OpOk.lit (enc := encTip) [(⟨(nth l121 (((nth x0.starts k156 Tip.zero).state).toNat) (0 : Int)), (nth x0.starts k156 Tip.zero).out⟩ : Tip)] z underlying22 sz43 ze43 z z z encTip_len (by decide) (by decide) Tip.zero z (by decide) z (by decide) encTip_one (fun a176 c177 => (k1 ?_))))))))
      refine TA.front 6 z z (TA.last 11 (by kernel_rfl) z z z (appendS z z underlying22 sz43 by43 ze43 z z (by decide) z z z (.inr ⟨_, 0, z⟩) (by simpa using u90) (by decide) (fun a179 c180 => ?_)))
      refine TZ.v 12 (by kernel_rfl) z z z (fieldLoc z fo25_1 z) z z (TZ.front 6 z z (TZ.last 13 (by kernel_rfl) z z z (storeSl z sz22 z z z z z ?_)))
      exact TZ.done (by kernel_rfl) (B.n (S.n (cf ((l153 ++ [(⟨(nth l121 (((nth x0.starts k156 Tip.zero).state).toNat) (0 : Int)), (nth x0.starts k156 Tip.zero).out⟩ : Tip)]), (a179, c180)) ⟨hh, hn151⟩ (Sub.f [1, 1, 6, 6, 6] 5))))
     ·exact TC.skip (B.n (S.n (cf (l153, (a154, c155)) ⟨hh, hn151⟩ (Sub.f [5, 5, 5, 5, 5] 5))))
    ·skip
     obtain ⟨l162, ⟨a163, c164⟩⟩ := g
     obtain ⟨hh, hn161⟩ := hg
     try dsimp only at hn161 ⊢
     dsimp only [whittleref18_Trim_j2] at hh
     have hn161b := hn161
     refine TC.isSl (i := 2) z (fun _ hb181 _ => ?_)
     refine TC.isSl (i := 4) z (fun _ hb182 _ => ?_)
     refine TC.region (TL.i z z (TL.w z (OpVal.succ z z z (by omega)) (TL.i z z (TL.en ?_))))
     obtain ⟨hh, hlt183⟩ := nxt_x hR1 hh
     exact lf ((l162, (k156 + 1)), (a163, c164)) hlt183 ⟨hh, hn161⟩ (Sub.f [4, 4, 4, 4, 4] 5)
   ·refine TC.exit (S.x (S.x ?_))
    replace hh := fin_x hR1 hh
    refine TC.exitHere (S.n (TC.seq (TC.a (TL.i z z (TL.en (TC.block (TC.nilS 43 2 encTip (TC.loopG (α := ((List Tip) × Nat) × ((Option Addr) × Nat)) (rgs [(11, 2), (90, 31)]) (fun g => [(11, .int .i64 ((g.1.2 : Nat) : Int))]) (fun g => [Res.cells b101 #[.int .i64 x0.states, .slice a0_0 x0.starts.length c0_0, .slice a0_1 x0.ends.length c0_1, .slice a0_2 x0.arcs.length c0_2] 25, Res.cells b103 #[.int .i64 0, .slice none 0 0, .slice none 0 0, .slice none 0 0] 25, Res.rowS 3 1 Go.E.encI (.slice a108 (List.replicate x0.states.toNat (0 : Int)).length c109) l121, Res.cells b111 #[.int .i64 ((k123 : Nat) : Int), .slice a154 l153.length c155, .slice g.2.1 g.1.1.length g.2.2, .slice none 0 0] 25, Res.rowS 43 2 encTip (.slice a154 l153.length c155) l153, Res.rowS 43 2 encTip (.slice g.2.1 g.1.1.length g.2.2) g.1.1]) (fun g => τ107) (fun g => iter (fun q : (List Tip) × Nat => whittleref18_Trim_b3 x0 l121 k123 l153 q.1 q.2) g.1 = some r ∧ l121.length = (List.replicate x0.states.toNat (0 : Int)).length) (fun g => rounds (fun q : (List Tip) × Nat => whittleref18_Trim_b3 x0 l121 k123 l153 q.1 q.2) g.1) ((([] : List Tip), 0), (none, 0)) (Sub.f [5, 5, 5, 5, 5] 6) z (by repeat (first | exact trivial | refine ⟨z, ?_⟩)) ⟨hh, hn151⟩ (fun g3 j3 hg3 => ?_)))))))))
    obtain ⟨⟨l199, k202⟩, ⟨a200, c201⟩⟩ := g3
    obtain ⟨hh, hn197⟩ := hg3
    try dsimp only at hn197 ⊢
    obtain ⟨z1, hh, hR1⟩ := iter_e hh
    dsimp only [whittleref18_Trim_b3] at hh
    have hn197b := hn197
    refine TC.isSl (i := 2) z (fun _ hb204 _ => ?_)
    refine TC.isSl (i := 4) z (fun _ hb205 _ => ?_)
    refine TC.isSl (i := 5) z (fun _ hb206 _ => ?_)
    refine TC.seq (TC.a (TL.i z z (TL.w z (fieldLoc z fo25_2 z) (TL.w z (loadLoc z ag22 z (i := 0) z z) (TL.w z (lenC z underlying22 z) (TL.w z (OpVal.lss z z z) (TL.en (TC.cD z hh (fun h207 hh => ?_) (fun h207 hh => ?_)))))))))
    ·refine TC.skip (S.n (TC.cutG (α := ((List Tip)) × ((Option Addr) × Nat)) (rgs [(12, 1), (97, 24)]) (fun g => []) (fun g => [Res.cells b101 #[.int .i64 x0.states, .slice a0_0 x0.starts.length c0_0, .slice a0_1 x0.ends.length c0_1, .slice a0_2 x0.arcs.length c0_2] 25, Res.cells b103 #[.int .i64 0, .slice none 0 0, .slice none 0 0, .slice none 0 0] 25, Res.rowS 3 1 Go.E.encI (.slice a108 (List.replicate x0.states.toNat (0 : Int)).length c109) l121, Res.cells b111 #[.int .i64 ((k123 : Nat) : Int), .slice a154 l153.length c155, .slice g.2.1 g.1.length g.2.2, .slice none 0 0] 25, Res.rowS 43 2 encTip (.slice a154 l153.length c155) l153, Res.rowS 43 2 encTip (.slice g.2.1 g.1.length g.2.2) g.1]) (fun g => τ107) (fun g => whittleref18_Trim_j3 k202 g.1 = some z1 ∧ l121.length = (List.replicate x0.states.toNat (0 : Int)).length) ?_ (fun g j hg => ?_)))
     ·skip
      refine TC.block (TC.a (TL.w z (fieldLoc z fo25_2 z) (TL.w z (loadLoc z ag22 z (i := 0) z z) (TL.i z z (TL.w z (indexN z underlying22 sz43 z z f0_1.rv.sl (by omega)) (TL.w z (loadSA Tip.zero z ag43 sz43 z f0_1 (by omega) (by omega)) (TL.op z (OpOk.alloc z ze43 z z (fun b212 => ?_)))))))))
      refine TL.op z (storeAll z sz43 z z z z z z ?_)
      refine TL.en (TC.a (TL.s z z (TL.w z (fieldLoc z fo43_0 z) (TL.w z (loadLoc z ag3 z (i := 0) z z) ?_))))
      have u112 := grd_c hh
      replace hh := grd_t hh
      refine TL.isSl (i := 3) z (fun hs214 _ _ => ?_)
      refine TL.w z (OpVal.index z underlying68 sz3 z z hs214 u112.1 u112.2) (TL.w z (loadO1 (0 : Int) z ag3 z (q := 3) z Go.E.encI_len (by omega) z) (TL.w z (OpVal.geq z z z) (TL.en (TC.cD z hh (fun h215 hh => ?_) (fun h215 hh => ?_)))))
      ·have u120 := grd_c hh
       replace hh := grd_t hh
       have u126 := grd_c hh
       replace hh := grd_t hh
       refine TC.draw [11, 12, 13] (by kernel_rfl) (TA.a 0 z (fieldLoc z fo25_2 z) z (TA.b 1 z (loadLoc z ag22 z (i := 4) z z) z (TA.a 2 z (moveSl (.inl z) z) z (TA.a 3 z (fieldLoc z fo43_0 z) z (TA.b 4 z (loadLoc z ag3 z (i := 0) z z) z (TA.isSl (i := 3) z (fun hs222 _ _ => ?_)))))))
       refine TA.b 5 z (OpVal.index z underlying68 sz3 z z hs222 u120.1 u120.2) z (TA.b 6 z (loadO1 (0 : Int) z ag3 z (q := 3) z Go.E.encI_len (by omega) z) z (TA.a 7 z (fieldLoc z fo43_1 z) z (TA.b 8 z (loadLoc z ag9 z (i := 0) z z) z (TA.a 9 z (buildL z pl43 ze43 z) z (TA.ac 10 z (OpOk.lit (enc := encTip) [(⟨(nth l121 (((nth x0.ends k202 Tip.zero).state).toNat) (0 : Int)), (nth x0.ends k202 Tip.zero).out⟩ : Tip)] z underlying22 sz43 ze43 z z z encTip_len (by decide) (by decide) Tip.zero z (by decide) z (by decide) encTip_one (fun a223 c224 => (k1 ?_))))))))
       refine TA.front 7 z z (TA.last 11 (by kernel_rfl) z z z (appendS z z underlying22 sz43 by43 ze43 z z (by decide) z z z (.inr ⟨_, 0, z⟩) (by simpa using u126) (by decide) (fun a226 c227 => ?_)))
       refine TZ.v 12 (by kernel_rfl) z z z (fieldLoc z fo25_2 z) z z (TZ.front 6 z z (TZ.last 13 (by kernel_rfl) z z z (storeSl z sz22 z z z z z ?_)))
       exact TZ.done (by kernel_rfl) (B.n (S.n (cf ((l199 ++ [(⟨(nth l121 (((nth x0.ends k202 Tip.zero).state).toNat) (0 : Int)), (nth x0.ends k202 Tip.zero).out⟩ : Tip)]), (a226, c227)) ⟨hh, hn197⟩ (Sub.f [1, 7, 2, 7, 7, 7] 6))))
      ·exact TC.skip (B.n (S.n (cf (l199, (a200, c201)) ⟨hh, hn197⟩ (Sub.f [6, 6, 6, 6, 6, 6] 6))))
     ·skip
      obtain ⟨l209, ⟨a210, c211⟩⟩ := g
      obtain ⟨hh, hn208⟩ := hg
      try dsimp only at hn208 ⊢
      dsimp only [whittleref18_Trim_j3] at hh
      have hn208b := hn208
      refine TC.isSl (i := 2) z (fun _ hb228 _ => ?_)
      refine TC.isSl (i := 4) z (fun _ hb229 _ => ?_)
      refine TC.isSl (i := 5) z (fun _ hb230 _ => ?_)
      refine TC.region (TL.i z z (TL.w z (OpVal.succ z z z (by omega)) (TL.i z z (TL.en ?_))))
      obtain ⟨hh, hlt231⟩ := nxt_x hR1 hh
      exact lf ((l209, (k202 + 1)), (a210, c211)) hlt231 ⟨hh, hn208⟩ (Sub.f [5, 5, 5, 5, 5, 5] 6)
    ·refine TC.exit (S.x (S.x ?_))
     replace hh := fin_x hR1 hh
     refine TC.exitHere (S.n (TC.seq (TC.a (TL.i z z (TL.en (TC.block (TC.nilS 38 8 encArc (TC.loopG (α := ((List Arc) × Nat) × ((Option Addr) × Nat)) (rgs [(13, 2), (121, 44)]) (fun g => [(13, .int .i64 ((g.1.2 : Nat) : Int))]) (fun g => [Res.cells b101 #[.int .i64 x0.states, .slice a0_0 x0.starts.length c0_0, .slice a0_1 x0.ends.length c0_1, .slice a0_2 x0.arcs.length c0_2] 25, Res.cells b103 #[.int .i64 0, .slice none 0 0, .slice none 0 0, .slice none 0 0] 25, Res.rowS 3 1 Go.E.encI (.slice a108 (List.replicate x0.states.toNat (0 : Int)).length c109) l121, Res.cells b111 #[.int .i64 ((k123 : Nat) : Int), .slice a154 l153.length c155, .slice a200 l199.length c201, .slice g.2.1 g.1.1.length g.2.2] 25, Res.rowS 43 2 encTip (.slice a154 l153.length c155) l153, Res.rowS 43 2 encTip (.slice a200 l199.length c201) l199, Res.rowS 38 8 encArc (.slice g.2.1 g.1.1.length g.2.2) g.1.1]) (fun g => τ107) (fun g => iter (fun q : (List Arc) × Nat => whittleref18_Trim_b4 x0 l121 k123 l153 l199 q.1 q.2) g.1 = some r ∧ l121.length = (List.replicate x0.states.toNat (0 : Int)).length) (fun g => rounds (fun q : (List Arc) × Nat => whittleref18_Trim_b4 x0 l121 k123 l153 l199 q.1 q.2) g.1) ((([] : List Arc), 0), (none, 0)) (Sub.f [6, 6, 6, 6, 6, 6] 7) z (by repeat (first | exact trivial | refine ⟨z, ?_⟩)) ⟨hh, hn197⟩ (fun g4 j4 hg4 => ?_)))))))))
     obtain ⟨⟨l247, k250⟩, ⟨a248, c249⟩⟩ := g4
     obtain ⟨hh, hn245⟩ := hg4
     try dsimp only at hn245 ⊢
     obtain ⟨z1, hh, hR1⟩ := iter_e hh
     dsimp only [whittleref18_Trim_b4] at hh
     have hn245b := hn245
     refine TC.isSl (i := 2) z (fun _ hb252 _ => ?_)
     refine TC.isSl (i := 4) z (fun _ hb253 _ => ?_)
     refine TC.isSl (i := 5) z (fun _ hb254 _ => ?_)
     refine TC.isSl (i := 6) z (fun _ hb255 _ => ?_)
     refine TC.seq (TC.a (TL.i z z (TL.w z (fieldLoc z fo25_3 z) (TL.w z (loadLoc z ag23 z (i := 0) z z) (TL.w z (lenC z underlying23 z) (TL.w z (OpVal.lss z z z) (TL.en (TC.cD z hh (fun h256 hh => ?_) (fun h256 hh => ?_)))))))))
     ·refine TC.skip (S.n (TC.cutG (α := ((List Arc)) × ((Option Addr) × Nat)) (rgs [(14, 1), (128, 37)]) (fun g => []) (fun g => [Res.cells b101 #[.int .i64 x0.states, .slice a0_0 x0.starts.length c0_0, .slice a0_1 x0.ends.length c0_1, .slice a0_2 x0.arcs.length c0_2] 25, Res.cells b103 #[.int .i64 0, .slice none 0 0, .slice none 0 0, .slice none 0 0] 25, Res.rowS 3 1 Go.E.encI (.slice a108 (List.replicate x0.states.toNat (0 : Int)).length c109) l121, Res.cells b111 #[.int .i64 ((k123 : Nat) : Int), .slice a154 l153.length c155, .slice a200 l199.length c201, .slice g.2.1 g.1.length g.2.2] 25, Res.rowS 43 2 encTip (.slice a154 l153.length c155) l153, Res.rowS 43 2 encTip (.slice a200 l199.length c201) l199, Res.rowS 38 8 encArc (.slice g.2.1 g.1.length g.2.2) g.1]) (fun g => τ107) (fun g => whittleref18_Trim_j4 k250 g.1 = some z1 ∧ l121.length = (List.replicate x0.states.toNat (0 : Int)).length) ?_ (fun g j hg => ?_)))
      ·skip
       refine TC.block (TC.a (TL.w z (fieldLoc z fo25_3 z) (TL.w z (loadLoc z ag23 z (i := 0) z z) (TL.i z z (TL.w z (indexN z underlying23 sz38 z z f0_2.rv.sl (by omega)) (TL.w z (loadSA Arc.zero z ag38 sz38 z f0_2 (by omega) (by omega)) (TL.op z (OpOk.alloc z ze38 z z (fun b261 => ?_)))))))))
       refine TL.op z (storeAll z sz38 z z z z z z ?_)
       refine TL.en (TC.a (TL.s z z (TL.w z (fieldLoc z fo38_0 z) (TL.w z (loadLoc z ag3 z (i := 0) z z) ?_))))
       have u148 := grd_c hh
       replace hh := grd_t hh
       refine TL.isSl (i := 3) z (fun hs263 _ _ => ?_)
       refine TL.w z (OpVal.index z underlying68 sz3 z z hs263 u148.1 u148.2) (TL.w z (loadO1 (0 : Int) z ag3 z (q := 3) z Go.E.encI_len (by omega) z) (TL.w z (OpVal.geq z z z) (TL.j z z (TL.split 139 z (fun h264 => ?_) (fun h264 => ?_)))))
       ·replace hh := iteO_t h264 hh
        replace h264 := of_decide_eq_true h264
        refine TL.g z (moveSl (.inl z) z) (TL.g z (fieldLoc z fo38_1 z) (TL.g z (loadLoc z ag3 z (i := 0) z z) ?_))
        have u155 := grd_c hh
        replace hh := grd_t hh
        refine TL.isSl (i := 3) z (fun hs265 _ _ => ?_)
        refine TL.g z (OpVal.index z underlying68 sz3 z z hs265 u155.1 u155.2) (TL.g z (loadO1 (0 : Int) z ag3 z (q := 3) z Go.E.encI_len (by omega) z) (TL.g z (OpVal.geq z z z) (TL.w z (pickTB z z z) (TL.en (TC.cD z hh (fun h266 hh => ?_) (fun h266 hh => ?_))))))
        ·refine TC.a (TL.s z z (TL.w z (fieldLoc z fo38_0 z) (TL.w z (loadLoc z ag3 z (i := 0) z z) ?_)))
         have u162 := grd_c hh
         replace hh := grd_t hh
         refine TL.isSl (i := 3) z (fun hs267 _ _ => ?_)
         refine TL.w z (OpVal.index z underlying68 sz3 z z hs267 u162.1 u162.2) (TL.w z (loadO1 (0 : Int) z ag3 z (q := 3) z Go.E.encI_len (by omega) z) (TL.w z (fieldLoc z fo38_0 z) (TL.op z (storeI z sz3 z z z z z ?_))))
         refine TL.en (TC.a (TL.s z z (TL.w z (fieldLoc z fo38_1 z) (TL.w z (loadLoc z ag3 z (i := 0) z z) ?_))))
         have u169 := grd_c hh
         replace hh := grd_t hh
         refine TL.isSl (i := 3) z (fun hs268 _ _ => ?_)
         refine TL.w z (OpVal.index z underlying68 sz3 z z hs268 u169.1 u169.2) (TL.w z (loadO1 (0 : Int) z ag3 z (q := 3) z Go.E.encI_len (by omega) z) (TL.w z (fieldLoc z fo38_1 z) (TL.op z (storeI z sz3 z z z z z ?_))))
         refine TL.en (TC.region (TL.w z (fieldLoc z fo25_3 z) (TL.w z (loadLoc z ag23 z (i := 4) z z) (TL.w z (loadAll z ag38 sz38 z (i := 0) z z) (TL.op z (OpOk.lit (enc := encArc) [(⟨(nth l121 (((nth x0.arcs k250 Arc.zero).frm).toNat) (0 : Int)), (nth l121 (((nth x0.arcs k250 Arc.zero).to).toNat) (0 : Int)), (nth x0.arcs k250 Arc.zero).set, (nth x0.arcs k250 Arc.zero).out, (nth x0.arcs k250 Arc.zero).copy⟩ : Arc)] z underlying23 sz38 ze38 z z z encArc_len (by decide) (by decide) Arc.zero z (by decide) z (by decide) encArc_one (fun a269 c270 => ?_)))))))
         refine TL.front 8 z z ?_
         have u177 := grd_c hh
         replace hh := grd_t hh
         refine TL.op z (appendS z z underlying23 sz38 by38 ze38 z z (by decide) z z z (.inr ⟨_, 0, z⟩) (by simpa using u177) (by decide) (fun a272 c273 => ?_))
         refine TL.w z (fieldLoc z fo25_3 z) (TL.front 6 z z (TL.op z (storeSl z sz23 z z z z z ?_)))
         exact TL.nil (B.n (S.n (cf ((l247 ++ [(⟨(nth l121 (((nth x0.arcs k250 Arc.zero).frm).toNat) (0 : Int)), (nth l121 (((nth x0.arcs k250 Arc.zero).to).toNat) (0 : Int)), (nth x0.arcs k250 Arc.zero).set, (nth x0.arcs k250 Arc.zero).out, (nth x0.arcs k250 Arc.zero).copy⟩ : Arc)]), (a272, c273)) ⟨hh, hn245⟩ (Sub.f [1, 8, 8, 3, 8, 8, 8] 7))))
        ·exact TC.skip (B.n (S.n (cf (l247, (a248, c249)) ⟨hh, hn245⟩ (Sub.f [7, 7, 7, 7, 7, 7, 7] 7))))
       ·replace hh := iteO_f h264 hh
        replace h264 := of_decide_eq_false h264
        exact TL.f z (TL.f z (TL.f z (TL.f z (TL.f z (TL.f z (TL.w z (pickFB z z z) (TL.en (TC.f z (TC.skip (B.n (S.n (cf (l247, (a248, c249)) ⟨hh, hn245⟩ (Sub.f [7, 7, 7, 7, 7, 7, 7] 7)))))))))))))
      ·skip
       obtain ⟨l258, ⟨a259, c260⟩⟩ := g
       obtain ⟨hh, hn257⟩ := hg
       try dsimp only at hn257 ⊢
       dsimp only [whittleref18_Trim_j4] at hh
       have hn257b := hn257
       refine TC.isSl (i := 2) z (fun _ hb274 _ => ?_)
       refine TC.isSl (i := 4) z (fun _ hb275 _ => ?_)
       refine TC.isSl (i := 5) z (fun _ hb276 _ => ?_)
       refine TC.isSl (i := 6) z (fun _ hb277 _ => ?_)
       refine TC.region (TL.i z z (TL.w z (OpVal.succ z z z (by omega)) (TL.i z z (TL.en ?_))))
       obtain ⟨hh, hlt278⟩ := nxt_x hR1 hh
       exact lf ((l258, (k250 + 1)), (a259, c260)) hlt278 ⟨hh, hn257⟩ (Sub.f [6, 6, 6, 6, 6, 6, 6] 7)
     ·refine TC.exit (S.x (S.x ?_))
      replace hh := fin_x hR1 hh
      refine TC.exitHere (S.n (TC.a (TL.w z (loadAll z ag25 sz25 z (i := 3) z z) (TL.front 4 z z (TL.sealS encTip_len (fun τ281 hle280 hr279 => ?_))))))
      have hr279b := hr279.rv.big
      refine TL.front 4 z z (TL.sealS encTip_len (fun τ284 hle283 hr282 => ?_))
      replace hr279 := hr279.mono hle283
      have hr282b := hr282.rv.big
      refine TL.front 4 z z (TL.sealS encArc_len (fun τ287 hle286 hr285 => ?_))
      replace hr279 := hr279.mono hle286
      replace hr282 := hr282.mono hle286
      have hr285b := hr285.rv.big
      obtain ⟨v184, u184, hh⟩ := bnd_e hh
      refine TL.op z (OpOk.call (whittleref15_Sort_con (x0 := (⟨((k123 : Nat) : Int), l153, l199, l247⟩ : Fst)) hr279 hr282 hr285 u184) z z pf28 z z z z ?_)
      rintro _ τ288 _ hle288 ⟨a288_1, c288_1, a288_2, c288_2, a288_3, c288_3, rfl, hr288_0, hr288_1, hr288_2, rfl⟩
      have hr288_0b := hr288_0.rv.big
      have hr288_1b := hr288_1.rv.big
      have hr288_2b := hr288_2.rv.big
      refine TL.w z (OpVal.extract z z z) (TL.w z (OpVal.extract z z z) (TL.front 1 z z (TL.op z (storeAll z sz25 z z z z z z ?_))))
      refine TL.i z z (TL.en (TC.rt 1 ?_))
      obtain rfl := so hh
      exact ro [] z (RVs.agg ag25 sz25 z (i := 0) z z (RVs.tmp z RVs.nil)) ⟨a288_1, c288_1, a288_2, c288_2, a288_3, c288_3, z, hr288_0, hr288_1, hr288_2, z⟩

end Go.Proofs.YtcfjjckencjjeaaGreat
end
