/- Parts of a proof, one behind the other: what a machine reaches, functions decompiled, plain lemmas. Conditions stand with each lemma. -/
import Derived.Test.YtcfjjckencjjeaaB73381edece
import Derived.Test.YtcfjjckencjjeaaB5dbb1e057e

/- P2 -/
section
/- Decompiled: whether two ways stay near one another. -/
set_option linter.unusedVariables false
set_option linter.unusedSimpArgs false
namespace Go.Proofs.Ytcfjjckencjjeaa
open Go Go.E Go.E.OpVal Go.E.OpOk Go.Proofs.Try
set_option maxRecDepth 100000
private theorem ag25 : Go.E.aggOf Try.prog 25 = some false := by kernel_rfl
private theorem ag26 : Go.E.aggOf Try.prog 26 = some false := by kernel_rfl
private theorem ag28 : Go.E.aggOf Try.prog 28 = some true := by kernel_rfl
private theorem ag3 : Go.E.aggOf Try.prog 3 = some false := by kernel_rfl
private theorem ag4 : Go.E.aggOf Try.prog 4 = some false := by kernel_rfl
private theorem ag46 : Go.E.aggOf Try.prog 46 = some false := by kernel_rfl
private theorem ag47 : Go.E.aggOf Try.prog 47 = some false := by kernel_rfl
private theorem ag49 : Go.E.aggOf Try.prog 49 = some false := by kernel_rfl
private theorem ag56 : Go.E.aggOf Try.prog 56 = some true := by kernel_rfl
private theorem ag57 : Go.E.aggOf Try.prog 57 = some false := by kernel_rfl
private theorem ag66 : Go.E.aggOf Try.prog 66 = some true := by kernel_rfl
private theorem ag75 : Go.E.aggOf Try.prog 75 = some true := by kernel_rfl
private theorem ag78 : Go.E.aggOf Try.prog 78 = some false := by kernel_rfl
private theorem ag9 : Go.E.aggOf Try.prog 9 = some false := by kernel_rfl
private theorem by26 : Go.E.byOf Try.prog 26 = some 24 := by kernel_rfl
private theorem by56 : Go.E.byOf Try.prog 56 = some 72 := by kernel_rfl
private theorem by75 : Go.E.byOf Try.prog 75 = some 48 := by kernel_rfl
private theorem fo28_0 : Go.E.foOf Try.prog 28 0 = some 0 := by kernel_rfl
private theorem fo28_1 : Go.E.foOf Try.prog 28 1 = some 1 := by kernel_rfl
private theorem fo28_3 : Go.E.foOf Try.prog 28 3 = some 3 := by kernel_rfl
private theorem fo51_0 : Go.E.foOf Try.prog 51 0 = some 0 := by kernel_rfl
private theorem fo51_1 : Go.E.foOf Try.prog 51 1 = some 4 := by kernel_rfl
private theorem fo51_2 : Go.E.foOf Try.prog 51 2 = some 5 := by kernel_rfl
private theorem fo51_3 : Go.E.foOf Try.prog 51 3 = some 6 := by kernel_rfl
private theorem fo56_0 : Go.E.foOf Try.prog 56 0 = some 0 := by kernel_rfl
private theorem fo56_1 : Go.E.foOf Try.prog 56 1 = some 1 := by kernel_rfl
private theorem fo56_2 : Go.E.foOf Try.prog 56 2 = some 2 := by kernel_rfl
private theorem fo56_3 : Go.E.foOf Try.prog 56 3 = some 6 := by kernel_rfl
private theorem fo56_4 : Go.E.foOf Try.prog 56 4 = some 7 := by kernel_rfl
private theorem fo66_0 : Go.E.foOf Try.prog 66 0 = some 0 := by kernel_rfl
private theorem fo66_1 : Go.E.foOf Try.prog 66 1 = some 1 := by kernel_rfl
private theorem fo75_0 : Go.E.foOf Try.prog 75 0 = some 0 := by kernel_rfl
private theorem fo75_1 : Go.E.foOf Try.prog 75 1 = some 1 := by kernel_rfl
private theorem fo75_2 : Go.E.foOf Try.prog 75 2 = some 2 := by kernel_rfl
private theorem fo75_3 : Go.E.foOf Try.prog 75 3 = some 3 := by kernel_rfl
private theorem es75 (x y : TLag) : Go.E.EqAt Try.prog 2 75 (.agg (Go.E.encLag x).toArray) (.agg (Go.E.encLag y).toArray) (decide (x = y)) :=
 (EqAt.struct (ts := [(false, 3, 0), (false, 3, 1), (false, 9, 2), (false, 9, 3)]) (by kernel_rfl) (by kernel_rfl) (by kernel_rfl) (EqC.one (by kernel_rfl) rfl rfl (EqAt.int underlying3 x.p y.p) (EqC.one (by kernel_rfl) rfl rfl (EqAt.int underlying3 x.q y.q) (EqC.one (by kernel_rfl) rfl rfl (EqAt.str underlying9 x.a y.a) (EqC.one (by kernel_rfl) rfl rfl (EqAt.str underlying9 x.b y.b) EqC.nil))))).of (by rw [Bool.eq_iff_iff]; cases x; cases y; simp)
private theorem kl75 : Go.E.KeyL Try.prog 75 (fun x => Value.agg (Go.E.encLag x).toArray) :=
 KeyL.struct underlying75 es75 rfl (fun x => CkAt.struct (n := 1) (ts := [(false, 3, 0), (false, 3, 1), (false, 9, 2), (false, 9, 3)]) (by kernel_rfl) (by kernel_rfl) (CkC.one (by kernel_rfl) rfl (CkAt.int underlying3 _) (CkC.one (by kernel_rfl) rfl (CkAt.int underlying3 _) (CkC.one (by kernel_rfl) rfl (CkAt.str underlying9 _) (CkC.one (by kernel_rfl) rfl (CkAt.str underlying9 _) CkC.nil))))) rfl encLag_bits
private theorem pf10 : Go.E.plainF Try.prog 10 = true := by kernel_rfl
private theorem pf15 : Go.E.plainF Try.prog 15 = true := by kernel_rfl
private theorem pf16 : Go.E.plainF Try.prog 16 = true := by kernel_rfl
private theorem pf17 : Go.E.plainF Try.prog 17 = true := by kernel_rfl
private theorem pf18 : Go.E.plainF Try.prog 18 = true := by kernel_rfl
private theorem pf19 : Go.E.plainF Try.prog 19 = true := by kernel_rfl
private theorem pf28 : Go.E.plainF Try.prog 28 = true := by kernel_rfl
private theorem pf29 : Go.E.plainF Try.prog 29 = true := by kernel_rfl
private theorem pf30 : Go.E.plainF Try.prog 30 = true := by kernel_rfl
private theorem pf31 : Go.E.plainF Try.prog 31 = true := by kernel_rfl
private theorem pf49 : Go.E.plainF Try.prog 49 = true := by kernel_rfl
private theorem pf50 : Go.E.plainF Try.prog 50 = true := by kernel_rfl
private theorem pf51 : Go.E.plainF Try.prog 51 = true := by kernel_rfl
private theorem pf52 : Go.E.plainF Try.prog 52 = true := by kernel_rfl
private theorem pf53 : Go.E.plainF Try.prog 53 = true := by kernel_rfl
private theorem pl28 : Go.E.plOf Try.prog 28 = some #[(0, 1), (1, 1), (2, 1), (3, 1)] := by kernel_rfl
private theorem pl51 : Go.E.plOf Try.prog 51 = some #[(0, 4), (4, 1), (5, 1), (6, 1)] := by kernel_rfl
private theorem pl75 : Go.E.plOf Try.prog 75 = some #[(0, 1), (1, 1), (2, 1), (3, 1)] := by kernel_rfl
private theorem pl76 : Go.E.plOf Try.prog 76 = some #[] := by kernel_rfl
private theorem sz26 : Go.E.szOf Try.prog 26 = some 1 := by kernel_rfl
private theorem sz28 : Go.E.szOf Try.prog 28 = some 4 := by kernel_rfl
private theorem sz4 : Go.E.szOf Try.prog 4 = some 1 := by kernel_rfl
private theorem sz56 : Go.E.szOf Try.prog 56 = some 8 := by kernel_rfl
private theorem sz57 : Go.E.szOf Try.prog 57 = some 1 := by kernel_rfl
private theorem sz66 : Go.E.szOf Try.prog 66 = some 2 := by kernel_rfl
private theorem sz75 : Go.E.szOf Try.prog 75 = some 4 := by kernel_rfl
private theorem sz76 : Go.E.szOf Try.prog 76 = some 0 := by kernel_rfl
private theorem ze26 : Go.E.zeroOf Try.prog 26 = some (.slice none 0 0) := by kernel_rfl
private theorem ze28 : Go.E.zeroOf Try.prog 28 = some (.agg #[.int .i64 0, .slice none 0 0, .slice none 0 0, .slice none 0 0]) := by kernel_rfl
private theorem ze4 : Go.E.zeroOf Try.prog 4 = some (.bool false) := by kernel_rfl
private theorem ze5 : Go.E.zeroOf Try.prog 5 = some (.int .u8 0) := by kernel_rfl
private theorem ze51 : Go.E.zeroOf Try.prog 51 = some (.agg #[.int .i64 0, .slice none 0 0, .slice none 0 0, .slice none 0 0, .slice none 0 0, .int .i64 0, .map none]) := by kernel_rfl
private theorem ze56 : Go.E.zeroOf Try.prog 56 = some (.agg #[.int .i64 0, .int .i64 0, .int .u64 0, .int .u64 0, .int .u64 0, .int .u64 0, .string ByteArray.empty, .bool false]) := by kernel_rfl
private theorem ze57 : Go.E.zeroOf Try.prog 57 = some (.slice none 0 0) := by kernel_rfl
private theorem ze66 : Go.E.zeroOf Try.prog 66 = some (.agg #[.int .i64 0, .string ByteArray.empty]) := by kernel_rfl
private theorem ze75 : Go.E.zeroOf Try.prog 75 = some (.agg #[.int .i64 0, .int .i64 0, .string ByteArray.empty, .string ByteArray.empty]) := by kernel_rfl
private theorem ze76 : Go.E.zeroOf Try.prog 76 = some (.agg #[]) := by kernel_rfl

noncomputable def twin_trim (x0 : Fst) : Option (Fst × Int) :=
 bnd (prune_Trim x0) (fun v5 => iteO (decide (v5.2 ≠ 0)) (some ((⟨0, ([] : List Tip), ([] : List Tip), ([] : List Arc)⟩ : Fst), v5.2)) (iteO (decide (32 < v5.1.states)) (some ((⟨0, ([] : List Tip), ([] : List Tip), ([] : List Arc)⟩ : Fst), 2)) (some (v5.1, 0))))
def twin_trim_P (σ : Store) (r : Fst × Int) : Value → Store → List Res → Prop := fun v σ' H' =>
 ∃ (a1 : Option Addr), ∃ (c1 : Nat), ∃ (a2 : Option Addr), ∃ (c2 : Nat), ∃ (a3 : Option Addr), ∃ (c3 : Nat),  v = .tuple #[.agg #[.int .i64 r.1.states, .slice a1 r.1.starts.length c1, .slice a2 r.1.ends.length c2, .slice a3 r.1.arcs.length c3], .int .i64 r.2] ∧ RS σ' 2 encTip (.slice a1 r.1.starts.length c1) r.1.starts ∧ RS σ' 2 encTip (.slice a2 r.1.ends.length c2) r.1.ends ∧ RS σ' 8 encArc (.slice a3 r.1.arcs.length c3) r.1.arcs ∧ H' = []
theorem twin_trim_con {σ : Store} {x0 : Fst} {a0_0 : Option Addr} {c0_0 : Nat} {a0_1 : Option Addr} {c0_1 : Nat} {a0_2 : Option Addr} {c0_2 : Nat} (f0_0 : RS σ 2 encTip (.slice a0_0 x0.starts.length c0_0) x0.starts) (f0_1 : RS σ 2 encTip (.slice a0_1 x0.ends.length c0_1) x0.ends) (f0_2 : RS σ 8 encArc (.slice a0_2 x0.arcs.length c0_2) x0.arcs) {r : Fst × Int} (hh : twin_trim x0 = some r) :
  Con Try.prog 15 #[.agg #[.int .i64 x0.states, .slice a0_0 x0.starts.length c0_0, .slice a0_1 x0.ends.length c0_1, .slice a0_2 x0.arcs.length c0_2]] σ [] (twin_trim_P σ r) := by
 dsimp only [twin_trim] at hh
 have f0_0b := f0_0.rv.big
 have f0_1b := f0_1.rv.big
 have f0_2b := f0_2.rv.big
 refine Con.mk (n := 19) Try.func15 z z z (fun w0 => ?_)
 refine TC.a (TL.op z (boxA z z z z (fun b101 => ?_)))
 refine TL.op z (OpOk.alloc z ze28 z z (fun b103 => ?_))
 refine TL.i z z (TL.en (TC.a (TL.w z (loadAll z ag28 sz28 z (i := 1) z z) ?_)))
 obtain ⟨v5, u5, hh⟩ := bnd_e hh
 refine TL.op z (OpOk.call (prune_Trim_con (x0 := x0) f0_0 f0_1 f0_2 u5) z z pf10 z z z z ?_)
 rintro _ τ105 _ hle105 ⟨a105_1, c105_1, a105_2, c105_2, a105_3, c105_3, rfl, hr105_0, hr105_1, hr105_2, rfl⟩
 have hr105_0b := hr105_0.rv.big
 have hr105_1b := hr105_1.rv.big
 have hr105_2b := hr105_2.rv.big
 refine TL.w z (moveT (.inl z) z) (TL.w z (OpVal.extract z z z) (TL.w z (OpVal.extract z z z) (TL.front 1 z z (TL.op z (storeAll z sz28 z z z z z z ?_)))))
 refine TL.i z z (TL.en (TC.seq (TC.a (TL.i z z (TL.w z (OpVal.neq z z z) (TL.en (TC.cD z hh (fun h106 hh => ?_) (fun h106 hh => ?_))))))))
 ·refine TC.a (TL.w z (buildL z pl28 ze28 z) (TL.i z z (TL.front 1 z z (TL.op z (storeAll z sz28 z z z z z z ?_)))))
  refine TL.i z z (TL.en (TC.rt 1 (S.r ?_)))
  obtain rfl := so hh
  exact ro [] z (RVs.agg ag28 sz28 z (i := 0) z z (RVs.tmp z RVs.nil)) ⟨none, 0, none, 0, none, 0, z, (RS.nilF _ encTip encTip_len), (RS.nilF _ encTip encTip_len), (RS.nilF _ encArc encArc_len), z⟩
 ·refine TC.skip (S.n (TC.seq (TC.a (TL.w z (fieldLoc z fo28_0 z) (TL.w z (loadLoc z ag3 z (i := 0) z z) (TL.w z (OpVal.gtr z z z) (TL.en (TC.cD z hh (fun h107 hh => ?_) (fun h107 hh => ?_)))))))))
  ·refine TC.a (TL.w z (buildL z pl28 ze28 z) (TL.front 1 z z (TL.op z (storeAll z sz28 z z z z z z ?_))))
   refine TL.i z z (TL.en (TC.rt 1 (S.r ?_)))
   obtain rfl := so hh
   exact ro [] z (RVs.agg ag28 sz28 z (i := 0) z z (RVs.tmp z RVs.nil)) ⟨none, 0, none, 0, none, 0, z, (RS.nilF _ encTip encTip_len), (RS.nilF _ encTip encTip_len), (RS.nilF _ encArc encArc_len), z⟩
  ·refine TC.skip (S.n (TC.a (TL.w z (loadAll z ag28 sz28 z (i := 0) z z) (TL.front 1 z z (TL.op z (storeAll z sz28 z z z z z z ?_))))))
   refine TL.i z z (TL.en (TC.rt 1 ?_))
   obtain rfl := so hh
   exact ro [] z (RVs.agg ag28 sz28 z (i := 0) z z (RVs.tmp z RVs.nil)) ⟨a105_1, c105_1, a105_2, c105_2, a105_3, c105_3, z, hr105_0, hr105_1, hr105_2, z⟩

noncomputable def twin_bound_j1 (i107 : Int) (k108 : Nat) (k112 : Nat) : Option ((Int × Nat) ⊕ (Int)) :=
 nxt ((max i107 ((k112 : Nat) : Int)), (k108 + 1))
noncomputable def twin_bound_b2 (x0 : Fst) (i107 : Int) (i119 : Int) (k120 : Nat) : Option ((Int × Nat) ⊕ (Int)) :=
 iteO (decide (((k120 : Nat) : Int) < ((x0.starts.length : Nat) : Int))) (nxt ((max i119 ((((nth x0.starts k120 Tip.zero).out).length : Nat) : Int)), (k120 + 1))) (fin (some (IntKind.i64.wrap ((IntKind.i64.wrap ((IntKind.i64.wrap (x0.states * x0.states)) * i107)) + i119))))
noncomputable def twin_bound_b1 (x0 : Fst) (i107 : Int) (k108 : Nat) : Option ((Int × Nat) ⊕ (Int)) :=
 iteO (decide (((k108 : Nat) : Int) < ((x0.arcs.length : Nat) : Int))) (iteO ((nth x0.arcs k108 Arc.zero).copy) (grd (((nth x0.arcs k108 Arc.zero).out).length + 1 ≤ 9223372036854775807) (twin_bound_j1 i107 k108 (((nth x0.arcs k108 Arc.zero).out).length + 1))) (twin_bound_j1 i107 k108 (((nth x0.arcs k108 Arc.zero).out).length))) (fin (iter (fun q : Int × Nat => twin_bound_b2 x0 i107 q.1 q.2) (0, 0)))
noncomputable def twin_bound (x0 : Fst) : Option (Int) :=
 iter (fun q : Int × Nat => twin_bound_b1 x0 q.1 q.2) (0, 0)
theorem twin_bound_con {σ : Store} {x0 : Fst} {a0_0 : Option Addr} {c0_0 : Nat} {a0_1 : Option Addr} {c0_1 : Nat} {a0_2 : Option Addr} {c0_2 : Nat} (f0_0 : RS σ 2 encTip (.slice a0_0 x0.starts.length c0_0) x0.starts) (f0_1 : RS σ 2 encTip (.slice a0_1 x0.ends.length c0_1) x0.ends) (f0_2 : RS σ 8 encArc (.slice a0_2 x0.arcs.length c0_2) x0.arcs) {r : Int} (hh : twin_bound x0 = some r) :
  Con Try.prog 16 #[.agg #[.int .i64 x0.states, .slice a0_0 x0.starts.length c0_0, .slice a0_1 x0.ends.length c0_1, .slice a0_2 x0.arcs.length c0_2]] σ [] (PureP (.int .i64 r) σ) := by
 dsimp only [twin_bound] at hh
 have f0_0b := f0_0.rv.big
 have f0_1b := f0_1.rv.big
 have f0_2b := f0_2.rv.big
 refine Con.mk (n := 50) Try.func16 z z z (fun w0 => ?_)
 refine TC.a (TL.op z (boxA z z z z (fun b101 => ?_)))
 refine TL.i z z (TL.en (TC.a (TL.i z z (TL.i z z (TL.en (TC.seq (TC.a (TL.w z (fieldLoc z fo28_3 z) (TL.w z (loadLoc z ag26 z (i := 0) z z) (TL.w z (lenC z underlying26 z) (TL.i z z (TL.en (TC.block (TC.loopG (α := (Int × Nat) × (Unit)) (rgs [(3, 1), (6, 2), (13, 15)]) (fun g => [(3, .int .i64 g.1.1), (13, .int .i64 ((g.1.2 : Nat) : Int))]) (fun g => [Res.cells b101 #[.int .i64 x0.states, .slice a0_0 x0.starts.length c0_0, .slice a0_1 x0.ends.length c0_1, .slice a0_2 x0.arcs.length c0_2] 28]) (fun g => σ) (fun g => iter (fun q : Int × Nat => twin_bound_b1 x0 q.1 q.2) g.1 = some r) (fun g => rounds (fun q : Int × Nat => twin_bound_b1 x0 q.1 q.2) g.1) ((0, 0), ()) (Sub.pre 1 z) z (by repeat (first | exact trivial | refine ⟨z, ?_⟩)) hh (fun g1 j1 hg1 => ?_)))))))))))))))
 obtain ⟨⟨i107, k108⟩, _⟩ := g1
 have hh := hg1; clear hg1
 try dsimp only
 obtain ⟨z1, hh, hR1⟩ := iter_e hh
 dsimp only [twin_bound_b1] at hh
 refine TC.a (TL.w z (OpVal.lss z z z) (TL.en (TC.seq (TC.cD z hh (fun h109 hh => ?_) (fun h109 hh => ?_)))))
 ·refine TC.skip (S.n (TC.seq (TC.block (TC.a (TL.w z (indexN z underlying26 sz56 z z f0_2.rv.sl (by omega)) (TL.w z (loadSA Arc.zero z ag56 sz56 z f0_2 (by omega) (by omega)) (TL.op z (OpOk.alloc z ze56 z z (fun b110 => ?_)))))))))
  refine TL.op z (storeAll z sz56 z z z z z z ?_)
  refine TL.en (TC.a (TL.w z (fieldLoc z fo56_3 z) (TL.w z (loadLoc z ag9 z (i := 0) z z) (TL.w z (lenBs z underlying9 z) (TL.i z z (TL.en (TC.cutG (α := (Nat) × (Unit)) [7, 20, 21, 22, 23] (fun g => [(7, .int .i64 ((g.1 : Nat) : Int))]) (fun g => [Res.cells b101 #[.int .i64 x0.states, .slice a0_0 x0.starts.length c0_0, .slice a0_1 x0.ends.length c0_1, .slice a0_2 x0.arcs.length c0_2] 28]) (fun g => σ) (fun g => twin_bound_j1 i107 k108 g.1 = some z1) ?_ (fun g j hg => ?_))))))))
  ·skip
   refine TC.a (TL.w z (fieldLoc z fo56_4 z) (TL.w z (loadLoc z ag4 z (i := 0) z z) (TL.en (TC.cB z hh (fun h113 hh => ?_) (fun h113 hh => ?_)))))
   ·refine TC.region (TL.i z z ?_)
    have u21 := grd_c hh
    replace hh := grd_t hh
    exact TL.w z (OpVal.succ z z z (by omega)) (TL.i z z (TL.en (cf ((((nth x0.arcs k108 Arc.zero).out).length + 1), ()) hh (Sub.f [1] 1))))
   ·exact TC.skip (S.n (cf (((nth x0.arcs k108 Arc.zero).out).length, ()) hh (Sub.f [1] 1)))
  ·skip
   obtain ⟨k112, _⟩ := g
   have hh := hg; clear hg
   try dsimp only
   dsimp only [twin_bound_j1] at hh
   refine TC.region (TL.i z z (TL.i z z (TL.w z (maxI z z z) (TL.i z z (TL.nil (B.n (S.n (TC.region (TL.w z (OpVal.succ z z z (by omega)) (TL.i z z (TL.en ?_)))))))))))
   obtain ⟨hh, hlt114⟩ := nxt_x hR1 hh
   exact lf (((max i107 ((k112 : Nat) : Int)), (k108 + 1)), ()) hlt114 hh (Sub.pre 1 z)
 ·refine TC.exit (S.x (S.x ?_))
  replace hh := fin_x hR1 hh
  refine TC.exitHere (S.n (TC.seq (TC.a (TL.w z (fieldLoc z fo28_1 z) (TL.w z (loadLoc z ag25 z (i := 0) z z) (TL.w z (lenC z underlying25 z) (TL.i z z (TL.en (TC.block (TC.loopG (α := (Int × Nat) × (Unit)) (rgs [(4, 1), (9, 1), (31, 10)]) (fun g => [(4, .int .i64 g.1.1), (31, .int .i64 ((g.1.2 : Nat) : Int))]) (fun g => [Res.cells b101 #[.int .i64 x0.states, .slice a0_0 x0.starts.length c0_0, .slice a0_1 x0.ends.length c0_1, .slice a0_2 x0.arcs.length c0_2] 28]) (fun g => σ) (fun g => iter (fun q : Int × Nat => twin_bound_b2 x0 i107 q.1 q.2) g.1 = some r) (fun g => rounds (fun q : Int × Nat => twin_bound_b2 x0 i107 q.1 q.2) g.1) ((0, 0), ()) (Sub.pre 1 z) z (by repeat (first | exact trivial | refine ⟨z, ?_⟩)) hh (fun g2 j2 hg2 => ?_)))))))))))
  obtain ⟨⟨i119, k120⟩, _⟩ := g2
  have hh := hg2; clear hg2
  try dsimp only
  obtain ⟨z1, hh, hR1⟩ := iter_e hh
  dsimp only [twin_bound_b2] at hh
  refine TC.a (TL.w z (OpVal.lss z z z) (TL.en (TC.seq (TC.cD z hh (fun h121 hh => ?_) (fun h121 hh => ?_)))))
  ·refine TC.skip (S.n (TC.seq (TC.block (TC.a (TL.w z (indexN z underlying25 sz66 z z f0_0.rv.sl (by omega)) (TL.w z (loadSA Tip.zero z ag66 sz66 z f0_0 (by omega) (by omega)) (TL.op z (OpOk.alloc z ze66 z z (fun b122 => ?_)))))))))
   refine TL.op z (storeAll z sz66 z z z z z z ?_)
   refine TL.en (TC.region (TL.i z z (TL.w z (fieldLoc z fo66_1 z) (TL.w z (loadLoc z ag9 z (i := 0) z z) (TL.w z (lenBs z underlying9 z) (TL.w z (maxI z z z) (TL.i z z (TL.nil (B.n (S.n (TC.region (TL.w z (OpVal.succ z z z (by omega)) (TL.i z z (TL.en ?_))))))))))))))
   obtain ⟨hh, hlt124⟩ := nxt_x hR1 hh
   exact lf (((max i119 ((((nth x0.starts k120 Tip.zero).out).length : Nat) : Int)), (k120 + 1)), ()) hlt124 hh (Sub.f [1] 1)
  ·refine TC.exit (S.x (S.x ?_))
   replace hh := fin_x hR1 hh
   refine TC.exitHere (S.n (TC.a (TL.w z (fieldLoc z fo28_0 z) (TL.w z (loadLoc z ag3 z (i := 0) z z) (TL.w z (fieldLoc z fo28_0 z) (TL.w z (loadLoc z ag3 z (i := 0) z z) (TL.w z (mulW z z z) (TL.i z z (TL.w z (mulW z z z) (TL.i z z (TL.w z (addW z z z) (TL.i z z (TL.en (TC.rt 0 ?_))))))))))))))
   obtain rfl := so hh
   exact rq [2] ⟨z, z, z⟩

noncomputable def twin_Bound (x0 : Fst) : Option (Int × Int) :=
 bnd (twin_trim x0) (fun v5 => iteO (decide (v5.2 ≠ 0)) (some (0, v5.2)) (bnd (twin_bound v5.1) (fun v17 => some (v17, 0))))
theorem twin_Bound_con {σ : Store} {x0 : Fst} {a0_0 : Option Addr} {c0_0 : Nat} {a0_1 : Option Addr} {c0_1 : Nat} {a0_2 : Option Addr} {c0_2 : Nat} (f0_0 : RS σ 2 encTip (.slice a0_0 x0.starts.length c0_0) x0.starts) (f0_1 : RS σ 2 encTip (.slice a0_1 x0.ends.length c0_1) x0.ends) (f0_2 : RS σ 8 encArc (.slice a0_2 x0.arcs.length c0_2) x0.arcs) {r : Int × Int} (hh : twin_Bound x0 = some r) :
  Con Try.prog 11 #[.agg #[.int .i64 x0.states, .slice a0_0 x0.starts.length c0_0, .slice a0_1 x0.ends.length c0_1, .slice a0_2 x0.arcs.length c0_2]] σ [] (PureP (.tuple #[.int .i64 r.1, .int .i64 r.2]) σ) := by
 dsimp only [twin_Bound] at hh
 have f0_0b := f0_0.rv.big
 have f0_1b := f0_1.rv.big
 have f0_2b := f0_2.rv.big
 refine Con.mk (n := 15) Try.func11 z z z (fun w0 => ?_)
 refine TC.a (TL.op z (boxA z z z z (fun b101 => ?_)))
 refine TL.i z z (TL.i z z (TL.en (TC.a (TL.w z (loadAll z ag28 sz28 z (i := 0) z z) ?_))))
 obtain ⟨v5, u5, hh⟩ := bnd_e hh
 refine TL.op z (OpOk.call (twin_trim_con (x0 := x0) f0_0 f0_1 f0_2 u5) z z pf15 z z z z ?_)
 rintro _ τ103 _ hle103 ⟨a103_1, c103_1, a103_2, c103_2, a103_3, c103_3, rfl, hr103_0, hr103_1, hr103_2, rfl⟩
 have hr103_0b := hr103_0.rv.big
 have hr103_1b := hr103_1.rv.big
 have hr103_2b := hr103_2.rv.big
 refine TL.w z (moveT (.inl z) z) (TL.w z (OpVal.extract z z z) (TL.w z (OpVal.extract z z z) (TL.op z (storeAll z sz28 z z z z z z ?_))))
 refine TL.i z z (TL.en (TC.seq (TC.a (TL.i z z (TL.w z (OpVal.neq z z z) (TL.en (TC.cD z hh (fun h104 hh => ?_) (fun h104 hh => ?_))))))))
 ·refine TC.a (TL.i z z (TL.i z z (TL.i z z (TL.en (TC.ofSub (Sub.pre 0 z) (TC.back (TC.ret (S.r ?_))))))))
  obtain rfl := so hh
  exact rq [2, 3] ⟨z, z, z⟩
 ·refine TC.skip (S.n (TC.a (TL.w z (loadAll z ag28 sz28 z (i := 0) z z) ?_)))
  obtain ⟨v17, u17, hh⟩ := bnd_e hh
  refine TL.op z (callP (twin_bound_con (x0 := v5.1) hr103_0 hr103_1 hr103_2 u17) z z pf16 z z z ?_)
  refine TL.i z z (TL.i z z (TL.en (TC.ofSub (Sub.pre 0 z) (TC.back (TC.ret ?_)))))
  obtain rfl := so hh
  exact rq [2, 3] ⟨z, z, z⟩

noncomputable def text_front_b1 (x0 : List UInt8) (x1 : List UInt8) (k103 : Nat) : Option ((Nat) ⊕ (Int)) :=
 iteO (decide (((k103 : Nat) : Int) < (min ((x0.length : Nat) : Int) ((x1.length : Nat) : Int)))) (grd (k103 < x0.length) (grd (k103 < x1.length) (iteO (decide ((((nth x0 k103 (0 : UInt8)).toNat : Nat) : Int) ≠ (((nth x1 k103 (0 : UInt8)).toNat : Nat) : Int))) (fin (some ((k103 : Nat) : Int))) (nxt (k103 + 1))))) (fin (some (min ((x0.length : Nat) : Int) ((x1.length : Nat) : Int))))
noncomputable def text_front (x0 : List UInt8) (x1 : List UInt8) : Option (Int) :=
 grd (x0.length ≤ 281474976710656) (grd (x1.length ≤ 281474976710656) (iter (fun q : Nat => text_front_b1 x0 x1 q) 0))
theorem text_front_con {σ : Store} {x0 : List UInt8} {x1 : List UInt8}  {r : Int} (hh : text_front x0 x1 = some r) :
  Con Try.prog 49 #[.string (bs x0), .string (bs x1)] σ [] (PureP (.int .i64 r) σ) := by
 dsimp only [text_front] at hh
 refine Con.mk (n := 26) Try.func49 z z z (fun w0 => ?_)
 have x0b := grd_c hh
 replace hh := grd_t hh
 have x1b := grd_c hh
 replace hh := grd_t hh
 refine TC.a (TL.i z z (TL.en (TC.a (TL.w z (moveStr (.inl z) z) (TL.w z (lenBs z underlying9 z) (TL.w z (moveStr (.inl z) z) (TL.w z (lenBs z underlying9 z) (TL.w z (minI z z z) (TL.i z z (TL.en (TC.seq (TC.a (TL.i z z (TL.i z z (TL.en ?_)))))))))))))))
 refine TC.block (TC.loopG (α := (Nat) × (Unit)) (rgs [(4, 1), (6, 1), (13, 12)]) (fun g => [(13, .int .i64 ((g.1 : Nat) : Int))]) (fun g => []) (fun g => σ) (fun g => iter (fun q : Nat => text_front_b1 x0 x1 q) g.1 = some r) (fun g => rounds (fun q : Nat => text_front_b1 x0 x1 q) g.1) (0, ()) (Sub.pre 0 z) z (by repeat (first | exact trivial | refine ⟨z, ?_⟩)) hh (fun g1 j1 hg1 => ?_))
 obtain ⟨k103, _⟩ := g1
 have hh := hg1; clear hg1
 try dsimp only
 obtain ⟨z1, hh, hR1⟩ := iter_e hh
 dsimp only [text_front_b1] at hh
 refine TC.a (TL.w z (OpVal.lss z z z) (TL.en (TC.seq (TC.cD z hh (fun h104 hh => ?_) (fun h104 hh => ?_)))))
 ·refine TC.skip (S.n (TC.seq (TC.block (TC.a (TL.i z z (TL.i z z (TL.en (TC.seq ?_))))))))
  have u15 := grd_c hh
  replace hh := grd_t hh
  have u18 := grd_c hh
  replace hh := grd_t hh
  refine TC.draw [] (by kernel_rfl) (TA.a 0 z (moveStr (.inl z) z) z (TA.a 1 z (moveI (.inl z) z) z (TA.a 2 z (indexBs z underlying9 z z (by omega)) z (TA.a 3 z (moveStr (.inl z) z) z (TA.a 4 z (moveI (.inl z) z) z (TA.a 5 z (indexBs z underlying9 z z (by omega)) z (TA.a 6 z (OpVal.neq z z z) z (TA.dn (S.n (TC.cD z hh (fun h105 hh => ?_) (fun h105 hh => ?_)))))))))))
  ·refine TC.a (TL.i z z (TL.i z z (TL.en (TC.ret (B.r (S.r (S.r ?_)))))))
   replace hh := fin_x hR1 hh
   refine B.r (S.r ?_)
   obtain rfl := so hh
   exact rq [4] ⟨z, z, z⟩
  ·refine TC.skip (B.n (S.n (TC.region (TL.w z (OpVal.succ z z z (by omega)) (TL.i z z (TL.en ?_))))))
   obtain ⟨hh, hlt106⟩ := nxt_x hR1 hh
   exact lf ((k103 + 1), ()) hlt106 hh (Sub.pre 0 z)
 ·refine TC.exit (S.x (S.x ?_))
  replace hh := fin_x hR1 hh
  refine TC.exitHere (S.n (TC.a (TL.i z z (TL.i z z (TL.en (TC.ret ?_))))))
  obtain rfl := so hh
  exact rq [4] ⟨z, z, z⟩

noncomputable def text_Lag (x0 : List UInt8) (x1 : List UInt8) : Option ((List UInt8) × (List UInt8)) :=
 grd (x0.length ≤ 281474976710656) (grd (x1.length ≤ 281474976710656) (bnd (text_front x0 x1) (fun v5 => grd (0 ≤ v5 ∧ v5.toNat ≤ x0.length ∧ x0.length ≤ x0.length) (grd (0 ≤ v5 ∧ v5.toNat ≤ x1.length ∧ x1.length ≤ x1.length) (some ((x0.drop v5.toNat), (x1.drop v5.toNat)))))))
theorem text_Lag_con {σ : Store} {x0 : List UInt8} {x1 : List UInt8}  {r : (List UInt8) × (List UInt8)} (hh : text_Lag x0 x1 = some r) :
  Con Try.prog 29 #[.string (bs x0), .string (bs x1)] σ [] (PureP (.tuple #[.string (bs r.1), .string (bs r.2)]) σ) := by
 dsimp only [text_Lag] at hh
 refine Con.mk (n := 16) Try.func29 z z z (fun w0 => ?_)
 have x0b := grd_c hh
 replace hh := grd_t hh
 have x1b := grd_c hh
 replace hh := grd_t hh
 refine TC.a (TL.w z (moveStr (.inr z) z) (TL.w z (moveStr (.inr z) z) (TL.en (TC.a (TL.w z (moveStr (.inl z) z) (TL.w z (moveStr (.inl z) z) ?_))))))
 obtain ⟨v5, u5, hh⟩ := bnd_e hh
 refine TL.op z (callP (text_front_con u5) z z pf49 z z z ?_)
 refine TL.i z z (TL.en (TC.seq ?_))
 have u9 := grd_c hh
 replace hh := grd_t hh
 have u12 := grd_c hh
 replace hh := grd_t hh
 refine TC.draw [] (by kernel_rfl) (TA.a 0 z (moveStr (.inl z) z) z (TA.a 1 z (moveI (.inl z) z) z (TA.b 2 rfl (sliceBsL (l := x0) (i := v5.toNat) rfl underlying9 rfl (by show Value.int _ _ = _; rw [Int.toNat_of_nonneg (by omega)]) (by omega) (by omega)) rfl (TA.a 3 z (moveStr (.inl z) z) z (TA.a 4 z (moveI (.inl z) z) z (TA.b 5 rfl (sliceBsL (l := x1) (i := v5.toNat) rfl underlying9 rfl (by show Value.int _ _ = _; rw [Int.toNat_of_nonneg (by omega)]) (by omega) (by omega)) rfl (TA.a 6 z (moveStr (.inr z) z) z (TA.a 7 z (moveStr (.inr z) z) z (TA.dn (S.n (TC.ret ?_)))))))))))
 obtain rfl := so hh
 exact rq [4, 5] ⟨z, z, z⟩

noncomputable def set_Both_b1 (x1 : BSet) (z111 : BSet) (k112 : Nat) : Option ((BSet × Nat) ⊕ (BSet)) :=
 iteO (decide (((k112 : Nat) : Int) < 4)) (grd (k112 < 4) (grd (k112 < 4) (grd (k112 < 4) (grd ((u64and (BSet.word z111 k112) (BSet.word x1 k112)) < 18446744073709551616) (nxt ((BSet.setWord z111 k112 (u64and (BSet.word z111 k112) (BSet.word x1 k112))), (k112 + 1))))))) (fin (some z111))
noncomputable def set_Both (x0 : BSet) (x1 : BSet) : Option (BSet) :=
 iter (fun q : BSet × Nat => set_Both_b1 x1 q.1 q.2) (x0, 0)
theorem set_Both_con {σ : Store} {x0 : BSet} {x1 : BSet}  {r : BSet} (hh : set_Both x0 x1 = some r) :
  Con Try.prog 51 #[setV x0, setV x1] σ [] (PureP (setV r) σ) := by
 dsimp only [set_Both] at hh
 refine Con.mk (n := 19) Try.func51 z z z (fun w0 => ?_)
 refine TC.a (TL.op z (boxA z z z z (fun b101 => ?_)))
 refine TL.op z (boxA z z z z (fun b103 => ?_))
 refine TL.op z (OpOk.alloc z ze54 z z (fun b105 => ?_))
 refine TL.en (TC.seq (TC.a (TL.i z z (TL.en (TC.block (TC.loopG (α := (BSet × Nat) × (Unit)) (rgs [(5, 13)]) (fun g => [(6, .int .i64 ((g.1.2 : Nat) : Int))]) (fun g => [Res.cells b101 (setA g.1.1) 54, Res.cells b103 (setA x1) 54, Res.cells b105 (setA BSet.zero) 54]) (fun g => σ) (fun g => iter (fun q : BSet × Nat => set_Both_b1 x1 q.1 q.2) g.1 = some r) (fun g => rounds (fun q : BSet × Nat => set_Both_b1 x1 q.1 q.2) g.1) ((x0, 0), ()) (Sub.f [1, 2] 3) z (by repeat (first | exact trivial | refine ⟨z, ?_⟩)) hh (fun g1 j1 hg1 => ?_)))))))
 obtain ⟨⟨z111, k112⟩, _⟩ := g1
 have hh := hg1; clear hg1
 try dsimp only
 obtain ⟨z1, hh, hR1⟩ := iter_e hh
 dsimp only [set_Both_b1] at hh
 refine TC.a (TL.w z (OpVal.lss z z z) (TL.en (TC.seq (TC.cD z hh (fun h113 hh => ?_) (fun h113 hh => ?_)))))
 ·refine TC.skip (S.n (TC.seq (TC.block (TC.a (TL.i z z (TL.i z z (TL.en ?_)))))))
  have u9 := grd_c hh
  replace hh := grd_t hh
  have u12 := grd_c hh
  replace hh := grd_t hh
  have u15 := grd_c hh
  replace hh := grd_t hh
  have u16 := grd_c hh
  replace hh := grd_t hh
  refine TC.draw [8] (by kernel_rfl) (TA.a 0 z (moveI (.inl z) z) z (TA.b 1 z (indexArrN z underlying54 sz52 z z (by omega)) z (TA.b 2 z (loadWordAt z111 z ag52 z (j := 0) z (by omega) z) z (TA.a 3 z (moveI (.inl z) z) z (TA.b 4 z (indexArrN z underlying54 sz52 z z (by omega)) z (TA.b 5 z (loadWordAt x1 z ag52 z (j := 1) z (by omega) z) z (TA.a 6 z (andU z z z) z (TA.b 7 z (indexArrN z underlying54 sz52 z z (by omega)) z (TA.last 8 (by kernel_rfl) z z z (storeWord z sz52 z z z (by omega) u16 ?_))))))))))
  refine TZ.done (by kernel_rfl) (B.n (S.n (TC.region (TL.w z (OpVal.succ z z z (by omega)) (TL.i z z (TL.en ?_))))))
  obtain ⟨hh, hlt114⟩ := nxt_x hR1 hh
  exact lf (((BSet.setWord z111 k112 (u64and (BSet.word z111 k112) (BSet.word x1 k112))), (k112 + 1)), ()) hlt114 hh (Sub.f [2, 2, 2] 3)
 ·refine TC.exit (S.x (S.x ?_))
  replace hh := fin_x hR1 hh
  refine TC.exitHere (S.n (TC.a (TL.w z (loadAll z ag54 sz54 z (i := 0) z z) (TL.front 2 z z (TL.op z (storeAll z sz54 z z z z z z ?_))))))
  refine TL.en (TC.rt 1 ?_)
  obtain rfl := so hh
  exact ro [] z (RVs.agg ag54 sz54 z (i := 0) z z RVs.nil) ⟨z, z, z⟩

noncomputable def twin_comes (x0 : Arc) (x1 : UInt8) : Option ((List UInt8)) :=
 iteO x0.copy (grd (x0.out.length + [x1].length ≤ 9223372036854775807) (some (x0.out ++ [x1]))) (some x0.out)
theorem twin_comes_con {σ : Store} {x0 : Arc} {x1 : UInt8}  {r : (List UInt8)} (hh : twin_comes x0 x1 = some r) :
  Con Try.prog 53 #[.agg #[.int .i64 x0.frm, .int .i64 x0.to, .int .u64 ((x0.set.a : Nat) : Int), .int .u64 ((x0.set.b : Nat) : Int), .int .u64 ((x0.set.c : Nat) : Int), .int .u64 ((x0.set.d : Nat) : Int), .string (bs x0.out), .bool x0.copy], .int .u8 ((x1.toNat : Nat) : Int)] σ [] (PureP (.string (bs r)) σ) := by
 dsimp only [twin_comes] at hh
 refine Con.mk (n := 15) Try.func53 z z z (fun w0 => ?_)
 refine TC.a (TL.op z (boxA z z z z (fun b101 => ?_)))
 refine TL.w z (moveStr (.inr z) z) (TL.en (TC.seq (TC.a (TL.w z (fieldLoc z fo56_4 z) (TL.w z (loadLoc z ag4 z (i := 0) z z) (TL.en (TC.cB z hh (fun h103 hh => ?_) (fun h103 hh => ?_))))))))
 ·refine TC.a (TL.w z (fieldLoc z fo56_3 z) (TL.w z (loadLoc z ag9 z (i := 0) z z) (TL.i z z (TL.op z (OpOk.lit (enc := encU8) [x1] z underlying82 sz5 ze5 z z z encU8_len (by decide) (by decide) (0 : UInt8) z (by decide) z (by decide) encU8_one (fun a104 c105 => ?_))))))
  refine TL.isSl (i := 0) z (fun hs107 _ _ => ?_)
  refine TL.w z (bytesStr (l := [x1]) z underlying82 underlying5 underlying9 z hs107 (fun w hw => rdb_row (q := 0) z hw)) ?_
  have u10 := grd_c hh
  replace hh := grd_t hh
  refine TL.w z (catBs z z z u10) (TL.w z (moveStr (.inr z) z) (TL.en (TC.rt 0 (S.r ?_))))
  obtain rfl := so hh
  exact rq [4] ⟨z, z, z⟩
 ·refine TC.skip (S.n (TC.a (TL.w z (fieldLoc z fo56_3 z) (TL.w z (loadLoc z ag9 z (i := 0) z z) (TL.w z (moveStr (.inr z) z) (TL.en (TC.rt 0 ?_)))))))
  obtain rfl := so hh
  exact rq [4] ⟨z, z, z⟩

noncomputable def twin_by_1_j1 {Sy : Type} (k114 : Nat) (s121 : Sy) : Option ((Nat × Sy) ⊕ (Sy)) :=
 nxt ((k114 + 1), s121)
noncomputable def twin_by_1_b1 {Sy : Type} (v5 : BSet) (x1 : Arc) (x3 : TLag) (x2 : Arc) (Y : Sy → TLag → Option (Sy × Bool)) (k114 : Nat) (s115 : Sy) : Option ((Nat × Sy) ⊕ (Sy)) :=
 iteO (decide (((k114 : Nat) : Int) < 256)) (iteO (!(v5.has (toU8 ((k114 : Nat) : Int)).toNat)) (twin_by_1_j1 k114 s115) (bnd (twin_comes x1 (toU8 ((k114 : Nat) : Int))) (fun v23 => grd (x3.a.length + v23.length ≤ 9223372036854775807) (bnd (twin_comes x2 (toU8 ((k114 : Nat) : Int))) (fun v29 => grd (x3.b.length + v29.length ≤ 9223372036854775807) (bnd (text_Lag (x3.a ++ v23) (x3.b ++ v29)) (fun v31 => bnd (Y s115 (⟨x1.to, x2.to, v31.1, v31.2⟩ : TLag)) (fun v45 => iteO (!v45.2) (fin (some v45.1)) (iteO (!x1.copy) (iteO (!x2.copy) (fin (some v45.1)) (twin_by_1_j1 k114 v45.1)) (twin_by_1_j1 k114 v45.1)))))))))) (fin (some s115))
noncomputable def twin_by_1 {Sy : Type} (Y : Sy → TLag → Option (Sy × Bool)) (s0 : Sy) (x1 : Arc) (x2 : Arc) (x3 : TLag) : Option (Sy) :=
 bnd (set_Both x1.set x2.set) (fun v5 => iter (fun q : Nat × Sy => twin_by_1_b1 v5 x1 x3 x2 Y q.1 q.2) (0, s0))
theorem twin_by_1_con {Sy : Type} {σ : Store} {Y : Sy → TLag → Option (Sy × Bool)} {s0 : Sy} {x1 : Arc} {b1_0 : Nat} {Eb1 : Nat} {x2 : Arc} {b2_0 : Nat} {Eb2 : Nat} {x3 : TLag} {b3_0 : Nat} {Eb3 : Nat}  {r : Sy} (hh : twin_by_1 Y s0 x1 x2 x3 = some r) :
  IterOk Try.prog 50 [loc b1_0 0, loc b2_0 0, loc b3_0 0] (fun (x : TLag) _ vs => vs = [.agg #[.int .i64 x.p, .int .i64 x.q, .string (bs x.a), .string (bs x.b)]]) Y σ [Res.cells b1_0 #[.int .i64 x1.frm, .int .i64 x1.to, .int .u64 ((x1.set.a : Nat) : Int), .int .u64 ((x1.set.b : Nat) : Int), .int .u64 ((x1.set.c : Nat) : Int), .int .u64 ((x1.set.d : Nat) : Int), .string (bs x1.out), .bool x1.copy] Eb1, Res.cells b2_0 #[.int .i64 x2.frm, .int .i64 x2.to, .int .u64 ((x2.set.a : Nat) : Int), .int .u64 ((x2.set.b : Nat) : Int), .int .u64 ((x2.set.c : Nat) : Int), .int .u64 ((x2.set.d : Nat) : Int), .string (bs x2.out), .bool x2.copy] Eb2, Res.cells b3_0 #[.int .i64 x3.p, .int .i64 x3.q, .string (bs x3.a), .string (bs x3.b)] Eb3] s0 r (fun σ' H' => H' = [Res.cells b1_0 #[.int .i64 x1.frm, .int .i64 x1.to, .int .u64 ((x1.set.a : Nat) : Int), .int .u64 ((x1.set.b : Nat) : Int), .int .u64 ((x1.set.c : Nat) : Int), .int .u64 ((x1.set.d : Nat) : Int), .string (bs x1.out), .bool x1.copy] Eb1, Res.cells b2_0 #[.int .i64 x2.frm, .int .i64 x2.to, .int .u64 ((x2.set.a : Nat) : Int), .int .u64 ((x2.set.b : Nat) : Int), .int .u64 ((x2.set.c : Nat) : Int), .int .u64 ((x2.set.d : Nat) : Int), .string (bs x2.out), .bool x2.copy] Eb2, Res.cells b3_0 #[.int .i64 x3.p, .int .i64 x3.q, .string (bs x3.a), .string (bs x3.b)] Eb3]) := by
 intro l Z ry0 hY hys
 dsimp only [twin_by_1] at hh
 refine Con.mk (n := 61) Try.func50 z z z (fun w0 => ?_)
 refine TC.weakR (TC.a (TL.w z (fieldLoc z fo56_2 z) (TL.w z (loadLocA z ag54 sz54 z (i := 1) z z z) (TL.w z (fieldLoc z fo56_2 z) (TL.w z (loadLocA z ag54 sz54 z (i := 2) z z z) ?_)))))
 obtain ⟨v5, u5, hh⟩ := bnd_e hh
 refine TL.op z (callP (set_Both_con u5) z z pf51 z z z ?_)
 refine TL.op z (OpOk.alloc z ze54 z z (fun b104 => ?_))
 refine TL.op z (storeAll z sz54 z z z z z z ?_)
 refine TL.en (TC.a (TL.i z z (TL.en (TC.block (TC.loopG (α := (Nat × Sy) × (Res × Store)) (rgs [(6, 4), (15, 46)]) (fun g => [(15, .int .i64 ((g.1.1 : Nat) : Int))]) (fun g => [Res.cells b1_0 #[.int .i64 x1.frm, .int .i64 x1.to, .int .u64 ((x1.set.a : Nat) : Int), .int .u64 ((x1.set.b : Nat) : Int), .int .u64 ((x1.set.c : Nat) : Int), .int .u64 ((x1.set.d : Nat) : Int), .string (bs x1.out), .bool x1.copy] Eb1, Res.cells b2_0 #[.int .i64 x2.frm, .int .i64 x2.to, .int .u64 ((x2.set.a : Nat) : Int), .int .u64 ((x2.set.b : Nat) : Int), .int .u64 ((x2.set.c : Nat) : Int), .int .u64 ((x2.set.d : Nat) : Int), .string (bs x2.out), .bool x2.copy] Eb2, Res.cells b3_0 #[.int .i64 x3.p, .int .i64 x3.q, .string (bs x3.a), .string (bs x3.b)] Eb3, Res.cells b104 (setA v5) 54, g.2.1]) (fun g => g.2.2) (fun g => iter (fun q : Nat × Sy => twin_by_1_b1 v5 x1 x3 x2 Y q.1 q.2) g.1 = some r ∧ YR Z g.1.2 g.2.2 g.2.1 ∧ Store.le σ g.2.2) (fun g => rounds (fun q : Nat × Sy => twin_by_1_b1 v5 x1 x3 x2 Y q.1 q.2) g.1) ((0, s0), (ry0, σ)) (Sub.f [1, 1, 4, 4, 4] 5) z (by repeat (first | exact trivial | refine ⟨z, ?_⟩)) ⟨hh, hys, (Store.le.refl _)⟩ (fun g1 j1 hg1 => ?_))))))
 obtain ⟨⟨k114, s115⟩, ⟨ry116, τ118⟩⟩ := g1
 obtain ⟨hh, hy117, hle119⟩ := hg1
 try dsimp only at hy117 hle119 ⊢
 obtain ⟨z1, hh, hR1⟩ := iter_e hh
 dsimp only [twin_by_1_b1] at hh
 skip
 refine TC.a (TL.w z (OpVal.lss z z z) (TL.en (TC.seq (TC.cD z hh (fun h120 hh => ?_) (fun h120 hh => ?_)))))
 ·refine TC.skip (S.n (TC.cutG (α := (Sy) × (Res × Store)) (rgs [(6, 4), (17, 43)]) (fun g => []) (fun g => [Res.cells b1_0 #[.int .i64 x1.frm, .int .i64 x1.to, .int .u64 ((x1.set.a : Nat) : Int), .int .u64 ((x1.set.b : Nat) : Int), .int .u64 ((x1.set.c : Nat) : Int), .int .u64 ((x1.set.d : Nat) : Int), .string (bs x1.out), .bool x1.copy] Eb1, Res.cells b2_0 #[.int .i64 x2.frm, .int .i64 x2.to, .int .u64 ((x2.set.a : Nat) : Int), .int .u64 ((x2.set.b : Nat) : Int), .int .u64 ((x2.set.c : Nat) : Int), .int .u64 ((x2.set.d : Nat) : Int), .string (bs x2.out), .bool x2.copy] Eb2, Res.cells b3_0 #[.int .i64 x3.p, .int .i64 x3.q, .string (bs x3.a), .string (bs x3.b)] Eb3, Res.cells b104 (setA v5) 54, g.2.1]) (fun g => g.2.2) (fun g => twin_by_1_j1 k114 g.1 = some z1 ∧ YR Z g.1 g.2.2 g.2.1 ∧ Store.le τ118 g.2.2) ?_ (fun g j hg => ?_)))
  ·skip
   refine TC.block (TC.a (TL.i z z (TL.i z z (TL.en (TC.a (TL.i z z (TL.w z (convU8 z underlying3 underlying5 z) (TL.i z z (TL.en (TC.seq (TC.a (TL.w z (loadAll z ag54 sz54 z (i := 3) z z) (TL.i z z (TL.op z (callP (has_con _ v5 (toU8 ((k114 : Nat) : Int)).toNat (BSet.isOk _) (UInt8.toNat_lt _)) z z pf52 z z z ?_)))))))))))))))
   refine TL.w z (OpVal.not z z) (TL.en (TC.cB z hh (fun h124 hh => ?_) (fun h124 hh => ?_)))
   ·exact TC.exit (S.x (TC.exitHere (S.n (cf (s115, (ry116, τ118)) ⟨hh, hy117, (Store.le.refl _)⟩ (Sub.f [4, 4, 4, 4, 4] 5)))))
   ·refine TC.skip (S.n (TC.seq ?_))
    obtain ⟨v23, u23, hh⟩ := bnd_e hh
    have u24 := grd_c hh
    replace hh := grd_t hh
    obtain ⟨v29, u29, hh⟩ := bnd_e hh
    have u30 := grd_c hh
    replace hh := grd_t hh
    obtain ⟨v31, u31, hh⟩ := bnd_e hh
    refine TC.draw [] (by kernel_rfl) (TA.a 0 z (fieldLoc z fo75_2 z) z (TA.b 1 z (loadLoc z ag9 z (i := 2) z z) z (TA.b 2 z (loadAll z ag56 sz56 z (i := 0) z z) z (TA.a 3 z (moveI (.inl z) z) z (TA.a 6 z (fieldLoc z fo75_3 z) z (TA.b 7 z (loadLoc z ag9 z (i := 2) z z) z (TA.b 8 z (loadAll z ag56 sz56 z (i := 1) z z) z (TA.a 9 z (moveI (.inl z) z) z (TA.ac 4 z (callP (twin_comes_con u23) z z pf53 z z z (k0 ?_)))))))))))
    refine TA.a 5 z (catBs z z z u24) z (TA.ac 10 z (callP (twin_comes_con u29) z z pf53 z z z (k0 ?_)))
    refine TA.a 11 z (catBs z z z u30) z (TA.ac 12 z (callP (text_Lag_con u31) z z pf29 z z z (k0 ?_)))
    refine TA.a 13 z (moveT (.inl z) z) z (TA.a 14 z (OpVal.extract z z z) z (TA.a 15 z (OpVal.extract z z z) z (TA.a 16 z (moveStr (.inr z) z) z (TA.a 17 z (moveStr (.inr z) z) z (TA.dn (S.n (TC.a (TL.w z (OpVal.mv (.inl z)) (TL.w z (fieldLoc z fo56_1 z) (TL.w z (loadLoc z ag3 z (i := 0) z z) (TL.w z (fieldLoc z fo56_1 z) (TL.w z (loadLoc z ag3 z (i := 1) z z) (TL.w z (moveStr (.inl z) z) (TL.w z (moveStr (.inl z) z) (TL.w z (buildL z pl75 ze75 z) ?_)))))))))))))))
    obtain ⟨v45, u45, hh⟩ := bnd_e hh
    refine TL.front 4 z z (TL.op z (callY hY hy117 u45 z z z z z z ?_))
    rintro τ125 ry125 hle125 hy125
    refine TL.w z (OpVal.not z z) (TL.j z z (TL.split 50 z (fun h126 => ?_) (fun h126 => ?_)))
    ·replace hh := iteO_t h126 hh
     refine TL.f z (TL.f z (TL.f z (TL.f z (TL.f z (TL.f z (TL.f z (TL.f z (TL.w z (pickTB z z z) (TL.en (TC.t z (TC.ofSub (Sub.f [3, 3, 3, 3] 4) (TC.ret (B.r (S.r (S.r ?_)))))))))))))))
     replace hh := fin_x hR1 hh
     refine B.r ?_
     obtain rfl := so hh
     refine ⟨_, Sub.f [3, 3, 3, 3] 4, ?_⟩
     exact ro [ry125, Res.cells b1_0 #[.int .i64 x1.frm, .int .i64 x1.to, .int .u64 ((x1.set.a : Nat) : Int), .int .u64 ((x1.set.b : Nat) : Int), .int .u64 ((x1.set.c : Nat) : Int), .int .u64 ((x1.set.d : Nat) : Int), .string (bs x1.out), .bool x1.copy] Eb1, Res.cells b2_0 #[.int .i64 x2.frm, .int .i64 x2.to, .int .u64 ((x2.set.a : Nat) : Int), .int .u64 ((x2.set.b : Nat) : Int), .int .u64 ((x2.set.c : Nat) : Int), .int .u64 ((x2.set.d : Nat) : Int), .string (bs x2.out), .bool x2.copy] Eb2, Res.cells b3_0 #[.int .i64 x3.p, .int .i64 x3.q, .string (bs x3.a), .string (bs x3.b)] Eb3] z RVs.nil ⟨_, _, z, hy125, z⟩
    ·replace hh := iteO_f h126 hh
     refine TL.g z (fieldLoc z fo56_4 z) (TL.g z (loadLoc z ag4 z (i := 1) z z) (TL.g z (OpVal.not z z) (TL.g z (moveB (.inl z) z) (TL.split 54 z (fun h127 => ?_) (fun h127 => ?_)))))
     ·replace hh := iteO_t h127 hh
      refine TL.g z (fieldLoc z fo56_4 z) (TL.g z (loadLoc z ag4 z (i := 2) z z) (TL.g z (OpVal.not z z) (TL.g z (pickTB z z z) (TL.w z (pickFB z z z) (TL.en (TC.cB z hh (fun h128 hh => ?_) (fun h128 hh => ?_)))))))
      ·refine TC.ofSub (Sub.f [3, 3, 3, 3] 4) (TC.ret (B.r (S.r (S.r ?_))))
       replace hh := fin_x hR1 hh
       refine B.r ?_
       obtain rfl := so hh
       refine ⟨_, Sub.f [3, 3, 3, 3] 4, ?_⟩
       exact ro [ry125, Res.cells b1_0 #[.int .i64 x1.frm, .int .i64 x1.to, .int .u64 ((x1.set.a : Nat) : Int), .int .u64 ((x1.set.b : Nat) : Int), .int .u64 ((x1.set.c : Nat) : Int), .int .u64 ((x1.set.d : Nat) : Int), .string (bs x1.out), .bool x1.copy] Eb1, Res.cells b2_0 #[.int .i64 x2.frm, .int .i64 x2.to, .int .u64 ((x2.set.a : Nat) : Int), .int .u64 ((x2.set.b : Nat) : Int), .int .u64 ((x2.set.c : Nat) : Int), .int .u64 ((x2.set.d : Nat) : Int), .string (bs x2.out), .bool x2.copy] Eb2, Res.cells b3_0 #[.int .i64 x3.p, .int .i64 x3.q, .string (bs x3.a), .string (bs x3.b)] Eb3] z RVs.nil ⟨_, _, z, hy125, z⟩
      ·exact TC.skip (B.n (S.n (cf (v45.1, (ry125, τ125)) ⟨hh, hy125, hle125⟩ (Sub.f [4, 4, 4, 4] 5))))
     ·replace hh := iteO_f h127 hh
      exact TL.f z (TL.f z (TL.f z (TL.g z (pickFB z z z) (TL.w z (pickFB z z z) (TL.en (TC.f z (TC.skip (B.n (S.n (cf (v45.1, (ry125, τ125)) ⟨hh, hy125, hle125⟩ (Sub.f [4, 4, 4, 4] 5)))))))))))
  ·skip
   obtain ⟨s121, ⟨ry122, τ129⟩⟩ := g
   obtain ⟨hh, hy123, hle130⟩ := hg
   try dsimp only at hy123
   dsimp only at hle130
   replace hy117 := hy117.mono hle130
   try dsimp only
   dsimp only [twin_by_1_j1] at hh
   skip
   refine TC.region (TL.w z (OpVal.succ z z z (by omega)) (TL.i z z (TL.en ?_)))
   obtain ⟨hh, hlt131⟩ := nxt_x hR1 hh
   exact lf (((k114 + 1), s121), (ry122, τ129)) hlt131 ⟨hh, hy123, (hle119.trans hle130)⟩ (Sub.f [4, 4, 4, 4, 4] 5)
 ·refine TC.exit (S.x (S.x ?_))
  replace hh := fin_x hR1 hh
  refine TC.exitHere ?_
  obtain rfl := so hh
  refine ⟨_, Sub.f [2, 2, 2, 4] 4, ?_⟩
  exact RetOk.mk' (rs := []) [ry116, Res.cells b1_0 #[.int .i64 x1.frm, .int .i64 x1.to, .int .u64 ((x1.set.a : Nat) : Int), .int .u64 ((x1.set.b : Nat) : Int), .int .u64 ((x1.set.c : Nat) : Int), .int .u64 ((x1.set.d : Nat) : Int), .string (bs x1.out), .bool x1.copy] Eb1, Res.cells b2_0 #[.int .i64 x2.frm, .int .i64 x2.to, .int .u64 ((x2.set.a : Nat) : Int), .int .u64 ((x2.set.b : Nat) : Int), .int .u64 ((x2.set.c : Nat) : Int), .int .u64 ((x2.set.d : Nat) : Int), .string (bs x2.out), .bool x2.copy] Eb2, Res.cells b3_0 #[.int .i64 x3.p, .int .i64 x3.q, .string (bs x3.a), .string (bs x3.b)] Eb3] z (.inr z) RVs.nil (List.sublist_append_left _ _) ⟨_, _, z, hy117, z⟩

noncomputable def twin_by (x0 : TLag) (x1 : Arc) (x2 : Arc) : Option ((Arc × Arc × TLag)) :=
 some (x1, x2, x0)
theorem twin_by_con {σ : Store} {x0 : TLag} {x1 : Arc} {x2 : Arc}  {r : (Arc × Arc × TLag)} (hh : twin_by x0 x1 x2 = some r) :
  Con Try.prog 31 #[.agg #[.int .i64 x0.p, .int .i64 x0.q, .string (bs x0.a), .string (bs x0.b)], .agg #[.int .i64 x1.frm, .int .i64 x1.to, .int .u64 ((x1.set.a : Nat) : Int), .int .u64 ((x1.set.b : Nat) : Int), .int .u64 ((x1.set.c : Nat) : Int), .int .u64 ((x1.set.d : Nat) : Int), .string (bs x1.out), .bool x1.copy], .agg #[.int .i64 x2.frm, .int .i64 x2.to, .int .u64 ((x2.set.a : Nat) : Int), .int .u64 ((x2.set.b : Nat) : Int), .int .u64 ((x2.set.c : Nat) : Int), .int .u64 ((x2.set.d : Nat) : Int), .string (bs x2.out), .bool x2.copy]] σ [] (fun v σ' H' => ∃ (br1 : Nat), ∃ (br2 : Nat), ∃ (br3 : Nat), v = .func (.func 50) #[] #[loc br1 0, loc br2 0, loc br3 0] ∧ σ = σ' ∧ H' = [Res.cells br1 #[.int .i64 r.1.frm, .int .i64 r.1.to, .int .u64 ((r.1.set.a : Nat) : Int), .int .u64 ((r.1.set.b : Nat) : Int), .int .u64 ((r.1.set.c : Nat) : Int), .int .u64 ((r.1.set.d : Nat) : Int), .string (bs r.1.out), .bool r.1.copy] 56, Res.cells br2 #[.int .i64 r.2.1.frm, .int .i64 r.2.1.to, .int .u64 ((r.2.1.set.a : Nat) : Int), .int .u64 ((r.2.1.set.b : Nat) : Int), .int .u64 ((r.2.1.set.c : Nat) : Int), .int .u64 ((r.2.1.set.d : Nat) : Int), .string (bs r.2.1.out), .bool r.2.1.copy] 56, Res.cells br3 #[.int .i64 r.2.2.p, .int .i64 r.2.2.q, .string (bs r.2.2.a), .string (bs r.2.2.b)] 75]) := by
 dsimp only [twin_by] at hh
 refine Con.mk (n := 8) Try.func31 z z z (fun w0 => ?_)
 refine TC.a (TL.op z (boxA z z z z (fun b104 => ?_)))
 refine TL.op z (boxA z z z z (fun b106 => ?_))
 refine TL.op z (boxA z z z z (fun b108 => ?_))
 refine TL.w z (OpVal.mv (.inr z)) (TL.en (TC.a (TL.w z (makeFn z) (TL.w z (moveFn (.inr z) z) (TL.en (TC.ofSub (Sub.f [2, 1, 2] 3) (TC.ret ?_)))))))
 obtain rfl := so hh
 exact ro [Res.cells b106 #[.int .i64 x1.frm, .int .i64 x1.to, .int .u64 ((x1.set.a : Nat) : Int), .int .u64 ((x1.set.b : Nat) : Int), .int .u64 ((x1.set.c : Nat) : Int), .int .u64 ((x1.set.d : Nat) : Int), .string (bs x1.out), .bool x1.copy] 56, Res.cells b108 #[.int .i64 x2.frm, .int .i64 x2.to, .int .u64 ((x2.set.a : Nat) : Int), .int .u64 ((x2.set.b : Nat) : Int), .int .u64 ((x2.set.c : Nat) : Int), .int .u64 ((x2.set.d : Nat) : Int), .string (bs x2.out), .bool x2.copy] 56, Res.cells b104 #[.int .i64 x0.p, .int .i64 x0.q, .string (bs x0.a), .string (bs x0.b)] 75] z (RVs.tmp z RVs.nil) ⟨b106, b108, b104, z, z, z⟩

noncomputable def twin_walk_first_1_b2 {Sy : Type} (x1 : Walk) (k114 : Nat) (Y : Sy → TLag → Option (Sy × Bool)) (k131 : Nat) (s132 : Sy) : Option ((Nat × Sy) ⊕ ((Nat × Sy) ⊕ (Sy))) :=
 iteO (decide (((k131 : Nat) : Int) < ((x1.t.starts.length : Nat) : Int))) (bnd (text_Lag ((nth x1.t.starts k114 Tip.zero).out) ((nth x1.t.starts k131 Tip.zero).out)) (fun v29 => bnd (Y s132 (⟨(nth x1.t.starts k114 Tip.zero).state, (nth x1.t.starts k131 Tip.zero).state, v29.1, v29.2⟩ : TLag)) (fun v43 => iteO (!v43.2) (fin (fin (some v43.1))) (nxt ((k131 + 1), v43.1))))) (fin (nxt ((k114 + 1), s132)))
noncomputable def twin_walk_first_1_b1 {Sy : Type} (x1 : Walk) (Y : Sy → TLag → Option (Sy × Bool)) (k114 : Nat) (s115 : Sy) : Option ((Nat × Sy) ⊕ (Sy)) :=
 iteO (decide (((k114 : Nat) : Int) < ((x1.t.starts.length : Nat) : Int))) (iter (fun q : Nat × Sy => twin_walk_first_1_b2 x1 k114 Y q.1 q.2) (0, s115)) (fin (some s115))
noncomputable def twin_walk_first_1 {Sy : Type} (Y : Sy → TLag → Option (Sy × Bool)) (s0 : Sy) (x1 : Walk) : Option (Sy) :=
 iter (fun q : Nat × Sy => twin_walk_first_1_b1 x1 Y q.1 q.2) (0, s0)
theorem twin_walk_first_1_con {Sy : Type} {σ : Store} {Y : Sy → TLag → Option (Sy × Bool)} {s0 : Sy} {x1 : Walk} {b1_0 : Nat} {Eb1 : Nat} {b1_1 : Nat} {Eb1_2 : Nat} {a1_4 : Option Addr} {c1_5 : Nat} {a1_7 : Option Addr} {c1_8 : Nat} {a1_10 : Option Addr} {c1_11 : Nat} {a1_13 : Option Addr} {c1_14 : Nat} {m1_16 : Option Nat} (h1_3 : SC σ b1_1 #[.int .i64 x1.t.states, .slice a1_4 x1.t.starts.length c1_5, .slice a1_7 x1.t.ends.length c1_8, .slice a1_10 x1.t.arcs.length c1_11, .slice a1_13 x1.arcs.length c1_14, .int .i64 x1.most, .map m1_16] Eb1_2) (f1_6 : RS σ 2 encTip (.slice a1_4 x1.t.starts.length c1_5) x1.t.starts) (f1_9 : RS σ 2 encTip (.slice a1_7 x1.t.ends.length c1_8) x1.t.ends) (f1_12 : RS σ 8 encArc (.slice a1_10 x1.t.arcs.length c1_11) x1.t.arcs) (f1_15 : RZ σ (pkSl 8 encArc encArc_len) (.slice a1_13 x1.arcs.length c1_14) x1.arcs) {r : Sy} (hh : twin_walk_first_1 Y s0 x1 = some r) :
  IterOk Try.prog 28 [loc b1_0 0] (fun (x : TLag) _ vs => vs = [.agg #[.int .i64 x.p, .int .i64 x.q, .string (bs x.a), .string (bs x.b)]]) Y σ [Res.cells b1_0 #[loc b1_1 0] Eb1] s0 r (fun σ' H' => H' = [Res.cells b1_0 #[loc b1_1 0] Eb1]) := by
 intro l Z ry0 hY hys
 dsimp only [twin_walk_first_1] at hh
 skip
 have f1_6b := f1_6.rv.big
 have f1_9b := f1_9.rv.big
 have f1_12b := f1_12.rv.big
 have f1_15b := f1_15.big
 refine Con.mk (n := 49) Try.func28 z z z (fun w0 => ?_)
 refine TC.weakR (TC.a (TL.w z (loadLoc z ag46 z (i := 1) z z) (TL.w z (nilCheckLoc z z) (TL.w z (fieldLoc z fo51_0 z) (TL.w z (fieldLoc z fo28_1 z) (TL.w z (OpVal.seen (SC.sees h1_3) (loadLoc z ag25 z (i := 0) z z)) (TL.w z (lenC z underlying25 z) (TL.i z z (TL.en (TC.block (TC.loopG (α := (Nat × Sy) × (Res × Store)) (rgs [(4, 1), (6, 3), (15, 34)]) (fun g => [(15, .int .i64 ((g.1.1 : Nat) : Int))]) (fun g => [Res.cells b1_0 #[loc b1_1 0] Eb1, g.2.1]) (fun g => g.2.2) (fun g => iter (fun q : Nat × Sy => twin_walk_first_1_b1 x1 Y q.1 q.2) g.1 = some r ∧ YR Z g.1.2 g.2.2 g.2.1 ∧ Store.le σ g.2.2) (fun g => rounds (fun q : Nat × Sy => twin_walk_first_1_b1 x1 Y q.1 q.2) g.1) ((0, s0), (ry0, σ)) (Sub.f [1] 2) z (by repeat (first | exact trivial | refine ⟨z, ?_⟩)) ⟨hh, hys, (Store.le.refl _)⟩ (fun g1 j1 hg1 => ?_))))))))))))
 obtain ⟨⟨k114, s115⟩, ⟨ry116, τ118⟩⟩ := g1
 obtain ⟨hh, hy117, hle119⟩ := hg1
 try dsimp only at hy117
 dsimp only at hle119
 replace h1_3 := h1_3.mono hle119
 replace f1_6 := f1_6.mono hle119
 try dsimp only
 obtain ⟨z1, hh, hR1⟩ := iter_e hh
 dsimp only [twin_walk_first_1_b1] at hh
 skip
 refine TC.a (TL.w z (OpVal.lss z z z) (TL.en (TC.seq (TC.cD z hh (fun h120 hh => ?_) (fun h120 hh => ?_)))))
 ·refine TC.skip (S.n (TC.seq (TC.block (TC.a (TL.w z (indexN z underlying25 sz66 z z f1_6.rv.sl (by omega)) (TL.w z (loadSA Tip.zero z ag66 sz66 z f1_6 (by omega) (by omega)) (TL.op z (OpOk.alloc z ze66 z z (fun b121 => ?_)))))))))
  refine TL.op z (storeAll z sz66 z z z z z z ?_)
  refine TL.en (TC.a (TL.w z (loadLoc z ag46 z (i := 1) z z) (TL.w z (nilCheckLoc z z) (TL.w z (fieldLoc z fo51_0 z) (TL.w z (fieldLoc z fo28_1 z) (TL.w z (OpVal.seen (SC.sees h1_3) (loadLoc z ag25 z (i := 0) z z)) (TL.w z (lenC z underlying25 z) (TL.i z z (TL.en (TC.block (TC.loopG (α := (Nat × Sy) × (Res × Store)) (rgs [(6, 3), (25, 23)]) (fun g => [(25, .int .i64 ((g.1.1 : Nat) : Int))]) (fun g => [Res.cells b1_0 #[loc b1_1 0] Eb1, Res.cells b121 #[.int .i64 ((nth x1.t.starts k114 Tip.zero).state), .string (bs ((nth x1.t.starts k114 Tip.zero).out))] 66, g.2.1]) (fun g => g.2.2) (fun g => iter (fun q : Nat × Sy => twin_walk_first_1_b2 x1 k114 Y q.1 q.2) g.1 = some z1 ∧ YR Z g.1.2 g.2.2 g.2.1 ∧ Store.le τ118 g.2.2) (fun g => rounds (fun q : Nat × Sy => twin_walk_first_1_b2 x1 k114 Y q.1 q.2) g.1) ((0, s115), (ry116, τ118)) (Sub.f [2, 1, 2] 3) z (by repeat (first | exact trivial | refine ⟨z, ?_⟩)) ⟨hh, hy117, (Store.le.refl _)⟩ (fun g2 j2 hg2 => ?_))))))))))))
  obtain ⟨⟨k131, s132⟩, ⟨ry133, τ135⟩⟩ := g2
  obtain ⟨hh, hy134, hle136⟩ := hg2
  try dsimp only at hy134
  dsimp only at hle136
  replace f1_6 := f1_6.mono hle136
  replace hy117 := hy117.mono hle136
  try dsimp only
  obtain ⟨z2, hh, hR2⟩ := iter_e hh
  dsimp only [twin_walk_first_1_b2] at hh
  skip
  refine TC.a (TL.w z (OpVal.lss z z z) (TL.en (TC.seq (TC.cD z hh (fun h137 hh => ?_) (fun h137 hh => ?_)))))
  ·refine TC.skip (S.n (TC.seq (TC.block (TC.a (TL.w z (indexN z underlying25 sz66 z z f1_6.rv.sl (by omega)) (TL.w z (loadSA Tip.zero z ag66 sz66 z f1_6 (by omega) (by omega)) (TL.op z (OpOk.alloc z ze66 z z (fun b138 => ?_)))))))))
   refine TL.op z (storeAll z sz66 z z z z z z ?_)
   refine TL.en (TC.a (TL.w z (fieldLoc z fo66_1 z) (TL.w z (loadLoc z ag9 z (i := 2) z z) (TL.w z (fieldLoc z fo66_1 z) (TL.w z (loadLoc z ag9 z (i := 0) z z) ?_)))))
   obtain ⟨v29, u29, hh⟩ := bnd_e hh
   refine TL.op z (callP (text_Lag_con u29) z z pf29 z z z ?_)
   refine TL.w z (moveT (.inl z) z) (TL.w z (OpVal.extract z z z) (TL.w z (OpVal.extract z z z) (TL.w z (moveStr (.inr z) z) (TL.w z (moveStr (.inr z) z) (TL.en (TC.a (TL.w z (OpVal.mv (.inl z)) (TL.w z (fieldLoc z fo66_0 z) (TL.w z (loadLoc z ag3 z (i := 2) z z) (TL.w z (fieldLoc z fo66_0 z) (TL.w z (loadLoc z ag3 z (i := 0) z z) (TL.w z (moveStr (.inl z) z) (TL.w z (moveStr (.inl z) z) (TL.w z (buildL z pl75 ze75 z) ?_))))))))))))))
   obtain ⟨v43, u43, hh⟩ := bnd_e hh
   refine TL.front 3 z z (TL.op z (callY hY hy134 u43 z z z z z z ?_))
   rintro τ140 ry140 hle140 hy140
   replace hy117 := hy117.mono hle140
   refine TL.w z (OpVal.not z z) (TL.en (TC.cB z hh (fun h141 hh => ?_) (fun h141 hh => ?_)))
   ·refine TC.ofSub (Sub.f [2, 1] 2) (TC.ret (B.r (S.r (S.r ?_))))
    replace hh := fin_x hR2 hh
    refine B.r (B.r (S.r (S.r ?_)))
    replace hh := fin_x hR1 hh
    refine B.r ?_
    obtain rfl := so hh
    refine ⟨_, Sub.f [1, 1] 2, ?_⟩
    exact ro [ry140, Res.cells b1_0 #[loc b1_1 0] Eb1] z RVs.nil ⟨_, _, z, hy140, z⟩
   ·refine TC.skip (B.n (S.n (TC.region (TL.w z (OpVal.succ z z z (by omega)) (TL.i z z (TL.en ?_))))))
    obtain ⟨hh, hlt142⟩ := nxt_x hR2 hh
    exact lf (((k131 + 1), v43.1), (ry140, τ140)) hlt142 ⟨hh, hy140, (hle136.trans hle140)⟩ (Sub.f [3, 3] 3)
  ·refine TC.exit (S.x (S.x ?_))
   replace hh := fin_x hR2 hh
   refine TC.exitHere (B.n (S.n (TC.region (TL.w z (OpVal.succ z z z (by omega)) (TL.i z z (TL.en ?_))))))
   obtain ⟨hh, hlt143⟩ := nxt_x hR1 hh
   exact lf (((k114 + 1), s132), (ry133, τ135)) hlt143 ⟨hh, hy134, (hle119.trans hle136)⟩ (Sub.f [2, 1] 2)
 ·refine TC.exit (S.x (S.x ?_))
  replace hh := fin_x hR1 hh
  refine TC.exitHere ?_
  obtain rfl := so hh
  refine ⟨_, Sub.f [1] 2, ?_⟩
  exact RetOk.mk' (rs := []) [ry116, Res.cells b1_0 #[loc b1_1 0] Eb1] z (.inr z) RVs.nil (List.sublist_append_left _ _) ⟨_, _, z, hy117, z⟩

noncomputable def twin_walk_first (x0 : Walk) : Option (Walk) :=
 some (⟨(⟨x0.t.states, x0.t.starts, x0.t.ends, x0.t.arcs⟩ : Fst), x0.arcs, x0.most⟩ : Walk)
theorem twin_walk_first_con {σ : Store} {x0 : Walk} {b0_1 : Nat} {Eb0_2 : Nat} {a0_4 : Option Addr} {c0_5 : Nat} {a0_7 : Option Addr} {c0_8 : Nat} {a0_10 : Option Addr} {c0_11 : Nat} {a0_13 : Option Addr} {c0_14 : Nat} {m0_16 : Option Nat} (h0_3 : SC σ b0_1 #[.int .i64 x0.t.states, .slice a0_4 x0.t.starts.length c0_5, .slice a0_7 x0.t.ends.length c0_8, .slice a0_10 x0.t.arcs.length c0_11, .slice a0_13 x0.arcs.length c0_14, .int .i64 x0.most, .map m0_16] Eb0_2) (f0_6 : RS σ 2 encTip (.slice a0_4 x0.t.starts.length c0_5) x0.t.starts) (f0_9 : RS σ 2 encTip (.slice a0_7 x0.t.ends.length c0_8) x0.t.ends) (f0_12 : RS σ 8 encArc (.slice a0_10 x0.t.arcs.length c0_11) x0.t.arcs) (f0_15 : RZ σ (pkSl 8 encArc encArc_len) (.slice a0_13 x0.arcs.length c0_14) x0.arcs) {r : Walk} (hh : twin_walk_first x0 = some r) :
  Con Try.prog 18 #[loc b0_1 0] σ [] (fun v σ' H' => ∃ (br17 : Nat), ∃ (br1 : Nat), ∃ (Ebr2 : Nat), ∃ (ar4 : Option Addr), ∃ (cr5 : Nat), ∃ (ar7 : Option Addr), ∃ (cr8 : Nat), ∃ (ar10 : Option Addr), ∃ (cr11 : Nat), ∃ (ar13 : Option Addr), ∃ (cr14 : Nat), ∃ (mr16 : Option Nat), v = .func (.func 28) #[] #[loc br17 0] ∧ SC σ' br1 #[.int .i64 r.t.states, .slice ar4 r.t.starts.length cr5, .slice ar7 r.t.ends.length cr8, .slice ar10 r.t.arcs.length cr11, .slice ar13 r.arcs.length cr14, .int .i64 r.most, .map mr16] Ebr2 ∧ RS σ' 2 encTip (.slice ar4 r.t.starts.length cr5) r.t.starts ∧ RS σ' 2 encTip (.slice ar7 r.t.ends.length cr8) r.t.ends ∧ RS σ' 8 encArc (.slice ar10 r.t.arcs.length cr11) r.t.arcs ∧ RZ σ' (pkSl 8 encArc encArc_len) (.slice ar13 r.arcs.length cr14) r.arcs ∧ H' = [Res.cells br17 #[loc br1 0] 46]) := by
 dsimp only [twin_walk_first] at hh
 skip
 have f0_6b := f0_6.rv.big
 have f0_9b := f0_9.rv.big
 have f0_12b := f0_12.rv.big
 have f0_15b := f0_15.big
 refine Con.mk (n := 4) Try.func18 z z z (fun w0 => ?_)
 refine TC.a (TL.op z (OpOk.box z z z z (fun b110 => ?_)))
 refine TL.w z (OpVal.mv (.inr z)) (TL.en (TC.a (TL.w z (makeFn z) (TL.w z (moveFn (.inr z) z) (TL.en (TC.ret ?_))))))
 obtain rfl := so hh
 exact ro [Res.cells b110 #[loc b0_1 0] 46] z (RVs.tmp z RVs.nil) ⟨b110, b0_1, Eb0_2, a0_4, c0_5, a0_7, c0_8, a0_10, c0_11, a0_13, c0_14, m0_16, z, h0_3, f0_6, f0_9, f0_12, f0_15, z⟩

noncomputable def twin_walk_next_1_r512 {Sy : Type} (Y : Sy → TLag → Option (Sy × Bool)) (s175 : Sy) (y512_0 : TLag) : Option (Nat × Sy) :=
 bnd (Y s175 y512_0) (fun v48 => iteO (!v48.2) (some (1, v48.1)) (some (0, v48.1)))
noncomputable def twin_walk_next_1_k512 {Sy : Type} (k156 : Nat) (jz : Nat) (s175 : Sy) : Option ((Nat × Sy) ⊕ ((Nat × Sy) ⊕ ((Nat × Sy) ⊕ (Sy)))) :=
 jsel jz (nxt ((k156 + 1), s175)) (fun j_ => jsel j_ (fin (fin (fin (some s175)))) (fun _ => none))
noncomputable def twin_walk_next_1_b3 {Sy : Type} (x2 : Walk) (x1 : List TLag) (k118 : Nat) (k137 : Nat) (Y : Sy → TLag → Option (Sy × Bool)) (k156 : Nat) (s157 : Sy) : Option ((Nat × Sy) ⊕ ((Nat × Sy) ⊕ ((Nat × Sy) ⊕ (Sy)))) :=
 iteO (decide (((k156 : Nat) : Int) < (((nth x2.arcs (((nth x1 k118 TLag.zero).q).toNat) ([] : List Arc)).length : Nat) : Int))) (bnd (twin_by (nth x1 k118 TLag.zero) (nth (nth x2.arcs (((nth x1 k118 TLag.zero).p).toNat) ([] : List Arc)) k137 Arc.zero) (nth (nth x2.arcs (((nth x1 k118 TLag.zero).q).toNat) ([] : List Arc)) k156 Arc.zero)) (fun v43 => bnd (twin_by_1 (stepY (fun (q : Sy) (x : TLag) => twin_walk_next_1_r512 Y q x)) (0, s157) v43.1 v43.2.1 v43.2.2) (fun zr512 => twin_walk_next_1_k512 k156 zr512.1 zr512.2))) (fin (nxt ((k137 + 1), s157)))
noncomputable def twin_walk_next_1_b2 {Sy : Type} (x2 : Walk) (x1 : List TLag) (k118 : Nat) (Y : Sy → TLag → Option (Sy × Bool)) (k137 : Nat) (s138 : Sy) : Option ((Nat × Sy) ⊕ ((Nat × Sy) ⊕ (Sy))) :=
 iteO (decide (((k137 : Nat) : Int) < (((nth x2.arcs (((nth x1 k118 TLag.zero).p).toNat) ([] : List Arc)).length : Nat) : Int))) (grd (0 ≤ ((nth x1 k118 TLag.zero).q) ∧ ((nth x1 k118 TLag.zero).q) < (x2.arcs.length : Int)) (iter (fun q : Nat × Sy => twin_walk_next_1_b3 x2 x1 k118 k137 Y q.1 q.2) (0, s138))) (fin (nxt ((k118 + 1), s138)))
noncomputable def twin_walk_next_1_b1 {Sy : Type} (x1 : List TLag) (x2 : Walk) (Y : Sy → TLag → Option (Sy × Bool)) (k118 : Nat) (s119 : Sy) : Option ((Nat × Sy) ⊕ (Sy)) :=
 iteO (decide (((k118 : Nat) : Int) < ((x1.length : Nat) : Int))) (grd (0 ≤ ((nth x1 k118 TLag.zero).p) ∧ ((nth x1 k118 TLag.zero).p) < (x2.arcs.length : Int)) (iter (fun q : Nat × Sy => twin_walk_next_1_b2 x2 x1 k118 Y q.1 q.2) (0, s119))) (fin (some s119))
noncomputable def twin_walk_next_1 {Sy : Type} (Y : Sy → TLag → Option (Sy × Bool)) (s0 : Sy) (x1 : List TLag) (x2 : Walk) : Option (Sy) :=
 iter (fun q : Nat × Sy => twin_walk_next_1_b1 x1 x2 Y q.1 q.2) (0, s0)
theorem twin_walk_next_1_con {Sy : Type} {σ : Store} {Y : Sy → TLag → Option (Sy × Bool)} {s0 : Sy} {x1 : List TLag} {b1_0 : Nat} {Eb1 : Nat} {a1_1 : Option Addr} {c1_2 : Nat} {x2 : Walk} {b2_0 : Nat} {Eb2 : Nat} {b2_1 : Nat} {Eb2_2 : Nat} {a2_4 : Option Addr} {c2_5 : Nat} {a2_7 : Option Addr} {c2_8 : Nat} {a2_10 : Option Addr} {c2_11 : Nat} {a2_13 : Option Addr} {c2_14 : Nat} {m2_16 : Option Nat} (f1_3 : RS σ 4 encLag (.slice a1_1 x1.length c1_2) x1) (h2_3 : SC σ b2_1 #[.int .i64 x2.t.states, .slice a2_4 x2.t.starts.length c2_5, .slice a2_7 x2.t.ends.length c2_8, .slice a2_10 x2.t.arcs.length c2_11, .slice a2_13 x2.arcs.length c2_14, .int .i64 x2.most, .map m2_16] Eb2_2) (f2_6 : RS σ 2 encTip (.slice a2_4 x2.t.starts.length c2_5) x2.t.starts) (f2_9 : RS σ 2 encTip (.slice a2_7 x2.t.ends.length c2_8) x2.t.ends) (f2_12 : RS σ 8 encArc (.slice a2_10 x2.t.arcs.length c2_11) x2.t.arcs) (f2_15 : RZ σ (pkSl 8 encArc encArc_len) (.slice a2_13 x2.arcs.length c2_14) x2.arcs) {r : Sy} (hh : twin_walk_next_1 Y s0 x1 x2 = some r) :
  IterOk Try.prog 30 [loc b1_0 0, loc b2_0 0] (fun (x : TLag) _ vs => vs = [.agg #[.int .i64 x.p, .int .i64 x.q, .string (bs x.a), .string (bs x.b)]]) Y σ [Res.cells b1_0 #[.slice a1_1 x1.length c1_2] Eb1, Res.cells b2_0 #[loc b2_1 0] Eb2] s0 r (fun σ' H' => H' = [Res.cells b1_0 #[.slice a1_1 x1.length c1_2] Eb1, Res.cells b2_0 #[loc b2_1 0] Eb2]) := by
 intro l Z ry0 hY hys
 dsimp only [twin_walk_next_1] at hh
 have f1_3b := f1_3.rv.big
 skip
 have f2_6b := f2_6.rv.big
 have f2_9b := f2_9.rv.big
 have f2_12b := f2_12.rv.big
 have f2_15b := f2_15.big
 refine Con.mk (n := 55) Try.func30 z z z (fun w0 => ?_)
 refine TC.weakR (TC.a (TL.op z (OpOk.box z z z z (fun b108 => ?_))))
 refine TL.en (TC.a (TL.w z (loadLoc z ag57 z (i := 2) z z) (TL.w z (lenC z underlying57 z) (TL.i z z (TL.en (TC.block (TC.loopG (α := (Nat × Sy) × (Res × Store)) (rgs [(5, 1), (7, 1), (9, 1), (13, 34), (52, 3)]) (fun g => [(13, .int .i64 ((g.1.1 : Nat) : Int))]) (fun g => [Res.cells b2_0 #[loc b2_1 0] Eb2, Res.cells b108 #[.func (.yield l) #[] #[]] 78, Res.cells b1_0 #[.slice a1_1 x1.length c1_2] Eb1, g.2.1]) (fun g => g.2.2) (fun g => iter (fun q : Nat × Sy => twin_walk_next_1_b1 x1 x2 Y q.1 q.2) g.1 = some r ∧ YR Z g.1.2 g.2.2 g.2.1 ∧ Store.le σ g.2.2) (fun g => rounds (fun q : Nat × Sy => twin_walk_next_1_b1 x1 x2 Y q.1 q.2) g.1) ((0, s0), (ry0, σ)) (Sub.f [1, 2, 2, 3] 4) z (by repeat (first | exact trivial | refine ⟨z, ?_⟩)) ⟨hh, hys, (Store.le.refl _)⟩ (fun g1 j1 hg1 => ?_))))))))
 obtain ⟨⟨k118, s119⟩, ⟨ry120, τ122⟩⟩ := g1
 obtain ⟨hh, hy121, hle123⟩ := hg1
 try dsimp only at hy121
 dsimp only at hle123
 replace f1_3 := f1_3.mono hle123
 replace h2_3 := h2_3.mono hle123
 replace f2_15 := f2_15.mono hle123
 try dsimp only
 obtain ⟨z1, hh, hR1⟩ := iter_e hh
 dsimp only [twin_walk_next_1_b1] at hh
 skip
 refine TC.a (TL.w z (OpVal.lss z z z) (TL.en (TC.seq (TC.cD z hh (fun h124 hh => ?_) (fun h124 hh => ?_)))))
 ·refine TC.skip (S.n (TC.seq (TC.block (TC.a (TL.w z (indexN z underlying57 sz75 z z f1_3.rv.sl (by omega)) (TL.w z (loadSA TLag.zero z ag75 sz75 z f1_3 (by omega) (by omega)) (TL.op z (OpOk.alloc z ze75 z z (fun b125 => ?_)))))))))
  refine TL.op z (storeAll z sz75 z z z z z z ?_)
  refine TL.en (TC.seq ?_)
  have u16 := grd_c hh
  replace hh := grd_t hh
  refine TC.draw [] (by kernel_rfl) (TA.b 0 z (loadLoc z ag46 z (i := 1) z z) z (TA.a 1 z (nilCheckLoc z z) z (TA.a 2 z (fieldLoc z fo51_1 z) z (TA.b 3 z (OpVal.seen (SC.sees h2_3) (loadLoc z ag47 z (i := 0) z z)) z (TA.a 4 z (fieldLoc z fo75_0 z) z (TA.b 5 z (loadLoc z ag3 z (i := 0) z z) z (TA.b 6 z (OpVal.index z underlying47 sz26 z z f2_15.isSl u16.1 u16.2) z ?_)))))))
  obtain ⟨p128, hk128, hg128⟩ := RZ.seg f2_15 (((nth x1 k118 TLag.zero).p).toNat) (by omega)
  replace hk128 : RS _ 8 encArc (.slice p128.1 (nth x2.arcs (((nth x1 k118 TLag.zero).p).toNat) ([] : List Arc)).length p128.2) (nth x2.arcs (((nth x1 k118 TLag.zero).p).toNat) ([] : List Arc)) := hk128
  have hk128b := hk128.rv.big
  refine TA.b 7 z (OpVal.of (loadSeg0 z ag26 z hg128 z) (v' := .slice p128.1 ((nth x2.arcs (((nth x1 k118 TLag.zero).p).toNat) ([] : List Arc)).length) p128.2) z) z (TA.b 8 z (lenC z underlying26 z) z (TA.a 9 z (moveI (.inl z) z) z (TA.dn (S.n (TC.block (TC.loopG (α := (Nat × Sy) × (Res × Store)) (rgs [(7, 1), (9, 1), (26, 21), (52, 2)]) (fun g => [(26, .int .i64 ((g.1.1 : Nat) : Int))]) (fun g => [Res.cells b2_0 #[loc b2_1 0] Eb2, Res.cells b108 #[.func (.yield l) #[] #[]] 78, Res.cells b125 #[.int .i64 ((nth x1 k118 TLag.zero).p), .int .i64 ((nth x1 k118 TLag.zero).q), .string (bs ((nth x1 k118 TLag.zero).a)), .string (bs ((nth x1 k118 TLag.zero).b))] 75, Res.cells b1_0 #[.slice a1_1 x1.length c1_2] Eb1, g.2.1]) (fun g => g.2.2) (fun g => iter (fun q : Nat × Sy => twin_walk_next_1_b2 x2 x1 k118 Y q.1 q.2) g.1 = some z1 ∧ YR Z g.1.2 g.2.2 g.2.1 ∧ Store.le τ122 g.2.2) (fun g => rounds (fun q : Nat × Sy => twin_walk_next_1_b2 x2 x1 k118 Y q.1 q.2) g.1) ((0, s119), (ry120, τ122)) (Sub.f [4, 4, 2, 4, 4] 5) z (by repeat (first | exact trivial | refine ⟨z, ?_⟩)) ⟨hh, hy121, (Store.le.refl _)⟩ (fun g2 j2 hg2 => ?_)))))))
  obtain ⟨⟨k137, s138⟩, ⟨ry139, τ141⟩⟩ := g2
  obtain ⟨hh, hy140, hle142⟩ := hg2
  try dsimp only at hy140
  dsimp only at hle142
  replace h2_3 := h2_3.mono hle142
  replace f2_15 := f2_15.mono hle142
  replace hy121 := hy121.mono hle142
  replace hk128 := hk128.mono hle142
  try dsimp only
  obtain ⟨z2, hh, hR2⟩ := iter_e hh
  dsimp only [twin_walk_next_1_b2] at hh
  skip
  refine TC.a (TL.w z (OpVal.lss z z z) (TL.en (TC.seq (TC.cD z hh (fun h143 hh => ?_) (fun h143 hh => ?_)))))
  ·refine TC.skip (S.n (TC.seq (TC.block (TC.a (TL.w z (indexN z underlying26 sz56 z z hk128.rv.sl (by omega)) (TL.w z (loadSA Arc.zero z ag56 sz56 z hk128 (by omega) (by omega)) (TL.op z (OpOk.alloc z ze56 z z (fun b144 => ?_)))))))))
   refine TL.op z (storeAll z sz56 z z z z z z ?_)
   refine TL.en (TC.seq ?_)
   have u31 := grd_c hh
   replace hh := grd_t hh
   refine TC.draw [] (by kernel_rfl) (TA.b 0 z (loadLoc z ag46 z (i := 1) z z) z (TA.a 1 z (nilCheckLoc z z) z (TA.a 2 z (fieldLoc z fo51_1 z) z (TA.b 3 z (OpVal.seen (SC.sees h2_3) (loadLoc z ag47 z (i := 0) z z)) z (TA.a 4 z (fieldLoc z fo75_1 z) z (TA.b 5 z (loadLoc z ag3 z (i := 3) z z) z (TA.b 6 z (OpVal.index z underlying47 sz26 z z f2_15.isSl u31.1 u31.2) z ?_)))))))
   obtain ⟨p147, hk147, hg147⟩ := RZ.seg f2_15 (((nth x1 k118 TLag.zero).q).toNat) (by omega)
   replace hk147 : RS _ 8 encArc (.slice p147.1 (nth x2.arcs (((nth x1 k118 TLag.zero).q).toNat) ([] : List Arc)).length p147.2) (nth x2.arcs (((nth x1 k118 TLag.zero).q).toNat) ([] : List Arc)) := hk147
   have hk147b := hk147.rv.big
   refine TA.b 7 z (OpVal.of (loadSeg0 z ag26 z hg147 z) (v' := .slice p147.1 ((nth x2.arcs (((nth x1 k118 TLag.zero).q).toNat) ([] : List Arc)).length) p147.2) z) z (TA.b 8 z (lenC z underlying26 z) z (TA.a 9 z (moveI (.inl z) z) z (TA.dn (S.n (TC.block (TC.loopG (α := (Nat × Sy) × (Res × Store)) (rgs [(9, 1), (39, 8), (52, 1)]) (fun g => [(39, .int .i64 ((g.1.1 : Nat) : Int))]) (fun g => [Res.cells b2_0 #[loc b2_1 0] Eb2, Res.cells b108 #[.func (.yield l) #[] #[]] 78, Res.cells b125 #[.int .i64 ((nth x1 k118 TLag.zero).p), .int .i64 ((nth x1 k118 TLag.zero).q), .string (bs ((nth x1 k118 TLag.zero).a)), .string (bs ((nth x1 k118 TLag.zero).b))] 75, Res.cells b144 #[.int .i64 ((nth (nth x2.arcs (((nth x1 k118 TLag.zero).p).toNat) ([] : List Arc)) k137 Arc.zero).frm), .int .i64 ((nth (nth x2.arcs (((nth x1 k118 TLag.zero).p).toNat) ([] : List Arc)) k137 Arc.zero).to), .int .u64 ((((nth (nth x2.arcs (((nth x1 k118 TLag.zero).p).toNat) ([] : List Arc)) k137 Arc.zero).set).a : Nat) : Int), .int .u64 ((((nth (nth x2.arcs (((nth x1 k118 TLag.zero).p).toNat) ([] : List Arc)) k137 Arc.zero).set).b : Nat) : Int), .int .u64 ((((nth (nth x2.arcs (((nth x1 k118 TLag.zero).p).toNat) ([] : List Arc)) k137 Arc.zero).set).c : Nat) : Int), .int .u64 ((((nth (nth x2.arcs (((nth x1 k118 TLag.zero).p).toNat) ([] : List Arc)) k137 Arc.zero).set).d : Nat) : Int), .string (bs ((nth (nth x2.arcs (((nth x1 k118 TLag.zero).p).toNat) ([] : List Arc)) k137 Arc.zero).out)), .bool ((nth (nth x2.arcs (((nth x1 k118 TLag.zero).p).toNat) ([] : List Arc)) k137 Arc.zero).copy)] 56, Res.cells b1_0 #[.slice a1_1 x1.length c1_2] Eb1, g.2.1]) (fun g => g.2.2) (fun g => iter (fun q : Nat × Sy => twin_walk_next_1_b3 x2 x1 k118 k137 Y q.1 q.2) g.1 = some z2 ∧ YR Z g.1.2 g.2.2 g.2.1 ∧ Store.le τ141 g.2.2) (fun g => rounds (fun q : Nat × Sy => twin_walk_next_1_b3 x2 x1 k118 k137 Y q.1 q.2) g.1) ((0, s138), (ry139, τ141)) (Sub.f [5, 5, 2, 5, 5, 5] 6) z (by repeat (first | exact trivial | refine ⟨z, ?_⟩)) ⟨hh, hy140, (Store.le.refl _)⟩ (fun g3 j3 hg3 => ?_)))))))
   obtain ⟨⟨k156, s157⟩, ⟨ry158, τ160⟩⟩ := g3
   obtain ⟨hh, hy159, hle161⟩ := hg3
   try dsimp only at hy159
   dsimp only at hle161
   replace hy121 := hy121.mono hle161
   replace hy140 := hy140.mono hle161
   replace hk147 := hk147.mono hle161
   try dsimp only
   obtain ⟨z3, hh, hR3⟩ := iter_e hh
   dsimp only [twin_walk_next_1_b3] at hh
   skip
   refine TC.a (TL.w z (OpVal.lss z z z) (TL.en (TC.seq (TC.cD z hh (fun h162 hh => ?_) (fun h162 hh => ?_)))))
   ·refine TC.skip (S.n (TC.seq (TC.block (TC.a (TL.w z (indexN z underlying26 sz56 z z hk147.rv.sl (by omega)) (TL.w z (loadSA Arc.zero z ag56 sz56 z hk147 (by omega) (by omega)) (TL.op z (OpOk.alloc z ze56 z z (fun b163 => ?_)))))))))
    refine TL.op z (storeAll z sz56 z z z z z z ?_)
    refine TL.en (TC.a (TL.w z (loadAll z ag75 sz75 z (i := 3) z z) (TL.w z (loadAll z ag56 sz56 z (i := 4) z z) (TL.w z (loadAll z ag56 sz56 z (i := 0) z z) ?_))))
    obtain ⟨v43, u43, hh⟩ := bnd_e hh
    refine TL.op z (OpOk.call (twin_by_con u43) z z pf31 z z z z ?_)
    rintro _ _ _ hle165 ⟨b165_1, b165_2, b165_3, rfl, rfl, rfl⟩
    refine TL.en (TC.block (TC.ofSub (Sub.f [2, 2, 2, 9, 9, 9, 9, 9, 9] 9) ?_))
    obtain ⟨zr512, hz512, hh⟩ := bnd_e hh
    obtain ⟨jz512, s175⟩ := zr512
    dsimp only at hh
    refine TC.rangeG (A := (fun (x : TLag) _ vs => vs = [.agg #[.int .i64 x.p, .int .i64 x.q, .string (bs x.a), .string (bs x.b)]])) [.ret] (fun (q : Sy) (x : TLag) => twin_walk_next_1_r512 Y q x) (fun (q : Sy) (τ178 : Store) Hs => ∃ (ry176 : Res), Hs = [Res.cells b2_0 #[loc b2_1 0] Eb2, Res.cells b108 #[.func (.yield l) #[] #[]] 78, Res.cells b125 #[.int .i64 ((nth x1 k118 TLag.zero).p), .int .i64 ((nth x1 k118 TLag.zero).q), .string (bs ((nth x1 k118 TLag.zero).a)), .string (bs ((nth x1 k118 TLag.zero).b))] 75, Res.cells b144 #[.int .i64 ((nth (nth x2.arcs (((nth x1 k118 TLag.zero).p).toNat) ([] : List Arc)) k137 Arc.zero).frm), .int .i64 ((nth (nth x2.arcs (((nth x1 k118 TLag.zero).p).toNat) ([] : List Arc)) k137 Arc.zero).to), .int .u64 ((((nth (nth x2.arcs (((nth x1 k118 TLag.zero).p).toNat) ([] : List Arc)) k137 Arc.zero).set).a : Nat) : Int), .int .u64 ((((nth (nth x2.arcs (((nth x1 k118 TLag.zero).p).toNat) ([] : List Arc)) k137 Arc.zero).set).b : Nat) : Int), .int .u64 ((((nth (nth x2.arcs (((nth x1 k118 TLag.zero).p).toNat) ([] : List Arc)) k137 Arc.zero).set).c : Nat) : Int), .int .u64 ((((nth (nth x2.arcs (((nth x1 k118 TLag.zero).p).toNat) ([] : List Arc)) k137 Arc.zero).set).d : Nat) : Int), .string (bs ((nth (nth x2.arcs (((nth x1 k118 TLag.zero).p).toNat) ([] : List Arc)) k137 Arc.zero).out)), .bool ((nth (nth x2.arcs (((nth x1 k118 TLag.zero).p).toNat) ([] : List Arc)) k137 Arc.zero).copy)] 56, Res.cells b1_0 #[.slice a1_1 x1.length c1_2] Eb1, ry176] ∧ YR Z q τ178 ry176) (s := s157) rfl pf50 rfl rfl (by rintro _ _ _ _ ⟨ry176, rfl, hy177⟩ hle_; exact ⟨ry176, rfl, hy177.mono hle_⟩) ⟨ry158, rfl, hy159⟩ (fun _ _ _ h_ => by subst h_; rfl) (twin_by_1_con hz512) ?_ ?_
    ·clear hh hz512
     rintro l_ _ _ _ τ178 s175 y512_0 z512 _ _ hh hle179 rfl ⟨ry176, rfl, hy177⟩
     dsimp only [twin_walk_next_1_r512] at hh
     replace hy121 := hy121.mono hle179
     replace hy140 := hy140.mono hle179
     replace hy159 := hy159.mono hle179
     skip
     show TC _ _ _ (upds _ [(47, .agg #[.int .i64 y512_0.p, .int .i64 y512_0.q, .string (bs y512_0.a), .string (bs y512_0.b)])]) τ178 [Res.cells b2_0 #[loc b2_1 0] Eb2, Res.cells b108 #[.func (.yield l) #[] #[]] 78, Res.cells b125 #[.int .i64 ((nth x1 k118 TLag.zero).p), .int .i64 ((nth x1 k118 TLag.zero).q), .string (bs ((nth x1 k118 TLag.zero).a)), .string (bs ((nth x1 k118 TLag.zero).b))] 75, Res.cells b144 #[.int .i64 ((nth (nth x2.arcs (((nth x1 k118 TLag.zero).p).toNat) ([] : List Arc)) k137 Arc.zero).frm), .int .i64 ((nth (nth x2.arcs (((nth x1 k118 TLag.zero).p).toNat) ([] : List Arc)) k137 Arc.zero).to), .int .u64 ((((nth (nth x2.arcs (((nth x1 k118 TLag.zero).p).toNat) ([] : List Arc)) k137 Arc.zero).set).a : Nat) : Int), .int .u64 ((((nth (nth x2.arcs (((nth x1 k118 TLag.zero).p).toNat) ([] : List Arc)) k137 Arc.zero).set).b : Nat) : Int), .int .u64 ((((nth (nth x2.arcs (((nth x1 k118 TLag.zero).p).toNat) ([] : List Arc)) k137 Arc.zero).set).c : Nat) : Int), .int .u64 ((((nth (nth x2.arcs (((nth x1 k118 TLag.zero).p).toNat) ([] : List Arc)) k137 Arc.zero).set).d : Nat) : Int), .string (bs ((nth (nth x2.arcs (((nth x1 k118 TLag.zero).p).toNat) ([] : List Arc)) k137 Arc.zero).out)), .bool ((nth (nth x2.arcs (((nth x1 k118 TLag.zero).p).toNat) ([] : List Arc)) k137 Arc.zero).copy)] 56, Res.cells b1_0 #[.slice a1_1 x1.length c1_2] Eb1, ry176]
     refine TC.region (TL.op z (OpOk.alloc z ze75 z z (fun b180 => ?_)))
     refine TL.op z (storeAll z sz75 z z z z z z ?_)
     refine TL.nil (asg_n (fun _ _ _ => ?_))
     refine TC.block (TC.a (TL.w z (loadLoc z ag78 z (i := 2) z z) (TL.w z (loadAll z ag75 sz75 z (i := 0) z z) ?_)))
     obtain ⟨v48, u48, hh⟩ := bnd_e hh
     refine TL.front 6 z z (TL.op z (callY hY hy177 u48 z z z z z z ?_))
     rintro τ182 ry182 hle182 hy182
     replace hy121 := hy121.mono hle182
     replace hy140 := hy140.mono hle182
     replace hy159 := hy159.mono hle182
     refine TL.w z (OpVal.not z z) (TL.en (TC.cB z hh (fun h183 hh => ?_) (fun h183 hh => ?_)))
     ·refine TC.ret (B.r ?_)
      obtain rfl := so hh
      exact rnd_r 0 z ⟨z, _, Sub.f [6, 6, 6, 6, 6] 6, ⟨ry182, z, hy182⟩⟩
     ·refine TC.skip (B.n ?_)
      obtain rfl := so hh
      exact rnd_n ⟨z, _, Sub.f [6, 6, 6, 6, 6] 6, ⟨ry182, z, hy182⟩⟩
    ·rintro τ178 _ _ hle179 ⟨ry176, rfl, hy177⟩ ⟨rfl⟩
     replace hy121 := hy121.mono hle179
     replace hy140 := hy140.mono hle179
     replace hy159 := hy159.mono hle179
     skip
     dsimp only [twin_walk_next_1_k512] at hh
     show jmpQ _ _ _ _ _ τ178 [Res.cells b2_0 #[loc b2_1 0] Eb2, Res.cells b108 #[.func (.yield l) #[] #[]] 78, Res.cells b125 #[.int .i64 ((nth x1 k118 TLag.zero).p), .int .i64 ((nth x1 k118 TLag.zero).q), .string (bs ((nth x1 k118 TLag.zero).a)), .string (bs ((nth x1 k118 TLag.zero).b))] 75, Res.cells b144 #[.int .i64 ((nth (nth x2.arcs (((nth x1 k118 TLag.zero).p).toNat) ([] : List Arc)) k137 Arc.zero).frm), .int .i64 ((nth (nth x2.arcs (((nth x1 k118 TLag.zero).p).toNat) ([] : List Arc)) k137 Arc.zero).to), .int .u64 ((((nth (nth x2.arcs (((nth x1 k118 TLag.zero).p).toNat) ([] : List Arc)) k137 Arc.zero).set).a : Nat) : Int), .int .u64 ((((nth (nth x2.arcs (((nth x1 k118 TLag.zero).p).toNat) ([] : List Arc)) k137 Arc.zero).set).b : Nat) : Int), .int .u64 ((((nth (nth x2.arcs (((nth x1 k118 TLag.zero).p).toNat) ([] : List Arc)) k137 Arc.zero).set).c : Nat) : Int), .int .u64 ((((nth (nth x2.arcs (((nth x1 k118 TLag.zero).p).toNat) ([] : List Arc)) k137 Arc.zero).set).d : Nat) : Int), .string (bs ((nth (nth x2.arcs (((nth x1 k118 TLag.zero).p).toNat) ([] : List Arc)) k137 Arc.zero).out)), .bool ((nth (nth x2.arcs (((nth x1 k118 TLag.zero).p).toNat) ([] : List Arc)) k137 Arc.zero).copy)] 56, Res.cells b1_0 #[.slice a1_1 x1.length c1_2] Eb1, ry176, Res.cells b165_1 #[.int .i64 v43.1.frm, .int .i64 v43.1.to, .int .u64 ((v43.1.set.a : Nat) : Int), .int .u64 ((v43.1.set.b : Nat) : Int), .int .u64 ((v43.1.set.c : Nat) : Int), .int .u64 ((v43.1.set.d : Nat) : Int), .string (bs v43.1.out), .bool v43.1.copy] 56, Res.cells b165_2 #[.int .i64 v43.2.1.frm, .int .i64 v43.2.1.to, .int .u64 ((v43.2.1.set.a : Nat) : Int), .int .u64 ((v43.2.1.set.b : Nat) : Int), .int .u64 ((v43.2.1.set.c : Nat) : Int), .int .u64 ((v43.2.1.set.d : Nat) : Int), .string (bs v43.2.1.out), .bool v43.2.1.copy] 56, Res.cells b165_3 #[.int .i64 v43.2.2.p, .int .i64 v43.2.2.q, .string (bs v43.2.2.a), .string (bs v43.2.2.b)] 75]
     refine jmp_split hh ?_ ?_ <;> clear hh
     ·intro hh
      refine B.n (B.n (S.n (TC.region (TL.w z (OpVal.succ z z z (by omega)) (TL.i z z (TL.en ?_))))))
      obtain ⟨hh, hlt184⟩ := nxt_x hR3 hh
      exact lf (((k156 + 1), s175), (ry176, τ178)) hlt184 ⟨hh, hy177, (hle161.trans hle179)⟩ (Sub.f [5, 5, 5, 5, 5, 5] 6)
     ·intro m_ c_ hh hc_
      refine jl_split hh hc_ ?_ ?_ <;> clear hh hc_
      ·intro hh
       refine TC.ofSub (Sub.f [4, 5] 3) (TC.ret (B.r (B.r (S.r (S.r ?_)))))
       replace hh := fin_x hR3 hh
       refine B.r (B.r (S.r (S.r ?_)))
       replace hh := fin_x hR2 hh
       refine B.r (B.r (S.r (S.r ?_)))
       replace hh := fin_x hR1 hh
       refine B.r ?_
       obtain rfl := so hh
       refine ⟨_, Sub.f [2, 2, 2] 3, ?_⟩
       exact ro [ry176, Res.cells b1_0 #[.slice a1_1 x1.length c1_2] Eb1, Res.cells b2_0 #[loc b2_1 0] Eb2] z RVs.nil ⟨_, _, z, hy177, z⟩
      ·intro m_ hh hc_
       exact jl_nil hc_
   ·refine TC.exit (S.x (S.x ?_))
    replace hh := fin_x hR3 hh
    refine TC.exitHere (B.n (S.n (TC.region (TL.w z (OpVal.succ z z z (by omega)) (TL.i z z (TL.en ?_))))))
    obtain ⟨hh, hlt185⟩ := nxt_x hR2 hh
    exact lf (((k137 + 1), s157), (ry158, τ160)) hlt185 ⟨hh, hy159, (hle142.trans hle161)⟩ (Sub.f [5, 5, 4, 4, 4] 5)
  ·refine TC.exit (S.x (S.x ?_))
   replace hh := fin_x hR2 hh
   refine TC.exitHere (B.n (S.n (TC.region (TL.w z (OpVal.succ z z z (by omega)) (TL.i z z (TL.en ?_))))))
   obtain ⟨hh, hlt186⟩ := nxt_x hR1 hh
   exact lf (((k118 + 1), s138), (ry139, τ141)) hlt186 ⟨hh, hy140, (hle123.trans hle142)⟩ (Sub.f [4, 4, 3, 3] 4)
 ·refine TC.exit (S.x (S.x ?_))
  replace hh := fin_x hR1 hh
  refine TC.exitHere ?_
  obtain rfl := so hh
  refine ⟨_, Sub.f [2, 3] 3, ?_⟩
  exact RetOk.mk' (rs := []) [ry120, Res.cells b1_0 #[.slice a1_1 x1.length c1_2] Eb1, Res.cells b2_0 #[loc b2_1 0] Eb2] z (.inr z) RVs.nil (List.sublist_append_left _ _) ⟨_, _, z, hy121, z⟩

noncomputable def twin_walk_next (x0 : Walk) (x1 : List TLag) : Option (((List TLag) × Walk)) :=
 some (x1, (⟨(⟨x0.t.states, x0.t.starts, x0.t.ends, x0.t.arcs⟩ : Fst), x0.arcs, x0.most⟩ : Walk))
theorem twin_walk_next_con {σ : Store} {x0 : Walk} {b0_1 : Nat} {Eb0_2 : Nat} {a0_4 : Option Addr} {c0_5 : Nat} {a0_7 : Option Addr} {c0_8 : Nat} {a0_10 : Option Addr} {c0_11 : Nat} {a0_13 : Option Addr} {c0_14 : Nat} {m0_16 : Option Nat} {x1 : List TLag} {a1_0 : Option Addr} {c1_0 : Nat} (h0_3 : SC σ b0_1 #[.int .i64 x0.t.states, .slice a0_4 x0.t.starts.length c0_5, .slice a0_7 x0.t.ends.length c0_8, .slice a0_10 x0.t.arcs.length c0_11, .slice a0_13 x0.arcs.length c0_14, .int .i64 x0.most, .map m0_16] Eb0_2) (f0_6 : RS σ 2 encTip (.slice a0_4 x0.t.starts.length c0_5) x0.t.starts) (f0_9 : RS σ 2 encTip (.slice a0_7 x0.t.ends.length c0_8) x0.t.ends) (f0_12 : RS σ 8 encArc (.slice a0_10 x0.t.arcs.length c0_11) x0.t.arcs) (f0_15 : RZ σ (pkSl 8 encArc encArc_len) (.slice a0_13 x0.arcs.length c0_14) x0.arcs) (f1_0 : RS σ 4 encLag (.slice a1_0 x1.length c1_0) x1) {r : ((List TLag) × Walk)} (hh : twin_walk_next x0 x1 = some r) :
  Con Try.prog 19 #[loc b0_1 0, .slice a1_0 x1.length c1_0] σ [] (fun v σ' H' => ∃ (br4 : Nat), ∃ (ar1 : Option Addr), ∃ (cr2 : Nat), ∃ (br21 : Nat), ∃ (br5 : Nat), ∃ (Ebr6 : Nat), ∃ (ar8 : Option Addr), ∃ (cr9 : Nat), ∃ (ar11 : Option Addr), ∃ (cr12 : Nat), ∃ (ar14 : Option Addr), ∃ (cr15 : Nat), ∃ (ar17 : Option Addr), ∃ (cr18 : Nat), ∃ (mr20 : Option Nat), v = .func (.func 30) #[] #[loc br4 0, loc br21 0] ∧ RS σ' 4 encLag (.slice ar1 r.1.length cr2) r.1 ∧ SC σ' br5 #[.int .i64 r.2.t.states, .slice ar8 r.2.t.starts.length cr9, .slice ar11 r.2.t.ends.length cr12, .slice ar14 r.2.t.arcs.length cr15, .slice ar17 r.2.arcs.length cr18, .int .i64 r.2.most, .map mr20] Ebr6 ∧ RS σ' 2 encTip (.slice ar8 r.2.t.starts.length cr9) r.2.t.starts ∧ RS σ' 2 encTip (.slice ar11 r.2.t.ends.length cr12) r.2.t.ends ∧ RS σ' 8 encArc (.slice ar14 r.2.t.arcs.length cr15) r.2.t.arcs ∧ RZ σ' (pkSl 8 encArc encArc_len) (.slice ar17 r.2.arcs.length cr18) r.2.arcs ∧ H' = [Res.cells br4 #[.slice ar1 r.1.length cr2] 57, Res.cells br21 #[loc br5 0] 46]) := by
 dsimp only [twin_walk_next] at hh
 skip
 have f0_6b := f0_6.rv.big
 have f0_9b := f0_9.rv.big
 have f0_12b := f0_12.rv.big
 have f0_15b := f0_15.big
 have f1_0b := f1_0.rv.big
 refine Con.mk (n := 6) Try.func19 z z z (fun w0 => ?_)
 refine TC.a (TL.op z (OpOk.box z z z z (fun b112 => ?_)))
 refine TL.op z (OpOk.box z z z z (fun b114 => ?_))
 refine TL.w z (OpVal.mv (.inr z)) (TL.en (TC.a (TL.w z (makeFn z) (TL.w z (moveFn (.inr z) z) (TL.en (TC.ret ?_))))))
 obtain rfl := so hh
 exact ro [Res.cells b114 #[.slice a1_0 x1.length c1_0] 57, Res.cells b112 #[loc b0_1 0] 46] z (RVs.tmp z RVs.nil) ⟨b114, a1_0, c1_0, b112, b0_1, Eb0_2, a0_4, c0_5, a0_7, c0_8, a0_10, c0_11, a0_13, c0_14, m0_16, z, f1_0, h0_3, f0_6, f0_9, f0_12, f0_15, z⟩

noncomputable def takeFirst_r2 (x0 : Walk) (m134 : FM TLag Unit) (l136 : List TLag) (t139 : Bool) (t140 : Bool) (y2_0 : TLag) : Option (Nat × ((FM TLag Unit) × (List TLag) × Bool × Bool)) :=
 iteO (decide (x0.most < ((y2_0.a.length : Nat) : Int))) (some (1, (m134, ([] : List TLag), true, false))) (iteO (decide (x0.most < ((y2_0.b.length : Nat) : Int))) (some (1, (m134, ([] : List TLag), true, false))) (iteO (m134.has y2_0) (some (0, (m134, l136, t139, t140))) (iteO (decide (2048 ≤ ((m134.n : Nat) : Int))) (some (0, (m134, l136, t139, true))) (grd ((l136.length + [y2_0].length) * 48 ≤ 140737488355328) (some (0, ((m134.put y2_0 ()), (l136 ++ [y2_0]), t139, t140)))))))
noncomputable def takeFirst_k2 (jz : Nat) (m134 : FM TLag Unit) (l136 : List TLag) (t139 : Bool) (t140 : Bool) : Option ((List TLag) × Bool × Bool × (FM TLag Unit)) :=
 jsel jz (some (l136, false, t140, m134)) (fun j_ => jsel j_ (some (l136, t139, t140, m134)) (fun _ => none))
noncomputable def takeFirst (x0 : Walk) (x0m : FM TLag Unit) (x1_0 : Walk) : Option ((List TLag) × Bool × Bool × (FM TLag Unit)) :=
 bnd (twin_walk_first_1 (stepY (fun (q : (FM TLag Unit) × (List TLag) × Bool × Bool) (x : TLag) => takeFirst_r2 x0 q.1 q.2.1 q.2.2.1 q.2.2.2 x)) (0, (x0m, ([] : List TLag), false, false)) (⟨(⟨x1_0.t.states, x1_0.t.starts, x1_0.t.ends, x1_0.t.arcs⟩ : Fst), x1_0.arcs, x1_0.most⟩ : Walk)) (fun zr2 => takeFirst_k2 zr2.1 zr2.2.1 zr2.2.2.1 zr2.2.2.2.1 zr2.2.2.2.2)
theorem takeFirst_con {σ : Store} {x0 : Walk} {b0_1 : Nat} {Eb0_2 : Nat} {a0_4 : Option Addr} {c0_5 : Nat} {a0_7 : Option Addr} {c0_8 : Nat} {a0_10 : Option Addr} {c0_11 : Nat} {a0_13 : Option Addr} {c0_14 : Nat} {b0_16 : Nat} {x0m : FM TLag Unit} {x1_0 : Walk} {b1_0_0 : Nat} {Eb1_0 : Nat} {b1_0_1 : Nat} {Eb1_0_2 : Nat} {a1_0_4 : Option Addr} {c1_0_5 : Nat} {a1_0_7 : Option Addr} {c1_0_8 : Nat} {a1_0_10 : Option Addr} {c1_0_11 : Nat} {a1_0_13 : Option Addr} {c1_0_14 : Nat} {m1_0_16 : Option Nat} (h0_3 : SC σ b0_1 #[.int .i64 x0.t.states, .slice a0_4 x0.t.starts.length c0_5, .slice a0_7 x0.t.ends.length c0_8, .slice a0_10 x0.t.arcs.length c0_11, .slice a0_13 x0.arcs.length c0_14, .int .i64 x0.most, .map (some b0_16)] Eb0_2) (f0_6 : RS σ 2 encTip (.slice a0_4 x0.t.starts.length c0_5) x0.t.starts) (f0_9 : RS σ 2 encTip (.slice a0_7 x0.t.ends.length c0_8) x0.t.ends) (f0_12 : RS σ 8 encArc (.slice a0_10 x0.t.arcs.length c0_11) x0.t.arcs) (f0_15 : RZ σ (pkSl 8 encArc encArc_len) (.slice a0_13 x0.arcs.length c0_14) x0.arcs) (h1_0_3 : SC σ b1_0_1 #[.int .i64 x1_0.t.states, .slice a1_0_4 x1_0.t.starts.length c1_0_5, .slice a1_0_7 x1_0.t.ends.length c1_0_8, .slice a1_0_10 x1_0.t.arcs.length c1_0_11, .slice a1_0_13 x1_0.arcs.length c1_0_14, .int .i64 x1_0.most, .map m1_0_16] Eb1_0_2) (f1_0_6 : RS σ 2 encTip (.slice a1_0_4 x1_0.t.starts.length c1_0_5) x1_0.t.starts) (f1_0_9 : RS σ 2 encTip (.slice a1_0_7 x1_0.t.ends.length c1_0_8) x1_0.t.ends) (f1_0_12 : RS σ 8 encArc (.slice a1_0_10 x1_0.t.arcs.length c1_0_11) x1_0.t.arcs) (f1_0_15 : RZ σ (pkSl 8 encArc encArc_len) (.slice a1_0_13 x1_0.arcs.length c1_0_14) x1_0.arcs) {r : (List TLag) × Bool × Bool × (FM TLag Unit)} (hh : takeFirst x0 x0m x1_0 = some r) :
  Con Try.prog 17 #[loc b0_1 0, .func (.func 28) #[] #[loc b1_0_0 0]] σ [Res.mapB (fun x => Value.agg (encLag x).toArray) unitV (some b0_16) x0m, Res.cells b1_0_0 #[loc b1_0_1 0] Eb1_0] (fun v σ' H' => ∃ (a1 : Option Addr), ∃ (c1 : Nat), v = .tuple #[.slice a1 r.1.length c1, .bool r.2.1, .bool r.2.2.1] ∧ σ = σ' ∧ H' = [Res.rowS 75 4 encLag (.slice a1 r.1.length c1) r.1, Res.mapB (fun x => Value.agg (encLag x).toArray) unitV (some b0_16) r.2.2.2, Res.cells b1_0_0 #[loc b1_0_1 0] Eb1_0]) := by
 dsimp only [takeFirst] at hh
 skip
 have f0_6b := f0_6.rv.big
 have f0_9b := f0_9.rv.big
 have f0_12b := f0_12.rv.big
 have f0_15b := f0_15.big
 skip
 have f1_0_6b := f1_0_6.rv.big
 have f1_0_9b := f1_0_9.rv.big
 have f1_0_12b := f1_0_12.rv.big
 have f1_0_15b := f1_0_15.big
 refine Con.mk (n := 58) Try.func17 z z z (fun w0 => ?_)
 refine TC.a (TL.op z (OpOk.box z z z z (fun b112 => ?_)))
 refine TL.op z (OpOk.alloc z ze57 z z (fun b114 => ?_))
 refine TL.op z (OpOk.alloc z ze4 z z (fun b116 => ?_))
 refine TL.op z (OpOk.alloc z ze4 z z (fun b118 => ?_))
 refine TL.en (TC.seq (TC.a (TL.w z (moveFn (.inl z) z) (TL.en (TC.block (TC.nilS 75 4 encLag (TC.ofSub (Sub.f [6, 2, 3, 3, 4, 6, 6] 7) ?_)))))))
 obtain ⟨zr2, hz2, hh⟩ := bnd_e hh
 obtain ⟨jz2, ⟨m134, l136, t139, t140⟩⟩ := zr2
 dsimp only at hh
 refine TC.rangeG (A := (fun (x : TLag) _ vs => vs = [.agg #[.int .i64 x.p, .int .i64 x.q, .string (bs x.a), .string (bs x.b)]])) [.ret] (fun (q : (FM TLag Unit) × (List TLag) × Bool × Bool) (x : TLag) => takeFirst_r2 x0 q.1 q.2.1 q.2.2.1 q.2.2.2 x) (fun (q : (FM TLag Unit) × (List TLag) × Bool × Bool) (τ142 : Store) Hs => ∃ (a137 : Option Addr), ∃ (c138 : Nat), Hs = [Res.cells b112 #[loc b0_1 0] 46, Res.mapB (fun x => Value.agg (encLag x).toArray) unitV (some b0_16) q.1, Res.cells b114 #[.slice a137 q.2.1.length c138] 57, Res.rowS 75 4 encLag (.slice a137 q.2.1.length c138) q.2.1, Res.cells b116 #[.bool q.2.2.1] 4, Res.cells b118 #[.bool q.2.2.2] 4]) (s := (x0m, ([] : List TLag), false, false)) rfl pf28 rfl rfl (by rintro _ _ _ _ ⟨a137, c138, rfl⟩ hle_; exact ⟨a137, c138, rfl⟩) ⟨none, 0, rfl⟩ (fun _ _ _ h_ => by subst h_; rfl) (twin_walk_first_1_con h1_0_3 f1_0_6 f1_0_9 f1_0_12 f1_0_15 hz2) ?_ ?_
 ·clear hh hz2
  rintro l_ _ _ _ τ142 ⟨m134, l136, t139, t140⟩ y2_0 z2 _ _ hh hle143 rfl ⟨a137, c138, rfl⟩
  dsimp only [takeFirst_r2] at hh
  replace h0_3 := h0_3.mono hle143
  show TC _ _ _ (upds _ [(11, .agg #[.int .i64 y2_0.p, .int .i64 y2_0.q, .string (bs y2_0.a), .string (bs y2_0.b)])]) τ142 [Res.cells b112 #[loc b0_1 0] 46, Res.mapB (fun x => Value.agg (encLag x).toArray) unitV (some b0_16) m134, Res.cells b114 #[.slice a137 l136.length c138] 57, Res.rowS 75 4 encLag (.slice a137 l136.length c138) l136, Res.cells b116 #[.bool t139] 4, Res.cells b118 #[.bool t140] 4]
  refine TC.isSl (i := 3) z (fun _ hb144 _ => ?_)
  refine TC.region (TL.op z (OpOk.alloc z ze75 z z (fun b145 => ?_)))
  refine TL.op z (storeAll z sz75 z z z z z z ?_)
  refine TL.nil (asg_n (fun _ _ _ => ?_))
  refine TC.block (TC.seq (TC.seq (TC.draw [] (by kernel_rfl) (TA.a 0 z (fieldLoc z fo75_2 z) z (TA.b 1 z (loadLoc z ag9 z (i := 0) z z) z (TA.b 2 z (lenBs z underlying9 z) z (TA.b 3 z (loadLoc z ag46 z (i := 1) z z) z (TA.a 4 z (nilCheckLoc z z) z (TA.a 5 z (fieldLoc z fo51_2 z) z (TA.b 6 z (OpVal.seen (SC.sees h0_3) (loadLoc z ag3 z (i := 0) z z)) z (TA.a 7 z (OpVal.gtr z z z) z (TA.a 8 z (moveB (.inl z) z) z (TA.split 20 z (fun h147 => ?_) (fun h147 => ?_))))))))))))))
  ·replace hh := iteO_t h147 hh
   replace h147 := of_decide_eq_true h147
   refine TA.off 9 z z z z z z (TA.off 10 z z z z z z (TA.off 11 z z z z z z (TA.off 12 z z z z z z (TA.off 13 z z z z z z (TA.off 14 z z z z z z (TA.off 15 z z z z z z (TA.off 16 z z z z z z (TA.a 17 z (pickTB z z z) z (TA.dn (S.n (TC.t z (TC.a (TL.front 3 z z (TL.op z (storeSl z sz57 z z z z z ?_)))))))))))))))
   refine TL.front 5 z z (TL.op z (storeB z sz4 z z z z z ?_))
   refine TL.front 6 z z (TL.op z (storeB z sz4 z z z z z ?_))
   refine TL.en (TC.nilS 75 4 encLag (TC.ret (S.r (B.r ?_))))
   obtain rfl := so hh
   exact rnd_r 0 z ⟨z, _, Sub.f [1, 2, 2, 3, 6, 6] 6, ⟨none, 0, z⟩⟩
  ·replace hh := iteO_f h147 hh
   replace h147 := of_decide_eq_false h147
   refine TA.on 9 z z z z (fieldLoc z fo75_3 z) z (TA.on 10 z z z z (loadLoc z ag9 z (i := 0) z z) z (TA.on 11 z z z z (lenBs z underlying9 z) z (TA.on 12 z z z z (loadLoc z ag46 z (i := 1) z z) z (TA.on 13 z z z z (nilCheckLoc z z) z (TA.on 14 z z z z (fieldLoc z fo51_2 z) z (TA.on 15 z z z z (OpVal.seen (SC.sees h0_3) (loadLoc z ag3 z (i := 0) z z)) z (TA.on 16 z z z z (OpVal.gtr z z z) z (TA.a 17 z (pickFB z z z) z (TA.dn (S.n (TC.cD z hh (fun h149 hh => ?_) (fun h149 hh => ?_))))))))))))
   ·refine TC.a (TL.front 3 z z (TL.op z (storeSl z sz57 z z z z z ?_)))
    refine TL.front 5 z z (TL.op z (storeB z sz4 z z z z z ?_))
    refine TL.front 6 z z (TL.op z (storeB z sz4 z z z z z ?_))
    refine TL.en (TC.nilS 75 4 encLag (TC.ret (S.r (B.r ?_))))
    obtain rfl := so hh
    exact rnd_r 0 z ⟨z, _, Sub.f [1, 2, 2, 3, 6, 6] 6, ⟨none, 0, z⟩⟩
   ·refine TC.skip (S.n (TC.seq (TC.seq (TC.draw [8, 10, 11] (by kernel_rfl) (TA.b 0 z (loadLoc z ag46 z (i := 1) z z) z (TA.a 1 z (nilCheckLoc z z) z (TA.a 2 z (fieldLoc z fo51_3 z) z (TA.b 3 z (OpVal.seen (SC.sees h0_3) (loadLoc z ag49 z (i := 0) z z)) z (TA.b 4 z (loadAll z ag75 sz75 z (i := 0) z z) z (TA.b 5 z (OpVal.of (lookB () (q := y2_0) z underlying49 ze76 z (i := 2) z z kl75) (v' := .tuple #[.agg #[], .bool (m134.has y2_0)]) z) z (TA.a 6 z (moveT (.inl z) z) z (TA.a 7 z (OpVal.extract z z z) z (TA.a 8 z (OpVal.extract z z z) z (TA.ac 9 z (OpOk.alloc z ze76 z z (fun b153 => (k1 ?_)))))))))))))))))
    refine TA.last 10 (by kernel_rfl) z z z (storeAll z sz76 z z z z z z ?_)
    refine TZ.v 11 (by kernel_rfl) z z z (moveB (.inr z) z) z z (TZ.done (by kernel_rfl) (S.n (TC.a (TL.j z z (TL.en (TC.cB z hh (fun h155 hh => ?_) (fun h155 hh => ?_)))))))
    ·refine TC.exit (S.x (TC.exitHere ?_))
     obtain rfl := so hh
     exact rnd_n ⟨z, _, Sub.f [7, 7, 7, 7, 7, 7] 6, ⟨a137, c138, z⟩⟩
    ·refine TC.skip (S.n (TC.seq (TC.a (TL.w z (loadLoc z ag46 z (i := 2) z z) (TL.w z (nilCheckLoc z z) (TL.w z (fieldLoc z fo51_3 z) (TL.w z (OpVal.seen (SC.sees h0_3) (loadLoc z ag49 z (i := 0) z z)) (TL.w z (lenB z underlying49 z (i := 3) z) (TL.w z (OpVal.geq z z z) (TL.en (TC.cD z hh (fun h156 hh => ?_) (fun h156 hh => ?_))))))))))))
     ·refine TC.a (TL.front 7 z z (TL.op z (storeB z sz4 z z z z z ?_)))
      refine TL.en (TC.exit (S.x (TC.exitHere ?_)))
      obtain rfl := so hh
      exact rnd_n ⟨z, _, Sub.f [7, 7, 7, 7, 7] 6, ⟨a137, c138, z⟩⟩
     ·refine TC.skip (S.n (TC.seq (TC.draw [6] (by kernel_rfl) (TA.b 0 z (loadLoc z ag46 z (i := 2) z z) z (TA.a 1 z (nilCheckLoc z z) z (TA.a 2 z (fieldLoc z fo51_3 z) z (TA.b 3 z (OpVal.seen (SC.sees h0_3) (loadLoc z ag49 z (i := 0) z z)) z (TA.b 4 z (loadAll z ag75 sz75 z (i := 1) z z) z (TA.a 5 z (buildL z pl76 ze76 z) z (TA.front 3 z z (TA.last 6 (by kernel_rfl) z z z (updB y2_0 () z underlying49 z z z z kl75 ?_))))))))))))
      refine TZ.done (by kernel_rfl) (S.n (TC.region (TL.w z (loadLoc z ag57 z (i := 4) z z) (TL.w z (loadAll z ag75 sz75 z (i := 2) z z) (TL.op z (OpOk.lit (enc := encLag) [y2_0] z underlying57 sz75 ze75 z z z encLag_len (by decide) (by decide) TLag.zero z (by decide) z (by decide) encLag_one (fun a157 c158 => ?_)))))))
      refine TL.front 6 z z ?_
      have u59 := grd_c hh
      replace hh := grd_t hh
      refine TL.op z (appendS z z underlying57 sz75 by75 ze75 z z (by decide) z z z (.inr ⟨_, 0, z⟩) (by simpa using u59) (by decide) (fun a160 c161 => ?_))
      refine TL.front 6 z z (TL.op z (storeSl z sz57 z z z z z ?_))
      refine TL.nil (B.n ?_)
      obtain rfl := so hh
      exact rnd_n ⟨z, _, Sub.f [8, 8, 3, 3, 5, 8] 6, ⟨a160, c161, z⟩⟩
 ·rintro τ142 _ _ hle143 ⟨a137, c138, rfl⟩ ⟨rfl⟩
  dsimp only [takeFirst_k2] at hh
  show jmpQ _ _ _ _ _ τ142 [Res.cells b112 #[loc b0_1 0] 46, Res.mapB (fun x => Value.agg (encLag x).toArray) unitV (some b0_16) m134, Res.cells b114 #[.slice a137 l136.length c138] 57, Res.rowS 75 4 encLag (.slice a137 l136.length c138) l136, Res.cells b116 #[.bool t139] 4, Res.cells b118 #[.bool t140] 4, Res.cells b1_0_0 #[loc b1_0_1 0] Eb1_0]
  refine jmp_split hh ?_ ?_ <;> clear hh
  ·intro hh
   refine B.n (S.n (TC.seq (TC.drawR (Hr := [Res.cells b112 #[loc b0_1 0] 46, Res.mapB (fun x => Value.agg (encLag x).toArray) unitV (some b0_16) m134, Res.cells b114 #[.slice a137 l136.length c138] 57, Res.rowS 75 4 encLag (.slice a137 l136.length c138) l136, Res.cells b118 #[.bool t140] 4, Res.cells b1_0_0 #[loc b1_0_1 0] Eb1_0]) (fun r hr => mem_pick [0, 1, 2, 3, 5, 6] z hr) [] (by kernel_rfl) (TA.b 0 z (loadLoc z ag57 z (i := 2) z z) z (TA.b 1 z (loadLoc z ag4 z (i := 4) z z) z (TA.front 2 z z (TA.ac 2 z (storeSl z sz57 z z z z z ⟨(fun w h => sees_of (Store.le.refl _) (fun r hr => mem_pick [1, 2, 0, 3, 5, 6] z hr) w h), ?_⟩))))))))
   refine TA.front 4 z z (TA.ac 3 z (storeB z sz4 z z z z z ⟨(fun w h => sees_of (Store.le.refl _) (fun r hr => mem_pick [2, 3, 1, 4, 5, 6] z hr) w h), ?_⟩))
   refine TA.front 5 z z (TA.ac 4 z (storeB z sz4 z z z z z ⟨(fun w h => sees_of (Store.le.refl _) (fun r hr => mem_pick [3, 4, 2, 5, 0, 6] z hr) w h), ?_⟩))
   refine TA.dn (S.n (TC.ofSub (Sub.f [1, 2, 6, 5, 6] 6) (TC.back (TC.ret ?_))))
   obtain rfl := so hh
   exact ro [Res.rowS 75 4 encLag (.slice a137 l136.length c138) l136, Res.mapB (fun x => Value.agg (encLag x).toArray) unitV (some b0_16) m134, Res.cells b1_0_0 #[loc b1_0_1 0] Eb1_0] z (RVs.one ag57 z (i := 3) z z (RVs.one ag4 z (i := 4) z z (RVs.one ag4 z (i := 5) z z RVs.nil))) ⟨a137, c138, z, z, z⟩
  ·intro m_ c_ hh hc_
   refine jl_split hh hc_ ?_ ?_ <;> clear hh hc_
   ·intro hh
    refine TC.ofSub (Sub.f [5, 5, 4, 6, 5, 6] 6) (TC.back (TC.ret (B.r (S.r ?_))))
    obtain rfl := so hh
    exact ro [Res.rowS 75 4 encLag (.slice a137 l136.length c138) l136, Res.mapB (fun x => Value.agg (encLag x).toArray) unitV (some b0_16) m134, Res.cells b1_0_0 #[loc b1_0_1 0] Eb1_0] z (RVs.one ag57 z (i := 3) z z (RVs.one ag4 z (i := 4) z z (RVs.one ag4 z (i := 5) z z RVs.nil))) ⟨a137, c138, z, z, z⟩
   ·intro m_ hh hc_
    exact jl_nil hc_

noncomputable def takeNext_r2 (x0 : Walk) (m136 : FM TLag Unit) (l138 : List TLag) (t141 : Bool) (t142 : Bool) (y2_0 : TLag) : Option (Nat × ((FM TLag Unit) × (List TLag) × Bool × Bool)) :=
 iteO (decide (x0.most < ((y2_0.a.length : Nat) : Int))) (some (1, (m136, ([] : List TLag), true, false))) (iteO (decide (x0.most < ((y2_0.b.length : Nat) : Int))) (some (1, (m136, ([] : List TLag), true, false))) (iteO (m136.has y2_0) (some (0, (m136, l138, t141, t142))) (iteO (decide (2048 ≤ ((m136.n : Nat) : Int))) (some (0, (m136, l138, t141, true))) (grd ((l138.length + [y2_0].length) * 48 ≤ 140737488355328) (some (0, ((m136.put y2_0 ()), (l138 ++ [y2_0]), t141, t142)))))))
noncomputable def takeNext_k2 (jz : Nat) (m136 : FM TLag Unit) (l138 : List TLag) (t141 : Bool) (t142 : Bool) : Option ((List TLag) × Bool × Bool × (FM TLag Unit)) :=
 jsel jz (some (l138, false, t142, m136)) (fun j_ => jsel j_ (some (l138, t141, t142, m136)) (fun _ => none))
noncomputable def takeNext (x0 : Walk) (x0m : FM TLag Unit) (x1_0 : List TLag) (x1_1 : Walk) : Option ((List TLag) × Bool × Bool × (FM TLag Unit)) :=
 bnd (twin_walk_next_1 (stepY (fun (q : (FM TLag Unit) × (List TLag) × Bool × Bool) (x : TLag) => takeNext_r2 x0 q.1 q.2.1 q.2.2.1 q.2.2.2 x)) (0, (x0m, ([] : List TLag), false, false)) x1_0 (⟨(⟨x1_1.t.states, x1_1.t.starts, x1_1.t.ends, x1_1.t.arcs⟩ : Fst), x1_1.arcs, x1_1.most⟩ : Walk)) (fun zr2 => takeNext_k2 zr2.1 zr2.2.1 zr2.2.2.1 zr2.2.2.2.1 zr2.2.2.2.2)
theorem takeNext_con {σ : Store} {x0 : Walk} {b0_1 : Nat} {Eb0_2 : Nat} {a0_4 : Option Addr} {c0_5 : Nat} {a0_7 : Option Addr} {c0_8 : Nat} {a0_10 : Option Addr} {c0_11 : Nat} {a0_13 : Option Addr} {c0_14 : Nat} {b0_16 : Nat} {x0m : FM TLag Unit} {x1_0 : List TLag} {b1_0_0 : Nat} {Eb1_0 : Nat} {a1_0_1 : Option Addr} {c1_0_2 : Nat} {x1_1 : Walk} {b1_1_0 : Nat} {Eb1_1 : Nat} {b1_1_1 : Nat} {Eb1_1_2 : Nat} {a1_1_4 : Option Addr} {c1_1_5 : Nat} {a1_1_7 : Option Addr} {c1_1_8 : Nat} {a1_1_10 : Option Addr} {c1_1_11 : Nat} {a1_1_13 : Option Addr} {c1_1_14 : Nat} {m1_1_16 : Option Nat} (h0_3 : SC σ b0_1 #[.int .i64 x0.t.states, .slice a0_4 x0.t.starts.length c0_5, .slice a0_7 x0.t.ends.length c0_8, .slice a0_10 x0.t.arcs.length c0_11, .slice a0_13 x0.arcs.length c0_14, .int .i64 x0.most, .map (some b0_16)] Eb0_2) (f0_6 : RS σ 2 encTip (.slice a0_4 x0.t.starts.length c0_5) x0.t.starts) (f0_9 : RS σ 2 encTip (.slice a0_7 x0.t.ends.length c0_8) x0.t.ends) (f0_12 : RS σ 8 encArc (.slice a0_10 x0.t.arcs.length c0_11) x0.t.arcs) (f0_15 : RZ σ (pkSl 8 encArc encArc_len) (.slice a0_13 x0.arcs.length c0_14) x0.arcs) (f1_0_3 : RS σ 4 encLag (.slice a1_0_1 x1_0.length c1_0_2) x1_0) (h1_1_3 : SC σ b1_1_1 #[.int .i64 x1_1.t.states, .slice a1_1_4 x1_1.t.starts.length c1_1_5, .slice a1_1_7 x1_1.t.ends.length c1_1_8, .slice a1_1_10 x1_1.t.arcs.length c1_1_11, .slice a1_1_13 x1_1.arcs.length c1_1_14, .int .i64 x1_1.most, .map m1_1_16] Eb1_1_2) (f1_1_6 : RS σ 2 encTip (.slice a1_1_4 x1_1.t.starts.length c1_1_5) x1_1.t.starts) (f1_1_9 : RS σ 2 encTip (.slice a1_1_7 x1_1.t.ends.length c1_1_8) x1_1.t.ends) (f1_1_12 : RS σ 8 encArc (.slice a1_1_10 x1_1.t.arcs.length c1_1_11) x1_1.t.arcs) (f1_1_15 : RZ σ (pkSl 8 encArc encArc_len) (.slice a1_1_13 x1_1.arcs.length c1_1_14) x1_1.arcs) {r : (List TLag) × Bool × Bool × (FM TLag Unit)} (hh : takeNext x0 x0m x1_0 x1_1 = some r) :
  Con Try.prog 17 #[loc b0_1 0, .func (.func 30) #[] #[loc b1_0_0 0, loc b1_1_0 0]] σ [Res.mapB (fun x => Value.agg (encLag x).toArray) unitV (some b0_16) x0m, Res.cells b1_0_0 #[.slice a1_0_1 x1_0.length c1_0_2] Eb1_0, Res.cells b1_1_0 #[loc b1_1_1 0] Eb1_1] (fun v σ' H' => ∃ (a1 : Option Addr), ∃ (c1 : Nat), v = .tuple #[.slice a1 r.1.length c1, .bool r.2.1, .bool r.2.2.1] ∧ σ = σ' ∧ H' = [Res.rowS 75 4 encLag (.slice a1 r.1.length c1) r.1, Res.mapB (fun x => Value.agg (encLag x).toArray) unitV (some b0_16) r.2.2.2, Res.cells b1_0_0 #[.slice a1_0_1 x1_0.length c1_0_2] Eb1_0, Res.cells b1_1_0 #[loc b1_1_1 0] Eb1_1]) := by
 dsimp only [takeNext] at hh
 skip
 have f0_6b := f0_6.rv.big
 have f0_9b := f0_9.rv.big
 have f0_12b := f0_12.rv.big
 have f0_15b := f0_15.big
 have f1_0_3b := f1_0_3.rv.big
 skip
 have f1_1_6b := f1_1_6.rv.big
 have f1_1_9b := f1_1_9.rv.big
 have f1_1_12b := f1_1_12.rv.big
 have f1_1_15b := f1_1_15.big
 refine Con.mk (n := 58) Try.func17 z z z (fun w0 => ?_)
 refine TC.a (TL.op z (OpOk.box z z z z (fun b114 => ?_)))
 refine TL.op z (OpOk.alloc z ze57 z z (fun b116 => ?_))
 refine TL.op z (OpOk.alloc z ze4 z z (fun b118 => ?_))
 refine TL.op z (OpOk.alloc z ze4 z z (fun b120 => ?_))
 refine TL.en (TC.seq (TC.a (TL.w z (moveFn (.inl z) z) (TL.en (TC.block (TC.nilS 75 4 encLag (TC.ofSub (Sub.f [7, 7, 3, 4, 4, 5, 7, 7] 8) ?_)))))))
 obtain ⟨zr2, hz2, hh⟩ := bnd_e hh
 obtain ⟨jz2, ⟨m136, l138, t141, t142⟩⟩ := zr2
 dsimp only at hh
 refine TC.rangeG (A := (fun (x : TLag) _ vs => vs = [.agg #[.int .i64 x.p, .int .i64 x.q, .string (bs x.a), .string (bs x.b)]])) [.ret] (fun (q : (FM TLag Unit) × (List TLag) × Bool × Bool) (x : TLag) => takeNext_r2 x0 q.1 q.2.1 q.2.2.1 q.2.2.2 x) (fun (q : (FM TLag Unit) × (List TLag) × Bool × Bool) (τ144 : Store) Hs => ∃ (a139 : Option Addr), ∃ (c140 : Nat), Hs = [Res.cells b114 #[loc b0_1 0] 46, Res.mapB (fun x => Value.agg (encLag x).toArray) unitV (some b0_16) q.1, Res.cells b116 #[.slice a139 q.2.1.length c140] 57, Res.rowS 75 4 encLag (.slice a139 q.2.1.length c140) q.2.1, Res.cells b118 #[.bool q.2.2.1] 4, Res.cells b120 #[.bool q.2.2.2] 4]) (s := (x0m, ([] : List TLag), false, false)) rfl pf30 rfl rfl (by rintro _ _ _ _ ⟨a139, c140, rfl⟩ hle_; exact ⟨a139, c140, rfl⟩) ⟨none, 0, rfl⟩ (fun _ _ _ h_ => by subst h_; rfl) (twin_walk_next_1_con f1_0_3 h1_1_3 f1_1_6 f1_1_9 f1_1_12 f1_1_15 hz2) ?_ ?_
 ·clear hh hz2
  rintro l_ _ _ _ τ144 ⟨m136, l138, t141, t142⟩ y2_0 z2 _ _ hh hle145 rfl ⟨a139, c140, rfl⟩
  dsimp only [takeNext_r2] at hh
  replace h0_3 := h0_3.mono hle145
  show TC _ _ _ (upds _ [(11, .agg #[.int .i64 y2_0.p, .int .i64 y2_0.q, .string (bs y2_0.a), .string (bs y2_0.b)])]) τ144 [Res.cells b114 #[loc b0_1 0] 46, Res.mapB (fun x => Value.agg (encLag x).toArray) unitV (some b0_16) m136, Res.cells b116 #[.slice a139 l138.length c140] 57, Res.rowS 75 4 encLag (.slice a139 l138.length c140) l138, Res.cells b118 #[.bool t141] 4, Res.cells b120 #[.bool t142] 4]
  refine TC.isSl (i := 3) z (fun _ hb146 _ => ?_)
  refine TC.region (TL.op z (OpOk.alloc z ze75 z z (fun b147 => ?_)))
  refine TL.op z (storeAll z sz75 z z z z z z ?_)
  refine TL.nil (asg_n (fun _ _ _ => ?_))
  refine TC.block (TC.seq (TC.seq (TC.draw [] (by kernel_rfl) (TA.a 0 z (fieldLoc z fo75_2 z) z (TA.b 1 z (loadLoc z ag9 z (i := 0) z z) z (TA.b 2 z (lenBs z underlying9 z) z (TA.b 3 z (loadLoc z ag46 z (i := 1) z z) z (TA.a 4 z (nilCheckLoc z z) z (TA.a 5 z (fieldLoc z fo51_2 z) z (TA.b 6 z (OpVal.seen (SC.sees h0_3) (loadLoc z ag3 z (i := 0) z z)) z (TA.a 7 z (OpVal.gtr z z z) z (TA.a 8 z (moveB (.inl z) z) z (TA.split 20 z (fun h149 => ?_) (fun h149 => ?_))))))))))))))
  ·replace hh := iteO_t h149 hh
   replace h149 := of_decide_eq_true h149
   refine TA.off 9 z z z z z z (TA.off 10 z z z z z z (TA.off 11 z z z z z z (TA.off 12 z z z z z z (TA.off 13 z z z z z z (TA.off 14 z z z z z z (TA.off 15 z z z z z z (TA.off 16 z z z z z z (TA.a 17 z (pickTB z z z) z (TA.dn (S.n (TC.t z (TC.a (TL.front 3 z z (TL.op z (storeSl z sz57 z z z z z ?_)))))))))))))))
   refine TL.front 5 z z (TL.op z (storeB z sz4 z z z z z ?_))
   refine TL.front 6 z z (TL.op z (storeB z sz4 z z z z z ?_))
   refine TL.en (TC.nilS 75 4 encLag (TC.ret (S.r (B.r ?_))))
   obtain rfl := so hh
   exact rnd_r 0 z ⟨z, _, Sub.f [1, 2, 2, 3, 6, 6] 6, ⟨none, 0, z⟩⟩
  ·replace hh := iteO_f h149 hh
   replace h149 := of_decide_eq_false h149
   refine TA.on 9 z z z z (fieldLoc z fo75_3 z) z (TA.on 10 z z z z (loadLoc z ag9 z (i := 0) z z) z (TA.on 11 z z z z (lenBs z underlying9 z) z (TA.on 12 z z z z (loadLoc z ag46 z (i := 1) z z) z (TA.on 13 z z z z (nilCheckLoc z z) z (TA.on 14 z z z z (fieldLoc z fo51_2 z) z (TA.on 15 z z z z (OpVal.seen (SC.sees h0_3) (loadLoc z ag3 z (i := 0) z z)) z (TA.on 16 z z z z (OpVal.gtr z z z) z (TA.a 17 z (pickFB z z z) z (TA.dn (S.n (TC.cD z hh (fun h151 hh => ?_) (fun h151 hh => ?_))))))))))))
   ·refine TC.a (TL.front 3 z z (TL.op z (storeSl z sz57 z z z z z ?_)))
    refine TL.front 5 z z (TL.op z (storeB z sz4 z z z z z ?_))
    refine TL.front 6 z z (TL.op z (storeB z sz4 z z z z z ?_))
    refine TL.en (TC.nilS 75 4 encLag (TC.ret (S.r (B.r ?_))))
    obtain rfl := so hh
    exact rnd_r 0 z ⟨z, _, Sub.f [1, 2, 2, 3, 6, 6] 6, ⟨none, 0, z⟩⟩
   ·refine TC.skip (S.n (TC.seq (TC.seq (TC.draw [8, 10, 11] (by kernel_rfl) (TA.b 0 z (loadLoc z ag46 z (i := 1) z z) z (TA.a 1 z (nilCheckLoc z z) z (TA.a 2 z (fieldLoc z fo51_3 z) z (TA.b 3 z (OpVal.seen (SC.sees h0_3) (loadLoc z ag49 z (i := 0) z z)) z (TA.b 4 z (loadAll z ag75 sz75 z (i := 0) z z) z (TA.b 5 z (OpVal.of (lookB () (q := y2_0) z underlying49 ze76 z (i := 2) z z kl75) (v' := .tuple #[.agg #[], .bool (m136.has y2_0)]) z) z (TA.a 6 z (moveT (.inl z) z) z (TA.a 7 z (OpVal.extract z z z) z (TA.a 8 z (OpVal.extract z z z) z (TA.ac 9 z (OpOk.alloc z ze76 z z (fun b155 => (k1 ?_)))))))))))))))))
    refine TA.last 10 (by kernel_rfl) z z z (storeAll z sz76 z z z z z z ?_)
    refine TZ.v 11 (by kernel_rfl) z z z (moveB (.inr z) z) z z (TZ.done (by kernel_rfl) (S.n (TC.a (TL.j z z (TL.en (TC.cB z hh (fun h157 hh => ?_) (fun h157 hh => ?_)))))))
    ·refine TC.exit (S.x (TC.exitHere ?_))
     obtain rfl := so hh
     exact rnd_n ⟨z, _, Sub.f [7, 7, 7, 7, 7, 7] 6, ⟨a139, c140, z⟩⟩
    ·refine TC.skip (S.n (TC.seq (TC.a (TL.w z (loadLoc z ag46 z (i := 2) z z) (TL.w z (nilCheckLoc z z) (TL.w z (fieldLoc z fo51_3 z) (TL.w z (OpVal.seen (SC.sees h0_3) (loadLoc z ag49 z (i := 0) z z)) (TL.w z (lenB z underlying49 z (i := 3) z) (TL.w z (OpVal.geq z z z) (TL.en (TC.cD z hh (fun h158 hh => ?_) (fun h158 hh => ?_))))))))))))
     ·refine TC.a (TL.front 7 z z (TL.op z (storeB z sz4 z z z z z ?_)))
      refine TL.en (TC.exit (S.x (TC.exitHere ?_)))
      obtain rfl := so hh
      exact rnd_n ⟨z, _, Sub.f [7, 7, 7, 7, 7] 6, ⟨a139, c140, z⟩⟩
     ·refine TC.skip (S.n (TC.seq (TC.draw [6] (by kernel_rfl) (TA.b 0 z (loadLoc z ag46 z (i := 2) z z) z (TA.a 1 z (nilCheckLoc z z) z (TA.a 2 z (fieldLoc z fo51_3 z) z (TA.b 3 z (OpVal.seen (SC.sees h0_3) (loadLoc z ag49 z (i := 0) z z)) z (TA.b 4 z (loadAll z ag75 sz75 z (i := 1) z z) z (TA.a 5 z (buildL z pl76 ze76 z) z (TA.front 3 z z (TA.last 6 (by kernel_rfl) z z z (updB y2_0 () z underlying49 z z z z kl75 ?_))))))))))))
      refine TZ.done (by kernel_rfl) (S.n (TC.region (TL.w z (loadLoc z ag57 z (i := 4) z z) (TL.w z (loadAll z ag75 sz75 z (i := 2) z z) (TL.op z (OpOk.lit (enc := encLag) [y2_0] z underlying57 sz75 ze75 z z z encLag_len (by decide) (by decide) TLag.zero z (by decide) z (by decide) encLag_one (fun a159 c160 => ?_)))))))
      refine TL.front 6 z z ?_
      have u59 := grd_c hh
      replace hh := grd_t hh
      refine TL.op z (appendS z z underlying57 sz75 by75 ze75 z z (by decide) z z z (.inr ⟨_, 0, z⟩) (by simpa using u59) (by decide) (fun a162 c163 => ?_))
      refine TL.front 6 z z (TL.op z (storeSl z sz57 z z z z z ?_))
      refine TL.nil (B.n ?_)
      obtain rfl := so hh
      exact rnd_n ⟨z, _, Sub.f [8, 8, 3, 3, 5, 8] 6, ⟨a162, c163, z⟩⟩
 ·rintro τ144 _ _ hle145 ⟨a139, c140, rfl⟩ ⟨rfl⟩
  dsimp only [takeNext_k2] at hh
  show jmpQ _ _ _ _ _ τ144 [Res.cells b114 #[loc b0_1 0] 46, Res.mapB (fun x => Value.agg (encLag x).toArray) unitV (some b0_16) m136, Res.cells b116 #[.slice a139 l138.length c140] 57, Res.rowS 75 4 encLag (.slice a139 l138.length c140) l138, Res.cells b118 #[.bool t141] 4, Res.cells b120 #[.bool t142] 4, Res.cells b1_0_0 #[.slice a1_0_1 x1_0.length c1_0_2] Eb1_0, Res.cells b1_1_0 #[loc b1_1_1 0] Eb1_1]
  refine jmp_split hh ?_ ?_ <;> clear hh
  ·intro hh
   refine B.n (S.n (TC.seq (TC.drawR (Hr := [Res.cells b114 #[loc b0_1 0] 46, Res.mapB (fun x => Value.agg (encLag x).toArray) unitV (some b0_16) m136, Res.cells b116 #[.slice a139 l138.length c140] 57, Res.rowS 75 4 encLag (.slice a139 l138.length c140) l138, Res.cells b120 #[.bool t142] 4, Res.cells b1_0_0 #[.slice a1_0_1 x1_0.length c1_0_2] Eb1_0, Res.cells b1_1_0 #[loc b1_1_1 0] Eb1_1]) (fun r hr => mem_pick [0, 1, 2, 3, 5, 6, 7] z hr) [] (by kernel_rfl) (TA.b 0 z (loadLoc z ag57 z (i := 2) z z) z (TA.b 1 z (loadLoc z ag4 z (i := 4) z z) z (TA.front 2 z z (TA.ac 2 z (storeSl z sz57 z z z z z ⟨(fun w h => sees_of (Store.le.refl _) (fun r hr => mem_pick [1, 2, 0, 3, 5, 6, 7] z hr) w h), ?_⟩))))))))
   refine TA.front 4 z z (TA.ac 3 z (storeB z sz4 z z z z z ⟨(fun w h => sees_of (Store.le.refl _) (fun r hr => mem_pick [2, 3, 1, 4, 5, 6, 7] z hr) w h), ?_⟩))
   refine TA.front 5 z z (TA.ac 4 z (storeB z sz4 z z z z z ⟨(fun w h => sees_of (Store.le.refl _) (fun r hr => mem_pick [3, 4, 2, 5, 0, 6, 7] z hr) w h), ?_⟩))
   refine TA.dn (S.n (TC.ofSub (Sub.f [1, 2, 7, 7, 6, 7] 7) (TC.back (TC.ret ?_))))
   obtain rfl := so hh
   exact ro [Res.rowS 75 4 encLag (.slice a139 l138.length c140) l138, Res.mapB (fun x => Value.agg (encLag x).toArray) unitV (some b0_16) m136, Res.cells b1_0_0 #[.slice a1_0_1 x1_0.length c1_0_2] Eb1_0, Res.cells b1_1_0 #[loc b1_1_1 0] Eb1_1] z (RVs.one ag57 z (i := 4) z z (RVs.one ag4 z (i := 5) z z (RVs.one ag4 z (i := 6) z z RVs.nil))) ⟨a139, c140, z, z, z⟩
  ·intro m_ c_ hh hc_
   refine jl_split hh hc_ ?_ ?_ <;> clear hh hc_
   ·intro hh
    refine TC.ofSub (Sub.f [5, 5, 4, 7, 7, 6, 7] 7) (TC.back (TC.ret (B.r (S.r ?_))))
    obtain rfl := so hh
    exact ro [Res.rowS 75 4 encLag (.slice a139 l138.length c140) l138, Res.mapB (fun x => Value.agg (encLag x).toArray) unitV (some b0_16) m136, Res.cells b1_0_0 #[.slice a1_0_1 x1_0.length c1_0_2] Eb1_0, Res.cells b1_1_0 #[loc b1_1_1 0] Eb1_1] z (RVs.one ag57 z (i := 4) z z (RVs.one ag4 z (i := 5) z z (RVs.one ag4 z (i := 6) z z RVs.nil))) ⟨a139, c140, z, z, z⟩
   ·intro m_ hh hc_
    exact jl_nil hc_

noncomputable def twin_Twin_j2 (l176 : List (List Arc)) (v5 : Fst × Int) (k180 : Nat) : Option (((List (List Arc)) × Nat) ⊕ (Bool × Int)) :=
 nxt ((l176.set (((nth v5.1.arcs k180 Arc.zero).frm).toNat) ((nth l176 (((nth v5.1.arcs k180 Arc.zero).frm).toNat) ([] : List Arc)) ++ [(nth v5.1.arcs k180 Arc.zero)])), (k180 + 1))
noncomputable def twin_Twin_b2 (v5 : Fst × Int) (l176 : List (List Arc)) (i111 : Int) (m250 : FM TLag Unit) (l252 : List TLag) (t255 : Bool) (t256 : Bool) : Option (((FM TLag Unit) × (List TLag) × Bool × Bool) ⊕ (Bool × Int)) :=
 iteO t255 (fin (some (false, 0))) (iteO t256 (fin (some (false, 2))) (iteO (decide (((l252.length : Nat) : Int) = 0)) (fin (some (true, 0))) (bnd (twin_walk_next (⟨v5.1, l176, i111⟩ : Walk) l252) (fun v84 => bnd (takeNext (⟨v5.1, l176, i111⟩ : Walk) m250 v84.1 (⟨(⟨v84.2.t.states, v84.2.t.starts, v84.2.t.ends, v84.2.t.arcs⟩ : Fst), v84.2.arcs, v84.2.most⟩ : Walk)) (fun v85 => nxt (v85.2.2.2, v85.1, v85.2.1, v85.2.2.1))))))
noncomputable def twin_Twin_b1 (v5 : Fst × Int) (i111 : Int) (l176 : List (List Arc)) (k180 : Nat) : Option (((List (List Arc)) × Nat) ⊕ (Bool × Int)) :=
 iteO (decide (((k180 : Nat) : Int) < ((v5.1.arcs.length : Nat) : Int))) (grd (0 ≤ ((nth v5.1.arcs k180 Arc.zero).frm) ∧ ((nth v5.1.arcs k180 Arc.zero).frm) < (l176.length : Int)) (grd (((nth l176 (((nth v5.1.arcs k180 Arc.zero).frm).toNat) ([] : List Arc)).length + [(nth v5.1.arcs k180 Arc.zero)].length) * 72 ≤ 140737488355328) (grd (0 ≤ ((nth v5.1.arcs k180 Arc.zero).frm) ∧ ((nth v5.1.arcs k180 Arc.zero).frm) < (l176.length : Int)) (twin_Twin_j2 l176 v5 k180)))) (fin (bnd (twin_walk_first (⟨v5.1, l176, i111⟩ : Walk)) (fun v58 => bnd (takeFirst (⟨v5.1, l176, i111⟩ : Walk) (FM.emp : FM TLag Unit) (⟨(⟨v58.t.states, v58.t.starts, v58.t.ends, v58.t.arcs⟩ : Fst), v58.arcs, v58.most⟩ : Walk)) (fun v59 => iter (fun q : (FM TLag Unit) × (List TLag) × Bool × Bool => twin_Twin_b2 v5 l176 i111 q.1 q.2.1 q.2.2.1 q.2.2.2) (v59.2.2.2, v59.1, v59.2.1, v59.2.2.1)))))
noncomputable def twin_Twin_j1 (v5 : Fst × Int) (i111 : Int) : Option (Bool × Int) :=
 iter (fun q : (List (List Arc)) × Nat => twin_Twin_b1 v5 i111 q.1 q.2) ((List.replicate v5.1.states.toNat ([] : List Arc)), 0)
noncomputable def twin_Twin (x0 : Fst) : Option (Bool × Int) :=
 bnd (twin_trim x0) (fun v5 => iteO (decide (v5.2 ≠ 0)) (some (false, v5.2)) (grd (0 ≤ v5.1.states ∧ 24 * v5.1.states.toNat ≤ 281474976710656) (bnd (twin_bound v5.1) (fun v21 => twin_Twin_j1 v5 v21))))
theorem twin_Twin_con {σ : Store} {x0 : Fst} {a0_0 : Option Addr} {c0_0 : Nat} {a0_1 : Option Addr} {c0_1 : Nat} {a0_2 : Option Addr} {c0_2 : Nat} (f0_0 : RS σ 2 encTip (.slice a0_0 x0.starts.length c0_0) x0.starts) (f0_1 : RS σ 2 encTip (.slice a0_1 x0.ends.length c0_1) x0.ends) (f0_2 : RS σ 8 encArc (.slice a0_2 x0.arcs.length c0_2) x0.arcs) {r : Bool × Int} (hh : twin_Twin x0 = some r) :
  Con Try.prog 6 #[.agg #[.int .i64 x0.states, .slice a0_0 x0.starts.length c0_0, .slice a0_1 x0.ends.length c0_1, .slice a0_2 x0.arcs.length c0_2]] σ [] (PureP (.tuple #[.bool r.1, .int .i64 r.2]) σ) := by
 dsimp only [twin_Twin] at hh
 have f0_0b := f0_0.rv.big
 have f0_1b := f0_1.rv.big
 have f0_2b := f0_2.rv.big
 refine Con.mk (n := 79) Try.func6 z z z (fun w0 => ?_)
 refine TC.a (TL.op z (boxA z z z z (fun b101 => ?_)))
 refine TL.j z z (TL.i z z (TL.en (TC.a (TL.w z (loadAll z ag28 sz28 z (i := 0) z z) ?_))))
 obtain ⟨v5, u5, hh⟩ := bnd_e hh
 refine TL.op z (OpOk.call (twin_trim_con (x0 := x0) f0_0 f0_1 f0_2 u5) z z pf15 z z z z ?_)
 rintro _ τ103 _ hle103 ⟨a103_1, c103_1, a103_2, c103_2, a103_3, c103_3, rfl, hr103_0, hr103_1, hr103_2, rfl⟩
 have hr103_0b := hr103_0.rv.big
 have hr103_1b := hr103_1.rv.big
 have hr103_2b := hr103_2.rv.big
 refine TL.w z (moveT (.inl z) z) (TL.w z (OpVal.extract z z z) (TL.w z (OpVal.extract z z z) (TL.op z (storeAll z sz28 z z z z z z ?_))))
 refine TL.i z z (TL.en (TC.seq (TC.a (TL.i z z (TL.w z (OpVal.neq z z z) (TL.en (TC.cD z hh (fun h104 hh => ?_) (fun h104 hh => ?_))))))))
 ·refine TC.a (TL.i z z (TL.j z z (TL.i z z (TL.en (TC.ofSub (Sub.pre 0 z) (TC.back (TC.ret (S.r ?_))))))))
  obtain rfl := so hh
  exact rq [2, 3] ⟨z, z, z⟩
 ·refine TC.skip (S.n (TC.cutG (α := (Int) × (Nat × (Option Addr) × Nat × Nat)) (rgs [(5, 1), (19, 9)]) (fun g => [(5, loc g.2.1 0)]) (fun g => [Res.cells b101 #[.int .i64 v5.1.states, .slice a103_1 v5.1.starts.length c103_1, .slice a103_2 v5.1.ends.length c103_2, .slice a103_3 v5.1.arcs.length c103_3] 28, Res.cells g.2.1 #[.int .i64 v5.1.states, .slice a103_1 v5.1.starts.length c103_1, .slice a103_2 v5.1.ends.length c103_2, .slice a103_3 v5.1.arcs.length c103_3, .slice g.2.2.1 ((List.replicate v5.1.states.toNat ([] : List Arc)).length) g.2.2.2.1, .int .i64 g.1, .map (some g.2.2.2.2)] 51, Res.nest 26 56 8 encArc (.slice g.2.2.1 (List.replicate v5.1.states.toNat ([] : List Arc)).length g.2.2.2.1) (List.replicate v5.1.states.toNat (nilN : NP Arc)), Res.mapB (fun x => Value.agg (encLag x).toArray) unitV (some g.2.2.2.2) (FM.emp : FM TLag Unit)]) (fun g => τ103) (fun g => twin_Twin_j1 v5 g.1 = some r ∧ Zn (List.replicate v5.1.states.toNat (nilN : NP Arc)) (List.replicate v5.1.states.toNat ([] : List Arc))) ?_ (fun g j hg => ?_)))
  ·skip
   have u19 := grd_c hh
   replace hh := grd_t hh
   obtain ⟨v21, u21, hh⟩ := bnd_e hh
   refine TC.draw [] (by kernel_rfl) (TA.b 0 z (loadAll z ag28 sz28 z (i := 0) z z) z (TA.a 1 z (fieldLoc z fo28_0 z) z (TA.b 2 z (loadLoc z ag3 z (i := 0) z z) z (TA.b 4 z (loadAll z ag28 sz28 z (i := 0) z z) z ?_))))
   refine TA.actN [3, 5, 6] (by kernel_rfl) (an rfl rfl (makeN (q := v5.1.states.toNat) (E := 56) (size := 8) (enc := encArc) rfl underlying47 sz26 by26 ze26 rfl rfl (by show Value.int _ _ = _; rw [Int.toNat_of_nonneg u19.1]) (by show Value.int _ _ = _; rw [Int.toNat_of_nonneg u19.1]) (by omega) (by decide) rfl (fun a122 c123 zf124 => (k1 ?_))) (an rfl rfl (callP (twin_bound_con (x0 := v5.1) hr103_0 hr103_1 hr103_2 u21) rfl rfl pf16 rfl rfl rfl (k0 ?_)) (an rfl rfl (makeMapB (enc := (fun x => Value.agg (encLag x).toArray)) (encV := unitV) rfl rfl rfl (fun b126 => (k1 ?_))) (True.intro))))
   ·skip
    refine TA.actN [5, 6] (by kernel_rfl) (an z z (callP (twin_bound_con (x0 := v5.1) hr103_0 hr103_1 hr103_2 u21) z z pf16 z z z (k1 ?_)) (an z z (makeMapB (enc := (fun x => Value.agg (encLag x).toArray)) (encV := unitV) z z z (fun b128 => (k2 ?_))) (True.intro)))
    ·skip
     refine TA.ac 6 z (makeMapB (enc := (fun x => Value.agg (encLag x).toArray)) (encV := unitV) z z z (fun b130 => (k2 ?_)))
     refine TA.a 7 z (buildL z pl51 ze51 z) z (TA.ac 8 z (boxA z z z z (fun b132 => (k3 ?_))))
     exact TA.a 9 z (moveLoc (.inr z) z) z (TA.dn (S.n (cf (v21, (b132, a122, c123, b130)) ⟨hh, zf124⟩ (Sub.f [1, 2, 2, 3] 4))))
    ·skip
     refine TA.ac 5 z (callP (twin_bound_con (x0 := v5.1) hr103_0 hr103_1 hr103_2 u21) z z pf16 z z z (k2 ?_))
     refine TA.a 7 z (buildL z pl51 ze51 z) z (TA.ac 8 z (boxA z z z z (fun b134 => (k3 ?_))))
     exact TA.a 9 z (moveLoc (.inr z) z) z (TA.dn (S.n (cf (v21, (b134, a122, c123, b128)) ⟨hh, zf124⟩ (Sub.f [1, 2, 2, 3] 4))))
   ·skip
    refine TA.actN [3, 6] (by kernel_rfl) (an rfl rfl (makeN (q := v5.1.states.toNat) (E := 56) (size := 8) (enc := encArc) rfl underlying47 sz26 by26 ze26 rfl rfl (by show Value.int _ _ = _; rw [Int.toNat_of_nonneg u19.1]) (by show Value.int _ _ = _; rw [Int.toNat_of_nonneg u19.1]) (by omega) (by decide) rfl (fun a136 c137 zf138 => (k1 ?_))) (an rfl rfl (makeMapB (enc := (fun x => Value.agg (encLag x).toArray)) (encV := unitV) rfl rfl rfl (fun b140 => (k1 ?_))) (True.intro)))
    ·skip
     refine TA.ac 6 z (makeMapB (enc := (fun x => Value.agg (encLag x).toArray)) (encV := unitV) z z z (fun b142 => (k2 ?_)))
     refine TA.a 7 z (buildL z pl51 ze51 z) z (TA.ac 8 z (boxA z z z z (fun b144 => (k3 ?_))))
     exact TA.a 9 z (moveLoc (.inr z) z) z (TA.dn (S.n (cf (v21, (b144, a136, c137, b142)) ⟨hh, zf138⟩ (Sub.f [1, 2, 2, 3] 4))))
    ·skip
     refine TA.ac 3 rfl (makeN (q := v5.1.states.toNat) (E := 56) (size := 8) (enc := encArc) rfl underlying47 sz26 by26 ze26 rfl rfl (by show Value.int _ _ = _; rw [Int.toNat_of_nonneg u19.1]) (by show Value.int _ _ = _; rw [Int.toNat_of_nonneg u19.1]) (by omega) (by decide) rfl (fun a146 c147 zf148 => (k2 ?_)))
     refine TA.a 7 z (buildL z pl51 ze51 z) z (TA.ac 8 z (boxA z z z z (fun b150 => (k3 ?_))))
     exact TA.a 9 z (moveLoc (.inr z) z) z (TA.dn (S.n (cf (v21, (b150, a146, c147, b140)) ⟨hh, zf148⟩ (Sub.f [2, 2, 2, 3] 4))))
   ·skip
    refine TA.actN [3, 5] (by kernel_rfl) (an rfl rfl (makeN (q := v5.1.states.toNat) (E := 56) (size := 8) (enc := encArc) rfl underlying47 sz26 by26 ze26 rfl rfl (by show Value.int _ _ = _; rw [Int.toNat_of_nonneg u19.1]) (by show Value.int _ _ = _; rw [Int.toNat_of_nonneg u19.1]) (by omega) (by decide) rfl (fun a152 c153 zf154 => (k2 ?_))) (an rfl rfl (callP (twin_bound_con (x0 := v5.1) hr103_0 hr103_1 hr103_2 u21) rfl rfl pf16 rfl rfl rfl (k1 ?_)) (True.intro)))
    ·skip
     refine TA.ac 5 z (callP (twin_bound_con (x0 := v5.1) hr103_0 hr103_1 hr103_2 u21) z z pf16 z z z (k2 ?_))
     refine TA.a 7 z (buildL z pl51 ze51 z) z (TA.ac 8 z (boxA z z z z (fun b156 => (k3 ?_))))
     exact TA.a 9 z (moveLoc (.inr z) z) z (TA.dn (S.n (cf (v21, (b156, a152, c153, b126)) ⟨hh, zf154⟩ (Sub.f [2, 2, 2, 3] 4))))
    ·skip
     refine TA.ac 3 rfl (makeN (q := v5.1.states.toNat) (E := 56) (size := 8) (enc := encArc) rfl underlying47 sz26 by26 ze26 rfl rfl (by show Value.int _ _ = _; rw [Int.toNat_of_nonneg u19.1]) (by show Value.int _ _ = _; rw [Int.toNat_of_nonneg u19.1]) (by omega) (by decide) rfl (fun a158 c159 zf160 => (k2 ?_)))
     refine TA.a 7 z (buildL z pl51 ze51 z) z (TA.ac 8 z (boxA z z z z (fun b162 => (k3 ?_))))
     exact TA.a 9 z (moveLoc (.inr z) z) z (TA.dn (S.n (cf (v21, (b162, a158, c159, b126)) ⟨hh, zf160⟩ (Sub.f [2, 2, 2, 3] 4))))
  ·skip
   obtain ⟨i111, ⟨b106, a108, c109, b113⟩⟩ := g
   obtain ⟨hh, zf110⟩ := hg
   try dsimp only at zf110 ⊢
   dsimp only [twin_Twin_j1] at hh
   have zf110b := zf110.len
   refine TC.know (isSl_nest (q := 2) z zf110) (fun ⟨_, hb164⟩ => ?_)
   refine TC.seq (TC.a (TL.w z (fieldLoc z fo28_3 z) (TL.w z (loadLoc z ag26 z (i := 0) z z) (TL.w z (lenC z underlying26 z) (TL.i z z (TL.en (TC.block (TC.loopG (α := ((List (List Arc)) × Nat) × ((List (NP Arc)))) (rgs [(7, 1), (31, 23)]) (fun g => [(31, .int .i64 ((g.1.2 : Nat) : Int))]) (fun g => [Res.cells b106 #[.int .i64 v5.1.states, .slice a103_1 v5.1.starts.length c103_1, .slice a103_2 v5.1.ends.length c103_2, .slice a103_3 v5.1.arcs.length c103_3, .slice a108 ((List.replicate v5.1.states.toNat ([] : List Arc)).length) c109, .int .i64 i111, .map (some b113)] 51, Res.nest 26 56 8 encArc (.slice a108 (List.replicate v5.1.states.toNat ([] : List Arc)).length c109) g.2, Res.mapB (fun x => Value.agg (encLag x).toArray) unitV (some b113) (FM.emp : FM TLag Unit)]) (fun g => τ103) (fun g => iter (fun q : (List (List Arc)) × Nat => twin_Twin_b1 v5 i111 q.1 q.2) g.1 = some r ∧ g.1.1.length = (List.replicate v5.1.states.toNat ([] : List Arc)).length ∧ Zn g.2 g.1.1) (fun g => rounds (fun q : (List (List Arc)) × Nat => twin_Twin_b1 v5 i111 q.1 q.2) g.1) (((List.replicate v5.1.states.toNat ([] : List Arc)), 0), (List.replicate v5.1.states.toNat (nilN : NP Arc))) (Sub.f [3, 3, 3] 3) z (by repeat (first | exact trivial | refine ⟨z, ?_⟩)) ⟨hh, z, zf110⟩ (fun g1 j1 hg1 => ?_)))))))))
   obtain ⟨⟨l176, k180⟩, z178⟩ := g1
   obtain ⟨hh, hn177, zf179⟩ := hg1
   try dsimp only at hn177 zf179 ⊢
   obtain ⟨z1, hh, hR1⟩ := iter_e hh
   dsimp only [twin_Twin_b1] at hh
   have hn177b := hn177
   have zf179b := zf179.len
   refine TC.know (isSl_nest (q := 1) z zf179) (fun ⟨_, hb181⟩ => ?_)
   refine TC.a (TL.w z (OpVal.lss z z z) (TL.en (TC.seq (TC.cD z hh (fun h182 hh => ?_) (fun h182 hh => ?_)))))
   ·refine TC.skip (S.n (TC.cutG (α := (Unit) × ((List (NP Arc)))) (rgs [(7, 1), (33, 20)]) (fun g => []) (fun g => [Res.cells b106 #[.int .i64 v5.1.states, .slice a103_1 v5.1.starts.length c103_1, .slice a103_2 v5.1.ends.length c103_2, .slice a103_3 v5.1.arcs.length c103_3, .slice a108 ((List.replicate v5.1.states.toNat ([] : List Arc)).length) c109, .int .i64 i111, .map (some b113)] 51, Res.nest 26 56 8 encArc (.slice a108 (List.replicate v5.1.states.toNat ([] : List Arc)).length c109) g.2, Res.mapB (fun x => Value.agg (encLag x).toArray) unitV (some b113) (FM.emp : FM TLag Unit)]) (fun g => τ103) (fun g => twin_Twin_j2 l176 v5 k180 = some z1 ∧ (l176.set (((nth v5.1.arcs k180 Arc.zero).frm).toNat) ((nth l176 (((nth v5.1.arcs k180 Arc.zero).frm).toNat) ([] : List Arc)) ++ [(nth v5.1.arcs k180 Arc.zero)])).length = (List.replicate v5.1.states.toNat ([] : List Arc)).length ∧ Zn g.2 (l176.set (((nth v5.1.arcs k180 Arc.zero).frm).toNat) ((nth l176 (((nth v5.1.arcs k180 Arc.zero).frm).toNat) ([] : List Arc)) ++ [(nth v5.1.arcs k180 Arc.zero)]))) ?_ (fun g j hg => ?_)))
    ·skip
     refine TC.block (TC.a (TL.w z (indexN z underlying26 sz56 z z hr103_2.rv.sl (by omega)) (TL.w z (loadSA Arc.zero z ag56 sz56 z hr103_2 (by omega) (by omega)) (TL.op z (OpOk.alloc z ze56 z z (fun b186 => ?_))))))
     refine TL.op z (storeAll z sz56 z z z z z z ?_)
     refine TL.en ?_
     have u47 := grd_c hh
     replace hh := grd_t hh
     have u51 := grd_c hh
     replace hh := grd_t hh
     have u52 := grd_c hh
     replace hh := grd_t hh
     refine TC.drawR (Hr := [Res.cells b186 #[.int .i64 ((nth v5.1.arcs k180 Arc.zero).frm), .int .i64 ((nth v5.1.arcs k180 Arc.zero).to), .int .u64 ((((nth v5.1.arcs k180 Arc.zero).set).a : Nat) : Int), .int .u64 ((((nth v5.1.arcs k180 Arc.zero).set).b : Nat) : Int), .int .u64 ((((nth v5.1.arcs k180 Arc.zero).set).c : Nat) : Int), .int .u64 ((((nth v5.1.arcs k180 Arc.zero).set).d : Nat) : Int), .string (bs ((nth v5.1.arcs k180 Arc.zero).out)), .bool ((nth v5.1.arcs k180 Arc.zero).copy)] 56, Res.cells b106 #[.int .i64 v5.1.states, .slice a103_1 v5.1.starts.length c103_1, .slice a103_2 v5.1.ends.length c103_2, .slice a103_3 v5.1.arcs.length c103_3, .slice a108 ((List.replicate v5.1.states.toNat ([] : List Arc)).length) c109, .int .i64 i111, .map (some b113)] 51, Res.mapB (fun x => Value.agg (encLag x).toArray) unitV (some b113) (FM.emp : FM TLag Unit)]) (fun r hr => mem_pick [0, 1, 3] z hr) [] (by kernel_rfl) (TA.a 0 z (moveLoc (.inl z) z) z (TA.a 1 z (nilCheckLoc z z) z (TA.a 2 z (fieldLoc z fo51_1 z) z (TA.b 3 z (loadLoc z ag47 z (i := 1) z z) z (TA.a 4 z (fieldLoc z fo56_0 z) z (TA.b 5 z (loadLoc z ag3 z (i := 0) z z) z (TA.a 6 z (moveLoc (.inl z) z) z (TA.a 7 z (nilCheckLoc z z) z (TA.a 8 z (fieldLoc z fo51_1 z) z (TA.b 9 z (loadLoc z ag47 z (i := 1) z z) z (TA.a 10 z (fieldLoc z fo56_0 z) z (TA.b 11 z (loadLoc z ag3 z (i := 0) z z) z (TA.know (isSl_nest (q := 2) z zf179) (fun ⟨hs199, hs199b⟩ => ?_))))))))))))))
     refine TA.b 12 z (OpVal.index z underlying47 sz26 z z hs199 u47.1 u47.2) z (TA.b 14 z (loadAll z ag56 sz56 z (i := 0) z z) z ?_)
     obtain ⟨p200, hz200, hm200⟩ := Zn.at zf179 (i := ((nth v5.1.arcs k180 Arc.zero).frm).toNat) (by omega)
     refine TA.actN [13, 15] (by kernel_rfl) (an z z (OpVal.ok (loadN z ag26 z (q := 2) z hz200 hm200) z z ⟨(fun w h => sees_of (Store.le.refl _) (fun r hr => mem_pick [0, 1, 3] z hr) w h), ?_⟩) (an z z (OpOk.lit (enc := encArc) [(nth v5.1.arcs k180 Arc.zero)] z underlying26 sz56 ze56 z z z encArc_len (by decide) (by decide) Arc.zero z (by decide) z (by decide) encArc_one (fun a201 c202 => ⟨(fun w h => sees_of (Store.le.refl _) (fun r hr => mem_pick [1, 2, 4] z hr) w h), ?_⟩)) (True.intro)))
     ·skip
      refine TA.ac 15 z (OpOk.lit (enc := encArc) [(nth v5.1.arcs k180 Arc.zero)] z underlying26 sz56 ze56 z z z encArc_len (by decide) (by decide) Arc.zero z (by decide) z (by decide) encArc_one (fun a204 c205 => ⟨(fun w h => sees_of (Store.le.refl _) (fun r hr => mem_pick [1, 2, 4] z hr) w h), ?_⟩))
      refine TA.front 3 z z (TA.by (fun w h => Reach.takeN hz200 hm200 h) (TA.ac 16 z (appendS z z underlying26 sz56 by56 ze56 z z (by decide) z z z (.inr ⟨_, 1, z⟩) (by simpa using u51) (by decide) (fun a208 c209 => (k3 ?_)))))
      refine TA.know (isSl_nestX (q := 1) z zf179) (fun ⟨hs210, hs210b⟩ => ?_)
      refine TA.b 17 z (OpVal.index z underlying47 sz26 z z hs210 u52.1 u52.2) z (TA.front 1 z z (TA.front 1 z z ?_))
      have hn212 : (l176.set (((nth v5.1.arcs k180 Arc.zero).frm).toNat) ((nth l176 (((nth v5.1.arcs k180 Arc.zero).frm).toNat) ([] : List Arc)) ++ [(nth v5.1.arcs k180 Arc.zero)])).length = (List.replicate v5.1.states.toNat ([] : List Arc)).length := (List.length_set ..).trans hn177
      refine TA.ac 18 rfl (storeX (l' := ((nth l176 (((nth v5.1.arcs k180 Arc.zero).frm).toNat) ([] : List Arc)) ++ [(nth v5.1.arcs k180 Arc.zero)])) rfl sz26 rfl rfl rfl rfl rfl (by rw [zf179.len]; omega) zf179 (fun zf211 => (k2 ?_)))
      exact TA.dn (B.n (S.n (cf ((), (z178.set (((nth v5.1.arcs k180 Arc.zero).frm).toNat) (((nth l176 (((nth v5.1.arcs k180 Arc.zero).frm).toNat) ([] : List Arc)) ++ [(nth v5.1.arcs k180 Arc.zero)]), (a208, c209)))) ⟨hh, hn212, zf211⟩ (Sub.f [4, 1, 4] 3))))
     ·skip
      obtain ⟨p213, hz213, hm213⟩ := Zn.at zf179 (i := ((nth v5.1.arcs k180 Arc.zero).frm).toNat) (by omega)
      refine TA.ac 13 z (OpVal.ok (loadN z ag26 z (q := 3) z hz213 hm213) z z ⟨(fun w h => sees_of (Store.le.refl _) (fun r hr => mem_pick [1, 2, 4] z hr) w h), ?_⟩)
      refine TA.front 3 z z (TA.by (fun w h => Reach.takeN hz213 hm213 h) (TA.ac 16 z (appendS z z underlying26 sz56 by56 ze56 z z (by decide) z z z (.inr ⟨_, 1, z⟩) (by simpa using u51) (by decide) (fun a215 c216 => (k3 ?_)))))
      refine TA.know (isSl_nestX (q := 1) z zf179) (fun ⟨hs217, hs217b⟩ => ?_)
      refine TA.b 17 z (OpVal.index z underlying47 sz26 z z hs217 u52.1 u52.2) z (TA.front 1 z z (TA.front 1 z z ?_))
      have hn219 : (l176.set (((nth v5.1.arcs k180 Arc.zero).frm).toNat) ((nth l176 (((nth v5.1.arcs k180 Arc.zero).frm).toNat) ([] : List Arc)) ++ [(nth v5.1.arcs k180 Arc.zero)])).length = (List.replicate v5.1.states.toNat ([] : List Arc)).length := (List.length_set ..).trans hn177
      refine TA.ac 18 rfl (storeX (l' := ((nth l176 (((nth v5.1.arcs k180 Arc.zero).frm).toNat) ([] : List Arc)) ++ [(nth v5.1.arcs k180 Arc.zero)])) rfl sz26 rfl rfl rfl rfl rfl (by rw [zf179.len]; omega) zf179 (fun zf218 => (k2 ?_)))
      exact TA.dn (B.n (S.n (cf ((), (z178.set (((nth v5.1.arcs k180 Arc.zero).frm).toNat) (((nth l176 (((nth v5.1.arcs k180 Arc.zero).frm).toNat) ([] : List Arc)) ++ [(nth v5.1.arcs k180 Arc.zero)]), (a215, c216)))) ⟨hh, hn219, zf218⟩ (Sub.f [4, 1, 4] 3))))
    ·skip
     obtain ⟨_, z184⟩ := g
     obtain ⟨hh, hn183, zf185⟩ := hg
     try dsimp only at hn183 zf185 ⊢
     dsimp only [twin_Twin_j2] at hh
     have hn183b := hn183
     have zf185b := zf185.len
     refine TC.know (isSl_nest (q := 1) z zf185) (fun ⟨_, hb220⟩ => ?_)
     refine TC.region (TL.w z (OpVal.succ z z z (by omega)) (TL.i z z (TL.en ?_)))
     obtain ⟨hh, hlt221⟩ := nxt_x hR1 hh
     exact lf (((l176.set (((nth v5.1.arcs k180 Arc.zero).frm).toNat) ((nth l176 (((nth v5.1.arcs k180 Arc.zero).frm).toNat) ([] : List Arc)) ++ [(nth v5.1.arcs k180 Arc.zero)])), (k180 + 1)), z184) hlt221 ⟨hh, hn183, zf185⟩ (Sub.f [2, 2, 2] 3)
   ·refine TC.exit (S.x (S.x ?_))
    replace hh := fin_x hR1 hh
    refine TC.exitHere (S.n (TC.a (TL.l z z (TL.l z z ?_))))
    rw [← hn177]
    refine TL.front 1 z z (TL.seals (fun w h => Reach.sealNest encArc_len zf179 h) (fun τ224 hle223 hr222 => ?_))
    replace hr103_0 := hr103_0.mono hle223
    replace hr103_1 := hr103_1.mono hle223
    replace hr103_2 := hr103_2.mono hle223
    have hr222b := hr222.big
    refine TL.seals (fun w h => Reach.sealC h) (fun τ227 hle226 hs225 => ?_)
    replace hr103_0 := hr103_0.mono hle226
    replace hr103_1 := hr103_1.mono hle226
    replace hr103_2 := hr103_2.mono hle226
    replace hr222 := hr222.mono hle226
    obtain ⟨v58, u58, hh⟩ := bnd_e hh
    refine TL.op z (OpOk.call (twin_walk_first_con hs225 hr103_0 hr103_1 hr103_2 hr222 u58) z z pf18 z z z z ?_)
    rintro _ τ228 _ hle228 ⟨b228_17, b228_1, Eb228_2, a228_4, c228_5, a228_7, c228_8, a228_10, c228_11, a228_13, c228_14, m228_16, rfl, h228_3, f228_6, f228_9, f228_12, f228_15, rfl⟩
    replace hr103_0 := hr103_0.mono hle228
    replace hr103_1 := hr103_1.mono hle228
    replace hr103_2 := hr103_2.mono hle228
    replace hr222 := hr222.mono hle228
    replace hs225 := hs225.mono hle228
    skip
    have f228_6b := f228_6.rv.big
    have f228_9b := f228_9.rv.big
    have f228_12b := f228_12.rv.big
    have f228_15b := f228_15.big
    refine TL.front 1 z z ?_
    obtain ⟨v59, u59, hh⟩ := bnd_e hh
    refine TL.op z (OpOk.call (takeFirst_con hs225 hr103_0 hr103_1 hr103_2 hr222 h228_3 f228_6 f228_9 f228_12 f228_15 u59) z z pf17 z z z z ?_)
    rintro _ _ _ hle234 ⟨a234_1, c234_2, rfl, rfl, rfl⟩
    refine TL.w z (moveT (.inl z) z) (TL.w z (OpVal.extract z z z) (TL.w z (OpVal.extract z z z) (TL.w z (OpVal.extract z z z) (TL.s z z (TL.j z z (TL.j z z (TL.en (TC.block (TC.loopG (α := ((FM TLag Unit) × (List TLag) × Bool × Bool) × ((Option Addr) × Nat × Store)) (rgs [(2, 2), (8, 3), (62, 17)]) (fun g => [(8, .slice g.2.1 g.1.2.1.length g.2.2.1), (9, .bool g.1.2.2.1), (10, .bool g.1.2.2.2)]) (fun g => [Res.mapB (fun x => Value.agg (encLag x).toArray) unitV (some b113) g.1.1, Res.rowS 75 4 encLag (.slice g.2.1 g.1.2.1.length g.2.2.1) g.1.2.1]) (fun g => g.2.2.2) (fun g => iter (fun q : (FM TLag Unit) × (List TLag) × Bool × Bool => twin_Twin_b2 v5 l176 i111 q.1 q.2.1 q.2.2.1 q.2.2.2) g.1 = some r ∧ Store.le τ228 g.2.2.2) (fun g => rounds (fun q : (FM TLag Unit) × (List TLag) × Bool × Bool => twin_Twin_b2 v5 l176 i111 q.1 q.2.1 q.2.2.1 q.2.2.2) g.1) ((v59.2.2.2, v59.1, v59.2.1, v59.2.2.1), (a234_1, c234_2, τ228)) (Sub.f [1] 2) z (by repeat (first | exact trivial | refine ⟨z, ?_⟩)) ⟨hh, (Store.le.refl _)⟩ (fun g2 j2 hg2 => ?_))))))))))
    obtain ⟨⟨m250, l252, t255, t256⟩, ⟨a253, c254, τ257⟩⟩ := g2
    obtain ⟨hh, hle258⟩ := hg2
    dsimp only at hle258
    replace hr103_0 := hr103_0.mono hle258
    replace hr103_1 := hr103_1.mono hle258
    replace hr103_2 := hr103_2.mono hle258
    replace hr222 := hr222.mono hle258
    replace hs225 := hs225.mono hle258
    try dsimp only
    obtain ⟨z1, hh, hR1⟩ := iter_e hh
    dsimp only [twin_Twin_b2] at hh
    refine TC.isSl (i := 1) z (fun _ hb259 _ => ?_)
    refine TC.block (TC.seq (TC.block (TC.a (TL.j z z (TL.j z z (TL.en (TC.cB z hh (fun h260 hh => ?_) (fun h260 hh => ?_))))))))
    ·refine TC.a (TL.j z z (TL.i z z (TL.en (TC.ofSub (Sub.pre 0 z) (TC.back (TC.ret (B.r (S.r (B.r (S.r ?_))))))))))
     replace hh := fin_x hR1 hh
     refine B.r ?_
     obtain rfl := so hh
     exact rq [2, 3] ⟨z, z, z⟩
    ·refine TC.a (TL.j z z (TL.j z z (TL.en (TC.cB z hh (fun h261 hh => ?_) (fun h261 hh => ?_)))))
     ·refine TC.a (TL.j z z (TL.i z z (TL.en (TC.ofSub (Sub.pre 0 z) (TC.back (TC.ret (B.r (S.r (B.r (S.r ?_))))))))))
      replace hh := fin_x hR1 hh
      refine B.r ?_
      obtain rfl := so hh
      exact rq [2, 3] ⟨z, z, z⟩
     ·refine TC.a (TL.s z z (TL.w z (lenC z underlying57 z) (TL.w z (OpVal.eql z z z) (TL.j z z (TL.en (TC.cD z hh (fun h262 hh => ?_) (fun h262 hh => ?_)))))))
      ·refine TC.a (TL.j z z (TL.i z z (TL.en (TC.ofSub (Sub.pre 0 z) (TC.back (TC.ret (B.r (S.r (B.r (S.r ?_))))))))))
       replace hh := fin_x hR1 hh
       refine B.r ?_
       obtain rfl := so hh
       exact rq [2, 3] ⟨z, z, z⟩
      ·refine TC.skip (B.n (S.n (TC.region (TL.l z z (TL.l z z (TL.s z z (TL.front 1 z z (TL.sealS encLag_len (fun τ265 hle264 hr263 => ?_)))))))))
       replace hr103_0 := hr103_0.mono hle264
       replace hr103_1 := hr103_1.mono hle264
       replace hr103_2 := hr103_2.mono hle264
       replace hr222 := hr222.mono hle264
       replace hs225 := hs225.mono hle264
       have hr263b := hr263.rv.big
       obtain ⟨v84, u84, hh⟩ := bnd_e hh
       refine TL.op z (OpOk.call (twin_walk_next_con hs225 hr103_0 hr103_1 hr103_2 hr222 hr263 u84) z z pf19 z z z z ?_)
       rintro _ τ266 _ hle266 ⟨b266_4, a266_1, c266_2, b266_21, b266_5, Eb266_6, a266_8, c266_9, a266_11, c266_12, a266_14, c266_15, a266_17, c266_18, m266_20, rfl, f266_3, h266_7, f266_10, f266_13, f266_16, f266_19, rfl⟩
       replace hr103_0 := hr103_0.mono hle266
       replace hr103_1 := hr103_1.mono hle266
       replace hr103_2 := hr103_2.mono hle266
       replace hr222 := hr222.mono hle266
       replace hs225 := hs225.mono hle266
       have f266_3b := f266_3.rv.big
       skip
       have f266_10b := f266_10.rv.big
       have f266_13b := f266_13.rv.big
       have f266_16b := f266_16.rv.big
       have f266_19b := f266_19.big
       refine TL.front 1 z z (TL.front 1 z z (TL.front 2 z z ?_))
       obtain ⟨v85, u85, hh⟩ := bnd_e hh
       refine TL.op z (OpOk.call (takeNext_con hs225 hr103_0 hr103_1 hr103_2 hr222 f266_3 h266_7 f266_10 f266_13 f266_16 f266_19 u85) z z pf17 z z z z ?_)
       rintro _ _ _ hle274 ⟨a274_1, c274_2, rfl, rfl, rfl⟩
       refine TL.w z (moveT (.inl z) z) (TL.w z (OpVal.extract z z z) (TL.w z (OpVal.extract z z z) (TL.w z (OpVal.extract z z z) (TL.s z z (TL.j z z (TL.j z z (TL.nil (B.n (S.n ?_)))))))))
       obtain ⟨hh, hlt276⟩ := nxt_x hR1 hh
       exact lf ((v85.2.2.2, v85.1, v85.2.1, v85.2.2.1), (a274_1, c274_2, τ266)) hlt276 ⟨hh, ((hle258.trans hle264).trans hle266)⟩ (Sub.f [1] 2)

end Go.Proofs.Ytcfjjckencjjeaa
end

/- Par -/
section
/- Drawn regions whose operations do not meet: each is looked at once, in whatever order they come up. Plain lemmas over any program; no condition. -/
set_option linter.unusedVariables false
set_option linter.unusedSimpArgs false
namespace Go.E
open Go
abbrev Gh := Nat → Option Addr × Nat
def updG (γ : Gh) (i : Nat) (g : Option Addr × Nat) : Gh := fun j => if j = i then g else γ j
/-- An operation: its slot; whose names its value speaks of; its value; what it makes; whose makings it uses up. -/
structure PO where
  dst : Nat
  use : List Nat
  val : List (Option Addr × Nat) → Value
  res : List (Option Addr × Nat) → List Res
  eat : List Nat
def PO.no : PO := ⟨0, [], fun _ => undef, fun _ => [], []⟩
def po (D : List PO) (k : Nat) : PO := D.getD k PO.no
def pv (D : List PO) (k : Nat) (γ : Gh) : Value := (po D k).val ((po D k).use.map γ)
def pr (D : List PO) (k : Nat) (γ : Gh) : List Res := (po D k).res ((po D k).use.map γ)
def eaten (D : List PO) (L : Array Bool) (k : Nat) : Bool := (List.range D.length).any fun i => L.getD i false && (po D i).eat.contains k
def pick (p : Nat → Bool) (f : Nat → List Res) (n : Nat) : List Res := (List.range n).flatMap fun k => if p k = true then f k else []
/-- What stands, once these have come up. -/
def pR (D : List PO) (L : Array Bool) (γ : Gh) : List Res := pick (fun k => L.getD k false && !eaten D L k) (fun k => pr D k γ) D.length
def penv (D : List PO) (e : Env) (γ : Gh) : Env := (List.range D.length).foldl (fun e k => upd e (po D k).dst (pv D k γ)) e
def endL (n m : Nat) : Array Bool := ((List.range n).map fun i => Nat.blt i m).toArray
def chkPar (ops : Array Oper) (late : List Nat) (D : List PO) : Bool :=
  Nat.ble D.length ops.size && late.all (fun j => Nat.ble D.length j) &&
  (List.range D.length).all (fun i =>
    (match ops[i]? with | some o => o.after.toList.all fun e => !Region.binds .any e || Nat.blt e.on i | none => false) &&
    (po D i).use.all (fun j => j == i || after? ops ops.size i j) && (po D i).eat.all (fun k => Nat.blt k i && after? ops ops.size i k) &&
    (List.range D.length).all (fun k => k == i || (!((po D k).dst == (po D i).dst) && (po D i).eat.all fun j => !(po D k).eat.contains j)) &&
    ((List.range D.length).filter fun k => (po D i).eat.contains k) == (po D i).eat) &&
  (List.range ops.size).all fun j => Nat.blt j D.length || (List.range D.length).all fun i => after? ops ops.size j i

theorem pick_perm (p q : Nat → Bool) (f : Nat → List Res) : ∀ n, (pick p f n).Perm (pick (fun k => p k && q k) f n ++ pick (fun k => p k && !q k) f n)
  | 0 => List.Perm.refl _
  | n + 1 => by
    have ih := pick_perm p q f n
    unfold pick at *
    rw [List.range_succ, List.flatMap_append, List.flatMap_append, List.flatMap_append, List.flatMap_singleton, List.flatMap_singleton, List.flatMap_singleton]
    dsimp only at ih ⊢
    rcases Bool.eq_false_or_eq_true (p n) with hp | hp <;> rcases Bool.eq_false_or_eq_true (q n) with hq | hq <;> simp only [hp, hq, Bool.false_and, Bool.true_and, Bool.not_true, Bool.not_false, Bool.false_eq_true, if_true, if_false, List.append_nil]
    · refine (ih.append_right _).trans ?_
      rw [List.append_assoc, List.append_assoc]
      exact (List.perm_append_comm).append_left _
    · refine (ih.append_right _).trans ?_
      rw [List.append_assoc]
    · exact ih
    · exact ih
theorem pick_congr {p q : Nat → Bool} {f g : Nat → List Res} : ∀ {n : Nat}, (∀ k, k < n → p k = q k ∧ (p k = true → f k = g k)) → pick p f n = pick q g n
  | 0, _ => rfl
  | n + 1, h => by
    have ih := pick_congr (n := n) (p := p) (q := q) (f := f) (g := g) fun k hk => h k (Nat.lt_succ_of_lt hk)
    unfold pick at *
    rw [List.range_succ, List.flatMap_append, List.flatMap_append, List.flatMap_singleton, List.flatMap_singleton, ih]
    obtain ⟨h1, h2⟩ := h n (Nat.lt_succ_self n)
    rw [← h1]
    split
    · rename_i hp; rw [h2 hp]
    · rfl
theorem pick_filter (p : Nat → Bool) (f : Nat → List Res) : ∀ n, pick p f n = ((List.range n).filter p).flatMap f
  | 0 => rfl
  | n + 1 => by
    have ih := pick_filter p f n
    unfold pick at *
    rw [List.range_succ, List.flatMap_append, List.flatMap_singleton, ih, List.filter_append, List.flatMap_append]
    cases h : p n <;> simp [h]
theorem pick_one {f : Nat → List Res} {i : Nat} : ∀ {n : Nat}, i < n → pick (fun k => k == i) f n = f i := fun {n} hi => by
  rw [pick_filter]
  have : (List.range n).filter (fun k => k == i) = [i] := by
    have h1 := List.filter_beq (l := List.range n) (a := i)
    rw [h1, List.nodup_range.count, if_pos (List.mem_range.2 hi)]; rfl
  rw [this]; simp
theorem updG_ne (γ : Gh) {i j : Nat} (g : Option Addr × Nat) (h : j ≠ i) : updG γ i g j = γ j := if_neg h

section
variable {X : Ctx} {ops : Array Oper} {Q : QP} {e0 : Env} {σ : Store} {H0 : List Res} {late : List Nat} {f : Nat} {D : List PO}
/-- What is asked of an operation. -/
def PObl (X : Ctx) (ops : Array Oper) (σ : Store) (H0 : List Res) (e0 : Env) (D : List PO) (i : Nat) : Prop :=
  ∃ oi : Oper, ops[i]? = some oi ∧ oi.guard = none ∧ ∀ (e : Env) (γ : Gh) (F : List Res),
    (∀ k, after? ops ops.size i k = true → Nat.blt k D.length = true → e (po D k).dst = pv D k γ) → (∀ t, (D.map PO.dst).contains t = false → e t = e0 t) →
    OpOk X oi e σ ((po D i).eat.flatMap (fun k => pr D k γ) ++ (H0 ++ F)) fun e' σ' H' => σ' = σ ∧ ∃ g, e' = upd e (po D i).dst (pv D i (updG γ i g)) ∧ H'.Perm (pr D i (updG γ i g) ++ (H0 ++ F))
def PObls (X : Ctx) (ops : Array Oper) (σ : Store) (H0 : List Res) (e0 : Env) (D : List PO) : Nat → Prop
  | 0 => True
  | i + 1 => PObls X ops σ H0 e0 D i ∧ PObl X ops σ H0 e0 D i
theorem PObls.at : ∀ {n : Nat}, PObls X ops σ H0 e0 D n → ∀ {i : Nat}, i < n → PObl X ops σ H0 e0 D i
  | n + 1, h, i, hi => by
    rcases Nat.lt_succ_iff_lt_or_eq.1 hi with h1 | rfl
    · exact h.1.at h1
    · exact h.2
structure PJ (ops : Array Oper) (e0 : Env) (H0 : List Res) (D : List PO) (L : Array Bool) (γ : Gh) (e : Env) (H : List Res) : Prop where
  size : L.size = ops.size
  on : ∀ k, k < D.length → L.getD k false = true → e (po D k).dst = pv D k γ
  off : ∀ t, (∀ k, k < D.length → L.getD k false = true → (po D k).dst ≠ t) → e t = e0 t
  rest : ∀ j, D.length ≤ j → L.getD j false = false
  heap : H.Perm (H0 ++ pR D L γ)
theorem getD_ff {L : Array Bool} {i : Nat} (hi : i < L.size) : L.getD i true = L.getD i false := by
  simp [Array.getD_eq_getD_getElem?, hi]
structure ChkI (ops : Array Oper) (D : List PO) (i : Nat) : Prop where
  deps : ∃ o, ops[i]? = some o ∧ ∀ e ∈ o.after, Region.binds .any e = true → e.on < i
  use : ∀ j ∈ (po D i).use, j = i ∨ after? ops ops.size i j = true
  eat : ∀ j ∈ (po D i).eat, j < i ∧ after? ops ops.size i j = true
  dst : ∀ k, k < D.length → k ≠ i → (po D k).dst ≠ (po D i).dst
  sep : ∀ k, k < D.length → k ≠ i → ∀ j ∈ (po D i).eat, (po D k).eat.contains j = false
  ord : (List.range D.length).filter (fun k => (po D i).eat.contains k) = (po D i).eat
theorem chk_i (h : chkPar ops late D = true) {i : Nat} (hi : i < D.length) : ChkI ops D i := by
  simp only [chkPar, Bool.and_eq_true, List.all_eq_true, List.mem_range] at h
  have h2 := h.1.2 i hi
  obtain ⟨⟨⟨⟨h3, h4⟩, h5⟩, h6⟩, h7⟩ := h2
  refine ⟨?_, fun j hj => ?_, fun j hj => ?_, fun k hk hn => ?_, fun k hk hn j hj => ?_, by simpa using h7⟩
  · cases ho : ops[i]? with
    | none => rw [ho] at h3; cases h3
    | some o =>
      rw [ho] at h3
      refine ⟨o, rfl, fun e he hb => ?_⟩
      have := List.all_eq_true.1 h3 e (by simpa using he)
      simpa [hb, Nat.blt_eq] using this
  · have := h4 j hj; simpa using this
  · have := h5 j hj; simpa [Nat.blt_eq] using this
  · have := h6 k hk
    simp only [Bool.or_eq_true, beq_iff_eq, hn, false_or, Bool.and_eq_true, Bool.not_eq_true', beq_eq_false_iff_ne] at this
    exact this.1
  · have := h6 k hk
    simp only [Bool.or_eq_true, beq_iff_eq, hn, false_or, Bool.and_eq_true, Bool.not_eq_true', beq_eq_false_iff_ne, List.all_eq_true] at this
    exact this.2 j hj
theorem blt_t {a b : Nat} (h : a < b) : Nat.blt a b = true := by rw [Nat.blt_eq]; exact h
theorem blt_f {a b : Nat} (h : ¬ a < b) : Nat.blt a b = false := by rw [Bool.eq_false_iff]; intro hb; rw [Nat.blt_eq] at hb; exact h hb
theorem getD_endL {n m i : Nat} : (endL n m).getD i false = (Nat.blt i n && Nat.blt i m) := by
  unfold endL
  rw [Array.getD_eq_getD_getElem?, List.getElem?_toArray, List.getElem?_map]
  by_cases h : i < n
  · rw [List.getElem?_range h]
    rw [blt_t h]; rfl
  · have h' : Nat.blt i n = false := blt_f h
    rw [h', List.getElem?_eq_none (by simpa using h)]; rfl
theorem all_L {L : Array Bool} {n m : Nat} (hs : L.size = n) (h1 : ∀ k, k < m → L.getD k false = true) (h2 : ∀ j, m ≤ j → L.getD j false = false) : L = endL n m := by
  apply Array.ext
  · simp [endL, hs]
  · intro i hi hi2
    have e1 : L[i] = L.getD i false := by simp [Array.getD_eq_getD_getElem?, hi]
    have e2 : (endL n m)[i] = (endL n m).getD i false := by simp [Array.getD_eq_getD_getElem?, hi2]
    rw [e1, e2, getD_endL, blt_t (hs ▸ hi : i < n), Bool.true_and]
    by_cases c : i < m
    · rw [h1 i c, blt_t c]
    · rw [h2 i (Nat.le_of_not_lt c)]
      exact (blt_f c).symm
theorem penv_at (γ : Gh) : ∀ (n : Nat) (t : Nat), (∀ k j, k < n → j < n → k ≠ j → (po D k).dst ≠ (po D j).dst) →
    (∀ k, k < n → (po D k).dst = t → (List.range n).foldl (fun e k => upd e (po D k).dst (pv D k γ)) e0 t = pv D k γ) ∧ ((∀ k, k < n → (po D k).dst ≠ t) → (List.range n).foldl (fun e k => upd e (po D k).dst (pv D k γ)) e0 t = e0 t)
  | 0, t, _ => ⟨fun k hk => absurd hk (Nat.not_lt_zero _), fun _ => rfl⟩
  | n + 1, t, h => by
    obtain ⟨i1, i2⟩ := penv_at γ n t fun k j hk hj => h k j (Nat.lt_succ_of_lt hk) (Nat.lt_succ_of_lt hj)
    rw [List.range_succ, List.foldl_append, List.foldl_cons, List.foldl_nil]
    unfold upd at *
    refine ⟨fun k hk hd => ?_, fun hk => ?_⟩
    · by_cases c : k = n
      · subst c; rw [if_pos hd.symm]
      · have hk' : k < n := by omega
        rw [if_neg (fun he => h k n hk (Nat.lt_succ_self n) c (hd.trans he)), i1 k hk' hd]
    · rw [if_neg (fun he => hk n (Nat.lt_succ_self n) he.symm), i2 fun k hk' => hk k (Nat.lt_succ_of_lt hk')]
theorem least_off {L : Array Bool} : ∀ {m : Nat}, (∃ i, i < m ∧ L.getD i false = false) → ∃ i, i < m ∧ L.getD i false = false ∧ ∀ k, k < i → L.getD k false = true
  | 0, ⟨_, h, _⟩ => absurd h (Nat.not_lt_zero _)
  | m + 1, ⟨i, hi, h⟩ => by
    by_cases c : ∃ i, i < m ∧ L.getD i false = false
    · obtain ⟨j, h1, h2⟩ := least_off c
      exact ⟨j, by omega, h2⟩
    · have : i = m := by
        rcases Nat.lt_succ_iff_lt_or_eq.1 hi with h1 | h1
        · exact absurd ⟨i, h1, h⟩ c
        · exact h1
      subst this
      refine ⟨i, hi, h, fun k hk => ?_⟩
      cases hL : L.getD k false with
      | true => rfl
      | false => exact absurd ⟨k, hk, hL⟩ c
theorem pv_keep {γ : Gh} {i k : Nat} {g : Option Addr × Nat} (h : i ∉ (po D k).use) : pv D k (updG γ i g) = pv D k γ := by
  unfold pv
  congr 1
  exact List.map_congr_left fun j hj => updG_ne γ g fun he => h (he ▸ hj)
theorem pr_keep {γ : Gh} {i k : Nat} {g : Option Addr × Nat} (h : i ∉ (po D k).use) : pr D k (updG γ i g) = pr D k γ := by
  unfold pr
  congr 1
  exact List.map_congr_left fun j hj => updG_ne γ g fun he => h (he ▸ hj)

theorem par_go (hc : chkPar ops late D = true) (hOb : PObls X ops σ H0 e0 D D.length) (hE : ∀ γ, TA X ops Q σ H0 late f (endL ops.size D.length) (penv D e0 γ) σ (H0 ++ pR D (endL ops.size D.length) γ)) :
    ∀ (u : Nat) (L : Array Bool) (γ : Gh) (e : Env) (H : List Res), ((List.range D.length).filter fun k => !L.getD k false).length = u → PJ ops e0 H0 D L γ e H → TA X ops Q σ H0 late (u + f) L e σ H := by
  have hc' := hc
  simp only [chkPar, Bool.and_eq_true, List.all_eq_true, List.mem_range, Nat.ble_eq] at hc'
  obtain ⟨⟨⟨hm, hlate⟩, _⟩, hlast⟩ := hc'
  intro u
  induction u with
  | zero =>
    intro L γ e H hu J
    have hall : ∀ k, k < D.length → L.getD k false = true := fun k hk => by
      cases hL : L.getD k false with
      | true => rfl
      | false =>
        have : k ∈ (List.range D.length).filter fun k => !L.getD k false := List.mem_filter.2 ⟨List.mem_range.2 hk, by rw [hL]; rfl⟩
        rw [List.length_eq_zero_iff.1 hu] at this; cases this
    obtain rfl := all_L J.size hall J.rest
    have he : e = penv D e0 γ := by
      funext t
      have := penv_at (D := D) (e0 := e0) γ D.length t fun k j hk hj hn => (chk_i hc hj).dst k hk hn
      by_cases c : ∃ k, k < D.length ∧ (po D k).dst = t
      · obtain ⟨k, hk, hd⟩ := c
        rw [show penv D e0 γ t = pv D k γ from this.1 k hk hd, ← hd]
        exact J.on k hk (hall k hk)
      · rw [show penv D e0 γ t = e0 t from this.2 fun k hk hd => c ⟨k, hk, hd⟩]
        exact J.off t fun k hk _ hd => c ⟨k, hk, hd⟩
    subst he
    rw [Nat.zero_add]
    intro hnd w a hw hS hcl ha
    exact hE γ hnd w a (hw.perm J.heap.symm) hS hcl ha
  | succ u ih =>
    intro L γ e H hu J
    rw [show u + 1 + f = (u + f) + 1 by omega]
    intro hnd w a hw hS hcl ha
    have hoff : ∃ i, i < D.length ∧ L.getD i false = false := by
      cases hl : (List.range D.length).filter fun k => !L.getD k false with
      | nil => rw [hl] at hu; cases hu
      | cons i r =>
        have : i ∈ (List.range D.length).filter fun k => !L.getD k false := by rw [hl]; exact List.mem_cons_self
        obtain ⟨h1, h2⟩ := List.mem_filter.1 this
        exact ⟨i, List.mem_range.1 h1, by simpa using h2⟩
    have hne : Region.ready .any ops L ≠ [] := by
      obtain ⟨i, hi, h1, h2⟩ := least_off hoff
      obtain ⟨o, ho, hd⟩ := (chk_i hc hi).deps
      have : i ∈ Region.ready .any ops L := mem_ready.2 ⟨by rw [getD_ff (by rw [J.size]; omega)]; exact h1, o, ho, fun e he hb => h2 _ (hd e he hb)⟩
      intro h0; rw [h0] at this; cases this
    refine ⟨fun h0 => absurd h0 hne, fun j hj => ?_⟩
    have hst := hcl.step hj
    obtain ⟨hju, o, ho, hdl⟩ := mem_ready.1 hj
    have hjs : j < L.size := by
      rcases Nat.lt_or_ge j L.size with h | h
      · exact h
      · simp [Array.getD_eq_getD_getElem?, Array.getElem?_eq_none h] at hju
    have hju' : L.getD j false = false := by rw [← getD_ff hjs]; exact hju
    have hlist : ∀ k, after? ops ops.size j k = true → L.getD k false = true := fun k hk => hcl.after _ j k (fun o' ho' => by rw [ho] at ho'; cases ho'; exact hdl) hk
    have hjm : j < D.length := by
      rcases Nat.lt_or_ge j D.length with h | h
      · exact h
      · exfalso
        obtain ⟨i, hi, h1⟩ := hoff
        have := hlast j (by rw [← J.size]; exact hjs)
        simp only [Bool.or_eq_true, List.all_eq_true, List.mem_range, Nat.blt_eq] at this
        rcases this with h2 | h2
        · omega
        · rw [hlist i (h2 i hi)] at h1; cases h1
    have C := chk_i hc hjm
    obtain ⟨oi, hi, hg, hob⟩ := hOb.at hjm
    have hF : (pR D L γ).Perm ((po D j).eat.flatMap (fun k => pr D k γ) ++ pick (fun k => (L.getD k false && !eaten D L k) && !(po D j).eat.contains k) (fun k => pr D k γ) D.length) := by
      refine (pick_perm _ (fun k => (po D j).eat.contains k) _ _).trans ?_
      refine List.Perm.append_right _ ?_
      have : pick (fun k => (L.getD k false && !eaten D L k) && (po D j).eat.contains k) (fun k => pr D k γ) D.length = (po D j).eat.flatMap fun k => pr D k γ := by
        rw [← C.ord, ← pick_filter, C.ord]
        refine pick_congr fun k hk => ⟨?_, fun _ => rfl⟩
        cases hct : (po D j).eat.contains k with
        | false => rw [Bool.and_false]
        | true =>
          have hmem : k ∈ (po D j).eat := by simpa using hct
          have h1 := hlist k (C.eat k hmem).2
          have h2 : eaten D L k = false := by
            rw [Bool.eq_false_iff]
            intro he
            obtain ⟨i, hi', h3⟩ := List.any_eq_true.1 he
            simp only [Bool.and_eq_true] at h3
            have hij : i ≠ j := fun h => by rw [h, hju'] at h3; cases h3.1
            have := C.sep i (List.mem_range.1 hi') hij k hmem
            rw [this] at h3; cases h3.2
          rw [h1, h2]; rfl
      rw [this]
    generalize hFe : pick (fun k => (L.getD k false && !eaten D L k) && !(po D j).eat.contains k) (fun k => pr D k γ) D.length = F at hF
    have hw' := hw.perm (J.heap.trans ((hF.append_left H0).trans (List.perm_append_comm_assoc _ _ _))).symm
    refine wpOp_of hi hg ((hob e γ F (fun k hk hkm => J.on k (by simpa [Nat.blt_eq] using hkm) (hlist k hk)) (fun t ht => J.off t fun k hk _ hd => ?_)).at hw' ha fun e' σ' H' a' w' hk hw'' ha' => ?_)
    · subst hd
      have : (po D k).dst ∈ D.map PO.dst := by
        refine List.mem_map.2 ⟨po D k, ?_, rfl⟩
        unfold po
        rw [List.getD_eq_getElem?_getD, List.getElem?_eq_getElem hk]
        exact List.getElem_mem hk
      rw [List.contains_iff_mem.2 this] at ht; cases ht
    · obtain ⟨rfl, g, rfl, hH'⟩ := hk
      have hs : Sees σ' H0 w' := sees_of (Store.le.refl _) (fun r hr => hH'.mem_iff.2 (List.mem_append_right _ (List.mem_append_left _ hr))) w' hw''.sees
      refine ⟨fun _ _ => hs, ih (L.setIfInBounds j true) (updG γ j g) _ H' ?_ ?_ hnd w' a' hw'' hs hst ha'⟩
      · have hset : ∀ k, (L.setIfInBounds j true).getD k false = (k == j || L.getD k false) := fun k => by
          by_cases c : k = j
          · subst c; simp [Array.getD_eq_getD_getElem?, hjs]
          · rw [getD_set_ne false (Ne.symm c)]; simp [c]
        have hp : ((List.range D.length).filter fun k => !L.getD k false).Perm (j :: (List.range D.length).filter fun k => !(L.setIfInBounds j true).getD k false) := by
          rw [List.perm_iff_count]
          intro k
          have nd : ∀ p : Nat → Bool, ((List.range D.length).filter p).count k = if k < D.length ∧ p k = true then 1 else 0 := fun p => by
            by_cases c : k < D.length ∧ p k = true
            · rw [if_pos c]; rw [List.Nodup.count (List.nodup_range.filter _), if_pos (List.mem_filter.2 ⟨List.mem_range.2 c.1, c.2⟩)]
            · rw [if_neg c]; exact List.count_eq_zero.2 fun h => c ⟨List.mem_range.1 (List.mem_filter.1 h).1, (List.mem_filter.1 h).2⟩
          rw [List.count_cons, nd, nd, hset]
          by_cases c : k = j
          · subst c; simp [hju', hjm]
          · have c' : (j == k) = false := by simpa using Ne.symm c
            have c2 : (k == j) = false := by simpa using c
            simp [c', c2]
        have := hp.length_eq
        rw [hu, List.length_cons] at this
        omega
      · have hset : ∀ k, (L.setIfInBounds j true).getD k false = (k == j || L.getD k false) := fun k => by
          by_cases c : k = j
          · subst c; simp [Array.getD_eq_getD_getElem?, hjs]
          · rw [getD_set_ne false (Ne.symm c)]; simp [c]
        have huse : ∀ k, k < D.length → k ≠ j → L.getD k false = true → j ∉ (po D k).use := fun k hk hn hL hm' => by
          rcases (chk_i hc hk).use j hm' with h | h
          · exact hn h.symm
          · obtain ⟨o', ho', _⟩ := (chk_i hc hk).deps
            have := hcl.after _ k j (fun o'' ho'' => hcl k o'' ho'' hL) h
            rw [hju'] at this; cases this
        have hnot : eaten D (L.setIfInBounds j true) j = false := by
          rw [Bool.eq_false_iff]
          intro he
          obtain ⟨i, hi', h3⟩ := List.any_eq_true.1 he
          simp only [Bool.and_eq_true, hset] at h3
          have hmem : j ∈ (po D i).eat := by simpa using h3.2
          have h4 := (chk_i hc (List.mem_range.1 hi')).eat j hmem
          have hij : i ≠ j := by omega
          have hLi : L.getD i false = true := by simpa [hij] using h3.1
          have := hcl.after _ i j (fun o'' ho'' => hcl i o'' ho'' hLi) h4.2
          rw [hju'] at this; cases this
        refine ⟨by rw [Array.size_setIfInBounds]; exact J.size, fun k hk hL => ?_, fun t ht => ?_, fun k hk => ?_, ?_⟩
        · by_cases c : k = j
          · subst c; exact if_pos rfl
          · have hL' : L.getD k false = true := by rw [hset] at hL; simpa [c] using hL
            rw [pv_keep (huse k hk c hL'), ← J.on k hk hL']
            exact if_neg (C.dst k hk c)
        · have h1 : t ≠ (po D j).dst := fun h => ht j hjm (by rw [hset]; simp) h.symm
          rw [show upd e (po D j).dst (pv D j (updG γ j g)) t = e t from if_neg h1]
          exact J.off t fun k hk hL => ht k hk (by rw [hset, hL, Bool.or_true])
        · rw [hset, J.rest k hk, Bool.or_false]; simp; omega
        · refine hH'.trans ?_
          refine (List.perm_append_comm_assoc _ _ _).trans (List.Perm.append_left _ ?_)
          refine List.Perm.trans ?_ (pick_perm _ (fun k => k == j) _ _).symm
          refine List.Perm.append ?_ ?_
          · rw [← pick_one (f := fun k => pr D k (updG γ j g)) hjm]
            rw [pick_congr (n := D.length) (p := fun k => k == j) (q := fun k => ((L.setIfInBounds j true).getD k false && !eaten D (L.setIfInBounds j true) k) && k == j) (f := fun k => pr D k (updG γ j g)) (g := fun k => pr D k (updG γ j g))]
            intro k hk
            refine ⟨?_, fun _ => rfl⟩
            by_cases c : k = j
            · subst c; simp [hset, hnot]
            · simp [c]
          · rw [← hFe]
            rw [pick_congr (n := D.length) (q := fun k => ((L.setIfInBounds j true).getD k false && !eaten D (L.setIfInBounds j true) k) && !(k == j)) (g := fun k => pr D k (updG γ j g))]
            intro k hk
            have heat : eaten D (L.setIfInBounds j true) k = (eaten D L k || (po D j).eat.contains k) := by
              rw [Bool.eq_iff_iff]
              simp only [eaten, Bool.or_eq_true, List.any_eq_true, Bool.and_eq_true, List.mem_range]
              constructor
              · rintro ⟨i, hi', h1, h2⟩
                by_cases c : i = j
                · subst c; exact .inr h2
                · exact .inl ⟨i, hi', by rw [hset] at h1; simpa [c] using h1, h2⟩
              · rintro (⟨i, hi', h1, h2⟩ | h2)
                · exact ⟨i, hi', by rw [hset, h1, Bool.or_true], h2⟩
                · exact ⟨j, hjm, by rw [hset]; simp, h2⟩
            by_cases c : k = j
            · subst c; rw [hju']; simp
            · have c2 : (k == j) = false := by simpa using c
              refine ⟨?_, fun hp => ?_⟩
              · simp only [hset, heat, c2, Bool.false_or, Bool.not_false, Bool.and_true, Bool.not_or, Bool.and_assoc]
              · have hL' : L.getD k false = true := by
                  simp only [Bool.and_eq_true] at hp; exact hp.1.1
                exact (pr_keep (huse k hk c hL')).symm

/-- A drawn region whose operations do not meet; then the late ones. -/
theorem TA.par {E : Env → Gh → Env} {Hn : Gh → List Res} {n : Nat} (D : List PO) (hOb : PObls X ops σ H0 e0 D D.length)
    (hEnd : ∀ γ, TA X ops Q σ H0 late f (endL ops.size D.length) (E e0 γ) σ (Hn γ))
    (hc : chkPar ops late D = true := by kernel_rfl) (hE : ∀ e γ, E e γ = penv D e γ := by intro e γ; rfl) (hH : ∀ γ, Hn γ = H0 ++ pR D (endL ops.size D.length) γ := by intro γ; rfl) (hn : n = D.length + f := by rfl) :
    TA X ops Q σ H0 late n (Array.replicate ops.size false) e0 σ H0 := by
  subst hn
  have hfalse : ∀ k, (Array.replicate ops.size false).getD k false = false := fun k => by
    rw [Array.getD_eq_getD_getElem?, Array.getElem?_replicate]; split <;> rfl
  refine par_go hc hOb (fun γ => by rw [← hE, ← hH]; exact hEnd γ) D.length _ (fun _ => (none, 0)) e0 H0 ?_ ⟨by simp, fun k _ h => ?_, fun _ _ => rfl, fun j _ => hfalse j, ?_⟩
  · rw [List.filter_eq_self.2 fun k _ => by rw [hfalse]; rfl, List.length_range]
  · rw [hfalse] at h; cases h
  · have : pR D (Array.replicate ops.size false) (fun _ => (none, 0)) = [] := by
      unfold pR
      rw [pick_filter, List.filter_eq_nil_iff.2 fun k _ => by rw [hfalse]; simp]; rfl
    rw [this, List.append_nil]
end
end Go.E
end

/- Glb -/
section
/- Tables of the program's own that nobody turns. Plain lemmas over any program; no condition. -/
set_option linter.unusedVariables false
set_option linter.unusedSimpArgs false
namespace Go.E
open Go

end Go.E
end

/- P3 -/
section
/- Decompiled: what the laws on two ways look at. -/
set_option linter.unusedVariables false
set_option linter.unusedSimpArgs false
namespace Go.Proofs.Ytcfjjckencjjeaa
open Go Go.E Go.E.OpVal Go.E.OpOk Go.Proofs.Try
set_option maxRecDepth 100000
private theorem pf11 : Go.E.plainF Try.prog 11 = true := by kernel_rfl
private theorem pf20 : Go.E.plainF Try.prog 20 = true := by kernel_rfl
private theorem pf6 : Go.E.plainF Try.prog 6 = true := by kernel_rfl
private theorem pf7 : Go.E.plainF Try.prog 7 = true := by kernel_rfl
private theorem pl56 : Go.E.plOf Try.prog 56 = some #[(0, 1), (1, 1), (2, 4), (6, 1), (7, 1)] := by kernel_rfl
private theorem pl66 : Go.E.plOf Try.prog 66 = some #[(0, 1), (1, 1)] := by kernel_rfl

noncomputable def whittlelaw20_fork (x0 : List UInt8) (x1 : List UInt8) : Option (Fst) :=
 grd (x0.length ≤ 281474976710656) (grd (x1.length ≤ 281474976710656) (grd ([(97 : UInt8)].length ≤ 1000000000000) (grd ([(98 : UInt8)].length ≤ 1000000000000) (grd ([(99 : UInt8)].length ≤ 1000000000000) (some (⟨3, [(⟨0, ([] : List UInt8)⟩ : Tip), (⟨1, ([] : List UInt8)⟩ : Tip)], [(⟨2, ([] : List UInt8)⟩ : Tip)], [(⟨0, 0, (BSet.ofL [(97 : UInt8)]), x0, false⟩ : Arc), (⟨1, 1, (BSet.ofL [(97 : UInt8)]), x1, false⟩ : Arc), (⟨0, 2, (BSet.ofL [(98 : UInt8)]), ([] : List UInt8), false⟩ : Arc), (⟨1, 2, (BSet.ofL [(99 : UInt8)]), ([] : List UInt8), false⟩ : Arc)]⟩ : Fst))))))
def whittlelaw20_fork_P (σ : Store) (r : Fst) : Value → Store → List Res → Prop := fun v σ' H' =>
 ∃ (a1 : Option Addr), ∃ (c1 : Nat), ∃ (a2 : Option Addr), ∃ (c2 : Nat), ∃ (a3 : Option Addr), ∃ (c3 : Nat),  v = .agg #[.int .i64 r.states, .slice a1 r.starts.length c1, .slice a2 r.ends.length c2, .slice a3 r.arcs.length c3] ∧ RS σ' 2 encTip (.slice a1 r.starts.length c1) r.starts ∧ RS σ' 2 encTip (.slice a2 r.ends.length c2) r.ends ∧ RS σ' 8 encArc (.slice a3 r.arcs.length c3) r.arcs ∧ H' = []
set_option maxHeartbeats 8000000 in
theorem whittlelaw20_fork_con {σ : Store} {x0 : List UInt8} {x1 : List UInt8}  {r : Fst} (hh : whittlelaw20_fork x0 x1 = some r) :
  Con Try.prog 7 #[.string (bs x0), .string (bs x1)] σ [] (whittlelaw20_fork_P σ r) := by
 dsimp only [whittlelaw20_fork] at hh
 refine Con.mk (n := 27) Try.func7 z z z (fun w0 => ?_)
 have x0b := grd_c hh
 replace hh := grd_t hh
 have x1b := grd_c hh
 replace hh := grd_t hh
 refine TC.a (TL.op z (OpOk.alloc z ze28 z z (fun b101 => ?_)))
 refine TL.en (TC.a (TL.op z (OpOk.lit (enc := encU8) [(97 : UInt8)] z underlying82 sz5 ze5 z z z encU8_len (by decide) (by decide) (0 : UInt8) z (by decide) z (by decide) encU8_one (fun a103 c104 => ?_))))
 have u3 := grd_c hh
 replace hh := grd_t hh
 refine TL.op z (callT (of_con _ _ _ [(97 : UInt8)] u3) z z pf20 z z z z ?_)
 refine TL.op z (OpOk.alloc z ze54 z z (fun b106 => ?_))
 refine TL.op z (storeAll z sz54 z z z z z z ?_)
 refine TL.en (TC.seq ?_)
 have u18 := grd_c hh
 replace hh := grd_t hh
 have u21 := grd_c hh
 replace hh := grd_t hh
 refine TC.draw [19] (by kernel_rfl) (TA.par (f := 1) (E := fun e γ => upd (upd (upd (upd (upd (upd (upd (upd (upd (upd (upd (upd (upd (upd (upd (upd (upd (upd (upd (e) 8 (.agg #[.int .i64 0, .string (bs ([] : List UInt8))])) 9 (.agg #[.int .i64 1, .string (bs ([] : List UInt8))])) 10 (.slice (γ 2).1 ([(⟨0, ([] : List UInt8)⟩ : Tip), (⟨1, ([] : List UInt8)⟩ : Tip)].length) (γ 2).2)) 11 (.agg #[.int .i64 2, .string (bs ([] : List UInt8))])) 12 (.slice (γ 4).1 ([(⟨2, ([] : List UInt8)⟩ : Tip)].length) (γ 4).2)) 13 (setV (BSet.ofL [(97 : UInt8)]))) 14 (.string (bs x0))) 15 (.agg #[.int .i64 0, .int .i64 0, .int .u64 (((BSet.ofL [(97 : UInt8)]).a : Nat) : Int), .int .u64 (((BSet.ofL [(97 : UInt8)]).b : Nat) : Int), .int .u64 (((BSet.ofL [(97 : UInt8)]).c : Nat) : Int), .int .u64 (((BSet.ofL [(97 : UInt8)]).d : Nat) : Int), .string (bs x0), .bool false])) 16 (setV (BSet.ofL [(97 : UInt8)]))) 17 (.string (bs x1))) 18 (.agg #[.int .i64 1, .int .i64 1, .int .u64 (((BSet.ofL [(97 : UInt8)]).a : Nat) : Int), .int .u64 (((BSet.ofL [(97 : UInt8)]).b : Nat) : Int), .int .u64 (((BSet.ofL [(97 : UInt8)]).c : Nat) : Int), .int .u64 (((BSet.ofL [(97 : UInt8)]).d : Nat) : Int), .string (bs x1), .bool false])) 19 (.slice (γ 11).1 ([(98 : UInt8)].length) (γ 11).2)) 20 (setV (BSet.ofL [(98 : UInt8)]))) 21 (.agg #[.int .i64 0, .int .i64 2, .int .u64 (((BSet.ofL [(98 : UInt8)]).a : Nat) : Int), .int .u64 (((BSet.ofL [(98 : UInt8)]).b : Nat) : Int), .int .u64 (((BSet.ofL [(98 : UInt8)]).c : Nat) : Int), .int .u64 (((BSet.ofL [(98 : UInt8)]).d : Nat) : Int), .string (bs ([] : List UInt8)), .bool false])) 22 (.slice (γ 14).1 ([(99 : UInt8)].length) (γ 14).2)) 23 (setV (BSet.ofL [(99 : UInt8)]))) 24 (.agg #[.int .i64 1, .int .i64 2, .int .u64 (((BSet.ofL [(99 : UInt8)]).a : Nat) : Int), .int .u64 (((BSet.ofL [(99 : UInt8)]).b : Nat) : Int), .int .u64 (((BSet.ofL [(99 : UInt8)]).c : Nat) : Int), .int .u64 (((BSet.ofL [(99 : UInt8)]).d : Nat) : Int), .string (bs ([] : List UInt8)), .bool false])) 25 (.slice (γ 17).1 ([(⟨0, 0, (BSet.ofL [(97 : UInt8)]), x0, false⟩ : Arc), (⟨1, 1, (BSet.ofL [(97 : UInt8)]), x1, false⟩ : Arc), (⟨0, 2, (BSet.ofL [(98 : UInt8)]), ([] : List UInt8), false⟩ : Arc), (⟨1, 2, (BSet.ofL [(99 : UInt8)]), ([] : List UInt8), false⟩ : Arc)].length) (γ 17).2)) 26 (.agg #[.int .i64 3, .slice (γ 2).1 ([(⟨0, ([] : List UInt8)⟩ : Tip), (⟨1, ([] : List UInt8)⟩ : Tip)].length) (γ 2).2, .slice (γ 4).1 ([(⟨2, ([] : List UInt8)⟩ : Tip)].length) (γ 4).2, .slice (γ 17).1 ([(⟨0, 0, (BSet.ofL [(97 : UInt8)]), x0, false⟩ : Arc), (⟨1, 1, (BSet.ofL [(97 : UInt8)]), x1, false⟩ : Arc), (⟨0, 2, (BSet.ofL [(98 : UInt8)]), ([] : List UInt8), false⟩ : Arc), (⟨1, 2, (BSet.ofL [(99 : UInt8)]), ([] : List UInt8), false⟩ : Arc)].length) (γ 17).2])) (Hn := fun γ => [Res.cells b106 (setA (BSet.ofL [(97 : UInt8)])) 54, Res.cells b101 #[.int .i64 0, .slice none 0 0, .slice none 0 0, .slice none 0 0] 28, Res.rowS 66 2 encTip (.slice (γ 2).1 [(⟨0, ([] : List UInt8)⟩ : Tip), (⟨1, ([] : List UInt8)⟩ : Tip)].length (γ 2).2) [(⟨0, ([] : List UInt8)⟩ : Tip), (⟨1, ([] : List UInt8)⟩ : Tip)], Res.rowS 66 2 encTip (.slice (γ 4).1 [(⟨2, ([] : List UInt8)⟩ : Tip)].length (γ 4).2) [(⟨2, ([] : List UInt8)⟩ : Tip)], Res.rowS 56 8 encArc (.slice (γ 17).1 [(⟨0, 0, (BSet.ofL [(97 : UInt8)]), x0, false⟩ : Arc), (⟨1, 1, (BSet.ofL [(97 : UInt8)]), x1, false⟩ : Arc), (⟨0, 2, (BSet.ofL [(98 : UInt8)]), ([] : List UInt8), false⟩ : Arc), (⟨1, 2, (BSet.ofL [(99 : UInt8)]), ([] : List UInt8), false⟩ : Arc)].length (γ 17).2) [(⟨0, 0, (BSet.ofL [(97 : UInt8)]), x0, false⟩ : Arc), (⟨1, 1, (BSet.ofL [(97 : UInt8)]), x1, false⟩ : Arc), (⟨0, 2, (BSet.ofL [(98 : UInt8)]), ([] : List UInt8), false⟩ : Arc), (⟨1, 2, (BSet.ofL [(99 : UInt8)]), ([] : List UInt8), false⟩ : Arc)]]) [⟨8, [], fun _ => .agg #[.int .i64 0, .string (bs ([] : List UInt8))], fun _ => [], []⟩, ⟨9, [], fun _ => .agg #[.int .i64 1, .string (bs ([] : List UInt8))], fun _ => [], []⟩, ⟨10, [2], fun l => match l with | [(a123, c124)] => .slice a123 ([(⟨0, ([] : List UInt8)⟩ : Tip), (⟨1, ([] : List UInt8)⟩ : Tip)].length) c124 | _ => undef, fun l => match l with | [(a123, c124)] => [Res.rowS 66 2 encTip (.slice a123 [(⟨0, ([] : List UInt8)⟩ : Tip), (⟨1, ([] : List UInt8)⟩ : Tip)].length c124) [(⟨0, ([] : List UInt8)⟩ : Tip), (⟨1, ([] : List UInt8)⟩ : Tip)]] | _ => [], []⟩, ⟨11, [], fun _ => .agg #[.int .i64 2, .string (bs ([] : List UInt8))], fun _ => [], []⟩, ⟨12, [4], fun l => match l with | [(a126, c127)] => .slice a126 ([(⟨2, ([] : List UInt8)⟩ : Tip)].length) c127 | _ => undef, fun l => match l with | [(a126, c127)] => [Res.rowS 66 2 encTip (.slice a126 [(⟨2, ([] : List UInt8)⟩ : Tip)].length c127) [(⟨2, ([] : List UInt8)⟩ : Tip)]] | _ => [], []⟩, ⟨13, [], fun _ => setV (BSet.ofL [(97 : UInt8)]), fun _ => [], []⟩, ⟨14, [], fun _ => .string (bs x0), fun _ => [], []⟩, ⟨15, [], fun _ => .agg #[.int .i64 0, .int .i64 0, .int .u64 (((BSet.ofL [(97 : UInt8)]).a : Nat) : Int), .int .u64 (((BSet.ofL [(97 : UInt8)]).b : Nat) : Int), .int .u64 (((BSet.ofL [(97 : UInt8)]).c : Nat) : Int), .int .u64 (((BSet.ofL [(97 : UInt8)]).d : Nat) : Int), .string (bs x0), .bool false], fun _ => [], []⟩, ⟨16, [], fun _ => setV (BSet.ofL [(97 : UInt8)]), fun _ => [], []⟩, ⟨17, [], fun _ => .string (bs x1), fun _ => [], []⟩, ⟨18, [], fun _ => .agg #[.int .i64 1, .int .i64 1, .int .u64 (((BSet.ofL [(97 : UInt8)]).a : Nat) : Int), .int .u64 (((BSet.ofL [(97 : UInt8)]).b : Nat) : Int), .int .u64 (((BSet.ofL [(97 : UInt8)]).c : Nat) : Int), .int .u64 (((BSet.ofL [(97 : UInt8)]).d : Nat) : Int), .string (bs x1), .bool false], fun _ => [], []⟩, ⟨19, [11], fun l => match l with | [(a129, c130)] => .slice a129 ([(98 : UInt8)].length) c130 | _ => undef, fun l => match l with | [(a129, c130)] => [Res.rowS 5 1 encU8 (.slice a129 [(98 : UInt8)].length c130) [(98 : UInt8)]] | _ => [], []⟩, ⟨20, [], fun _ => setV (BSet.ofL [(98 : UInt8)]), fun _ => [], [11]⟩, ⟨21, [], fun _ => .agg #[.int .i64 0, .int .i64 2, .int .u64 (((BSet.ofL [(98 : UInt8)]).a : Nat) : Int), .int .u64 (((BSet.ofL [(98 : UInt8)]).b : Nat) : Int), .int .u64 (((BSet.ofL [(98 : UInt8)]).c : Nat) : Int), .int .u64 (((BSet.ofL [(98 : UInt8)]).d : Nat) : Int), .string (bs ([] : List UInt8)), .bool false], fun _ => [], []⟩, ⟨22, [14], fun l => match l with | [(a132, c133)] => .slice a132 ([(99 : UInt8)].length) c133 | _ => undef, fun l => match l with | [(a132, c133)] => [Res.rowS 5 1 encU8 (.slice a132 [(99 : UInt8)].length c133) [(99 : UInt8)]] | _ => [], []⟩, ⟨23, [], fun _ => setV (BSet.ofL [(99 : UInt8)]), fun _ => [], [14]⟩, ⟨24, [], fun _ => .agg #[.int .i64 1, .int .i64 2, .int .u64 (((BSet.ofL [(99 : UInt8)]).a : Nat) : Int), .int .u64 (((BSet.ofL [(99 : UInt8)]).b : Nat) : Int), .int .u64 (((BSet.ofL [(99 : UInt8)]).c : Nat) : Int), .int .u64 (((BSet.ofL [(99 : UInt8)]).d : Nat) : Int), .string (bs ([] : List UInt8)), .bool false], fun _ => [], []⟩, ⟨25, [17], fun l => match l with | [(a135, c136)] => .slice a135 ([(⟨0, 0, (BSet.ofL [(97 : UInt8)]), x0, false⟩ : Arc), (⟨1, 1, (BSet.ofL [(97 : UInt8)]), x1, false⟩ : Arc), (⟨0, 2, (BSet.ofL [(98 : UInt8)]), ([] : List UInt8), false⟩ : Arc), (⟨1, 2, (BSet.ofL [(99 : UInt8)]), ([] : List UInt8), false⟩ : Arc)].length) c136 | _ => undef, fun l => match l with | [(a135, c136)] => [Res.rowS 56 8 encArc (.slice a135 [(⟨0, 0, (BSet.ofL [(97 : UInt8)]), x0, false⟩ : Arc), (⟨1, 1, (BSet.ofL [(97 : UInt8)]), x1, false⟩ : Arc), (⟨0, 2, (BSet.ofL [(98 : UInt8)]), ([] : List UInt8), false⟩ : Arc), (⟨1, 2, (BSet.ofL [(99 : UInt8)]), ([] : List UInt8), false⟩ : Arc)].length c136) [(⟨0, 0, (BSet.ofL [(97 : UInt8)]), x0, false⟩ : Arc), (⟨1, 1, (BSet.ofL [(97 : UInt8)]), x1, false⟩ : Arc), (⟨0, 2, (BSet.ofL [(98 : UInt8)]), ([] : List UInt8), false⟩ : Arc), (⟨1, 2, (BSet.ofL [(99 : UInt8)]), ([] : List UInt8), false⟩ : Arc)]] | _ => [], []⟩, ⟨26, [2, 4, 17], fun l => match l with | [(a123, c124), (a126, c127), (a135, c136)] => .agg #[.int .i64 3, .slice a123 ([(⟨0, ([] : List UInt8)⟩ : Tip), (⟨1, ([] : List UInt8)⟩ : Tip)].length) c124, .slice a126 ([(⟨2, ([] : List UInt8)⟩ : Tip)].length) c127, .slice a135 ([(⟨0, 0, (BSet.ofL [(97 : UInt8)]), x0, false⟩ : Arc), (⟨1, 1, (BSet.ofL [(97 : UInt8)]), x1, false⟩ : Arc), (⟨0, 2, (BSet.ofL [(98 : UInt8)]), ([] : List UInt8), false⟩ : Arc), (⟨1, 2, (BSet.ofL [(99 : UInt8)]), ([] : List UInt8), false⟩ : Arc)].length) c136] | _ => undef, fun _ => [], []⟩] (And.intro (And.intro (And.intro (And.intro (And.intro (And.intro (And.intro (And.intro (And.intro (And.intro (And.intro (And.intro (And.intro (And.intro (And.intro (And.intro (And.intro (And.intro (And.intro (True.intro) ?_) ?_) ?_) ?_) ?_) ?_) ?_) ?_) ?_) ?_) ?_) ?_) ?_) ?_) ?_) ?_) ?_) ?_) ?_) (fun γ => ?_))
 ·refine ⟨_, z, z, fun e γ F hd ho => ?_⟩
  show OpOk _ _ _ _ ((Res.cells b106 (setA (BSet.ofL [(97 : UInt8)])) 54) :: (Res.cells b101 #[.int .i64 0, .slice none 0 0, .slice none 0 0, .slice none 0 0] 28) :: F) _
  exact OpVal.ok (buildL z pl66 ze66 z) z z ⟨z, (none, 0), z, List.Perm.refl _⟩
 ·refine ⟨_, z, z, fun e γ F hd ho => ?_⟩
  show OpOk _ _ _ _ ((Res.cells b106 (setA (BSet.ofL [(97 : UInt8)])) 54) :: (Res.cells b101 #[.int .i64 0, .slice none 0 0, .slice none 0 0, .slice none 0 0] 28) :: F) _
  exact OpVal.ok (buildL z pl66 ze66 z) z z ⟨z, (none, 0), z, List.Perm.refl _⟩
 ·refine ⟨_, z, z, fun e γ F hd ho => ?_⟩
  rw [← upds_of_has (e := e) (l := [(8, .agg #[.int .i64 0, .string (bs ([] : List UInt8))]), (9, .agg #[.int .i64 1, .string (bs ([] : List UInt8))])]) ⟨hd 0 (by kernel_rfl) rfl, hd 1 (by kernel_rfl) rfl, trivial⟩]
  show OpOk _ _ _ _ ((Res.cells b106 (setA (BSet.ofL [(97 : UInt8)])) 54) :: (Res.cells b101 #[.int .i64 0, .slice none 0 0, .slice none 0 0, .slice none 0 0] 28) :: F) _
  exact OpOk.lit (enc := encTip) [(⟨0, ([] : List UInt8)⟩ : Tip), (⟨1, ([] : List UInt8)⟩ : Tip)] z underlying25 sz66 ze66 z z z encTip_len (by decide) (by decide) Tip.zero z (by decide) z (by decide) encTip_one (fun a138 c139 => ⟨z, (a138, c139), z, List.Perm.refl _⟩)
 ·refine ⟨_, z, z, fun e γ F hd ho => ?_⟩
  show OpOk _ _ _ _ ((Res.cells b106 (setA (BSet.ofL [(97 : UInt8)])) 54) :: (Res.cells b101 #[.int .i64 0, .slice none 0 0, .slice none 0 0, .slice none 0 0] 28) :: F) _
  exact OpVal.ok (buildL z pl66 ze66 z) z z ⟨z, (none, 0), z, List.Perm.refl _⟩
 ·refine ⟨_, z, z, fun e γ F hd ho => ?_⟩
  rw [← upds_of_has (e := e) (l := [(11, .agg #[.int .i64 2, .string (bs ([] : List UInt8))])]) ⟨hd 3 (by kernel_rfl) rfl, trivial⟩]
  show OpOk _ _ _ _ ((Res.cells b106 (setA (BSet.ofL [(97 : UInt8)])) 54) :: (Res.cells b101 #[.int .i64 0, .slice none 0 0, .slice none 0 0, .slice none 0 0] 28) :: F) _
  exact OpOk.lit (enc := encTip) [(⟨2, ([] : List UInt8)⟩ : Tip)] z underlying25 sz66 ze66 z z z encTip_len (by decide) (by decide) Tip.zero z (by decide) z (by decide) encTip_one (fun a141 c142 => ⟨z, (a141, c142), z, List.Perm.refl _⟩)
 ·refine ⟨_, z, z, fun e γ F hd ho => ?_⟩
  rw [← upds_of_has (e := e) (l := [(5, loc b106 0)]) ⟨ho 5 rfl, trivial⟩]
  show OpOk _ _ _ _ ((Res.cells b106 (setA (BSet.ofL [(97 : UInt8)])) 54) :: (Res.cells b101 #[.int .i64 0, .slice none 0 0, .slice none 0 0, .slice none 0 0] 28) :: F) _
  exact OpVal.ok (loadAll z ag54 sz54 z (i := 0) z z) z z ⟨z, (none, 0), z, List.Perm.refl _⟩
 ·refine ⟨_, z, z, fun e γ F hd ho => ?_⟩
  rw [← upds_of_has (e := e) (l := [(0, .string (bs x0))]) ⟨ho 0 rfl, trivial⟩]
  show OpOk _ _ _ _ ((Res.cells b106 (setA (BSet.ofL [(97 : UInt8)])) 54) :: (Res.cells b101 #[.int .i64 0, .slice none 0 0, .slice none 0 0, .slice none 0 0] 28) :: F) _
  exact OpVal.ok (moveStr (.inl z) z) z z ⟨z, (none, 0), z, List.Perm.refl _⟩
 ·refine ⟨_, z, z, fun e γ F hd ho => ?_⟩
  rw [← upds_of_has (e := e) (l := [(13, setV (BSet.ofL [(97 : UInt8)])), (14, .string (bs x0))]) ⟨hd 5 (by kernel_rfl) rfl, hd 6 (by kernel_rfl) rfl, trivial⟩]
  show OpOk _ _ _ _ ((Res.cells b106 (setA (BSet.ofL [(97 : UInt8)])) 54) :: (Res.cells b101 #[.int .i64 0, .slice none 0 0, .slice none 0 0, .slice none 0 0] 28) :: F) _
  exact OpVal.ok (buildL z pl56 ze56 z) z z ⟨z, (none, 0), z, List.Perm.refl _⟩
 ·refine ⟨_, z, z, fun e γ F hd ho => ?_⟩
  rw [← upds_of_has (e := e) (l := [(5, loc b106 0)]) ⟨ho 5 rfl, trivial⟩]
  show OpOk _ _ _ _ ((Res.cells b106 (setA (BSet.ofL [(97 : UInt8)])) 54) :: (Res.cells b101 #[.int .i64 0, .slice none 0 0, .slice none 0 0, .slice none 0 0] 28) :: F) _
  exact OpVal.ok (loadAll z ag54 sz54 z (i := 0) z z) z z ⟨z, (none, 0), z, List.Perm.refl _⟩
 ·refine ⟨_, z, z, fun e γ F hd ho => ?_⟩
  rw [← upds_of_has (e := e) (l := [(1, .string (bs x1))]) ⟨ho 1 rfl, trivial⟩]
  show OpOk _ _ _ _ ((Res.cells b106 (setA (BSet.ofL [(97 : UInt8)])) 54) :: (Res.cells b101 #[.int .i64 0, .slice none 0 0, .slice none 0 0, .slice none 0 0] 28) :: F) _
  exact OpVal.ok (moveStr (.inl z) z) z z ⟨z, (none, 0), z, List.Perm.refl _⟩
 ·refine ⟨_, z, z, fun e γ F hd ho => ?_⟩
  rw [← upds_of_has (e := e) (l := [(16, setV (BSet.ofL [(97 : UInt8)])), (17, .string (bs x1))]) ⟨hd 8 (by kernel_rfl) rfl, hd 9 (by kernel_rfl) rfl, trivial⟩]
  show OpOk _ _ _ _ ((Res.cells b106 (setA (BSet.ofL [(97 : UInt8)])) 54) :: (Res.cells b101 #[.int .i64 0, .slice none 0 0, .slice none 0 0, .slice none 0 0] 28) :: F) _
  exact OpVal.ok (buildL z pl56 ze56 z) z z ⟨z, (none, 0), z, List.Perm.refl _⟩
 ·refine ⟨_, z, z, fun e γ F hd ho => ?_⟩
  show OpOk _ _ _ _ ((Res.cells b106 (setA (BSet.ofL [(97 : UInt8)])) 54) :: (Res.cells b101 #[.int .i64 0, .slice none 0 0, .slice none 0 0, .slice none 0 0] 28) :: F) _
  exact OpOk.lit (enc := encU8) [(98 : UInt8)] z underlying82 sz5 ze5 z z z encU8_len (by decide) (by decide) (0 : UInt8) z (by decide) z (by decide) encU8_one (fun a144 c145 => ⟨z, (a144, c145), z, List.Perm.refl _⟩)
 ·refine ⟨_, z, z, fun e γ F hd ho => ?_⟩
  rw [← upds_of_has (e := e) (l := [(19, .slice (γ 11).1 ([(98 : UInt8)].length) (γ 11).2)]) ⟨hd 11 (by kernel_rfl) rfl, trivial⟩]
  show OpOk _ _ _ _ ((Res.rowS 5 1 encU8 (.slice (γ 11).1 [(98 : UInt8)].length (γ 11).2) [(98 : UInt8)]) :: (Res.cells b106 (setA (BSet.ofL [(97 : UInt8)])) 54) :: (Res.cells b101 #[.int .i64 0, .slice none 0 0, .slice none 0 0, .slice none 0 0] 28) :: F) _
  exact callT (of_con _ _ _ [(98 : UInt8)] u18) z z pf20 z z z z ⟨z, (none, 0), z, List.Perm.refl _⟩
 ·refine ⟨_, z, z, fun e γ F hd ho => ?_⟩
  rw [← upds_of_has (e := e) (l := [(20, setV (BSet.ofL [(98 : UInt8)]))]) ⟨hd 12 (by kernel_rfl) rfl, trivial⟩]
  show OpOk _ _ _ _ ((Res.cells b106 (setA (BSet.ofL [(97 : UInt8)])) 54) :: (Res.cells b101 #[.int .i64 0, .slice none 0 0, .slice none 0 0, .slice none 0 0] 28) :: F) _
  exact OpVal.ok (buildL z pl56 ze56 z) z z ⟨z, (none, 0), z, List.Perm.refl _⟩
 ·refine ⟨_, z, z, fun e γ F hd ho => ?_⟩
  show OpOk _ _ _ _ ((Res.cells b106 (setA (BSet.ofL [(97 : UInt8)])) 54) :: (Res.cells b101 #[.int .i64 0, .slice none 0 0, .slice none 0 0, .slice none 0 0] 28) :: F) _
  exact OpOk.lit (enc := encU8) [(99 : UInt8)] z underlying82 sz5 ze5 z z z encU8_len (by decide) (by decide) (0 : UInt8) z (by decide) z (by decide) encU8_one (fun a147 c148 => ⟨z, (a147, c148), z, List.Perm.refl _⟩)
 ·refine ⟨_, z, z, fun e γ F hd ho => ?_⟩
  rw [← upds_of_has (e := e) (l := [(22, .slice (γ 14).1 ([(99 : UInt8)].length) (γ 14).2)]) ⟨hd 14 (by kernel_rfl) rfl, trivial⟩]
  show OpOk _ _ _ _ ((Res.rowS 5 1 encU8 (.slice (γ 14).1 [(99 : UInt8)].length (γ 14).2) [(99 : UInt8)]) :: (Res.cells b106 (setA (BSet.ofL [(97 : UInt8)])) 54) :: (Res.cells b101 #[.int .i64 0, .slice none 0 0, .slice none 0 0, .slice none 0 0] 28) :: F) _
  exact callT (of_con _ _ _ [(99 : UInt8)] u21) z z pf20 z z z z ⟨z, (none, 0), z, List.Perm.refl _⟩
 ·refine ⟨_, z, z, fun e γ F hd ho => ?_⟩
  rw [← upds_of_has (e := e) (l := [(23, setV (BSet.ofL [(99 : UInt8)]))]) ⟨hd 15 (by kernel_rfl) rfl, trivial⟩]
  show OpOk _ _ _ _ ((Res.cells b106 (setA (BSet.ofL [(97 : UInt8)])) 54) :: (Res.cells b101 #[.int .i64 0, .slice none 0 0, .slice none 0 0, .slice none 0 0] 28) :: F) _
  exact OpVal.ok (buildL z pl56 ze56 z) z z ⟨z, (none, 0), z, List.Perm.refl _⟩
 ·refine ⟨_, z, z, fun e γ F hd ho => ?_⟩
  rw [← upds_of_has (e := e) (l := [(15, .agg #[.int .i64 0, .int .i64 0, .int .u64 (((BSet.ofL [(97 : UInt8)]).a : Nat) : Int), .int .u64 (((BSet.ofL [(97 : UInt8)]).b : Nat) : Int), .int .u64 (((BSet.ofL [(97 : UInt8)]).c : Nat) : Int), .int .u64 (((BSet.ofL [(97 : UInt8)]).d : Nat) : Int), .string (bs x0), .bool false]), (18, .agg #[.int .i64 1, .int .i64 1, .int .u64 (((BSet.ofL [(97 : UInt8)]).a : Nat) : Int), .int .u64 (((BSet.ofL [(97 : UInt8)]).b : Nat) : Int), .int .u64 (((BSet.ofL [(97 : UInt8)]).c : Nat) : Int), .int .u64 (((BSet.ofL [(97 : UInt8)]).d : Nat) : Int), .string (bs x1), .bool false]), (21, .agg #[.int .i64 0, .int .i64 2, .int .u64 (((BSet.ofL [(98 : UInt8)]).a : Nat) : Int), .int .u64 (((BSet.ofL [(98 : UInt8)]).b : Nat) : Int), .int .u64 (((BSet.ofL [(98 : UInt8)]).c : Nat) : Int), .int .u64 (((BSet.ofL [(98 : UInt8)]).d : Nat) : Int), .string (bs ([] : List UInt8)), .bool false]), (24, .agg #[.int .i64 1, .int .i64 2, .int .u64 (((BSet.ofL [(99 : UInt8)]).a : Nat) : Int), .int .u64 (((BSet.ofL [(99 : UInt8)]).b : Nat) : Int), .int .u64 (((BSet.ofL [(99 : UInt8)]).c : Nat) : Int), .int .u64 (((BSet.ofL [(99 : UInt8)]).d : Nat) : Int), .string (bs ([] : List UInt8)), .bool false])]) ⟨hd 7 (by kernel_rfl) rfl, hd 10 (by kernel_rfl) rfl, hd 13 (by kernel_rfl) rfl, hd 16 (by kernel_rfl) rfl, trivial⟩]
  show OpOk _ _ _ _ ((Res.cells b106 (setA (BSet.ofL [(97 : UInt8)])) 54) :: (Res.cells b101 #[.int .i64 0, .slice none 0 0, .slice none 0 0, .slice none 0 0] 28) :: F) _
  exact OpOk.lit (enc := encArc) [(⟨0, 0, (BSet.ofL [(97 : UInt8)]), x0, false⟩ : Arc), (⟨1, 1, (BSet.ofL [(97 : UInt8)]), x1, false⟩ : Arc), (⟨0, 2, (BSet.ofL [(98 : UInt8)]), ([] : List UInt8), false⟩ : Arc), (⟨1, 2, (BSet.ofL [(99 : UInt8)]), ([] : List UInt8), false⟩ : Arc)] z underlying26 sz56 ze56 z z z encArc_len (by decide) (by decide) Arc.zero z (by decide) z (by decide) encArc_one (fun a150 c151 => ⟨z, (a150, c151), z, List.Perm.refl _⟩)
 ·refine ⟨_, z, z, fun e γ F hd ho => ?_⟩
  rw [← upds_of_has (e := e) (l := [(10, .slice (γ 2).1 ([(⟨0, ([] : List UInt8)⟩ : Tip), (⟨1, ([] : List UInt8)⟩ : Tip)].length) (γ 2).2), (12, .slice (γ 4).1 ([(⟨2, ([] : List UInt8)⟩ : Tip)].length) (γ 4).2), (25, .slice (γ 17).1 ([(⟨0, 0, (BSet.ofL [(97 : UInt8)]), x0, false⟩ : Arc), (⟨1, 1, (BSet.ofL [(97 : UInt8)]), x1, false⟩ : Arc), (⟨0, 2, (BSet.ofL [(98 : UInt8)]), ([] : List UInt8), false⟩ : Arc), (⟨1, 2, (BSet.ofL [(99 : UInt8)]), ([] : List UInt8), false⟩ : Arc)].length) (γ 17).2)]) ⟨hd 2 (by kernel_rfl) rfl, hd 4 (by kernel_rfl) rfl, hd 17 (by kernel_rfl) rfl, trivial⟩]
  show OpOk _ _ _ _ ((Res.cells b106 (setA (BSet.ofL [(97 : UInt8)])) 54) :: (Res.cells b101 #[.int .i64 0, .slice none 0 0, .slice none 0 0, .slice none 0 0] 28) :: F) _
  exact OpVal.ok (buildL z pl28 ze28 z) z z ⟨z, (none, 0), z, List.Perm.refl _⟩
 ·skip
  refine TA.front 1 z z (TA.last 19 (by kernel_rfl) z z z (storeAll z sz28 z z z z z z ?_))
  refine TZ.done (by kernel_rfl) (S.n (TC.front 2 z z (TC.sealS encTip_len (fun τ155 hle154 hr153 => ?_))))
  have hr153b := hr153.rv.big
  refine TC.front 2 z z (TC.sealS encTip_len (fun τ158 hle157 hr156 => ?_))
  replace hr153 := hr153.mono hle157
  have hr156b := hr156.rv.big
  refine TC.front 2 z z (TC.sealS encArc_len (fun τ161 hle160 hr159 => ?_))
  replace hr153 := hr153.mono hle160
  replace hr156 := hr156.mono hle160
  have hr159b := hr159.rv.big
  refine TC.rt 1 ?_
  obtain rfl := so hh
  exact ro [] z (RVs.agg ag28 sz28 z (i := 0) z z RVs.nil) ⟨(γ 2).1, (γ 2).2, (γ 4).1, (γ 4).2, (γ 17).1, (γ 17).2, z, hr153, hr156, hr159, z⟩

noncomputable def whittlelaw20_awake : Option (Bool) :=
 bnd (whittlelaw20_fork ([120] : List UInt8) ([121] : List UInt8)) (fun v2 => bnd (twin_Twin v2) (fun v3 => bnd (whittlelaw20_fork ([120] : List UInt8) ([120] : List UInt8)) (fun v9 => bnd (twin_Twin v9) (fun v10 => bnd (whittlelaw20_fork ([120] : List UInt8) ([121, 121] : List UInt8)) (fun v16 => bnd (twin_Bound v16) (fun v17 => iteO (!v3.1) (iteO (decide (v3.2 = 0)) (iteO v10.1 (iteO (decide (v10.2 = v3.2)) (iteO (decide (v17.1 = 18)) (some (decide (v17.2 = v3.2))) (some false)) (some false)) (some false)) (some false)) (some false)))))))
set_option maxHeartbeats 4000000 in
theorem whittlelaw20_awake_con {σ : Store}   {r : Bool} (hh : whittlelaw20_awake = some r) :
  Con Try.prog 8 #[] σ [] (PureP (.bool r) σ) := by
 dsimp only [whittlelaw20_awake] at hh
 refine Con.mk (n := 45) Try.func8 z z z (fun w0 => ?_)
 refine TC.a (TL.j z z (TL.en (TC.a ?_)))
 obtain ⟨v2, u2, hh⟩ := bnd_e hh
 refine TL.op z (OpOk.call (whittlelaw20_fork_con u2) z z pf7 z z z z ?_)
 rintro _ τ101 _ hle101 ⟨a101_1, c101_1, a101_2, c101_2, a101_3, c101_3, rfl, hr101_0, hr101_1, hr101_2, rfl⟩
 have hr101_0b := hr101_0.rv.big
 have hr101_1b := hr101_1.rv.big
 have hr101_2b := hr101_2.rv.big
 obtain ⟨v3, u3, hh⟩ := bnd_e hh
 refine TL.op z (callP (twin_Twin_con (x0 := v2) hr101_0 hr101_1 hr101_2 u3) z z pf6 z z z ?_)
 refine TL.w z (moveT (.inl z) z) (TL.w z (OpVal.extract z z z) (TL.w z (OpVal.extract z z z) (TL.j z z (TL.i z z (TL.en (TC.a ?_))))))
 obtain ⟨v9, u9, hh⟩ := bnd_e hh
 refine TL.op z (OpOk.call (whittlelaw20_fork_con u9) z z pf7 z z z z ?_)
 rintro _ τ102 _ hle102 ⟨a102_1, c102_1, a102_2, c102_2, a102_3, c102_3, rfl, hr102_0, hr102_1, hr102_2, rfl⟩
 have hr102_0b := hr102_0.rv.big
 have hr102_1b := hr102_1.rv.big
 have hr102_2b := hr102_2.rv.big
 obtain ⟨v10, u10, hh⟩ := bnd_e hh
 refine TL.op z (callP (twin_Twin_con (x0 := v9) hr102_0 hr102_1 hr102_2 u10) z z pf6 z z z ?_)
 refine TL.w z (moveT (.inl z) z) (TL.w z (OpVal.extract z z z) (TL.w z (OpVal.extract z z z) (TL.j z z (TL.i z z (TL.en (TC.a ?_))))))
 obtain ⟨v16, u16, hh⟩ := bnd_e hh
 refine TL.op z (OpOk.call (whittlelaw20_fork_con u16) z z pf7 z z z z ?_)
 rintro _ τ103 _ hle103 ⟨a103_1, c103_1, a103_2, c103_2, a103_3, c103_3, rfl, hr103_0, hr103_1, hr103_2, rfl⟩
 have hr103_0b := hr103_0.rv.big
 have hr103_1b := hr103_1.rv.big
 have hr103_2b := hr103_2.rv.big
 obtain ⟨v17, u17, hh⟩ := bnd_e hh
 refine TL.op z (callP (twin_Bound_con (x0 := v16) hr103_0 hr103_1 hr103_2 u17) z z pf11 z z z ?_)
 refine TL.w z (moveT (.inl z) z) (TL.w z (OpVal.extract z z z) (TL.w z (OpVal.extract z z z) (TL.i z z (TL.i z z (TL.en (TC.a (TL.j z z (TL.w z (OpVal.not z z) (TL.j z z (TL.split 24 z (fun h104 => ?_) (fun h104 => ?_)))))))))))
 ·replace hh := iteO_t h104 hh
  refine TL.g z (moveI (.inl z) z) (TL.g z (OpVal.eql z z z) (TL.w z (pickTB z z z) (TL.j z z (TL.split 28 z (fun h105 => ?_) (fun h105 => ?_)))))
  ·replace hh := iteO_t h105 hh
   replace h105 := of_decide_eq_true h105
   refine TL.g z (moveB (.inl z) z) (TL.w z (pickTB z z z) (TL.j z z (TL.split 31 z (fun h106 => ?_) (fun h106 => ?_))))
   ·replace hh := iteO_t h106 hh
    refine TL.g z (moveI (.inl z) z) (TL.g z (moveI (.inl z) z) (TL.g z (OpVal.eql z z z) (TL.w z (pickTB z z z) (TL.j z z (TL.split 36 z (fun h107 => ?_) (fun h107 => ?_))))))
    ·replace hh := iteO_t h107 hh
     replace h107 := of_decide_eq_true h107
     refine TL.g z (moveI (.inl z) z) (TL.g z (OpVal.eql z z z) (TL.w z (pickTB z z z) (TL.j z z (TL.split 40 z (fun h108 => ?_) (fun h108 => ?_)))))
     ·replace hh := iteO_t h108 hh
      replace h108 := of_decide_eq_true h108
      refine TL.g z (moveI (.inl z) z) (TL.g z (moveI (.inl z) z) (TL.g z (OpVal.eql z z z) (TL.w z (pickTB z z z) (TL.j z z (TL.en (TC.back (TC.ret ?_)))))))
      obtain rfl := so hh
      exact rq [0] ⟨z, z, z⟩
     ·replace hh := iteO_f h108 hh
      replace h108 := of_decide_eq_false h108
      refine TL.f z (TL.f z (TL.f z (TL.w z (pickFB z z z) (TL.j z z (TL.en (TC.back (TC.ret ?_)))))))
      obtain rfl := so hh
      exact rq [0] ⟨z, z, z⟩
    ·replace hh := iteO_f h107 hh
     replace h107 := of_decide_eq_false h107
     refine TL.f z (TL.f z (TL.w z (pickFB z z z) (TL.j z z (TL.f z (TL.f z (TL.f z (TL.w z (pickFB z z z) (TL.j z z (TL.en (TC.back (TC.ret ?_)))))))))))
     obtain rfl := so hh
     exact rq [0] ⟨z, z, z⟩
   ·replace hh := iteO_f h106 hh
    refine TL.f z (TL.f z (TL.f z (TL.w z (pickFB z z z) (TL.j z z (TL.f z (TL.f z (TL.w z (pickFB z z z) (TL.j z z (TL.f z (TL.f z (TL.f z (TL.w z (pickFB z z z) (TL.j z z (TL.en (TC.back ?_)))))))))))))))
    refine TC.ret ?_
    obtain rfl := so hh
    exact rq [0] ⟨z, z, z⟩
  ·replace hh := iteO_f h105 hh
   replace h105 := of_decide_eq_false h105
   refine TL.f z (TL.w z (pickFB z z z) (TL.j z z (TL.f z (TL.f z (TL.f z (TL.w z (pickFB z z z) (TL.j z z (TL.f z (TL.f z (TL.w z (pickFB z z z) (TL.j z z (TL.f z (TL.f z (TL.f z (TL.w z (pickFB z z z) ?_)))))))))))))))
   refine TL.j z z (TL.en (TC.back (TC.ret ?_)))
   obtain rfl := so hh
   exact rq [0] ⟨z, z, z⟩
 ·replace hh := iteO_f h104 hh
  refine TL.f z (TL.f z (TL.w z (pickFB z z z) (TL.j z z (TL.f z (TL.w z (pickFB z z z) (TL.j z z (TL.f z (TL.f z (TL.f z (TL.w z (pickFB z z z) (TL.j z z (TL.f z (TL.f z (TL.w z (pickFB z z z) (TL.j z z ?_)))))))))))))))
  refine TL.f z (TL.f z (TL.f z (TL.w z (pickFB z z z) (TL.j z z (TL.en (TC.back (TC.ret ?_)))))))
  obtain rfl := so hh
  exact rq [0] ⟨z, z, z⟩

end Go.Proofs.Ytcfjjckencjjeaa
end

/- P4 -/
section
/- Decompiled: the law TwinTrim. -/
set_option linter.unusedVariables false
set_option linter.unusedSimpArgs false
namespace Go.Proofs.Ytcfjjckencjjeaa
open Go Go.E Go.E.OpVal Go.E.OpOk
set_option maxRecDepth 100000
end Go.Proofs.Ytcfjjckencjjeaa
end

/- P5 -/
section
/- Decompiled: the law TwinFork. -/
set_option linter.unusedVariables false
set_option linter.unusedSimpArgs false
namespace Go.Proofs.Ytcfjjckencjjeaa
open Go Go.E Go.E.OpVal Go.E.OpOk Go.Proofs.Try
set_option maxRecDepth 100000
private theorem pf8 : Go.E.plainF Try.prog 8 = true := by kernel_rfl

noncomputable def whittlelaw20_TwinFork (x0 : List UInt8) (x1 : List UInt8) : Option (Bool) :=
 grd (x0.length ≤ 281474976710656) (grd (x1.length ≤ 281474976710656) (iteO (decide (6 < ((x0.length : Nat) : Int))) (some true) (iteO (decide (6 < ((x1.length : Nat) : Int))) (some true) (bnd (whittlelaw20_fork x0 x1) (fun v13 => bnd (twin_Twin v13) (fun v14 => bnd (whittlelaw20_awake) (fun v20 => iteO v20 (iteO (decide (v14.2 = 0)) (some (v14.1 == (decide (x0 = x1)))) (some false)) (some false))))))))
theorem whittlelaw20_TwinFork_con {σ : Store} {x0 : List UInt8} {x1 : List UInt8}  {r : Bool} (hh : whittlelaw20_TwinFork x0 x1 = some r) :
  Con Try.prog 3 #[.string (bs x0), .string (bs x1)] σ [] (PureP (.bool r) σ) := by
 dsimp only [whittlelaw20_TwinFork] at hh
 refine Con.mk (n := 34) Try.func3 z z z (fun w0 => ?_)
 have x0b := grd_c hh
 replace hh := grd_t hh
 have x1b := grd_c hh
 replace hh := grd_t hh
 refine TC.a (TL.j z z (TL.en (TC.seq (TC.a (TL.w z (moveStr (.inl z) z) (TL.w z (lenBs z underlying9 z) (TL.w z (OpVal.gtr z z z) (TL.j z z (TL.split 10 z (fun h101 => ?_) (fun h101 => ?_))))))))))
 ·replace hh := iteO_t h101 hh
  replace h101 := of_decide_eq_true h101
  refine TL.f z (TL.f z (TL.f z (TL.w z (pickTB z z z) (TL.en (TC.t z (TC.a (TL.j z z (TL.en (TC.ret (S.r ?_))))))))))
  obtain rfl := so hh
  exact rq [4] ⟨z, z, z⟩
 ·replace hh := iteO_f h101 hh
  replace h101 := of_decide_eq_false h101
  refine TL.g z (moveStr (.inl z) z) (TL.g z (lenBs z underlying9 z) (TL.g z (OpVal.gtr z z z) (TL.w z (pickFB z z z) (TL.en (TC.cD z hh (fun h102 hh => ?_) (fun h102 hh => ?_))))))
  ·refine TC.a (TL.j z z (TL.en (TC.ret (S.r ?_))))
   obtain rfl := so hh
   exact rq [4] ⟨z, z, z⟩
  ·refine TC.skip (S.n (TC.a (TL.w z (moveStr (.inl z) z) (TL.w z (moveStr (.inl z) z) ?_))))
   obtain ⟨v13, u13, hh⟩ := bnd_e hh
   refine TL.op z (OpOk.call (whittlelaw20_fork_con u13) z z pf7 z z z z ?_)
   rintro _ τ103 _ hle103 ⟨a103_1, c103_1, a103_2, c103_2, a103_3, c103_3, rfl, hr103_0, hr103_1, hr103_2, rfl⟩
   have hr103_0b := hr103_0.rv.big
   have hr103_1b := hr103_1.rv.big
   have hr103_2b := hr103_2.rv.big
   obtain ⟨v14, u14, hh⟩ := bnd_e hh
   refine TL.op z (callP (twin_Twin_con (x0 := v13) hr103_0 hr103_1 hr103_2 u14) z z pf6 z z z ?_)
   refine TL.w z (moveT (.inl z) z) (TL.w z (OpVal.extract z z z) (TL.w z (OpVal.extract z z z) (TL.j z z (TL.i z z (TL.en (TC.a ?_))))))
   obtain ⟨v20, u20, hh⟩ := bnd_e hh
   refine TL.op z (callP (whittlelaw20_awake_con u20) z z pf8 z z z ?_)
   refine TL.j z z (TL.split 23 z (fun h104 => ?_) (fun h104 => ?_))
   ·replace hh := iteO_t h104 hh
    refine TL.g z (moveI (.inl z) z) (TL.g z (OpVal.eql z z z) (TL.w z (pickTB z z z) (TL.j z z (TL.split 27 z (fun h105 => ?_) (fun h105 => ?_)))))
    ·replace hh := iteO_t h105 hh
     replace h105 := of_decide_eq_true h105
     refine TL.g z (moveB (.inl z) z) (TL.g z (moveStr (.inl z) z) (TL.g z (moveStr (.inl z) z) (TL.g z (eqlBs z z z) (TL.g z (eqlB z z z underlying4) (TL.w z (pickTB z z z) (TL.j z z (TL.en (TC.back (TC.ret ?_)))))))))
     obtain rfl := so hh
     exact rq [4] ⟨z, z, z⟩
    ·replace hh := iteO_f h105 hh
     replace h105 := of_decide_eq_false h105
     refine TL.f z (TL.f z (TL.f z (TL.f z (TL.f z (TL.w z (pickFB z z z) (TL.j z z (TL.en (TC.back (TC.ret ?_)))))))))
     obtain rfl := so hh
     exact rq [4] ⟨z, z, z⟩
   ·replace hh := iteO_f h104 hh
    refine TL.f z (TL.f z (TL.w z (pickFB z z z) (TL.j z z (TL.f z (TL.f z (TL.f z (TL.f z (TL.f z (TL.w z (pickFB z z z) (TL.j z z (TL.en (TC.back (TC.ret ?_)))))))))))))
    obtain rfl := so hh
    exact rq [4] ⟨z, z, z⟩

end Go.Proofs.Ytcfjjckencjjeaa
end

/- FMp -/
section
/- Sets of keys, as finite maps; rows by number. Plain lemmas, no condition. -/
set_option linter.unusedVariables false
set_option linter.unusedSimpArgs false
namespace Go.E
open Go
set_option linter.unusedSectionVars false
section
variable {K : Type} [DecidableEq K]
theorem len_of_sub : ∀ {l m : List K}, l.Nodup → (∀ x ∈ l, x ∈ m) → l.length ≤ m.length
  | [], m, _, _ => Nat.zero_le _
  | x :: l, m, hn, hs => by
    rw [List.nodup_cons] at hn
    have hx := hs x (List.mem_cons_self ..)
    have := len_of_sub (m := m.erase x) hn.2 fun y hy => by
      have h1 := hs y (List.mem_cons_of_mem _ hy)
      refine (List.mem_erase_of_ne ?_).2 h1
      intro e; subst e; exact hn.1 hy
    rw [List.length_erase_of_mem hx] at this
    have hp := List.length_pos_of_mem hx
    simp only [List.length_cons]; omega
/-- The set of some keys. -/
def FM.ofL (S : List K) : FM K Unit := S.foldl (fun m k => m.put k ()) FM.emp
theorem FM.ofL_snoc (S : List K) (k : K) : FM.ofL (S ++ [k]) = (FM.ofL S).put k () := by simp [FM.ofL]
theorem FM.ofL_f (S : List K) (x : K) : (FM.ofL S).f x = if x ∈ S then some () else none := by
  have key : ∀ (S : List K) (m : FM K Unit), (S.foldl (fun m k => m.put k ()) m).f x = if x ∈ S then some () else m.f x := by
    intro S
    induction S with
    | nil => intro m; simp
    | cons y S ih =>
      intro m
      rw [List.foldl_cons, ih]
      by_cases h : x ∈ S
      · simp [h]
      · by_cases e : x = y
        · subst e; simp [FM.put]
        · simp [h, FM.put, e]
  rw [FM.ofL, key]; rfl
/-- How many. -/
def card (S : List K) : Nat := (FM.ofL S).n
theorem rev_ind {p : List K → Prop} (h0 : p []) (h1 : ∀ l x, p l → p (l ++ [x])) (l : List K) : p l := by
  have : ∀ m : List K, p m.reverse := fun m => by
    induction m with
    | nil => exact h0
    | cons x m ih => rw [List.reverse_cons]; exact h1 _ _ ih
  simpa using this l.reverse
theorem FM.ofL_len (S : List K) : ∃ l : List K, l.Nodup ∧ (∀ x, x ∈ l ↔ x ∈ S) ∧ l.length = card S := by
  induction S using rev_ind with
  | h0 => exact ⟨[], List.nodup_nil, by simp, rfl⟩
  | h1 S k ih =>
    obtain ⟨l, h1, h2, h3⟩ := ih
    have hf := FM.ofL_f S k
    by_cases hk : k ∈ S
    · refine ⟨l, h1, fun x => ?_, ?_⟩
      · rw [h2, List.mem_append, List.mem_singleton]
        constructor
        · exact .inl
        · rintro (h | rfl)
          · exact h
          · exact hk
      · rw [h3, card, card, FM.ofL_snoc, FM.put]; simp [hf, hk]
    · refine ⟨l ++ [k], ?_, fun x => by rw [List.mem_append, List.mem_append, h2], ?_⟩
      · rw [List.nodup_append]
        exact ⟨h1, by simp, fun x hx y hy => by
          rw [List.mem_singleton] at hy; subst hy
          intro e; subst e; exact hk ((h2 _).1 hx)⟩
      · rw [List.length_append, h3, card, card, FM.ofL_snoc, FM.put]; simp [hf, hk]
theorem card_mono {S T : List K} (h : ∀ x ∈ S, x ∈ T) : card S ≤ card T := by
  obtain ⟨l, h1, h2, h3⟩ := FM.ofL_len S
  obtain ⟨m, _, h5, h6⟩ := FM.ofL_len T
  rw [← h3, ← h6]
  exact len_of_sub h1 fun x hx => (h5 x).2 (h x ((h2 x).1 hx))
theorem card_le (S : List K) : card S ≤ S.length := by
  obtain ⟨l, h1, h2, h3⟩ := FM.ofL_len S
  rw [← h3]; exact len_of_sub h1 fun x hx => (h2 x).1 hx
theorem Rep.ofL (S : List K) : ∃ q : List (K × Unit), Rep q (FM.ofL S) := by
  obtain ⟨l, h1, h2, h3⟩ := FM.ofL_len S
  refine ⟨l.map fun x => (x, ()), ⟨fun k v => ?_, by rw [List.length_map, h3]; rfl, ?_⟩⟩
  · rw [FM.ofL_f, List.mem_map]
    constructor
    · rintro ⟨x, hx, e⟩
      cases e
      rw [if_pos ((h2 _).1 hx)]
    · intro h
      split at h
      · rename_i hk; exact ⟨k, (h2 k).2 hk, rfl⟩
      · cases h
  · rw [List.map_map, show (Prod.fst ∘ fun x : K => (x, ())) = id from rfl, List.map_id]; exact h1
end

section
variable {β γ : Type}
/-- Rows of what bears a number. -/
structure Grp (key : β → Int) (val : β → γ) (n : Nat) (l : List (List γ)) (xs : List β) : Prop where
  len : l.length = n
  row : ∀ i, i < n → nth l i [] = (xs.filter fun x => decide (key x = (i : Int))).map val
theorem Grp.nil (key : β → Int) (val : β → γ) (n : Nat) : Grp key val n (List.replicate n []) [] := ⟨List.length_replicate .., fun i hi => by simp [nth, List.getD, List.getElem?_replicate, hi]⟩
theorem Grp.snoc {key : β → Int} {val : β → γ} {n : Nat} {l : List (List γ)} {xs : List β} (h : Grp key val n l xs) {x : β} (h0 : 0 ≤ key x) (h1 : key x < n) :
    Grp key val n (l.set (key x).toNat (nth l (key x).toNat [] ++ [val x])) (xs ++ [x]) := by
  refine ⟨by rw [List.length_set]; exact h.len, fun i hi => ?_⟩
  rw [List.filter_append, List.map_append, ← h.row i hi]
  by_cases e : i = (key x).toNat
  · subst e
    have : key x = ((key x).toNat : Int) := by omega
    have hl := h.len
    rw [show nth (l.set (key x).toNat (nth l (key x).toNat [] ++ [val x])) (key x).toNat [] = nth l (key x).toNat [] ++ [val x] from by simp [nth, List.getD, hl, hi]]
    simp [this.symm]
  · have hne : ¬ key x = (i : Int) := by omega
    rw [show nth (l.set (key x).toNat (nth l (key x).toNat [] ++ [val x])) i [] = nth l i [] from by simp [nth, List.getD, List.getElem?_set, Ne.symm e]]
    simp [hne]
/-- Rounds that look at each thing in turn. -/
theorem iter_all {α R : Type} {step : Nat → Option (Nat ⊕ R)} {y no : R} (l : List α) (d : α) (p : α → Bool) (hs : ∀ k, k < l.length → p (nth l k d) = true → step k = some (.inl (k + 1)))
    (hn : ∀ k, k < l.length → p (nth l k d) = false → step k = some (.inr no)) (hd : step l.length = some (.inr y)) : iter step 0 = some (if l.all p then y else no) := by
  have h := iter_any0 (step := step) (y := no) (no := y) (fun k => k) (fun k => !p (nth l k d)) l.length (fun k hk hp => hs k hk (by simpa using hp)) (fun k hk hp => hn k hk (by simpa using hp)) hd
  rw [h, range_any l d (fun x => !p x)]
  by_cases ha : l.all p = true
  · have : (l.any fun x => !p x) = false := by rw [List.any_eq_false]; intro x hx; have := (List.all_eq_true.1 ha) x hx; simp [this]
    rw [this, ha]; rfl
  · have : (l.any fun x => !p x) = true := by
      rw [Bool.not_eq_true, List.all_eq_false] at ha
      obtain ⟨x, hx, h⟩ := ha
      exact List.any_eq_true.2 ⟨x, hx, by simpa using h⟩
    rw [this]; simp only [cond_true]; rw [if_neg ha]
/-- Rounds that gather. -/
theorem iter_fold {α S R : Type} {step : S × Nat → Option ((S × Nat) ⊕ R)} {r : R} (l : List α) (d : α) (f : Nat → S) (hs : ∀ k, k < l.length → step (f k, k) = some (.inl (f (k + 1), k + 1))) (hd : step (f l.length, l.length) = some (.inr r)) :
    iter step (f 0, 0) = some r := iter_seq0 (fun k => (f k, k)) l.length hs hd
end
end Go.E
end

/- It -/
section
/- Rounds over a list's things, by an invariant on what was met. Plain lemmas, no condition. -/
set_option linter.unusedVariables false
set_option linter.unusedSimpArgs false
namespace Go.E
open Go
/-- Rounds over a list, by an invariant on what was met so far. -/
theorem iter_for {α S T R : Type} {step : T → Option (T ⊕ R)} (g : S → Nat → T) (l : List α) (d : α) (I : List α → S → Prop) (Q : R → Prop)
    (hs : ∀ k s, k < l.length → I (l.take k) s → (∃ s', step (g s k) = some (.inl (g s' (k + 1))) ∧ I (l.take k ++ [nth l k d]) s') ∨ ∃ r, step (g s k) = some (.inr r) ∧ Q r)
    (hd : ∀ s, I l s → ∃ r, step (g s l.length) = some (.inr r) ∧ Q r) {s0 : S} (h0 : I [] s0) : ∃ r, iter step (g s0 0) = some r ∧ Q r := by
  have key : ∀ m k s, l.length - k = m → k ≤ l.length → I (l.take k) s → ∃ r, iter step (g s k) = some r ∧ Q r := by
    intro m
    induction m with
    | zero =>
      intro k s hm hk hI
      have hk : k = l.length := by omega
      subst hk
      rw [List.take_length] at hI
      obtain ⟨r, h1, h2⟩ := hd s hI
      exact ⟨r, iter_done h1, h2⟩
    | succ m ih =>
      intro k s hm hk hI
      rcases hs k s (by omega) hI with ⟨s', h1, h2⟩ | ⟨r, h1, h2⟩
      · rw [← take_snoc l (by omega) d] at h2
        obtain ⟨r, h3, h4⟩ := ih (k + 1) s' (by omega) (by omega) h2
        exact ⟨r, iter_next h1 h3, h4⟩
      · exact ⟨r, iter_done h1, h2⟩
  exact key _ 0 s0 rfl (Nat.zero_le _) h0
end Go.E
end

/- Sm -/
section
/- Rules by which simp, with omega for what is asked, follows a decompiled function. Plain lemmas, no condition. -/
set_option linter.unusedVariables false
set_option linter.unusedSimpArgs false
namespace Go.E
open Go
theorem iteO_dt {α : Type} {p : Prop} [Decidable p] {a b : Option α} (h : p) : iteO (decide p) a b = a := by rw [decide_eq_true h]; rfl
theorem iteO_df {α : Type} {p : Prop} [Decidable p] {a b : Option α} (h : ¬ p) : iteO (decide p) a b = b := by rw [decide_eq_false h]; rfl
theorem bnd_mk {α β : Type} {x : α} {f : α → Option β} : bnd (some x) f = f x := rfl
theorem iteO_nt {α : Type} {a b : Option α} : iteO (!true) a b = b := rfl
theorem iteO_nf {α : Type} {a b : Option α} : iteO (!false) a b = a := rfl
/-- Rounds that count up through n, whose state stands in a relation to the number. -/
theorem iter_up {S T R : Type} {step : T → Option (T ⊕ R)} (g : S → Nat → T) (n : Nat) (I : Nat → S → Prop) (Q : R → Prop)
    (hs : ∀ k s, k < n → I k s → (∃ s', step (g s k) = some (.inl (g s' (k + 1))) ∧ I (k + 1) s') ∨ ∃ r, step (g s k) = some (.inr r) ∧ Q r)
    (hd : ∀ s, I n s → ∃ r, step (g s n) = some (.inr r) ∧ Q r) {s0 : S} (h0 : I 0 s0) : ∃ r, iter step (g s0 0) = some r ∧ Q r := by
  have key : ∀ m k s, n - k = m → k ≤ n → I k s → ∃ r, iter step (g s k) = some r ∧ Q r := by
    intro m
    induction m with
    | zero =>
      intro k s hm hk hI
      have hk : k = n := by omega
      subst hk
      obtain ⟨r, h1, h2⟩ := hd s hI
      exact ⟨r, iter_done h1, h2⟩
    | succ m ih =>
      intro k s hm hk hI
      rcases hs k s (by omega) hI with ⟨s', h1, h2⟩ | ⟨r, h1, h2⟩
      · obtain ⟨r, h3, h4⟩ := ih (k + 1) s' (by omega) (by omega) h2
        exact ⟨r, iter_next h1 h3, h4⟩
      · exact ⟨r, iter_done h1, h2⟩
  exact key _ 0 s0 rfl (Nat.zero_le _) h0
theorem nth_set {α : Type} (l : List α) (i j : Nat) (x d : α) : nth (l.set i x) j d = if i = j ∧ j < l.length then x else nth l j d := by
  unfold nth
  simp only [List.getD_eq_getElem?_getD, List.getElem?_set]
  by_cases h : i = j
  · subst h
    by_cases k : i < l.length
    · simp [k]
    · simp [k]
  · simp [h]
theorem nth_rep {α : Type} (n i : Nat) (x : α) : nth (List.replicate n x) i x = x := by
  unfold nth
  rw [List.getD_eq_getElem?_getD, List.getElem?_replicate]
  split <;> rfl
end Go.E
end

/- PrT -/
section
/- What a transducer needs, in plain words: the states of use, numbered anew. Plain lemmas, no condition. -/
set_option linter.unusedVariables false
set_option linter.unusedSimpArgs false
namespace Go.Proofs.Ytcfjjckencjjeaa
open Go Go.E

/-- States to which some way leads. -/
inductive Rch (S : Int → Prop) (E : Int → Int → Prop) : Int → Prop
  | base {s : Int} : S s → Rch S E s
  | step {a b : Int} : Rch S E a → E a b → Rch S E b
def onS (t : Fst) (s : Int) : Prop := ∃ x ∈ t.starts, x.state = s
def enS (t : Fst) (s : Int) : Prop := ∃ x ∈ t.ends, x.state = s
def arE (t : Fst) (a b : Int) : Prop := ∃ x ∈ t.arcs, x.frm = a ∧ x.to = b
def arB (t : Fst) (a b : Int) : Prop := ∃ x ∈ t.arcs, x.to = a ∧ x.frm = b
def Use (t : Fst) (s : Int) : Prop := Rch (onS t) (arE t) s ∧ Rch (enS t) (arB t) s
open Classical in
noncomputable def useB (t : Fst) (s : Nat) : Bool := decide (Use t s)
/-- How many of the first are of use. -/
def cntB (p : Nat → Bool) : Nat → Nat
  | 0 => 0
  | n + 1 => cntB p n + (if p n then 1 else 0)
/-- The new number, or −1. -/
def numB (p : Nat → Bool) (s : Int) : Int := if p s.toNat then (cntB p s.toNat : Int) else -1
theorem cntB_le (p : Nat → Bool) : ∀ {m n : Nat}, m ≤ n → cntB p m ≤ cntB p n
  | m, 0, h => by obtain rfl : m = 0 := by omega
                  exact Nat.le_refl _
  | m, n + 1, h => by
    by_cases hm : m = n + 1
    · subst hm; exact Nat.le_refl _
    · have := cntB_le p (m := m) (n := n) (by omega)
      simp only [cntB]; omega
theorem cntB_lt (p : Nat → Bool) {m n : Nat} (h : m < n) (hp : p m = true) : cntB p m < cntB p n := by
  have := cntB_le p (m := m + 1) (n := n) h
  simp only [cntB, hp, if_true] at this
  omega
theorem cntB_self (p : Nat → Bool) : ∀ n, cntB p n ≤ n
  | 0 => Nat.le_refl _
  | n + 1 => by have := cntB_self p n; simp only [cntB]; split <;> omega
theorem cntB_all {p : Nat → Bool} : ∀ n, (∀ s, s < n → p s = true) → cntB p n = n
  | 0, _ => rfl
  | n + 1, h => by simp only [cntB, cntB_all n (fun s hs => h s (by omega)), h n (by omega), if_true]
theorem numB_pos {p : Nat → Bool} {s : Int} (h : p s.toNat = true) : numB p s = cntB p s.toNat := by unfold numB; rw [if_pos h]
theorem numB_ge {p : Nat → Bool} {s : Int} : 0 ≤ numB p s ↔ p s.toNat = true := by
  unfold numB; split
  · simp_all
  · simp_all
/-- What is kept. -/
def keepT (p : Nat → Bool) (l : List Tip) : List Tip := l.filterMap fun x => if 0 ≤ numB p x.state then some ⟨numB p x.state, x.out⟩ else none
def keepA (p : Nat → Bool) (l : List Arc) : List Arc := l.filterMap fun x => if 0 ≤ numB p x.frm ∧ 0 ≤ numB p x.to then some ⟨numB p x.frm, numB p x.to, x.set, x.out, x.copy⟩ else none
def keepF (p : Nat → Bool) (t : Fst) : Fst := ⟨cntB p t.states.toNat, keepT p t.starts, keepT p t.ends, keepA p t.arcs⟩
theorem mem_keepT {p : Nat → Bool} {l : List Tip} {y : Tip} : y ∈ keepT p l ↔ ∃ x ∈ l, p x.state.toNat = true ∧ y = ⟨numB p x.state, x.out⟩ := by
  unfold keepT
  rw [List.mem_filterMap]
  constructor
  · rintro ⟨x, hx, h⟩
    split at h
    · rename_i h0; exact ⟨x, hx, numB_ge.1 h0, by cases h; rfl⟩
    · cases h
  · rintro ⟨x, hx, h0, rfl⟩; exact ⟨x, hx, by rw [if_pos (numB_ge.2 h0)]⟩
theorem mem_keepA {p : Nat → Bool} {l : List Arc} {y : Arc} : y ∈ keepA p l ↔ ∃ x ∈ l, p x.frm.toNat = true ∧ p x.to.toNat = true ∧ y = ⟨numB p x.frm, numB p x.to, x.set, x.out, x.copy⟩ := by
  unfold keepA
  rw [List.mem_filterMap]
  constructor
  · rintro ⟨x, hx, h⟩
    split at h
    · rename_i h0; exact ⟨x, hx, numB_ge.1 h0.1, numB_ge.1 h0.2, by cases h; rfl⟩
    · cases h
  · rintro ⟨x, hx, h0, h1, rfl⟩; exact ⟨x, hx, by rw [if_pos ⟨numB_ge.2 h0, numB_ge.2 h1⟩]⟩
theorem keepT_len (p : Nat → Bool) (l : List Tip) : (keepT p l).length ≤ l.length := List.length_filterMap_le ..
theorem keepA_len (p : Nat → Bool) (l : List Arc) : (keepA p l).length ≤ l.length := List.length_filterMap_le ..
/-- Where all are of use, all stays as it is. -/
theorem keepT_all {p : Nat → Bool} {n : Nat} (hp : ∀ s, s < n → p s = true) {l : List Tip} (h : ∀ x ∈ l, 0 ≤ x.state ∧ x.state < n) : keepT p l = l := by
  unfold keepT
  induction l with
  | nil => rfl
  | cons x l ih =>
    obtain ⟨h1, h2⟩ := h x (List.mem_cons_self ..)
    have hx := hp x.state.toNat (by omega)
    have : numB p x.state = x.state := by rw [numB_pos hx, cntB_all _ (fun s hs => hp s (by omega))]; omega
    rw [List.filterMap_cons, this, if_pos h1, ih (fun y hy => h y (List.mem_cons_of_mem _ hy))]
theorem keepA_all {p : Nat → Bool} {n : Nat} (hp : ∀ s, s < n → p s = true) {l : List Arc} (h : ∀ x ∈ l, (0 ≤ x.frm ∧ x.frm < n) ∧ (0 ≤ x.to ∧ x.to < n)) : keepA p l = l := by
  unfold keepA
  induction l with
  | nil => rfl
  | cons x l ih =>
    obtain ⟨⟨h1, h2⟩, h3, h4⟩ := h x (List.mem_cons_self ..)
    have hx := hp x.frm.toNat (by omega)
    have hy := hp x.to.toNat (by omega)
    have e1 : numB p x.frm = x.frm := by rw [numB_pos hx, cntB_all _ (fun s hs => hp s (by omega))]; omega
    have e2 : numB p x.to = x.to := by rw [numB_pos hy, cntB_all _ (fun s hs => hp s (by omega))]; omega
    rw [List.filterMap_cons, e1, e2, if_pos ⟨h1, h3⟩, ih (fun y hy => h y (List.mem_cons_of_mem _ hy))]
/-- What stands for a state of a right transducer. -/
structure Rng (t : Fst) : Prop where
  starts : ∀ x ∈ t.starts, 0 ≤ x.state ∧ x.state < t.states
  ends : ∀ x ∈ t.ends, 0 ≤ x.state ∧ x.state < t.states
  arcs : ∀ x ∈ t.arcs, (0 ≤ x.frm ∧ x.frm < t.states) ∧ (0 ≤ x.to ∧ x.to < t.states)
open Classical in
theorem useB_iff {t : Fst} {s : Nat} : useB t s = true ↔ Use t s := by unfold useB; exact decide_eq_true_iff
theorem keep_rng {t r : Fst} (hS : ∀ x, x ∈ r.starts ↔ x ∈ keepT (useB t) t.starts) (hE : ∀ x, x ∈ r.ends ↔ x ∈ keepT (useB t) t.ends) (hA : ∀ x, x ∈ r.arcs ↔ x ∈ keepA (useB t) t.arcs) (hn : r.states = cntB (useB t) t.states.toNat) (h : Rng t) : Rng r := by
  have num : ∀ {a : Int}, 0 ≤ a → a < t.states → useB t a.toNat = true → 0 ≤ numB (useB t) a ∧ numB (useB t) a < r.states := fun {a} h0 h1 hu => by
    rw [numB_pos hu, hn]
    have := cntB_lt (useB t) (m := a.toNat) (n := t.states.toNat) (by omega) hu
    omega
  refine ⟨fun y hy => ?_, fun y hy => ?_, fun y hy => ?_⟩
  · obtain ⟨x, hx, hu, rfl⟩ := mem_keepT.1 ((hS y).1 hy); have := h.starts x hx; exact num this.1 this.2 hu
  · obtain ⟨x, hx, hu, rfl⟩ := mem_keepT.1 ((hE y).1 hy); have := h.ends x hx; exact num this.1 this.2 hu
  · obtain ⟨x, hx, hu, hv, rfl⟩ := mem_keepA.1 ((hA y).1 hy); have := h.arcs x hx; exact ⟨num this.1.1 this.1.2 hu, num this.2.1 this.2.2 hv⟩
end Go.Proofs.Ytcfjjckencjjeaa
end

/- PrV -/
section
/- Which states some way leads to: the program's search. Plain lemmas, no condition. -/
set_option linter.unusedVariables false
set_option linter.unusedSimpArgs false
namespace Go.Proofs.Ytcfjjckencjjeaa
open Go Go.E
set_option maxRecDepth 100000

/-- How many are not seen. -/
def uns : List Bool → Nat
  | [] => 0
  | b :: l => (if b then 0 else 1) + uns l
theorem uns_len : ∀ l : List Bool, uns l ≤ l.length
  | [] => Nat.le_refl _
  | b :: l => by have := uns_len l; simp only [uns, List.length_cons]; split <;> omega
def Le (l r : List Bool) : Prop := ∀ v, nth l v false = true → nth r v false = true
theorem Le.rfl' (l : List Bool) : Le l l := fun _ h => h
theorem Le.trans {l r s : List Bool} (h : Le l r) (k : Le r s) : Le l s := fun v hv => k v (h v hv)
theorem uns_le : ∀ {l r : List Bool}, l.length = r.length → Le l r → uns r ≤ uns l
  | [], [], _, _ => Nat.le_refl _
  | [], _ :: _, h, _ => by simp at h
  | _ :: _, [], h, _ => by simp at h
  | a :: l, b :: r, h, k => by
    have h1 := uns_le (l := l) (r := r) (by simpa using h) (fun v hv => k (v + 1) hv)
    have h2 : a = true → b = true := fun ha => k 0 ha
    simp only [uns]
    cases a <;> cases b <;> simp_all <;> omega
theorem uns_set : ∀ {l : List Bool} {i : Nat}, i < l.length → nth l i false = false → uns (l.set i true) + 1 = uns l
  | [], i, h, _ => by simp at h
  | a :: l, 0, _, h => by
    have : a = false := h
    subst this
    simp [uns]; omega
  | a :: l, i + 1, h, k => by
    have := uns_set (l := l) (i := i) (by simpa using h) k
    simp only [List.set_cons_succ, uns]; omega
theorem le_set {l : List Bool} (i : Nat) (h : i < l.length) : Le l (l.set i true) := fun v hv => by
  rw [nth_set]; split
  · rfl
  · exact hv
def stE (st : List (List Int)) (a b : Int) : Prop := 0 ≤ a ∧ b ∈ nth st a.toNat []
theorem Rch.trans {S : Int → Prop} {E : Int → Int → Prop} {a b : Int} (h : Rch (fun c => c = a) E b) (k : Rch S E a) : Rch S E b := by
  induction h with
  | base e => subst e; exact k
  | step _ e ih => exact .step ih e
theorem mem_nth {α : Type} {l : List α} {x d : α} (h : x ∈ l) : ∃ j, j < l.length ∧ nth l j d = x := by
  obtain ⟨j, hj, e⟩ := List.getElem_of_mem h
  refine ⟨j, hj, ?_⟩
  have := getD_some l hj d
  rw [List.getElem?_eq_getElem hj, Option.some.injEq] at this
  rw [← this]; exact e
theorem mem_at {α : Type} {l : List α} {j : Nat} (d : α) (h : j < l.length) : nth l j d ∈ l := by
  have := getD_some l h d
  exact List.mem_of_getElem? this
/-- What a search leaves. -/
structure Vis (st : List (List Int)) (n : Nat) (s : Int) (seen r : List Bool) : Prop where
  len : r.length = n
  le : Le seen r
  at' : nth r s.toNat false = true
  out : ∀ v, nth r v false = true → nth seen v false = true ∨ Rch (fun c => c = s) (stE st) v
  cl : ∀ v, nth r v false = true → nth seen v false = false → ∀ z ∈ nth st v [], nth r z.toNat false = true
theorem visit_ok {st : List (List Int)} {n : Nat} (hl : st.length = n) (hst : ∀ a, ∀ z ∈ nth st a [], 0 ≤ z ∧ z < n) :
    ∀ k (s : Int) (seen : List Bool), 0 ≤ s → s < n → seen.length = n → uns seen < k → ∃ r, prune_reach_1 k s seen st = some r ∧ Vis st n s seen r := by
  intro k
  induction k with
  | zero => intro s seen _ _ _ h; omega
  | succ k ih =>
    intro s seen h0 h1 hn hu
    show ∃ r, prune_reach_1F (prune_reach_1 k) s seen st = some r ∧ _
    unfold prune_reach_1F
    rw [grd_mk ⟨h0, by omega⟩]
    cases hs : nth seen s.toNat false with
    | true => exact ⟨seen, rfl, hn, Le.rfl' _, hs, fun v hv => .inl hv, fun v hv hf => by rw [hv] at hf; cases hf⟩
    | false =>
      rw [iteO_false, grd_mk ⟨h0, by omega⟩, grd_mk ⟨h0, by omega⟩]
      have hlt : s.toNat < seen.length := by omega
      have hun := uns_set hlt hs
      have hat : nth (seen.set s.toNat true) s.toNat false = true := by rw [nth_set, if_pos ⟨rfl, hlt⟩]
      have hor : ∀ v, nth (seen.set s.toNat true) v false = true → nth seen v false = true ∨ v = s.toNat := fun v hv => by
        rw [nth_set] at hv
        split at hv
        · rename_i h; exact .inr h.1.symm
        · exact .inl hv
      obtain ⟨r, h2, h3, h4, h5, h6, h7⟩ := iter_up (step := fun q : List Bool × Nat => prune_reach_1_b1 st s (prune_reach_1 k) q.1 q.2) (fun (l : List Bool) j => (l, j)) (nth st s.toNat []).length
        (fun j l => l.length = n ∧ Le (seen.set s.toNat true) l ∧ (∀ i, i < j → nth l (nth (nth st s.toNat []) i 0).toNat false = true) ∧ (∀ v, nth l v false = true → nth (seen.set s.toNat true) v false = true ∨ Rch (fun c => c = s) (stE st) v) ∧ (∀ v, nth l v false = true → nth (seen.set s.toNat true) v false = false → ∀ z ∈ nth st v [], nth l z.toNat false = true))
        (fun l => l.length = n ∧ Le (seen.set s.toNat true) l ∧ (∀ i, i < (nth st s.toNat []).length → nth l (nth (nth st s.toNat []) i 0).toNat false = true) ∧ (∀ v, nth l v false = true → nth (seen.set s.toNat true) v false = true ∨ Rch (fun c => c = s) (stE st) v) ∧ (∀ v, nth l v false = true → nth (seen.set s.toNat true) v false = false → ∀ z ∈ nth st v [], nth l z.toNat false = true))
        (fun j l hj ⟨a1, a2, a3, a4, a5⟩ => by
          have hz := mem_at (0 : Int) hj
          have hzr := hst _ _ hz
          have hle := uns_le (by rw [List.length_set]; omega) a2
          obtain ⟨r, b1, b2⟩ := ih (nth (nth st s.toNat []) j 0) l hzr.1 hzr.2 a1 (by omega)
          refine .inl ⟨r, ?_, b2.len, a2.trans b2.le, fun i hi => ?_, fun v hv => ?_, fun v hv hf z hz' => ?_⟩
          · show prune_reach_1_b1 st s (prune_reach_1 k) l j = _
            unfold prune_reach_1_b1
            rw [iteO_dt (by omega), b1]; rfl
          · by_cases hij : i = j
            · subst hij; exact b2.at'
            · exact b2.le _ (a3 i (by omega))
          · rcases b2.out v hv with h | h
            · exact a4 v h
            · exact .inr (h.trans (.step (.base rfl) ⟨h0, hz⟩))
          · cases hlv : nth l v false with
            | true => exact b2.le _ (a5 v hlv hf z hz')
            | false => exact b2.cl v hv hlv z hz')
        (fun l hI => ⟨l, by
          show prune_reach_1_b1 st s (prune_reach_1 k) l _ = _
          unfold prune_reach_1_b1
          rw [iteO_df (by omega)]; rfl, hI⟩)
        (s0 := seen.set s.toNat true) ⟨by rw [List.length_set]; exact hn, Le.rfl' _, fun i hi => by omega, fun v hv => .inl hv, fun v hv hf => by rw [hv] at hf; cases hf⟩
      refine ⟨r, h2, h3, (le_set _ hlt).trans h4, h4 _ hat, fun v hv => ?_, fun v hv hf z hz => ?_⟩
      · rcases h6 v hv with h | h
        · rcases hor v h with h | h
          · exact .inl h
          · exact .inr (.base (by omega))
        · exact .inr h
      · cases hsv : nth (seen.set s.toNat true) v false with
        | true =>
          rcases hor v hsv with h | h
          · rw [h] at hf; cases hf
          · subst h
            obtain ⟨i, hi, e⟩ := mem_nth (d := (0 : Int)) hz
            have := h5 i hi
            rw [e] at this; exact this
        | false => exact h7 v hv hsv z hz
theorem reach_ok {st : List (List Int)} {n : Nat} {tips : List Tip} (hn : n ≤ 1024) (hl : st.length = n) (hst : ∀ a, ∀ z ∈ nth st a [], 0 ≤ z ∧ z < n) (ht : ∀ x ∈ tips, 0 ≤ x.state ∧ x.state < n) :
    ∃ r, prune_reach tips st = some r ∧ r.length = n ∧ ∀ v : Nat, nth r v false = true ↔ Rch (fun c => ∃ x ∈ tips, x.state = c) (stE st) v := by
  unfold prune_reach
  rw [grd_mk (by omega)]
  obtain ⟨r, h1, h2, h3, h4, h5⟩ := iter_up (step := fun q : List Bool × Nat => prune_reach_b1 tips st q.1 q.2) (fun (l : List Bool) j => (l, j)) tips.length
    (fun j l => l.length = n ∧ (∀ i, i < j → nth l (nth tips i Tip.zero).state.toNat false = true) ∧ (∀ v : Nat, nth l v false = true → Rch (fun c => ∃ x ∈ tips, x.state = c) (stE st) v) ∧ (∀ v, nth l v false = true → ∀ z ∈ nth st v [], nth l z.toNat false = true))
    (fun l => l.length = n ∧ (∀ i, i < tips.length → nth l (nth tips i Tip.zero).state.toNat false = true) ∧ (∀ v : Nat, nth l v false = true → Rch (fun c => ∃ x ∈ tips, x.state = c) (stE st) v) ∧ (∀ v, nth l v false = true → ∀ z ∈ nth st v [], nth l z.toNat false = true))
    (fun j l hj ⟨a1, a2, a3, a4⟩ => by
      have hz := mem_at Tip.zero hj
      have hzr := ht _ hz
      have := uns_len l
      obtain ⟨r, b1, b2⟩ := visit_ok hl hst (l.length + 1) (nth tips j Tip.zero).state l hzr.1 hzr.2 a1 (by omega)
      refine .inl ⟨r, ?_, b2.len, fun i hi => ?_, fun v hv => ?_, fun v hv z hz' => ?_⟩
      · show prune_reach_b1 tips st l j = _
        unfold prune_reach_b1
        rw [iteO_dt (by omega), b1]; rfl
      · by_cases hij : i = j
        · subst hij; exact b2.at'
        · exact b2.le _ (a2 i (by omega))
      · rcases b2.out v hv with h | h
        · exact a3 v h
        · exact h.trans (.base ⟨_, hz, rfl⟩)
      · cases hlv : nth l v false with
        | true => exact b2.le _ (a4 v hlv z hz')
        | false => exact b2.cl v hv hlv z hz')
    (fun l hI => ⟨l, by
      show prune_reach_b1 tips st l _ = _
      unfold prune_reach_b1
      rw [iteO_df (by omega)]; rfl, hI⟩)
    (s0 := List.replicate st.length false) ⟨by rw [List.length_replicate]; exact hl, fun i hi => by omega, fun v hv => (by rw [nth_rep] at hv; cases hv), fun v hv => (by rw [nth_rep] at hv; cases hv)⟩
  refine ⟨r, h1, h2, fun v => ⟨h4 v, fun hv => ?_⟩⟩
  have : ∀ c : Int, Rch (fun c => ∃ x ∈ tips, x.state = c) (stE st) c → nth r c.toNat false = true := fun c hc => by
    induction hc with
    | base h =>
      obtain ⟨x, hx, rfl⟩ := h
      obtain ⟨i, hi, e⟩ := mem_nth (d := Tip.zero) hx
      have := h3 i hi
      rw [e] at this; exact this
    | step _ e ih => exact h5 _ ih _ e.2
  have := this v hv
  simpa using this
end Go.Proofs.Ytcfjjckencjjeaa
end

/- TwF -/
section
/- Lags of two ways: what the program's iterators tell, as lists. Plain lemmas, no condition. -/
set_option linter.unusedVariables false
set_option linter.unusedSimpArgs false
namespace Go.Proofs.Ytcfjjckencjjeaa
open Go Go.E
set_option maxRecDepth 100000

theorem drop_nth {α : Type} (l : List α) {k : Nat} (h : k < l.length) (d : α) : l.drop k = nth l k d :: l.drop (k + 1) := by
  rw [List.drop_eq_getElem_cons h]
  have := getD_some l h d
  rw [List.getElem?_eq_getElem h, Option.some.injEq] at this
  rw [this]

/-! ### How two texts begin -/
def lcpN : List UInt8 → List UInt8 → Nat
  | a :: l, b :: m => if a = b then lcpN l m + 1 else 0
  | _, _ => 0
theorem lcpN_l : ∀ l m : List UInt8, lcpN l m ≤ l.length
  | [], _ => Nat.zero_le _
  | _ :: _, [] => Nat.zero_le _
  | a :: l, b :: m => by have := lcpN_l l m; simp only [lcpN, List.length_cons]; split <;> omega
theorem lcpN_r : ∀ l m : List UInt8, lcpN l m ≤ m.length
  | [], _ => Nat.zero_le _
  | _ :: _, [] => Nat.zero_le _
  | a :: l, b :: m => by have := lcpN_r l m; simp only [lcpN, List.length_cons]; split <;> omega
theorem lcpN_eq : ∀ (l m : List UInt8) (k : Nat), k ≤ l.length → k ≤ m.length → (∀ i, i < k → nth l i 0 = nth m i 0) → (k < l.length → k < m.length → nth l k 0 ≠ nth m k 0) → lcpN l m = k
  | [], _, k, h, _, _, _ => by simp at h; simp [lcpN, h]
  | _ :: _, [], k, _, h, _, _ => by simp at h; simp [lcpN, h]
  | a :: l, b :: m, 0, _, _, _, h => by
    have : a ≠ b := h (by simp) (by simp)
    simp [lcpN, this]
  | a :: l, b :: m, k + 1, h1, h2, h3, h4 => by
    have e : a = b := h3 0 (by omega)
    have := lcpN_eq l m k (by simpa using h1) (by simpa using h2) (fun i hi => h3 (i + 1) (by omega)) (fun i j => h4 (by simpa using i) (by simpa using j))
    simp [lcpN, e, this]
theorem front_eq (x y : List UInt8) (hx : x.length ≤ 281474976710656) (hy : y.length ≤ 281474976710656) : text_front x y = some ((lcpN x y : Nat) : Int) := by
  unfold text_front
  rw [grd_mk hx, grd_mk hy]
  have hm : min ((x.length : Nat) : Int) ((y.length : Nat) : Int) = ((min x.length y.length : Nat) : Int) := by omega
  obtain ⟨r, h, rfl⟩ := iter_up (step := fun q : Nat => text_front_b1 x y q) (fun (_ : Unit) k => k) (min x.length y.length) (fun k _ => ∀ i, i < k → nth x i 0 = nth y i 0) (fun r => r = ((lcpN x y : Nat) : Int))
    (fun k _ hk hI => by
      unfold text_front_b1
      rw [hm, iteO_dt (by omega), grd_mk (by omega), grd_mk (by omega)]
      by_cases e : nth x k 0 = nth y k 0
      · rw [iteO_df (by rw [e]; simp)]
        exact .inl ⟨(), rfl, fun i hi => by
          by_cases hik : i = k
          · subst hik; exact e
          · exact hI i (by omega)⟩
      · have hne : (((nth x k (0 : UInt8)).toNat : Nat) : Int) ≠ (((nth y k (0 : UInt8)).toNat : Nat) : Int) := fun h => e (UInt8.toNat_inj.1 (by omega))
        rw [iteO_dt hne]
        refine .inr ⟨_, rfl, ?_⟩
        rw [lcpN_eq x y k (by omega) (by omega) hI (fun _ _ => e)])
    (fun _ hI => ⟨_, by
      unfold text_front_b1
      rw [hm, iteO_df (by omega)]; rfl, by
      rw [lcpN_eq x y (min x.length y.length) (by omega) (by omega) hI (fun h1 h2 => by omega)]⟩)
    (s0 := ()) (fun i hi => by omega)
  exact h
/-- What is left of two texts without how both begin. -/
def lagS (a b : List UInt8) : List UInt8 × List UInt8 := (a.drop (lcpN a b), b.drop (lcpN a b))
theorem lag_eq (x y : List UInt8) (hx : x.length ≤ 281474976710656) (hy : y.length ≤ 281474976710656) : text_Lag x y = some (lagS x y) := by
  have h1 := lcpN_l x y
  have h2 := lcpN_r x y
  unfold text_Lag
  rw [grd_mk hx, grd_mk hy, bnd_some (front_eq x y hx hy), grd_mk ⟨by omega, by omega, by omega⟩, grd_mk ⟨by omega, by omega, by omega⟩]
  rfl
def cm (x : Arc) (b : UInt8) : List UInt8 := if x.copy then x.out ++ [b] else x.out
theorem comes_eq (x : Arc) (b : UInt8) (h : x.out.length ≤ 1000000) : twin_comes x b = some (cm x b) := by
  unfold twin_comes cm
  cases x.copy with
  | true => rw [iteO_true, grd_mk (by simp only [List.length_singleton]; omega), if_pos rfl]
  | false => rfl
theorem cm_len (x : Arc) (b : UInt8) : (cm x b).length ≤ x.out.length + 1 := by unfold cm; split <;> simp
noncomputable def bothS (a b : BSet) : BSet := (set_Both a b).getD BSet.zero
theorem both_eq (a b : BSet) : set_Both a b = some (bothS a b) := by
  have h : ∃ r, set_Both a b = some r := by
    unfold set_Both
    obtain ⟨r, h, _⟩ := iter_up (step := fun q : BSet × Nat => set_Both_b1 b q.1 q.2) (fun (s : BSet) k => (s, k)) 4 (fun _ _ => True) (fun _ => True)
      (fun k s hk _ => .inl ⟨BSet.setWord s k (u64and (BSet.word s k) (BSet.word b k)), by
        show set_Both_b1 b s k = _
        unfold set_Both_b1
        rw [iteO_dt (by omega), grd_mk hk, grd_mk hk, grd_mk hk, grd_mk (by unfold u64and; exact BitVec.isLt _)]; rfl, trivial⟩)
      (fun s _ => ⟨s, by
        show set_Both_b1 b s 4 = _
        unfold set_Both_b1
        rw [iteO_df (by omega)]; rfl, trivial⟩) (s0 := a) trivial
    exact ⟨r, h⟩
  obtain ⟨r, h⟩ := h
  unfold bothS; rw [h]; rfl

/-! ### An iterator's list -/
section
variable {S α : Type}
/-- Calls of yield, one after the other, till one says no. -/
def foldY (Y : S → α → Option (S × Bool)) : List α → S → Option (S × Bool)
  | [], s => some (s, true)
  | x :: l, s => (Y s x).bind fun q => if q.2 then foldY Y l q.1 else some (q.1, false)
theorem foldY_app {Y : S → α → Option (S × Bool)} : ∀ {l m : List α} {s : S}, foldY Y (l ++ m) s = (foldY Y l s).bind fun q => if q.2 then foldY Y m q.1 else some (q.1, false)
  | [], m, s => rfl
  | x :: l, m, s => by
    simp only [List.cons_append, foldY]
    cases Y s x with
    | none => rfl
    | some q =>
      simp only [Option.bind_some]
      cases q.2 with
      | true => exact foldY_app
      | false => rfl
theorem foldY_step {Y : S → α → Option (S × Bool)} {x : α} {l : List α} {s : S} {r : S × Bool} (h : foldY Y (x :: l) s = some r) : ∃ q, Y s x = some q ∧ (if q.2 then foldY Y l q.1 else some (q.1, false)) = some r := by
  simp only [foldY] at h
  cases hy : Y s x with
  | none => rw [hy] at h; cases h
  | some q => rw [hy] at h; exact ⟨q, rfl, h⟩
theorem foldY_split {Y : S → α → Option (S × Bool)} {l m : List α} {s : S} {r : S × Bool} (h : foldY Y (l ++ m) s = some r) : ∃ q, foldY Y l s = some q ∧ (if q.2 then foldY Y m q.1 else some (q.1, false)) = some r := by
  rw [foldY_app] at h
  cases hy : foldY Y l s with
  | none => rw [hy] at h; cases h
  | some q => rw [hy] at h; exact ⟨q, rfl, h⟩
end

/-! ### The lags behind one, by two arcs -/
noncomputable def lagOf (l : TLag) (x y : Arc) (n : Nat) : TLag := ⟨x.to, y.to, (lagS (l.a ++ cm x (toU8 ((n : Nat) : Int))) (l.b ++ cm y (toU8 ((n : Nat) : Int)))).1, (lagS (l.a ++ cm x (toU8 ((n : Nat) : Int))) (l.b ++ cm y (toU8 ((n : Nat) : Int)))).2⟩
noncomputable def byFrom (l : TLag) (x y : Arc) (k m : Nat) : List TLag :=
  let L := ((List.range' k m).filter fun n => (bothS x.set y.set).has (toU8 ((n : Nat) : Int)).toNat).map (lagOf l x y)
  if x.copy || y.copy then L else L.take 1
noncomputable def byL (l : TLag) (x y : Arc) : List TLag := byFrom l x y 0 256
theorem byFrom_skip {l : TLag} {x y : Arc} {k m : Nat} (h : (bothS x.set y.set).has (toU8 ((k : Nat) : Int)).toNat = false) : byFrom l x y k (m + 1) = byFrom l x y (k + 1) m := by
  unfold byFrom
  rw [List.range'_succ, List.filter_cons, h]; rfl
theorem byFrom_take {l : TLag} {x y : Arc} {k m : Nat} (h : (bothS x.set y.set).has (toU8 ((k : Nat) : Int)).toNat = true) : byFrom l x y k (m + 1) = lagOf l x y k :: (if x.copy || y.copy then byFrom l x y (k + 1) m else []) := by
  unfold byFrom
  rw [List.range'_succ, List.filter_cons, h, if_pos rfl]
  dsimp only
  cases hc : (x.copy || y.copy) with
  | true => simp
  | false => simp
theorem by_run {Sy : Type} {Y : Sy → TLag → Option (Sy × Bool)} (l : TLag) (x y : Arc) (h1 : l.a.length ≤ 100000000) (h2 : l.b.length ≤ 100000000) (h3 : x.out.length ≤ 1000000) (h4 : y.out.length ≤ 1000000) :
    ∀ (m k : Nat) (s : Sy) (r : Sy × Bool), k + m = 256 → foldY Y (byFrom l x y k m) s = some r → iter (fun q : Nat × Sy => twin_by_1_b1 (bothS x.set y.set) x l y Y q.1 q.2) (k, s) = some r.1 := by
  intro m
  induction m with
  | zero =>
    intro k s r hk hf
    have : r = (s, true) := by
      unfold byFrom at hf
      simp [foldY] at hf
      exact hf.symm
    subst this
    refine iter_done ?_
    show twin_by_1_b1 _ _ _ _ _ k s = _
    unfold twin_by_1_b1
    rw [iteO_df (by omega)]; rfl
  | succ m ih =>
    intro k s r hk hf
    cases hh : (bothS x.set y.set).has (toU8 ((k : Nat) : Int)).toNat with
    | false =>
      rw [byFrom_skip hh] at hf
      refine iter_next (s' := (k + 1, s)) ?_ (ih (k + 1) s r (by omega) hf)
      show twin_by_1_b1 _ _ _ _ _ k s = _
      unfold twin_by_1_b1 twin_by_1_j1
      rw [iteO_dt (by omega), hh, iteO_nf]; rfl
    | true =>
      rw [byFrom_take hh] at hf
      obtain ⟨q, hy, hq⟩ := foldY_step hf
      have c1 := cm_len x (toU8 ((k : Nat) : Int))
      have c2 := cm_len y (toU8 ((k : Nat) : Int))
      have hs : twin_by_1_b1 (bothS x.set y.set) x l y Y k s = iteO (!q.2) (fin (some q.1)) (iteO (!x.copy) (iteO (!y.copy) (fin (some q.1)) (twin_by_1_j1 k q.1)) (twin_by_1_j1 k q.1)) := by
        unfold twin_by_1_b1
        rw [iteO_dt (by omega), hh, iteO_nt, bnd_some (comes_eq x _ h3), grd_mk (by omega), bnd_some (comes_eq y _ h4), grd_mk (by omega), bnd_some (lag_eq _ _ (by rw [List.length_append]; omega) (by rw [List.length_append]; omega))]
        exact bnd_some hy
      cases hb : q.2 with
      | false =>
        rw [hb] at hq hs
        have : r = (q.1, false) := by simpa using hq.symm
        subst this
        exact iter_done hs
      | true =>
        rw [hb] at hq hs
        rw [if_pos rfl] at hq
        cases hc : (x.copy || y.copy) with
        | true =>
          rw [hc, if_pos rfl] at hq
          refine iter_next (s' := (k + 1, q.1)) ?_ (ih (k + 1) q.1 r (by omega) hq)
          show twin_by_1_b1 _ _ _ _ _ k s = _
          rw [hs]
          unfold twin_by_1_j1
          cases hx : x.copy with
          | true => rfl
          | false =>
            rw [hx, Bool.false_or] at hc
            rw [hc]; rfl
        | false =>
          rw [hc] at hq
          have : r = (q.1, true) := by simpa [foldY] using hq.symm
          subst this
          refine iter_done ?_
          show twin_by_1_b1 _ _ _ _ _ k s = _
          rw [hs]
          have : x.copy = false ∧ y.copy = false := by simpa using hc
          rw [this.1, this.2]; rfl
theorem by_eq {Sy : Type} {Y : Sy → TLag → Option (Sy × Bool)} (l : TLag) (x y : Arc) (h1 : l.a.length ≤ 100000000) (h2 : l.b.length ≤ 100000000) (h3 : x.out.length ≤ 1000000) (h4 : y.out.length ≤ 1000000) {s : Sy} {r : Sy × Bool} (h : foldY Y (byL l x y) s = some r) :
    twin_by_1 Y s x y l = some r.1 := by
  unfold twin_by_1
  rw [bnd_some (both_eq _ _)]
  exact by_run l x y h1 h2 h3 h4 256 0 s r rfl h

/-! ### The first lags -/
def pairLag (x y : Tip) : TLag := ⟨x.state, y.state, (lagS x.out y.out).1, (lagS x.out y.out).2⟩
def firstL (t : Fst) : List TLag := t.starts.flatMap fun x => t.starts.map (pairLag x)
theorem first_in {Sy : Type} {Y : Sy → TLag → Option (Sy × Bool)} (w : Walk) (hl : ∀ x ∈ w.t.starts, x.out.length ≤ 1000000) (i : Nat) (hi : i < w.t.starts.length) :
    ∀ (m k : Nat) (s : Sy) (r : Sy × Bool), k + m = w.t.starts.length → foldY Y ((w.t.starts.drop k).map (pairLag (nth w.t.starts i Tip.zero))) s = some r →
      iter (fun q : Nat × Sy => twin_walk_first_1_b2 w i Y q.1 q.2) (k, s) = some (if r.2 then .inl (i + 1, r.1) else .inr r.1) := by
  intro m
  induction m with
  | zero =>
    intro k s r hk hf
    rw [List.drop_of_length_le (by omega)] at hf
    have : r = (s, true) := by simpa [foldY] using hf.symm
    subst this
    refine iter_done ?_
    show twin_walk_first_1_b2 w i Y k s = _
    unfold twin_walk_first_1_b2
    rw [iteO_df (by omega)]; rfl
  | succ m ih =>
    intro k s r hk hf
    have hkl : k < w.t.starts.length := by omega
    rw [drop_nth _ hkl Tip.zero, List.map_cons] at hf
    obtain ⟨q, hy, hq⟩ := foldY_step hf
    have b1 := hl _ (mem_at Tip.zero hi)
    have b2 := hl _ (mem_at Tip.zero hkl)
    have hs : twin_walk_first_1_b2 w i Y k s = iteO (!q.2) (fin (fin (some q.1))) (nxt ((k + 1), q.1)) := by
      unfold twin_walk_first_1_b2
      rw [iteO_dt (by omega), bnd_some (lag_eq _ _ (by omega) (by omega))]
      exact bnd_some hy
    cases hb : q.2 with
    | false =>
      rw [hb] at hq hs
      have : r = (q.1, false) := by simpa using hq.symm
      subst this
      exact iter_done hs
    | true =>
      rw [hb] at hq hs
      rw [if_pos rfl] at hq
      exact iter_next (s' := (k + 1, q.1)) hs (ih (k + 1) q.1 r (by omega) hq)
theorem first_run {Sy : Type} {Y : Sy → TLag → Option (Sy × Bool)} (w : Walk) (hl : ∀ x ∈ w.t.starts, x.out.length ≤ 1000000) :
    ∀ (m k : Nat) (s : Sy) (r : Sy × Bool), k + m = w.t.starts.length → foldY Y ((w.t.starts.drop k).flatMap fun x => w.t.starts.map (pairLag x)) s = some r →
      iter (fun q : Nat × Sy => twin_walk_first_1_b1 w Y q.1 q.2) (k, s) = some r.1 := by
  intro m
  induction m with
  | zero =>
    intro k s r hk hf
    rw [List.drop_of_length_le (by omega)] at hf
    have : r = (s, true) := by simpa [foldY] using hf.symm
    subst this
    refine iter_done ?_
    show twin_walk_first_1_b1 w Y k s = _
    unfold twin_walk_first_1_b1
    rw [iteO_df (by omega)]; rfl
  | succ m ih =>
    intro k s r hk hf
    have hkl : k < w.t.starts.length := by omega
    rw [drop_nth _ hkl Tip.zero, List.flatMap_cons] at hf
    obtain ⟨q, hy, hq⟩ := foldY_split hf
    have hin := first_in w hl k hkl w.t.starts.length 0 s q (by omega) (by rw [List.drop_zero]; exact hy)
    have hs : twin_walk_first_1_b1 w Y k s = some (if q.2 then .inl (k + 1, q.1) else .inr q.1) := by
      unfold twin_walk_first_1_b1
      rw [iteO_dt (by omega)]; exact hin
    cases hb : q.2 with
    | false =>
      rw [hb] at hq hs
      have : r = (q.1, false) := by simpa using hq.symm
      subst this
      exact iter_done hs
    | true =>
      rw [hb] at hq hs
      rw [if_pos rfl] at hq
      exact iter_next (s' := (k + 1, q.1)) hs (ih (k + 1) q.1 r (by omega) hq)
theorem first_eq {Sy : Type} {Y : Sy → TLag → Option (Sy × Bool)} (w : Walk) (hl : ∀ x ∈ w.t.starts, x.out.length ≤ 1000000) {s : Sy} {r : Sy × Bool} (h : foldY Y (firstL w.t) s = some r) : twin_walk_first_1 Y s w = some r.1 := by
  unfold twin_walk_first_1
  exact first_run w hl w.t.starts.length 0 s r (by omega) (by rw [List.drop_zero]; exact h)

/-! ### The lags behind those of a row -/
noncomputable def nextOf (arcs : List (List Arc)) (l : TLag) : List TLag := (nth arcs l.p.toNat []).flatMap fun x => (nth arcs l.q.toNat []).flatMap fun y => byL l x y
noncomputable def nextL (arcs : List (List Arc)) (row : List TLag) : List TLag := row.flatMap (nextOf arcs)
theorem fold_round {Sy : Type} {Y : Sy → TLag → Option (Sy × Bool)} : ∀ {L : List TLag} {s : Sy} {r : Sy × Bool}, foldY Y L s = some r →
    foldY (stepY (fun (q : Sy) (x : TLag) => twin_walk_next_1_r512 Y q x)) L (0, s) = some ((if r.2 then 0 else 1, r.1), r.2)
  | [], s, r, h => by
    have : r = (s, true) := by simpa [foldY] using h.symm
    subst this; rfl
  | x :: L, s, r, h => by
    obtain ⟨q, hy, hq⟩ := foldY_step h
    have hs : stepY (fun (q : Sy) (x : TLag) => twin_walk_next_1_r512 Y q x) (0, s) x = some ((if q.2 then 0 else 1, q.1), q.2) := by
      unfold stepY
      rw [if_pos rfl]
      show (twin_walk_next_1_r512 Y s x).bind _ = _
      unfold twin_walk_next_1_r512
      rw [bnd_some hy]
      cases q.2 <;> rfl
    simp only [foldY]
    rw [hs, Option.bind_some]
    cases hb : q.2 with
    | false =>
      rw [hb] at hq
      have : r = (q.1, false) := by simpa using hq.symm
      subst this; rfl
    | true =>
      rw [hb, if_pos rfl] at hq
      exact fold_round hq
/-- A walk whose arcs are in range. -/
structure ArcsOk (arcs : List (List Arc)) : Prop where
  out : ∀ i, ∀ x ∈ nth arcs i [], x.out.length ≤ 1000000
structure LagOk (n : Nat) (l : TLag) : Prop where
  p : 0 ≤ l.p ∧ l.p < n
  q : 0 ≤ l.q ∧ l.q < n
  a : l.a.length ≤ 100000000
  b : l.b.length ≤ 100000000
section
variable {Sy : Type} {Y : Sy → TLag → Option (Sy × Bool)} (w : Walk) (hw : ArcsOk w.arcs) (row : List TLag) (hr : ∀ l ∈ row, LagOk w.arcs.length l) (i : Nat) (hi : i < row.length)
include hw hr hi
theorem next_in (j : Nat) (hj : j < (nth w.arcs (nth row i TLag.zero).p.toNat []).length) :
    ∀ (m k : Nat) (s : Sy) (r : Sy × Bool), k + m = (nth w.arcs (nth row i TLag.zero).q.toNat []).length →
      foldY Y (((nth w.arcs (nth row i TLag.zero).q.toNat []).drop k).flatMap fun y => byL (nth row i TLag.zero) (nth (nth w.arcs (nth row i TLag.zero).p.toNat []) j Arc.zero) y) s = some r →
      iter (fun q : Nat × Sy => twin_walk_next_1_b3 w row i j Y q.1 q.2) (k, s) = some (if r.2 then .inl (j + 1, r.1) else .inr (.inr r.1)) := by
  intro m
  induction m with
  | zero =>
    intro k s r hk hf
    rw [List.drop_of_length_le (by omega)] at hf
    have : r = (s, true) := by simpa [foldY] using hf.symm
    subst this
    refine iter_done ?_
    show twin_walk_next_1_b3 w row i j Y k s = _
    unfold twin_walk_next_1_b3
    rw [iteO_df (by omega)]; rfl
  | succ m ih =>
    intro k s r hk hf
    have hkl : k < (nth w.arcs (nth row i TLag.zero).q.toNat []).length := by omega
    rw [drop_nth _ hkl Arc.zero, List.flatMap_cons] at hf
    obtain ⟨q, hy, hq⟩ := foldY_split hf
    have hl := hr _ (mem_at TLag.zero hi)
    have b1 := hw.out _ _ (mem_at Arc.zero hj)
    have b2 := hw.out _ _ (mem_at Arc.zero hkl)
    have hs : twin_walk_next_1_b3 w row i j Y k s = twin_walk_next_1_k512 k (if q.2 then 0 else 1) q.1 := by
      unfold twin_walk_next_1_b3
      rw [iteO_dt (by omega)]
      unfold twin_by
      rw [bnd_mk]
      dsimp only
      rw [bnd_some (by_eq _ _ _ hl.a hl.b b1 b2 (fold_round hy))]
    cases hb : q.2 with
    | false =>
      rw [hb] at hq hs
      have : r = (q.1, false) := by simpa using hq.symm
      subst this
      exact iter_done hs
    | true =>
      rw [hb] at hq hs
      rw [if_pos rfl] at hq
      exact iter_next (s' := (k + 1, q.1)) hs (ih (k + 1) q.1 r (by omega) hq)
theorem next_mid :
    ∀ (m k : Nat) (s : Sy) (r : Sy × Bool), k + m = (nth w.arcs (nth row i TLag.zero).p.toNat []).length →
      foldY Y (((nth w.arcs (nth row i TLag.zero).p.toNat []).drop k).flatMap fun x => (nth w.arcs (nth row i TLag.zero).q.toNat []).flatMap fun y => byL (nth row i TLag.zero) x y) s = some r →
      iter (fun q : Nat × Sy => twin_walk_next_1_b2 w row i Y q.1 q.2) (k, s) = some (if r.2 then .inl (i + 1, r.1) else .inr r.1) := by
  intro m
  induction m with
  | zero =>
    intro k s r hk hf
    rw [List.drop_of_length_le (by omega)] at hf
    have : r = (s, true) := by simpa [foldY] using hf.symm
    subst this
    refine iter_done ?_
    show twin_walk_next_1_b2 w row i Y k s = _
    unfold twin_walk_next_1_b2
    rw [iteO_df (by omega)]; rfl
  | succ m ih =>
    intro k s r hk hf
    have hkl : k < (nth w.arcs (nth row i TLag.zero).p.toNat []).length := by omega
    rw [drop_nth _ hkl Arc.zero, List.flatMap_cons] at hf
    obtain ⟨q, hy, hq⟩ := foldY_split hf
    have hl := hr _ (mem_at TLag.zero hi)
    have hin := next_in w hw row hr i hi k hkl (nth w.arcs (nth row i TLag.zero).q.toNat []).length 0 s q (by omega) (by rw [List.drop_zero]; exact hy)
    have hs : twin_walk_next_1_b2 w row i Y k s = some (if q.2 then .inl (k + 1, q.1) else .inr (.inr q.1)) := by
      unfold twin_walk_next_1_b2
      rw [iteO_dt (by omega), grd_mk hl.q]; exact hin
    cases hb : q.2 with
    | false =>
      rw [hb] at hq hs
      have : r = (q.1, false) := by simpa using hq.symm
      subst this
      exact iter_done hs
    | true =>
      rw [hb] at hq hs
      rw [if_pos rfl] at hq
      exact iter_next (s' := (k + 1, q.1)) hs (ih (k + 1) q.1 r (by omega) hq)
end
theorem next_run {Sy : Type} {Y : Sy → TLag → Option (Sy × Bool)} (w : Walk) (hw : ArcsOk w.arcs) (row : List TLag) (hr : ∀ l ∈ row, LagOk w.arcs.length l) :
    ∀ (m k : Nat) (s : Sy) (r : Sy × Bool), k + m = row.length → foldY Y (nextL w.arcs (row.drop k)) s = some r →
      iter (fun q : Nat × Sy => twin_walk_next_1_b1 row w Y q.1 q.2) (k, s) = some r.1 := by
  intro m
  induction m with
  | zero =>
    intro k s r hk hf
    rw [List.drop_of_length_le (by omega)] at hf
    have : r = (s, true) := by simpa [foldY, nextL] using hf.symm
    subst this
    refine iter_done ?_
    show twin_walk_next_1_b1 row w Y k s = _
    unfold twin_walk_next_1_b1
    rw [iteO_df (by omega)]; rfl
  | succ m ih =>
    intro k s r hk hf
    have hkl : k < row.length := by omega
    rw [drop_nth _ hkl TLag.zero, nextL, List.flatMap_cons] at hf
    obtain ⟨q, hy, hq⟩ := foldY_split hf
    have hl := hr _ (mem_at TLag.zero hkl)
    have hin := next_mid w hw row hr k hkl (nth w.arcs (nth row k TLag.zero).p.toNat []).length 0 s q (by omega) (by rw [List.drop_zero]; exact hy)
    have hs : twin_walk_next_1_b1 row w Y k s = some (if q.2 then .inl (k + 1, q.1) else .inr q.1) := by
      unfold twin_walk_next_1_b1
      rw [iteO_dt (by omega), grd_mk hl.p]; exact hin
    cases hb : q.2 with
    | false =>
      rw [hb] at hq hs
      have : r = (q.1, false) := by simpa using hq.symm
      subst this
      exact iter_done hs
    | true =>
      rw [hb] at hq hs
      rw [if_pos rfl] at hq
      exact iter_next (s' := (k + 1, q.1)) hs (ih (k + 1) q.1 r (by omega) hq)
theorem next_eq {Sy : Type} {Y : Sy → TLag → Option (Sy × Bool)} (w : Walk) (hw : ArcsOk w.arcs) (row : List TLag) (hr : ∀ l ∈ row, LagOk w.arcs.length l) {s : Sy} {r : Sy × Bool} (h : foldY Y (nextL w.arcs row) s = some r) : twin_walk_next_1 Y s row w = some r.1 := by
  unfold twin_walk_next_1
  exact next_run w hw row hr row.length 0 s r (by omega) (by rw [List.drop_zero]; exact h)
end Go.Proofs.Ytcfjjckencjjeaa
end

/- OnceG -/
section
/- Things in order, each once: plain lemmas, no condition. -/
set_option linter.unusedVariables false
set_option linter.unusedSimpArgs false
namespace Go.Proofs.Ytcfjjckencjjeaa
open Go Go.E
set_option maxRecDepth 100000
set_option linter.unusedSectionVars false

section
variable {α : Type} [DecidableEq α] (d : α)
/-- Without what stands twice in a row: among the first n. -/
def ddN (l : List α) : Nat → List α
  | 0 => []
  | n + 1 => ddN l n ++ (if n = 0 ∨ nth l n d ≠ nth l (n - 1) d then [nth l n d] else [])
theorem mem_ddN (l : List α) : ∀ n, n ≤ l.length → ∀ x, x ∈ ddN d l n ↔ x ∈ l.take n
  | 0, _, x => by simp [ddN]
  | n + 1, h, x => by
    rw [ddN, take_snoc l (by omega) d, List.mem_append, List.mem_append, mem_ddN l n (by omega)]
    by_cases hc : n = 0 ∨ nth l n d ≠ nth l (n - 1) d
    · rw [if_pos hc]
    · rw [if_neg hc]
      simp only [not_or, ne_eq, Decidable.not_not] at hc
      have : nth l n d ∈ l.take n := by
        rw [hc.2]
        have h1 : (l.take n)[n - 1]? = some (nth l (n - 1) d) := by rw [List.getElem?_take, if_pos (by omega)]; exact getD_some l (by omega) d
        exact List.mem_of_getElem? h1
      constructor
      · rintro (h | h)
        · exact .inl h
        · cases h
      · rintro (h | h)
        · exact .inl h
        · rw [List.mem_singleton.1 h]; exact .inl this
theorem nth_set_ne {l : List α} {k i : Nat} {v : α} (h : i ≠ k) : nth (l.set k v) i d = nth l i d := by
  simp [nth, List.getD, List.getElem?_set, Ne.symm h]
include d in
theorem take_set_succ {l : List α} {k : Nat} {v : α} (h : k < l.length) : (l.set k v).take (k + 1) = l.take k ++ [v] := by
  rw [take_snoc (l.set k v) (by simpa using h) d]
  congr 1
  · rw [List.take_set_of_le (Nat.le_refl _)]
  · simp [nth, List.getD, h]

noncomputable def gC_j (k125 : Nat) (l128 : List α) (k130 : Nat) : Option ((List α × Nat × Nat) ⊕ (Nat ⊕ List α)) :=
  nxt (l128, k130, (k125 + 1))
noncomputable def gC_b2 (x0 : List α) (k105 : Nat) (l122 : List α) (k124 : Nat) (k125 : Nat) : Option ((List α × Nat × Nat) ⊕ (Nat ⊕ List α)) :=
  iteO (decide (((k125 : Nat) : Int) < (((x0.length - k105) : Nat) : Int))) (grd (k125 < (x0.length - k105)) (grd (0 ≤ (IntKind.i64.wrap (((k125 : Nat) : Int) - 1)) ∧ (IntKind.i64.wrap (((k125 : Nat) : Int) - 1)) < ((x0.length - k105) : Nat)) (iteO (decide (¬ ((nth l122 (k105 + k125) d) = (nth l122 (k105 + (IntKind.i64.wrap (((k125 : Nat) : Int) - 1)).toNat) d)))) (grd (k125 < (x0.length - k105)) (grd (k124 < l122.length) (gC_j k125 (l122.set k124 (nth l122 (k105 + k125) d)) (k124 + 1)))) (gC_j k125 l122 k124)))) (fin (grd (k124 ≤ x0.length) (grd (k124 ≤ (l122.take k124 ++ List.replicate (l122.length - k124) d).length) (fin (some ((l122.take k124 ++ List.replicate (l122.length - k124) d).take k124))))))
noncomputable def gC_b1 (x0 : List α) (k105 : Nat) : Option ((Nat) ⊕ (List α)) :=
  iteO (decide (((k105 : Nat) : Int) < ((x0.length : Nat) : Int))) (grd (0 ≤ (IntKind.i64.wrap (((k105 : Nat) : Int) - 1)) ∧ (IntKind.i64.wrap (((k105 : Nat) : Int) - 1)) < (x0.length : Int)) (iteO (decide ((nth x0 k105 d) = (nth x0 ((IntKind.i64.wrap (((k105 : Nat) : Int) - 1)).toNat) d))) (grd (k105 ≤ x0.length) (iter (fun q : (List α) × Nat × Nat => gC_b2 d x0 k105 q.1 q.2.1 q.2.2) (x0, k105, 1))) (nxt (k105 + 1)))) (fin (some x0))
noncomputable def gC (x0 : List α) : Option (List α) :=
  iteO (decide (((x0.length : Nat) : Int) < 2)) (some x0) (iter (fun q : Nat => gC_b1 d x0 q) 1)

theorem wrap_pred {k : Nat} (h1 : 1 ≤ k) (h2 : k ≤ 281474976710656) : IntKind.i64.wrap ((k : Int) - 1) = ((k - 1 : Nat) : Int) := by
  rw [wrap64_of (by omega) (by omega)]; omega
theorem gC_in {l : List α} (hl : l.length ≤ 281474976710656) {k0 : Nat} (h0 : 1 ≤ k0) (hk : k0 < l.length) (he : nth l k0 d = nth l (k0 - 1) d) (hd : ddN d l k0 = l.take k0) :
    iter (fun q : (List α) × Nat × Nat => gC_b2 d l k0 q.1 q.2.1 q.2.2) (l, k0, 1) = some (.inr (ddN d l l.length)) := by
  refine Exists.elim (iter_run (step := fun q : (List α) × Nat × Nat => gC_b2 d l k0 q.1 q.2.1 q.2.2)
    (fun q => 1 ≤ q.2.2 ∧ k0 + q.2.2 ≤ l.length ∧ q.1.length = l.length ∧ q.2.1 ≤ k0 + q.2.2 - 1 ∧ (∀ i, k0 + q.2.2 - 1 ≤ i → nth q.1 i d = nth l i d) ∧ q.1.take q.2.1 = ddN d l (k0 + q.2.2))
    (fun r => r = .inr (ddN d l l.length)) (fun q => l.length - q.2.2) ?_ (l, k0, 1) ⟨Nat.le_refl _, hk, rfl, by simp only; omega, fun _ _ => rfl, ?_⟩) (fun r hr => by rw [hr.1, hr.2])
  · rintro ⟨l2, k, j⟩ ⟨hj, hjl, hlen, hkj, hI, ht⟩
    simp only at hj hjl hlen hkj hI ht
    have hw : IntKind.i64.wrap ((j : Int) - 1) = ((j - 1 : Nat) : Int) := wrap_pred hj (by omega)
    by_cases hlt : k0 + j < l.length
    · left
      have e1 := hI (k0 + j) (by omega)
      have e2 := hI (k0 + (j - 1)) (by omega)
      simp only [gC_b2, hw, Int.toNat_natCast, decide_eq_true (show ((j : Nat) : Int) < ((l.length - k0 : Nat) : Int) by omega), iteO_true,
        grd_mk (show j < l.length - k0 by omega), grd_mk (show (0 : Int) ≤ ((j - 1 : Nat) : Int) ∧ ((j - 1 : Nat) : Int) < ((l.length - k0 : Nat) : Int) by omega), e1, e2]
      have e3 : k0 + (j - 1) = k0 + j - 1 := by omega
      by_cases hc : nth l (k0 + j) d = nth l (k0 + (j - 1)) d
      · simp only [hc, not_true_eq_false, decide_false, iteO_false, gC_j]
        refine ⟨_, rfl, ⟨by simp only; omega, by simp only; omega, hlen, by simp only; omega, fun i hi => hI i (by simp only at hi; omega), ?_⟩, by simp only; omega⟩
        simp only
        rw [ht, ← Nat.add_assoc, ddN, if_neg, List.append_nil]
        rw [hc, e3]; simp; omega
      · simp only [hc, not_false_eq_true, decide_true, iteO_true, grd_mk (show k < l2.length by omega), gC_j]
        refine ⟨_, rfl, ⟨by simp only; omega, by simp only; omega, by simp only [List.length_set]; exact hlen, by simp only; omega, fun i hi => ?_, ?_⟩, by simp only; omega⟩
        · simp only at hi ⊢
          rw [nth_set_ne d (by omega)]; exact hI i (by omega)
        · simp only
          rw [take_set_succ d (by omega), ht, ← Nat.add_assoc, ddN, if_pos]
          rw [e3] at hc; exact .inr hc
    · right
      have hjl' : k0 + j = l.length := by omega
      have hkl : (l2.take k).length = k := by rw [List.length_take]; omega
      refine ⟨.inr (ddN d l l.length), ?_, rfl⟩
      simp only [gC_b2, decide_eq_false (show ¬ ((j : Nat) : Int) < ((l.length - k0 : Nat) : Int) by omega), iteO_false, grd_mk (show k ≤ l.length by omega)]
      rw [grd_mk (by rw [List.length_append, hkl]; omega), List.take_append_of_le_length (by omega), List.take_of_length_le (by omega), ht, hjl']
      rfl
  · simp only
    rw [ddN, if_neg (by rw [he]; simp; omega), List.append_nil, hd]
theorem gC_eq {l : List α} (hl : l.length ≤ 281474976710656) : gC d l = some (ddN d l l.length) := by
  unfold gC
  by_cases h2 : l.length < 2
  · rw [decide_eq_true (by omega), iteO_true]
    match l, h2 with
    | [], _ => rfl
    | [x], _ => rfl
  · rw [decide_eq_false (by omega), iteO_false]
    refine Exists.elim (iter_run (step := fun q : Nat => gC_b1 d l q) (fun k => 1 ≤ k ∧ k ≤ l.length ∧ ddN d l k = l.take k) (fun r => r = ddN d l l.length) (fun k => l.length - k) ?_ 1 ⟨Nat.le_refl _, by omega, ?_⟩) (fun r hr => by rw [hr.1, hr.2])
    · rintro k ⟨h1, hk, hd⟩
      by_cases hlt : k < l.length
      · simp only [gC_b1, wrap_pred h1 (show k ≤ 281474976710656 by omega), Int.toNat_natCast, decide_eq_true (show ((k : Nat) : Int) < ((l.length : Nat) : Int) by omega), iteO_true,
          grd_mk (show (0 : Int) ≤ ((k - 1 : Nat) : Int) ∧ ((k - 1 : Nat) : Int) < (l.length : Int) by omega)]
        by_cases hc : nth l k d = nth l (k - 1) d
        · right
          simp only [hc, decide_true, iteO_true, grd_mk hk]
          exact ⟨_, gC_in d hl h1 hlt hc hd, rfl⟩
        · left
          simp only [hc, decide_false, iteO_false]
          refine ⟨k + 1, rfl, ⟨by omega, by omega, ?_⟩, by omega⟩
          rw [ddN, if_pos (.inr hc), hd, take_snoc l hlt d]
      · right
        have : k = l.length := by omega
        refine ⟨l, ?_, ?_⟩
        · simp only [gC_b1, decide_eq_false (show ¬ ((k : Nat) : Int) < ((l.length : Nat) : Int) by omega), iteO_false]; rfl
        · rw [← this, hd, List.take_of_length_le (by omega)]
    · rw [ddN, if_pos (.inl rfl), take_snoc l (by omega) d]; simp [ddN]
end

/-- In order, each once. -/
def onceL {α : Type} [DecidableEq α] (d : α) (cf : α → α → Int) (l : List α) : List α := ddN d (sortL cf l) l.length
section
variable {α : Type} [DecidableEq α] {d : α} {cf : α → α → Int}
theorem sortL_len (l : List α) : (sortL cf l).length = l.length := List.length_mergeSort _
theorem mem_onceL {l : List α} {x : α} : x ∈ onceL d cf l ↔ x ∈ l := by
  have h := sortL_len (cf := cf) l
  rw [onceL, mem_ddN d _ _ (by omega), List.take_of_length_le (by omega), sortL, List.mem_mergeSort]
theorem GoodCmp.le_trans (hc : GoodCmp cf) {x y z : α} (h1 : ¬ cf y x < 0) (h2 : ¬ cf z y < 0) : ¬ cf z x < 0 := fun h3 => by
  by_cases e : x = y
  · subst e; exact h2 h3
  · by_cases e' : y = z
    · subst e'; exact h1 h3
    · have a := hc.anti y x; have b := hc.anti z y; have a' := hc.eq y x; have b' := hc.eq z y
      have h4 : cf y z < 0 := by
        rw [hc.anti]
        have : cf z y ≠ 0 := fun h => e' ((b'.1 h).symm)
        omega
      exact h1 (hc.trans _ _ _ h4 h3)
theorem sortL_sorted (hc : GoodCmp cf) (l : List α) : (sortL cf l).Pairwise fun x y => ¬ cf y x < 0 := by
  have := List.pairwise_mergeSort (le := fun x y => !decide (cf y x < 0)) (fun a b c h1 h2 => by
    simp only [Bool.not_eq_true', decide_eq_false_iff_not] at *
    exact hc.le_trans h1 h2) (fun a b => by
    have := hc.anti a b
    simp only [Bool.or_eq_true, Bool.not_eq_true', decide_eq_false_iff_not]; omega) l
  exact this.imp fun h => by simpa using h
theorem sorted_onceL (hc : GoodCmp cf) (l : List α) : (onceL d cf l).Pairwise fun x y => cf x y < 0 := by
  have hs := sortL_sorted hc l
  have hlen := sortL_len (cf := cf) l
  unfold onceL
  generalize sortL cf l = s at hs hlen
  have key : ∀ n, n ≤ s.length → (ddN d s n).Pairwise fun x y => cf x y < 0 := by
    intro n
    induction n with
    | zero => intro _; exact List.Pairwise.nil
    | succ n ih =>
      intro h
      rw [ddN]
      split
      · rename_i hn
        rw [List.pairwise_append]
        refine ⟨ih (by omega), List.pairwise_singleton .., fun x hx y hy => ?_⟩
        rw [List.mem_singleton.1 hy]
        rw [mem_ddN d s n (by omega)] at hx
        have hn0 : n ≠ 0 := fun e => by subst e; simp at hx
        have hne : nth s n d ≠ nth s (n - 1) d := by rcases hn with h | h; exact absurd h hn0; exact h
        obtain ⟨i, hi, hxi⟩ := List.mem_iff_getElem.1 hx
        have hi' : i < n := by simp at hi; omega
        have hxi : s[i]'(by omega) = x := by rw [← hxi, List.getElem_take]
        have hp := List.pairwise_iff_getElem.1 hs
        have eN : ∀ {k : Nat} (hk : k < s.length), nth s k d = s[k] := fun hk => by simp [nth, List.getD, hk]
        rw [eN (by omega), eN (by omega)] at hne
        rw [eN (by omega)]
        have h1 : cf (s[n - 1]'(by omega)) (s[n]'(by omega)) < 0 := by
          have := hp (n - 1) n (by omega) (by omega) (by omega)
          have a := hc.anti (s[n - 1]'(by omega)) (s[n]'(by omega))
          have b := hc.eq (s[n]'(by omega)) (s[n - 1]'(by omega))
          have : cf (s[n]'(by omega)) (s[n - 1]'(by omega)) ≠ 0 := fun h => hne (b.1 h)
          omega
        by_cases hin : i = n - 1
        · subst hin; rw [← hxi]; exact h1
        · have h2 := hp i (n - 1) (by omega) (by omega) (by omega)
          rw [hxi] at h2
          by_cases e : x = s[n - 1]'(by omega)
          · rw [e]; exact h1
          · refine hc.trans _ _ _ ?_ h1
            have a := hc.anti x (s[n - 1]'(by omega))
            have b := hc.eq (s[n - 1]'(by omega)) x
            have : cf (s[n - 1]'(by omega)) x ≠ 0 := fun h => e (b.1 h).symm
            omega
      · rw [List.append_nil]; exact ih (by omega)
  exact key _ (by omega)
/-- Rows that rise, of the same things, are the same. -/
theorem rising_ext {R : α → α → Prop} (hi : ∀ x, ¬ R x x) (ht : ∀ x y z, R x y → R y z → R x z) : ∀ {l m : List α}, l.Pairwise R → m.Pairwise R → (∀ x, x ∈ l ↔ x ∈ m) → l = m
  | [], [], _, _, _ => rfl
  | [], y :: m, _, _, h => by have := (h y).2 (List.mem_cons_self ..); cases this
  | x :: l, [], _, _, h => by have := (h x).1 (List.mem_cons_self ..); cases this
  | x :: l, y :: m, hl, hm, h => by
    rw [List.pairwise_cons] at hl hm
    have e : x = y := by
      have h1 := (h x).1 (List.mem_cons_self ..)
      have h2 := (h y).2 (List.mem_cons_self ..)
      rw [List.mem_cons] at h1 h2
      rcases h1 with h1 | h1
      · exact h1
      · rcases h2 with h2 | h2
        · exact h2.symm
        · exact absurd (ht _ _ _ (hm.1 x h1) (hl.1 y h2)) (hi y)
    subst e
    rw [rising_ext hi ht hl.2 hm.2 fun z => ?_]
    have := h z
    simp only [List.mem_cons] at this
    constructor
    · intro hz
      rcases this.1 (.inr hz) with e | h'
      · subst e; exact absurd (hl.1 z hz) (hi z)
      · exact h'
    · intro hz
      rcases this.2 (.inr hz) with e | h'
      · subst e; exact absurd (hm.1 z hz) (hi z)
      · exact h'
theorem GoodCmp.irr (hc : GoodCmp cf) (x : α) : ¬ cf x x < 0 := by have := (hc.eq x x).2 rfl; omega
theorem rising_eq (hc : GoodCmp cf) {l m : List α} (hl : l.Pairwise fun x y => cf x y < 0) (hm : m.Pairwise fun x y => cf x y < 0) (h : ∀ x, x ∈ l ↔ x ∈ m) : l = m :=
  rising_ext (R := fun x y => cf x y < 0) hc.irr hc.trans hl hm h
theorem onceL_congr (hc : GoodCmp cf) {l m : List α} (h : ∀ x, x ∈ l ↔ x ∈ m) : onceL d cf l = onceL d cf m :=
  rising_eq hc (sorted_onceL hc l) (sorted_onceL hc m) fun x => by rw [mem_onceL, mem_onceL, h]
theorem onceL_of (hc : GoodCmp cf) {l : List α} (h : l.Pairwise fun x y => cf x y < 0) : onceL d cf l = l := rising_eq hc (sorted_onceL hc l) h fun x => mem_onceL
theorem onceL_len (l : List α) : (onceL d cf l).length ≤ l.length := by
  have h : ∀ (s : List α) n, (ddN d s n).length ≤ n := fun s n => by
    induction n with
    | zero => exact Nat.le_refl _
    | succ n ih => rw [ddN, List.length_append]; split <;> simp <;> omega
  exact h _ _
end

end Go.Proofs.Ytcfjjckencjjeaa
end

/- Once -/
section
/- Things in order, each once: what the program's once computes. Plain lemmas, no condition. -/
set_option linter.unusedVariables false
set_option linter.unusedSimpArgs false
namespace Go.Proofs.Ytcfjjckencjjeaa
open Go Go.E
set_option maxRecDepth 100000

theorem compactT_g : compactT = gC Tip.zero := rfl
theorem compactA_g : compactA = gC Arc.zero := rfl
theorem onceT_eq {l : List Tip} (h : l.length * 24 ≤ 140737488355328) : onceT l = some (onceL Tip.zero cmpTip l) := by
  rw [onceT, grd_mk h, compactT_g, gC_eq Tip.zero (by rw [sortL_len]; omega), sortL_len]; rfl
theorem onceA_eq {l : List Arc} (h : l.length * 72 ≤ 140737488355328) : onceA l = some (onceL Arc.zero cmpArc l) := by
  rw [onceA, grd_mk h, compactA_g, gC_eq Arc.zero (by rw [sortL_len]; omega), sortL_len]; rfl
end Go.Proofs.Ytcfjjckencjjeaa
end

/- FstP -/
section
/- What the program says of a transducer. Plain lemmas, no condition. -/
set_option linter.unusedVariables false
set_option linter.unusedSimpArgs false
namespace Go.Proofs.Ytcfjjckencjjeaa
open Go Go.E
set_option maxRecDepth 100000

/-! ### Right, or not -/
def tipB (n : Int) (p : Tip) : Bool := decide (0 ≤ p.state) && decide (p.state < n) && decide ((p.out.length : Int) ≤ 1024)
def tipsB (l : List Tip) (n : Int) : Bool := decide ((l.length : Int) ≤ 1024) && l.all (tipB n)
def arcB (n : Int) (a : Arc) : Bool := decide (0 ≤ a.frm) && decide (a.frm < n) && decide (0 ≤ a.to) && decide (a.to < n) && decide (a.set ≠ BSet.zero) && decide ((a.out.length : Int) ≤ 1024)
def fstB (t : Fst) : Bool := decide (0 ≤ t.states) && decide (t.states ≤ 1024) && decide ((t.arcs.length : Int) ≤ 16384) && tipsB t.starts t.states && tipsB t.ends t.states && t.arcs.all (arcB t.states)
theorem fst_state_eq (s n : Int) : fst_state s n = some (decide (0 ≤ s) && decide (s < n)) := by
  unfold fst_state
  by_cases h : 0 ≤ s <;> simp [h]
theorem rightTips_eq (l : List Tip) (n : Int) : fst_rightTips l n = some (tipsB l n) := by
  unfold fst_rightTips tipsB
  by_cases h : (l.length : Int) ≤ 1024
  · rw [decide_eq_false (by omega), iteO_false, iter_all (y := true) (no := false) l Tip.zero (tipB n)]
    · rw [decide_eq_true h, Bool.true_and]; cases l.all (tipB n) <;> rfl
    · intro k hk hp
      simp only [tipB, Bool.and_eq_true, decide_eq_true_eq] at hp
      simp only [fst_rightTips_b1, lt_dec hk, iteO_true, fst_state_eq, bnd, Option.bind_some, hp.1.1, hp.1.2, decide_true, Bool.and_self, Bool.not_true, iteO_false, decide_eq_false (show ¬ (1024 : Int) < ((nth l k Tip.zero).out.length : Int) by omega)]; rfl
    · intro k hk hp
      simp only [fst_rightTips_b1, lt_dec hk, iteO_true, fst_state_eq, bnd, Option.bind_some]
      by_cases hc : (decide (0 ≤ (nth l k Tip.zero).state) && decide ((nth l k Tip.zero).state < n)) = true
      · rw [hc]
        simp only [tipB, hc, Bool.true_and, decide_eq_false_iff_not] at hp
        simp only [Bool.not_true, iteO_false, decide_eq_true (show (1024 : Int) < ((nth l k Tip.zero).out.length : Int) by omega), iteO_true]; rfl
      · simp only [Bool.not_eq_true] at hc
        rw [hc]; rfl
    · simp only [fst_rightTips_b1, Int.lt_irrefl, decide_false, iteO_false]; rfl
  · rw [decide_eq_true (by omega), iteO_true]; simp [h]
theorem fst_Check_eq (t : Fst) : fst_Check t = some (errB (fstB t)) := by
  unfold fst_Check
  by_cases h1 : t.states < 0
  · rw [decide_eq_true h1, iteO_true]; simp [fstB, errB, show ¬ 0 ≤ t.states by omega]
  rw [decide_eq_false h1, iteO_false]
  by_cases h2 : 1024 < t.states
  · rw [decide_eq_true h2, iteO_true]; simp [fstB, errB, show ¬ t.states ≤ 1024 by omega]
  rw [decide_eq_false h2, iteO_false]
  by_cases h3 : (16384 : Int) < (t.arcs.length : Int)
  · rw [decide_eq_true h3, iteO_true]; simp only [fstB, decide_eq_false (show ¬ (t.arcs.length : Int) ≤ 16384 by omega), Bool.and_false, Bool.false_and]; rfl
  rw [decide_eq_false h3, iteO_false, rightTips_eq, bnd, Option.bind_some]
  have e0 : fstB t = (tipsB t.starts t.states && tipsB t.ends t.states && t.arcs.all (arcB t.states)) := by
    simp only [fstB, decide_eq_true (show 0 ≤ t.states by omega), decide_eq_true (show t.states ≤ 1024 by omega), decide_eq_true (show (t.arcs.length : Int) ≤ 16384 by omega), Bool.true_and]
  rw [e0]
  cases h4 : tipsB t.starts t.states
  · rfl
  simp only [Bool.not_true, iteO_false, rightTips_eq, bnd, Option.bind_some]
  cases h5 : tipsB t.ends t.states
  · rfl
  simp only [Bool.not_true, iteO_false, Bool.and_self, Bool.true_and]
  rw [iter_all (y := 0) (no := 1) t.arcs Arc.zero (arcB t.states)]
  · rfl
  · intro k hk hp
    simp only [arcB, Bool.and_eq_true, decide_eq_true_eq] at hp
    obtain ⟨⟨⟨⟨⟨p1, p2⟩, p3⟩, p4⟩, p5⟩, p6⟩ := hp
    simp only [fst_Check_b1, lt_dec hk, iteO_true, fst_state_eq, bnd, Option.bind_some, p1, p2, p3, p4, p5, decide_true, decide_false, Bool.and_self, Bool.not_true, iteO_false, decide_eq_false (show ¬ (1024 : Int) < ((nth t.arcs k Arc.zero).out.length : Int) by omega)]; rfl
  · intro k hk hp
    simp only [fst_Check_b1, lt_dec hk, iteO_true, fst_state_eq, bnd, Option.bind_some]
    cases hc : (decide (0 ≤ (nth t.arcs k Arc.zero).frm) && decide ((nth t.arcs k Arc.zero).frm < t.states))
    · rfl
    cases hd : (decide (0 ≤ (nth t.arcs k Arc.zero).to) && decide ((nth t.arcs k Arc.zero).to < t.states))
    · rfl
    simp only [Bool.not_true, iteO_false]
    by_cases he : (nth t.arcs k Arc.zero).set = BSet.zero
    · rw [decide_eq_true he]; rfl
    rw [decide_eq_false he, iteO_false]
    have hd' : (decide (0 ≤ (nth t.arcs k Arc.zero).frm) && decide ((nth t.arcs k Arc.zero).frm < t.states) && decide (0 ≤ (nth t.arcs k Arc.zero).to) && decide ((nth t.arcs k Arc.zero).to < t.states)) = true := by rw [Bool.and_assoc, hc, hd]; rfl
    simp only [arcB, hd', Bool.true_and, ne_eq, he, not_false_eq_true, decide_true, decide_eq_false_iff_not] at hp
    rw [decide_eq_true (by omega)]; rfl
  · simp only [fst_Check_b1, Int.lt_irrefl, decide_false, iteO_false]; rfl

theorem errB_ne {b : Bool} : decide (errB b ≠ 0) = !b := by cases b <;> rfl
end Go.Proofs.Ytcfjjckencjjeaa
end

/- FstQ -/
section
/- What the program's Outs gives. Plain lemmas, no condition. -/
set_option linter.unusedVariables false
set_option linter.unusedSimpArgs false
namespace Go.Proofs.Ytcfjjckencjjeaa
open Go Go.E
set_option maxRecDepth 100000

theorem tipB_ok {n : Int} {p : Tip} (h : tipB n p = true) : (0 ≤ p.state ∧ p.state < n) ∧ p.out.length ≤ 1024 := by
  simp only [tipB, Bool.and_eq_true, decide_eq_true_eq] at h; exact ⟨h.1, by omega⟩
theorem tipsB_ok {n : Int} {l : List Tip} (h : tipsB l n = true) : l.length ≤ 1024 ∧ ∀ p ∈ l, (0 ≤ p.state ∧ p.state < n) ∧ p.out.length ≤ 1024 := by
  simp only [tipsB, Bool.and_eq_true, decide_eq_true_eq, List.all_eq_true] at h
  exact ⟨by omega, fun p hp => tipB_ok (h.2 p hp)⟩
theorem arcB_ok {n : Int} {a : Arc} (h : arcB n a = true) : (0 ≤ a.frm ∧ a.frm < n) ∧ (0 ≤ a.to ∧ a.to < n) ∧ a.set ≠ BSet.zero ∧ a.out.length ≤ 1024 := by
  simp only [arcB, Bool.and_eq_true, decide_eq_true_eq] at h
  obtain ⟨⟨⟨⟨⟨p1, p2⟩, p3⟩, p4⟩, p5⟩, p6⟩ := h
  exact ⟨⟨p1, p2⟩, ⟨p3, p4⟩, p5, by omega⟩
structure FstOk (t : Fst) : Prop where
  st0 : 0 ≤ t.states
  st1 : t.states ≤ 1024
  arcsN : t.arcs.length ≤ 16384
  startsN : t.starts.length ≤ 1024
  endsN : t.ends.length ≤ 1024
  starts : ∀ p ∈ t.starts, (0 ≤ p.state ∧ p.state < t.states) ∧ p.out.length ≤ 1024
  ends : ∀ p ∈ t.ends, (0 ≤ p.state ∧ p.state < t.states) ∧ p.out.length ≤ 1024
  arcs : ∀ a ∈ t.arcs, (0 ≤ a.frm ∧ a.frm < t.states) ∧ (0 ≤ a.to ∧ a.to < t.states) ∧ a.set ≠ BSet.zero ∧ a.out.length ≤ 1024
theorem fstB_iff (t : Fst) : fstB t = true ↔ FstOk t := by
  constructor
  · intro h
    simp only [fstB, Bool.and_eq_true, decide_eq_true_eq, List.all_eq_true] at h
    obtain ⟨⟨⟨⟨⟨h1, h2⟩, h3⟩, h4⟩, h5⟩, h6⟩ := h
    exact ⟨h1, h2, by omega, (tipsB_ok h4).1, (tipsB_ok h5).1, (tipsB_ok h4).2, (tipsB_ok h5).2, fun a ha => arcB_ok (h6 a ha)⟩
  · rintro ⟨h1, h2, h3, h4, h5, h6, h7, h8⟩
    have hT : ∀ l : List Tip, l.length ≤ 1024 → (∀ p ∈ l, (0 ≤ p.state ∧ p.state < t.states) ∧ p.out.length ≤ 1024) → tipsB l t.states = true := fun l hl hp => by
      simp only [tipsB, Bool.and_eq_true, decide_eq_true_eq, List.all_eq_true]
      refine ⟨by omega, fun p hq => ?_⟩
      have := hp p hq
      simp only [tipB, Bool.and_eq_true, decide_eq_true_eq]; omega
    simp only [fstB, Bool.and_eq_true, decide_eq_true_eq, List.all_eq_true]
    refine ⟨⟨⟨⟨⟨h1, h2⟩, by omega⟩, hT _ h4 h6⟩, hT _ h5 h7⟩, fun a ha => ?_⟩
    obtain ⟨p1, p2, p3, p4⟩ := h8 a ha
    simp only [arcB, Bool.and_eq_true, decide_eq_true_eq]
    exact ⟨⟨⟨⟨p1, p2.1⟩, p2.2⟩, p3⟩, by omega⟩
end Go.Proofs.Ytcfjjckencjjeaa
end

/- FstR -/
section
/- In, and Sort, of a transducer; what the laws look at. Plain lemmas, no condition. -/
set_option linter.unusedVariables false
set_option linter.unusedSimpArgs false
namespace Go.Proofs.Ytcfjjckencjjeaa
open Go Go.E
set_option maxRecDepth 100000

/-! ### In order -/
def srt (t : Fst) : Fst := ⟨t.states, onceL Tip.zero cmpTip t.starts, onceL Tip.zero cmpTip t.ends, onceL Arc.zero cmpArc t.arcs⟩
theorem sort_eq (t : Fst) : fst_Sort t = some (if fstB t = true then (srt t, 0) else (⟨0, [], [], []⟩, 1)) := by
  unfold fst_Sort
  rw [fst_Check_eq, bnd, Option.bind_some, errB_ne]
  by_cases h : fstB t = true
  · have ht := (fstB_iff t).1 h
    have h1 := ht.startsN
    have h2 := ht.endsN
    have h3 := ht.arcsN
    rw [h, if_pos rfl, Bool.not_true, iteO_false]
    simp only [onceT_eq (l := t.starts) (by omega), onceT_eq (l := t.ends) (by omega), onceA_eq (l := t.arcs) (by omega), bnd, Option.bind_some]
    rfl
  · simp only [Bool.not_eq_true] at h
    rw [h]; rfl
/-- The same things, be it in another order and more often. -/
structure Alike (s t : Fst) : Prop where
  states : s.states = t.states
  starts : ∀ x, x ∈ s.starts ↔ x ∈ t.starts
  ends : ∀ x, x ∈ s.ends ↔ x ∈ t.ends
  arcs : ∀ x, x ∈ s.arcs ↔ x ∈ t.arcs
theorem srt_ok {t : Fst} (ht : FstOk t) : FstOk (srt t) where
  st0 := ht.st0
  st1 := ht.st1
  arcsN := Nat.le_trans (onceL_len _) ht.arcsN
  startsN := Nat.le_trans (onceL_len _) ht.startsN
  endsN := Nat.le_trans (onceL_len _) ht.endsN
  starts p hp := ht.starts p (mem_onceL.1 hp)
  ends p hp := ht.ends p (mem_onceL.1 hp)
  arcs a ha := ht.arcs a (mem_onceL.1 ha)end Go.Proofs.Ytcfjjckencjjeaa
end

/- PrW -/
section
/- The program's Trim, in plain words. Plain lemmas, no condition. -/
set_option linter.unusedVariables false
set_option linter.unusedSimpArgs false
namespace Go.Proofs.Ytcfjjckencjjeaa
open Go Go.E
set_option maxRecDepth 100000

theorem grp_len {β γ : Type} {key : β → Int} {val : β → γ} {n : Nat} {l : List (List γ)} {xs : List β} (h : Grp key val n l xs) {i : Nat} (hi : i < n) : (nth l i []).length ≤ xs.length := by
  rw [h.row i hi, List.length_map]; exact List.length_filter_le ..
theorem take_len_le {α : Type} (l : List α) (k : Nat) : (l.take k).length ≤ l.length := by rw [List.length_take]; omega
theorem useful_eq {t : Fst} (ht : FstOk t) : ∃ on bk, prune_useful t = some (t, on, bk) ∧ Grp Arc.frm Arc.to t.states.toNat on t.arcs ∧ Grp Arc.to Arc.frm t.states.toNat bk t.arcs := by
  have h0 := ht.st0
  have h1 := ht.st1
  have hN := ht.arcsN
  unfold prune_useful prune_useful_j1
  rw [grd_mk ⟨h0, by omega⟩, grd_mk ⟨h0, by omega⟩]
  obtain ⟨r, h2, on, bk, rfl, h3, h4⟩ := iter_for (step := fun q : List (List Int) × List (List Int) × Nat => prune_useful_b1 t q.1 q.2.1 q.2.2) (fun (s : List (List Int) × List (List Int)) k => (s.1, s.2, k)) t.arcs Arc.zero
    (fun pre s => Grp Arc.frm Arc.to t.states.toNat s.1 pre ∧ Grp Arc.to Arc.frm t.states.toNat s.2 pre)
    (fun r => ∃ on bk, r = (t, on, bk) ∧ Grp Arc.frm Arc.to t.states.toNat on t.arcs ∧ Grp Arc.to Arc.frm t.states.toNat bk t.arcs)
    (fun k s hk ⟨a1, a2⟩ => by
      obtain ⟨b1, b2, b3, b4⟩ := ht.arcs _ (mem_at Arc.zero hk)
      have l1 := a1.len
      have l2 := a2.len
      have r1 := grp_len a1 (i := (nth t.arcs k Arc.zero).frm.toNat) (by omega)
      have r2 := grp_len a2 (i := (nth t.arcs k Arc.zero).to.toNat) (by omega)
      have r3 := take_len_le t.arcs k
      refine .inl ⟨(s.1.set (nth t.arcs k Arc.zero).frm.toNat (nth s.1 (nth t.arcs k Arc.zero).frm.toNat [] ++ [(nth t.arcs k Arc.zero).to]), s.2.set (nth t.arcs k Arc.zero).to.toNat (nth s.2 (nth t.arcs k Arc.zero).to.toNat [] ++ [(nth t.arcs k Arc.zero).frm])), ?_, a1.snoc b1.1 (by omega), a2.snoc b2.1 (by omega)⟩
      show prune_useful_b1 t s.1 s.2 k = _
      unfold prune_useful_b1 prune_useful_j3 prune_useful_j2
      rw [iteO_dt (by omega), grd_mk ⟨b1.1, by omega⟩, grd_mk (by simp only [List.length_singleton]; omega), grd_mk ⟨b1.1, by omega⟩, grd_mk ⟨b2.1, by omega⟩, grd_mk (by simp only [List.length_singleton]; omega), grd_mk ⟨b2.1, by omega⟩]
      rfl)
    (fun s hI => ⟨(t, s.1, s.2), by
      show prune_useful_b1 t s.1 s.2 t.arcs.length = _
      unfold prune_useful_b1
      rw [iteO_df (by omega)]; rfl, s.1, s.2, rfl, hI.1, hI.2⟩)
    (s0 := (List.replicate t.states.toNat [], List.replicate t.states.toNat [])) ⟨Grp.nil .., Grp.nil ..⟩
  exact ⟨on, bk, h2, h3, h4⟩
theorem stE_on {t : Fst} (ht : FstOk t) {key val : Arc → Int} {l : List (List Int)} (h : Grp key val t.states.toNat l t.arcs) (hk : ∀ a ∈ t.arcs, 0 ≤ key a ∧ key a < t.states) : stE l = fun a b => ∃ x ∈ t.arcs, key x = a ∧ val x = b := by
  funext a b
  refine propext ⟨fun ⟨h0, hb⟩ => ?_, fun ⟨x, hx, h1, h2⟩ => ?_⟩
  · have hlt : a.toNat < t.states.toNat := by
      have := h.len
      by_cases hl : a.toNat < l.length
      · omega
      · unfold nth at hb
        rw [List.getD_eq_getElem?_getD, List.getElem?_eq_none (by omega)] at hb
        simp at hb
    rw [h.row _ hlt, List.mem_map] at hb
    obtain ⟨x, hx, e⟩ := hb
    have := List.mem_filter.1 hx
    exact ⟨x, this.1, by have := of_decide_eq_true this.2; omega, e⟩
  · have := hk x hx
    refine ⟨by omega, ?_⟩
    rw [h.row _ (by omega), List.mem_map]
    exact ⟨x, List.mem_filter.2 ⟨hx, decide_eq_true (by omega)⟩, h2⟩
theorem grp_rng {t : Fst} {key val : Arc → Int} {l : List (List Int)} (h : Grp key val t.states.toNat l t.arcs) (hk : ∀ a ∈ t.arcs, 0 ≤ val a ∧ val a < t.states) : ∀ a, ∀ z ∈ nth l a [], 0 ≤ z ∧ z < t.states.toNat := fun a z hz => by
  have hl := h.len
  by_cases ha : a < t.states.toNat
  · rw [h.row _ ha, List.mem_map] at hz
    obtain ⟨x, hx, rfl⟩ := hz
    have := hk x (List.mem_filter.1 hx).1
    omega
  · unfold nth at hz
    rw [List.getD_eq_getElem?_getD, List.getElem?_eq_none (by omega)] at hz
    simp at hz
/-- The numbers stand. -/
def NumOk (p : Nat → Bool) (n : Nat) (num : List Int) : Prop := num.length = n ∧ ∀ s : Int, 0 ≤ s → s < n → nth num s.toNat 0 = numB p s
theorem keepT_snoc (p : Nat → Bool) (l : List Tip) (k : Nat) (h : k < l.length) : keepT p (l.take (k + 1)) = keepT p (l.take k) ++ (if 0 ≤ numB p (nth l k Tip.zero).state then [⟨numB p (nth l k Tip.zero).state, (nth l k Tip.zero).out⟩] else []) := by
  rw [take_snoc l h Tip.zero]
  unfold keepT
  rw [List.filterMap_append]
  congr 1
  by_cases hc : 0 ≤ numB p (nth l k Tip.zero).state
  · rw [List.filterMap_cons, if_pos hc, if_pos hc]; rfl
  · rw [List.filterMap_cons, if_neg hc, if_neg hc]; rfl
theorem keepA_snoc (p : Nat → Bool) (l : List Arc) (k : Nat) (h : k < l.length) : keepA p (l.take (k + 1)) = keepA p (l.take k) ++ (if 0 ≤ numB p (nth l k Arc.zero).frm ∧ 0 ≤ numB p (nth l k Arc.zero).to then [⟨numB p (nth l k Arc.zero).frm, numB p (nth l k Arc.zero).to, (nth l k Arc.zero).set, (nth l k Arc.zero).out, (nth l k Arc.zero).copy⟩] else []) := by
  rw [take_snoc l h Arc.zero]
  unfold keepA
  rw [List.filterMap_append]
  congr 1
  by_cases hc : 0 ≤ numB p (nth l k Arc.zero).frm ∧ 0 ≤ numB p (nth l k Arc.zero).to
  · rw [List.filterMap_cons, if_pos hc, if_pos hc]; rfl
  · rw [List.filterMap_cons, if_neg hc, if_neg hc]; rfl
theorem trim_arcs {t : Fst} (ht : FstOk t) {p : Nat → Bool} {num : List Int} (hn : NumOk p t.states.toNat num) (c : Nat) (S E : List Tip) :
    iter (fun q : List Arc × Nat => prune_Trim_b4 t num c S E q.1 q.2) (([] : List Arc), 0) = bnd (fst_Sort ⟨(c : Int), S, E, keepA p t.arcs⟩) (fun v => some (v.1, v.2)) := by
  have hN := ht.arcsN
  obtain ⟨r, hr⟩ : ∃ r, bnd (fst_Sort ⟨(c : Int), S, E, keepA p t.arcs⟩) (fun v => some (v.1, v.2)) = some r := by rw [sort_eq]; exact ⟨_, rfl⟩
  rw [hr]
  refine iter_fold t.arcs Arc.zero (fun k => keepA p (t.arcs.take k)) (fun k hk => ?_) ?_
  · obtain ⟨b1, b2, b3, b4⟩ := ht.arcs _ (mem_at Arc.zero hk)
    have hl := keepA_len p (t.arcs.take k)
    have r3 := take_len_le t.arcs k
    have e1 := hn.2 _ b1.1 (by omega)
    have e2 := hn.2 _ b2.1 (by omega)
    have l1 := hn.1
    show prune_Trim_b4 t num c S E _ k = _
    unfold prune_Trim_b4 prune_Trim_j3
    rw [iteO_dt (by omega), grd_mk ⟨b1.1, by omega⟩, grd_mk ⟨b2.1, by omega⟩, e1, e2, keepA_snoc p _ k hk]
    by_cases c1 : 0 ≤ numB p (nth t.arcs k Arc.zero).frm
    · rw [iteO_dt c1]
      by_cases c2 : 0 ≤ numB p (nth t.arcs k Arc.zero).to
      · rw [iteO_dt c2, if_pos ⟨c1, c2⟩, grd_mk (by simp only [List.length_singleton]; omega)]; rfl
      · rw [iteO_df c2, if_neg (fun h => c2 h.2), List.append_nil]; rfl
    · rw [iteO_df c1, if_neg (fun h => c1 h.1), List.append_nil]; rfl
  · show prune_Trim_b4 t num c S E _ _ = _
    unfold prune_Trim_b4
    rw [iteO_df (by omega), List.take_length, hr]; rfl
theorem trim_ends {t : Fst} (ht : FstOk t) {p : Nat → Bool} {num : List Int} (hn : NumOk p t.states.toNat num) (c : Nat) (S : List Tip) :
    iter (fun q : List Tip × Nat => prune_Trim_b3 t num c S q.1 q.2) (([] : List Tip), 0) = bnd (fst_Sort ⟨(c : Int), S, keepT p t.ends, keepA p t.arcs⟩) (fun v => some (v.1, v.2)) := by
  have hN := ht.endsN
  obtain ⟨r, hr⟩ : ∃ r, bnd (fst_Sort ⟨(c : Int), S, keepT p t.ends, keepA p t.arcs⟩) (fun v => some (v.1, v.2)) = some r := by rw [sort_eq]; exact ⟨_, rfl⟩
  rw [hr]
  refine iter_fold t.ends Tip.zero (fun k => keepT p (t.ends.take k)) (fun k hk => ?_) ?_
  · obtain ⟨b1, b2⟩ := ht.ends _ (mem_at Tip.zero hk)
    have hl := keepT_len p (t.ends.take k)
    have r3 := take_len_le t.ends k
    have e1 := hn.2 _ b1.1 (by omega)
    have l1 := hn.1
    show prune_Trim_b3 t num c S _ k = _
    unfold prune_Trim_b3 prune_Trim_j2
    rw [iteO_dt (by omega), grd_mk ⟨b1.1, by omega⟩, e1, keepT_snoc p _ k hk]
    by_cases c1 : 0 ≤ numB p (nth t.ends k Tip.zero).state
    · rw [iteO_dt c1, if_pos c1, grd_mk (by simp only [List.length_singleton]; omega)]; rfl
    · rw [iteO_df c1, if_neg c1, List.append_nil]; rfl
  · show prune_Trim_b3 t num c S _ _ = _
    unfold prune_Trim_b3
    rw [iteO_df (by omega), List.take_length, trim_arcs ht hn, hr]; rfl
theorem trim_starts {t : Fst} (ht : FstOk t) {p : Nat → Bool} {num : List Int} (hn : NumOk p t.states.toNat num) (c : Nat) :
    iter (fun q : List Tip × Nat => prune_Trim_b2 t num c q.1 q.2) (([] : List Tip), 0) = bnd (fst_Sort ⟨(c : Int), keepT p t.starts, keepT p t.ends, keepA p t.arcs⟩) (fun v => some (v.1, v.2)) := by
  have hN := ht.startsN
  obtain ⟨r, hr⟩ : ∃ r, bnd (fst_Sort ⟨(c : Int), keepT p t.starts, keepT p t.ends, keepA p t.arcs⟩) (fun v => some (v.1, v.2)) = some r := by rw [sort_eq]; exact ⟨_, rfl⟩
  rw [hr]
  refine iter_fold t.starts Tip.zero (fun k => keepT p (t.starts.take k)) (fun k hk => ?_) ?_
  · obtain ⟨b1, b2⟩ := ht.starts _ (mem_at Tip.zero hk)
    have hl := keepT_len p (t.starts.take k)
    have r3 := take_len_le t.starts k
    have e1 := hn.2 _ b1.1 (by omega)
    have l1 := hn.1
    show prune_Trim_b2 t num c _ k = _
    unfold prune_Trim_b2 prune_Trim_j1
    rw [iteO_dt (by omega), grd_mk ⟨b1.1, by omega⟩, e1, keepT_snoc p _ k hk]
    by_cases c1 : 0 ≤ numB p (nth t.starts k Tip.zero).state
    · rw [iteO_dt c1, if_pos c1, grd_mk (by simp only [List.length_singleton]; omega)]; rfl
    · rw [iteO_df c1, if_neg c1, List.append_nil]; rfl
  · show prune_Trim_b2 t num c _ _ = _
    unfold prune_Trim_b2
    rw [iteO_df (by omega), List.take_length, trim_ends ht hn, hr]; rfl
/-- The rounds that number what is of use. -/
theorem number_eq {t : Fst} (ht : FstOk t) {on bk : List (List Int)} (h1 : Grp Arc.frm Arc.to t.states.toNat on t.arcs) (h2 : Grp Arc.to Arc.frm t.states.toNat bk t.arcs) {l0 : List Int} (hl0 : l0.length = t.states.toNat) (hm : ∀ i, i < t.states.toNat → nth l0 i 0 = -1) :
    ∃ num, prune_useful_1 (stepY (fun (q : List Int × Nat) (x : Int) => prune_Trim_r4 q.1 q.2 x)) (0, (l0, 0)) (⟨t.states, t.starts, t.ends, t.arcs⟩ : Fst) on bk = some (0, (num, cntB (useB t) t.states.toNat)) ∧ NumOk (useB t) t.states.toNat num := by
  have h0 := ht.st0
  have hs1 := ht.st1
  obtain ⟨ah, a1, a2, a3⟩ := reach_ok (tips := t.starts) (by omega) h1.len (grp_rng h1 fun a ha => (ht.arcs a ha).2.1) (fun x hx => by have := (ht.starts x hx).1; omega)
  obtain ⟨be, b1, b2, b3⟩ := reach_ok (tips := t.ends) (by omega) h2.len (grp_rng h2 fun a ha => (ht.arcs a ha).1) (fun x hx => by have := (ht.ends x hx).1; omega)
  rw [stE_on ht h1 fun a ha => (ht.arcs a ha).1] at a3
  rw [stE_on ht h2 fun a ha => (ht.arcs a ha).2.1] at b3
  have hp : ∀ v, useB t v = (nth ah v false && nth be v false) := fun v => by
    rw [Bool.eq_iff_iff, Bool.and_eq_true, a3 v, b3 v]; exact useB_iff
  unfold prune_useful_1
  rw [bnd_some a1, bnd_some b1]
  obtain ⟨r, e, f⟩ := iter_up (step := fun q : Nat × (Nat × List Int × Nat) => prune_useful_1_b1 ah be (stepY (fun (q : List Int × Nat) (x : Int) => prune_Trim_r4 q.1 q.2 x)) q.1 q.2) (fun (s : Nat × List Int × Nat) k => (k, s)) t.states.toNat
    (fun k s => s.1 = 0 ∧ s.2.2 = cntB (useB t) k ∧ s.2.1.length = t.states.toNat ∧ ∀ i, i < t.states.toNat → nth s.2.1 i 0 = if i < k then numB (useB t) i else -1)
    (fun r => r.1 = 0 ∧ r.2.2 = cntB (useB t) t.states.toNat ∧ NumOk (useB t) t.states.toNat r.2.1)
    (fun k s hk ⟨c1, c2, c3, c4⟩ => by
      obtain ⟨j, l, c⟩ := s
      obtain rfl : j = 0 := c1
      obtain rfl : c = cntB (useB t) k := c2
      dsimp only at c3 c4
      refine .inl ?_
      show ∃ s' : Nat × List Int × Nat, prune_useful_1_b1 ah be _ k (0, l, cntB (useB t) k) = _ ∧ _
      unfold prune_useful_1_b1 prune_useful_1_j1
      rw [iteO_dt (by omega)]
      have hk' := hp k
      cases ha : nth ah k false with
      | false =>
        rw [ha, Bool.false_and] at hk'
        refine ⟨(0, l, cntB (useB t) k), rfl, rfl, by simp only [cntB, hk']; rfl, c3, fun i hi => ?_⟩
        dsimp only
        rw [c4 i hi]
        by_cases e1 : i < k
        · rw [if_pos e1, if_pos (by omega)]
        · rw [if_neg e1]
          by_cases e2 : i < k + 1
          · obtain rfl : i = k := by omega
            rw [if_pos e2]; unfold numB; simp [hk']
          · rw [if_neg e2]
      | true =>
        rw [iteO_true, grd_mk (by omega)]
        cases hb : nth be k false with
        | false =>
          rw [ha, hb, Bool.true_and] at hk'
          refine ⟨(0, l, cntB (useB t) k), rfl, rfl, by simp only [cntB, hk']; rfl, c3, fun i hi => ?_⟩
          dsimp only
          rw [c4 i hi]
          by_cases e1 : i < k
          · rw [if_pos e1, if_pos (by omega)]
          · rw [if_neg e1]
            by_cases e2 : i < k + 1
            · obtain rfl : i = k := by omega
              rw [if_pos e2]; unfold numB; simp [hk']
            · rw [if_neg e2]
        | true =>
          rw [ha, hb, Bool.true_and] at hk'
          have hy : stepY (fun (q : List Int × Nat) (x : Int) => prune_Trim_r4 q.1 q.2 x) (0, l, cntB (useB t) k) ((k : Nat) : Int) = some ((0, l.set k ((cntB (useB t) k : Nat) : Int), cntB (useB t) k + 1), true) := by
            unfold stepY
            rw [if_pos rfl]
            show (prune_Trim_r4 l (cntB (useB t) k) ((k : Nat) : Int)).bind _ = _
            unfold prune_Trim_r4
            have hself := cntB_self (useB t) k
            rw [grd_mk ⟨by omega, by omega⟩, grd_mk (by omega)]; rfl
          rw [iteO_true, bnd_some hy]
          refine ⟨(0, l.set k ((cntB (useB t) k : Nat) : Int), cntB (useB t) k + 1), rfl, rfl, by simp only [cntB, hk', if_true], by rw [List.length_set]; exact c3, fun i hi => ?_⟩
          dsimp only
          rw [nth_set]
          by_cases e1 : k = i
          · subst e1
            rw [if_pos ⟨rfl, by omega⟩, if_pos (by omega), numB_pos (by simpa using hk')]; simp
          · rw [if_neg (fun h => e1 h.1), c4 i hi]
            by_cases e2 : i < k
            · rw [if_pos e2, if_pos (by omega)]
            · rw [if_neg e2, if_neg (by omega)])
    (fun s ⟨c1, c2, c3, c4⟩ => ⟨s, by
      show prune_useful_1_b1 ah be _ _ s = _
      unfold prune_useful_1_b1
      rw [iteO_df (by omega)]; rfl, c1, c2, c3, fun v h1 h2 => by
        rw [c4 _ (by omega), if_pos (by omega), show ((v.toNat : Nat) : Int) = v by omega]⟩)
    (s0 := (0, l0, 0)) ⟨rfl, rfl, hl0, fun i hi => by rw [if_neg (by omega)]; exact hm i hi⟩
  obtain ⟨j, num, c⟩ := r
  obtain ⟨f1, f2, f3⟩ := f
  dsimp only at f1 f2 f3
  subst f1 f2
  exact ⟨num, e, f3⟩
/-- Trim, in plain words. -/
noncomputable def trimD (t : Fst) : Fst := srt (keepF (useB t) t)
theorem ok_rng {t : Fst} (ht : FstOk t) : Rng t := ⟨fun x hx => (ht.starts x hx).1, fun x hx => (ht.ends x hx).1, fun x hx => ⟨(ht.arcs x hx).1, (ht.arcs x hx).2.1⟩⟩
theorem keep_ok {t : Fst} (ht : FstOk t) : FstOk (keepF (useB t) t) := by
  have hr := keep_rng (t := t) (r := keepF (useB t) t) (fun _ => Iff.rfl) (fun _ => Iff.rfl) (fun _ => Iff.rfl) rfl (ok_rng ht)
  have h1 := ht.st1
  have hc := cntB_self (useB t) t.states.toNat
  have l1 := keepT_len (useB t) t.starts
  have l2 := keepT_len (useB t) t.ends
  have l3 := keepA_len (useB t) t.arcs
  refine ⟨by show (0 : Int) ≤ ((cntB (useB t) t.states.toNat : Nat) : Int); omega, by have := ht.st0; show ((cntB (useB t) t.states.toNat : Nat) : Int) ≤ 1024; omega, Nat.le_trans l3 ht.arcsN, Nat.le_trans l1 ht.startsN, Nat.le_trans l2 ht.endsN, fun y hy => ⟨hr.starts y hy, ?_⟩, fun y hy => ⟨hr.ends y hy, ?_⟩, fun y hy => ⟨(hr.arcs y hy).1, (hr.arcs y hy).2, ?_⟩⟩
  · obtain ⟨x, hx, _, rfl⟩ := mem_keepT.1 hy; exact (ht.starts x hx).2
  · obtain ⟨x, hx, _, rfl⟩ := mem_keepT.1 hy; exact (ht.ends x hx).2
  · obtain ⟨x, hx, _, _, rfl⟩ := mem_keepA.1 hy; exact (ht.arcs x hx).2.2
theorem trim_eq (t : Fst) : prune_Trim t = some (if fstB t = true then (trimD t, 0) else (⟨0, [], [], []⟩, 1)) := by
  unfold prune_Trim
  rw [fst_Check_eq, bnd, Option.bind_some, errB_ne]
  by_cases h : fstB t = true
  · have ht := (fstB_iff t).1 h
    have h0 := ht.st0
    have h1 := ht.st1
    rw [h, Bool.not_true, iteO_false, grd_mk ⟨h0, by omega⟩, if_pos rfl]
    obtain ⟨r, e, rfl⟩ := iter_up (step := fun q : List Int × Nat => prune_Trim_b1 t q.1 q.2) (fun (l : List Int) k => (l, k)) t.states.toNat
      (fun k l => l.length = t.states.toNat ∧ ∀ i, i < k → nth l i 0 = -1) (fun r => r = (trimD t, 0))
      (fun k l hk ⟨c1, c2⟩ => .inl ⟨l.set k (-1), by
        show prune_Trim_b1 t l k = _
        unfold prune_Trim_b1
        rw [List.length_replicate, iteO_dt (by omega), grd_mk (by omega)]; rfl, by rw [List.length_set]; exact c1, fun i hi => by
          rw [nth_set]
          by_cases e1 : k = i
          · rw [if_pos ⟨e1, by omega⟩]
          · rw [if_neg (fun h => e1 h.1)]; exact c2 i (by omega)⟩)
      (fun l ⟨c1, c2⟩ => ⟨(trimD t, 0), by
        obtain ⟨on, bk, u1, u2, u3⟩ := useful_eq ht
        obtain ⟨num, v1, v2⟩ := number_eq ht u2 u3 c1 c2
        show prune_Trim_b1 t l _ = _
        unfold prune_Trim_b1
        rw [List.length_replicate, iteO_df (by omega), bnd_some u1]
        dsimp only
        rw [bnd_some v1]
        unfold prune_Trim_k4
        show fin (iter _ _) = _
        rw [trim_starts ht v2, sort_eq]
        show fin (bnd (some (if fstB (keepF (useB t) t) = true then (srt (keepF (useB t) t), 0) else _)) _) = _
        rw [if_pos ((fstB_iff _).2 (keep_ok ht))]; rfl, rfl⟩)
      (s0 := List.replicate t.states.toNat 0) ⟨List.length_replicate .., fun i hi => by omega⟩
    exact e
  · simp only [Bool.not_eq_true] at h
    rw [h]; rfl
theorem trimD_ok {t : Fst} (ht : FstOk t) : FstOk (trimD t) := srt_ok (keep_ok ht)
end Go.Proofs.Ytcfjjckencjjeaa
end
