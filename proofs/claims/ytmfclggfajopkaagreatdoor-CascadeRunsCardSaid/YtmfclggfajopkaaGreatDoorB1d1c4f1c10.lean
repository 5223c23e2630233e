/- Parts of a proof, one behind the other: what a machine reaches, functions decompiled, plain lemmas. Conditions stand with each lemma. -/
import Derived.Test.YtmfclggfajopkaaGreatDoorB7934b6a072
import Derived.Test.YtmfclggfajopkaaGreatDoorBbf87f2988f
import Derived.Test.YtmfclggfajopkaaGreatDoorB8366a78a2d

/- R6 -/
section
/- Decompiled: a piece that grows; what a rule makes of a factor. -/
set_option linter.unusedVariables false
set_option linter.unusedSimpArgs false
namespace Go.Proofs.YtmfclggfajopkaaGreatDoor
open Go Go.E Go.E.OpVal Go.E.OpOk Go.Proofs.Tryz
set_option maxRecDepth 100000
private theorem ag23 : Go.E.aggOf Tryz.prog 23 = some false := by kernel_rfl
private theorem ag24 : Go.E.aggOf Tryz.prog 24 = some false := by kernel_rfl
private theorem ag27 : Go.E.aggOf Tryz.prog 27 = some false := by kernel_rfl
private theorem ag28 : Go.E.aggOf Tryz.prog 28 = some false := by kernel_rfl
private theorem ag30 : Go.E.aggOf Tryz.prog 30 = some true := by kernel_rfl
private theorem ag34 : Go.E.aggOf Tryz.prog 34 = some false := by kernel_rfl
private theorem ag56 : Go.E.aggOf Tryz.prog 56 = some true := by kernel_rfl
private theorem ag9 : Go.E.aggOf Tryz.prog 9 = some false := by kernel_rfl
private theorem by56 : Go.E.byOf Tryz.prog 56 = some 16 := by kernel_rfl
private theorem fo30_0 : Go.E.foOf Tryz.prog 30 0 = some 0 := by kernel_rfl
private theorem fo30_1 : Go.E.foOf Tryz.prog 30 1 = some 1 := by kernel_rfl
private theorem fo30_2 : Go.E.foOf Tryz.prog 30 2 = some 2 := by kernel_rfl
private theorem fo30_3 : Go.E.foOf Tryz.prog 30 3 = some 3 := by kernel_rfl
private theorem fo30_4 : Go.E.foOf Tryz.prog 30 4 = some 4 := by kernel_rfl
private theorem fo32_3 : Go.E.foOf Tryz.prog 32 3 = some 9 := by kernel_rfl
private theorem fo32_5 : Go.E.foOf Tryz.prog 32 5 = some 11 := by kernel_rfl
private theorem fo56_0 : Go.E.foOf Tryz.prog 56 0 = some 0 := by kernel_rfl
private theorem fo56_1 : Go.E.foOf Tryz.prog 56 1 = some 1 := by kernel_rfl
private theorem fo64_0 : Go.E.foOf Tryz.prog 64 0 = some 0 := by kernel_rfl
private theorem fo70_0 : Go.E.foOf Tryz.prog 70 0 = some 0 := by kernel_rfl
private theorem fo70_1 : Go.E.foOf Tryz.prog 70 1 = some 2 := by kernel_rfl
private theorem pf32 : Go.E.plainF Tryz.prog 32 = true := by kernel_rfl
private theorem pf44 : Go.E.plainF Tryz.prog 44 = true := by kernel_rfl
private theorem pf63 : Go.E.plainF Tryz.prog 63 = true := by kernel_rfl
private theorem pf64 : Go.E.plainF Tryz.prog 64 = true := by kernel_rfl
private theorem pf65 : Go.E.plainF Tryz.prog 65 = true := by kernel_rfl
private theorem pl56 : Go.E.plOf Tryz.prog 56 = some #[(0, 1), (1, 1)] := by kernel_rfl
private theorem sz22 : Go.E.szOf Tryz.prog 22 = some 1 := by kernel_rfl
private theorem sz28 : Go.E.szOf Tryz.prog 28 = some 1 := by kernel_rfl
private theorem sz30 : Go.E.szOf Tryz.prog 30 = some 5 := by kernel_rfl
private theorem sz34 : Go.E.szOf Tryz.prog 34 = some 1 := by kernel_rfl
private theorem sz56 : Go.E.szOf Tryz.prog 56 = some 2 := by kernel_rfl
private theorem sz9 : Go.E.szOf Tryz.prog 9 = some 1 := by kernel_rfl
private theorem ze56 : Go.E.zeroOf Tryz.prog 56 = some (.agg #[.int .i64 0, .int .i64 0]) := by kernel_rfl
private theorem ze68 : Go.E.zeroOf Tryz.prog 68 = some (.agg #[.pointer none, .slice none 0 0]) := by kernel_rfl

noncomputable def rewrite_turned_stay_b1 (x2 : Span) (v11 : Int × Unit × Turned) (l122 : List Span) (i125 : Int) : Option (((List Span) × Int) ⊕ (Turned)) :=
 iteO (decide (i125 < x2.to)) (grd ((l122.length + [(⟨i125, IntKind.i64.wrap (i125 + 1)⟩ : Span)].length) * 16 ≤ 140737488355328) (nxt ((l122 ++ [(⟨i125, IntKind.i64.wrap (i125 + 1)⟩ : Span)]), (IntKind.i64.wrap (i125 + 1))))) (fin (some (⟨(⟨v11.2.2.b.buf⟩ : SB), l122⟩ : Turned)))
noncomputable def rewrite_turned_stay (x0 : Turned) (x1 : List UInt8) (x2 : Span) : Option (Turned) :=
 grd (x1.length ≤ 281474976710656) (grd (0 ≤ x2.frm ∧ 0 ≤ x2.to ∧ x2.frm.toNat ≤ x2.to.toNat ∧ x2.to.toNat ≤ x1.length) (bnd (writeSU (⟨(⟨x0.b.buf⟩ : SB), x0.at'⟩ : Turned) ((x1.take x2.to.toNat).drop x2.frm.toNat)) (fun v11 => iter (fun q : (List Span) × Int => rewrite_turned_stay_b1 x2 v11 q.1 q.2) (v11.2.2.at', x2.frm))))
theorem rewrite_turned_stay_con {σ : Store} {x0 : Turned} {b0_0 : Nat} {u0_1 : Bool} {a0_2 : Option Addr} {c0_3 : Nat} {a0_4 : Option Addr} {c0_5 : Nat} {x1 : List UInt8} {x2 : Span}  {r : Turned} (hh : rewrite_turned_stay x0 x1 x2 = some r) :
  Con Tryz.prog 30 #[loc b0_0 0, .string (bs x1), .agg #[.int .i64 x2.frm, .int .i64 x2.to]] σ [Res.cells b0_0 #[badV u0_1 b0_0, .slice a0_2 x0.b.buf.length c0_3, .slice a0_4 x0.at'.length c0_5] 70, Res.rowS 5 1 encU8 (.slice a0_2 x0.b.buf.length c0_3) x0.b.buf, Res.rowS 56 2 encSpan (.slice a0_4 x0.at'.length c0_5) x0.at'] (fun v σ' H' => ∃ (uo1 : Bool), ∃ (ao2 : Option Addr), ∃ (co3 : Nat), ∃ (ao4 : Option Addr), ∃ (co5 : Nat), v = .tuple #[] ∧ σ = σ' ∧ H' = [Res.cells b0_0 #[badV uo1 b0_0, .slice ao2 r.b.buf.length co3, .slice ao4 r.at'.length co5] 70, Res.rowS 5 1 encU8 (.slice ao2 r.b.buf.length co3) r.b.buf, Res.rowS 56 2 encSpan (.slice ao4 r.at'.length co5) r.at']) := by
 dsimp only [rewrite_turned_stay] at hh
 refine Con.mk (n := 38) Tryz.func30 z z z (fun w0 => ?_)
 refine TC.weakR ?_
 have x1b := grd_c hh
 replace hh := grd_t hh
 refine TC.a (TL.op z (boxA z z z z (fun b106 => ?_)))
 refine TL.en (TC.seq ?_)
 have u10 := grd_c hh
 replace hh := grd_t hh
 obtain ⟨v11, u11, hh⟩ := bnd_e hh
 refine TC.drawR (Hr := [Res.cells b106 #[.int .i64 x2.frm, .int .i64 x2.to] 56]) (fun r hr => mem_pick [0] z hr) [] (by kernel_rfl) (TA.a 0 z (moveLoc (.inl z) z) z (TA.a 1 z (nilCheckLoc z z) z (TA.a 2 z (fieldLoc z fo70_0 z) z (TA.a 3 z (moveStr (.inl z) z) z (TA.a 4 z (fieldLoc z fo56_0 z) z (TA.b 5 z (loadLoc z ag3 z (i := 0) z z) z (TA.a 6 z (fieldLoc z fo56_1 z) z (TA.b 7 z (loadLoc z ag3 z (i := 0) z z) z (TA.b 8 rfl (sliceBs (l := x1) (i := x2.frm.toNat) (j := x2.to.toNat) rfl underlying9 rfl (by show Value.int _ _ = _; rw [Int.toNat_of_nonneg (by omega)]) (by show Value.int _ _ = _; rw [Int.toNat_of_nonneg (by omega)]) (by omega) (by omega)) rfl (TA.front 3 z z (TA.front 3 z z (TA.front 3 z z (TA.ac 9 z (OpOk.call (writeSU_con u11) z z pf64 z z z z ?_))))))))))))))
 rintro _ _ _ hle111 ⟨u111_1, a111_2, c111_3, a111_4, c111_5, rfl, rfl, rfl⟩
 refine k3 (TA.dn (S.n (TC.a (TL.w z (fieldLoc z fo56_0 z) (TL.w z (loadLoc z ag3 z (i := 3) z z) (TL.i z z (TL.en (TC.block (TC.loopG (α := ((List Span) × Int) × ((Option Addr) × Nat)) (rgs [(6, 1), (19, 19)]) (fun g => [(6, .int .i64 g.1.2)]) (fun g => [Res.cells b0_0 #[badV u111_1 b0_0, .slice a111_2 v11.2.2.b.buf.length c111_3, .slice g.2.1 g.1.1.length g.2.2] 70, Res.rowS 5 1 encU8 (.slice a111_2 v11.2.2.b.buf.length c111_3) v11.2.2.b.buf, Res.rowS 56 2 encSpan (.slice g.2.1 g.1.1.length g.2.2) g.1.1, Res.cells b106 #[.int .i64 x2.frm, .int .i64 x2.to] 56]) (fun g => σ) (fun g => iter (fun q : (List Span) × Int => rewrite_turned_stay_b1 x2 v11 q.1 q.2) g.1 = some r) (fun g => rounds (fun q : (List Span) × Int => rewrite_turned_stay_b1 x2 v11 q.1 q.2) g.1) ((v11.2.2.at', x2.frm), (a111_4, c111_5)) (Sub.f [3, 3, 3, 3] 4) z (by repeat (first | exact trivial | refine ⟨z, ?_⟩)) hh (fun g1 j1 hg1 => ?_))))))))))
 obtain ⟨⟨l122, i125⟩, ⟨a123, c124⟩⟩ := g1
 have hh := hg1; clear hg1
 try dsimp only
 obtain ⟨z1, hh, hR1⟩ := iter_e hh
 dsimp only [rewrite_turned_stay_b1] at hh
 refine TC.isSl (i := 1) z (fun _ hb126 _ => ?_)
 refine TC.isSl (i := 2) z (fun _ hb127 _ => ?_)
 refine TC.seq (TC.a (TL.i z z (TL.w z (fieldLoc z fo56_1 z) (TL.w z (loadLoc z ag3 z (i := 3) z z) (TL.w z (OpVal.lss z z z) (TL.en (TC.cD z hh (fun h128 hh => ?_) (fun h128 hh => ?_))))))))
 ·refine TC.skip (S.n (TC.seq (TC.block (TC.region (TL.l z z (TL.l z z (TL.w z (nilCheckLoc z z) (TL.w z (fieldLoc z fo70_1 z) (TL.w z (loadLoc z ag34 z (i := 0) z z) (TL.i z z (TL.i z z (TL.w z (addW z z z) (TL.w z (buildL z pl56 ze56 z) (TL.op z (OpOk.lit (enc := encSpan) [(⟨i125, IntKind.i64.wrap (i125 + 1)⟩ : Span)] z underlying34 sz56 ze56 z z z encSpan_len (by decide) (by decide) Span.zero z (by decide) z (by decide) encSpan_one (fun a129 c130 => ?_))))))))))))))))
  refine TL.front 3 z z ?_
  have u29 := grd_c hh
  replace hh := grd_t hh
  refine TL.op z (appendS z z underlying34 sz56 by56 ze56 z z (by decide) z z z (.inr ⟨_, 0, z⟩) (by simpa using u29) (by decide) (fun a132 c133 => ?_))
  refine TL.w z (nilCheckLoc z z) (TL.w z (fieldLoc z fo70_1 z) (TL.front 2 z z (TL.op z (storeSl z sz34 z z z z z ?_))))
  refine TL.nil (B.n (S.n (TC.region (TL.i z z (TL.w z (addW z z z) (TL.i z z (TL.en ?_)))))))
  obtain ⟨hh, hlt134⟩ := nxt_x hR1 hh
  exact lf (((l122 ++ [(⟨i125, IntKind.i64.wrap (i125 + 1)⟩ : Span)]), (IntKind.i64.wrap (i125 + 1))), (a132, c133)) hlt134 hh (Sub.f [4, 2, 4, 3] 4)
 ·refine TC.exit (S.x (S.x ?_))
  replace hh := fin_x hR1 hh
  refine TC.exitHere ?_
  obtain rfl := so hh
  refine ⟨_, Sub.f [2, 2, 2] 3, ?_⟩
  exact RetOk.mk' (rs := []) [Res.cells b0_0 #[badV u111_1 b0_0, .slice a111_2 v11.2.2.b.buf.length c111_3, .slice a123 l122.length c124] 70, Res.rowS 5 1 encU8 (.slice a111_2 v11.2.2.b.buf.length c111_3) v11.2.2.b.buf, Res.rowS 56 2 encSpan (.slice a123 l122.length c124) l122] z (.inr z) RVs.nil (List.sublist_append_left _ _) ⟨u111_1, a111_2, c111_3, a123, c124, z, z, z⟩

noncomputable def rewrite_turned_put_b1 (x1 : List UInt8) (x2 : Span) (v16 : Int × Unit × Turned) (l121 : List Span) (k124 : Nat) : Option (((List Span) × Nat) ⊕ (Bool × Turned)) :=
 iteO (decide (((k124 : Nat) : Int) < ((x1.length : Nat) : Int))) (grd ((l121.length + [x2].length) * 16 ≤ 140737488355328) (nxt ((l121 ++ [x2]), (k124 + 1)))) (fin (some (true, (⟨(⟨v16.2.2.b.buf⟩ : SB), l121⟩ : Turned))))
noncomputable def rewrite_turned_put (x0 : Turned) (x1 : List UInt8) (x2 : Span) : Option (Bool × Turned) :=
 grd (x1.length ≤ 281474976710656) (bnd (lenU (⟨(⟨x0.b.buf⟩ : SB), x0.at'⟩ : Turned)) (fun v6 => iteO (decide (4096 < (IntKind.i64.wrap (v6 + ((x1.length : Nat) : Int))))) (some (false, (⟨(⟨x0.b.buf⟩ : SB), x0.at'⟩ : Turned))) (bnd (writeSU (⟨(⟨x0.b.buf⟩ : SB), x0.at'⟩ : Turned) x1) (fun v16 => iter (fun q : (List Span) × Nat => rewrite_turned_put_b1 x1 x2 v16 q.1 q.2) (v16.2.2.at', 0)))))
theorem rewrite_turned_put_con {σ : Store} {x0 : Turned} {b0_0 : Nat} {u0_1 : Bool} {a0_2 : Option Addr} {c0_3 : Nat} {a0_4 : Option Addr} {c0_5 : Nat} {x1 : List UInt8} {x2 : Span}  {r : Bool × Turned} (hh : rewrite_turned_put x0 x1 x2 = some r) :
  Con Tryz.prog 31 #[loc b0_0 0, .string (bs x1), .agg #[.int .i64 x2.frm, .int .i64 x2.to]] σ [Res.cells b0_0 #[badV u0_1 b0_0, .slice a0_2 x0.b.buf.length c0_3, .slice a0_4 x0.at'.length c0_5] 70, Res.rowS 5 1 encU8 (.slice a0_2 x0.b.buf.length c0_3) x0.b.buf, Res.rowS 56 2 encSpan (.slice a0_4 x0.at'.length c0_5) x0.at'] (fun v σ' H' => ∃ (uo1 : Bool), ∃ (ao2 : Option Addr), ∃ (co3 : Nat), ∃ (ao4 : Option Addr), ∃ (co5 : Nat), v = .bool r.1 ∧ σ = σ' ∧ H' = [Res.cells b0_0 #[badV uo1 b0_0, .slice ao2 r.2.b.buf.length co3, .slice ao4 r.2.at'.length co5] 70, Res.rowS 5 1 encU8 (.slice ao2 r.2.b.buf.length co3) r.2.b.buf, Res.rowS 56 2 encSpan (.slice ao4 r.2.at'.length co5) r.2.at']) := by
 dsimp only [rewrite_turned_put] at hh
 refine Con.mk (n := 35) Tryz.func31 z z z (fun w0 => ?_)
 have x1b := grd_c hh
 replace hh := grd_t hh
 refine TC.a (TL.op z (boxA z z z z (fun b106 => ?_)))
 refine TL.j z z (TL.en (TC.seq (TC.a (TL.l z z (TL.w z (nilCheckLoc z z) (TL.w z (fieldLoc z fo70_0 z) (TL.front 3 z z (TL.front 3 z z (TL.front 3 z z ?_)))))))))
 obtain ⟨v6, u6, hh⟩ := bnd_e hh
 refine TL.op z (OpOk.call (lenU_con u6) z z pf32 z z z z ?_)
 rintro _ _ _ hle108 ⟨rfl, rfl, rfl⟩
 refine TL.w z (moveStr (.inl z) z) (TL.w z (lenBs z underlying9 z) (TL.w z (addW z z z) (TL.w z (OpVal.gtr z z z) (TL.en (TC.cD z hh (fun h109 hh => ?_) (fun h109 hh => ?_))))))
 ·refine TC.a (TL.j z z (TL.en (TC.ofSub (Sub.f [2, 2, 2] 3) (TC.ret (S.r ?_)))))
  obtain rfl := so hh
  exact ro [Res.cells b0_0 #[badV u0_1 b0_0, .slice a0_2 x0.b.buf.length c0_3, .slice a0_4 x0.at'.length c0_5] 70, Res.rowS 5 1 encU8 (.slice a0_2 x0.b.buf.length c0_3) x0.b.buf, Res.rowS 56 2 encSpan (.slice a0_4 x0.at'.length c0_5) x0.at'] z (RVs.tmp z RVs.nil) ⟨u0_1, a0_2, c0_3, a0_4, c0_5, z, z, z⟩
 ·refine TC.skip (S.n (TC.a (TL.l z z (TL.w z (nilCheckLoc z z) (TL.w z (fieldLoc z fo70_0 z) (TL.w z (moveStr (.inl z) z) (TL.front 2 z z (TL.front 2 z z (TL.front 2 z z ?_)))))))))
  obtain ⟨v16, u16, hh⟩ := bnd_e hh
  refine TL.op z (OpOk.call (writeSU_con u16) z z pf64 z z z z ?_)
  rintro _ _ _ hle110 ⟨u110_1, a110_2, c110_3, a110_4, c110_5, rfl, rfl, rfl⟩
  refine TL.en (TC.seq (TC.a (TL.w z (moveStr (.inl z) z) (TL.w z (lenBs z underlying9 z) (TL.i z z (TL.en (TC.block (TC.loopG (α := ((List Span) × Nat) × ((Option Addr) × Nat)) (rgs [(22, 13)]) (fun g => [(22, .int .i64 ((g.1.2 : Nat) : Int))]) (fun g => [Res.cells b0_0 #[badV u110_1 b0_0, .slice a110_2 v16.2.2.b.buf.length c110_3, .slice g.2.1 g.1.1.length g.2.2] 70, Res.rowS 5 1 encU8 (.slice a110_2 v16.2.2.b.buf.length c110_3) v16.2.2.b.buf, Res.rowS 56 2 encSpan (.slice g.2.1 g.1.1.length g.2.2) g.1.1, Res.cells b106 #[.int .i64 x2.frm, .int .i64 x2.to] 56]) (fun g => σ) (fun g => iter (fun q : (List Span) × Nat => rewrite_turned_put_b1 x1 x2 v16 q.1 q.2) g.1 = some r) (fun g => rounds (fun q : (List Span) × Nat => rewrite_turned_put_b1 x1 x2 v16 q.1 q.2) g.1) ((v16.2.2.at', 0), (a110_4, c110_5)) (Sub.f [3, 3, 3, 3] 4) z (by repeat (first | exact trivial | refine ⟨z, ?_⟩)) hh (fun g1 j1 hg1 => ?_)))))))))
  obtain ⟨⟨l121, k124⟩, ⟨a122, c123⟩⟩ := g1
  have hh := hg1; clear hg1
  try dsimp only
  obtain ⟨z1, hh, hR1⟩ := iter_e hh
  dsimp only [rewrite_turned_put_b1] at hh
  refine TC.isSl (i := 1) z (fun _ hb125 _ => ?_)
  refine TC.isSl (i := 2) z (fun _ hb126 _ => ?_)
  refine TC.a (TL.w z (OpVal.lss z z z) (TL.en (TC.seq (TC.cD z hh (fun h127 hh => ?_) (fun h127 hh => ?_)))))
  ·refine TC.skip (S.n (TC.seq (TC.block ?_)))
   have u28 := grd_c hh
   replace hh := grd_t hh
   refine TC.draw [7, 8, 9, 10] (by kernel_rfl) (TA.a 0 z (moveLoc (.inl z) z) z (TA.a 1 z (moveLoc (.inl z) z) z (TA.a 2 z (nilCheckLoc z z) z (TA.a 3 z (fieldLoc z fo70_1 z) z (TA.b 4 z (loadLoc z ag34 z (i := 0) z z) z (TA.b 5 z (loadAll z ag56 sz56 z (i := 3) z z) z (TA.ac 6 z (OpOk.lit (enc := encSpan) [x2] z underlying34 sz56 ze56 z z z encSpan_len (by decide) (by decide) Span.zero z (by decide) z (by decide) encSpan_one (fun a133 c134 => (k1 ?_))))))))))
   refine TA.front 3 z z (TA.last 7 (by kernel_rfl) z z z (appendS z z underlying34 sz56 by56 ze56 z z (by decide) z z z (.inr ⟨_, 0, z⟩) (by simpa using u28) (by decide) (fun a136 c137 => ?_)))
   refine TZ.v 8 (by kernel_rfl) z z z (nilCheckLoc z z) z z (TZ.v 9 (by kernel_rfl) z z z (fieldLoc z fo70_1 z) z z (TZ.front 2 z z (TZ.last 10 (by kernel_rfl) z z z (storeSl z sz34 z z z z z ?_))))
   refine TZ.done (by kernel_rfl) (B.n (S.n (TC.region (TL.w z (OpVal.succ z z z (by omega)) (TL.i z z (TL.en ?_))))))
   obtain ⟨hh, hlt138⟩ := nxt_x hR1 hh
   exact lf (((l121 ++ [x2]), (k124 + 1)), (a136, c137)) hlt138 hh (Sub.f [4, 2, 4, 3] 4)
  ·refine TC.exit (S.x (S.x ?_))
   replace hh := fin_x hR1 hh
   refine TC.exitHere (S.n (TC.a (TL.j z z (TL.en (TC.ofSub (Sub.f [2, 2, 2] 3) (TC.ret ?_))))))
   obtain rfl := so hh
   exact ro [Res.cells b0_0 #[badV u110_1 b0_0, .slice a110_2 v16.2.2.b.buf.length c110_3, .slice a122 l121.length c123] 70, Res.rowS 5 1 encU8 (.slice a110_2 v16.2.2.b.buf.length c110_3) v16.2.2.b.buf, Res.rowS 56 2 encSpan (.slice a122 l121.length c123) l121] z (RVs.tmp z RVs.nil) ⟨u110_1, a110_2, c110_3, a122, c123, z, z, z⟩

noncomputable def seq_Apply_b1 (x1 : List UInt8) (x0 : Seq) (l126 : List UInt8) (i129 : Int) (k130 : Nat) : Option (((List UInt8) × Int × Nat) ⊕ ((List UInt8) × Int × Bool × Int)) :=
 iteO (decide (((k130 : Nat) : Int) < ((x1.length : Nat) : Int))) (grd (0 ≤ i129 ∧ i129 < (x0.next.length : Int)) (grd ((nth x1 k130 (0 : UInt8)).toNat < (nth x0.next i129.toNat ([] : List Int)).length) (iteO (decide ((nth (nth x0.next i129.toNat ([] : List Int)) ((nth x1 k130 (0 : UInt8)).toNat) (0 : Int)) < 0)) (fin (some (([] : List UInt8), ((k130 : Nat) : Int), false, 0))) (grd (0 ≤ i129 ∧ i129 < (x0.outs.length : Int)) (grd ((nth x1 k130 (0 : UInt8)).toNat < (nth x0.outs i129.toNat ([] : List (List UInt8))).length) (bnd (writeS (⟨l126⟩ : SB) (nth (nth x0.outs i129.toNat ([] : List (List UInt8))) ((nth x1 k130 (0 : UInt8)).toNat) ([] : List UInt8))) (fun v60 => nxt (v60.2.2.buf, (nth (nth x0.next i129.toNat ([] : List Int)) ((nth x1 k130 (0 : UInt8)).toNat) (0 : Int)), (k130 + 1))))))))) (fin (grd (0 ≤ i129 ∧ i129 < (x0.fin.length : Int)) (iteO (!(nth x0.fin i129.toNat false)) (some (([] : List UInt8), ((x1.length : Nat) : Int), false, 0)) (grd (0 ≤ i129 ∧ i129 < (x0.tail.length : Int)) (bnd (writeS (⟨l126⟩ : SB) (nth x0.tail i129.toNat ([] : List UInt8))) (fun v82 => bnd (stringB (⟨v82.2.2.buf⟩ : SB)) (fun v83 => some (v83, ((x1.length : Nat) : Int), true, 0))))))))
noncomputable def seq_Apply (x0 : Seq) (x1 : List UInt8) : Option ((List UInt8) × Int × Bool × Int) :=
 grd (x1.length ≤ 281474976710656) (bnd (seq_Check x0) (fun v7 => iteO (decide (v7 ≠ 0)) (some (([] : List UInt8), 0, false, 1)) (iteO (decide (((x0.next.length : Nat) : Int) = 0)) (some (([] : List UInt8), 0, false, 0)) (bnd (writeS (⟨([] : List UInt8)⟩ : SB) x0.front) (fun v24 => iter (fun q : (List UInt8) × Int × Nat => seq_Apply_b1 x1 x0 q.1 q.2.1 q.2.2) (v24.2.2.buf, 0, 0))))))
theorem seq_Apply_con {σ : Store} {x0 : Seq} {a0_0 : Option Addr} {c0_0 : Nat} {a0_1 : Option Addr} {c0_1 : Nat} {a0_2 : Option Addr} {c0_2 : Nat} {a0_3 : Option Addr} {c0_3 : Nat} {x1 : List UInt8} (f0_0 : RZ σ (pkSl 1 Go.E.encI Go.E.encI_len) (.slice a0_0 x0.next.length c0_0) x0.next) (f0_1 : RZ σ (pkSl 1 Go.E.encS Go.E.encS_len) (.slice a0_1 x0.outs.length c0_1) x0.outs) (f0_2 : RS σ 1 encB (.slice a0_2 x0.fin.length c0_2) x0.fin) (f0_3 : RS σ 1 Go.E.encS (.slice a0_3 x0.tail.length c0_3) x0.tail) {r : (List UInt8) × Int × Bool × Int} (hh : seq_Apply x0 x1 = some r) :
  Con Tryz.prog 63 #[.agg #[.string (bs x0.front), .slice a0_0 x0.next.length c0_0, .slice a0_1 x0.outs.length c0_1, .slice a0_2 x0.fin.length c0_2, .slice a0_3 x0.tail.length c0_3], .string (bs x1)] σ [] (PureP (.tuple #[.string (bs r.1), .int .i64 r.2.1, .bool r.2.2.1, .int .i64 r.2.2.2]) σ) := by
 dsimp only [seq_Apply] at hh
 have f0_0b := f0_0.big
 have f0_1b := f0_1.big
 have f0_2b := f0_2.rv.big
 have f0_3b := f0_3.rv.big
 refine Con.mk (n := 70) Tryz.func63 z z z (fun w0 => ?_)
 have x1b := grd_c hh
 replace hh := grd_t hh
 refine TC.a (TL.op z (boxA z z z z (fun b101 => ?_)))
 refine TL.w z (moveStr (.inr z) z) (TL.i z z (TL.j z z (TL.i z z (TL.en (TC.seq (TC.a (TL.w z (loadAll z ag30 sz30 z (i := 0) z z) ?_)))))))
 obtain ⟨v7, u7, hh⟩ := bnd_e hh
 refine TL.op z (callP (seq_Check_con (x0 := x0) f0_0 f0_1 f0_2 f0_3 u7) z z pf44 z z z ?_)
 refine TL.w z (OpVal.neq z z z) (TL.en (TC.cD z hh (fun h103 hh => ?_) (fun h103 hh => ?_)))
 ·refine TC.a (TL.w z (moveStr (.inr z) z) (TL.i z z (TL.j z z (TL.i z z (TL.en (TC.rt 0 (S.r ?_)))))))
  obtain rfl := so hh
  exact rq [4, 5, 6, 7] ⟨z, z, z⟩
 ·refine TC.skip (S.n (TC.seq (TC.a (TL.w z (fieldLoc z fo30_1 z) (TL.w z (loadLoc z ag23 z (i := 0) z z) (TL.w z (lenC z underlying23 z) (TL.w z (OpVal.eql z z z) (TL.en (TC.cD z hh (fun h104 hh => ?_) (fun h104 hh => ?_))))))))))
  ·refine TC.a (TL.w z (moveStr (.inr z) z) (TL.i z z (TL.j z z (TL.i z z (TL.en (TC.rt 0 (S.r ?_)))))))
   obtain rfl := so hh
   exact rq [4, 5, 6, 7] ⟨z, z, z⟩
  ·refine TC.skip (S.n (TC.a (TL.op z (OpOk.alloc z ze68 z z (fun b105 => ?_)))))
   refine TL.asH (H' := [Res.cells b105 #[badV false b105, .slice none 0 0] 68, Res.cells b101 #[.string (bs x0.front), .slice a0_0 x0.next.length c0_0, .slice a0_1 x0.outs.length c0_1, .slice a0_2 x0.fin.length c0_2, .slice a0_3 x0.tail.length c0_3] 30]) z (TL.en (TC.a (TL.w z (fieldLoc z fo30_0 z) (TL.w z (loadLoc z ag9 z (i := 1) z z) (TL.nilS 5 1 encU8 (TL.front 1 z z ?_))))))
   obtain ⟨v24, u24, hh⟩ := bnd_e hh
   refine TL.op z (OpOk.call (writeS_con u24) z z pf64 z z z z ?_)
   rintro _ _ _ hle108 ⟨u108_1, a108_2, c108_3, rfl, rfl, rfl⟩
   refine TL.en (TC.a (TL.i z z (TL.en (TC.seq (TC.a (TL.w z (moveStr (.inl z) z) (TL.w z (lenBs z underlying9 z) (TL.i z z (TL.en (TC.block (TC.loopG (α := ((List UInt8) × Int × Nat) × (Bool × (Option Addr) × Nat)) (rgs [(4, 4), (9, 3), (24, 29)]) (fun g => [(9, .int .i64 g.1.2.1), (24, .int .i64 ((g.1.2.2 : Nat) : Int))]) (fun g => [Res.cells b101 #[.string (bs x0.front), .slice a0_0 x0.next.length c0_0, .slice a0_1 x0.outs.length c0_1, .slice a0_2 x0.fin.length c0_2, .slice a0_3 x0.tail.length c0_3] 30, Res.cells b105 #[badV g.2.1 b105, .slice g.2.2.1 g.1.1.length g.2.2.2] 68, Res.rowS 5 1 encU8 (.slice g.2.2.1 g.1.1.length g.2.2.2) g.1.1]) (fun g => σ) (fun g => iter (fun q : (List UInt8) × Int × Nat => seq_Apply_b1 x1 x0 q.1 q.2.1 q.2.2) g.1 = some r) (fun g => rounds (fun q : (List UInt8) × Int × Nat => seq_Apply_b1 x1 x0 q.1 q.2.1 q.2.2) g.1) ((v24.2.2.buf, 0, 0), (u108_1, a108_2, c108_3)) (Sub.f [1, 1, 2] 3) z (by repeat (first | exact trivial | refine ⟨z, ?_⟩)) hh (fun g1 j1 hg1 => ?_))))))))))))
   obtain ⟨⟨l126, i129, k130⟩, ⟨u124, a127, c128⟩⟩ := g1
   have hh := hg1; clear hg1
   try dsimp only
   obtain ⟨z1, hh, hR1⟩ := iter_e hh
   dsimp only [seq_Apply_b1] at hh
   refine TC.isSl (i := 2) z (fun _ hb131 _ => ?_)
   refine TC.a (TL.w z (OpVal.lss z z z) (TL.en (TC.seq (TC.cD z hh (fun h132 hh => ?_) (fun h132 hh => ?_)))))
   ·refine TC.skip (S.n (TC.seq (TC.block (TC.a (TL.i z z (TL.i z z (TL.en (TC.seq ?_))))))))
    have u35 := grd_c hh
    replace hh := grd_t hh
    have u40 := grd_c hh
    replace hh := grd_t hh
    refine TC.draw [] (by kernel_rfl) (TA.a 0 z (fieldLoc z fo30_1 z) z (TA.b 1 z (loadLoc z ag23 z (i := 0) z z) z (TA.a 2 z (moveI (.inl z) z) z (TA.b 3 z (OpVal.index z underlying23 sz22 z z f0_0.isSl u35.1 u35.2) z ?_))))
    obtain ⟨p134, hk134, hg134⟩ := RZ.seg f0_0 i129.toNat (by omega)
    replace hk134 : RS _ 1 Go.E.encI (.slice p134.1 (nth x0.next i129.toNat ([] : List Int)).length p134.2) (nth x0.next i129.toNat ([] : List Int)) := hk134
    have hk134b := hk134.rv.big
    refine TA.b 4 z (OpVal.of (loadSeg0 z ag22 z hg134 z) (v' := .slice p134.1 ((nth x0.next i129.toNat ([] : List Int)).length) p134.2) z) z (TA.a 5 z (moveStr (.inl z) z) z (TA.a 6 z (moveI (.inl z) z) z (TA.a 7 z (indexBs z underlying9 z z (by omega)) z (TA.b 8 z (indexN z underlying22 sz3 z z hk134.rv.sl (by omega)) z (TA.b 9 z (loadS1 (0 : Int) z ag3 z hk134 (by omega) z) z (TA.a 10 z (moveI (.inr z) z) z (TA.dn (S.n (TC.seq (TC.a (TL.i z z (TL.w z (OpVal.lss z z z) (TL.en (TC.cD z hh (fun h135 hh => ?_) (fun h135 hh => ?_)))))))))))))))
    ·refine TC.a (TL.i z z (TL.w z (moveStr (.inr z) z) (TL.i z z (TL.j z z (TL.i z z (TL.en (TC.rt 0 (S.r (B.r (S.r (S.r ?_)))))))))))
     replace hh := fin_x hR1 hh
     refine B.r (S.r ?_)
     obtain rfl := so hh
     exact rq [4, 5, 6, 7] ⟨z, z, z⟩
    ·refine TC.skip (S.n (TC.seq ?_))
     have u53 := grd_c hh
     replace hh := grd_t hh
     have u58 := grd_c hh
     replace hh := grd_t hh
     obtain ⟨v60, u60, hh⟩ := bnd_e hh
     refine TC.drawR (Hr := [Res.cells b101 #[.string (bs x0.front), .slice a0_0 x0.next.length c0_0, .slice a0_1 x0.outs.length c0_1, .slice a0_2 x0.fin.length c0_2, .slice a0_3 x0.tail.length c0_3] 30]) (fun r hr => mem_pick [0] z hr) [] (by kernel_rfl) (TA.a 0 z (fieldLoc z fo30_2 z) z (TA.b 1 z (loadLoc z ag27 z (i := 0) z z) z (TA.a 2 z (moveI (.inl z) z) z (TA.b 3 z (OpVal.index z underlying27 sz28 z z f0_1.isSl u53.1 u53.2) z ?_))))
     obtain ⟨p139, hk139, hg139⟩ := RZ.seg f0_1 i129.toNat (by omega)
     replace hk139 : RS _ 1 Go.E.encS (.slice p139.1 (nth x0.outs i129.toNat ([] : List (List UInt8))).length p139.2) (nth x0.outs i129.toNat ([] : List (List UInt8))) := hk139
     have hk139b := hk139.rv.big
     refine TA.b 4 z (OpVal.of (loadSeg0 z ag28 z hg139 z) (v' := .slice p139.1 ((nth x0.outs i129.toNat ([] : List (List UInt8))).length) p139.2) z) z (TA.a 5 z (moveStr (.inl z) z) z (TA.a 6 z (moveI (.inl z) z) z (TA.a 7 z (indexBs z underlying9 z z (by omega)) z (TA.b 8 z (indexN z underlying28 sz9 z z hk139.rv.sl (by omega)) z (TA.b 9 z (loadS1 ([] : List UInt8) z ag9 z hk139 (by omega) z) z (TA.front 2 z z (TA.front 2 z z (TA.ac 10 z (OpOk.call (writeS_con u60) z z pf64 z z z z ?_)))))))))
     rintro _ _ _ hle140 ⟨u140_1, a140_2, c140_3, rfl, rfl, rfl⟩
     refine k2 (TA.dn (S.n (TC.region (TL.i z z (TL.i z z (TL.nil (B.n (S.n (TC.region (TL.w z (OpVal.succ z z z (by omega)) (TL.i z z (TL.en ?_))))))))))))
     obtain ⟨hh, hlt142⟩ := nxt_x hR1 hh
     exact lf ((v60.2.2.buf, (nth (nth x0.next i129.toNat ([] : List Int)) ((nth x1 k130 (0 : UInt8)).toNat) (0 : Int)), (k130 + 1)), (u140_1, a140_2, c140_3)) hlt142 hh (Sub.f [1, 1, 2] 3)
   ·refine TC.exit (S.x (S.x ?_))
    replace hh := fin_x hR1 hh
    refine TC.exitHere (S.n (TC.seq (TC.a (TL.w z (fieldLoc z fo30_3 z) (TL.w z (loadLoc z ag24 z (i := 0) z z) (TL.i z z ?_))))))
    have u68 := grd_c hh
    replace hh := grd_t hh
    refine TL.w z (OpVal.index z underlying24 sz4 z z f0_2.rv.sl u68.1 u68.2) (TL.w z (loadS1 false z ag4 z f0_2 (by omega) z) (TL.w z (OpVal.not z z) (TL.en (TC.cB z hh (fun h143 hh => ?_) (fun h143 hh => ?_)))))
    ·refine TC.a (TL.w z (moveStr (.inl z) z) (TL.w z (lenBs z underlying9 z) (TL.w z (moveStr (.inr z) z) (TL.i z z (TL.j z z (TL.i z z (TL.en (TC.rt 0 (S.r ?_)))))))))
     obtain rfl := so hh
     exact rq [4, 5, 6, 7] ⟨z, z, z⟩
    ·refine TC.skip (S.n (TC.a (TL.w z (fieldLoc z fo30_4 z) (TL.w z (loadLoc z ag28 z (i := 0) z z) (TL.i z z ?_)))))
     have u80 := grd_c hh
     replace hh := grd_t hh
     refine TL.w z (OpVal.index z underlying28 sz9 z z f0_3.rv.sl u80.1 u80.2) (TL.w z (loadS1 ([] : List UInt8) z ag9 z f0_3 (by omega) z) (TL.front 2 z z (TL.front 2 z z ?_)))
     obtain ⟨v82, u82, hh⟩ := bnd_e hh
     refine TL.op z (OpOk.call (writeS_con u82) z z pf64 z z z z ?_)
     rintro _ _ _ hle144 ⟨u144_1, a144_2, c144_3, rfl, rfl, rfl⟩
     refine TL.en (TC.a (TL.front 1 z z (TL.front 1 z z ?_)))
     obtain ⟨v83, u83, hh⟩ := bnd_e hh
     refine TL.op z (OpOk.call (stringB_con u83) z z pf65 z z z z ?_)
     rintro _ _ _ hle146 ⟨rfl, rfl, rfl⟩
     refine TL.w z (moveStr (.inl z) z) (TL.w z (lenBs z underlying9 z) (TL.w z (moveStr (.inr z) z) (TL.i z z (TL.j z z (TL.i z z (TL.en (TC.rt 0 ?_)))))))
     obtain rfl := so hh
     exact rq [4, 5, 6, 7] ⟨z, z, z⟩

noncomputable def rewrite_how_out (x0 : How) (x1 : List UInt8) : Option ((List UInt8) × Bool) :=
 grd (x1.length ≤ 281474976710656) (some (x0.r.out, true))
theorem rewrite_how_out_con {σ : Store} {x0 : How} {a0_0 : Option Addr} {c0_0 : Nat} {a0_1 : Option Addr} {c0_1 : Nat} {a0_2 : Option Addr} {c0_2 : Nat} {a0_3 : Option Addr} {c0_3 : Nat} {a0_4 : Option Addr} {c0_4 : Nat} {a0_5 : Option Addr} {c0_5 : Nat} {a0_6 : Option Addr} {c0_6 : Nat} {a0_7 : Option Addr} {c0_7 : Nat} {a0_8 : Option Addr} {c0_8 : Nat} {a0_9 : Option Addr} {c0_9 : Nat} {a0_10 : Option Addr} {c0_10 : Nat} {a0_11 : Option Addr} {c0_11 : Nat} {a0_12 : Option Addr} {c0_12 : Nat} {x1 : List UInt8} (f0_0 : RS σ 1 Go.E.encI (.slice a0_0 x0.r.of.cls.length c0_0) x0.r.of.cls) (f0_1 : RZ σ (pkSl 1 Go.E.encI Go.E.encI_len) (.slice a0_1 x0.r.of.next.length c0_1) x0.r.of.next) (f0_2 : RS σ 1 encB (.slice a0_2 x0.r.of.fin.length c0_2) x0.r.of.fin) (f0_3 : RS σ 1 Go.E.encI (.slice a0_3 x0.r.left.cls.length c0_3) x0.r.left.cls) (f0_4 : RZ σ (pkSl 1 Go.E.encI Go.E.encI_len) (.slice a0_4 x0.r.left.next.length c0_4) x0.r.left.next) (f0_5 : RS σ 1 encB (.slice a0_5 x0.r.left.fin.length c0_5) x0.r.left.fin) (f0_6 : RS σ 1 Go.E.encI (.slice a0_6 x0.r.right.cls.length c0_6) x0.r.right.cls) (f0_7 : RZ σ (pkSl 1 Go.E.encI Go.E.encI_len) (.slice a0_7 x0.r.right.next.length c0_7) x0.r.right.next) (f0_8 : RS σ 1 encB (.slice a0_8 x0.r.right.fin.length c0_8) x0.r.right.fin) (f0_9 : RZ σ (pkSl 1 Go.E.encI Go.E.encI_len) (.slice a0_9 x0.r.by'.next.length c0_9) x0.r.by'.next) (f0_10 : RZ σ (pkSl 1 Go.E.encS Go.E.encS_len) (.slice a0_10 x0.r.by'.outs.length c0_10) x0.r.by'.outs) (f0_11 : RS σ 1 encB (.slice a0_11 x0.r.by'.fin.length c0_11) x0.r.by'.fin) (f0_12 : RS σ 1 Go.E.encS (.slice a0_12 x0.r.by'.tail.length c0_12) x0.r.by'.tail) {r : (List UInt8) × Bool} (hh : rewrite_how_out x0 x1 = some r) :
  Con Tryz.prog 28 #[.agg #[.slice a0_0 x0.r.of.cls.length c0_0, .slice a0_1 x0.r.of.next.length c0_1, .slice a0_2 x0.r.of.fin.length c0_2, .slice a0_3 x0.r.left.cls.length c0_3, .slice a0_4 x0.r.left.next.length c0_4, .slice a0_5 x0.r.left.fin.length c0_5, .slice a0_6 x0.r.right.cls.length c0_6, .slice a0_7 x0.r.right.next.length c0_7, .slice a0_8 x0.r.right.fin.length c0_8, .string (bs x0.r.out), .bool x0.r.mapped, .string (bs x0.r.by'.front), .slice a0_9 x0.r.by'.next.length c0_9, .slice a0_10 x0.r.by'.outs.length c0_10, .slice a0_11 x0.r.by'.fin.length c0_11, .slice a0_12 x0.r.by'.tail.length c0_12], .string (bs x1)] σ [] (PureP (.tuple #[.string (bs r.1), .bool r.2]) σ) := by
 dsimp only [rewrite_how_out] at hh
 have f0_0b := f0_0.rv.big
 have f0_1b := f0_1.big
 have f0_2b := f0_2.rv.big
 have f0_3b := f0_3.rv.big
 have f0_4b := f0_4.big
 have f0_5b := f0_5.rv.big
 have f0_6b := f0_6.rv.big
 have f0_7b := f0_7.big
 have f0_8b := f0_8.rv.big
 have f0_9b := f0_9.big
 have f0_10b := f0_10.big
 have f0_11b := f0_11.rv.big
 have f0_12b := f0_12.rv.big
 refine Con.mk (n := 9) Tryz.func28 z z z (fun w0 => ?_)
 have x1b := grd_c hh
 replace hh := grd_t hh
 refine TC.a (TL.op z (boxA z z z z (fun b101 => ?_)))
 refine TL.w z (moveStr (.inr z) z) (TL.j z z (TL.en (TC.a (TL.w z (fieldLoc z fo64_0 z) (TL.w z (fieldLoc z fo32_3 z) (TL.w z (loadLoc z ag9 z (i := 0) z z) (TL.w z (moveStr (.inr z) z) (TL.j z z (TL.en (TC.rt 0 ?_))))))))))
 obtain rfl := so hh
 exact rq [4, 5] ⟨z, z, z⟩

noncomputable def rewrite_how_by (x0 : How) (x1 : List UInt8) : Option ((List UInt8) × Bool) :=
 grd (x1.length ≤ 281474976710656) (bnd (seq_Apply x0.r.by' x1) (fun v8 => iteO v8.2.2.1 (some (v8.1, decide (v8.2.2.2 = 0))) (some (v8.1, false))))
theorem rewrite_how_by_con {σ : Store} {x0 : How} {a0_0 : Option Addr} {c0_0 : Nat} {a0_1 : Option Addr} {c0_1 : Nat} {a0_2 : Option Addr} {c0_2 : Nat} {a0_3 : Option Addr} {c0_3 : Nat} {a0_4 : Option Addr} {c0_4 : Nat} {a0_5 : Option Addr} {c0_5 : Nat} {a0_6 : Option Addr} {c0_6 : Nat} {a0_7 : Option Addr} {c0_7 : Nat} {a0_8 : Option Addr} {c0_8 : Nat} {a0_9 : Option Addr} {c0_9 : Nat} {a0_10 : Option Addr} {c0_10 : Nat} {a0_11 : Option Addr} {c0_11 : Nat} {a0_12 : Option Addr} {c0_12 : Nat} {x1 : List UInt8} (f0_0 : RS σ 1 Go.E.encI (.slice a0_0 x0.r.of.cls.length c0_0) x0.r.of.cls) (f0_1 : RZ σ (pkSl 1 Go.E.encI Go.E.encI_len) (.slice a0_1 x0.r.of.next.length c0_1) x0.r.of.next) (f0_2 : RS σ 1 encB (.slice a0_2 x0.r.of.fin.length c0_2) x0.r.of.fin) (f0_3 : RS σ 1 Go.E.encI (.slice a0_3 x0.r.left.cls.length c0_3) x0.r.left.cls) (f0_4 : RZ σ (pkSl 1 Go.E.encI Go.E.encI_len) (.slice a0_4 x0.r.left.next.length c0_4) x0.r.left.next) (f0_5 : RS σ 1 encB (.slice a0_5 x0.r.left.fin.length c0_5) x0.r.left.fin) (f0_6 : RS σ 1 Go.E.encI (.slice a0_6 x0.r.right.cls.length c0_6) x0.r.right.cls) (f0_7 : RZ σ (pkSl 1 Go.E.encI Go.E.encI_len) (.slice a0_7 x0.r.right.next.length c0_7) x0.r.right.next) (f0_8 : RS σ 1 encB (.slice a0_8 x0.r.right.fin.length c0_8) x0.r.right.fin) (f0_9 : RZ σ (pkSl 1 Go.E.encI Go.E.encI_len) (.slice a0_9 x0.r.by'.next.length c0_9) x0.r.by'.next) (f0_10 : RZ σ (pkSl 1 Go.E.encS Go.E.encS_len) (.slice a0_10 x0.r.by'.outs.length c0_10) x0.r.by'.outs) (f0_11 : RS σ 1 encB (.slice a0_11 x0.r.by'.fin.length c0_11) x0.r.by'.fin) (f0_12 : RS σ 1 Go.E.encS (.slice a0_12 x0.r.by'.tail.length c0_12) x0.r.by'.tail) {r : (List UInt8) × Bool} (hh : rewrite_how_by x0 x1 = some r) :
  Con Tryz.prog 29 #[.agg #[.slice a0_0 x0.r.of.cls.length c0_0, .slice a0_1 x0.r.of.next.length c0_1, .slice a0_2 x0.r.of.fin.length c0_2, .slice a0_3 x0.r.left.cls.length c0_3, .slice a0_4 x0.r.left.next.length c0_4, .slice a0_5 x0.r.left.fin.length c0_5, .slice a0_6 x0.r.right.cls.length c0_6, .slice a0_7 x0.r.right.next.length c0_7, .slice a0_8 x0.r.right.fin.length c0_8, .string (bs x0.r.out), .bool x0.r.mapped, .string (bs x0.r.by'.front), .slice a0_9 x0.r.by'.next.length c0_9, .slice a0_10 x0.r.by'.outs.length c0_10, .slice a0_11 x0.r.by'.fin.length c0_11, .slice a0_12 x0.r.by'.tail.length c0_12], .string (bs x1)] σ [] (PureP (.tuple #[.string (bs r.1), .bool r.2]) σ) := by
 dsimp only [rewrite_how_by] at hh
 have f0_0b := f0_0.rv.big
 have f0_1b := f0_1.big
 have f0_2b := f0_2.rv.big
 have f0_3b := f0_3.rv.big
 have f0_4b := f0_4.big
 have f0_5b := f0_5.rv.big
 have f0_6b := f0_6.rv.big
 have f0_7b := f0_7.big
 have f0_8b := f0_8.rv.big
 have f0_9b := f0_9.big
 have f0_10b := f0_10.big
 have f0_11b := f0_11.rv.big
 have f0_12b := f0_12.rv.big
 refine Con.mk (n := 26) Tryz.func29 z z z (fun w0 => ?_)
 have x1b := grd_c hh
 replace hh := grd_t hh
 refine TC.a (TL.op z (boxA z z z z (fun b101 => ?_)))
 refine TL.w z (moveStr (.inr z) z) (TL.j z z (TL.en (TC.a (TL.w z (fieldLoc z fo64_0 z) (TL.w z (fieldLoc z fo32_5 z) (TL.w z (loadLocA z ag30 sz30 z (i := 0) z z z) (TL.w z (moveStr (.inl z) z) ?_)))))))
 obtain ⟨v8, u8, hh⟩ := bnd_e hh
 refine TL.op z (callP (seq_Apply_con (x0 := x0.r.by') f0_9 f0_10 f0_11 f0_12 u8) z z pf63 z z z ?_)
 refine TL.w z (moveT (.inl z) z) (TL.w z (OpVal.extract z z z) (TL.w z (OpVal.extract z z z) (TL.w z (OpVal.extract z z z) (TL.w z (OpVal.extract z z z) (TL.w z (moveStr (.inr z) z) (TL.i z z (TL.j z z (TL.i z z (TL.en (TC.a (TL.w z (moveStr (.inl z) z) (TL.j z z (TL.j z z (TL.split 22 z (fun h103 => ?_) (fun h103 => ?_)))))))))))))))
 ·replace hh := iteO_t h103 hh
  refine TL.g z (moveI (.inl z) z) (TL.g z (OpVal.eql z z z) (TL.w z (pickTB z z z) (TL.w z (moveStr (.inr z) z) (TL.j z z (TL.en (TC.rt 0 ?_))))))
  obtain rfl := so hh
  exact rq [4, 5] ⟨z, z, z⟩
 ·replace hh := iteO_f h103 hh
  refine TL.f z (TL.f z (TL.w z (pickFB z z z) (TL.w z (moveStr (.inr z) z) (TL.j z z (TL.en (TC.rt 0 ?_))))))
  obtain rfl := so hh
  exact rq [4, 5] ⟨z, z, z⟩

end Go.Proofs.YtmfclggfajopkaaGreatDoor
end

/- R7 -/
section
/- Decompiled: a rule turns a text. -/
set_option linter.unusedVariables false
set_option linter.unusedSimpArgs false
namespace Go.Proofs.YtmfclggfajopkaaGreatDoor
open Go Go.E Go.E.OpVal Go.E.OpOk Go.Proofs.Tryz
set_option maxRecDepth 100000
private theorem ag26 : Go.E.aggOf Tryz.prog 26 = some true := by kernel_rfl
private theorem ag32 : Go.E.aggOf Tryz.prog 32 = some true := by kernel_rfl
private theorem ag36 : Go.E.aggOf Tryz.prog 36 = some true := by kernel_rfl
private theorem fo32_0 : Go.E.foOf Tryz.prog 32 0 = some 0 := by kernel_rfl
private theorem fo32_1 : Go.E.foOf Tryz.prog 32 1 = some 3 := by kernel_rfl
private theorem fo32_2 : Go.E.foOf Tryz.prog 32 2 = some 6 := by kernel_rfl
private theorem fo32_4 : Go.E.foOf Tryz.prog 32 4 = some 10 := by kernel_rfl
private theorem pf13 : Go.E.plainF Tryz.prog 13 = true := by kernel_rfl
private theorem pf27 : Go.E.plainF Tryz.prog 27 = true := by kernel_rfl
private theorem pf28 : Go.E.plainF Tryz.prog 28 = true := by kernel_rfl
private theorem pf29 : Go.E.plainF Tryz.prog 29 = true := by kernel_rfl
private theorem pf30 : Go.E.plainF Tryz.prog 30 = true := by kernel_rfl
private theorem pf31 : Go.E.plainF Tryz.prog 31 = true := by kernel_rfl
private theorem pf33 : Go.E.plainF Tryz.prog 33 = true := by kernel_rfl
private theorem pl36 : Go.E.plOf Tryz.prog 36 = some #[(0, 1), (1, 1)] := by kernel_rfl
private theorem pl64 : Go.E.plOf Tryz.prog 64 = some #[(0, 16)] := by kernel_rfl
private theorem sz26 : Go.E.szOf Tryz.prog 26 = some 3 := by kernel_rfl
private theorem sz32 : Go.E.szOf Tryz.prog 32 = some 16 := by kernel_rfl
private theorem sz36 : Go.E.szOf Tryz.prog 36 = some 2 := by kernel_rfl
private theorem ze36 : Go.E.zeroOf Tryz.prog 36 = some (.agg #[.string ByteArray.empty, .slice none 0 0]) := by kernel_rfl
private theorem ze64 : Go.E.zeroOf Tryz.prog 64 = some (.agg #[.slice none 0 0, .slice none 0 0, .slice none 0 0, .slice none 0 0, .slice none 0 0, .slice none 0 0, .slice none 0 0, .slice none 0 0, .slice none 0 0, .string ByteArray.empty, .bool false, .string ByteArray.empty, .slice none 0 0, .slice none 0 0, .slice none 0 0, .slice none 0 0]) := by kernel_rfl
private theorem ze70 : Go.E.zeroOf Tryz.prog 70 = some (.agg #[.pointer none, .slice none 0 0, .slice none 0 0]) := by kernel_rfl

noncomputable def rewrite_turned_piece (x0 : Turned) : Option (Piece) :=
 bnd (stringU (⟨(⟨x0.b.buf⟩ : SB), x0.at'⟩ : Turned)) (fun v5 => some (⟨v5, x0.at'⟩ : Piece))
theorem rewrite_turned_piece_con {σ : Store} {x0 : Turned} {b0_0 : Nat} {u0_1 : Bool} {a0_2 : Option Addr} {c0_3 : Nat} {a0_4 : Option Addr} {c0_5 : Nat}  {r : Piece} (hh : rewrite_turned_piece x0 = some r) :
  Con Tryz.prog 33 #[loc b0_0 0] σ [Res.cells b0_0 #[badV u0_1 b0_0, .slice a0_2 x0.b.buf.length c0_3, .slice a0_4 x0.at'.length c0_5] 70, Res.rowS 5 1 encU8 (.slice a0_2 x0.b.buf.length c0_3) x0.b.buf, Res.rowS 56 2 encSpan (.slice a0_4 x0.at'.length c0_5) x0.at'] (fun v σ' H' => ∃ (a1 : Option Addr), ∃ (c1 : Nat), v = .agg #[.string (bs r.text), .slice a1 r.at'.length c1] ∧ RS σ' 2 encSpan (.slice a1 r.at'.length c1) r.at' ∧ H' = []) := by
 dsimp only [rewrite_turned_piece] at hh
 refine Con.mk (n := 12) Tryz.func33 z z z (fun w0 => ?_)
 refine TC.a (TL.op z (OpOk.alloc z ze36 z z (fun b104 => ?_)))
 refine TL.en (TC.seq ?_)
 obtain ⟨v5, u5, hh⟩ := bnd_e hh
 refine TC.drawR (Hr := [Res.cells b0_0 #[badV u0_1 b0_0, .slice a0_2 x0.b.buf.length c0_3, .slice a0_4 x0.at'.length c0_5] 70, Res.rowS 56 2 encSpan (.slice a0_4 x0.at'.length c0_5) x0.at']) (fun r hr => mem_pick [1, 3] z hr) [] (by kernel_rfl) (TA.a 0 z (moveLoc (.inl z) z) z (TA.a 1 z (nilCheckLoc z z) z (TA.a 2 z (fieldLoc z fo70_0 z) z (TA.a 4 z (moveLoc (.inl z) z) z (TA.a 5 z (nilCheckLoc z z) z (TA.a 6 z (fieldLoc z fo70_1 z) z (TA.b 7 z (loadLoc z ag34 z (i := 0) z z) z (TA.front 3 z z (TA.front 3 z z (TA.front 3 z z (TA.ac 3 z (OpOk.call (stringU_con u5) z z pf65 z z z z ?_))))))))))))
 rintro _ _ _ hle107 ⟨rfl, rfl, rfl⟩
 refine ⟨(fun w h => sees_of (Store.le.refl _) (fun r hr => mem_pick [0, 1] z hr) w h), ?_⟩
 refine TA.a 8 z (buildL z pl36 ze36 z) z (TA.front 2 z z (TA.ac 9 z (storeAll z sz36 z z z z z z (k1 ?_))))
 refine TA.dn (S.n (TC.front 2 z z (TC.sealS encSpan_len (fun τ110 hle109 hr108 => ?_))))
 have hr108b := hr108.rv.big
 refine TC.rt 1 ?_
 obtain rfl := so hh
 exact ro [] z (RVs.agg ag36 sz36 z (i := 0) z z RVs.nil) ⟨a0_4, c0_5, z, hr108, z⟩

noncomputable def rewrite_Plain (x0 : List UInt8) : Option (Piece × Int) :=
 grd (x0.length ≤ 281474976710656) (iteO (decide (4096 < ((x0.length : Nat) : Int))) (some ((⟨([] : List UInt8), ([] : List Span)⟩ : Piece), 2)) (bnd (rewrite_turned_stay (⟨(⟨([] : List UInt8)⟩ : SB), ([] : List Span)⟩ : Turned) x0 (⟨0, ((x0.length : Nat) : Int)⟩ : Span)) (fun v14 => bnd (rewrite_turned_piece (⟨(⟨v14.b.buf⟩ : SB), v14.at'⟩ : Turned)) (fun v15 => some (v15, 0)))))
def rewrite_Plain_P (σ : Store) (r : Piece × Int) : Value → Store → List Res → Prop := fun v σ' H' =>
 ∃ (a1 : Option Addr), ∃ (c1 : Nat),  v = .tuple #[.agg #[.string (bs r.1.text), .slice a1 r.1.at'.length c1], .int .i64 r.2] ∧ RS σ' 2 encSpan (.slice a1 r.1.at'.length c1) r.1.at' ∧ H' = []
theorem rewrite_Plain_con {σ : Store} {x0 : List UInt8}  {r : Piece × Int} (hh : rewrite_Plain x0 = some r) :
  Con Tryz.prog 10 #[.string (bs x0)] σ [] (rewrite_Plain_P σ r) := by
 dsimp only [rewrite_Plain] at hh
 refine Con.mk (n := 15) Tryz.func10 z z z (fun w0 => ?_)
 have x0b := grd_c hh
 replace hh := grd_t hh
 refine TC.a (TL.op z (OpOk.alloc z ze36 z z (fun b101 => ?_)))
 refine TL.i z z (TL.en (TC.seq (TC.a (TL.w z (moveStr (.inl z) z) (TL.w z (lenBs z underlying9 z) (TL.w z (OpVal.gtr z z z) (TL.en (TC.cD z hh (fun h103 hh => ?_) (fun h103 hh => ?_)))))))))
 ·refine TC.a (TL.w z (buildL z pl36 ze36 z) (TL.op z (storeAll z sz36 z z z z z z ?_)))
  refine TL.i z z (TL.en (TC.ret (S.r ?_)))
  obtain rfl := so hh
  exact ro [] z (RVs.agg ag36 sz36 z (i := 0) z z (RVs.tmp z RVs.nil)) ⟨none, 0, z, (RS.nilF _ encSpan encSpan_len), z⟩
 ·refine TC.skip (S.n (TC.a (TL.op z (OpOk.alloc z ze70 z z (fun b104 => ?_)))))
  refine TL.asH (H' := [Res.cells b104 #[badV false b104, .slice none 0 0, .slice none 0 0] 70, Res.cells b101 #[.string (bs ([] : List UInt8)), .slice none 0 0] 36]) z (TL.en (TC.a (TL.w z (moveStr (.inl z) z) (TL.w z (moveStr (.inl z) z) (TL.w z (lenBs z underlying9 z) (TL.w z (buildL z pl56 ze56 z) (TL.nilS 5 1 encU8 (TL.nilS 56 2 encSpan (TL.front 1 z z (TL.front 2 z z ?_))))))))))
  obtain ⟨v14, u14, hh⟩ := bnd_e hh
  refine TL.op z (OpOk.call (rewrite_turned_stay_con u14) z z pf30 z z z z ?_)
  rintro _ _ _ hle108 ⟨u108_1, a108_2, c108_3, a108_4, c108_5, rfl, rfl, rfl⟩
  refine TL.en (TC.a (TL.front 2 z z (TL.front 2 z z (TL.front 2 z z ?_))))
  obtain ⟨v15, u15, hh⟩ := bnd_e hh
  refine TL.op z (OpOk.call (rewrite_turned_piece_con u15) z z pf33 z z z z ?_)
  rintro _ τ111 _ hle111 ⟨a111_1, c111_2, rfl, hr111_3, rfl⟩
  have hr111_3b := hr111_3.rv.big
  refine TL.op z (storeAll z sz36 z z z z z z ?_)
  refine TL.i z z (TL.en (TC.ret ?_))
  obtain rfl := so hh
  exact ro [] z (RVs.agg ag36 sz36 z (i := 0) z z (RVs.tmp z RVs.nil)) ⟨a111_1, c111_2, z, hr111_3, z⟩

noncomputable def rewrite_Turn_j1 (v17 : (List Span) × Int) (k143 : Nat) (l151 : List UInt8) (l155 : List Span) : Option (((List UInt8) × (List Span) × Int × Nat) ⊕ (Piece × Int)) :=
 nxt (l151, l155, ((nth v17.1 k143 Span.zero).to), (k143 + 1))
noncomputable def rewrite_Turn_b1 (v17 : (List Span) × Int) (x1 : List UInt8) (x0 : Rule) (l135 : List UInt8) (l139 : List Span) (i142 : Int) (k143 : Nat) : Option (((List UInt8) × (List Span) × Int × Nat) ⊕ (Piece × Int)) :=
 iteO (decide (((k143 : Nat) : Int) < ((v17.1.length : Nat) : Int))) (bnd (rewrite_turned_stay (⟨(⟨l135⟩ : SB), l139⟩ : Turned) x1 (⟨i142, (nth v17.1 k143 Span.zero).frm⟩ : Span)) (fun v54 => grd (0 ≤ ((nth v17.1 k143 Span.zero).frm) ∧ 0 ≤ ((nth v17.1 k143 Span.zero).to) ∧ ((nth v17.1 k143 Span.zero).frm).toNat ≤ ((nth v17.1 k143 Span.zero).to).toNat ∧ ((nth v17.1 k143 Span.zero).to).toNat ≤ x1.length) (bnd (rewrite_how_by (⟨x0⟩ : How) ((x1.take (((nth v17.1 k143 Span.zero).to).toNat)).drop (((nth v17.1 k143 Span.zero).frm).toNat))) (fun v65 => iteO (!v65.2) (bnd (rewrite_turned_stay (⟨(⟨v54.b.buf⟩ : SB), v54.at'⟩ : Turned) x1 (nth v17.1 k143 Span.zero)) (fun v75 => rewrite_Turn_j1 v17 k143 v75.b.buf v75.at')) (bnd (rewrite_turned_put (⟨(⟨v54.b.buf⟩ : SB), v54.at'⟩ : Turned) v65.1 (nth v17.1 k143 Span.zero)) (fun v78 => iteO (!v78.1) (fin (some ((⟨([] : List UInt8), ([] : List Span)⟩ : Piece), 2))) (rewrite_Turn_j1 v17 k143 v78.2.b.buf v78.2.at'))))))) (fin (bnd (rewrite_turned_stay (⟨(⟨l135⟩ : SB), l139⟩ : Turned) x1 (⟨i142, ((x1.length : Nat) : Int)⟩ : Span)) (fun v90 => bnd (lenU (⟨(⟨v90.b.buf⟩ : SB), v90.at'⟩ : Turned)) (fun v92 => iteO (decide (4096 < v92)) (some ((⟨([] : List UInt8), ([] : List Span)⟩ : Piece), 2)) (bnd (rewrite_turned_piece (⟨(⟨v90.b.buf⟩ : SB), v90.at'⟩ : Turned)) (fun v97 => some (v97, 0)))))))
noncomputable def rewrite_Turn_j2 (v17 : (List Span) × Int) (k214 : Nat) (l222 : List UInt8) (l226 : List Span) : Option (((List UInt8) × (List Span) × Int × Nat) ⊕ (Piece × Int)) :=
 nxt (l222, l226, ((nth v17.1 k214 Span.zero).to), (k214 + 1))
noncomputable def rewrite_Turn_b2 (v17 : (List Span) × Int) (x1 : List UInt8) (x0 : Rule) (l206 : List UInt8) (l210 : List Span) (i213 : Int) (k214 : Nat) : Option (((List UInt8) × (List Span) × Int × Nat) ⊕ (Piece × Int)) :=
 iteO (decide (((k214 : Nat) : Int) < ((v17.1.length : Nat) : Int))) (bnd (rewrite_turned_stay (⟨(⟨l206⟩ : SB), l210⟩ : Turned) x1 (⟨i213, (nth v17.1 k214 Span.zero).frm⟩ : Span)) (fun v54 => grd (0 ≤ ((nth v17.1 k214 Span.zero).frm) ∧ 0 ≤ ((nth v17.1 k214 Span.zero).to) ∧ ((nth v17.1 k214 Span.zero).frm).toNat ≤ ((nth v17.1 k214 Span.zero).to).toNat ∧ ((nth v17.1 k214 Span.zero).to).toNat ≤ x1.length) (bnd (rewrite_how_out (⟨x0⟩ : How) ((x1.take (((nth v17.1 k214 Span.zero).to).toNat)).drop (((nth v17.1 k214 Span.zero).frm).toNat))) (fun v65 => iteO (!v65.2) (bnd (rewrite_turned_stay (⟨(⟨v54.b.buf⟩ : SB), v54.at'⟩ : Turned) x1 (nth v17.1 k214 Span.zero)) (fun v75 => rewrite_Turn_j2 v17 k214 v75.b.buf v75.at')) (bnd (rewrite_turned_put (⟨(⟨v54.b.buf⟩ : SB), v54.at'⟩ : Turned) v65.1 (nth v17.1 k214 Span.zero)) (fun v78 => iteO (!v78.1) (fin (some ((⟨([] : List UInt8), ([] : List Span)⟩ : Piece), 2))) (rewrite_Turn_j2 v17 k214 v78.2.b.buf v78.2.at'))))))) (fin (bnd (rewrite_turned_stay (⟨(⟨l206⟩ : SB), l210⟩ : Turned) x1 (⟨i213, ((x1.length : Nat) : Int)⟩ : Span)) (fun v90 => bnd (lenU (⟨(⟨v90.b.buf⟩ : SB), v90.at'⟩ : Turned)) (fun v92 => iteO (decide (4096 < v92)) (some ((⟨([] : List UInt8), ([] : List Span)⟩ : Piece), 2)) (bnd (rewrite_turned_piece (⟨(⟨v90.b.buf⟩ : SB), v90.at'⟩ : Turned)) (fun v97 => some (v97, 0)))))))
noncomputable def rewrite_Turn (x0 : Rule) (x1 : List UInt8) : Option (Piece × Int) :=
 grd (x1.length ≤ 281474976710656) (bnd (rewrite_Check x0) (fun v5 => iteO (decide (v5 ≠ 0)) (some ((⟨([] : List UInt8), ([] : List Span)⟩ : Piece), 1)) (bnd (scan_Factors x0.of x0.left x0.right x1) (fun v17 => iteO (decide (v17.2 ≠ 0)) (some ((⟨([] : List UInt8), ([] : List Span)⟩ : Piece), v17.2)) (iteO x0.mapped (iter (fun q : (List UInt8) × (List Span) × Int × Nat => rewrite_Turn_b1 v17 x1 x0 q.1 q.2.1 q.2.2.1 q.2.2.2) (([] : List UInt8), ([] : List Span), 0, 0)) (iter (fun q : (List UInt8) × (List Span) × Int × Nat => rewrite_Turn_b2 v17 x1 x0 q.1 q.2.1 q.2.2.1 q.2.2.2) (([] : List UInt8), ([] : List Span), 0, 0)))))))
def rewrite_Turn_P (σ : Store) (r : Piece × Int) : Value → Store → List Res → Prop := fun v σ' H' =>
 ∃ (a1 : Option Addr), ∃ (c1 : Nat),  v = .tuple #[.agg #[.string (bs r.1.text), .slice a1 r.1.at'.length c1], .int .i64 r.2] ∧ RS σ' 2 encSpan (.slice a1 r.1.at'.length c1) r.1.at' ∧ H' = []
theorem rewrite_Turn_con {σ : Store} {x0 : Rule} {a0_0 : Option Addr} {c0_0 : Nat} {a0_1 : Option Addr} {c0_1 : Nat} {a0_2 : Option Addr} {c0_2 : Nat} {a0_3 : Option Addr} {c0_3 : Nat} {a0_4 : Option Addr} {c0_4 : Nat} {a0_5 : Option Addr} {c0_5 : Nat} {a0_6 : Option Addr} {c0_6 : Nat} {a0_7 : Option Addr} {c0_7 : Nat} {a0_8 : Option Addr} {c0_8 : Nat} {a0_9 : Option Addr} {c0_9 : Nat} {a0_10 : Option Addr} {c0_10 : Nat} {a0_11 : Option Addr} {c0_11 : Nat} {a0_12 : Option Addr} {c0_12 : Nat} {x1 : List UInt8} (f0_0 : RS σ 1 Go.E.encI (.slice a0_0 x0.of.cls.length c0_0) x0.of.cls) (f0_1 : RZ σ (pkSl 1 Go.E.encI Go.E.encI_len) (.slice a0_1 x0.of.next.length c0_1) x0.of.next) (f0_2 : RS σ 1 encB (.slice a0_2 x0.of.fin.length c0_2) x0.of.fin) (f0_3 : RS σ 1 Go.E.encI (.slice a0_3 x0.left.cls.length c0_3) x0.left.cls) (f0_4 : RZ σ (pkSl 1 Go.E.encI Go.E.encI_len) (.slice a0_4 x0.left.next.length c0_4) x0.left.next) (f0_5 : RS σ 1 encB (.slice a0_5 x0.left.fin.length c0_5) x0.left.fin) (f0_6 : RS σ 1 Go.E.encI (.slice a0_6 x0.right.cls.length c0_6) x0.right.cls) (f0_7 : RZ σ (pkSl 1 Go.E.encI Go.E.encI_len) (.slice a0_7 x0.right.next.length c0_7) x0.right.next) (f0_8 : RS σ 1 encB (.slice a0_8 x0.right.fin.length c0_8) x0.right.fin) (f0_9 : RZ σ (pkSl 1 Go.E.encI Go.E.encI_len) (.slice a0_9 x0.by'.next.length c0_9) x0.by'.next) (f0_10 : RZ σ (pkSl 1 Go.E.encS Go.E.encS_len) (.slice a0_10 x0.by'.outs.length c0_10) x0.by'.outs) (f0_11 : RS σ 1 encB (.slice a0_11 x0.by'.fin.length c0_11) x0.by'.fin) (f0_12 : RS σ 1 Go.E.encS (.slice a0_12 x0.by'.tail.length c0_12) x0.by'.tail) {r : Piece × Int} (hh : rewrite_Turn x0 x1 = some r) :
  Con Tryz.prog 8 #[.agg #[.slice a0_0 x0.of.cls.length c0_0, .slice a0_1 x0.of.next.length c0_1, .slice a0_2 x0.of.fin.length c0_2, .slice a0_3 x0.left.cls.length c0_3, .slice a0_4 x0.left.next.length c0_4, .slice a0_5 x0.left.fin.length c0_5, .slice a0_6 x0.right.cls.length c0_6, .slice a0_7 x0.right.next.length c0_7, .slice a0_8 x0.right.fin.length c0_8, .string (bs x0.out), .bool x0.mapped, .string (bs x0.by'.front), .slice a0_9 x0.by'.next.length c0_9, .slice a0_10 x0.by'.outs.length c0_10, .slice a0_11 x0.by'.fin.length c0_11, .slice a0_12 x0.by'.tail.length c0_12], .string (bs x1)] σ [] (rewrite_Turn_P σ r) := by
 dsimp only [rewrite_Turn] at hh
 have f0_0b := f0_0.rv.big
 have f0_1b := f0_1.big
 have f0_2b := f0_2.rv.big
 have f0_3b := f0_3.rv.big
 have f0_4b := f0_4.big
 have f0_5b := f0_5.rv.big
 have f0_6b := f0_6.rv.big
 have f0_7b := f0_7.big
 have f0_8b := f0_8.rv.big
 have f0_9b := f0_9.big
 have f0_10b := f0_10.big
 have f0_11b := f0_11.rv.big
 have f0_12b := f0_12.rv.big
 refine Con.mk (n := 89) Tryz.func8 z z z (fun w0 => ?_)
 have x1b := grd_c hh
 replace hh := grd_t hh
 refine TC.a (TL.op z (boxA z z z z (fun b101 => ?_)))
 refine TL.op z (OpOk.alloc z ze36 z z (fun b103 => ?_))
 refine TL.i z z (TL.en (TC.seq (TC.a (TL.w z (loadAll z ag32 sz32 z (i := 1) z z) ?_))))
 obtain ⟨v5, u5, hh⟩ := bnd_e hh
 refine TL.op z (callP (rewrite_Check_con (x0 := x0) f0_0 f0_1 f0_2 f0_3 f0_4 f0_5 f0_6 f0_7 f0_8 f0_9 f0_10 f0_11 f0_12 u5) z z pf13 z z z ?_)
 refine TL.w z (OpVal.neq z z z) (TL.en (TC.cD z hh (fun h105 hh => ?_) (fun h105 hh => ?_)))
 ·refine TC.a (TL.w z (buildL z pl36 ze36 z) (TL.op z (storeAll z sz36 z z z z z z ?_)))
  refine TL.i z z (TL.en (TC.rt 1 (S.r ?_)))
  obtain rfl := so hh
  exact ro [] z (RVs.agg ag36 sz36 z (i := 0) z z (RVs.tmp z RVs.nil)) ⟨none, 0, z, (RS.nilF _ encSpan encSpan_len), z⟩
 ·refine TC.skip (S.n (TC.a (TL.w z (fieldLoc z fo32_0 z) (TL.w z (loadLocA z ag26 sz26 z (i := 1) z z z) (TL.w z (fieldLoc z fo32_1 z) (TL.w z (loadLocA z ag26 sz26 z (i := 1) z z z) (TL.w z (fieldLoc z fo32_2 z) (TL.w z (loadLocA z ag26 sz26 z (i := 1) z z z) (TL.w z (moveStr (.inl z) z) ?_)))))))))
  obtain ⟨v17, u17, hh⟩ := bnd_e hh
  refine TL.op z (OpOk.call (scan_Factors_con (x0 := x0.of) (x1 := x0.left) (x2 := x0.right) f0_0 f0_1 f0_2 f0_3 f0_4 f0_5 f0_6 f0_7 f0_8 u17) z z pf27 z z z z ?_)
  rintro _ τ106 _ hle106 ⟨a106_1, c106_1, rfl, hr106_0, rfl⟩
  replace f0_0 := f0_0.mono hle106
  replace f0_1 := f0_1.mono hle106
  replace f0_2 := f0_2.mono hle106
  replace f0_3 := f0_3.mono hle106
  replace f0_4 := f0_4.mono hle106
  replace f0_5 := f0_5.mono hle106
  replace f0_6 := f0_6.mono hle106
  replace f0_7 := f0_7.mono hle106
  replace f0_8 := f0_8.mono hle106
  replace f0_9 := f0_9.mono hle106
  replace f0_10 := f0_10.mono hle106
  replace f0_11 := f0_11.mono hle106
  replace f0_12 := f0_12.mono hle106
  have hr106_0b := hr106_0.rv.big
  refine TL.w z (moveT (.inl z) z) (TL.w z (OpVal.extract z z z) (TL.w z (OpVal.extract z z z) (TL.s z z (TL.i z z (TL.en (TC.seq (TC.a (TL.i z z (TL.w z (OpVal.neq z z z) (TL.en (TC.cD z hh (fun h107 hh => ?_) (fun h107 hh => ?_))))))))))))
  ·refine TC.a (TL.w z (buildL z pl36 ze36 z) (TL.i z z (TL.op z (storeAll z sz36 z z z z z z ?_))))
   refine TL.i z z (TL.en (TC.rt 1 (S.r ?_)))
   obtain rfl := so hh
   exact ro [] z (RVs.agg ag36 sz36 z (i := 0) z z (RVs.tmp z RVs.nil)) ⟨none, 0, z, (RS.nilF _ encSpan encSpan_len), z⟩
  ·refine TC.skip (S.n (TC.a (TL.w z (loadAll z ag32 sz32 z (i := 1) z z) (TL.w z (buildL z pl64 ze64 z) (TL.w z (makeFn z) (TL.w z (moveFn (.inr z) z) (TL.en (TC.seq (TC.a (TL.w z (fieldLoc z fo32_4 z) (TL.w z (loadLoc z ag4 z (i := 1) z z) (TL.en (TC.cB z hh (fun h108 hh => ?_) (fun h108 hh => ?_))))))))))))))
   ·refine TC.region (TL.w z (loadAll z ag32 sz32 z (i := 1) z z) (TL.w z (buildL z pl64 ze64 z) (TL.w z (makeFn z) (TL.w z (moveFn (.inr z) z) (TL.en (TC.a (TL.op z (OpOk.alloc z ze70 z z (fun b109 => ?_)))))))))
    refine TL.asH (H' := [Res.cells b109 #[badV false b109, .slice none 0 0, .slice none 0 0] 70, Res.cells b103 #[.string (bs ([] : List UInt8)), .slice none 0 0] 36, Res.cells b101 #[.slice a0_0 x0.of.cls.length c0_0, .slice a0_1 x0.of.next.length c0_1, .slice a0_2 x0.of.fin.length c0_2, .slice a0_3 x0.left.cls.length c0_3, .slice a0_4 x0.left.next.length c0_4, .slice a0_5 x0.left.fin.length c0_5, .slice a0_6 x0.right.cls.length c0_6, .slice a0_7 x0.right.next.length c0_7, .slice a0_8 x0.right.fin.length c0_8, .string (bs x0.out), .bool x0.mapped, .string (bs x0.by'.front), .slice a0_9 x0.by'.next.length c0_9, .slice a0_10 x0.by'.outs.length c0_10, .slice a0_11 x0.by'.fin.length c0_11, .slice a0_12 x0.by'.tail.length c0_12] 32]) z (TL.en (TC.a (TL.i z z (TL.en (TC.seq (TC.a (TL.s z z (TL.w z (lenC z underlying34 z) (TL.i z z (TL.en (TC.block (TC.nilS 5 1 encU8 (TC.nilS 56 2 encSpan (TC.loopG (α := ((List UInt8) × (List Span) × Int × Nat) × (Bool × (Option Addr) × Nat × (Option Addr) × Nat)) (rgs [(5, 1), (10, 1), (12, 3), (44, 34)]) (fun g => [(10, .int .i64 g.1.2.2.1), (44, .int .i64 ((g.1.2.2.2 : Nat) : Int))]) (fun g => [Res.cells b103 #[.string (bs ([] : List UInt8)), .slice none 0 0] 36, Res.cells b109 #[badV g.2.1 b109, .slice g.2.2.1 g.1.1.length g.2.2.2.1, .slice g.2.2.2.2.1 g.1.2.1.length g.2.2.2.2.2] 70, Res.rowS 5 1 encU8 (.slice g.2.2.1 g.1.1.length g.2.2.2.1) g.1.1, Res.rowS 56 2 encSpan (.slice g.2.2.2.2.1 g.1.2.1.length g.2.2.2.2.2) g.1.2.1]) (fun g => τ106) (fun g => iter (fun q : (List UInt8) × (List Span) × Int × Nat => rewrite_Turn_b1 v17 x1 x0 q.1 q.2.1 q.2.2.1 q.2.2.2) g.1 = some r) (fun g => rounds (fun q : (List UInt8) × (List Span) × Int × Nat => rewrite_Turn_b1 v17 x1 x0 q.1 q.2.1 q.2.2.1 q.2.2.2) g.1) ((([] : List UInt8), ([] : List Span), 0, 0), (false, none, 0, none, 0)) (Sub.f [1, 2, 3] 4) z (by repeat (first | exact trivial | refine ⟨z, ?_⟩)) hh (fun g1 j1 hg1 => ?_)))))))))))))))
    obtain ⟨⟨l135, l139, i142, k143⟩, ⟨u133, a136, c137, a140, c141⟩⟩ := g1
    have hh := hg1; clear hg1
    try dsimp only
    obtain ⟨z1, hh, hR1⟩ := iter_e hh
    dsimp only [rewrite_Turn_b1] at hh
    refine TC.isSl (i := 2) z (fun _ hb146 _ => ?_)
    refine TC.isSl (i := 3) z (fun _ hb147 _ => ?_)
    refine TC.a (TL.w z (OpVal.lss z z z) (TL.en (TC.seq (TC.cD z hh (fun h148 hh => ?_) (fun h148 hh => ?_)))))
    ·refine TC.skip (S.n (TC.cutG (α := ((List UInt8) × (List Span)) × (Bool × (Option Addr) × Nat × (Option Addr) × Nat)) (rgs [(5, 1), (10, 1), (12, 3), (46, 31)]) (fun g => [(10, .int .i64 ((nth v17.1 k143 Span.zero).to))]) (fun g => [Res.cells b103 #[.string (bs ([] : List UInt8)), .slice none 0 0] 36, Res.cells b109 #[badV g.2.1 b109, .slice g.2.2.1 g.1.1.length g.2.2.2.1, .slice g.2.2.2.2.1 g.1.2.length g.2.2.2.2.2] 70, Res.rowS 5 1 encU8 (.slice g.2.2.1 g.1.1.length g.2.2.2.1) g.1.1, Res.rowS 56 2 encSpan (.slice g.2.2.2.2.1 g.1.2.length g.2.2.2.2.2) g.1.2]) (fun g => τ106) (fun g => rewrite_Turn_j1 v17 k143 g.1.1 g.1.2 = some z1) ?_ (fun g j hg => ?_)))
     ·skip
      refine TC.block (TC.a (TL.w z (indexN z underlying34 sz56 z z hr106_0.rv.sl (by omega)) (TL.w z (loadSA Span.zero z ag56 sz56 z hr106_0 (by omega) (by omega)) (TL.op z (OpOk.alloc z ze56 z z (fun b158 => ?_))))))
      refine TL.op z (storeAll z sz56 z z z z z z ?_)
      refine TL.en (TC.a (TL.w z (moveStr (.inl z) z) (TL.i z z (TL.w z (fieldLoc z fo56_0 z) (TL.w z (loadLoc z ag3 z (i := 0) z z) (TL.w z (buildL z pl56 ze56 z) (TL.front 4 z z (TL.front 4 z z (TL.front 4 z z ?_)))))))))
      obtain ⟨v54, u54, hh⟩ := bnd_e hh
      refine TL.op z (OpOk.call (rewrite_turned_stay_con u54) z z pf30 z z z z ?_)
      rintro _ _ _ hle160 ⟨u160_1, a160_2, c160_3, a160_4, c160_5, rfl, rfl, rfl⟩
      refine TL.en (TC.a (TL.w z (fieldLoc z fo56_1 z) (TL.w z (loadLoc z ag3 z (i := 3) z z) (TL.i z z (TL.en (TC.a (TL.w z (moveFn (.inl z) z) (TL.w z (moveStr (.inl z) z) (TL.w z (fieldLoc z fo56_0 z) (TL.w z (loadLoc z ag3 z (i := 3) z z) (TL.w z (fieldLoc z fo56_1 z) (TL.w z (loadLoc z ag3 z (i := 3) z z) ?_))))))))))))
      have u64 := grd_c hh
      replace hh := grd_t hh
      refine TL.w rfl (sliceBs (l := x1) (i := ((nth v17.1 k143 Span.zero).frm).toNat) (j := ((nth v17.1 k143 Span.zero).to).toNat) rfl underlying9 rfl (by show Value.int _ _ = _; rw [Int.toNat_of_nonneg (by omega)]) (by show Value.int _ _ = _; rw [Int.toNat_of_nonneg (by omega)]) (by omega) (by omega)) ?_
      obtain ⟨v65, u65, hh⟩ := bnd_e hh
      refine TL.op z (callP (rewrite_how_by_con (x0 := (⟨x0⟩ : How)) f0_0 f0_1 f0_2 f0_3 f0_4 f0_5 f0_6 f0_7 f0_8 f0_9 f0_10 f0_11 f0_12 u65) z z pf29 z z z ?_)
      refine TL.w z (moveT (.inl z) z) (TL.w z (OpVal.extract z z z) (TL.w z (OpVal.extract z z z) (TL.w z (moveStr (.inr z) z) (TL.j z z (TL.en (TC.a (TL.j z z (TL.w z (OpVal.not z z) (TL.en (TC.cB z hh (fun h163 hh => ?_) (fun h163 hh => ?_)))))))))))
      ·refine TC.region (TL.w z (moveStr (.inl z) z) (TL.w z (loadAll z ag56 sz56 z (i := 3) z z) (TL.front 2 z z (TL.front 2 z z (TL.front 2 z z ?_)))))
       obtain ⟨v75, u75, hh⟩ := bnd_e hh
       refine TL.op z (OpOk.call (rewrite_turned_stay_con u75) z z pf30 z z z z ?_)
       rintro _ _ _ hle164 ⟨u164_1, a164_2, c164_3, a164_4, c164_5, rfl, rfl, rfl⟩
       exact TL.nil (B.n (S.n (cf ((v75.b.buf, v75.at'), (u164_1, a164_2, c164_3, a164_4, c164_5)) hh (Sub.f [2, 2, 2, 4] 4))))
      ·refine TC.a (TL.w z (moveStr (.inl z) z) (TL.w z (loadAll z ag56 sz56 z (i := 3) z z) (TL.front 2 z z (TL.front 2 z z (TL.front 2 z z ?_)))))
       obtain ⟨v78, u78, hh⟩ := bnd_e hh
       refine TL.op z (OpOk.call (rewrite_turned_put_con u78) z z pf31 z z z z ?_)
       rintro _ _ _ hle167 ⟨u167_1, a167_2, c167_3, a167_4, c167_5, rfl, rfl, rfl⟩
       refine TL.w z (OpVal.not z z) (TL.en (TC.cB z hh (fun h170 hh => ?_) (fun h170 hh => ?_)))
       ·refine TC.a (TL.w z (buildL z pl36 ze36 z) (TL.front 4 z z (TL.op z (storeAll z sz36 z z z z z z ?_))))
        refine TL.i z z (TL.en (TC.rt 1 (B.r (S.r (S.r ?_)))))
        replace hh := fin_x hR1 hh
        refine B.r (S.r ?_)
        obtain rfl := so hh
        exact ro [] z (RVs.agg ag36 sz36 z (i := 0) z z (RVs.tmp z RVs.nil)) ⟨none, 0, z, (RS.nilF _ encSpan encSpan_len), z⟩
       ·exact TC.skip (B.n (S.n (cf ((v78.2.b.buf, v78.2.at'), (u167_1, a167_2, c167_3, a167_4, c167_5)) hh (Sub.f [2, 2, 2, 4] 4))))
     ·skip
      obtain ⟨⟨l151, l155⟩, ⟨u149, a152, c153, a156, c157⟩⟩ := g
      have hh := hg; clear hg
      try dsimp only
      dsimp only [rewrite_Turn_j1] at hh
      refine TC.isSl (i := 2) z (fun _ hb171 _ => ?_)
      refine TC.isSl (i := 3) z (fun _ hb172 _ => ?_)
      refine TC.region (TL.w z (OpVal.succ z z z (by omega)) (TL.i z z (TL.en ?_)))
      obtain ⟨hh, hlt173⟩ := nxt_x hR1 hh
      exact lf ((l151, l155, ((nth v17.1 k143 Span.zero).to), (k143 + 1)), (u149, a152, c153, a156, c157)) hlt173 hh (Sub.f [3, 3, 3, 3] 4)
    ·refine TC.exit (S.x (S.x ?_))
     replace hh := fin_x hR1 hh
     refine TC.exitHere (S.n (TC.a (TL.w z (moveStr (.inl z) z) (TL.i z z (TL.w z (moveStr (.inl z) z) (TL.w z (lenBs z underlying9 z) (TL.w z (buildL z pl56 ze56 z) (TL.front 3 z z (TL.front 3 z z (TL.front 3 z z ?_))))))))))
     obtain ⟨v90, u90, hh⟩ := bnd_e hh
     refine TL.op z (OpOk.call (rewrite_turned_stay_con u90) z z pf30 z z z z ?_)
     rintro _ _ _ hle174 ⟨u174_1, a174_2, c174_3, a174_4, c174_5, rfl, rfl, rfl⟩
     refine TL.en (TC.seq (TC.a (TL.w z (fieldLoc z fo70_0 z) (TL.front 2 z z (TL.front 2 z z (TL.front 2 z z ?_))))))
     obtain ⟨v92, u92, hh⟩ := bnd_e hh
     refine TL.op z (OpOk.call (lenU_con u92) z z pf32 z z z z ?_)
     rintro _ _ _ hle177 ⟨rfl, rfl, rfl⟩
     refine TL.w z (OpVal.gtr z z z) (TL.en (TC.cD z hh (fun h178 hh => ?_) (fun h178 hh => ?_)))
     ·refine TC.a (TL.w z (buildL z pl36 ze36 z) (TL.front 3 z z (TL.op z (storeAll z sz36 z z z z z z ?_))))
      refine TL.i z z (TL.en (TC.rt 1 (S.r ?_)))
      obtain rfl := so hh
      exact ro [] z (RVs.agg ag36 sz36 z (i := 0) z z (RVs.tmp z RVs.nil)) ⟨none, 0, z, (RS.nilF _ encSpan encSpan_len), z⟩
     ·refine TC.skip (S.n (TC.a (TL.front 2 z z (TL.front 2 z z (TL.front 2 z z ?_)))))
      obtain ⟨v97, u97, hh⟩ := bnd_e hh
      refine TL.op z (OpOk.call (rewrite_turned_piece_con u97) z z pf33 z z z z ?_)
      rintro _ τ179 _ hle179 ⟨a179_1, c179_2, rfl, hr179_3, rfl⟩
      replace f0_0 := f0_0.mono hle179
      replace f0_1 := f0_1.mono hle179
      replace f0_2 := f0_2.mono hle179
      replace f0_3 := f0_3.mono hle179
      replace f0_4 := f0_4.mono hle179
      replace f0_5 := f0_5.mono hle179
      replace f0_6 := f0_6.mono hle179
      replace f0_7 := f0_7.mono hle179
      replace f0_8 := f0_8.mono hle179
      replace f0_9 := f0_9.mono hle179
      replace f0_10 := f0_10.mono hle179
      replace f0_11 := f0_11.mono hle179
      replace f0_12 := f0_12.mono hle179
      replace hr106_0 := hr106_0.mono hle179
      have hr179_3b := hr179_3.rv.big
      refine TL.op z (storeAll z sz36 z z z z z z ?_)
      refine TL.i z z (TL.en (TC.ret ?_))
      obtain rfl := so hh
      exact ro [] z (RVs.agg ag36 sz36 z (i := 0) z z (RVs.tmp z RVs.nil)) ⟨a179_1, c179_2, z, hr179_3, z⟩
   ·refine TC.skip (S.n (TC.a (TL.op z (OpOk.alloc z ze70 z z (fun b180 => ?_)))))
    refine TL.asH (H' := [Res.cells b180 #[badV false b180, .slice none 0 0, .slice none 0 0] 70, Res.cells b103 #[.string (bs ([] : List UInt8)), .slice none 0 0] 36, Res.cells b101 #[.slice a0_0 x0.of.cls.length c0_0, .slice a0_1 x0.of.next.length c0_1, .slice a0_2 x0.of.fin.length c0_2, .slice a0_3 x0.left.cls.length c0_3, .slice a0_4 x0.left.next.length c0_4, .slice a0_5 x0.left.fin.length c0_5, .slice a0_6 x0.right.cls.length c0_6, .slice a0_7 x0.right.next.length c0_7, .slice a0_8 x0.right.fin.length c0_8, .string (bs x0.out), .bool x0.mapped, .string (bs x0.by'.front), .slice a0_9 x0.by'.next.length c0_9, .slice a0_10 x0.by'.outs.length c0_10, .slice a0_11 x0.by'.fin.length c0_11, .slice a0_12 x0.by'.tail.length c0_12] 32]) z (TL.en (TC.a (TL.i z z (TL.en (TC.seq (TC.a (TL.s z z (TL.w z (lenC z underlying34 z) (TL.i z z (TL.en (TC.block (TC.nilS 5 1 encU8 (TC.nilS 56 2 encSpan (TC.loopG (α := ((List UInt8) × (List Span) × Int × Nat) × (Bool × (Option Addr) × Nat × (Option Addr) × Nat)) (rgs [(5, 1), (10, 1), (12, 3), (44, 34)]) (fun g => [(10, .int .i64 g.1.2.2.1), (44, .int .i64 ((g.1.2.2.2 : Nat) : Int))]) (fun g => [Res.cells b103 #[.string (bs ([] : List UInt8)), .slice none 0 0] 36, Res.cells b180 #[badV g.2.1 b180, .slice g.2.2.1 g.1.1.length g.2.2.2.1, .slice g.2.2.2.2.1 g.1.2.1.length g.2.2.2.2.2] 70, Res.rowS 5 1 encU8 (.slice g.2.2.1 g.1.1.length g.2.2.2.1) g.1.1, Res.rowS 56 2 encSpan (.slice g.2.2.2.2.1 g.1.2.1.length g.2.2.2.2.2) g.1.2.1]) (fun g => τ106) (fun g => iter (fun q : (List UInt8) × (List Span) × Int × Nat => rewrite_Turn_b2 v17 x1 x0 q.1 q.2.1 q.2.2.1 q.2.2.2) g.1 = some r) (fun g => rounds (fun q : (List UInt8) × (List Span) × Int × Nat => rewrite_Turn_b2 v17 x1 x0 q.1 q.2.1 q.2.2.1 q.2.2.2) g.1) ((([] : List UInt8), ([] : List Span), 0, 0), (false, none, 0, none, 0)) (Sub.f [1, 2, 3] 4) z (by repeat (first | exact trivial | refine ⟨z, ?_⟩)) hh (fun g2 j2 hg2 => ?_)))))))))))))))
    obtain ⟨⟨l206, l210, i213, k214⟩, ⟨u204, a207, c208, a211, c212⟩⟩ := g2
    have hh := hg2; clear hg2
    try dsimp only
    obtain ⟨z1, hh, hR1⟩ := iter_e hh
    dsimp only [rewrite_Turn_b2] at hh
    refine TC.isSl (i := 2) z (fun _ hb217 _ => ?_)
    refine TC.isSl (i := 3) z (fun _ hb218 _ => ?_)
    refine TC.a (TL.w z (OpVal.lss z z z) (TL.en (TC.seq (TC.cD z hh (fun h219 hh => ?_) (fun h219 hh => ?_)))))
    ·refine TC.skip (S.n (TC.cutG (α := ((List UInt8) × (List Span)) × (Bool × (Option Addr) × Nat × (Option Addr) × Nat)) (rgs [(5, 1), (10, 1), (12, 3), (46, 31)]) (fun g => [(10, .int .i64 ((nth v17.1 k214 Span.zero).to))]) (fun g => [Res.cells b103 #[.string (bs ([] : List UInt8)), .slice none 0 0] 36, Res.cells b180 #[badV g.2.1 b180, .slice g.2.2.1 g.1.1.length g.2.2.2.1, .slice g.2.2.2.2.1 g.1.2.length g.2.2.2.2.2] 70, Res.rowS 5 1 encU8 (.slice g.2.2.1 g.1.1.length g.2.2.2.1) g.1.1, Res.rowS 56 2 encSpan (.slice g.2.2.2.2.1 g.1.2.length g.2.2.2.2.2) g.1.2]) (fun g => τ106) (fun g => rewrite_Turn_j2 v17 k214 g.1.1 g.1.2 = some z1) ?_ (fun g j hg => ?_)))
     ·skip
      refine TC.block (TC.a (TL.w z (indexN z underlying34 sz56 z z hr106_0.rv.sl (by omega)) (TL.w z (loadSA Span.zero z ag56 sz56 z hr106_0 (by omega) (by omega)) (TL.op z (OpOk.alloc z ze56 z z (fun b229 => ?_))))))
      refine TL.op z (storeAll z sz56 z z z z z z ?_)
      refine TL.en (TC.a (TL.w z (moveStr (.inl z) z) (TL.i z z (TL.w z (fieldLoc z fo56_0 z) (TL.w z (loadLoc z ag3 z (i := 0) z z) (TL.w z (buildL z pl56 ze56 z) (TL.front 4 z z (TL.front 4 z z (TL.front 4 z z ?_)))))))))
      obtain ⟨v54, u54, hh⟩ := bnd_e hh
      refine TL.op z (OpOk.call (rewrite_turned_stay_con u54) z z pf30 z z z z ?_)
      rintro _ _ _ hle231 ⟨u231_1, a231_2, c231_3, a231_4, c231_5, rfl, rfl, rfl⟩
      refine TL.en (TC.a (TL.w z (fieldLoc z fo56_1 z) (TL.w z (loadLoc z ag3 z (i := 3) z z) (TL.i z z (TL.en (TC.a (TL.w z (moveFn (.inl z) z) (TL.w z (moveStr (.inl z) z) (TL.w z (fieldLoc z fo56_0 z) (TL.w z (loadLoc z ag3 z (i := 3) z z) (TL.w z (fieldLoc z fo56_1 z) (TL.w z (loadLoc z ag3 z (i := 3) z z) ?_))))))))))))
      have u64 := grd_c hh
      replace hh := grd_t hh
      refine TL.w rfl (sliceBs (l := x1) (i := ((nth v17.1 k214 Span.zero).frm).toNat) (j := ((nth v17.1 k214 Span.zero).to).toNat) rfl underlying9 rfl (by show Value.int _ _ = _; rw [Int.toNat_of_nonneg (by omega)]) (by show Value.int _ _ = _; rw [Int.toNat_of_nonneg (by omega)]) (by omega) (by omega)) ?_
      obtain ⟨v65, u65, hh⟩ := bnd_e hh
      refine TL.op z (callP (rewrite_how_out_con (x0 := (⟨x0⟩ : How)) f0_0 f0_1 f0_2 f0_3 f0_4 f0_5 f0_6 f0_7 f0_8 f0_9 f0_10 f0_11 f0_12 u65) z z pf28 z z z ?_)
      refine TL.w z (moveT (.inl z) z) (TL.w z (OpVal.extract z z z) (TL.w z (OpVal.extract z z z) (TL.w z (moveStr (.inr z) z) (TL.j z z (TL.en (TC.a (TL.j z z (TL.w z (OpVal.not z z) (TL.en (TC.cB z hh (fun h234 hh => ?_) (fun h234 hh => ?_)))))))))))
      ·refine TC.region (TL.w z (moveStr (.inl z) z) (TL.w z (loadAll z ag56 sz56 z (i := 3) z z) (TL.front 2 z z (TL.front 2 z z (TL.front 2 z z ?_)))))
       obtain ⟨v75, u75, hh⟩ := bnd_e hh
       refine TL.op z (OpOk.call (rewrite_turned_stay_con u75) z z pf30 z z z z ?_)
       rintro _ _ _ hle235 ⟨u235_1, a235_2, c235_3, a235_4, c235_5, rfl, rfl, rfl⟩
       exact TL.nil (B.n (S.n (cf ((v75.b.buf, v75.at'), (u235_1, a235_2, c235_3, a235_4, c235_5)) hh (Sub.f [2, 2, 2, 4] 4))))
      ·refine TC.a (TL.w z (moveStr (.inl z) z) (TL.w z (loadAll z ag56 sz56 z (i := 3) z z) (TL.front 2 z z (TL.front 2 z z (TL.front 2 z z ?_)))))
       obtain ⟨v78, u78, hh⟩ := bnd_e hh
       refine TL.op z (OpOk.call (rewrite_turned_put_con u78) z z pf31 z z z z ?_)
       rintro _ _ _ hle238 ⟨u238_1, a238_2, c238_3, a238_4, c238_5, rfl, rfl, rfl⟩
       refine TL.w z (OpVal.not z z) (TL.en (TC.cB z hh (fun h241 hh => ?_) (fun h241 hh => ?_)))
       ·refine TC.a (TL.w z (buildL z pl36 ze36 z) (TL.front 4 z z (TL.op z (storeAll z sz36 z z z z z z ?_))))
        refine TL.i z z (TL.en (TC.rt 1 (B.r (S.r (S.r ?_)))))
        replace hh := fin_x hR1 hh
        refine B.r (S.r ?_)
        obtain rfl := so hh
        exact ro [] z (RVs.agg ag36 sz36 z (i := 0) z z (RVs.tmp z RVs.nil)) ⟨none, 0, z, (RS.nilF _ encSpan encSpan_len), z⟩
       ·exact TC.skip (B.n (S.n (cf ((v78.2.b.buf, v78.2.at'), (u238_1, a238_2, c238_3, a238_4, c238_5)) hh (Sub.f [2, 2, 2, 4] 4))))
     ·skip
      obtain ⟨⟨l222, l226⟩, ⟨u220, a223, c224, a227, c228⟩⟩ := g
      have hh := hg; clear hg
      try dsimp only
      dsimp only [rewrite_Turn_j2] at hh
      refine TC.isSl (i := 2) z (fun _ hb242 _ => ?_)
      refine TC.isSl (i := 3) z (fun _ hb243 _ => ?_)
      refine TC.region (TL.w z (OpVal.succ z z z (by omega)) (TL.i z z (TL.en ?_)))
      obtain ⟨hh, hlt244⟩ := nxt_x hR1 hh
      exact lf ((l222, l226, ((nth v17.1 k214 Span.zero).to), (k214 + 1)), (u220, a223, c224, a227, c228)) hlt244 hh (Sub.f [3, 3, 3, 3] 4)
    ·refine TC.exit (S.x (S.x ?_))
     replace hh := fin_x hR1 hh
     refine TC.exitHere (S.n (TC.a (TL.w z (moveStr (.inl z) z) (TL.i z z (TL.w z (moveStr (.inl z) z) (TL.w z (lenBs z underlying9 z) (TL.w z (buildL z pl56 ze56 z) (TL.front 3 z z (TL.front 3 z z (TL.front 3 z z ?_))))))))))
     obtain ⟨v90, u90, hh⟩ := bnd_e hh
     refine TL.op z (OpOk.call (rewrite_turned_stay_con u90) z z pf30 z z z z ?_)
     rintro _ _ _ hle245 ⟨u245_1, a245_2, c245_3, a245_4, c245_5, rfl, rfl, rfl⟩
     refine TL.en (TC.seq (TC.a (TL.w z (fieldLoc z fo70_0 z) (TL.front 2 z z (TL.front 2 z z (TL.front 2 z z ?_))))))
     obtain ⟨v92, u92, hh⟩ := bnd_e hh
     refine TL.op z (OpOk.call (lenU_con u92) z z pf32 z z z z ?_)
     rintro _ _ _ hle248 ⟨rfl, rfl, rfl⟩
     refine TL.w z (OpVal.gtr z z z) (TL.en (TC.cD z hh (fun h249 hh => ?_) (fun h249 hh => ?_)))
     ·refine TC.a (TL.w z (buildL z pl36 ze36 z) (TL.front 3 z z (TL.op z (storeAll z sz36 z z z z z z ?_))))
      refine TL.i z z (TL.en (TC.rt 1 (S.r ?_)))
      obtain rfl := so hh
      exact ro [] z (RVs.agg ag36 sz36 z (i := 0) z z (RVs.tmp z RVs.nil)) ⟨none, 0, z, (RS.nilF _ encSpan encSpan_len), z⟩
     ·refine TC.skip (S.n (TC.a (TL.front 2 z z (TL.front 2 z z (TL.front 2 z z ?_)))))
      obtain ⟨v97, u97, hh⟩ := bnd_e hh
      refine TL.op z (OpOk.call (rewrite_turned_piece_con u97) z z pf33 z z z z ?_)
      rintro _ τ250 _ hle250 ⟨a250_1, c250_2, rfl, hr250_3, rfl⟩
      have hr250_3b := hr250_3.rv.big
      refine TL.op z (storeAll z sz36 z z z z z z ?_)
      refine TL.i z z (TL.en (TC.ret ?_))
      obtain rfl := so hh
      exact ro [] z (RVs.agg ag36 sz36 z (i := 0) z z (RVs.tmp z RVs.nil)) ⟨a250_1, c250_2, z, hr250_3, z⟩

end Go.Proofs.YtmfclggfajopkaaGreatDoor
end

/- R8 -/
section
/- Decompiled: what laws on rules need. -/
set_option linter.unusedVariables false
set_option linter.unusedSimpArgs false
namespace Go.Proofs.YtmfclggfajopkaaGreatDoor
open Go Go.E Go.E.OpVal Go.E.OpOk
set_option maxRecDepth 100000
private theorem fo36_0 : Go.E.foOf Tryz.prog 36 0 = some 0 := by kernel_rfl
private theorem fo36_1 : Go.E.foOf Tryz.prog 36 1 = some 1 := by kernel_rfl
private theorem pf45 : Go.E.plainF Tryz.prog 45 = true := by kernel_rfl
noncomputable def whittleref24_Same (x0 : Piece) (x1 : Piece) : Option (Bool) :=
 iteO (decide (x0.text = x1.text)) (bnd (whittleref04_Same x0.at' x1.at') (fun v14 => some v14)) (some false)
theorem whittleref24_Same_con {σ : Store} {x0 : Piece} {a0_0 : Option Addr} {c0_0 : Nat} {x1 : Piece} {a1_0 : Option Addr} {c1_0 : Nat} (f0_0 : RS σ 2 encSpan (.slice a0_0 x0.at'.length c0_0) x0.at') (f1_0 : RS σ 2 encSpan (.slice a1_0 x1.at'.length c1_0) x1.at') {r : Bool} (hh : whittleref24_Same x0 x1 = some r) :
  Con Tryz.prog 15 #[.agg #[.string (bs x0.text), .slice a0_0 x0.at'.length c0_0], .agg #[.string (bs x1.text), .slice a1_0 x1.at'.length c1_0]] σ [] (PureP (.bool r) σ) := by
 dsimp only [whittleref24_Same] at hh
 have f0_0b := f0_0.rv.big
 have f1_0b := f1_0.rv.big
 refine Con.mk (n := 17) Tryz.func15 z z z (fun w0 => ?_)
 refine TC.a (TL.op z (boxA z z z z (fun b101 => ?_)))
 refine TL.op z (boxA z z z z (fun b103 => ?_))
 refine TL.j z z (TL.en (TC.a (TL.w z (fieldLoc z fo36_0 z) (TL.w z (loadLoc z ag9 z (i := 1) z z) (TL.w z (fieldLoc z fo36_0 z) (TL.w z (loadLoc z ag9 z (i := 0) z z) (TL.w z (eqlBs z z z) (TL.j z z (TL.split 10 z (fun h105 => ?_) (fun h105 => ?_))))))))))
 ·replace hh := iteO_t h105 hh
  replace h105 := of_decide_eq_true h105
  refine TL.g z (fieldLoc z fo36_1 z) (TL.g z (loadLoc z ag34 z (i := 1) z z) (TL.g z (fieldLoc z fo36_1 z) (TL.g z (loadLoc z ag34 z (i := 0) z z) ?_)))
  obtain ⟨v14, u14, hh⟩ := bnd_e hh
  refine TL.gon z z z z z (callP (whittleref04_Same_con f0_0 f1_0 u14) z z pf45 z z z ?_)
  refine TL.w z (pickTB z z z) (TL.j z z (TL.en (TC.rt 0 ?_)))
  obtain rfl := so hh
  exact rq [4] ⟨z, z, z⟩
 ·replace hh := iteO_f h105 hh
  replace h105 := of_decide_eq_false h105
  refine TL.f z (TL.f z (TL.f z (TL.f z (TL.f z (TL.w z (pickFB z z z) (TL.j z z (TL.en (TC.rt 0 ?_))))))))
  obtain rfl := so hh
  exact rq [4] ⟨z, z, z⟩

end Go.Proofs.YtmfclggfajopkaaGreatDoor
end

/- Dec13 -/
section
/- A part of a slice that is only read, by both its ends. Plain lemmas over any program; no condition. -/
set_option linter.unusedVariables false
set_option linter.unusedSimpArgs false
namespace Go.E
open Go
section
variable {α : Type} {σ : Store} {size m c : Nat} {enc : α → List Value} {a : Option Addr} {l : List α}
theorem RS.takeF (h : RS σ size enc (.slice a m c) l) (j : Nat) (hj : j ≤ l.length) : RS σ size enc (.slice a (l.take j).length c) (l.take j) := by
  have hlj : (l.take j).length = j := by rw [List.length_take]; omega
  obtain ⟨a1, c1, hv, hn, hc⟩ := h.rv.sl
  cases hv
  rw [hlj]
  refine ⟨⟨⟨a, c, by rw [hlj], fun ha => ?_, by omega⟩, by rw [flatMap_len h.len], ?_, fun u hu => h.rv.one u (by rw [take_flat h.len] at hu; exact List.mem_of_mem_take hu), by have := h.rv.big; omega⟩, h.len⟩
  · obtain ⟨h1, h2⟩ := hn ha; exact ⟨by omega, h2⟩
  · intro ad m' c' hv i u hi
    cases hv
    rw [take_flat h.len, List.getElem?_take] at hi
    split at hi
    · exact h.rv.cell ad _ c rfl i u hi
    · cases hi
theorem RS.dropF (h : RS σ size enc (.slice a m c) l) (i : Nat) (hi : i ≤ l.length) : RS σ size enc (.slice (if c = i then a else a.map (·.add (i * size))) (l.drop i).length (c - i)) (l.drop i) := by
  have hlj : (l.drop i).length = l.length - i := by rw [List.length_drop]
  obtain ⟨a1, c1, hv, hn, hc⟩ := h.rv.sl
  cases hv
  rw [hlj]
  refine ⟨⟨⟨_, _, by rw [hlj], fun ha => ?_, by omega⟩, by rw [flatMap_len h.len], ?_, fun u hu => h.rv.one u (by rw [drop_flat h.len] at hu; exact List.mem_of_mem_drop hu), by have := h.rv.big; omega⟩, h.len⟩
  · split at ha
    · obtain ⟨h1, h2⟩ := hn ha; omega
    · cases a with
      | none => obtain ⟨h1, h2⟩ := hn rfl; omega
      | some ad => simp at ha
  · intro ad m' c' hv j u hj
    rw [drop_flat h.len, List.getElem?_drop] at hj
    have hjl := (List.getElem?_eq_some_iff.1 hj).1
    rw [flatMap_len h.len] at hjl
    have hil : i < l.length := by
      rcases Nat.lt_or_ge i l.length with h1 | h1
      · exact h1
      · have := Nat.mul_le_mul_right size h1; omega
    have hci : ¬ c = i := by omega
    rw [if_neg hci] at hv
    cases a with
    | none => simp at hv
    | some a0 =>
      simp only [Option.map_some, Value.slice.injEq, Option.some.injEq] at hv
      obtain ⟨rfl, _⟩ := hv
      rw [add_add]
      exact h.rv.cell a0 _ c rfl _ u hj
theorem RS.sub (h : RS σ size enc (.slice a m c) l) (i j : Nat) (hij : i ≤ j ∧ j ≤ l.length) : ∃ (a' : Option Addr) (c' : Nat), RS σ size enc (.slice a' ((l.take j).drop i).length c') ((l.take j).drop i) ∧
    ∀ {P : Program} {n : Nat} {e : Env} {H : List Res} {o : Oper} {x y z : Operand} {T E : TypeId} {k k' : IntKind} (_ : o.op = .slice T x (some z) (some y) none) (_ : P.underlying T = some (.slice E)) (_ : szOf P E = some size) (_ : ev e x = .slice a m c) (_ : ev e z = .int k (i : Nat)) (_ : ev e y = .int k' (j : Nat)), OpVal P n o e σ H (.slice a' ((l.take j).drop i).length c') := by
  have hlj : (l.take j).length = j := by rw [List.length_take]; omega
  have hll : ((l.take j).drop i).length = j - i := by rw [List.length_drop, hlj]
  refine ⟨_, _, (h.takeF j hij.2).dropF i (by omega), ?_⟩
  obtain ⟨a1, c1, hv, hn, hc⟩ := h.rv.sl
  cases hv
  rw [hll]
  intro P n e H o x y z T E k k' ho hT hs hx hz hy w _
  have hsz := run_sizeOf (P := P) hs
  have hrun : (Instr.slice T (.slice a l.length c) (some (.int k i)) (some (.int k' j)) none).run P w = .ok (.slice (if c = i then a else a.map (·.add (i * size))) (j - i) (c - i)) w := by
    simp [Instr.slice, Instr.sliceBounds, Instr.sliceBound, asIntOf, run_underlying hT, hsz]
    rw [if_pos (show j ≤ c by omega), if_pos hij.1]
  simp [execOp, ho, hx, hz, hy, Instr.sliceAt, run_underlying hT, hrun]
end
end Go.E
end

/- C1 -/
section
/- Decompiled: rules, one behind the other: the program. -/
set_option linter.unusedVariables false
set_option linter.unusedSimpArgs false
namespace Go.Proofs.YtmfclggfajopkaaGreatDoor
open Go Go.E Go.E.OpVal Go.E.OpOk Go.Proofs.Tryz
set_option maxRecDepth 100000
private theorem pf10 : Go.E.plainF Tryz.prog 10 = true := by kernel_rfl
private theorem pf111 : Go.E.plainF Tryz.prog 111 = true := by kernel_rfl
private theorem pf120 : Go.E.plainF Tryz.prog 120 = true := by kernel_rfl
private theorem pf17 : Go.E.plainF Tryz.prog 17 = true := by kernel_rfl
private theorem pf19 : Go.E.plainF Tryz.prog 19 = true := by kernel_rfl
private theorem pf23 : Go.E.plainF Tryz.prog 23 = true := by kernel_rfl
private theorem pf39 : Go.E.plainF Tryz.prog 39 = true := by kernel_rfl
private theorem pf40 : Go.E.plainF Tryz.prog 40 = true := by kernel_rfl
private theorem pf41 : Go.E.plainF Tryz.prog 41 = true := by kernel_rfl
private theorem pf46 : Go.E.plainF Tryz.prog 46 = true := by kernel_rfl
private theorem pf47 : Go.E.plainF Tryz.prog 47 = true := by kernel_rfl
private theorem pf48 : Go.E.plainF Tryz.prog 48 = true := by kernel_rfl
private theorem pf49 : Go.E.plainF Tryz.prog 49 = true := by kernel_rfl
private theorem pf50 : Go.E.plainF Tryz.prog 50 = true := by kernel_rfl
private theorem pf51 : Go.E.plainF Tryz.prog 51 = true := by kernel_rfl
private theorem pf52 : Go.E.plainF Tryz.prog 52 = true := by kernel_rfl
private theorem pf7 : Go.E.plainF Tryz.prog 7 = true := by kernel_rfl
private theorem pf8 : Go.E.plainF Tryz.prog 8 = true := by kernel_rfl
private theorem pf88 : Go.E.plainF Tryz.prog 88 = true := by kernel_rfl
private theorem pf89 : Go.E.plainF Tryz.prog 89 = true := by kernel_rfl
private theorem pf90 : Go.E.plainF Tryz.prog 90 = true := by kernel_rfl
private theorem pf91 : Go.E.plainF Tryz.prog 91 = true := by kernel_rfl
private theorem pl26 : Go.E.plOf Tryz.prog 26 = some #[(0, 1), (1, 1), (2, 1)] := by kernel_rfl
private theorem pl32 : Go.E.plOf Tryz.prog 32 = some #[(0, 3), (3, 3), (6, 3), (9, 1), (10, 1), (11, 5)] := by kernel_rfl
private theorem ze22 : Go.E.zeroOf Tryz.prog 22 = some (.slice none 0 0) := by kernel_rfl
private theorem ze26 : Go.E.zeroOf Tryz.prog 26 = some (.agg #[.slice none 0 0, .slice none 0 0, .slice none 0 0]) := by kernel_rfl
private theorem ze32 : Go.E.zeroOf Tryz.prog 32 = some (.agg #[.slice none 0 0, .slice none 0 0, .slice none 0 0, .slice none 0 0, .slice none 0 0, .slice none 0 0, .slice none 0 0, .slice none 0 0, .slice none 0 0, .string ByteArray.empty, .bool false, .string ByteArray.empty, .slice none 0 0, .slice none 0 0, .slice none 0 0, .slice none 0 0]) := by kernel_rfl
private theorem ze5 : Go.E.zeroOf Tryz.prog 5 = some (.int .u8 0) := by kernel_rfl

noncomputable def cascade_stands_b1 (x0 : Piece) (x1 : Int) (k106 : Nat) : Option ((Nat) ⊕ (Bool)) :=
 iteO (decide (((k106 : Nat) : Int) < ((x0.at'.length : Nat) : Int))) (bnd (span_Check (nth x0.at' k106 Span.zero) x1) (fun v22 => iteO (decide (v22 ≠ 0)) (fin (some false)) (nxt (k106 + 1)))) (fin (some true))
noncomputable def cascade_stands (x0 : Piece) (x1 : Int) : Option (Bool) :=
 iteO (decide (((x0.at'.length : Nat) : Int) ≠ ((x0.text.length : Nat) : Int))) (some false) (iter (fun q : Nat => cascade_stands_b1 x0 x1 q) 0)
theorem cascade_stands_con {σ : Store} {x0 : Piece} {a0_0 : Option Addr} {c0_0 : Nat} {x1 : Int} (f0_0 : RS σ 2 encSpan (.slice a0_0 x0.at'.length c0_0) x0.at') {r : Bool} (hh : cascade_stands x0 x1 = some r) :
  Con Tryz.prog 51 #[.agg #[.string (bs x0.text), .slice a0_0 x0.at'.length c0_0], .int .i64 x1] σ [] (PureP (.bool r) σ) := by
 dsimp only [cascade_stands] at hh
 have f0_0b := f0_0.rv.big
 refine Con.mk (n := 26) Tryz.func51 z z z (fun w0 => ?_)
 refine TC.a (TL.op z (boxA z z z z (fun b101 => ?_)))
 refine TL.j z z (TL.en (TC.seq (TC.a (TL.w z (fieldLoc z fo36_1 z) (TL.w z (loadLoc z ag34 z (i := 0) z z) (TL.w z (lenC z underlying34 z) (TL.w z (fieldLoc z fo36_0 z) (TL.w z (loadLoc z ag9 z (i := 0) z z) (TL.w z (lenBs z underlying9 z) (TL.w z (OpVal.neq z z z) (TL.en (TC.cD z hh (fun h103 hh => ?_) (fun h103 hh => ?_)))))))))))))
 ·refine TC.a (TL.j z z (TL.en (TC.rt 0 (S.r ?_))))
  obtain rfl := so hh
  exact rq [4] ⟨z, z, z⟩
 ·refine TC.skip (S.n (TC.seq (TC.a (TL.w z (fieldLoc z fo36_1 z) (TL.w z (loadLoc z ag34 z (i := 0) z z) (TL.w z (lenC z underlying34 z) (TL.i z z (TL.en (TC.block (TC.loopG (α := (Nat) × (Unit)) (rgs [(4, 1), (6, 1), (17, 9)]) (fun g => [(17, .int .i64 ((g.1 : Nat) : Int))]) (fun g => []) (fun g => σ) (fun g => iter (fun q : Nat => cascade_stands_b1 x0 x1 q) g.1 = some r) (fun g => rounds (fun q : Nat => cascade_stands_b1 x0 x1 q) g.1) (0, ()) (Sub.pre 0 z) z (by repeat (first | exact trivial | refine ⟨z, ?_⟩)) hh (fun g1 j1 hg1 => ?_)))))))))))
  obtain ⟨k106, _⟩ := g1
  have hh := hg1; clear hg1
  try dsimp only
  obtain ⟨z1, hh, hR1⟩ := iter_e hh
  dsimp only [cascade_stands_b1] at hh
  refine TC.a (TL.w z (OpVal.lss z z z) (TL.en (TC.seq (TC.cD z hh (fun h107 hh => ?_) (fun h107 hh => ?_)))))
  ·refine TC.skip (S.n (TC.seq (TC.block (TC.a (TL.w z (indexN z underlying34 sz56 z z f0_0.rv.sl (by omega)) (TL.w z (loadSA Span.zero z ag56 sz56 z f0_0 (by omega) (by omega)) (TL.op z (OpOk.alloc z ze56 z z (fun b108 => ?_)))))))))
   refine TL.op z (storeAll z sz56 z z z z z z ?_)
   refine TL.en (TC.a (TL.w z (loadAll z ag56 sz56 z (i := 0) z z) (TL.i z z ?_)))
   obtain ⟨v22, u22, hh⟩ := bnd_e hh
   refine TL.op z (callP (span_Check_con u22) z z pf23 z z z ?_)
   refine TL.w z (OpVal.neq z z z) (TL.en (TC.cD z hh (fun h110 hh => ?_) (fun h110 hh => ?_)))
   ·refine TC.a (TL.j z z (TL.en (TC.rt 0 (B.r (S.r (S.r ?_))))))
    replace hh := fin_x hR1 hh
    refine B.r (S.r ?_)
    obtain rfl := so hh
    exact rq [4] ⟨z, z, z⟩
   ·refine TC.skip (B.n (S.n (TC.region (TL.w z (OpVal.succ z z z (by omega)) (TL.i z z (TL.en ?_))))))
    obtain ⟨hh, hlt111⟩ := nxt_x hR1 hh
    exact lf ((k106 + 1), ()) hlt111 hh (Sub.pre 0 z)
  ·refine TC.exit (S.x (S.x ?_))
   replace hh := fin_x hR1 hh
   refine TC.exitHere (S.n (TC.a (TL.j z z (TL.en (TC.ret ?_)))))
   obtain rfl := so hh
   exact rq [4] ⟨z, z, z⟩

noncomputable def span_Hull (x0 : Span) (x1 : Span) : Option (Span) :=
 some (⟨(min x0.frm x1.frm), (max x0.to x1.to)⟩ : Span)
theorem span_Hull_con {σ : Store} {x0 : Span} {x1 : Span}  {r : Span} (hh : span_Hull x0 x1 = some r) :
  Con Tryz.prog 120 #[.agg #[.int .i64 x0.frm, .int .i64 x0.to], .agg #[.int .i64 x1.frm, .int .i64 x1.to]] σ [] (PureP (.agg #[.int .i64 r.frm, .int .i64 r.to]) σ) := by
 dsimp only [span_Hull] at hh
 refine Con.mk (n := 16) Tryz.func120 z z z (fun w0 => ?_)
 refine TC.a (TL.op z (boxA z z z z (fun b101 => ?_)))
 refine TL.op z (boxA z z z z (fun b103 => ?_))
 refine TL.op z (OpOk.alloc z ze56 z z (fun b105 => ?_))
 refine TL.en (TC.a (TL.w z (fieldLoc z fo56_0 z) (TL.w z (loadLoc z ag3 z (i := 2) z z) (TL.w z (fieldLoc z fo56_0 z) (TL.w z (loadLoc z ag3 z (i := 1) z z) (TL.w z (minI z z z) (TL.w z (fieldLoc z fo56_1 z) (TL.w z (loadLoc z ag3 z (i := 2) z z) (TL.w z (fieldLoc z fo56_1 z) (TL.w z (loadLoc z ag3 z (i := 1) z z) (TL.w z (maxI z z z) (TL.w z (buildL z pl56 ze56 z) (TL.op z (storeAll z sz56 z z z z z z ?_))))))))))))))
 refine TL.en (TC.rt 1 ?_)
 obtain rfl := so hh
 exact ro [] z (RVs.agg ag56 sz56 z (i := 0) z z RVs.nil) ⟨z, z, z⟩

noncomputable def span_gather_b1 (x1 : List Span) (x112 : Span) (x113 : Span) (k114 : Nat) : Option ((Span × Span × Nat) ⊕ (Span)) :=
 iteO (decide (((k114 : Nat) : Int) < ((x1.length : Nat) : Int))) (bnd (span_Hull x112 (nth x1 k114 Span.zero)) (fun v13 => nxt (v13, x113, (k114 + 1)))) (fin (some x112))
noncomputable def span_gather (x0 : Span) (x1 : List Span) : Option (Span) :=
 iter (fun q : Span × Span × Nat => span_gather_b1 x1 q.1 q.2.1 q.2.2) (x0, (⟨0, 0⟩ : Span), 0)
theorem span_gather_con {σ : Store} {x0 : Span} {x1 : List Span} {a1_0 : Option Addr} {c1_0 : Nat} (f1_0 : RS σ 2 encSpan (.slice a1_0 x1.length c1_0) x1) {r : Span} (hh : span_gather x0 x1 = some r) :
  Con Tryz.prog 111 #[.agg #[.int .i64 x0.frm, .int .i64 x0.to], .slice a1_0 x1.length c1_0] σ [] (PureP (.agg #[.int .i64 r.frm, .int .i64 r.to]) σ) := by
 dsimp only [span_gather] at hh
 have f1_0b := f1_0.rv.big
 refine Con.mk (n := 18) Tryz.func111 z z z (fun w0 => ?_)
 refine TC.a (TL.op z (boxA z z z z (fun b101 => ?_)))
 refine TL.op z (OpOk.alloc z ze56 z z (fun b103 => ?_))
 refine TL.en (TC.seq (TC.a (TL.s z z (TL.w z (lenC z underlying34 z) (TL.i z z (TL.en (TC.block (TC.loopG (α := (Span × Span × Nat) × (Unit)) (rgs [(6, 1), (9, 8)]) (fun g => [(9, .int .i64 ((g.1.2.2 : Nat) : Int))]) (fun g => [Res.cells b101 #[.int .i64 g.1.1.frm, .int .i64 g.1.1.to] 56, Res.cells b103 #[.int .i64 g.1.2.1.frm, .int .i64 g.1.2.1.to] 56]) (fun g => σ) (fun g => iter (fun q : Span × Span × Nat => span_gather_b1 x1 q.1 q.2.1 q.2.2) g.1 = some r) (fun g => rounds (fun q : Span × Span × Nat => span_gather_b1 x1 q.1 q.2.1 q.2.2) g.1) ((x0, (⟨0, 0⟩ : Span), 0), ()) (Sub.f [1] 2) z (by repeat (first | exact trivial | refine ⟨z, ?_⟩)) hh (fun g1 j1 hg1 => ?_)))))))))
 obtain ⟨⟨x112, x113, k114⟩, _⟩ := g1
 have hh := hg1; clear hg1
 try dsimp only
 obtain ⟨z1, hh, hR1⟩ := iter_e hh
 dsimp only [span_gather_b1] at hh
 refine TC.a (TL.w z (OpVal.lss z z z) (TL.en (TC.seq (TC.cD z hh (fun h115 hh => ?_) (fun h115 hh => ?_)))))
 ·refine TC.skip (S.n (TC.seq (TC.block (TC.a (TL.w z (indexN z underlying34 sz56 z z f1_0.rv.sl (by omega)) (TL.w z (loadSA Span.zero z ag56 sz56 z f1_0 (by omega) (by omega)) (TL.op z (OpOk.alloc z ze56 z z (fun b116 => ?_)))))))))
  refine TL.op z (storeAll z sz56 z z z z z z ?_)
  refine TL.en (TC.region (TL.w z (loadAll z ag56 sz56 z (i := 1) z z) (TL.w z (loadAll z ag56 sz56 z (i := 0) z z) ?_)))
  obtain ⟨v13, u13, hh⟩ := bnd_e hh
  refine TL.op z (callP (span_Hull_con u13) z z pf120 z z z ?_)
  refine TL.front 1 z z (TL.op z (storeAll z sz56 z z z z z z ?_))
  refine TL.nil (B.n (S.n (TC.region (TL.w z (OpVal.succ z z z (by omega)) (TL.i z z (TL.en ?_))))))
  obtain ⟨hh, hlt118⟩ := nxt_x hR1 hh
  exact lf ((v13, x113, (k114 + 1)), ()) hlt118 hh (Sub.f [2, 1] 2)
 ·refine TC.exit (S.x (S.x ?_))
  replace hh := fin_x hR1 hh
  refine TC.exitHere (S.n (TC.a (TL.w z (loadAll z ag56 sz56 z (i := 0) z z) (TL.front 1 z z (TL.op z (storeAll z sz56 z z z z z z ?_))))))
  refine TL.en (TC.rt 1 ?_)
  obtain rfl := so hh
  exact ro [] z (RVs.agg ag56 sz56 z (i := 0) z z RVs.nil) ⟨z, z, z⟩

noncomputable def span_All (x0 : List Span) : Option (Span × Int) :=
 iteO (decide (((x0.length : Nat) : Int) = 0)) (some ((⟨0, 0⟩ : Span), 7)) (grd (0 < x0.length) (grd (1 ≤ x0.length ∧ x0.length ≤ x0.length) (bnd (span_gather (nth x0 0 Span.zero) (x0.drop 1)) (fun v14 => some (v14, 0)))))
theorem span_All_con {σ : Store} {x0 : List Span} {a0_0 : Option Addr} {c0_0 : Nat} (f0_0 : RS σ 2 encSpan (.slice a0_0 x0.length c0_0) x0) {r : Span × Int} (hh : span_All x0 = some r) :
  Con Tryz.prog 91 #[.slice a0_0 x0.length c0_0] σ [] (PureP (.tuple #[.agg #[.int .i64 r.1.frm, .int .i64 r.1.to], .int .i64 r.2]) σ) := by
 dsimp only [span_All] at hh
 have f0_0b := f0_0.rv.big
 refine Con.mk (n := 14) Tryz.func91 z z z (fun w0 => ?_)
 refine TC.a (TL.op z (OpOk.alloc z ze56 z z (fun b101 => ?_)))
 refine TL.i z z (TL.en (TC.seq (TC.a (TL.s z z (TL.w z (lenC z underlying34 z) (TL.w z (OpVal.eql z z z) (TL.en (TC.cD z hh (fun h103 hh => ?_) (fun h103 hh => ?_)))))))))
 ·refine TC.a (TL.w z (buildL z pl56 ze56 z) (TL.op z (storeAll z sz56 z z z z z z ?_)))
  refine TL.i z z (TL.en (TC.ret (S.r ?_)))
  obtain rfl := so hh
  exact ro [] z (RVs.agg ag56 sz56 z (i := 0) z z (RVs.tmp z RVs.nil)) ⟨z, z, z⟩
 ·refine TC.skip (S.n (TC.seq ?_))
  have u10 := grd_c hh
  replace hh := grd_t hh
  have u13 := grd_c hh
  replace hh := grd_t hh
  obtain ⟨v14, u14, hh⟩ := bnd_e hh
  refine TC.draw [6, 7] (by kernel_rfl) (TA.a 0 z (moveSl (.inl z) z) z (TA.b 1 z (indexN (i := 0) z underlying34 sz56 z z f0_0.rv.sl (by omega)) z (TA.b 2 z (loadSA Span.zero z ag56 sz56 z f0_0 (by omega) (by omega)) z (TA.a 3 z (moveSl (.inl z) z) z ?_))))
  obtain ⟨a105, c105, hr105, hv105⟩ := f0_0.subL 1 (by omega)
  have hr105b := hr105.rv.big
  refine TA.b 4 z (hv105 z underlying34 sz56 z z) z (TA.ac 5 z (callP (span_gather_con hr105 u14) z z pf111 z z z (k0 ?_)))
  refine TA.last 6 (by kernel_rfl) z z z (storeAll z sz56 z z z z z z ?_)
  refine TZ.v 7 (by kernel_rfl) z z z (moveI (.inr z) z) z z (TZ.done (by kernel_rfl) (S.n (TC.ret ?_)))
  obtain rfl := so hh
  exact ro [] z (RVs.agg ag56 sz56 z (i := 0) z z (RVs.tmp z RVs.nil)) ⟨z, z, z⟩

noncomputable def span_Through_1 (x0 : Span) (x1 : Int) : Option (Bool) :=
 bnd (span_Check x0 x1) (fun v5 => some (decide (v5 = 0)))
theorem span_Through_1_con {σ : Store} {x0 : Span} {x1 : Int} {b1_0 : Nat} {Eb1 : Nat}  {r : Bool} (hh : span_Through_1 x0 x1 = some r) :
  Con Tryz.prog 89 #[.agg #[.int .i64 x0.frm, .int .i64 x0.to], loc b1_0 0] σ [Res.cells b1_0 #[.int .i64 x1] Eb1] (fun v σ' H' => v = .bool r ∧ σ = σ' ∧ H' = [Res.cells b1_0 #[.int .i64 x1] Eb1]) := by
 dsimp only [span_Through_1] at hh
 refine Con.mk (n := 8) Tryz.func89 z z z (fun w0 => ?_)
 refine TC.a (TL.op z (boxA z z z z (fun b102 => ?_)))
 refine TL.j z z (TL.en (TC.a (TL.w z (loadAll z ag56 sz56 z (i := 0) z z) (TL.w z (loadLoc z ag3 z (i := 1) z z) ?_))))
 obtain ⟨v5, u5, hh⟩ := bnd_e hh
 refine TL.op z (callP (span_Check_con u5) z z pf23 z z z ?_)
 refine TL.w z (OpVal.eql z z z) (TL.j z z (TL.en (TC.ofSub (Sub.f [1] 1) (TC.ret ?_))))
 obtain rfl := so hh
 exact ro [Res.cells b1_0 #[.int .i64 x1] Eb1] z (RVs.tmp z RVs.nil) ⟨z, z, z⟩

noncomputable def span_row_api_Span_each_b1 (x0 : List Span) (x1_0 : Int) (k104 : Nat) : Option ((Nat) ⊕ (Bool)) :=
 iteO (decide (((k104 : Nat) : Int) < ((x0.length : Nat) : Int))) (bnd (span_Through_1 (nth x0 k104 Span.zero) x1_0) (fun v12 => iteO (!v12) (fin (some false)) (nxt (k104 + 1)))) (fin (some true))
noncomputable def span_row_api_Span_each (x0 : List Span) (x1_0 : Int) : Option (Bool) :=
 iter (fun q : Nat => span_row_api_Span_each_b1 x0 x1_0 q) 0
theorem span_row_api_Span_each_con {σ : Store} {x0 : List Span} {a0_0 : Option Addr} {c0_0 : Nat} {x1_0 : Int} {b1_0_0 : Nat} {Eb1_0 : Nat} (f0_0 : RS σ 2 encSpan (.slice a0_0 x0.length c0_0) x0) {r : Bool} (hh : span_row_api_Span_each x0 x1_0 = some r) :
  Con Tryz.prog 90 #[.slice a0_0 x0.length c0_0, .func (.func 89) #[] #[loc b1_0_0 0]] σ [Res.cells b1_0_0 #[.int .i64 x1_0] Eb1_0] (fun v σ' H' => v = .bool r ∧ σ = σ' ∧ H' = [Res.cells b1_0_0 #[.int .i64 x1_0] Eb1_0]) := by
 dsimp only [span_row_api_Span_each] at hh
 have f0_0b := f0_0.rv.big
 refine Con.mk (n := 18) Tryz.func90 z z z (fun w0 => ?_)
 refine TC.a (TL.j z z (TL.en (TC.seq (TC.a (TL.s z z (TL.w z (lenC z underlying104 z) (TL.i z z (TL.en (TC.block (TC.loopG (α := (Nat) × (Unit)) (rgs [(4, 1), (6, 1), (9, 9)]) (fun g => [(9, .int .i64 ((g.1 : Nat) : Int))]) (fun g => [Res.cells b1_0_0 #[.int .i64 x1_0] Eb1_0]) (fun g => σ) (fun g => iter (fun q : Nat => span_row_api_Span_each_b1 x0 x1_0 q) g.1 = some r) (fun g => rounds (fun q : Nat => span_row_api_Span_each_b1 x0 x1_0 q) g.1) (0, ()) (Sub.pre 1 z) z (by repeat (first | exact trivial | refine ⟨z, ?_⟩)) hh (fun g1 j1 hg1 => ?_)))))))))))
 obtain ⟨k104, _⟩ := g1
 have hh := hg1; clear hg1
 try dsimp only
 obtain ⟨z1, hh, hR1⟩ := iter_e hh
 dsimp only [span_row_api_Span_each_b1] at hh
 refine TC.a (TL.w z (OpVal.lss z z z) (TL.en (TC.seq (TC.cD z hh (fun h105 hh => ?_) (fun h105 hh => ?_)))))
 ·refine TC.skip (S.n (TC.seq (TC.block (TC.a (TL.w z (indexN z underlying104 sz56 z z f0_0.rv.sl (by omega)) (TL.w z (loadSA Span.zero z ag56 sz56 z f0_0 (by omega) (by omega)) (TL.op z (OpOk.alloc z ze56 z z (fun b106 => ?_)))))))))
  refine TL.op z (storeAll z sz56 z z z z z z ?_)
  refine TL.en (TC.a (TL.w z (moveFn (.inl z) z) (TL.w z (loadAll z ag56 sz56 z (i := 0) z z) (TL.front 1 z z ?_))))
  obtain ⟨v12, u12, hh⟩ := bnd_e hh
  refine TL.op z (OpOk.call (span_Through_1_con u12) z z pf89 z z z z ?_)
  rintro _ _ _ hle108 ⟨rfl, rfl, rfl⟩
  refine TL.w z (OpVal.not z z) (TL.en (TC.cB z hh (fun h109 hh => ?_) (fun h109 hh => ?_)))
  ·refine TC.a (TL.j z z (TL.en (TC.rt 1 (B.r (S.r (S.r ?_))))))
   replace hh := fin_x hR1 hh
   refine B.r (S.r ?_)
   obtain rfl := so hh
   exact ro [Res.cells b1_0_0 #[.int .i64 x1_0] Eb1_0] z (RVs.tmp z RVs.nil) ⟨z, z, z⟩
  ·refine TC.skip (B.n (S.n (TC.region (TL.w z (OpVal.succ z z z (by omega)) (TL.i z z (TL.en ?_))))))
   obtain ⟨hh, hlt110⟩ := nxt_x hR1 hh
   exact lf ((k104 + 1), ()) hlt110 hh (Sub.pre 1 z)
 ·refine TC.exit (S.x (S.x ?_))
  replace hh := fin_x hR1 hh
  refine TC.exitHere (S.n (TC.a (TL.j z z (TL.en (TC.ret ?_)))))
  obtain rfl := so hh
  exact ro [Res.cells b1_0_0 #[.int .i64 x1_0] Eb1_0] z (RVs.tmp z RVs.nil) ⟨z, z, z⟩

noncomputable def span_Through_j1 (x113 : Span) (i114 : Int) : Option (Span × Int) :=
 some ((⟨i114, i114⟩ : Span), 0)
noncomputable def span_Through (x0 : List Span) (x1 : Span) (x2 : Int) : Option (Span × Int) :=
 iteO (decide (x2 < 0)) (some ((⟨0, 0⟩ : Span), 1)) (bnd (span_row_api_Span_each x0 x2) (fun v12 => iteO (!v12) (some ((⟨0, 0⟩ : Span), 1)) (bnd (span_Check x1 ((x0.length : Nat) : Int)) (fun v19 => iteO (decide (v19 ≠ 0)) (some ((⟨0, 0⟩ : Span), 1)) (iteO (decide (x1.frm < x1.to)) (grd (0 ≤ x1.frm ∧ 0 ≤ x1.to ∧ x1.frm.toNat ≤ x1.to.toNat ∧ x1.to.toNat ≤ x0.length) (bnd (span_All ((x0.take x1.to.toNat).drop x1.frm.toNat)) (fun v36 => some (v36.1, v36.2)))) (iteO (decide (0 < x1.frm)) (grd (0 ≤ (IntKind.i64.wrap (x1.frm - 1)) ∧ (IntKind.i64.wrap (x1.frm - 1)) < (x0.length : Int)) (span_Through_j1 (⟨0, 0⟩ : Span) ((nth x0 ((IntKind.i64.wrap (x1.frm - 1)).toNat) Span.zero).to))) (iteO (decide (0 < ((x0.length : Nat) : Int))) (span_Through_j1 (⟨0, 0⟩ : Span) ((nth x0 0 Span.zero).frm)) (span_Through_j1 (⟨0, 0⟩ : Span) 0))))))))
theorem span_Through_con {σ : Store} {x0 : List Span} {a0_0 : Option Addr} {c0_0 : Nat} {x1 : Span} {x2 : Int} (f0_0 : RS σ 2 encSpan (.slice a0_0 x0.length c0_0) x0) {r : Span × Int} (hh : span_Through x0 x1 x2 = some r) :
  Con Tryz.prog 52 #[.slice a0_0 x0.length c0_0, .agg #[.int .i64 x1.frm, .int .i64 x1.to], .int .i64 x2] σ [] (PureP (.tuple #[.agg #[.int .i64 r.1.frm, .int .i64 r.1.to], .int .i64 r.2]) σ) := by
 dsimp only [span_Through] at hh
 have f0_0b := f0_0.rv.big
 refine Con.mk (n := 63) Tryz.func52 z z z (fun w0 => ?_)
 refine TC.a (TL.op z (boxA z z z z (fun b101 => ?_)))
 refine TL.op z (OpOk.box z z z z (fun b103 => ?_))
 refine TL.op z (OpOk.alloc z ze56 z z (fun b105 => ?_))
 refine TL.i z z (TL.en (TC.a (TL.w z (makeFn z) (TL.w z (moveFn (.inr z) z) (TL.en (TC.seq (TC.a (TL.w z (loadLoc z ag3 z (i := 1) z z) (TL.w z (OpVal.lss z z z) (TL.j z z (TL.split 13 z (fun h107 => ?_) (fun h107 => ?_))))))))))))
 ·replace hh := iteO_t h107 hh
  replace h107 := of_decide_eq_true h107
  refine TL.f z (TL.f z (TL.f z (TL.f z (TL.w z (pickTB z z z) (TL.j z z (TL.f z (TL.f z (TL.f z (TL.f z (TL.f z (TL.w z (pickTB z z z) (TL.en (TC.t z (TC.a (TL.w z (buildL z pl56 ze56 z) ?_)))))))))))))))
  refine TL.op z (storeAll z sz56 z z z z z z ?_)
  refine TL.i z z (TL.en (TC.rt 1 (S.r ?_)))
  obtain rfl := so hh
  exact ro [] z (RVs.agg ag56 sz56 z (i := 0) z z (RVs.tmp z RVs.nil)) ⟨z, z, z⟩
 ·replace hh := iteO_f h107 hh
  replace h107 := of_decide_eq_false h107
  refine TL.g z (moveSl (.inl z) z) (TL.g z (moveFn (.inl z) z) (TL.front 1 z z ?_))
  obtain ⟨v12, u12, hh⟩ := bnd_e hh
  refine TL.gon z z z z z (OpOk.call (span_row_api_Span_each_con f0_0 u12) z z pf90 z z z z ?_)
  rintro _ _ _ hle108 ⟨rfl, rfl, rfl⟩
  refine TL.g z (OpVal.not z z) (TL.w z (pickFB z z z) (TL.j z z (TL.split 19 z (fun h109 => ?_) (fun h109 => ?_))))
  ·replace hh := iteO_t h109 hh
   refine TL.f z (TL.f z (TL.f z (TL.f z (TL.f z (TL.w z (pickTB z z z) (TL.en (TC.t z (TC.a (TL.w z (buildL z pl56 ze56 z) (TL.front 1 z z (TL.op z (storeAll z sz56 z z z z z z ?_))))))))))))
   refine TL.i z z (TL.en (TC.rt 1 (S.r ?_)))
   obtain rfl := so hh
   exact ro [] z (RVs.agg ag56 sz56 z (i := 0) z z (RVs.tmp z RVs.nil)) ⟨z, z, z⟩
  ·replace hh := iteO_f h109 hh
   refine TL.g z (loadAll z ag56 sz56 z (i := 2) z z) (TL.g z (moveSl (.inl z) z) (TL.g z (lenC z underlying34 z) ?_))
   obtain ⟨v19, u19, hh⟩ := bnd_e hh
   refine TL.gon z z z z z (callP (span_Check_con u19) z z pf23 z z z ?_)
   refine TL.g z (OpVal.neq z z z) (TL.w z (pickFB z z z) (TL.en (TC.cD z hh (fun h110 hh => ?_) (fun h110 hh => ?_))))
   ·refine TC.a (TL.w z (buildL z pl56 ze56 z) (TL.front 1 z z (TL.op z (storeAll z sz56 z z z z z z ?_))))
    refine TL.i z z (TL.en (TC.rt 1 (S.r ?_)))
    obtain rfl := so hh
    exact ro [] z (RVs.agg ag56 sz56 z (i := 0) z z (RVs.tmp z RVs.nil)) ⟨z, z, z⟩
   ·refine TC.skip (S.n (TC.seq (TC.a (TL.w z (fieldLoc z fo56_0 z) (TL.w z (loadLoc z ag3 z (i := 2) z z) (TL.w z (fieldLoc z fo56_1 z) (TL.w z (loadLoc z ag3 z (i := 2) z z) (TL.w z (OpVal.lss z z z) (TL.en (TC.cD z hh (fun h111 hh => ?_) (fun h111 hh => ?_)))))))))))
    ·refine TC.a (TL.s z z (TL.w z (fieldLoc z fo56_0 z) (TL.w z (loadLoc z ag3 z (i := 2) z z) (TL.w z (fieldLoc z fo56_1 z) (TL.w z (loadLoc z ag3 z (i := 2) z z) ?_)))))
     have u35 := grd_c hh
     replace hh := grd_t hh
     obtain ⟨a112, c112, hr112, hv112⟩ := f0_0.sub x1.frm.toNat x1.to.toNat (by omega)
     have hr112b := hr112.rv.big
     refine TL.w rfl (hv112 rfl underlying34 sz56 rfl (by show Value.int _ _ = _; rw [Int.toNat_of_nonneg (by omega)]) (by show Value.int _ _ = _; rw [Int.toNat_of_nonneg (by omega)])) ?_
     obtain ⟨v36, u36, hh⟩ := bnd_e hh
     refine TL.op z (callP (span_All_con hr112 u36) z z pf91 z z z ?_)
     refine TL.w z (OpVal.extract z z z) (TL.w z (OpVal.extract z z z) (TL.front 1 z z (TL.op z (storeAll z sz56 z z z z z z ?_))))
     refine TL.i z z (TL.en (TC.rt 1 (S.r ?_)))
     obtain rfl := so hh
     exact ro [] z (RVs.agg ag56 sz56 z (i := 0) z z (RVs.tmp z RVs.nil)) ⟨z, z, z⟩
    ·refine TC.skip (S.n (TC.a (TL.i z z (TL.en (TC.cutG (α := (Span × Int) × (Unit)) (rgs [(9, 1), (41, 19)]) (fun g => [(9, .int .i64 g.1.2)]) (fun g => [Res.cells b105 #[.int .i64 g.1.1.frm, .int .i64 g.1.1.to] 56]) (fun g => σ) (fun g => span_Through_j1 g.1.1 g.1.2 = some r) ?_ (fun g j hg => ?_))))))
     ·skip
      refine TC.block (TC.a (TL.w z (fieldLoc z fo56_0 z) (TL.w z (loadLoc z ag3 z (i := 2) z z) (TL.w z (OpVal.gtr z z z) (TL.j z z (TL.en (TC.cD z hh (fun h115 hh => ?_) (fun h115 hh => ?_))))))))
      ·refine TC.region (TL.s z z (TL.w z (fieldLoc z fo56_0 z) (TL.w z (loadLoc z ag3 z (i := 2) z z) (TL.w z (subW z z z) ?_))))
       have u50 := grd_c hh
       replace hh := grd_t hh
       exact TL.w z (OpVal.index z underlying34 sz56 z z f0_0.rv.sl u50.1 u50.2) (TL.w z (fieldElem z fo56_1 z f0_0.rv.sl (by omega)) (TL.w z (loadS Span.zero z ag3 z f0_0 (by omega) (by omega) z) (TL.i z z (TL.nil (B.n (S.n (cf (((⟨0, 0⟩ : Span), ((nth x0 ((IntKind.i64.wrap (x1.frm - 1)).toNat) Span.zero).to)), ()) hh (Sub.f [1] 1))))))))
      ·refine TC.a (TL.s z z (TL.w z (lenC z underlying34 z) (TL.w z (OpVal.gtr z z z) (TL.j z z (TL.en (TC.cD z hh (fun h116 hh => ?_) (fun h116 hh => ?_)))))))
       ·exact TC.region (TL.s z z (TL.w z (indexN (i := 0) z underlying34 sz56 z z f0_0.rv.sl (by omega)) (TL.w z (fieldElem z fo56_0 z f0_0.rv.sl (by omega)) (TL.w z (loadS Span.zero z ag3 z f0_0 (by omega) (by omega) z) (TL.i z z (TL.nil (B.n (S.n (cf (((⟨0, 0⟩ : Span), ((nth x0 0 Span.zero).frm)), ()) hh (Sub.f [1] 1))))))))))
       ·exact TC.skip (B.n (S.n (cf (((⟨0, 0⟩ : Span), 0), ()) hh (Sub.f [1] 1))))
     ·skip
      obtain ⟨⟨x113, i114⟩, _⟩ := g
      have hh := hg; clear hg
      try dsimp only
      dsimp only [span_Through_j1] at hh
      refine TC.a (TL.i z z (TL.i z z (TL.w z (buildL z pl56 ze56 z) (TL.op z (storeAll z sz56 z z z z z z ?_)))))
      refine TL.i z z (TL.en (TC.ret ?_))
      obtain rfl := so hh
      exact ro [] z (RVs.agg ag56 sz56 z (i := 0) z z (RVs.tmp z RVs.nil)) ⟨z, z, z⟩

noncomputable def cascade_Join_b1 (x1 : Piece) (x0 : Piece) (x2 : Int) (l128 : List Span) (k130 : Nat) : Option (((List Span) × Nat) ⊕ (Piece × Int)) :=
 iteO (decide (((k130 : Nat) : Int) < ((x1.at'.length : Nat) : Int))) (bnd (span_Through x0.at' (nth x1.at' k130 Span.zero) x2) (fun v48 => iteO (decide (v48.2 ≠ 0)) (fin (some ((⟨([] : List UInt8), ([] : List Span)⟩ : Piece), v48.2))) (grd (k130 < l128.length) (nxt ((l128.set k130 v48.1), (k130 + 1)))))) (fin (some ((⟨x1.text, l128⟩ : Piece), 0)))
noncomputable def cascade_Join_b2 (x1 : Piece) (x0 : Piece) (x2 : Int) (l153 : List Span) (k155 : Nat) : Option (((List Span) × Nat) ⊕ (Piece × Int)) :=
 iteO (decide (((k155 : Nat) : Int) < ((x1.at'.length : Nat) : Int))) (bnd (span_Through x0.at' (nth x1.at' k155 Span.zero) x2) (fun v48 => iteO (decide (v48.2 ≠ 0)) (fin (some ((⟨([] : List UInt8), ([] : List Span)⟩ : Piece), v48.2))) (grd (k155 < l153.length) (nxt ((l153.set k155 v48.1), (k155 + 1)))))) (fin (some ((⟨x1.text, l153⟩ : Piece), 0)))
noncomputable def cascade_Join (x0 : Piece) (x1 : Piece) (x2 : Int) : Option (Piece × Int) :=
 iteO (decide (x2 < 0)) (some ((⟨([] : List UInt8), ([] : List Span)⟩ : Piece), 1)) (bnd (cascade_stands x0 x2) (fun v10 => iteO (!v10) (some ((⟨([] : List UInt8), ([] : List Span)⟩ : Piece), 1)) (bnd (cascade_stands x1 ((x0.text.length : Nat) : Int)) (fun v18 => iteO (!v18) (some ((⟨([] : List UInt8), ([] : List Span)⟩ : Piece), 1)) (grd (16 * x1.at'.length ≤ 281474976710656) (iter (fun q : (List Span) × Nat => cascade_Join_b1 x1 x0 x2 q.1 q.2) ((List.replicate x1.at'.length Span.zero), 0)))))))
def cascade_Join_P (σ : Store) (r : Piece × Int) : Value → Store → List Res → Prop := fun v σ' H' =>
 ∃ (a1 : Option Addr), ∃ (c1 : Nat),  v = .tuple #[.agg #[.string (bs r.1.text), .slice a1 r.1.at'.length c1], .int .i64 r.2] ∧ RS σ' 2 encSpan (.slice a1 r.1.at'.length c1) r.1.at' ∧ H' = []
theorem cascade_Join_con {σ : Store} {x0 : Piece} {a0_0 : Option Addr} {c0_0 : Nat} {x1 : Piece} {a1_0 : Option Addr} {c1_0 : Nat} {x2 : Int} (f0_0 : RS σ 2 encSpan (.slice a0_0 x0.at'.length c0_0) x0.at') (f1_0 : RS σ 2 encSpan (.slice a1_0 x1.at'.length c1_0) x1.at') {r : Piece × Int} (hh : cascade_Join x0 x1 x2 = some r) :
  Con Tryz.prog 19 #[.agg #[.string (bs x0.text), .slice a0_0 x0.at'.length c0_0], .agg #[.string (bs x1.text), .slice a1_0 x1.at'.length c1_0], .int .i64 x2] σ [] (cascade_Join_P σ r) := by
 dsimp only [cascade_Join] at hh
 have f0_0b := f0_0.rv.big
 have f1_0b := f1_0.rv.big
 refine Con.mk (n := 64) Tryz.func19 z z z (fun w0 => ?_)
 refine TC.a (TL.op z (boxA z z z z (fun b101 => ?_)))
 refine TL.op z (boxA z z z z (fun b103 => ?_))
 refine TL.op z (OpOk.alloc z ze36 z z (fun b105 => ?_))
 refine TL.i z z (TL.en (TC.seq (TC.a (TL.i z z (TL.w z (OpVal.lss z z z) (TL.j z z (TL.split 15 z (fun h107 => ?_) (fun h107 => ?_))))))))
 ·replace hh := iteO_t h107 hh
  replace h107 := of_decide_eq_true h107
  refine TL.f z (TL.f z (TL.f z (TL.f z (TL.w z (pickTB z z z) (TL.j z z (TL.f z (TL.f z (TL.f z (TL.f z (TL.f z (TL.f z (TL.w z (pickTB z z z) (TL.en (TC.t z (TC.a ?_)))))))))))))))
  refine TL.w z (buildL z pl36 ze36 z) (TL.op z (storeAll z sz36 z z z z z z ?_))
  refine TL.i z z (TL.en (TC.rt 1 (S.r ?_)))
  obtain rfl := so hh
  exact ro [] z (RVs.agg ag36 sz36 z (i := 0) z z (RVs.tmp z RVs.nil)) ⟨none, 0, z, (RS.nilF _ encSpan encSpan_len), z⟩
 ·replace hh := iteO_f h107 hh
  replace h107 := of_decide_eq_false h107
  refine TL.g z (loadAll z ag36 sz36 z (i := 2) z z) (TL.g z (moveI (.inl z) z) ?_)
  obtain ⟨v10, u10, hh⟩ := bnd_e hh
  refine TL.gon z z z z z (callP (cascade_stands_con (x0 := x0) f0_0 u10) z z pf51 z z z ?_)
  refine TL.g z (OpVal.not z z) (TL.w z (pickFB z z z) (TL.j z z (TL.split 21 z (fun h108 => ?_) (fun h108 => ?_))))
  ·replace hh := iteO_t h108 hh
   refine TL.f z (TL.f z (TL.f z (TL.f z (TL.f z (TL.f z (TL.w z (pickTB z z z) (TL.en (TC.t z (TC.a (TL.w z (buildL z pl36 ze36 z) (TL.op z (storeAll z sz36 z z z z z z ?_))))))))))))
   refine TL.i z z (TL.en (TC.rt 1 (S.r ?_)))
   obtain rfl := so hh
   exact ro [] z (RVs.agg ag36 sz36 z (i := 0) z z (RVs.tmp z RVs.nil)) ⟨none, 0, z, (RS.nilF _ encSpan encSpan_len), z⟩
  ·replace hh := iteO_f h108 hh
   refine TL.g z (loadAll z ag36 sz36 z (i := 1) z z) (TL.g z (fieldLoc z fo36_0 z) (TL.g z (loadLoc z ag9 z (i := 2) z z) (TL.g z (lenBs z underlying9 z) ?_)))
   obtain ⟨v18, u18, hh⟩ := bnd_e hh
   refine TL.gon z z z z z (callP (cascade_stands_con (x0 := x1) f1_0 u18) z z pf51 z z z ?_)
   refine TL.g z (OpVal.not z z) (TL.w z (pickFB z z z) (TL.en (TC.cB z hh (fun h109 hh => ?_) (fun h109 hh => ?_))))
   ·refine TC.a (TL.w z (buildL z pl36 ze36 z) (TL.op z (storeAll z sz36 z z z z z z ?_)))
    refine TL.i z z (TL.en (TC.rt 1 (S.r ?_)))
    obtain rfl := so hh
    exact ro [] z (RVs.agg ag36 sz36 z (i := 0) z z (RVs.tmp z RVs.nil)) ⟨none, 0, z, (RS.nilF _ encSpan encSpan_len), z⟩
   ·refine TC.skip (S.n (TC.seq ?_))
    have u29 := grd_c hh
    replace hh := grd_t hh
    refine TC.draw [8] (by kernel_rfl) (TA.a 0 z (fieldLoc z fo36_0 z) z (TA.b 1 z (loadLoc z ag9 z (i := 1) z z) z (TA.a 2 z (fieldLoc z fo36_1 z) z (TA.b 3 z (loadLoc z ag34 z (i := 1) z z) z (TA.b 4 z (lenC z underlying34 z) z (TA.actN [5, 7] (by kernel_rfl) (an z z (makeS2 (enc := encSpan) Span.zero z underlying34 sz56 by56 ze56 z z z z (by omega) (by decide) encSpan_len (by decide) z encSpan_one (fun a115 c116 => (k1 ?_))) (an z z (OpOk.alloc z ze36 z z (fun b118 => (k1 ?_))) (True.intro)))))))))
    ·skip
     refine TA.a 6 z (buildL z pl36 ze36 z) z (TA.ac 7 z (OpOk.alloc z ze36 z z (fun b120 => (k2 ?_))))
     refine TA.last 8 (by kernel_rfl) z z z (storeAll z sz36 z z z z z z ?_)
     refine TZ.done (by kernel_rfl) (S.n (TC.seq (TC.a (TL.w z (fieldLoc z fo36_1 z) (TL.w z (loadLoc z ag34 z (i := 3) z z) (TL.w z (lenC z underlying34 z) (TL.i z z (TL.en (TC.block (TC.loopG (α := ((List Span) × Nat) × (Unit)) (rgs [(7, 1), (9, 4), (40, 23)]) (fun g => [(40, .int .i64 ((g.1.2 : Nat) : Int))]) (fun g => [Res.cells b101 #[.string (bs x0.text), .slice a0_0 x0.at'.length c0_0] 36, Res.cells b105 #[.string (bs ([] : List UInt8)), .slice none 0 0] 36, Res.cells b120 #[.string (bs x1.text), .slice a115 ((List.replicate x1.at'.length Span.zero).length) c116] 36, Res.rowS 56 2 encSpan (.slice a115 (List.replicate x1.at'.length Span.zero).length c116) g.1.1]) (fun g => σ) (fun g => iter (fun q : (List Span) × Nat => cascade_Join_b1 x1 x0 x2 q.1 q.2) g.1 = some r ∧ g.1.1.length = (List.replicate x1.at'.length Span.zero).length) (fun g => rounds (fun q : (List Span) × Nat => cascade_Join_b1 x1 x0 x2 q.1 q.2) g.1) (((List.replicate x1.at'.length Span.zero), 0), ()) (Sub.f [1, 1, 2, 4] 4) z (by repeat (first | exact trivial | refine ⟨z, ?_⟩)) ⟨hh, z⟩ (fun g1 j1 hg1 => ?_)))))))))))
     obtain ⟨⟨l128, k130⟩, _⟩ := g1
     obtain ⟨hh, hn129⟩ := hg1
     try dsimp only at hn129 ⊢
     obtain ⟨z1, hh, hR1⟩ := iter_e hh
     dsimp only [cascade_Join_b1] at hh
     have hn129b := hn129
     refine TC.isSl (i := 3) z (fun _ hb131 _ => ?_)
     refine TC.a (TL.w z (OpVal.lss z z z) (TL.en (TC.seq (TC.cD z hh (fun h132 hh => ?_) (fun h132 hh => ?_)))))
     ·refine TC.skip (S.n (TC.seq (TC.block (TC.a (TL.i z z (TL.w z (indexN z underlying34 sz56 z z f1_0.rv.sl (by omega)) (TL.w z (loadSA Span.zero z ag56 sz56 z f1_0 (by omega) (by omega)) (TL.op z (OpOk.alloc z ze56 z z (fun b133 => ?_))))))))))
      refine TL.i z z (TL.op z (storeAll z sz56 z z z z z z ?_))
      refine TL.en (TC.a (TL.w z (fieldLoc z fo36_1 z) (TL.w z (loadLoc z ag34 z (i := 1) z z) (TL.w z (loadAll z ag56 sz56 z (i := 0) z z) (TL.i z z ?_)))))
      obtain ⟨v48, u48, hh⟩ := bnd_e hh
      refine TL.op z (callP (span_Through_con f0_0 u48) z z pf52 z z z ?_)
      refine TL.w z (moveT (.inl z) z) (TL.w z (OpVal.extract z z z) (TL.w z (OpVal.extract z z z) (TL.op z (OpOk.alloc z ze56 z z (fun b135 => ?_)))))
      refine TL.op z (storeAll z sz56 z z z z z z ?_)
      refine TL.i z z (TL.en (TC.seq (TC.a (TL.i z z (TL.w z (OpVal.neq z z z) (TL.en (TC.cD z hh (fun h137 hh => ?_) (fun h137 hh => ?_))))))))
      ·refine TC.a (TL.w z (buildL z pl36 ze36 z) (TL.i z z (TL.front 3 z z (TL.op z (storeAll z sz36 z z z z z z ?_)))))
       refine TL.i z z (TL.en (TC.rt 1 (S.r (B.r (S.r (S.r ?_))))))
       replace hh := fin_x hR1 hh
       refine B.r (S.r ?_)
       obtain rfl := so hh
       exact ro [] z (RVs.agg ag36 sz36 z (i := 0) z z (RVs.tmp z RVs.nil)) ⟨none, 0, z, (RS.nilF _ encSpan encSpan_len), z⟩
      ·refine TC.skip (S.n (TC.region (TL.w z (fieldLoc z fo36_1 z) (TL.w z (loadLoc z ag34 z (i := 4) z z) (TL.i z z (TL.w z (loadAll z ag56 sz56 z (i := 0) z z) ?_))))))
       have u65 := grd_c hh
       replace hh := grd_t hh
       refine TL.isSl (i := 5) z (fun hs138 _ _ => ?_)
       refine TL.w z (indexN z underlying34 sz56 z z hs138 (by omega)) (TL.front 5 z z ?_)
       have hn139 : (l128.set k130 v48.1).length = (List.replicate x1.at'.length Span.zero).length := by rw [List.length_set]; exact hn129
       refine TL.op z (storeS v48.1 z sz56 z z z z encSpan_len encSpan_one (by omega) (by omega) ?_)
       refine TL.nil (B.n (S.n (TC.region (TL.w z (OpVal.succ z z z (by omega)) (TL.i z z (TL.en ?_))))))
       obtain ⟨hh, hlt140⟩ := nxt_x hR1 hh
       exact lf (((l128.set k130 v48.1), (k130 + 1)), ()) hlt140 ⟨hh, hn139⟩ (Sub.f [5, 5, 5] 4)
     ·refine TC.exit (S.x (S.x ?_))
      replace hh := fin_x hR1 hh
      refine TC.exitHere (S.n (TC.a (TL.w z (loadAll z ag36 sz36 z (i := 2) z z) (TL.front 1 z z (TL.op z (storeAll z sz36 z z z z z z ?_))))))
      refine TL.i z z (TL.en ?_)
      rw [← hn129]
      refine TC.front 3 z z (TC.sealS encSpan_len (fun τ143 hle142 hr141 => ?_))
      replace f0_0 := f0_0.mono hle142
      replace f1_0 := f1_0.mono hle142
      have hr141b := hr141.rv.big
      refine TC.rt 1 ?_
      obtain rfl := so hh
      exact ro [] z (RVs.agg ag36 sz36 z (i := 0) z z (RVs.tmp z RVs.nil)) ⟨a115, c116, z, hr141, z⟩
    ·skip
     refine TA.ac 5 z (makeS2 (enc := encSpan) Span.zero z underlying34 sz56 by56 ze56 z z z z (by omega) (by decide) encSpan_len (by decide) z encSpan_one (fun a144 c145 => (k2 ?_)))
     refine TA.a 6 z (buildL z pl36 ze36 z) z (TA.front 1 z z (TA.last 8 (by kernel_rfl) z z z (storeAll z sz36 z z z z z z ?_)))
     refine TZ.done (by kernel_rfl) (S.n (TC.seq (TC.a (TL.w z (fieldLoc z fo36_1 z) (TL.w z (loadLoc z ag34 z (i := 3) z z) (TL.w z (lenC z underlying34 z) (TL.i z z (TL.en (TC.block (TC.loopG (α := ((List Span) × Nat) × (Unit)) (rgs [(7, 1), (9, 4), (40, 23)]) (fun g => [(40, .int .i64 ((g.1.2 : Nat) : Int))]) (fun g => [Res.cells b101 #[.string (bs x0.text), .slice a0_0 x0.at'.length c0_0] 36, Res.cells b105 #[.string (bs ([] : List UInt8)), .slice none 0 0] 36, Res.cells b118 #[.string (bs x1.text), .slice a144 ((List.replicate x1.at'.length Span.zero).length) c145] 36, Res.rowS 56 2 encSpan (.slice a144 (List.replicate x1.at'.length Span.zero).length c145) g.1.1]) (fun g => σ) (fun g => iter (fun q : (List Span) × Nat => cascade_Join_b2 x1 x0 x2 q.1 q.2) g.1 = some r ∧ g.1.1.length = (List.replicate x1.at'.length Span.zero).length) (fun g => rounds (fun q : (List Span) × Nat => cascade_Join_b2 x1 x0 x2 q.1 q.2) g.1) (((List.replicate x1.at'.length Span.zero), 0), ()) (Sub.f [1, 1, 2, 4] 4) z (by repeat (first | exact trivial | refine ⟨z, ?_⟩)) ⟨hh, z⟩ (fun g2 j2 hg2 => ?_)))))))))))
     obtain ⟨⟨l153, k155⟩, _⟩ := g2
     obtain ⟨hh, hn154⟩ := hg2
     try dsimp only at hn154 ⊢
     obtain ⟨z1, hh, hR1⟩ := iter_e hh
     dsimp only [cascade_Join_b2] at hh
     have hn154b := hn154
     refine TC.isSl (i := 3) z (fun _ hb156 _ => ?_)
     refine TC.a (TL.w z (OpVal.lss z z z) (TL.en (TC.seq (TC.cD z hh (fun h157 hh => ?_) (fun h157 hh => ?_)))))
     ·refine TC.skip (S.n (TC.seq (TC.block (TC.a (TL.i z z (TL.w z (indexN z underlying34 sz56 z z f1_0.rv.sl (by omega)) (TL.w z (loadSA Span.zero z ag56 sz56 z f1_0 (by omega) (by omega)) (TL.op z (OpOk.alloc z ze56 z z (fun b158 => ?_))))))))))
      refine TL.i z z (TL.op z (storeAll z sz56 z z z z z z ?_))
      refine TL.en (TC.a (TL.w z (fieldLoc z fo36_1 z) (TL.w z (loadLoc z ag34 z (i := 1) z z) (TL.w z (loadAll z ag56 sz56 z (i := 0) z z) (TL.i z z ?_)))))
      obtain ⟨v48, u48, hh⟩ := bnd_e hh
      refine TL.op z (callP (span_Through_con f0_0 u48) z z pf52 z z z ?_)
      refine TL.w z (moveT (.inl z) z) (TL.w z (OpVal.extract z z z) (TL.w z (OpVal.extract z z z) (TL.op z (OpOk.alloc z ze56 z z (fun b160 => ?_)))))
      refine TL.op z (storeAll z sz56 z z z z z z ?_)
      refine TL.i z z (TL.en (TC.seq (TC.a (TL.i z z (TL.w z (OpVal.neq z z z) (TL.en (TC.cD z hh (fun h162 hh => ?_) (fun h162 hh => ?_))))))))
      ·refine TC.a (TL.w z (buildL z pl36 ze36 z) (TL.i z z (TL.front 3 z z (TL.op z (storeAll z sz36 z z z z z z ?_)))))
       refine TL.i z z (TL.en (TC.rt 1 (S.r (B.r (S.r (S.r ?_))))))
       replace hh := fin_x hR1 hh
       refine B.r (S.r ?_)
       obtain rfl := so hh
       exact ro [] z (RVs.agg ag36 sz36 z (i := 0) z z (RVs.tmp z RVs.nil)) ⟨none, 0, z, (RS.nilF _ encSpan encSpan_len), z⟩
      ·refine TC.skip (S.n (TC.region (TL.w z (fieldLoc z fo36_1 z) (TL.w z (loadLoc z ag34 z (i := 4) z z) (TL.i z z (TL.w z (loadAll z ag56 sz56 z (i := 0) z z) ?_))))))
       have u65 := grd_c hh
       replace hh := grd_t hh
       refine TL.isSl (i := 5) z (fun hs163 _ _ => ?_)
       refine TL.w z (indexN z underlying34 sz56 z z hs163 (by omega)) (TL.front 5 z z ?_)
       have hn164 : (l153.set k155 v48.1).length = (List.replicate x1.at'.length Span.zero).length := by rw [List.length_set]; exact hn154
       refine TL.op z (storeS v48.1 z sz56 z z z z encSpan_len encSpan_one (by omega) (by omega) ?_)
       refine TL.nil (B.n (S.n (TC.region (TL.w z (OpVal.succ z z z (by omega)) (TL.i z z (TL.en ?_))))))
       obtain ⟨hh, hlt165⟩ := nxt_x hR1 hh
       exact lf (((l153.set k155 v48.1), (k155 + 1)), ()) hlt165 ⟨hh, hn164⟩ (Sub.f [5, 5, 5] 4)
     ·refine TC.exit (S.x (S.x ?_))
      replace hh := fin_x hR1 hh
      refine TC.exitHere (S.n (TC.a (TL.w z (loadAll z ag36 sz36 z (i := 2) z z) (TL.front 1 z z (TL.op z (storeAll z sz36 z z z z z z ?_))))))
      refine TL.i z z (TL.en ?_)
      rw [← hn154]
      refine TC.front 3 z z (TC.sealS encSpan_len (fun τ168 hle167 hr166 => ?_))
      have hr166b := hr166.rv.big
      refine TC.rt 1 ?_
      obtain rfl := so hh
      exact ro [] z (RVs.agg ag36 sz36 z (i := 0) z z (RVs.tmp z RVs.nil)) ⟨a144, c145, z, hr166, z⟩

noncomputable def cascade_plain (x0 : List Rule) (x1 : List UInt8) : Option (Piece × Int) :=
 grd (x1.length ≤ 281474976710656) (iteO (decide (64 < ((x0.length : Nat) : Int))) (some ((⟨([] : List UInt8), ([] : List Span)⟩ : Piece), 2)) (iteO (decide (4096 < ((x1.length : Nat) : Int))) (some ((⟨([] : List UInt8), ([] : List Span)⟩ : Piece), 2)) (bnd (rewrite_Plain x1) (fun v15 => some (v15.1, v15.2)))))
def cascade_plain_P (σ : Store) (r : Piece × Int) : Value → Store → List Res → Prop := fun v σ' H' =>
 ∃ (a1 : Option Addr), ∃ (c1 : Nat),  v = .tuple #[.agg #[.string (bs r.1.text), .slice a1 r.1.at'.length c1], .int .i64 r.2] ∧ RS σ' 2 encSpan (.slice a1 r.1.at'.length c1) r.1.at' ∧ H' = []
theorem cascade_plain_con {σ : Store} {x0 : List Rule} {a0_0 : Option Addr} {c0_0 : Nat} {x1 : List UInt8} (f0_0 : RZ σ pkRule (.slice a0_0 x0.length c0_0) x0) {r : Piece × Int} (hh : cascade_plain x0 x1 = some r) :
  Con Tryz.prog 46 #[.slice a0_0 x0.length c0_0, .string (bs x1)] σ [] (cascade_plain_P σ r) := by
 dsimp only [cascade_plain] at hh
 have f0_0b := f0_0.big
 refine Con.mk (n := 19) Tryz.func46 z z z (fun w0 => ?_)
 have x1b := grd_c hh
 replace hh := grd_t hh
 refine TC.a (TL.op z (OpOk.alloc z ze36 z z (fun b101 => ?_)))
 refine TL.i z z (TL.en (TC.seq (TC.a (TL.s z z (TL.w z (lenC z underlying45 z) (TL.w z (OpVal.gtr z z z) (TL.j z z (TL.split 9 z (fun h103 => ?_) (fun h103 => ?_)))))))))
 ·replace hh := iteO_t h103 hh
  replace h103 := of_decide_eq_true h103
  refine TL.f z (TL.f z (TL.f z (TL.w z (pickTB z z z) (TL.en (TC.t z (TC.a (TL.w z (buildL z pl36 ze36 z) (TL.op z (storeAll z sz36 z z z z z z ?_)))))))))
  refine TL.i z z (TL.en (TC.ret (S.r ?_)))
  obtain rfl := so hh
  exact ro [] z (RVs.agg ag36 sz36 z (i := 0) z z (RVs.tmp z RVs.nil)) ⟨none, 0, z, (RS.nilF _ encSpan encSpan_len), z⟩
 ·replace hh := iteO_f h103 hh
  replace h103 := of_decide_eq_false h103
  refine TL.g z (moveStr (.inl z) z) (TL.g z (lenBs z underlying9 z) (TL.g z (OpVal.gtr z z z) (TL.w z (pickFB z z z) (TL.en (TC.cD z hh (fun h104 hh => ?_) (fun h104 hh => ?_))))))
  ·refine TC.a (TL.w z (buildL z pl36 ze36 z) (TL.op z (storeAll z sz36 z z z z z z ?_)))
   refine TL.i z z (TL.en (TC.ret (S.r ?_)))
   obtain rfl := so hh
   exact ro [] z (RVs.agg ag36 sz36 z (i := 0) z z (RVs.tmp z RVs.nil)) ⟨none, 0, z, (RS.nilF _ encSpan encSpan_len), z⟩
  ·refine TC.skip (S.n (TC.a (TL.w z (moveStr (.inl z) z) ?_)))
   obtain ⟨v15, u15, hh⟩ := bnd_e hh
   refine TL.op z (OpOk.call (rewrite_Plain_con u15) z z pf10 z z z z ?_)
   rintro _ τ105 _ hle105 ⟨a105_1, c105_1, rfl, hr105_0, rfl⟩
   have hr105_0b := hr105_0.rv.big
   refine TL.w z (OpVal.extract z z z) (TL.w z (OpVal.extract z z z) (TL.op z (storeAll z sz36 z z z z z z ?_)))
   refine TL.i z z (TL.en (TC.ret ?_))
   obtain rfl := so hh
   exact ro [] z (RVs.agg ag36 sz36 z (i := 0) z z (RVs.tmp z RVs.nil)) ⟨a105_1, c105_1, z, hr105_0, z⟩

noncomputable def cascade_turn (x0 : Piece) (x1 : Rule) (x2 : Int) : Option (Piece × Int) :=
 bnd (rewrite_Turn x1 x0.text) (fun v8 => iteO (decide (v8.2 ≠ 0)) (some ((⟨([] : List UInt8), ([] : List Span)⟩ : Piece), v8.2)) (bnd (cascade_Join x0 v8.1 x2) (fun v24 => some (v24.1, v24.2))))
def cascade_turn_P (σ : Store) (r : Piece × Int) : Value → Store → List Res → Prop := fun v σ' H' =>
 ∃ (a1 : Option Addr), ∃ (c1 : Nat),  v = .tuple #[.agg #[.string (bs r.1.text), .slice a1 r.1.at'.length c1], .int .i64 r.2] ∧ RS σ' 2 encSpan (.slice a1 r.1.at'.length c1) r.1.at' ∧ H' = []
theorem cascade_turn_con {σ : Store} {x0 : Piece} {a0_0 : Option Addr} {c0_0 : Nat} {x1 : Rule} {a1_0 : Option Addr} {c1_0 : Nat} {a1_1 : Option Addr} {c1_1 : Nat} {a1_2 : Option Addr} {c1_2 : Nat} {a1_3 : Option Addr} {c1_3 : Nat} {a1_4 : Option Addr} {c1_4 : Nat} {a1_5 : Option Addr} {c1_5 : Nat} {a1_6 : Option Addr} {c1_6 : Nat} {a1_7 : Option Addr} {c1_7 : Nat} {a1_8 : Option Addr} {c1_8 : Nat} {a1_9 : Option Addr} {c1_9 : Nat} {a1_10 : Option Addr} {c1_10 : Nat} {a1_11 : Option Addr} {c1_11 : Nat} {a1_12 : Option Addr} {c1_12 : Nat} {x2 : Int} (f0_0 : RS σ 2 encSpan (.slice a0_0 x0.at'.length c0_0) x0.at') (f1_0 : RS σ 1 Go.E.encI (.slice a1_0 x1.of.cls.length c1_0) x1.of.cls) (f1_1 : RZ σ (pkSl 1 Go.E.encI Go.E.encI_len) (.slice a1_1 x1.of.next.length c1_1) x1.of.next) (f1_2 : RS σ 1 encB (.slice a1_2 x1.of.fin.length c1_2) x1.of.fin) (f1_3 : RS σ 1 Go.E.encI (.slice a1_3 x1.left.cls.length c1_3) x1.left.cls) (f1_4 : RZ σ (pkSl 1 Go.E.encI Go.E.encI_len) (.slice a1_4 x1.left.next.length c1_4) x1.left.next) (f1_5 : RS σ 1 encB (.slice a1_5 x1.left.fin.length c1_5) x1.left.fin) (f1_6 : RS σ 1 Go.E.encI (.slice a1_6 x1.right.cls.length c1_6) x1.right.cls) (f1_7 : RZ σ (pkSl 1 Go.E.encI Go.E.encI_len) (.slice a1_7 x1.right.next.length c1_7) x1.right.next) (f1_8 : RS σ 1 encB (.slice a1_8 x1.right.fin.length c1_8) x1.right.fin) (f1_9 : RZ σ (pkSl 1 Go.E.encI Go.E.encI_len) (.slice a1_9 x1.by'.next.length c1_9) x1.by'.next) (f1_10 : RZ σ (pkSl 1 Go.E.encS Go.E.encS_len) (.slice a1_10 x1.by'.outs.length c1_10) x1.by'.outs) (f1_11 : RS σ 1 encB (.slice a1_11 x1.by'.fin.length c1_11) x1.by'.fin) (f1_12 : RS σ 1 Go.E.encS (.slice a1_12 x1.by'.tail.length c1_12) x1.by'.tail) {r : Piece × Int} (hh : cascade_turn x0 x1 x2 = some r) :
  Con Tryz.prog 49 #[.agg #[.string (bs x0.text), .slice a0_0 x0.at'.length c0_0], .agg #[.slice a1_0 x1.of.cls.length c1_0, .slice a1_1 x1.of.next.length c1_1, .slice a1_2 x1.of.fin.length c1_2, .slice a1_3 x1.left.cls.length c1_3, .slice a1_4 x1.left.next.length c1_4, .slice a1_5 x1.left.fin.length c1_5, .slice a1_6 x1.right.cls.length c1_6, .slice a1_7 x1.right.next.length c1_7, .slice a1_8 x1.right.fin.length c1_8, .string (bs x1.out), .bool x1.mapped, .string (bs x1.by'.front), .slice a1_9 x1.by'.next.length c1_9, .slice a1_10 x1.by'.outs.length c1_10, .slice a1_11 x1.by'.fin.length c1_11, .slice a1_12 x1.by'.tail.length c1_12], .int .i64 x2] σ [] (cascade_turn_P σ r) := by
 dsimp only [cascade_turn] at hh
 have f0_0b := f0_0.rv.big
 have f1_0b := f1_0.rv.big
 have f1_1b := f1_1.big
 have f1_2b := f1_2.rv.big
 have f1_3b := f1_3.rv.big
 have f1_4b := f1_4.big
 have f1_5b := f1_5.rv.big
 have f1_6b := f1_6.rv.big
 have f1_7b := f1_7.big
 have f1_8b := f1_8.rv.big
 have f1_9b := f1_9.big
 have f1_10b := f1_10.big
 have f1_11b := f1_11.rv.big
 have f1_12b := f1_12.rv.big
 refine Con.mk (n := 27) Tryz.func49 z z z (fun w0 => ?_)
 refine TC.a (TL.op z (boxA z z z z (fun b101 => ?_)))
 refine TL.op z (boxA z z z z (fun b103 => ?_))
 refine TL.op z (OpOk.alloc z ze36 z z (fun b105 => ?_))
 refine TL.i z z (TL.en (TC.a (TL.w z (loadAll z ag32 sz32 z (i := 1) z z) (TL.w z (fieldLoc z fo36_0 z) (TL.w z (loadLoc z ag9 z (i := 2) z z) ?_)))))
 obtain ⟨v8, u8, hh⟩ := bnd_e hh
 refine TL.op z (OpOk.call (rewrite_Turn_con (x0 := x1) f1_0 f1_1 f1_2 f1_3 f1_4 f1_5 f1_6 f1_7 f1_8 f1_9 f1_10 f1_11 f1_12 u8) z z pf8 z z z z ?_)
 rintro _ τ107 _ hle107 ⟨a107_1, c107_1, rfl, hr107_0, rfl⟩
 replace f0_0 := f0_0.mono hle107
 have hr107_0b := hr107_0.rv.big
 refine TL.w z (moveT (.inl z) z) (TL.w z (OpVal.extract z z z) (TL.w z (OpVal.extract z z z) (TL.op z (OpOk.alloc z ze36 z z (fun b108 => ?_)))))
 refine TL.op z (storeAll z sz36 z z z z z z ?_)
 refine TL.i z z (TL.en (TC.seq (TC.a (TL.i z z (TL.w z (OpVal.neq z z z) (TL.en (TC.cD z hh (fun h110 hh => ?_) (fun h110 hh => ?_))))))))
 ·refine TC.a (TL.w z (buildL z pl36 ze36 z) (TL.i z z (TL.front 1 z z (TL.op z (storeAll z sz36 z z z z z z ?_)))))
  refine TL.i z z (TL.en (TC.rt 1 (S.r ?_)))
  obtain rfl := so hh
  exact ro [] z (RVs.agg ag36 sz36 z (i := 0) z z (RVs.tmp z RVs.nil)) ⟨none, 0, z, (RS.nilF _ encSpan encSpan_len), z⟩
 ·refine TC.skip (S.n (TC.a (TL.w z (loadAll z ag36 sz36 z (i := 3) z z) (TL.w z (loadAll z ag36 sz36 z (i := 0) z z) (TL.i z z ?_)))))
  obtain ⟨v24, u24, hh⟩ := bnd_e hh
  refine TL.op z (OpOk.call (cascade_Join_con (x0 := x0) (x1 := v8.1) f0_0 hr107_0 u24) z z pf19 z z z z ?_)
  rintro _ τ111 _ hle111 ⟨a111_1, c111_1, rfl, hr111_0, rfl⟩
  have hr111_0b := hr111_0.rv.big
  refine TL.w z (OpVal.extract z z z) (TL.w z (OpVal.extract z z z) (TL.front 1 z z (TL.op z (storeAll z sz36 z z z z z z ?_))))
  refine TL.i z z (TL.en (TC.rt 1 ?_))
  obtain rfl := so hh
  exact ro [] z (RVs.agg ag36 sz36 z (i := 0) z z (RVs.tmp z RVs.nil)) ⟨a111_1, c111_1, z, hr111_0, z⟩

noncomputable def cascade_Run_1 (x0 : Piece) (x1 : Rule) (x2 : List UInt8) : Option (Piece × Int) :=
 bnd (cascade_turn x0 x1 ((x2.length : Nat) : Int)) (fun v9 => some (v9.1, v9.2))
theorem cascade_Run_1_con {σ : Store} {x0 : Piece} {a0_0 : Option Addr} {c0_0 : Nat} {x1 : Rule} {a1_0 : Option Addr} {c1_0 : Nat} {a1_1 : Option Addr} {c1_1 : Nat} {a1_2 : Option Addr} {c1_2 : Nat} {a1_3 : Option Addr} {c1_3 : Nat} {a1_4 : Option Addr} {c1_4 : Nat} {a1_5 : Option Addr} {c1_5 : Nat} {a1_6 : Option Addr} {c1_6 : Nat} {a1_7 : Option Addr} {c1_7 : Nat} {a1_8 : Option Addr} {c1_8 : Nat} {a1_9 : Option Addr} {c1_9 : Nat} {a1_10 : Option Addr} {c1_10 : Nat} {a1_11 : Option Addr} {c1_11 : Nat} {a1_12 : Option Addr} {c1_12 : Nat} {x2 : List UInt8} {b2_0 : Nat} {Eb2 : Nat} (f0_0 : RS σ 2 encSpan (.slice a0_0 x0.at'.length c0_0) x0.at') (f1_0 : RS σ 1 Go.E.encI (.slice a1_0 x1.of.cls.length c1_0) x1.of.cls) (f1_1 : RZ σ (pkSl 1 Go.E.encI Go.E.encI_len) (.slice a1_1 x1.of.next.length c1_1) x1.of.next) (f1_2 : RS σ 1 encB (.slice a1_2 x1.of.fin.length c1_2) x1.of.fin) (f1_3 : RS σ 1 Go.E.encI (.slice a1_3 x1.left.cls.length c1_3) x1.left.cls) (f1_4 : RZ σ (pkSl 1 Go.E.encI Go.E.encI_len) (.slice a1_4 x1.left.next.length c1_4) x1.left.next) (f1_5 : RS σ 1 encB (.slice a1_5 x1.left.fin.length c1_5) x1.left.fin) (f1_6 : RS σ 1 Go.E.encI (.slice a1_6 x1.right.cls.length c1_6) x1.right.cls) (f1_7 : RZ σ (pkSl 1 Go.E.encI Go.E.encI_len) (.slice a1_7 x1.right.next.length c1_7) x1.right.next) (f1_8 : RS σ 1 encB (.slice a1_8 x1.right.fin.length c1_8) x1.right.fin) (f1_9 : RZ σ (pkSl 1 Go.E.encI Go.E.encI_len) (.slice a1_9 x1.by'.next.length c1_9) x1.by'.next) (f1_10 : RZ σ (pkSl 1 Go.E.encS Go.E.encS_len) (.slice a1_10 x1.by'.outs.length c1_10) x1.by'.outs) (f1_11 : RS σ 1 encB (.slice a1_11 x1.by'.fin.length c1_11) x1.by'.fin) (f1_12 : RS σ 1 Go.E.encS (.slice a1_12 x1.by'.tail.length c1_12) x1.by'.tail) {r : Piece × Int} (hh : cascade_Run_1 x0 x1 x2 = some r) :
  Con Tryz.prog 48 #[.agg #[.string (bs x0.text), .slice a0_0 x0.at'.length c0_0], .agg #[.slice a1_0 x1.of.cls.length c1_0, .slice a1_1 x1.of.next.length c1_1, .slice a1_2 x1.of.fin.length c1_2, .slice a1_3 x1.left.cls.length c1_3, .slice a1_4 x1.left.next.length c1_4, .slice a1_5 x1.left.fin.length c1_5, .slice a1_6 x1.right.cls.length c1_6, .slice a1_7 x1.right.next.length c1_7, .slice a1_8 x1.right.fin.length c1_8, .string (bs x1.out), .bool x1.mapped, .string (bs x1.by'.front), .slice a1_9 x1.by'.next.length c1_9, .slice a1_10 x1.by'.outs.length c1_10, .slice a1_11 x1.by'.fin.length c1_11, .slice a1_12 x1.by'.tail.length c1_12], loc b2_0 0] σ [Res.cells b2_0 #[.string (bs x2)] Eb2] (fun v σ' H' => ∃ (a1 : Option Addr), ∃ (c1 : Nat), v = .tuple #[.agg #[.string (bs r.1.text), .slice a1 r.1.at'.length c1], .int .i64 r.2] ∧ RS σ' 2 encSpan (.slice a1 r.1.at'.length c1) r.1.at' ∧ H' = [Res.cells b2_0 #[.string (bs x2)] Eb2]) := by
 dsimp only [cascade_Run_1] at hh
 have f0_0b := f0_0.rv.big
 have f1_0b := f1_0.rv.big
 have f1_1b := f1_1.big
 have f1_2b := f1_2.rv.big
 have f1_3b := f1_3.rv.big
 have f1_4b := f1_4.big
 have f1_5b := f1_5.rv.big
 have f1_6b := f1_6.rv.big
 have f1_7b := f1_7.big
 have f1_8b := f1_8.rv.big
 have f1_9b := f1_9.big
 have f1_10b := f1_10.big
 have f1_11b := f1_11.rv.big
 have f1_12b := f1_12.rv.big
 refine Con.mk (n := 14) Tryz.func48 z z z (fun w0 => ?_)
 refine TC.a (TL.op z (boxA z z z z (fun b102 => ?_)))
 refine TL.op z (boxA z z z z (fun b104 => ?_))
 refine TL.op z (OpOk.alloc z ze36 z z (fun b106 => ?_))
 refine TL.i z z (TL.en (TC.a (TL.w z (loadAll z ag36 sz36 z (i := 2) z z) (TL.w z (loadAll z ag32 sz32 z (i := 1) z z) (TL.w z (loadLoc z ag9 z (i := 3) z z) (TL.w z (lenBs z underlying9 z) ?_))))))
 obtain ⟨v9, u9, hh⟩ := bnd_e hh
 refine TL.op z (OpOk.call (cascade_turn_con (x0 := x0) (x1 := x1) f0_0 f1_0 f1_1 f1_2 f1_3 f1_4 f1_5 f1_6 f1_7 f1_8 f1_9 f1_10 f1_11 f1_12 u9) z z pf49 z z z z ?_)
 rintro _ τ108 _ hle108 ⟨a108_1, c108_1, rfl, hr108_0, rfl⟩
 have hr108_0b := hr108_0.rv.big
 refine TL.w z (OpVal.extract z z z) (TL.w z (OpVal.extract z z z) (TL.op z (storeAll z sz36 z z z z z z ?_)))
 refine TL.i z z (TL.en (TC.ofSub (Sub.f [3] 2) (TC.ret ?_)))
 obtain rfl := so hh
 exact ro [Res.cells b2_0 #[.string (bs x2)] Eb2] z (RVs.agg ag36 sz36 z (i := 1) z z (RVs.tmp z RVs.nil)) ⟨a108_1, c108_1, z, hr108_0, z⟩

noncomputable def foldP_b1 (x0 : List Rule) (x2_0 : List UInt8) (s118 : List UInt8) (l119 : List Span) (k123 : Nat) : Option (((List UInt8) × (List Span) × Nat) ⊕ (Piece × Int)) :=
 iteO (decide (((k123 : Nat) : Int) < ((x0.length : Nat) : Int))) (bnd (cascade_Run_1 (⟨s118, l119⟩ : Piece) (nth x0 k123 Rule.zero) x2_0) (fun v15 => iteO (decide (v15.2 ≠ 0)) (fin (some ((⟨([] : List UInt8), ([] : List Span)⟩ : Piece), v15.2))) (nxt (v15.1.text, v15.1.at', (k123 + 1))))) (fin (some ((⟨s118, l119⟩ : Piece), 0)))
noncomputable def foldP (x0 : List Rule) (x1 : Piece) (x2_0 : List UInt8) : Option (Piece × Int) :=
 iter (fun q : (List UInt8) × (List Span) × Nat => foldP_b1 x0 x2_0 q.1 q.2.1 q.2.2) (x1.text, x1.at', 0)
theorem foldP_con {σ : Store} {x0 : List Rule} {a0_0 : Option Addr} {c0_0 : Nat} {x1 : Piece} {a1_0 : Option Addr} {c1_0 : Nat} {x2_0 : List UInt8} {b2_0_0 : Nat} {Eb2_0 : Nat} (f0_0 : RZ σ pkRule (.slice a0_0 x0.length c0_0) x0) (f1_0 : RS σ 2 encSpan (.slice a1_0 x1.at'.length c1_0) x1.at') {r : Piece × Int} (hh : foldP x0 x1 x2_0 = some r) :
  Con Tryz.prog 47 #[.slice a0_0 x0.length c0_0, .agg #[.string (bs x1.text), .slice a1_0 x1.at'.length c1_0], .func (.func 48) #[] #[loc b2_0_0 0]] σ [Res.cells b2_0_0 #[.string (bs x2_0)] Eb2_0] (fun v σ' H' => ∃ (a1 : Option Addr), ∃ (c1 : Nat), v = .tuple #[.agg #[.string (bs r.1.text), .slice a1 r.1.at'.length c1], .int .i64 r.2] ∧ RS σ' 2 encSpan (.slice a1 r.1.at'.length c1) r.1.at' ∧ H' = [Res.cells b2_0_0 #[.string (bs x2_0)] Eb2_0]) := by
 dsimp only [foldP] at hh
 have f0_0b := f0_0.big
 have f1_0b := f1_0.rv.big
 refine Con.mk (n := 33) Tryz.func47 z z z (fun w0 => ?_)
 refine TC.a (TL.op z (boxA z z z z (fun b102 => ?_)))
 refine TL.op z (OpOk.alloc z ze36 z z (fun b104 => ?_))
 refine TL.i z z (TL.en (TC.seq (TC.a (TL.s z z (TL.w z (lenC z underlying45 z) (TL.i z z (TL.en (TC.block (TC.loopG (α := ((List UInt8) × (List Span) × Nat) × ((Option Addr) × Nat × Store)) (rgs [(7, 1), (9, 4), (15, 17)]) (fun g => [(15, .int .i64 ((g.1.2.2 : Nat) : Int))]) (fun g => [Res.cells b2_0_0 #[.string (bs x2_0)] Eb2_0, Res.cells b102 #[.string (bs g.1.1), .slice g.2.1 g.1.2.1.length g.2.2.1] 36, Res.cells b104 #[.string (bs ([] : List UInt8)), .slice none 0 0] 36]) (fun g => g.2.2.2) (fun g => iter (fun q : (List UInt8) × (List Span) × Nat => foldP_b1 x0 x2_0 q.1 q.2.1 q.2.2) g.1 = some r ∧ RS g.2.2.2 2 encSpan (.slice g.2.1 g.1.2.1.length g.2.2.1) g.1.2.1 ∧ Store.le σ g.2.2.2) (fun g => rounds (fun q : (List UInt8) × (List Span) × Nat => foldP_b1 x0 x2_0 q.1 q.2.1 q.2.2) g.1) ((x1.text, x1.at', 0), (a1_0, c1_0, σ)) (Sub.f [1, 2] 3) z (by repeat (first | exact trivial | refine ⟨z, ?_⟩)) ⟨hh, f1_0, (Store.le.refl _)⟩ (fun g1 j1 hg1 => ?_))))))))))
 obtain ⟨⟨s118, l119, k123⟩, ⟨a120, c121, τ124⟩⟩ := g1
 obtain ⟨hh, hr122, hle125⟩ := hg1
 try dsimp only at hr122
 dsimp only at hle125
 replace f0_0 := f0_0.mono hle125
 try dsimp only
 obtain ⟨z1, hh, hR1⟩ := iter_e hh
 dsimp only [foldP_b1] at hh
 have hr122b := hr122.rv.big
 refine TC.a (TL.w z (OpVal.lss z z z) (TL.en (TC.seq (TC.cD z hh (fun h126 hh => ?_) (fun h126 hh => ?_)))))
 ·refine TC.skip (S.n (TC.seq (TC.block (TC.a (TL.w z (indexN z underlying45 sz32 z z f0_0.isSl (by omega)) ?_)))))
  obtain ⟨p127, hk127, hg127⟩ := RZ.seg f0_0 k123 (by omega)
  replace hk127 : RRule _ (nth x0 k123 Rule.zero) p127 := hk127
  have hk127b := hk127.o.c.rv.big
  refine TL.w z (loadSegA z ag32 sz32 z hg127 z) (TL.op z (OpOk.alloc z ze32 z z (fun b128 => ?_)))
  refine TL.op z (storeAll z sz32 z z z z z z ?_)
  refine TL.en (TC.a (TL.w z (moveFn (.inl z) z) (TL.w z (loadAll z ag36 sz36 z (i := 2) z z) (TL.w z (loadAll z ag32 sz32 z (i := 0) z z) (TL.front 1 z z ?_)))))
  obtain ⟨v15, u15, hh⟩ := bnd_e hh
  refine TL.op z (OpOk.call (cascade_Run_1_con hr122 hk127.o.c hk127.o.n hk127.o.e hk127.l.c hk127.l.n hk127.l.e hk127.r.c hk127.r.n hk127.r.e hk127.b.n hk127.b.o hk127.b.e hk127.b.t u15) z z pf48 z z z z ?_)
  rintro _ τ130 _ hle130 ⟨a130_1, c130_2, rfl, hr130_3, rfl⟩
  replace hr122 := hr122.mono hle130
  have hr130_3b := hr130_3.rv.big
  refine TL.w z (moveT (.inl z) z) (TL.w z (OpVal.extract z z z) (TL.w z (OpVal.extract z z z) (TL.op z (OpOk.alloc z ze36 z z (fun b131 => ?_)))))
  refine TL.op z (storeAll z sz36 z z z z z z ?_)
  refine TL.i z z (TL.en (TC.seq (TC.a (TL.i z z (TL.w z (OpVal.neq z z z) (TL.en (TC.cD z hh (fun h133 hh => ?_) (fun h133 hh => ?_))))))))
  ·refine TC.a (TL.op z (OpOk.alloc z ze36 z z (fun b134 => ?_)))
   refine TL.en (TC.a (TL.w z (loadAll z ag36 sz36 z (i := 0) z z) (TL.i z z (TL.front 5 z z (TL.op z (storeAll z sz36 z z z z z z ?_))))))
   refine TL.i z z (TL.en (TC.ofSub (Sub.f [3] 2) (TC.ret (S.r (B.r (S.r (S.r ?_)))))))
   replace hh := fin_x hR1 hh
   refine B.r (S.r ?_)
   obtain rfl := so hh
   exact ro [Res.cells b2_0_0 #[.string (bs x2_0)] Eb2_0] z (RVs.agg ag36 sz36 z (i := 1) z z (RVs.tmp z RVs.nil)) ⟨none, 0, z, (RS.nilF _ encSpan encSpan_len), z⟩
  ·refine TC.skip (S.n (TC.region (TL.w z (loadAll z ag36 sz36 z (i := 0) z z) (TL.front 3 z z (TL.op z (storeAll z sz36 z z z z z z ?_))))))
   refine TL.nil (B.n (S.n (TC.region (TL.w z (OpVal.succ z z z (by omega)) (TL.i z z (TL.en ?_))))))
   obtain ⟨hh, hlt136⟩ := nxt_x hR1 hh
   exact lf ((v15.1.text, v15.1.at', (k123 + 1)), (a130_1, c130_2, τ130)) hlt136 ⟨hh, hr130_3, (hle125.trans hle130)⟩ (Sub.f [4, 1, 3] 3)
 ·refine TC.exit (S.x (S.x ?_))
  replace hh := fin_x hR1 hh
  refine TC.exitHere (S.n (TC.a (TL.w z (loadAll z ag36 sz36 z (i := 1) z z) (TL.front 2 z z (TL.op z (storeAll z sz36 z z z z z z ?_))))))
  refine TL.i z z (TL.en (TC.ofSub (Sub.f [1] 2) (TC.ret ?_)))
  obtain rfl := so hh
  exact ro [Res.cells b2_0_0 #[.string (bs x2_0)] Eb2_0] z (RVs.agg ag36 sz36 z (i := 1) z z (RVs.tmp z RVs.nil)) ⟨a120, c121, z, hr122, z⟩

noncomputable def cascade_Run (x0 : List Rule) (x1 : List UInt8) : Option (Piece × Int) :=
 grd (x1.length ≤ 281474976710656) (bnd (cascade_plain x0 x1) (fun v6 => iteO (decide (v6.2 ≠ 0)) (some ((⟨([] : List UInt8), ([] : List Span)⟩ : Piece), v6.2)) (bnd (foldP x0 v6.1 x1) (fun v22 => some (v22.1, v22.2)))))
def cascade_Run_P (σ : Store) (r : Piece × Int) : Value → Store → List Res → Prop := fun v σ' H' =>
 ∃ (a1 : Option Addr), ∃ (c1 : Nat),  v = .tuple #[.agg #[.string (bs r.1.text), .slice a1 r.1.at'.length c1], .int .i64 r.2] ∧ RS σ' 2 encSpan (.slice a1 r.1.at'.length c1) r.1.at' ∧ H' = []
theorem cascade_Run_con {σ : Store} {x0 : List Rule} {a0_0 : Option Addr} {c0_0 : Nat} {x1 : List UInt8} (f0_0 : RZ σ pkRule (.slice a0_0 x0.length c0_0) x0) {r : Piece × Int} (hh : cascade_Run x0 x1 = some r) :
  Con Tryz.prog 17 #[.slice a0_0 x0.length c0_0, .string (bs x1)] σ [] (cascade_Run_P σ r) := by
 dsimp only [cascade_Run] at hh
 have f0_0b := f0_0.big
 refine Con.mk (n := 24) Tryz.func17 z z z (fun w0 => ?_)
 have x1b := grd_c hh
 replace hh := grd_t hh
 refine TC.a (TL.op z (OpOk.box z z z z (fun b101 => ?_)))
 refine TL.op z (OpOk.alloc z ze36 z z (fun b103 => ?_))
 refine TL.i z z (TL.en (TC.a (TL.s z z (TL.w z (loadLoc z ag9 z (i := 1) z z) ?_))))
 obtain ⟨v6, u6, hh⟩ := bnd_e hh
 refine TL.op z (OpOk.call (cascade_plain_con f0_0 u6) z z pf46 z z z z ?_)
 rintro _ τ105 _ hle105 ⟨a105_1, c105_1, rfl, hr105_0, rfl⟩
 replace f0_0 := f0_0.mono hle105
 have hr105_0b := hr105_0.rv.big
 refine TL.w z (moveT (.inl z) z) (TL.w z (OpVal.extract z z z) (TL.w z (OpVal.extract z z z) (TL.op z (OpOk.alloc z ze36 z z (fun b106 => ?_)))))
 refine TL.op z (storeAll z sz36 z z z z z z ?_)
 refine TL.i z z (TL.en (TC.seq (TC.a (TL.i z z (TL.w z (OpVal.neq z z z) (TL.en (TC.cD z hh (fun h108 hh => ?_) (fun h108 hh => ?_))))))))
 ·refine TC.a (TL.w z (buildL z pl36 ze36 z) (TL.i z z (TL.front 1 z z (TL.op z (storeAll z sz36 z z z z z z ?_)))))
  refine TL.i z z (TL.en (TC.rt 1 (S.r ?_)))
  obtain rfl := so hh
  exact ro [] z (RVs.agg ag36 sz36 z (i := 0) z z (RVs.tmp z RVs.nil)) ⟨none, 0, z, (RS.nilF _ encSpan encSpan_len), z⟩
 ·refine TC.skip (S.n (TC.a (TL.s z z (TL.w z (loadAll z ag36 sz36 z (i := 0) z z) (TL.w z (makeFn z) (TL.front 2 z z ?_))))))
  obtain ⟨v22, u22, hh⟩ := bnd_e hh
  refine TL.op z (OpOk.call (foldP_con f0_0 hr105_0 u22) z z pf47 z z z z ?_)
  rintro _ τ109 _ hle109 ⟨a109_1, c109_2, rfl, hr109_3, rfl⟩
  have hr109_3b := hr109_3.rv.big
  refine TL.w z (OpVal.extract z z z) (TL.w z (OpVal.extract z z z) (TL.front 2 z z (TL.op z (storeAll z sz36 z z z z z z ?_))))
  refine TL.i z z (TL.en (TC.rt 1 ?_))
  obtain rfl := so hh
  exact ro [] z (RVs.agg ag36 sz36 z (i := 0) z z (RVs.tmp z RVs.nil)) ⟨a109_1, c109_2, z, hr109_3, z⟩

noncomputable def whittleref25_Few_j1 (x0 : List Rule) : Option (Bool) :=
 iteO (decide (((x0.length : Nat) : Int) ≤ 5)) (some true) (iteO (decide (64 < ((x0.length : Nat) : Int))) (some (decide (((x0.length : Nat) : Int) ≤ 70))) (some false))
noncomputable def whittleref25_Few_b1 (x0 : List Rule) (k103 : Nat) : Option ((Nat) ⊕ (Bool)) :=
 iteO (decide (((k103 : Nat) : Int) < ((x0.length : Nat) : Int))) (iteO (decide (((x0.length : Nat) : Int) ≤ 5)) (bnd (whittleref24_Few (nth x0 k103 Rule.zero)) (fun v16 => iteO (!v16) (fin (some false)) (nxt (k103 + 1)))) (fin (whittleref25_Few_j1 x0))) (fin (whittleref25_Few_j1 x0))
noncomputable def whittleref25_Few (x0 : List Rule) : Option (Bool) :=
 iter (fun q : Nat => whittleref25_Few_b1 x0 q) 0
theorem whittleref25_Few_con {σ : Store} {x0 : List Rule} {a0_0 : Option Addr} {c0_0 : Nat} (f0_0 : RZ σ pkRule (.slice a0_0 x0.length c0_0) x0) {r : Bool} (hh : whittleref25_Few x0 = some r) :
  Con Tryz.prog 16 #[.slice a0_0 x0.length c0_0] σ [] (PureP (.bool r) σ) := by
 dsimp only [whittleref25_Few] at hh
 have f0_0b := f0_0.big
 refine Con.mk (n := 34) Tryz.func16 z z z (fun w0 => ?_)
 refine TC.a (TL.j z z (TL.en (TC.cutG (α := (Unit) × (Unit)) (rgs [(2, 19)]) (fun g => []) (fun g => []) (fun g => σ) (fun g => whittleref25_Few_j1 x0 = some r) ?_ (fun g j hg => ?_))))
 ·skip
  refine TC.a (TL.i z z (TL.en (TC.block (TC.loopG (α := (Nat) × (Unit)) (rgs [(2, 19)]) (fun g => [(3, .int .i64 ((g.1 : Nat) : Int))]) (fun g => []) (fun g => σ) (fun g => iter (fun q : Nat => whittleref25_Few_b1 x0 q) g.1 = some r) (fun g => rounds (fun q : Nat => whittleref25_Few_b1 x0 q) g.1) (0, ()) (Sub.pre 0 z) z (by repeat (first | exact trivial | refine ⟨z, ?_⟩)) hh (fun g1 j1 hg1 => ?_)))))
  obtain ⟨k103, _⟩ := g1
  have hh := hg1; clear hg1
  try dsimp only
  obtain ⟨z1, hh, hR1⟩ := iter_e hh
  dsimp only [whittleref25_Few_b1] at hh
  refine TC.seq (TC.a (TL.i z z (TL.s z z (TL.w z (lenC z underlying45 z) (TL.w z (OpVal.lss z z z) (TL.j z z (TL.split 8 z (fun h104 => ?_) (fun h104 => ?_))))))))
  ·replace hh := iteO_t h104 hh
   replace h104 := of_decide_eq_true h104
   refine TL.g z (moveSl (.inl z) z) (TL.g z (lenC z underlying45 z) (TL.g z (OpVal.leq z z z) (TL.w z (pickTB z z z) (TL.en (TC.cD z hh (fun h105 hh => ?_) (fun h105 hh => ?_))))))
   ·refine TC.skip (S.n (TC.seq (TC.block (TC.a (TL.s z z (TL.i z z (TL.w z (indexN z underlying45 sz32 z z f0_0.isSl (by omega)) ?_)))))))
    obtain ⟨p106, hk106, hg106⟩ := RZ.seg f0_0 k103 (by omega)
    replace hk106 : RRule _ (nth x0 k103 Rule.zero) p106 := hk106
    have hk106b := hk106.o.c.rv.big
    refine TL.w z (loadSegA z ag32 sz32 z hg106 z) ?_
    obtain ⟨v16, u16, hh⟩ := bnd_e hh
    refine TL.op z (callP (whittleref24_Few_con (x0 := (nth x0 k103 Rule.zero)) hk106.o.c hk106.o.n hk106.o.e hk106.l.c hk106.l.n hk106.l.e hk106.r.c hk106.r.n hk106.r.e hk106.b.n hk106.b.o hk106.b.e hk106.b.t u16) z z pf7 z z z ?_)
    refine TL.w z (OpVal.not z z) (TL.en (TC.cB z hh (fun h107 hh => ?_) (fun h107 hh => ?_)))
    ·refine TC.a (TL.j z z (TL.en (TC.ret (B.r (S.r (S.r ?_))))))
     replace hh := fin_x hR1 hh
     refine B.r (S.r ?_)
     obtain rfl := so hh
     exact rq [2] ⟨z, z, z⟩
    ·refine TC.skip (B.n (S.n (TC.region (TL.i z z (TL.w z (OpVal.succ z z z (by omega)) (TL.i z z (TL.en ?_)))))))
     obtain ⟨hh, hlt108⟩ := nxt_x hR1 hh
     exact lf ((k103 + 1), ()) hlt108 hh (Sub.pre 0 z)
   ·refine TC.exit (S.x (S.x ?_))
    replace hh := fin_x hR1 hh
    exact TC.exitHere (S.n (cf ((), ()) hh (Sub.pre 0 z)))
  ·replace hh := iteO_f h104 hh
   replace h104 := of_decide_eq_false h104
   refine TL.f z (TL.f z (TL.f z (TL.w z (pickFB z z z) (TL.en (TC.f z (TC.exit (S.x (S.x ?_))))))))
   replace hh := fin_x hR1 hh
   exact TC.exitHere (S.n (cf ((), ()) hh (Sub.pre 0 z)))
 ·skip
  obtain ⟨_, _⟩ := g
  have hh := hg; clear hg
  try dsimp only
  dsimp only [whittleref25_Few_j1] at hh
  refine TC.a (TL.s z z (TL.w z (lenC z underlying45 z) (TL.w z (OpVal.leq z z z) (TL.j z z (TL.split 24 z (fun h109 => ?_) (fun h109 => ?_))))))
  ·replace hh := iteO_t h109 hh
   replace h109 := of_decide_eq_true h109
   refine TL.f z (TL.f z (TL.f z (TL.f z (TL.f z (TL.f z (TL.f z (TL.f z (TL.w z (pickTB z z z) (TL.j z z (TL.en (TC.ret ?_)))))))))))
   obtain rfl := so hh
   exact rq [2] ⟨z, z, z⟩
  ·replace hh := iteO_f h109 hh
   replace h109 := of_decide_eq_false h109
   refine TL.g z (moveSl (.inl z) z) (TL.g z (lenC z underlying45 z) (TL.g z (OpVal.gtr z z z) (TL.g z (moveB (.inl z) z) (TL.split 28 z (fun h110 => ?_) (fun h110 => ?_)))))
   ·replace hh := iteO_t h110 hh
    replace h110 := of_decide_eq_true h110
    refine TL.g z (moveSl (.inl z) z) (TL.g z (lenC z underlying45 z) (TL.g z (OpVal.leq z z z) (TL.g z (pickTB z z z) (TL.w z (pickFB z z z) (TL.j z z (TL.en (TC.ret ?_)))))))
    obtain rfl := so hh
    exact rq [2] ⟨z, z, z⟩
   ·replace hh := iteO_f h110 hh
    replace h110 := of_decide_eq_false h110
    refine TL.f z (TL.f z (TL.f z (TL.g z (pickFB z z z) (TL.w z (pickFB z z z) (TL.j z z (TL.en (TC.ret ?_)))))))
    obtain rfl := so hh
    exact rq [2] ⟨z, z, z⟩

noncomputable def whittlelaw25_all : Option (Dfa) :=
 some (⟨(List.replicate 256 (0 : Int)), [[0]], [true]⟩ : Dfa)
def whittlelaw25_all_P (σ : Store) (r : Dfa) : Value → Store → List Res → Prop := fun v σ' H' =>
 ∃ (a1 : Option Addr), ∃ (c1 : Nat), ∃ (a2 : Option Addr), ∃ (c2 : Nat), ∃ (a3 : Option Addr), ∃ (c3 : Nat),  v = .agg #[.slice a1 r.cls.length c1, .slice a2 r.next.length c2, .slice a3 r.fin.length c3] ∧ RS σ' 1 Go.E.encI (.slice a1 r.cls.length c1) r.cls ∧ RZ σ' (pkSl 1 Go.E.encI Go.E.encI_len) (.slice a2 r.next.length c2) r.next ∧ RS σ' 1 encB (.slice a3 r.fin.length c3) r.fin ∧ H' = []
theorem whittlelaw25_all_con {σ : Store}   {r : Dfa} (hh : whittlelaw25_all = some r) :
  Con Tryz.prog 88 #[] σ [] (whittlelaw25_all_P σ r) := by
 dsimp only [whittlelaw25_all] at hh
 refine Con.mk (n := 6) Tryz.func88 z z z (fun w0 => ?_)
 refine TC.a (TL.op z (OpOk.alloc z ze26 z z (fun b101 => ?_)))
 refine TL.en (TC.a (TL.op z (makeS2 (m := 256) (enc := Go.E.encI) (0 : Int) z underlying22 sz3 by3 ze3 z z z z (by omega) (by decide) Go.E.encI_len (by decide) z Go.E.encI_one (fun a103 c104 => ?_))))
 refine TL.op z (OpOk.lit (enc := Go.E.encI) [0] z underlying22 sz3 ze3 z z z Go.E.encI_len (by decide) (by decide) (0 : Int) z (by decide) z (by decide) Go.E.encI_one (fun a106 c107 => ?_))
 refine TL.sealS Go.E.encI_len (fun τ113 hle112 hr111 => ?_)
 have hr111b := hr111.rv.big
 have zf114 : ZOk _ (pkSl 1 Go.E.encI Go.E.encI_len) ([([0], (a106, c107))] : List (List Int × (pkSl 1 Go.E.encI Go.E.encI_len).P)) [[0]] := ZOk.cons (hr111) (ZOk.nil _ _)
 refine TL.op z (litZ zf114 z underlying23 sz22 z ze22 z z z (by decide) (by decide) z (by decide) z (by decide) (fun a109 c110 => ?_))
 refine TL.op z (OpOk.lit (enc := encB) [true] z underlying24 sz4 ze4 z z z encB_len (by decide) (by decide) false z (by decide) z (by decide) encB_one (fun a116 c117 => ?_))
 refine TL.w z (buildL z pl26 ze26 z) (TL.front 3 z z (TL.op z (storeAll z sz26 z z z z z z ?_)))
 refine TL.en (TC.front 3 z z (TC.sealS Go.E.encI_len (fun τ121 hle120 hr119 => ?_)))
 replace zf114 := zf114.mono hle120
 have hr119b := hr119.rv.big
 refine TC.front 2 z z (TC.sealZ zf114 (fun τ124 hle123 hr122 => ?_))
 replace hr119 := hr119.mono hle123
 have hr122b := hr122.big
 refine TC.front 1 z z (TC.sealS encB_len (fun τ127 hle126 hr125 => ?_))
 replace hr119 := hr119.mono hle126
 replace hr122 := hr122.mono hle126
 have hr125b := hr125.rv.big
 refine TC.ret ?_
 obtain rfl := so hh
 exact ro [] z (RVs.agg ag26 sz26 z (i := 0) z z RVs.nil) ⟨a103, c104, a109, c110, a116, c117, z, hr119, hr122, hr125, z⟩

noncomputable def whittlelaw25_rule (x0 : UInt8) (x1 : List UInt8) : Option (Rule) :=
 grd (x1.length ≤ 281474976710656) (grd ([x0].length ≤ 1000000000000) (bnd (dfa_Of (setN (BSet.ofL [x0]))) (fun v6 => bnd (whittlelaw25_all) (fun v14 => bnd (whittlelaw25_all) (fun v15 => some (⟨v6.1, v14, v15, x1, false, (⟨([] : List UInt8), ([] : List (List Int)), ([] : List (List (List UInt8))), ([] : List Bool), ([] : List (List UInt8))⟩ : Seq)⟩ : Rule))))))
def whittlelaw25_rule_P (σ : Store) (r : Rule) : Value → Store → List Res → Prop := fun v σ' H' =>
 ∃ (a1 : Option Addr), ∃ (c1 : Nat), ∃ (a2 : Option Addr), ∃ (c2 : Nat), ∃ (a3 : Option Addr), ∃ (c3 : Nat), ∃ (a4 : Option Addr), ∃ (c4 : Nat), ∃ (a5 : Option Addr), ∃ (c5 : Nat), ∃ (a6 : Option Addr), ∃ (c6 : Nat), ∃ (a7 : Option Addr), ∃ (c7 : Nat), ∃ (a8 : Option Addr), ∃ (c8 : Nat), ∃ (a9 : Option Addr), ∃ (c9 : Nat), ∃ (a10 : Option Addr), ∃ (c10 : Nat), ∃ (a11 : Option Addr), ∃ (c11 : Nat), ∃ (a12 : Option Addr), ∃ (c12 : Nat), ∃ (a13 : Option Addr), ∃ (c13 : Nat),  v = .agg #[.slice a1 r.of.cls.length c1, .slice a2 r.of.next.length c2, .slice a3 r.of.fin.length c3, .slice a4 r.left.cls.length c4, .slice a5 r.left.next.length c5, .slice a6 r.left.fin.length c6, .slice a7 r.right.cls.length c7, .slice a8 r.right.next.length c8, .slice a9 r.right.fin.length c9, .string (bs r.out), .bool r.mapped, .string (bs r.by'.front), .slice a10 r.by'.next.length c10, .slice a11 r.by'.outs.length c11, .slice a12 r.by'.fin.length c12, .slice a13 r.by'.tail.length c13] ∧ RS σ' 1 Go.E.encI (.slice a1 r.of.cls.length c1) r.of.cls ∧ RZ σ' (pkSl 1 Go.E.encI Go.E.encI_len) (.slice a2 r.of.next.length c2) r.of.next ∧ RS σ' 1 encB (.slice a3 r.of.fin.length c3) r.of.fin ∧ RS σ' 1 Go.E.encI (.slice a4 r.left.cls.length c4) r.left.cls ∧ RZ σ' (pkSl 1 Go.E.encI Go.E.encI_len) (.slice a5 r.left.next.length c5) r.left.next ∧ RS σ' 1 encB (.slice a6 r.left.fin.length c6) r.left.fin ∧ RS σ' 1 Go.E.encI (.slice a7 r.right.cls.length c7) r.right.cls ∧ RZ σ' (pkSl 1 Go.E.encI Go.E.encI_len) (.slice a8 r.right.next.length c8) r.right.next ∧ RS σ' 1 encB (.slice a9 r.right.fin.length c9) r.right.fin ∧ RZ σ' (pkSl 1 Go.E.encI Go.E.encI_len) (.slice a10 r.by'.next.length c10) r.by'.next ∧ RZ σ' (pkSl 1 Go.E.encS Go.E.encS_len) (.slice a11 r.by'.outs.length c11) r.by'.outs ∧ RS σ' 1 encB (.slice a12 r.by'.fin.length c12) r.by'.fin ∧ RS σ' 1 Go.E.encS (.slice a13 r.by'.tail.length c13) r.by'.tail ∧ H' = []
theorem whittlelaw25_rule_con {σ : Store} {x0 : UInt8} {x1 : List UInt8} (hgl : GT σ 0 encU8 deB) {r : Rule} (hh : whittlelaw25_rule x0 x1 = some r) :
  Con Tryz.prog 50 #[.int .u8 ((x0.toNat : Nat) : Int), .string (bs x1)] σ [] (whittlelaw25_rule_P σ r) := by
 dsimp only [whittlelaw25_rule] at hh
 refine Con.mk (n := 20) Tryz.func50 z z z (fun w0 => ?_)
 have x1b := grd_c hh
 replace hh := grd_t hh
 refine TC.a (TL.op z (OpOk.alloc z ze32 z z (fun b101 => ?_)))
 refine TL.en (TC.a (TL.i z z (TL.op z (OpOk.lit (enc := encU8) [x0] z underlying66 sz5 ze5 z z z encU8_len (by decide) (by decide) (0 : UInt8) z (by decide) z (by decide) encU8_one (fun a103 c104 => ?_)))))
 have u4 := grd_c hh
 replace hh := grd_t hh
 refine TL.op z (callT (of_con _ _ _ [x0] u4) z z pf40 z z z z ?_)
 refine TL.op z (OpOk.call (set_con _ (BSet.ofL [x0]) (BSet.isOk _)) z z pf39 z z z z ?_)
 rintro _ τ106 _ hle106 ⟨p106, rfl, hn106, rfl⟩
 replace hgl := hgl.mono hle106
 have hn106sb := hn106.s.rv.big
 have hn106eb := hn106.e.rv.big
 have hn106db := hn106.d.rv.big
 obtain ⟨v6, u6, hh⟩ := bnd_e hh
 refine TL.op z (OpOk.call (dfa_Of_con (x0 := (setN (BSet.ofL [x0]))) hgl hn106.s hn106.e hn106.d u6) z z pf41 z z z z ?_)
 rintro _ τ107 _ hle107 ⟨a107_1, c107_1, a107_2, c107_2, a107_3, c107_3, rfl, hr107_0, hr107_1, hr107_2, rfl⟩
 have hr107_0b := hr107_0.rv.big
 have hr107_1b := hr107_1.big
 have hr107_2b := hr107_2.rv.big
 refine TL.w z (moveT (.inl z) z) (TL.w z (OpVal.extract z z z) (TL.w z (OpVal.extract z z z) (TL.op z (OpOk.alloc z ze26 z z (fun b108 => ?_)))))
 refine TL.op z (storeAll z sz26 z z z z z z ?_)
 refine TL.i z z (TL.en (TC.seq ?_))
 obtain ⟨v14, u14, hh⟩ := bnd_e hh
 obtain ⟨v15, u15, hh⟩ := bnd_e hh
 refine TC.draw [5] (by kernel_rfl) (TA.b 0 z (loadAll z ag26 sz26 z (i := 0) z z) z (TA.a 3 z (moveStr (.inl z) z) z (TA.ac 1 z (OpOk.call (whittlelaw25_all_con u14) z z pf88 z z z z ?_))))
 rintro _ τ112 _ hle112 ⟨a112_1, c112_1, a112_2, c112_2, a112_3, c112_3, rfl, hr112_0, hr112_1, hr112_2, rfl⟩
 replace hr107_0 := hr107_0.mono hle112
 replace hr107_1 := hr107_1.mono hle112
 replace hr107_2 := hr107_2.mono hle112
 have hr112_0b := hr112_0.rv.big
 have hr112_1b := hr112_1.big
 have hr112_2b := hr112_2.rv.big
 refine kl 0 hle112 (TA.ac 2 z (OpOk.call (whittlelaw25_all_con u15) z z pf88 z z z z ?_))
 rintro _ τ113 _ hle113 ⟨a113_1, c113_1, a113_2, c113_2, a113_3, c113_3, rfl, hr113_0, hr113_1, hr113_2, rfl⟩
 replace hr107_0 := hr107_0.mono hle113
 replace hr107_1 := hr107_1.mono hle113
 replace hr107_2 := hr107_2.mono hle113
 replace hr112_0 := hr112_0.mono hle113
 replace hr112_1 := hr112_1.mono hle113
 replace hr112_2 := hr112_2.mono hle113
 have hr113_0b := hr113_0.rv.big
 have hr113_1b := hr113_1.big
 have hr113_2b := hr113_2.rv.big
 refine kl 0 (hle112.trans hle113) (TA.a 4 z (buildL z pl32 ze32 z) z (TA.front 1 z z (TA.last 5 (by kernel_rfl) z z z (storeAll z sz32 z z z z z z ?_))))
 refine TZ.done (by kernel_rfl) (S.n (TC.rt 1 ?_))
 obtain rfl := so hh
 exact ro [] z (RVs.agg ag32 sz32 z (i := 0) z z RVs.nil) ⟨a107_1, c107_1, a107_2, c107_2, a107_3, c107_3, a112_1, c112_1, a112_2, c112_2, a112_3, c112_3, a113_1, c113_1, a113_2, c113_2, a113_3, c113_3, none, 0, none, 0, none, 0, none, 0, z, hr107_0, hr107_1, hr107_2, hr112_0, hr112_1, hr112_2, hr113_0, hr113_1, hr113_2, (RZ.nilF _ (pkSl 1 Go.E.encI Go.E.encI_len)), (RZ.nilF _ (pkSl 1 Go.E.encS Go.E.encS_len)), (RS.nilF _ encB encB_len), (RS.nilF _ Go.E.encS Go.E.encS_len), z⟩

noncomputable def whittlelaw25_awake : Option (Bool) :=
 bnd (whittlelaw25_rule (97 : UInt8) ([98, 98] : List UInt8)) (fun v2 => bnd (whittlelaw25_rule (98 : UInt8) ([99] : List UInt8)) (fun v3 => bnd (cascade_Run [v2, v3] ([120, 97] : List UInt8)) (fun v5 => iteO (decide (v5.2 = 0)) (iteO (decide (v5.1.text = ([120, 99, 99] : List UInt8))) (bnd (whittleref04_Same v5.1.at' [(⟨0, 1⟩ : Span), (⟨1, 2⟩ : Span), (⟨1, 2⟩ : Span)]) (fun v29 => some v29)) (some false)) (some false))))
theorem whittlelaw25_awake_con {σ : Store}  (hgl : GT σ 0 encU8 deB) {r : Bool} (hh : whittlelaw25_awake = some r) :
  Con Tryz.prog 18 #[] σ [] (PureP (.bool r) σ) := by
 dsimp only [whittlelaw25_awake] at hh
 refine Con.mk (n := 28) Tryz.func18 z z z (fun w0 => ?_)
 refine TC.a (TL.j z z (TL.en (TC.a ?_)))
 obtain ⟨v2, u2, hh⟩ := bnd_e hh
 refine TL.op z (OpOk.call (whittlelaw25_rule_con hgl u2) z z pf50 z z z z ?_)
 rintro _ τ101 _ hle101 ⟨a101_1, c101_1, a101_2, c101_2, a101_3, c101_3, a101_4, c101_4, a101_5, c101_5, a101_6, c101_6, a101_7, c101_7, a101_8, c101_8, a101_9, c101_9, a101_10, c101_10, a101_11, c101_11, a101_12, c101_12, a101_13, c101_13, rfl, hr101_0, hr101_1, hr101_2, hr101_3, hr101_4, hr101_5, hr101_6, hr101_7, hr101_8, hr101_9, hr101_10, hr101_11, hr101_12, rfl⟩
 replace hgl := hgl.mono hle101
 have hr101_0b := hr101_0.rv.big
 have hr101_1b := hr101_1.big
 have hr101_2b := hr101_2.rv.big
 have hr101_3b := hr101_3.rv.big
 have hr101_4b := hr101_4.big
 have hr101_5b := hr101_5.rv.big
 have hr101_6b := hr101_6.rv.big
 have hr101_7b := hr101_7.big
 have hr101_8b := hr101_8.rv.big
 have hr101_9b := hr101_9.big
 have hr101_10b := hr101_10.big
 have hr101_11b := hr101_11.rv.big
 have hr101_12b := hr101_12.rv.big
 obtain ⟨v3, u3, hh⟩ := bnd_e hh
 refine TL.op z (OpOk.call (whittlelaw25_rule_con hgl u3) z z pf50 z z z z ?_)
 rintro _ τ102 _ hle102 ⟨a102_1, c102_1, a102_2, c102_2, a102_3, c102_3, a102_4, c102_4, a102_5, c102_5, a102_6, c102_6, a102_7, c102_7, a102_8, c102_8, a102_9, c102_9, a102_10, c102_10, a102_11, c102_11, a102_12, c102_12, a102_13, c102_13, rfl, hr102_0, hr102_1, hr102_2, hr102_3, hr102_4, hr102_5, hr102_6, hr102_7, hr102_8, hr102_9, hr102_10, hr102_11, hr102_12, rfl⟩
 replace hr101_0 := hr101_0.mono hle102
 replace hr101_1 := hr101_1.mono hle102
 replace hr101_2 := hr101_2.mono hle102
 replace hr101_3 := hr101_3.mono hle102
 replace hr101_4 := hr101_4.mono hle102
 replace hr101_5 := hr101_5.mono hle102
 replace hr101_6 := hr101_6.mono hle102
 replace hr101_7 := hr101_7.mono hle102
 replace hr101_8 := hr101_8.mono hle102
 replace hr101_9 := hr101_9.mono hle102
 replace hr101_10 := hr101_10.mono hle102
 replace hr101_11 := hr101_11.mono hle102
 replace hr101_12 := hr101_12.mono hle102
 have hr102_0b := hr102_0.rv.big
 have hr102_1b := hr102_1.big
 have hr102_2b := hr102_2.rv.big
 have hr102_3b := hr102_3.rv.big
 have hr102_4b := hr102_4.big
 have hr102_5b := hr102_5.rv.big
 have hr102_6b := hr102_6.rv.big
 have hr102_7b := hr102_7.big
 have hr102_8b := hr102_8.rv.big
 have hr102_9b := hr102_9.big
 have hr102_10b := hr102_10.big
 have hr102_11b := hr102_11.rv.big
 have hr102_12b := hr102_12.rv.big
 have zf105 : ZOk _ pkRule ([(v2, ⟨⟨a101_1, c101_1, a101_2, c101_2, a101_3, c101_3⟩, ⟨a101_4, c101_4, a101_5, c101_5, a101_6, c101_6⟩, ⟨a101_7, c101_7, a101_8, c101_8, a101_9, c101_9⟩, ⟨a101_10, c101_10, a101_11, c101_11, a101_12, c101_12, a101_13, c101_13⟩⟩), (v3, ⟨⟨a102_1, c102_1, a102_2, c102_2, a102_3, c102_3⟩, ⟨a102_4, c102_4, a102_5, c102_5, a102_6, c102_6⟩, ⟨a102_7, c102_7, a102_8, c102_8, a102_9, c102_9⟩, ⟨a102_10, c102_10, a102_11, c102_11, a102_12, c102_12, a102_13, c102_13⟩⟩)] : List (Rule × pkRule.P)) [v2, v3] := ZOk.cons (⟨⟨hr101_0, hr101_1, hr101_2⟩, ⟨hr101_3, hr101_4, hr101_5⟩, ⟨hr101_6, hr101_7, hr101_8⟩, ⟨hr101_9, hr101_10, hr101_11, hr101_12⟩⟩) (ZOk.cons (⟨⟨hr102_0, hr102_1, hr102_2⟩, ⟨hr102_3, hr102_4, hr102_5⟩, ⟨hr102_6, hr102_7, hr102_8⟩, ⟨hr102_9, hr102_10, hr102_11, hr102_12⟩⟩) (ZOk.nil _ _))
 refine TL.op z (litZ zf105 z underlying45 sz32 z ze32 z z z (by decide) (by decide) z (by decide) z (by decide) (fun a103 c104 => ?_))
 refine TL.sealZ zf105 (fun τ109 hle108 hr107 => ?_)
 have hr107b := hr107.big
 obtain ⟨v5, u5, hh⟩ := bnd_e hh
 refine TL.op z (OpOk.call (cascade_Run_con hr107 u5) z z pf17 z z z z ?_)
 rintro _ τ110 _ hle110 ⟨a110_1, c110_1, rfl, hr110_0, rfl⟩
 have hr110_0b := hr110_0.rv.big
 refine TL.w z (moveT (.inl z) z) (TL.w z (OpVal.extract z z z) (TL.w z (OpVal.extract z z z) (TL.op z (OpOk.alloc z ze36 z z (fun b111 => ?_)))))
 refine TL.op z (storeAll z sz36 z z z z z z ?_)
 refine TL.i z z (TL.en (TC.a (TL.w z (buildL z pl56 ze56 z) (TL.op z (OpOk.alloc z ze56 z z (fun b113 => ?_))))))
 refine TL.op z (storeAll z sz56 z z z z z z ?_)
 refine TL.en (TC.a (TL.i z z (TL.w z (OpVal.eql z z z) (TL.j z z (TL.split 14 z (fun h115 => ?_) (fun h115 => ?_))))))
 ·replace hh := iteO_t h115 hh
  replace h115 := of_decide_eq_true h115
  refine TL.g z (fieldLoc z fo36_0 z) (TL.g z (loadLoc z ag9 z (i := 1) z z) (TL.g z (eqlBs z z z) (TL.w z (pickTB z z z) (TL.j z z (TL.split 19 z (fun h116 => ?_) (fun h116 => ?_))))))
  ·replace hh := iteO_t h116 hh
   replace h116 := of_decide_eq_true h116
   refine TL.g z (fieldLoc z fo36_1 z) (TL.g z (loadLoc z ag34 z (i := 1) z z) (TL.g z (buildL z pl56 ze56 z) (TL.g z (loadAll z ag56 sz56 z (i := 0) z z) (TL.g z (loadAll z ag56 sz56 z (i := 0) z z) (TL.gon z z z z z (OpOk.lit (enc := encSpan) [(⟨0, 1⟩ : Span), (⟨1, 2⟩ : Span), (⟨1, 2⟩ : Span)] z underlying34 sz56 ze56 z z z encSpan_len (by decide) (by decide) Span.zero z (by decide) z (by decide) encSpan_one (fun a117 c118 => ?_)))))))
   obtain ⟨v29, u29, hh⟩ := bnd_e hh
   refine TL.gon z z z z z (callK (Con.lend encSpan_len (fun _ hle121 hr120 => whittleref04_Same_con (hr110_0.mono hle121) hr120 u29)) z z pf45 z z z z ?_)
   refine TL.w z (pickTB z z z) (TL.j z z (TL.en (TC.ofSub (Sub.pre 0 z) (TC.back (TC.ret ?_)))))
   obtain rfl := so hh
   exact rq [0] ⟨z, z, z⟩
  ·replace hh := iteO_f h116 hh
   replace h116 := of_decide_eq_false h116
   refine TL.f z (TL.f z (TL.f z (TL.f z (TL.f z (TL.f z (TL.f z (TL.w z (pickFB z z z) (TL.j z z (TL.en (TC.ofSub (Sub.pre 0 z) (TC.back (TC.ret ?_))))))))))))
   obtain rfl := so hh
   exact rq [0] ⟨z, z, z⟩
 ·replace hh := iteO_f h115 hh
  replace h115 := of_decide_eq_false h115
  refine TL.f z (TL.f z (TL.f z (TL.w z (pickFB z z z) (TL.j z z (TL.f z (TL.f z (TL.f z (TL.f z (TL.f z (TL.f z (TL.f z (TL.w z (pickFB z z z) (TL.j z z (TL.en (TC.ofSub (Sub.pre 0 z) ?_)))))))))))))))
  refine TC.back (TC.ret ?_)
  obtain rfl := so hh
  exact rq [0] ⟨z, z, z⟩

end Go.Proofs.YtmfclggfajopkaaGreatDoor
end

/- R2r -/
section
/- Decompiled: the reference's factors. -/
set_option linter.unusedVariables false
set_option linter.unusedSimpArgs false
namespace Go.Proofs.YtmfclggfajopkaaGreatDoor
open Go Go.E Go.E.OpVal Go.E.OpOk Go.Proofs.Tryz
set_option maxRecDepth 100000
private theorem by86 : Go.E.byOf Tryz.prog 86 = some 32 := by kernel_rfl
private theorem fo26_0 : Go.E.foOf Tryz.prog 26 0 = some 0 := by kernel_rfl
private theorem fo26_1 : Go.E.foOf Tryz.prog 26 1 = some 1 := by kernel_rfl
private theorem fo26_2 : Go.E.foOf Tryz.prog 26 2 = some 2 := by kernel_rfl
private theorem pf116 : Go.E.plainF Tryz.prog 116 = true := by kernel_rfl
private theorem pf66 : Go.E.plainF Tryz.prog 66 = true := by kernel_rfl
private theorem pf68 : Go.E.plainF Tryz.prog 68 = true := by kernel_rfl
private theorem pf69 : Go.E.plainF Tryz.prog 69 = true := by kernel_rfl
private theorem pf70 : Go.E.plainF Tryz.prog 70 = true := by kernel_rfl
private theorem pf97 : Go.E.plainF Tryz.prog 97 = true := by kernel_rfl
private theorem pf98 : Go.E.plainF Tryz.prog 98 = true := by kernel_rfl
theorem make_conL (σ : Store) (a : Option Addr) (c : Nat) (l : List Bool) (h256 : l.length = 256) :
  Con Tryz.prog 116 #[.slice a l.length c] σ [Res.rowS 4 1 encB (.slice a l.length c) l] (PureP (setV (BSet.make fun i => nth l i false)) σ) := by
 rw [h256]; exact make_con σ a c l h256

noncomputable def whittleref02_Sets_b3 (x0 : List Int) (k126 : Nat) (l123 : List BSet) (l139 : List Bool) (k141 : Nat) : Option (((List Bool) × Nat) ⊕ (((List BSet) × Nat) ⊕ ((List BSet) × Int))) :=
 iteO (decide (((k141 : Nat) : Int) < 256)) (grd (k141 < x0.length) (grd (k141 < l139.length) (nxt ((l139.set k141 (decide ((nth x0 k141 (0 : Int)) = ((k126 : Nat) : Int)))), (k141 + 1))))) (fin (grd (l139.length = 256) (grd ((l123.length + [(BSet.make fun i => nth l139 i false)].length) * 32 ≤ 140737488355328) (grd (k126 + 1 ≤ 9223372036854775807) (nxt ((l123 ++ [(BSet.make fun i => nth l139 i false)]), (k126 + 1)))))))
noncomputable def whittleref02_Sets_b2 (i106 : Int) (x0 : List Int) (l123 : List BSet) (k126 : Nat) : Option (((List BSet) × Nat) ⊕ ((List BSet) × Int)) :=
 iteO (decide (((k126 : Nat) : Int) ≤ i106)) (iter (fun q : (List Bool) × Nat => whittleref02_Sets_b3 x0 k126 l123 q.1 q.2) ((List.replicate 256 false), 0)) (fin (some (l123, 0)))
noncomputable def whittleref02_Sets_b1 (x0 : List Int) (i106 : Int) (k107 : Nat) : Option ((Int × Nat) ⊕ ((List BSet) × Int)) :=
 iteO (decide (((k107 : Nat) : Int) < 256)) (grd (k107 < x0.length) (iteO (decide ((nth x0 k107 (0 : Int)) < 0)) (fin (some (([] : List BSet), 1))) (grd (k107 < x0.length) (iteO (decide ((IntKind.i64.wrap (i106 + 1)) < (nth x0 k107 (0 : Int)))) (fin (some (([] : List BSet), 1))) (grd (k107 < x0.length) (nxt ((max i106 (nth x0 k107 (0 : Int))), (k107 + 1)))))))) (fin (iter (fun q : (List BSet) × Nat => whittleref02_Sets_b2 i106 x0 q.1 q.2) (([] : List BSet), 0)))
noncomputable def whittleref02_Sets (x0 : List Int) : Option ((List BSet) × Int) :=
 iteO (decide (((x0.length : Nat) : Int) ≠ 256)) (some (([] : List BSet), 1)) (iter (fun q : Int × Nat => whittleref02_Sets_b1 x0 q.1 q.2) ((-1), 0))
def whittleref02_Sets_P (σ : Store) (r : (List BSet) × Int) : Value → Store → List Res → Prop := fun v σ' H' =>
 ∃ (a1 : Option Addr), ∃ (c1 : Nat),  v = .tuple #[.slice a1 r.1.length c1, .int .i64 r.2] ∧ RS σ' 4 encSet (.slice a1 r.1.length c1) r.1 ∧ H' = []
theorem whittleref02_Sets_con {σ : Store} {x0 : List Int} {a0_0 : Option Addr} {c0_0 : Nat} (f0_0 : RS σ 1 Go.E.encI (.slice a0_0 x0.length c0_0) x0) {r : (List BSet) × Int} (hh : whittleref02_Sets x0 = some r) :
  Con Tryz.prog 97 #[.slice a0_0 x0.length c0_0] σ [] (whittleref02_Sets_P σ r) := by
 dsimp only [whittleref02_Sets] at hh
 have f0_0b := f0_0.rv.big
 refine Con.mk (n := 62) Tryz.func97 z z z (fun w0 => ?_)
 refine TC.a (TL.s z z (TL.i z z (TL.en (TC.seq (TC.a (TL.s z z (TL.w z (lenC z underlying22 z) (TL.w z (OpVal.neq z z z) (TL.en (TC.cD z hh (fun h101 hh => ?_) (fun h101 hh => ?_)))))))))))
 ·refine TC.a (TL.s z z (TL.i z z (TL.en (TC.ret (S.r ?_)))))
  obtain rfl := so hh
  exact rq [2, 3] ⟨none, 0, z, (RS.nilF _ encSet encSet_len), z⟩
 ·refine TC.skip (S.n (TC.a (TL.i z z (TL.en (TC.seq (TC.a (TL.i z z (TL.en (TC.block (TC.loopG (α := (Int × Nat) × (Unit)) (rgs [(2, 4), (13, 24)]) (fun g => [(4, .int .i64 g.1.1), (5, .int .i64 ((g.1.2 : Nat) : Int))]) (fun g => []) (fun g => σ) (fun g => iter (fun q : Int × Nat => whittleref02_Sets_b1 x0 q.1 q.2) g.1 = some r) (fun g => rounds (fun q : Int × Nat => whittleref02_Sets_b1 x0 q.1 q.2) g.1) (((-1), 0), ()) (Sub.pre 0 z) z (by repeat (first | exact trivial | refine ⟨z, ?_⟩)) hh (fun g1 j1 hg1 => ?_)))))))))))
  obtain ⟨⟨i106, k107⟩, _⟩ := g1
  have hh := hg1; clear hg1
  try dsimp only
  obtain ⟨z1, hh, hR1⟩ := iter_e hh
  dsimp only [whittleref02_Sets_b1] at hh
  refine TC.seq (TC.a (TL.i z z (TL.w z (OpVal.lss z z z) (TL.en (TC.cD z hh (fun h108 hh => ?_) (fun h108 hh => ?_))))))
  ·refine TC.skip (S.n (TC.seq (TC.block (TC.seq (TC.a (TL.s z z (TL.i z z ?_)))))))
   have u14 := grd_c hh
   replace hh := grd_t hh
   refine TL.w z (indexN z underlying22 sz3 z z f0_0.rv.sl (by omega)) (TL.w z (loadS1 (0 : Int) z ag3 z f0_0 (by omega) z) (TL.w z (OpVal.lss z z z) (TL.j z z (TL.split 22 z (fun h109 => ?_) (fun h109 => ?_)))))
   ·replace hh := iteO_t h109 hh
    replace h109 := of_decide_eq_true h109
    refine TL.f z (TL.f z (TL.f z (TL.f z (TL.f z (TL.f z (TL.f z (TL.w z (pickTB z z z) (TL.en (TC.t z (TC.a (TL.s z z (TL.i z z (TL.en (TC.ret (S.r ?_)))))))))))))))
    refine B.r (S.r (S.r ?_))
    replace hh := fin_x hR1 hh
    refine B.r (S.r ?_)
    obtain rfl := so hh
    exact rq [2, 3] ⟨none, 0, z, (RS.nilF _ encSet encSet_len), z⟩
   ·replace hh := iteO_f h109 hh
    replace h109 := of_decide_eq_false h109
    refine TL.g z (moveSl (.inl z) z) (TL.g z (moveI (.inl z) z) ?_)
    have u20 := grd_c hh
    replace hh := grd_t hh
    refine TL.g z (indexN z underlying22 sz3 z z f0_0.rv.sl (by omega)) (TL.g z (loadS1 (0 : Int) z ag3 z f0_0 (by omega) z) (TL.g z (moveI (.inl z) z) (TL.g z (addW z z z) (TL.g z (OpVal.gtr z z z) (TL.w z (pickFB z z z) (TL.en (TC.cD z hh (fun h110 hh => ?_) (fun h110 hh => ?_))))))))
    ·refine TC.a (TL.s z z (TL.i z z (TL.en (TC.ret (S.r (B.r (S.r (S.r ?_))))))))
     replace hh := fin_x hR1 hh
     refine B.r (S.r ?_)
     obtain rfl := so hh
     exact rq [2, 3] ⟨none, 0, z, (RS.nilF _ encSet encSet_len), z⟩
    ·refine TC.skip (S.n (TC.region (TL.i z z (TL.s z z (TL.i z z ?_)))))
     have u31 := grd_c hh
     replace hh := grd_t hh
     refine TL.w z (indexN z underlying22 sz3 z z f0_0.rv.sl (by omega)) (TL.w z (loadS1 (0 : Int) z ag3 z f0_0 (by omega) z) (TL.w z (maxI z z z) (TL.i z z (TL.nil (B.n (S.n (TC.region (TL.i z z (TL.w z (OpVal.succ z z z (by omega)) (TL.i z z (TL.en ?_)))))))))))
     obtain ⟨hh, hlt111⟩ := nxt_x hR1 hh
     exact lf (((max i106 (nth x0 k107 (0 : Int))), (k107 + 1)), ()) hlt111 hh (Sub.pre 0 z)
  ·refine TC.exit (S.x (S.x ?_))
   replace hh := fin_x hR1 hh
   refine TC.exitHere (S.n (TC.a (TL.s z z (TL.en (TC.seq (TC.a (TL.i z z (TL.en (TC.block (TC.nilS 86 4 encSet (TC.loopG (α := ((List BSet) × Nat) × ((Option Addr) × Nat)) (rgs [(6, 4), (37, 24)]) (fun g => [(6, .slice g.2.1 g.1.1.length g.2.2), (7, .int .i64 ((g.1.2 : Nat) : Int))]) (fun g => [Res.rowS 86 4 encSet (.slice g.2.1 g.1.1.length g.2.2) g.1.1]) (fun g => σ) (fun g => iter (fun q : (List BSet) × Nat => whittleref02_Sets_b2 i106 x0 q.1 q.2) g.1 = some r) (fun g => rounds (fun q : (List BSet) × Nat => whittleref02_Sets_b2 i106 x0 q.1 q.2) g.1) ((([] : List BSet), 0), (none, 0)) (Sub.pre 1 z) z (by repeat (first | exact trivial | refine ⟨z, ?_⟩)) hh (fun g2 j2 hg2 => ?_))))))))))))
   obtain ⟨⟨l123, k126⟩, ⟨a124, c125⟩⟩ := g2
   have hh := hg2; clear hg2
   try dsimp only
   obtain ⟨z1, hh, hR1⟩ := iter_e hh
   dsimp only [whittleref02_Sets_b2] at hh
   refine TC.isSl (i := 0) z (fun _ hb128 _ => ?_)
   refine TC.seq (TC.a (TL.i z z (TL.i z z (TL.w z (OpVal.leq z z z) (TL.en (TC.cD z hh (fun h129 hh => ?_) (fun h129 hh => ?_)))))))
   ·refine TC.skip (S.n (TC.seq (TC.block (TC.a (TL.op z (makeS2 (m := 256) (enc := encB) false z underlying24 sz4 by4 ze4 z z z z (by omega) (by decide) encB_len (by decide) z encB_one (fun a130 c131 => ?_)))))))
    refine TL.s z z (TL.en (TC.seq (TC.a (TL.i z z (TL.en (TC.block (TC.loopG (α := ((List Bool) × Nat) × (Unit)) (rgs [(9, 1), (43, 13)]) (fun g => [(9, .int .i64 ((g.1.2 : Nat) : Int))]) (fun g => [Res.rowS 86 4 encSet (.slice a124 l123.length c125) l123, Res.rowS 4 1 encB (.slice a130 (List.replicate 256 false).length c131) g.1.1]) (fun g => σ) (fun g => iter (fun q : (List Bool) × Nat => whittleref02_Sets_b3 x0 k126 l123 q.1 q.2) g.1 = some z1 ∧ g.1.1.length = (List.replicate 256 false).length) (fun g => rounds (fun q : (List Bool) × Nat => whittleref02_Sets_b3 x0 k126 l123 q.1 q.2) g.1) (((List.replicate 256 false), 0), ()) (Sub.f [1] 2) z (by repeat (first | exact trivial | refine ⟨z, ?_⟩)) ⟨hh, z⟩ (fun g3 j3 hg3 => ?_))))))))
    obtain ⟨⟨l139, k141⟩, _⟩ := g3
    obtain ⟨hh, hn140⟩ := hg3
    try dsimp only at hn140 ⊢
    obtain ⟨z2, hh, hR2⟩ := iter_e hh
    dsimp only [whittleref02_Sets_b3] at hh
    have hn140b := hn140
    refine TC.isSl (i := 0) z (fun _ hb142 _ => ?_)
    refine TC.isSl (i := 1) z (fun _ hb143 _ => ?_)
    refine TC.seq (TC.a (TL.i z z (TL.w z (OpVal.lss z z z) (TL.en (TC.cD z hh (fun h144 hh => ?_) (fun h144 hh => ?_))))))
    ·refine TC.skip (S.n (TC.seq (TC.block (TC.region (TL.s z z (TL.i z z (TL.s z z (TL.i z z ?_))))))))
     have u52 := grd_c hh
     replace hh := grd_t hh
     refine TL.w z (indexN z underlying22 sz3 z z f0_0.rv.sl (by omega)) (TL.w z (loadS1 (0 : Int) z ag3 z f0_0 (by omega) z) (TL.i z z (TL.w z (OpVal.eql z z z) ?_)))
     have u56 := grd_c hh
     replace hh := grd_t hh
     refine TL.isSl (i := 1) z (fun hs145 _ _ => ?_)
     refine TL.w z (indexN z underlying24 sz4 z z hs145 (by omega)) (TL.front 1 z z ?_)
     have hn146 : (l139.set k141 (decide ((nth x0 k141 (0 : Int)) = ((k126 : Nat) : Int)))).length = (List.replicate 256 false).length := by rw [List.length_set]; exact hn140
     refine TL.op z (storeS (decide ((nth x0 k141 (0 : Int)) = ((k126 : Nat) : Int))) z sz4 z z z z encB_len encB_one (by omega) (by omega) ?_)
     refine TL.nil (B.n (S.n (TC.region (TL.i z z (TL.w z (OpVal.succ z z z (by omega)) (TL.i z z (TL.en ?_)))))))
     obtain ⟨hh, hlt147⟩ := nxt_x hR2 hh
     exact lf (((l139.set k141 (decide ((nth x0 k141 (0 : Int)) = ((k126 : Nat) : Int)))), (k141 + 1)), ()) hlt147 ⟨hh, hn146⟩ (Sub.f [1] 2)
    ·refine TC.exit (S.x (S.x ?_))
     replace hh := fin_x hR2 hh
     refine TC.exitHere (S.n (TC.region (TL.s z z (TL.s z z ?_))))
     rw [← hn140]
     refine TL.front 1 z z ?_
     have u63 := grd_c hh
     replace hh := grd_t hh
     refine TL.op z (callT (make_conL _ _ _ l139 u63) z z pf116 z z z z ?_)
     refine TL.op z (OpOk.lit (enc := encSet) [(BSet.make fun i => nth l139 i false)] z underlying131 sz86 ze86 z z z encSet_len (by decide) (by decide) BSet.zero z (by decide) z (by decide) encSet_one (fun a148 c149 => ?_))
     refine TL.front 1 z z ?_
     have u65 := grd_c hh
     replace hh := grd_t hh
     refine TL.op z (appendS z z underlying131 sz86 by86 ze86 z z (by decide) z z z (.inr ⟨_, 0, z⟩) (by simpa using u65) (by decide) (fun a151 c152 => ?_))
     refine TL.s z z (TL.nil (B.n (S.n (TC.region (TL.i z z ?_)))))
     have u68 := grd_c hh
     replace hh := grd_t hh
     refine TL.w z (OpVal.succ z z z (by omega)) (TL.i z z (TL.en ?_))
     obtain ⟨hh, hlt153⟩ := nxt_x hR1 hh
     exact lf (((l123 ++ [(BSet.make fun i => nth l139 i false)]), (k126 + 1)), (a151, c152)) hlt153 hh (Sub.pre 1 z)
   ·refine TC.exit (S.x (S.x ?_))
    replace hh := fin_x hR1 hh
    refine TC.exitHere (S.n (TC.a (TL.s z z (TL.s z z (TL.i z z (TL.en (TC.sealS encSet_len (fun τ156 hle155 hr154 => ?_))))))))
    have hr154b := hr154.rv.big
    refine TC.ret ?_
    obtain rfl := so hh
    exact rq [2, 3] ⟨a124, c125, z, hr154, z⟩

noncomputable def whittleref11_Right_b2 (v5 : (List BSet) × Int) (x0 : Dfa) (k110 : Nat) (k116 : Nat) : Option ((Nat) ⊕ ((Nat) ⊕ (Bool))) :=
 iteO (decide (((k116 : Nat) : Int) < ((v5.1.length : Nat) : Int))) (grd (k116 < (nth x0.next k110 ([] : List Int)).length) (iteO (decide ((nth (nth x0.next k110 ([] : List Int)) k116 (0 : Int)) < 0)) (fin (fin (some false))) (grd (k116 < (nth x0.next k110 ([] : List Int)).length) (iteO (decide (((x0.next.length : Nat) : Int) ≤ (nth (nth x0.next k110 ([] : List Int)) k116 (0 : Int)))) (fin (fin (some false))) (nxt (k116 + 1)))))) (fin (nxt (k110 + 1)))
noncomputable def whittleref11_Right_b1 (x0 : Dfa) (v5 : (List BSet) × Int) (k110 : Nat) : Option ((Nat) ⊕ (Bool)) :=
 iteO (decide (((k110 : Nat) : Int) < ((x0.next.length : Nat) : Int))) (iteO (decide ((((nth x0.next k110 ([] : List Int)).length : Nat) : Int) ≠ ((v5.1.length : Nat) : Int))) (fin (some false)) (iter (fun q : Nat => whittleref11_Right_b2 v5 x0 k110 q) 0)) (fin (some true))
noncomputable def whittleref11_Right (x0 : Dfa) : Option (Bool) :=
 bnd (whittleref02_Sets x0.cls) (fun v5 => iteO (decide (v5.2 ≠ 0)) (some false) (iteO (decide (((x0.next.length : Nat) : Int) < 1)) (some false) (iteO (decide (1024 < ((x0.next.length : Nat) : Int))) (some false) (iteO (decide (((x0.fin.length : Nat) : Int) ≠ ((x0.next.length : Nat) : Int))) (some false) (iter (fun q : Nat => whittleref11_Right_b1 x0 v5 q) 0)))))
theorem whittleref11_Right_con {σ : Store} {x0 : Dfa} {a0_0 : Option Addr} {c0_0 : Nat} {a0_1 : Option Addr} {c0_1 : Nat} {a0_2 : Option Addr} {c0_2 : Nat} (f0_0 : RS σ 1 Go.E.encI (.slice a0_0 x0.cls.length c0_0) x0.cls) (f0_1 : RZ σ (pkSl 1 Go.E.encI Go.E.encI_len) (.slice a0_1 x0.next.length c0_1) x0.next) (f0_2 : RS σ 1 encB (.slice a0_2 x0.fin.length c0_2) x0.fin) {r : Bool} (hh : whittleref11_Right x0 = some r) :
  Con Tryz.prog 66 #[.agg #[.slice a0_0 x0.cls.length c0_0, .slice a0_1 x0.next.length c0_1, .slice a0_2 x0.fin.length c0_2]] σ [] (PureP (.bool r) σ) := by
 dsimp only [whittleref11_Right] at hh
 have f0_0b := f0_0.rv.big
 have f0_1b := f0_1.big
 have f0_2b := f0_2.rv.big
 refine Con.mk (n := 75) Tryz.func66 z z z (fun w0 => ?_)
 refine TC.a (TL.op z (boxA z z z z (fun b101 => ?_)))
 refine TL.j z z (TL.en (TC.a (TL.w z (fieldLoc z fo26_0 z) (TL.w z (loadLoc z ag22 z (i := 0) z z) ?_))))
 obtain ⟨v5, u5, hh⟩ := bnd_e hh
 refine TL.op z (OpOk.call (whittleref02_Sets_con f0_0 u5) z z pf97 z z z z ?_)
 rintro _ τ103 _ hle103 ⟨a103_1, c103_1, rfl, hr103_0, rfl⟩
 replace f0_1 := f0_1.mono hle103
 have hr103_0b := hr103_0.rv.big
 refine TL.w z (moveT (.inl z) z) (TL.w z (OpVal.extract z z z) (TL.w z (OpVal.extract z z z) (TL.s z z (TL.i z z (TL.en (TC.a (TL.w z (fieldLoc z fo26_1 z) (TL.w z (loadLoc z ag23 z (i := 0) z z) (TL.w z (lenC z underlying23 z) (TL.i z z (TL.en (TC.seq (TC.a (TL.i z z (TL.w z (OpVal.neq z z z) ?_)))))))))))))))
 refine TL.j z z (TL.split 19 z (fun h104 => ?_) (fun h104 => ?_))
 ·replace hh := iteO_t h104 hh
  replace h104 := of_decide_eq_true h104
  refine TL.f z (TL.f z (TL.w z (pickTB z z z) (TL.j z z (TL.f z (TL.f z (TL.w z (pickTB z z z) (TL.j z z (TL.f z (TL.f z (TL.f z (TL.f z (TL.f z (TL.w z (pickTB z z z) (TL.en (TC.t z ?_)))))))))))))))
  refine TC.a (TL.j z z (TL.en (TC.ofSub (Sub.pre 0 z) (TC.back (TC.ret (S.r ?_))))))
  obtain rfl := so hh
  exact rq [2] ⟨z, z, z⟩
 ·replace hh := iteO_f h104 hh
  replace h104 := of_decide_eq_false h104
  refine TL.g z (moveI (.inl z) z) (TL.g z (OpVal.lss z z z) (TL.w z (pickFB z z z) (TL.j z z (TL.split 23 z (fun h105 => ?_) (fun h105 => ?_)))))
  ·replace hh := iteO_t h105 hh
   replace h105 := of_decide_eq_true h105
   refine TL.f z (TL.f z (TL.w z (pickTB z z z) (TL.j z z (TL.f z (TL.f z (TL.f z (TL.f z (TL.f z (TL.w z (pickTB z z z) (TL.en (TC.t z (TC.a (TL.j z z (TL.en (TC.ofSub (Sub.pre 0 z) ?_)))))))))))))))
   refine TC.back (TC.ret (S.r ?_))
   obtain rfl := so hh
   exact rq [2] ⟨z, z, z⟩
  ·replace hh := iteO_f h105 hh
   replace h105 := of_decide_eq_false h105
   refine TL.g z (moveI (.inl z) z) (TL.g z (OpVal.gtr z z z) (TL.w z (pickFB z z z) (TL.j z z (TL.split 27 z (fun h106 => ?_) (fun h106 => ?_)))))
   ·replace hh := iteO_t h106 hh
    replace h106 := of_decide_eq_true h106
    refine TL.f z (TL.f z (TL.f z (TL.f z (TL.f z (TL.w z (pickTB z z z) (TL.en (TC.t z (TC.a (TL.j z z (TL.en (TC.ofSub (Sub.pre 0 z) (TC.back (TC.ret (S.r ?_))))))))))))))
    obtain rfl := so hh
    exact rq [2] ⟨z, z, z⟩
   ·replace hh := iteO_f h106 hh
    replace h106 := of_decide_eq_false h106
    refine TL.g z (fieldLoc z fo26_2 z) (TL.g z (loadLoc z ag24 z (i := 0) z z) (TL.g z (lenC z underlying24 z) (TL.g z (moveI (.inl z) z) (TL.g z (OpVal.neq z z z) (TL.w z (pickFB z z z) (TL.en (TC.cD z hh (fun h107 hh => ?_) (fun h107 hh => ?_))))))))
    ·refine TC.a (TL.j z z (TL.en (TC.ofSub (Sub.pre 0 z) (TC.back (TC.ret (S.r ?_))))))
     obtain rfl := so hh
     exact rq [2] ⟨z, z, z⟩
    ·refine TC.skip (S.n (TC.seq (TC.a (TL.i z z (TL.en (TC.block (TC.loopG (α := (Nat) × (Unit)) (rgs [(2, 1), (6, 2), (34, 41)]) (fun g => [(6, .int .i64 ((g.1 : Nat) : Int))]) (fun g => [Res.cells b101 #[.slice a0_0 x0.cls.length c0_0, .slice a0_1 x0.next.length c0_1, .slice a0_2 x0.fin.length c0_2] 26]) (fun g => τ103) (fun g => iter (fun q : Nat => whittleref11_Right_b1 x0 v5 q) g.1 = some r) (fun g => rounds (fun q : Nat => whittleref11_Right_b1 x0 v5 q) g.1) (0, ()) (Sub.pre 1 z) z (by repeat (first | exact trivial | refine ⟨z, ?_⟩)) hh (fun g1 j1 hg1 => ?_))))))))
     obtain ⟨k110, _⟩ := g1
     have hh := hg1; clear hg1
     try dsimp only
     obtain ⟨z1, hh, hR1⟩ := iter_e hh
     dsimp only [whittleref11_Right_b1] at hh
     refine TC.seq (TC.a (TL.i z z (TL.i z z (TL.w z (OpVal.lss z z z) (TL.en (TC.cD z hh (fun h111 hh => ?_) (fun h111 hh => ?_)))))))
     ·refine TC.skip (S.n (TC.seq (TC.block (TC.seq (TC.a (TL.w z (fieldLoc z fo26_1 z) (TL.w z (loadLoc z ag23 z (i := 0) z z) (TL.i z z (TL.w z (indexN z underlying23 sz22 z z f0_1.isSl (by omega)) ?_)))))))))
      obtain ⟨p112, hk112, hg112⟩ := RZ.seg f0_1 k110 (by omega)
      replace hk112 : RS _ 1 Go.E.encI (.slice p112.1 (nth x0.next k110 ([] : List Int)).length p112.2) (nth x0.next k110 ([] : List Int)) := hk112
      have hk112b := hk112.rv.big
      refine TL.w z (OpVal.of (loadSeg0 z ag22 z hg112 z) (v' := .slice p112.1 ((nth x0.next k110 ([] : List Int)).length) p112.2) z) (TL.w z (lenC z underlying22 z) (TL.s z z (TL.w z (lenC z underlying131 z) (TL.w z (OpVal.neq z z z) (TL.en (TC.cD z hh (fun h113 hh => ?_) (fun h113 hh => ?_)))))))
      ·refine TC.a (TL.j z z (TL.en (TC.ofSub (Sub.pre 0 z) (TC.back (TC.ret (S.r (B.r (S.r (S.r ?_)))))))))
       replace hh := fin_x hR1 hh
       refine B.r (S.r ?_)
       obtain rfl := so hh
       exact rq [2] ⟨z, z, z⟩
      ·refine TC.skip (S.n (TC.a (TL.i z z (TL.en (TC.block (TC.loopG (α := (Nat) × (Unit)) (rgs [(2, 1), (7, 1), (48, 27)]) (fun g => [(7, .int .i64 ((g.1 : Nat) : Int))]) (fun g => [Res.cells b101 #[.slice a0_0 x0.cls.length c0_0, .slice a0_1 x0.next.length c0_1, .slice a0_2 x0.fin.length c0_2] 26]) (fun g => τ103) (fun g => iter (fun q : Nat => whittleref11_Right_b2 v5 x0 k110 q) g.1 = some z1) (fun g => rounds (fun q : Nat => whittleref11_Right_b2 v5 x0 k110 q) g.1) (0, ()) (Sub.pre 1 z) z (by repeat (first | exact trivial | refine ⟨z, ?_⟩)) hh (fun g2 j2 hg2 => ?_)))))))
       obtain ⟨k116, _⟩ := g2
       have hh := hg2; clear hg2
       try dsimp only
       obtain ⟨z2, hh, hR2⟩ := iter_e hh
       dsimp only [whittleref11_Right_b2] at hh
       refine TC.seq (TC.a (TL.i z z (TL.s z z (TL.w z (lenC z underlying131 z) (TL.w z (OpVal.lss z z z) (TL.en (TC.cD z hh (fun h117 hh => ?_) (fun h117 hh => ?_))))))))
       ·refine TC.skip (S.n (TC.seq (TC.block (TC.a (TL.w z (fieldLoc z fo26_1 z) (TL.w z (loadLoc z ag23 z (i := 0) z z) (TL.i z z (TL.w z (indexN z underlying23 sz22 z z f0_1.isSl (by omega)) ?_))))))))
        obtain ⟨p118, hk118, hg118⟩ := RZ.seg f0_1 k110 (by omega)
        replace hk118 : RS _ 1 Go.E.encI (.slice p118.1 (nth x0.next k110 ([] : List Int)).length p118.2) (nth x0.next k110 ([] : List Int)) := hk118
        have hk118b := hk118.rv.big
        refine TL.w z (OpVal.of (loadSeg0 z ag22 z hg118 z) (v' := .slice p118.1 ((nth x0.next k110 ([] : List Int)).length) p118.2) z) (TL.i z z ?_)
        have u58 := grd_c hh
        replace hh := grd_t hh
        refine TL.w z (indexN z underlying22 sz3 z z hk118.rv.sl (by omega)) (TL.w z (loadS1 (0 : Int) z ag3 z hk118 (by omega) z) (TL.w z (OpVal.lss z z z) (TL.j z z (TL.split 63 z (fun h119 => ?_) (fun h119 => ?_)))))
        ·replace hh := iteO_t h119 hh
         replace h119 := of_decide_eq_true h119
         refine TL.f z (TL.f z (TL.f z (TL.f z (TL.f z (TL.f z (TL.f z (TL.f z (TL.f z (TL.f z (TL.w z (pickTB z z z) (TL.en (TC.t z (TC.a (TL.j z z (TL.en ?_)))))))))))))))
         refine TC.ofSub (Sub.pre 0 z) (TC.back (TC.ret (B.r (S.r (S.r ?_)))))
         replace hh := fin_x hR2 hh
         refine B.r (B.r (S.r (S.r ?_)))
         replace hh := fin_x hR1 hh
         refine B.r (S.r ?_)
         obtain rfl := so hh
         exact rq [2] ⟨z, z, z⟩
        ·replace hh := iteO_f h119 hh
         replace h119 := of_decide_eq_false h119
         refine TL.g z (fieldLoc z fo26_1 z) (TL.g z (loadLoc z ag23 z (i := 0) z z) (TL.g z (moveI (.inl z) z) (TL.g z (indexN z underlying23 sz22 z z f0_1.isSl (by omega)) ?_)))
         obtain ⟨p120, hk120, hg120⟩ := RZ.seg f0_1 k110 (by omega)
         replace hk120 : RS _ 1 Go.E.encI (.slice p120.1 (nth x0.next k110 ([] : List Int)).length p120.2) (nth x0.next k110 ([] : List Int)) := hk120
         have hk120b := hk120.rv.big
         refine TL.g z (OpVal.of (loadSeg0 z ag22 z hg120 z) (v' := .slice p120.1 ((nth x0.next k110 ([] : List Int)).length) p120.2) z) (TL.g z (moveI (.inl z) z) ?_)
         have u68 := grd_c hh
         replace hh := grd_t hh
         refine TL.g z (indexN z underlying22 sz3 z z hk120.rv.sl (by omega)) (TL.g z (loadS1 (0 : Int) z ag3 z hk120 (by omega) z) (TL.g z (moveI (.inl z) z) (TL.g z (OpVal.geq z z z) (TL.w z (pickFB z z z) (TL.en (TC.cD z hh (fun h121 hh => ?_) (fun h121 hh => ?_)))))))
         ·refine TC.a (TL.j z z (TL.en (TC.ofSub (Sub.pre 0 z) (TC.back (TC.ret (B.r (S.r (S.r ?_))))))))
          replace hh := fin_x hR2 hh
          refine B.r (B.r (S.r (S.r ?_)))
          replace hh := fin_x hR1 hh
          refine B.r (S.r ?_)
          obtain rfl := so hh
          exact rq [2] ⟨z, z, z⟩
         ·refine TC.skip (B.n (S.n (TC.region (TL.i z z (TL.w z (OpVal.succ z z z (by omega)) (TL.i z z (TL.en ?_)))))))
          obtain ⟨hh, hlt122⟩ := nxt_x hR2 hh
          exact lf ((k116 + 1), ()) hlt122 hh (Sub.pre 1 z)
       ·refine TC.exit (S.x (S.x ?_))
        replace hh := fin_x hR2 hh
        refine TC.exitHere (B.n (S.n (TC.region (TL.i z z (TL.w z (OpVal.succ z z z (by omega)) (TL.i z z (TL.en ?_)))))))
        obtain ⟨hh, hlt123⟩ := nxt_x hR1 hh
        exact lf ((k110 + 1), ()) hlt123 hh (Sub.pre 1 z)
     ·refine TC.exit (S.x (S.x ?_))
      replace hh := fin_x hR1 hh
      refine TC.exitHere (S.n (TC.a (TL.j z z (TL.en (TC.ofSub (Sub.pre 0 z) (TC.back (TC.ret ?_)))))))
      obtain rfl := so hh
      exact rq [2] ⟨z, z, z⟩

noncomputable def whittleref23_taken_b1 (x3 : Int) (x0 : Dfa) (x1 : List UInt8) (i107 : Int) (i108 : Int) : Option ((Int × Int) ⊕ (Bool)) :=
 iteO (decide (i108 < x3)) (grd (0 ≤ i107 ∧ i107 < (x0.next.length : Int)) (grd (0 ≤ i108 ∧ i108 < (x1.length : Int)) (grd ((nth x1 i108.toNat (0 : UInt8)).toNat < x0.cls.length) (grd (0 ≤ (nth x0.cls ((nth x1 i108.toNat (0 : UInt8)).toNat) (0 : Int)) ∧ (nth x0.cls ((nth x1 i108.toNat (0 : UInt8)).toNat) (0 : Int)) < ((nth x0.next i107.toNat ([] : List Int)).length : Int)) (nxt ((nth (nth x0.next i107.toNat ([] : List Int)) ((nth x0.cls ((nth x1 i108.toNat (0 : UInt8)).toNat) (0 : Int)).toNat) (0 : Int)), (IntKind.i64.wrap (i108 + 1)))))))) (fin (grd (0 ≤ i107 ∧ i107 < (x0.fin.length : Int)) (some (nth x0.fin i107.toNat false))))
noncomputable def whittleref23_taken (x0 : Dfa) (x1 : List UInt8) (x2 : Int) (x3 : Int) : Option (Bool) :=
 grd (x1.length ≤ 281474976710656) (iter (fun q : Int × Int => whittleref23_taken_b1 x3 x0 x1 q.1 q.2) (0, x2))
theorem whittleref23_taken_con {σ : Store} {x0 : Dfa} {a0_0 : Option Addr} {c0_0 : Nat} {a0_1 : Option Addr} {c0_1 : Nat} {a0_2 : Option Addr} {c0_2 : Nat} {x1 : List UInt8} {x2 : Int} {x3 : Int} (f0_0 : RS σ 1 Go.E.encI (.slice a0_0 x0.cls.length c0_0) x0.cls) (f0_1 : RZ σ (pkSl 1 Go.E.encI Go.E.encI_len) (.slice a0_1 x0.next.length c0_1) x0.next) (f0_2 : RS σ 1 encB (.slice a0_2 x0.fin.length c0_2) x0.fin) {r : Bool} (hh : whittleref23_taken x0 x1 x2 x3 = some r) :
  Con Tryz.prog 70 #[.agg #[.slice a0_0 x0.cls.length c0_0, .slice a0_1 x0.next.length c0_1, .slice a0_2 x0.fin.length c0_2], .string (bs x1), .int .i64 x2, .int .i64 x3] σ [] (PureP (.bool r) σ) := by
 dsimp only [whittleref23_taken] at hh
 have f0_0b := f0_0.rv.big
 have f0_1b := f0_1.big
 have f0_2b := f0_2.rv.big
 refine Con.mk (n := 36) Tryz.func70 z z z (fun w0 => ?_)
 have x1b := grd_c hh
 replace hh := grd_t hh
 refine TC.a (TL.op z (boxA z z z z (fun b101 => ?_)))
 refine TL.j z z (TL.en (TC.a (TL.i z z (TL.en (TC.seq (TC.a (TL.i z z (TL.i z z (TL.en (TC.block (TC.loopG (α := (Int × Int) × (Unit)) (rgs [(9, 2), (12, 19)]) (fun g => [(9, .int .i64 g.1.1), (10, .int .i64 g.1.2)]) (fun g => [Res.cells b101 #[.slice a0_0 x0.cls.length c0_0, .slice a0_1 x0.next.length c0_1, .slice a0_2 x0.fin.length c0_2] 26]) (fun g => σ) (fun g => iter (fun q : Int × Int => whittleref23_taken_b1 x3 x0 x1 q.1 q.2) g.1 = some r) (fun g => rounds (fun q : Int × Int => whittleref23_taken_b1 x3 x0 x1 q.1 q.2) g.1) ((0, x2), ()) (Sub.pre 1 z) z (by repeat (first | exact trivial | refine ⟨z, ?_⟩)) hh (fun g1 j1 hg1 => ?_))))))))))))
 obtain ⟨⟨i107, i108⟩, _⟩ := g1
 have hh := hg1; clear hg1
 try dsimp only
 obtain ⟨z1, hh, hR1⟩ := iter_e hh
 dsimp only [whittleref23_taken_b1] at hh
 refine TC.seq (TC.a (TL.i z z (TL.i z z (TL.w z (OpVal.lss z z z) (TL.en (TC.cD z hh (fun h109 hh => ?_) (fun h109 hh => ?_)))))))
 ·refine TC.skip (S.n (TC.seq (TC.block ?_)))
  have u12 := grd_c hh
  replace hh := grd_t hh
  have u18 := grd_c hh
  replace hh := grd_t hh
  have u19 := grd_c hh
  replace hh := grd_t hh
  have u21 := grd_c hh
  replace hh := grd_t hh
  refine TC.draw [] (by kernel_rfl) (TA.a 0 z (fieldLoc z fo26_1 z) z (TA.b 1 z (loadLoc z ag23 z (i := 0) z z) z (TA.a 2 z (moveI (.inl z) z) z (TA.b 3 z (OpVal.index z underlying23 sz22 z z f0_1.isSl u12.1 u12.2) z ?_))))
  obtain ⟨p111, hk111, hg111⟩ := RZ.seg f0_1 i107.toNat (by omega)
  replace hk111 : RS _ 1 Go.E.encI (.slice p111.1 (nth x0.next i107.toNat ([] : List Int)).length p111.2) (nth x0.next i107.toNat ([] : List Int)) := hk111
  have hk111b := hk111.rv.big
  refine TA.b 4 z (OpVal.of (loadSeg0 z ag22 z hg111 z) (v' := .slice p111.1 ((nth x0.next i107.toNat ([] : List Int)).length) p111.2) z) z (TA.a 5 z (fieldLoc z fo26_0 z) z (TA.b 6 z (loadLoc z ag22 z (i := 0) z z) z (TA.a 7 z (moveStr (.inl z) z) z (TA.a 8 z (moveI (.inl z) z) z (TA.a 9 z (indexBsI z underlying9 z z u18.1 u18.2) z (TA.b 10 z (indexN z underlying22 sz3 z z f0_0.rv.sl (by omega)) z (TA.b 11 z (loadS1 (0 : Int) z ag3 z f0_0 (by omega) z) z (TA.b 12 z (OpVal.index z underlying22 sz3 z z hk111.rv.sl u21.1 u21.2) z (TA.b 13 z (loadS1 (0 : Int) z ag3 z hk111 (by omega) z) z (TA.a 14 z (moveI (.inr z) z) z (TA.dn (B.n (S.n (TC.region (TL.i z z ?_)))))))))))))))
  refine TL.w z (addW z z z) (TL.i z z (TL.en ?_))
  obtain ⟨hh, hlt112⟩ := nxt_x hR1 hh
  exact lf (((nth (nth x0.next i107.toNat ([] : List Int)) ((nth x0.cls ((nth x1 i108.toNat (0 : UInt8)).toNat) (0 : Int)).toNat) (0 : Int)), (IntKind.i64.wrap (i108 + 1))), ()) hlt112 hh (Sub.pre 1 z)
 ·refine TC.exit (S.x (S.x ?_))
  replace hh := fin_x hR1 hh
  refine TC.exitHere (S.n (TC.a (TL.w z (fieldLoc z fo26_2 z) (TL.w z (loadLoc z ag24 z (i := 0) z z) (TL.i z z ?_)))))
  have u30 := grd_c hh
  replace hh := grd_t hh
  refine TL.w z (OpVal.index z underlying24 sz4 z z f0_2.rv.sl u30.1 u30.2) (TL.w z (loadS1 false z ag4 z f0_2 (by omega) z) (TL.j z z (TL.en (TC.rt 0 ?_))))
  obtain rfl := so hh
  exact rq [8] ⟨z, z, z⟩

noncomputable def whittleref23_wrong (x0 : Dfa) (x1 : List UInt8) : Option (Int) :=
 grd (x1.length ≤ 281474976710656) (bnd (whittleref11_Right x0) (fun v4 => iteO (!v4) (some 1) (iteO (decide (4096 < ((x1.length : Nat) : Int))) (some 2) (some 0))))
theorem whittleref23_wrong_con {σ : Store} {x0 : Dfa} {a0_0 : Option Addr} {c0_0 : Nat} {a0_1 : Option Addr} {c0_1 : Nat} {a0_2 : Option Addr} {c0_2 : Nat} {x1 : List UInt8} (f0_0 : RS σ 1 Go.E.encI (.slice a0_0 x0.cls.length c0_0) x0.cls) (f0_1 : RZ σ (pkSl 1 Go.E.encI Go.E.encI_len) (.slice a0_1 x0.next.length c0_1) x0.next) (f0_2 : RS σ 1 encB (.slice a0_2 x0.fin.length c0_2) x0.fin) {r : Int} (hh : whittleref23_wrong x0 x1 = some r) :
  Con Tryz.prog 98 #[.agg #[.slice a0_0 x0.cls.length c0_0, .slice a0_1 x0.next.length c0_1, .slice a0_2 x0.fin.length c0_2], .string (bs x1)] σ [] (PureP (.int .i64 r) σ) := by
 dsimp only [whittleref23_wrong] at hh
 have f0_0b := f0_0.rv.big
 have f0_1b := f0_1.big
 have f0_2b := f0_2.rv.big
 refine Con.mk (n := 11) Tryz.func98 z z z (fun w0 => ?_)
 have x1b := grd_c hh
 replace hh := grd_t hh
 refine TC.a (TL.op z (boxA z z z z (fun b101 => ?_)))
 refine TL.i z z (TL.en (TC.seq (TC.a (TL.w z (loadAll z ag26 sz26 z (i := 0) z z) ?_))))
 obtain ⟨v4, u4, hh⟩ := bnd_e hh
 refine TL.op z (callP (whittleref11_Right_con (x0 := x0) f0_0 f0_1 f0_2 u4) z z pf66 z z z ?_)
 refine TL.w z (OpVal.not z z) (TL.en (TC.cB z hh (fun h103 hh => ?_) (fun h103 hh => ?_)))
 ·refine TC.a (TL.i z z (TL.en (TC.rt 0 (S.r ?_))))
  obtain rfl := so hh
  exact rq [4] ⟨z, z, z⟩
 ·refine TC.skip (S.n (TC.seq (TC.a (TL.w z (moveStr (.inl z) z) (TL.w z (lenBs z underlying9 z) (TL.w z (OpVal.gtr z z z) (TL.en (TC.cD z hh (fun h104 hh => ?_) (fun h104 hh => ?_)))))))))
  ·refine TC.a (TL.i z z (TL.en (TC.rt 0 (S.r ?_))))
   obtain rfl := so hh
   exact rq [4] ⟨z, z, z⟩
  ·refine TC.skip (S.n (TC.a (TL.i z z (TL.en (TC.rt 0 ?_)))))
   obtain rfl := so hh
   exact rq [4] ⟨z, z, z⟩

noncomputable def whittleref23_Before_j1 (k127 : Nat) (t130 : Bool) : Option ((Bool × Nat) ⊕ (((List Bool) × Nat) ⊕ ((List Bool) × Int))) :=
 nxt (t130, (k127 + 1))
noncomputable def whittleref23_Before_b2 (k118 : Nat) (x0 : Dfa) (x1 : List UInt8) (l115 : List Bool) (t126 : Bool) (k127 : Nat) : Option ((Bool × Nat) ⊕ (((List Bool) × Nat) ⊕ ((List Bool) × Int))) :=
 iteO (decide (((k127 : Nat) : Int) ≤ ((k118 : Nat) : Int))) (iteO t126 (whittleref23_Before_j1 k127 true) (bnd (whittleref23_taken x0 x1 ((k127 : Nat) : Int) ((k118 : Nat) : Int)) (fun v30 => whittleref23_Before_j1 k127 v30))) (fin (grd ((l115.length + [t126].length) * 1 ≤ 140737488355328) (nxt ((l115 ++ [t126]), (k118 + 1)))))
noncomputable def whittleref23_Before_b1 (x1 : List UInt8) (x0 : Dfa) (l115 : List Bool) (k118 : Nat) : Option (((List Bool) × Nat) ⊕ ((List Bool) × Int)) :=
 iteO (decide (((k118 : Nat) : Int) ≤ ((x1.length : Nat) : Int))) (iter (fun q : Bool × Nat => whittleref23_Before_b2 k118 x0 x1 l115 q.1 q.2) (false, 0)) (fin (some (l115, 0)))
noncomputable def whittleref23_Before (x0 : Dfa) (x1 : List UInt8) : Option ((List Bool) × Int) :=
 grd (x1.length ≤ 281474976710656) (bnd (whittleref23_wrong x0 x1) (fun v6 => iteO (decide (v6 ≠ 0)) (some (([] : List Bool), v6)) (iter (fun q : (List Bool) × Nat => whittleref23_Before_b1 x1 x0 q.1 q.2) (([] : List Bool), 0))))
def whittleref23_Before_P (σ : Store) (r : (List Bool) × Int) : Value → Store → List Res → Prop := fun v σ' H' =>
 ∃ (a1 : Option Addr), ∃ (c1 : Nat),  v = .tuple #[.slice a1 r.1.length c1, .int .i64 r.2] ∧ RS σ' 1 encB (.slice a1 r.1.length c1) r.1 ∧ H' = []
theorem whittleref23_Before_con {σ : Store} {x0 : Dfa} {a0_0 : Option Addr} {c0_0 : Nat} {a0_1 : Option Addr} {c0_1 : Nat} {a0_2 : Option Addr} {c0_2 : Nat} {x1 : List UInt8} (f0_0 : RS σ 1 Go.E.encI (.slice a0_0 x0.cls.length c0_0) x0.cls) (f0_1 : RZ σ (pkSl 1 Go.E.encI Go.E.encI_len) (.slice a0_1 x0.next.length c0_1) x0.next) (f0_2 : RS σ 1 encB (.slice a0_2 x0.fin.length c0_2) x0.fin) {r : (List Bool) × Int} (hh : whittleref23_Before x0 x1 = some r) :
  Con Tryz.prog 68 #[.agg #[.slice a0_0 x0.cls.length c0_0, .slice a0_1 x0.next.length c0_1, .slice a0_2 x0.fin.length c0_2], .string (bs x1)] σ [] (whittleref23_Before_P σ r) := by
 dsimp only [whittleref23_Before] at hh
 have f0_0b := f0_0.rv.big
 have f0_1b := f0_1.big
 have f0_2b := f0_2.rv.big
 refine Con.mk (n := 41) Tryz.func68 z z z (fun w0 => ?_)
 have x1b := grd_c hh
 replace hh := grd_t hh
 refine TC.a (TL.op z (boxA z z z z (fun b101 => ?_)))
 refine TL.s z z (TL.i z z (TL.en (TC.a (TL.w z (loadAll z ag26 sz26 z (i := 0) z z) (TL.w z (moveStr (.inl z) z) ?_)))))
 obtain ⟨v6, u6, hh⟩ := bnd_e hh
 refine TL.op z (callP (whittleref23_wrong_con (x0 := x0) f0_0 f0_1 f0_2 u6) z z pf98 z z z ?_)
 refine TL.i z z (TL.en (TC.seq (TC.a (TL.i z z (TL.w z (OpVal.neq z z z) (TL.en (TC.cD z hh (fun h103 hh => ?_) (fun h103 hh => ?_))))))))
 ·refine TC.a (TL.i z z (TL.s z z (TL.i z z (TL.en (TC.rt 0 (S.r ?_))))))
  obtain rfl := so hh
  exact rq [4, 5] ⟨none, 0, z, (RS.nilF _ encB encB_len), z⟩
 ·refine TC.skip (S.n (TC.a (TL.s z z (TL.en (TC.seq (TC.a (TL.i z z (TL.en (TC.block (TC.nilS 4 1 encB (TC.loopG (α := ((List Bool) × Nat) × ((Option Addr) × Nat)) (rgs [(7, 4), (17, 23)]) (fun g => [(7, .slice g.2.1 g.1.1.length g.2.2), (8, .int .i64 ((g.1.2 : Nat) : Int))]) (fun g => [Res.cells b101 #[.slice a0_0 x0.cls.length c0_0, .slice a0_1 x0.next.length c0_1, .slice a0_2 x0.fin.length c0_2] 26, Res.rowS 4 1 encB (.slice g.2.1 g.1.1.length g.2.2) g.1.1]) (fun g => σ) (fun g => iter (fun q : (List Bool) × Nat => whittleref23_Before_b1 x1 x0 q.1 q.2) g.1 = some r) (fun g => rounds (fun q : (List Bool) × Nat => whittleref23_Before_b1 x1 x0 q.1 q.2) g.1) ((([] : List Bool), 0), (none, 0)) (Sub.f [1] 2) z (by repeat (first | exact trivial | refine ⟨z, ?_⟩)) hh (fun g1 j1 hg1 => ?_))))))))))))
  obtain ⟨⟨l115, k118⟩, ⟨a116, c117⟩⟩ := g1
  have hh := hg1; clear hg1
  try dsimp only
  obtain ⟨z1, hh, hR1⟩ := iter_e hh
  dsimp only [whittleref23_Before_b1] at hh
  refine TC.isSl (i := 1) z (fun _ hb120 _ => ?_)
  refine TC.seq (TC.a (TL.i z z (TL.w z (moveStr (.inl z) z) (TL.w z (lenBs z underlying9 z) (TL.w z (OpVal.leq z z z) (TL.en (TC.cD z hh (fun h121 hh => ?_) (fun h121 hh => ?_))))))))
  ·refine TC.skip (S.n (TC.seq (TC.block (TC.a (TL.j z z (TL.en (TC.seq (TC.a (TL.i z z (TL.en (TC.block (TC.loopG (α := (Bool × Nat) × (Unit)) (rgs [(9, 2), (23, 13)]) (fun g => [(9, .bool g.1.1), (10, .int .i64 ((g.1.2 : Nat) : Int))]) (fun g => [Res.cells b101 #[.slice a0_0 x0.cls.length c0_0, .slice a0_1 x0.next.length c0_1, .slice a0_2 x0.fin.length c0_2] 26, Res.rowS 4 1 encB (.slice a116 l115.length c117) l115]) (fun g => σ) (fun g => iter (fun q : Bool × Nat => whittleref23_Before_b2 k118 x0 x1 l115 q.1 q.2) g.1 = some z1) (fun g => rounds (fun q : Bool × Nat => whittleref23_Before_b2 k118 x0 x1 l115 q.1 q.2) g.1) ((false, 0), ()) (Sub.f [1, 1] 2) z (by repeat (first | exact trivial | refine ⟨z, ?_⟩)) hh (fun g2 j2 hg2 => ?_)))))))))))))
   obtain ⟨⟨t126, k127⟩, _⟩ := g2
   have hh := hg2; clear hg2
   try dsimp only
   obtain ⟨z2, hh, hR2⟩ := iter_e hh
   dsimp only [whittleref23_Before_b2] at hh
   refine TC.isSl (i := 1) z (fun _ hb128 _ => ?_)
   refine TC.seq (TC.a (TL.i z z (TL.i z z (TL.w z (OpVal.leq z z z) (TL.en (TC.cD z hh (fun h129 hh => ?_) (fun h129 hh => ?_)))))))
   ·refine TC.skip (S.n (TC.cutG (α := (Bool) × (Unit)) (rgs [(9, 1), (28, 8)]) (fun g => [(9, .bool g.1)]) (fun g => [Res.cells b101 #[.slice a0_0 x0.cls.length c0_0, .slice a0_1 x0.next.length c0_1, .slice a0_2 x0.fin.length c0_2] 26, Res.rowS 4 1 encB (.slice a116 l115.length c117) l115]) (fun g => σ) (fun g => whittleref23_Before_j1 k127 g.1 = some z2) ?_ (fun g j hg => ?_)))
    ·skip
     refine TC.block (TC.region (TL.j z z (TL.j z z (TL.split 29 z (fun h131 => ?_) (fun h131 => ?_)))))
     ·replace hh := iteO_t h131 hh
      exact TL.f z (TL.f z (TL.f z (TL.f z (TL.f z (TL.w z (pickTB z z z) (TL.j z z (TL.nil (B.n (S.n (cf (true, ()) hh (Sub.f [1, 1] 2)))))))))))
     ·replace hh := iteO_f h131 hh
      refine TL.g z (loadAll z ag26 sz26 z (i := 0) z z) (TL.g z (moveStr (.inl z) z) (TL.g z (moveI (.inl z) z) (TL.g z (moveI (.inl z) z) ?_)))
      obtain ⟨v30, u30, hh⟩ := bnd_e hh
      refine TL.gon z z z z z (callP (whittleref23_taken_con (x0 := x0) f0_0 f0_1 f0_2 u30) z z pf70 z z z ?_)
      exact TL.w z (pickFB z z z) (TL.j z z (TL.nil (B.n (S.n (cf (v30, ()) hh (Sub.f [1, 1] 2))))))
    ·skip
     obtain ⟨t130, _⟩ := g
     have hh := hg; clear hg
     try dsimp only
     dsimp only [whittleref23_Before_j1] at hh
     refine TC.isSl (i := 1) z (fun _ hb132 _ => ?_)
     refine TC.region (TL.i z z (TL.w z (OpVal.succ z z z (by omega)) (TL.i z z (TL.en ?_))))
     obtain ⟨hh, hlt133⟩ := nxt_x hR2 hh
     exact lf ((t130, (k127 + 1)), ()) hlt133 hh (Sub.f [1, 1] 2)
   ·refine TC.exit (S.x (S.x ?_))
    replace hh := fin_x hR2 hh
    refine TC.exitHere (S.n (TC.region (TL.s z z (TL.j z z (TL.op z (OpOk.lit (enc := encB) [t126] z underlying24 sz4 ze4 z z z encB_len (by decide) (by decide) false z (by decide) z (by decide) encB_one (fun a134 c135 => ?_)))))))
    refine TL.front 2 z z ?_
    have u39 := grd_c hh
    replace hh := grd_t hh
    refine TL.op z (appendS z z underlying24 sz4 by4 ze4 z z (by decide) z z z (.inr ⟨_, 0, z⟩) (by simpa using u39) (by decide) (fun a137 c138 => ?_))
    refine TL.s z z (TL.nil (B.n (S.n (TC.region (TL.i z z (TL.w z (OpVal.succ z z z (by omega)) (TL.i z z (TL.en ?_))))))))
    obtain ⟨hh, hlt139⟩ := nxt_x hR1 hh
    exact lf (((l115 ++ [t126]), (k118 + 1)), (a137, c138)) hlt139 hh (Sub.f [2] 2)
  ·refine TC.exit (S.x (S.x ?_))
   replace hh := fin_x hR1 hh
   refine TC.exitHere (S.n (TC.a (TL.s z z (TL.s z z (TL.i z z (TL.en (TC.front 1 z z (TC.sealS encB_len (fun τ142 hle141 hr140 => ?_)))))))))
   have hr140b := hr140.rv.big
   refine TC.rt 0 ?_
   obtain rfl := so hh
   exact rq [4, 5] ⟨a116, c117, z, hr140, z⟩

noncomputable def whittleref23_After_j1 (k127 : Nat) (t130 : Bool) : Option ((Bool × Nat) ⊕ (((List Bool) × Nat) ⊕ ((List Bool) × Int))) :=
 nxt (t130, (k127 + 1))
noncomputable def whittleref23_After_b2 (x1 : List UInt8) (x0 : Dfa) (k118 : Nat) (l115 : List Bool) (t126 : Bool) (k127 : Nat) : Option ((Bool × Nat) ⊕ (((List Bool) × Nat) ⊕ ((List Bool) × Int))) :=
 iteO (decide (((k127 : Nat) : Int) ≤ ((x1.length : Nat) : Int))) (iteO t126 (whittleref23_After_j1 k127 true) (bnd (whittleref23_taken x0 x1 ((k118 : Nat) : Int) ((k127 : Nat) : Int)) (fun v32 => whittleref23_After_j1 k127 v32))) (fin (grd ((l115.length + [t126].length) * 1 ≤ 140737488355328) (nxt ((l115 ++ [t126]), (k118 + 1)))))
noncomputable def whittleref23_After_b1 (x1 : List UInt8) (x0 : Dfa) (l115 : List Bool) (k118 : Nat) : Option (((List Bool) × Nat) ⊕ ((List Bool) × Int)) :=
 iteO (decide (((k118 : Nat) : Int) ≤ ((x1.length : Nat) : Int))) (iter (fun q : Bool × Nat => whittleref23_After_b2 x1 x0 k118 l115 q.1 q.2) (false, k118)) (fin (some (l115, 0)))
noncomputable def whittleref23_After (x0 : Dfa) (x1 : List UInt8) : Option ((List Bool) × Int) :=
 grd (x1.length ≤ 281474976710656) (bnd (whittleref23_wrong x0 x1) (fun v6 => iteO (decide (v6 ≠ 0)) (some (([] : List Bool), v6)) (iter (fun q : (List Bool) × Nat => whittleref23_After_b1 x1 x0 q.1 q.2) (([] : List Bool), 0))))
def whittleref23_After_P (σ : Store) (r : (List Bool) × Int) : Value → Store → List Res → Prop := fun v σ' H' =>
 ∃ (a1 : Option Addr), ∃ (c1 : Nat),  v = .tuple #[.slice a1 r.1.length c1, .int .i64 r.2] ∧ RS σ' 1 encB (.slice a1 r.1.length c1) r.1 ∧ H' = []
theorem whittleref23_After_con {σ : Store} {x0 : Dfa} {a0_0 : Option Addr} {c0_0 : Nat} {a0_1 : Option Addr} {c0_1 : Nat} {a0_2 : Option Addr} {c0_2 : Nat} {x1 : List UInt8} (f0_0 : RS σ 1 Go.E.encI (.slice a0_0 x0.cls.length c0_0) x0.cls) (f0_1 : RZ σ (pkSl 1 Go.E.encI Go.E.encI_len) (.slice a0_1 x0.next.length c0_1) x0.next) (f0_2 : RS σ 1 encB (.slice a0_2 x0.fin.length c0_2) x0.fin) {r : (List Bool) × Int} (hh : whittleref23_After x0 x1 = some r) :
  Con Tryz.prog 69 #[.agg #[.slice a0_0 x0.cls.length c0_0, .slice a0_1 x0.next.length c0_1, .slice a0_2 x0.fin.length c0_2], .string (bs x1)] σ [] (whittleref23_After_P σ r) := by
 dsimp only [whittleref23_After] at hh
 have f0_0b := f0_0.rv.big
 have f0_1b := f0_1.big
 have f0_2b := f0_2.rv.big
 refine Con.mk (n := 43) Tryz.func69 z z z (fun w0 => ?_)
 have x1b := grd_c hh
 replace hh := grd_t hh
 refine TC.a (TL.op z (boxA z z z z (fun b101 => ?_)))
 refine TL.s z z (TL.i z z (TL.en (TC.a (TL.w z (loadAll z ag26 sz26 z (i := 0) z z) (TL.w z (moveStr (.inl z) z) ?_)))))
 obtain ⟨v6, u6, hh⟩ := bnd_e hh
 refine TL.op z (callP (whittleref23_wrong_con (x0 := x0) f0_0 f0_1 f0_2 u6) z z pf98 z z z ?_)
 refine TL.i z z (TL.en (TC.seq (TC.a (TL.i z z (TL.w z (OpVal.neq z z z) (TL.en (TC.cD z hh (fun h103 hh => ?_) (fun h103 hh => ?_))))))))
 ·refine TC.a (TL.i z z (TL.s z z (TL.i z z (TL.en (TC.rt 0 (S.r ?_))))))
  obtain rfl := so hh
  exact rq [4, 5] ⟨none, 0, z, (RS.nilF _ encB encB_len), z⟩
 ·refine TC.skip (S.n (TC.a (TL.s z z (TL.en (TC.seq (TC.a (TL.i z z (TL.en (TC.block (TC.nilS 4 1 encB (TC.loopG (α := ((List Bool) × Nat) × ((Option Addr) × Nat)) (rgs [(7, 4), (17, 25)]) (fun g => [(7, .slice g.2.1 g.1.1.length g.2.2), (8, .int .i64 ((g.1.2 : Nat) : Int))]) (fun g => [Res.cells b101 #[.slice a0_0 x0.cls.length c0_0, .slice a0_1 x0.next.length c0_1, .slice a0_2 x0.fin.length c0_2] 26, Res.rowS 4 1 encB (.slice g.2.1 g.1.1.length g.2.2) g.1.1]) (fun g => σ) (fun g => iter (fun q : (List Bool) × Nat => whittleref23_After_b1 x1 x0 q.1 q.2) g.1 = some r) (fun g => rounds (fun q : (List Bool) × Nat => whittleref23_After_b1 x1 x0 q.1 q.2) g.1) ((([] : List Bool), 0), (none, 0)) (Sub.f [1] 2) z (by repeat (first | exact trivial | refine ⟨z, ?_⟩)) hh (fun g1 j1 hg1 => ?_))))))))))))
  obtain ⟨⟨l115, k118⟩, ⟨a116, c117⟩⟩ := g1
  have hh := hg1; clear hg1
  try dsimp only
  obtain ⟨z1, hh, hR1⟩ := iter_e hh
  dsimp only [whittleref23_After_b1] at hh
  refine TC.isSl (i := 1) z (fun _ hb120 _ => ?_)
  refine TC.seq (TC.a (TL.i z z (TL.w z (moveStr (.inl z) z) (TL.w z (lenBs z underlying9 z) (TL.w z (OpVal.leq z z z) (TL.en (TC.cD z hh (fun h121 hh => ?_) (fun h121 hh => ?_))))))))
  ·refine TC.skip (S.n (TC.seq (TC.block (TC.a (TL.j z z (TL.en (TC.seq (TC.a (TL.i z z (TL.i z z (TL.en (TC.block (TC.loopG (α := (Bool × Nat) × (Unit)) (rgs [(9, 2), (24, 14)]) (fun g => [(9, .bool g.1.1), (10, .int .i64 ((g.1.2 : Nat) : Int))]) (fun g => [Res.cells b101 #[.slice a0_0 x0.cls.length c0_0, .slice a0_1 x0.next.length c0_1, .slice a0_2 x0.fin.length c0_2] 26, Res.rowS 4 1 encB (.slice a116 l115.length c117) l115]) (fun g => σ) (fun g => iter (fun q : Bool × Nat => whittleref23_After_b2 x1 x0 k118 l115 q.1 q.2) g.1 = some z1) (fun g => rounds (fun q : Bool × Nat => whittleref23_After_b2 x1 x0 k118 l115 q.1 q.2) g.1) ((false, k118), ()) (Sub.f [1, 1] 2) z (by repeat (first | exact trivial | refine ⟨z, ?_⟩)) hh (fun g2 j2 hg2 => ?_))))))))))))))
   obtain ⟨⟨t126, k127⟩, _⟩ := g2
   have hh := hg2; clear hg2
   try dsimp only
   obtain ⟨z2, hh, hR2⟩ := iter_e hh
   dsimp only [whittleref23_After_b2] at hh
   refine TC.isSl (i := 1) z (fun _ hb128 _ => ?_)
   refine TC.seq (TC.a (TL.i z z (TL.w z (moveStr (.inl z) z) (TL.w z (lenBs z underlying9 z) (TL.w z (OpVal.leq z z z) (TL.en (TC.cD z hh (fun h129 hh => ?_) (fun h129 hh => ?_))))))))
   ·refine TC.skip (S.n (TC.cutG (α := (Bool) × (Unit)) (rgs [(9, 1), (30, 8)]) (fun g => [(9, .bool g.1)]) (fun g => [Res.cells b101 #[.slice a0_0 x0.cls.length c0_0, .slice a0_1 x0.next.length c0_1, .slice a0_2 x0.fin.length c0_2] 26, Res.rowS 4 1 encB (.slice a116 l115.length c117) l115]) (fun g => σ) (fun g => whittleref23_After_j1 k127 g.1 = some z2) ?_ (fun g j hg => ?_)))
    ·skip
     refine TC.block (TC.region (TL.j z z (TL.j z z (TL.split 31 z (fun h131 => ?_) (fun h131 => ?_)))))
     ·replace hh := iteO_t h131 hh
      exact TL.f z (TL.f z (TL.f z (TL.f z (TL.f z (TL.w z (pickTB z z z) (TL.j z z (TL.nil (B.n (S.n (cf (true, ()) hh (Sub.f [1, 1] 2)))))))))))
     ·replace hh := iteO_f h131 hh
      refine TL.g z (loadAll z ag26 sz26 z (i := 0) z z) (TL.g z (moveStr (.inl z) z) (TL.g z (moveI (.inl z) z) (TL.g z (moveI (.inl z) z) ?_)))
      obtain ⟨v32, u32, hh⟩ := bnd_e hh
      refine TL.gon z z z z z (callP (whittleref23_taken_con (x0 := x0) f0_0 f0_1 f0_2 u32) z z pf70 z z z ?_)
      exact TL.w z (pickFB z z z) (TL.j z z (TL.nil (B.n (S.n (cf (v32, ()) hh (Sub.f [1, 1] 2))))))
    ·skip
     obtain ⟨t130, _⟩ := g
     have hh := hg; clear hg
     try dsimp only
     dsimp only [whittleref23_After_j1] at hh
     refine TC.isSl (i := 1) z (fun _ hb132 _ => ?_)
     refine TC.region (TL.i z z (TL.w z (OpVal.succ z z z (by omega)) (TL.i z z (TL.en ?_))))
     obtain ⟨hh, hlt133⟩ := nxt_x hR2 hh
     exact lf ((t130, (k127 + 1)), ()) hlt133 hh (Sub.f [1, 1] 2)
   ·refine TC.exit (S.x (S.x ?_))
    replace hh := fin_x hR2 hh
    refine TC.exitHere (S.n (TC.region (TL.s z z (TL.j z z (TL.op z (OpOk.lit (enc := encB) [t126] z underlying24 sz4 ze4 z z z encB_len (by decide) (by decide) false z (by decide) z (by decide) encB_one (fun a134 c135 => ?_)))))))
    refine TL.front 2 z z ?_
    have u41 := grd_c hh
    replace hh := grd_t hh
    refine TL.op z (appendS z z underlying24 sz4 by4 ze4 z z (by decide) z z z (.inr ⟨_, 0, z⟩) (by simpa using u41) (by decide) (fun a137 c138 => ?_))
    refine TL.s z z (TL.nil (B.n (S.n (TC.region (TL.i z z (TL.w z (OpVal.succ z z z (by omega)) (TL.i z z (TL.en ?_))))))))
    obtain ⟨hh, hlt139⟩ := nxt_x hR1 hh
    exact lf (((l115 ++ [t126]), (k118 + 1)), (a137, c138)) hlt139 hh (Sub.f [2] 2)
  ·refine TC.exit (S.x (S.x ?_))
   replace hh := fin_x hR1 hh
   refine TC.exitHere (S.n (TC.a (TL.s z z (TL.s z z (TL.i z z (TL.en (TC.front 1 z z (TC.sealS encB_len (fun τ142 hle141 hr140 => ?_)))))))))
   have hr140b := hr140.rv.big
   refine TC.rt 0 ?_
   obtain rfl := so hh
   exact rq [4, 5] ⟨a116, c117, z, hr140, z⟩

noncomputable def whittleref23_Factors_j2 (k137 : Nat) (k141 : Nat) : Option ((Nat × Nat) ⊕ (((List Span) × Nat) ⊕ ((List Span) × Int))) :=
 nxt (k141, (k137 + 1))
noncomputable def whittleref23_Factors_j1 (k127 : Nat) (l124 : List Span) (k131 : Nat) : Option (((List Span) × Nat) ⊕ ((List Span) × Int)) :=
 iteO (decide (((k131 : Nat) : Int) = ((k127 : Nat) : Int))) (nxt (l124, (k127 + 1))) (grd ((l124.length + [(⟨((k127 : Nat) : Int), ((k131 : Nat) : Int)⟩ : Span)].length) * 16 ≤ 140737488355328) (nxt ((l124 ++ [(⟨((k127 : Nat) : Int), ((k131 : Nat) : Int)⟩ : Span)]), k131)))
noncomputable def whittleref23_Factors_b2 (x3 : List UInt8) (k127 : Nat) (v23 : (List Bool) × Int) (v36 : (List Bool) × Int) (x0 : Dfa) (l124 : List Span) (k136 : Nat) (k137 : Nat) : Option ((Nat × Nat) ⊕ (((List Span) × Nat) ⊕ ((List Span) × Int))) :=
 iteO (decide (((k137 : Nat) : Int) ≤ ((x3.length : Nat) : Int))) (grd (k127 < v23.1.length) (iteO (nth v23.1 k127 false) (grd (k137 < v36.1.length) (iteO (nth v36.1 k137 false) (bnd (whittleref23_taken x0 x3 ((k127 : Nat) : Int) ((k137 : Nat) : Int)) (fun v72 => iteO v72 (whittleref23_Factors_j2 k137 k137) (whittleref23_Factors_j2 k137 k136))) (whittleref23_Factors_j2 k137 k136))) (fin (whittleref23_Factors_j1 k127 l124 k136)))) (fin (whittleref23_Factors_j1 k127 l124 k136))
noncomputable def whittleref23_Factors_b1 (x3 : List UInt8) (v23 : (List Bool) × Int) (v36 : (List Bool) × Int) (x0 : Dfa) (l124 : List Span) (k127 : Nat) : Option (((List Span) × Nat) ⊕ ((List Span) × Int)) :=
 iteO (decide (((k127 : Nat) : Int) < ((x3.length : Nat) : Int))) (iter (fun q : Nat × Nat => whittleref23_Factors_b2 x3 k127 v23 v36 x0 l124 q.1 q.2) (k127, (k127 + 1))) (fin (some (l124, 0)))
noncomputable def whittleref23_Factors (x0 : Dfa) (x1 : Dfa) (x2 : Dfa) (x3 : List UInt8) : Option ((List Span) × Int) :=
 grd (x3.length ≤ 281474976710656) (bnd (whittleref11_Right x0) (fun v7 => iteO (!v7) (some (([] : List Span), 1)) (bnd (whittleref11_Right x1) (fun v11 => iteO (!v11) (some (([] : List Span), 1)) (bnd (whittleref11_Right x2) (fun v16 => iteO (!v16) (some (([] : List Span), 1)) (bnd (whittleref23_Before x1 x3) (fun v23 => iteO (decide (v23.2 ≠ 0)) (some (([] : List Span), v23.2)) (bnd (whittleref23_After x2 x3) (fun v36 => iter (fun q : (List Span) × Nat => whittleref23_Factors_b1 x3 v23 v36 x0 q.1 q.2) (([] : List Span), 0)))))))))))
def whittleref23_Factors_P (σ : Store) (r : (List Span) × Int) : Value → Store → List Res → Prop := fun v σ' H' =>
 ∃ (a1 : Option Addr), ∃ (c1 : Nat),  v = .tuple #[.slice a1 r.1.length c1, .int .i64 r.2] ∧ RS σ' 2 encSpan (.slice a1 r.1.length c1) r.1 ∧ H' = []
theorem whittleref23_Factors_con {σ : Store} {x0 : Dfa} {a0_0 : Option Addr} {c0_0 : Nat} {a0_1 : Option Addr} {c0_1 : Nat} {a0_2 : Option Addr} {c0_2 : Nat} {x1 : Dfa} {a1_0 : Option Addr} {c1_0 : Nat} {a1_1 : Option Addr} {c1_1 : Nat} {a1_2 : Option Addr} {c1_2 : Nat} {x2 : Dfa} {a2_0 : Option Addr} {c2_0 : Nat} {a2_1 : Option Addr} {c2_1 : Nat} {a2_2 : Option Addr} {c2_2 : Nat} {x3 : List UInt8} (f0_0 : RS σ 1 Go.E.encI (.slice a0_0 x0.cls.length c0_0) x0.cls) (f0_1 : RZ σ (pkSl 1 Go.E.encI Go.E.encI_len) (.slice a0_1 x0.next.length c0_1) x0.next) (f0_2 : RS σ 1 encB (.slice a0_2 x0.fin.length c0_2) x0.fin) (f1_0 : RS σ 1 Go.E.encI (.slice a1_0 x1.cls.length c1_0) x1.cls) (f1_1 : RZ σ (pkSl 1 Go.E.encI Go.E.encI_len) (.slice a1_1 x1.next.length c1_1) x1.next) (f1_2 : RS σ 1 encB (.slice a1_2 x1.fin.length c1_2) x1.fin) (f2_0 : RS σ 1 Go.E.encI (.slice a2_0 x2.cls.length c2_0) x2.cls) (f2_1 : RZ σ (pkSl 1 Go.E.encI Go.E.encI_len) (.slice a2_1 x2.next.length c2_1) x2.next) (f2_2 : RS σ 1 encB (.slice a2_2 x2.fin.length c2_2) x2.fin) {r : (List Span) × Int} (hh : whittleref23_Factors x0 x1 x2 x3 = some r) :
  Con Tryz.prog 35 #[.agg #[.slice a0_0 x0.cls.length c0_0, .slice a0_1 x0.next.length c0_1, .slice a0_2 x0.fin.length c0_2], .agg #[.slice a1_0 x1.cls.length c1_0, .slice a1_1 x1.next.length c1_1, .slice a1_2 x1.fin.length c1_2], .agg #[.slice a2_0 x2.cls.length c2_0, .slice a2_1 x2.next.length c2_1, .slice a2_2 x2.fin.length c2_2], .string (bs x3)] σ [] (whittleref23_Factors_P σ r) := by
 dsimp only [whittleref23_Factors] at hh
 have f0_0b := f0_0.rv.big
 have f0_1b := f0_1.big
 have f0_2b := f0_2.rv.big
 have f1_0b := f1_0.rv.big
 have f1_1b := f1_1.big
 have f1_2b := f1_2.rv.big
 have f2_0b := f2_0.rv.big
 have f2_1b := f2_1.big
 have f2_2b := f2_2.rv.big
 refine Con.mk (n := 90) Tryz.func35 z z z (fun w0 => ?_)
 have x3b := grd_c hh
 replace hh := grd_t hh
 refine TC.a (TL.op z (boxA z z z z (fun b101 => ?_)))
 refine TL.op z (boxA z z z z (fun b103 => ?_))
 refine TL.op z (boxA z z z z (fun b105 => ?_))
 refine TL.s z z (TL.i z z (TL.en (TC.seq (TC.a (TL.w z (loadAll z ag26 sz26 z (i := 2) z z) ?_)))))
 obtain ⟨v7, u7, hh⟩ := bnd_e hh
 refine TL.op z (callP (whittleref11_Right_con (x0 := x0) f0_0 f0_1 f0_2 u7) z z pf66 z z z ?_)
 refine TL.w z (OpVal.not z z) (TL.j z z (TL.split 21 z (fun h107 => ?_) (fun h107 => ?_)))
 ·replace hh := iteO_t h107 hh
  refine TL.f z (TL.f z (TL.f z (TL.w z (pickTB z z z) (TL.j z z (TL.f z (TL.f z (TL.f z (TL.w z (pickTB z z z) (TL.en (TC.t z (TC.a (TL.s z z (TL.i z z (TL.en (TC.rt 0 ?_)))))))))))))))
  refine S.r ?_
  obtain rfl := so hh
  exact rq [8, 9] ⟨none, 0, z, (RS.nilF _ encSpan encSpan_len), z⟩
 ·replace hh := iteO_f h107 hh
  refine TL.g z (loadAll z ag26 sz26 z (i := 1) z z) ?_
  obtain ⟨v11, u11, hh⟩ := bnd_e hh
  refine TL.gon z z z z z (callP (whittleref11_Right_con (x0 := x1) f1_0 f1_1 f1_2 u11) z z pf66 z z z ?_)
  refine TL.g z (OpVal.not z z) (TL.w z (pickFB z z z) (TL.j z z (TL.split 26 z (fun h108 => ?_) (fun h108 => ?_))))
  ·replace hh := iteO_t h108 hh
   refine TL.f z (TL.f z (TL.f z (TL.w z (pickTB z z z) (TL.en (TC.t z (TC.a (TL.s z z (TL.i z z (TL.en (TC.rt 0 (S.r ?_)))))))))))
   obtain rfl := so hh
   exact rq [8, 9] ⟨none, 0, z, (RS.nilF _ encSpan encSpan_len), z⟩
  ·replace hh := iteO_f h108 hh
   refine TL.g z (loadAll z ag26 sz26 z (i := 0) z z) ?_
   obtain ⟨v16, u16, hh⟩ := bnd_e hh
   refine TL.gon z z z z z (callP (whittleref11_Right_con (x0 := x2) f2_0 f2_1 f2_2 u16) z z pf66 z z z ?_)
   refine TL.g z (OpVal.not z z) (TL.w z (pickFB z z z) (TL.en (TC.cB z hh (fun h109 hh => ?_) (fun h109 hh => ?_))))
   ·refine TC.a (TL.s z z (TL.i z z (TL.en (TC.rt 0 (S.r ?_)))))
    obtain rfl := so hh
    exact rq [8, 9] ⟨none, 0, z, (RS.nilF _ encSpan encSpan_len), z⟩
   ·refine TC.skip (S.n (TC.a (TL.w z (loadAll z ag26 sz26 z (i := 1) z z) (TL.w z (moveStr (.inl z) z) ?_))))
    obtain ⟨v23, u23, hh⟩ := bnd_e hh
    refine TL.op z (OpOk.call (whittleref23_Before_con (x0 := x1) f1_0 f1_1 f1_2 u23) z z pf68 z z z z ?_)
    rintro _ τ110 _ hle110 ⟨a110_1, c110_1, rfl, hr110_0, rfl⟩
    replace f0_0 := f0_0.mono hle110
    replace f0_1 := f0_1.mono hle110
    replace f0_2 := f0_2.mono hle110
    replace f2_0 := f2_0.mono hle110
    replace f2_1 := f2_1.mono hle110
    replace f2_2 := f2_2.mono hle110
    have hr110_0b := hr110_0.rv.big
    refine TL.w z (moveT (.inl z) z) (TL.w z (OpVal.extract z z z) (TL.w z (OpVal.extract z z z) (TL.s z z (TL.i z z (TL.en (TC.seq (TC.a (TL.i z z (TL.w z (OpVal.neq z z z) (TL.en (TC.cD z hh (fun h111 hh => ?_) (fun h111 hh => ?_))))))))))))
    ·refine TC.a (TL.i z z (TL.s z z (TL.i z z (TL.en (TC.rt 0 (S.r ?_))))))
     obtain rfl := so hh
     exact rq [8, 9] ⟨none, 0, z, (RS.nilF _ encSpan encSpan_len), z⟩
    ·refine TC.skip (S.n (TC.a (TL.w z (loadAll z ag26 sz26 z (i := 0) z z) (TL.w z (moveStr (.inl z) z) ?_))))
     obtain ⟨v36, u36, hh⟩ := bnd_e hh
     refine TL.op z (OpOk.call (whittleref23_After_con (x0 := x2) f2_0 f2_1 f2_2 u36) z z pf69 z z z z ?_)
     rintro _ τ112 _ hle112 ⟨a112_1, c112_1, rfl, hr112_0, rfl⟩
     replace f0_0 := f0_0.mono hle112
     replace f0_1 := f0_1.mono hle112
     replace f0_2 := f0_2.mono hle112
     replace hr110_0 := hr110_0.mono hle112
     have hr112_0b := hr112_0.rv.big
     refine TL.w z (moveT (.inl z) z) (TL.w z (OpVal.extract z z z) (TL.w z (OpVal.extract z z z) (TL.s z z (TL.i z z (TL.en (TC.a (TL.s z z (TL.en (TC.a (TL.i z z (TL.en (TC.seq (TC.block (TC.nilS 56 2 encSpan (TC.loopG (α := ((List Span) × Nat) × ((Option Addr) × Nat)) (rgs [(14, 4), (46, 43)]) (fun g => [(14, .slice g.2.1 g.1.1.length g.2.2), (15, .int .i64 ((g.1.2 : Nat) : Int))]) (fun g => [Res.cells b101 #[.slice a0_0 x0.cls.length c0_0, .slice a0_1 x0.next.length c0_1, .slice a0_2 x0.fin.length c0_2] 26, Res.rowS 56 2 encSpan (.slice g.2.1 g.1.1.length g.2.2) g.1.1]) (fun g => τ112) (fun g => iter (fun q : (List Span) × Nat => whittleref23_Factors_b1 x3 v23 v36 x0 q.1 q.2) g.1 = some r) (fun g => rounds (fun q : (List Span) × Nat => whittleref23_Factors_b1 x3 v23 v36 x0 q.1 q.2) g.1) ((([] : List Span), 0), (none, 0)) (Sub.f [3] 2) z (by repeat (first | exact trivial | refine ⟨z, ?_⟩)) hh (fun g1 j1 hg1 => ?_))))))))))))))))
     obtain ⟨⟨l124, k127⟩, ⟨a125, c126⟩⟩ := g1
     have hh := hg1; clear hg1
     try dsimp only
     obtain ⟨z1, hh, hR1⟩ := iter_e hh
     dsimp only [whittleref23_Factors_b1] at hh
     refine TC.isSl (i := 1) z (fun _ hb129 _ => ?_)
     refine TC.seq (TC.a (TL.i z z (TL.w z (moveStr (.inl z) z) (TL.w z (lenBs z underlying9 z) (TL.w z (OpVal.lss z z z) (TL.en (TC.cD z hh (fun h130 hh => ?_) (fun h130 hh => ?_))))))))
     ·refine TC.skip (S.n (TC.block (TC.a (TL.i z z (TL.i z z (TL.en (TC.cutG (α := (Nat) × (Unit)) (rgs [(16, 2), (51, 26)]) (fun g => [(16, .int .i64 ((g.1 : Nat) : Int))]) (fun g => [Res.cells b101 #[.slice a0_0 x0.cls.length c0_0, .slice a0_1 x0.next.length c0_1, .slice a0_2 x0.fin.length c0_2] 26, Res.rowS 56 2 encSpan (.slice a125 l124.length c126) l124]) (fun g => τ112) (fun g => whittleref23_Factors_j1 k127 l124 g.1 = some z1) ?_ (fun g j hg => ?_))))))))
      ·skip
       refine TC.a (TL.i z z (TL.w z (OpVal.succ z z z (by omega)) (TL.i z z (TL.en (TC.block (TC.loopG (α := (Nat × Nat) × (Unit)) (rgs [(16, 2), (53, 24)]) (fun g => [(16, .int .i64 ((g.1.1 : Nat) : Int)), (17, .int .i64 ((g.1.2 : Nat) : Int))]) (fun g => [Res.cells b101 #[.slice a0_0 x0.cls.length c0_0, .slice a0_1 x0.next.length c0_1, .slice a0_2 x0.fin.length c0_2] 26, Res.rowS 56 2 encSpan (.slice a125 l124.length c126) l124]) (fun g => τ112) (fun g => iter (fun q : Nat × Nat => whittleref23_Factors_b2 x3 k127 v23 v36 x0 l124 q.1 q.2) g.1 = some z1) (fun g => rounds (fun q : Nat × Nat => whittleref23_Factors_b2 x3 k127 v23 v36 x0 l124 q.1 q.2) g.1) ((k127, (k127 + 1)), ()) (Sub.f [1, 1] 2) z (by repeat (first | exact trivial | refine ⟨z, ?_⟩)) hh (fun g2 j2 hg2 => ?_)))))))
       obtain ⟨⟨k136, k137⟩, _⟩ := g2
       have hh := hg2; clear hg2
       try dsimp only
       obtain ⟨z2, hh, hR2⟩ := iter_e hh
       dsimp only [whittleref23_Factors_b2] at hh
       refine TC.isSl (i := 1) z (fun _ hb138 _ => ?_)
       refine TC.seq (TC.a (TL.i z z (TL.w z (moveStr (.inl z) z) (TL.w z (lenBs z underlying9 z) (TL.w z (OpVal.leq z z z) (TL.j z z (TL.split 57 z (fun h139 => ?_) (fun h139 => ?_))))))))
       ·replace hh := iteO_t h139 hh
        replace h139 := of_decide_eq_true h139
        refine TL.g z (moveSl (.inl z) z) (TL.g z (moveI (.inl z) z) ?_)
        have u60 := grd_c hh
        replace hh := grd_t hh
        refine TL.g z (indexN z underlying24 sz4 z z hr110_0.rv.sl (by omega)) (TL.g z (loadS1 false z ag4 z hr110_0 (by omega) z) (TL.w z (pickTB z z z) (TL.en (TC.cB z hh (fun h140 hh => ?_) (fun h140 hh => ?_)))))
        ·refine TC.skip (S.n (TC.cutG (α := (Nat) × (Unit)) (rgs [(16, 1), (65, 12)]) (fun g => [(16, .int .i64 ((g.1 : Nat) : Int))]) (fun g => [Res.cells b101 #[.slice a0_0 x0.cls.length c0_0, .slice a0_1 x0.next.length c0_1, .slice a0_2 x0.fin.length c0_2] 26, Res.rowS 56 2 encSpan (.slice a125 l124.length c126) l124]) (fun g => τ112) (fun g => whittleref23_Factors_j2 k137 g.1 = some z2) ?_ (fun g j hg => ?_)))
         ·skip
          refine TC.block (TC.a (TL.s z z (TL.i z z ?_)))
          have u65 := grd_c hh
          replace hh := grd_t hh
          refine TL.w z (indexN z underlying24 sz4 z z hr112_0.rv.sl (by omega)) (TL.w z (loadS1 false z ag4 z hr112_0 (by omega) z) (TL.j z z (TL.split 69 z (fun h142 => ?_) (fun h142 => ?_))))
          ·replace hh := iteO_t h142 hh
           refine TL.g z (loadAll z ag26 sz26 z (i := 0) z z) (TL.g z (moveStr (.inl z) z) (TL.g z (moveI (.inl z) z) (TL.g z (moveI (.inl z) z) ?_)))
           obtain ⟨v72, u72, hh⟩ := bnd_e hh
           refine TL.gon z z z z z (callP (whittleref23_taken_con (x0 := x0) f0_0 f0_1 f0_2 u72) z z pf70 z z z ?_)
           refine TL.w z (pickTB z z z) (TL.en (TC.cB z hh (fun h143 hh => ?_) (fun h143 hh => ?_)))
           ·exact TC.region (TL.i z z (TL.i z z (TL.nil (B.n (S.n (cf (k137, ()) hh (Sub.f [1, 1] 2)))))))
           ·exact TC.skip (B.n (S.n (cf (k136, ()) hh (Sub.f [1, 1] 2))))
          ·replace hh := iteO_f h142 hh
           exact TL.f z (TL.f z (TL.f z (TL.f z (TL.f z (TL.w z (pickFB z z z) (TL.en (TC.f z (TC.skip (B.n (S.n (cf (k136, ()) hh (Sub.f [1, 1] 2))))))))))))
         ·skip
          obtain ⟨k141, _⟩ := g
          have hh := hg; clear hg
          try dsimp only
          dsimp only [whittleref23_Factors_j2] at hh
          refine TC.isSl (i := 1) z (fun _ hb144 _ => ?_)
          refine TC.region (TL.i z z (TL.w z (OpVal.succ z z z (by omega)) (TL.i z z (TL.en ?_))))
          obtain ⟨hh, hlt145⟩ := nxt_x hR2 hh
          exact lf ((k141, (k137 + 1)), ()) hlt145 hh (Sub.f [1, 1] 2)
        ·refine TC.exit (S.x (S.x ?_))
         replace hh := fin_x hR2 hh
         exact TC.exitHere (S.n (cf (k136, ()) hh (Sub.f [1, 1] 2)))
       ·replace hh := iteO_f h139 hh
        replace h139 := of_decide_eq_false h139
        refine TL.f z (TL.f z (TL.f z (TL.f z (TL.w z (pickFB z z z) (TL.en (TC.f z (TC.exit (S.x (S.x ?_)))))))))
        replace hh := fin_x hR2 hh
        exact TC.exitHere (S.n (cf (k136, ()) hh (Sub.f [1, 1] 2)))
      ·skip
       obtain ⟨k131, _⟩ := g
       have hh := hg; clear hg
       try dsimp only
       dsimp only [whittleref23_Factors_j1] at hh
       refine TC.isSl (i := 1) z (fun _ hb146 _ => ?_)
       refine TC.seq (TC.a (TL.i z z (TL.i z z (TL.w z (OpVal.eql z z z) (TL.en (TC.cD z hh (fun h147 hh => ?_) (fun h147 hh => ?_)))))))
       ·refine TC.a (TL.i z z (TL.w z (OpVal.succ z z z (by omega)) (TL.i z z (TL.en (TC.exit (S.x (TC.exitHere (S.n ?_))))))))
        obtain ⟨hh, hlt148⟩ := nxt_x hR1 hh
        exact lf ((l124, (k127 + 1)), (a125, c126)) hlt148 hh (Sub.f [1, 1] 2)
       ·refine TC.skip (S.n (TC.a (TL.s z z (TL.i z z (TL.i z z (TL.w z (buildL z pl56 ze56 z) (TL.op z (OpOk.lit (enc := encSpan) [(⟨((k127 : Nat) : Int), ((k131 : Nat) : Int)⟩ : Span)] z underlying34 sz56 ze56 z z z encSpan_len (by decide) (by decide) Span.zero z (by decide) z (by decide) encSpan_one (fun a149 c150 => ?_)))))))))
        refine TL.front 2 z z ?_
        have u90 := grd_c hh
        replace hh := grd_t hh
        refine TL.op z (appendS z z underlying34 sz56 by56 ze56 z z (by decide) z z z (.inr ⟨_, 0, z⟩) (by simpa using u90) (by decide) (fun a152 c153 => ?_))
        refine TL.s z z (TL.en (TC.region (TL.i z z (TL.i z z (TL.nil (B.n (S.n ?_)))))))
        obtain ⟨hh, hlt154⟩ := nxt_x hR1 hh
        exact lf (((l124 ++ [(⟨((k127 : Nat) : Int), ((k131 : Nat) : Int)⟩ : Span)]), k131), (a152, c153)) hlt154 hh (Sub.f [2] 2)
     ·refine TC.exit (S.x (S.x ?_))
      replace hh := fin_x hR1 hh
      refine TC.exitHere (S.n (TC.a (TL.s z z (TL.s z z (TL.i z z (TL.en (TC.front 1 z z (TC.sealS encSpan_len (fun τ157 hle156 hr155 => ?_)))))))))
      have hr155b := hr155.rv.big
      refine TC.rt 0 ?_
      obtain rfl := so hh
      exact rq [8, 9] ⟨a125, c126, z, hr155, z⟩

end Go.Proofs.YtmfclggfajopkaaGreatDoor
end
