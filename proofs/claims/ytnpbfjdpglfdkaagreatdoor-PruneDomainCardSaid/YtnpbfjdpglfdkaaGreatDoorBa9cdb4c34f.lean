/- Parts of a proof, one behind the other: what a machine reaches, functions decompiled, plain lemmas. Conditions stand with each lemma. -/
import Derived.Test.YtnpbfjdpglfdkaaGreatDoorB0b137539b5
import Derived.Test.YtnpbfjdpglfdkaaGreatDoorBbad72b773d

set_option linter.unusedVariables false
set_option linter.unusedSimpArgs false
set_option linter.unusedSectionVars false
set_option maxRecDepth 100000

section
namespace Go.Proofs.YtnpbfjdpglfdkaaGreatDoor
open Go Go.E Go.E.OpVal Go.E.OpOk Go.Proofs.Tryz
private theorem ag22 : Go.E.aggOf Tryz.prog 22 = some false := by kernel_rfl
private theorem ag23 : Go.E.aggOf Tryz.prog 23 = some false := by kernel_rfl
private theorem ag25 : Go.E.aggOf Tryz.prog 25 = some true := by kernel_rfl
private theorem ag35 : Go.E.aggOf Tryz.prog 35 = some false := by kernel_rfl
private theorem ag48 : Go.E.aggOf Tryz.prog 48 = some true := by kernel_rfl
private theorem ag59 : Go.E.aggOf Tryz.prog 59 = some true := by kernel_rfl
private theorem ag62 : Go.E.aggOf Tryz.prog 62 = some true := by kernel_rfl
private theorem ag9 : Go.E.aggOf Tryz.prog 9 = some false := by kernel_rfl
private theorem by23 : Go.E.byOf Tryz.prog 23 = some 24 := by kernel_rfl
private theorem by35 : Go.E.byOf Tryz.prog 35 = some 24 := by kernel_rfl
private theorem by59 : Go.E.byOf Tryz.prog 59 = some 72 := by kernel_rfl
private theorem by62 : Go.E.byOf Tryz.prog 62 = some 24 := by kernel_rfl
private theorem by78 : Go.E.byOf Tryz.prog 78 = some 48 := by kernel_rfl
private theorem by9 : Go.E.byOf Tryz.prog 9 = some 16 := by kernel_rfl
private theorem eg59 : Tryz.prog.eqGuardType Tryz.prog.depth 59 = false := by kernel_rfl
private theorem eg62 : Tryz.prog.eqGuardType Tryz.prog.depth 62 = false := by kernel_rfl
private theorem es59 (x y : Arc) : Go.E.EqAt Tryz.prog 3 59 (.agg (Go.E.encArc x).toArray) (.agg (Go.E.encArc y).toArray) (decide (x = y)) :=
 (EqAt.struct (ts := [(false, 3, 0), (false, 3, 1), (false, 57, 2), (false, 9, 6), (false, 4, 7)]) (by kernel_rfl) (by kernel_rfl) (by kernel_rfl) (EqC.one (by kernel_rfl) rfl rfl (EqAt.int underlying3 x.frm y.frm |>.up (by decide)) (EqC.one (by kernel_rfl) rfl rfl (EqAt.int underlying3 x.to y.to |>.up (by decide)) (EqC.agg (s := 4) (us := Go.E.setA x.set) (vs := Go.E.setA y.set) (by kernel_rfl) (by kernel_rfl) rfl rfl (EqAt.set underlying57 underlying55 (by kernel_rfl) (by kernel_rfl) x.set y.set) (EqC.one (by kernel_rfl) rfl rfl (EqAt.str underlying9 x.out y.out |>.up (by decide)) (EqC.one (by kernel_rfl) rfl rfl (EqAt.bool underlying4 x.copy y.copy |>.up (by decide)) EqC.nil)))))).of (by rw [Bool.eq_iff_iff]; cases x; cases y; simp)
private theorem es62 (x y : Tip) : Go.E.EqAt Tryz.prog 2 62 (.agg (Go.E.encTip x).toArray) (.agg (Go.E.encTip y).toArray) (decide (x = y)) :=
 (EqAt.struct (ts := [(false, 3, 0), (false, 9, 1)]) (by kernel_rfl) (by kernel_rfl) (by kernel_rfl) (EqC.one (by kernel_rfl) rfl rfl (EqAt.int underlying3 x.state y.state) (EqC.one (by kernel_rfl) rfl rfl (EqAt.str underlying9 x.out y.out) EqC.nil))).of (by rw [Bool.eq_iff_iff]; cases x; cases y; simp)
private theorem fo25_0 : Go.E.foOf Tryz.prog 25 0 = some 0 := by kernel_rfl
private theorem fo25_1 : Go.E.foOf Tryz.prog 25 1 = some 1 := by kernel_rfl
private theorem fo25_2 : Go.E.foOf Tryz.prog 25 2 = some 2 := by kernel_rfl
private theorem fo25_3 : Go.E.foOf Tryz.prog 25 3 = some 3 := by kernel_rfl
private theorem fo59_0 : Go.E.foOf Tryz.prog 59 0 = some 0 := by kernel_rfl
private theorem fo59_1 : Go.E.foOf Tryz.prog 59 1 = some 1 := by kernel_rfl
private theorem fo59_2 : Go.E.foOf Tryz.prog 59 2 = some 2 := by kernel_rfl
private theorem fo62_0 : Go.E.foOf Tryz.prog 62 0 = some 0 := by kernel_rfl
private theorem fo62_1 : Go.E.foOf Tryz.prog 62 1 = some 1 := by kernel_rfl
private theorem fo65_0 : Go.E.foOf Tryz.prog 65 0 = some 0 := by kernel_rfl
private theorem fo65_1 : Go.E.foOf Tryz.prog 65 1 = some 1 := by kernel_rfl
private theorem es65 (x y : FPair) : Go.E.EqAt Tryz.prog 2 65 (.agg (Go.E.encFPair x).toArray) (.agg (Go.E.encFPair y).toArray) (decide (x = y)) :=
 (EqAt.struct (ts := [(false, 3, 0), (false, 9, 1)]) (by kernel_rfl) (by kernel_rfl) (by kernel_rfl) (EqC.one (by kernel_rfl) rfl rfl (EqAt.int underlying3 x.state y.state) (EqC.one (by kernel_rfl) rfl rfl (EqAt.str underlying9 x.out y.out) EqC.nil))).of (by rw [Bool.eq_iff_iff]; cases x; cases y; simp)
private theorem kl65 : Go.E.KeyL Tryz.prog 65 (fun x => Value.agg (Go.E.encFPair x).toArray) :=
 KeyL.struct underlying65 es65 rfl (fun x => CkAt.struct (n := 1) (ts := [(false, 3, 0), (false, 9, 1)]) (by kernel_rfl) (by kernel_rfl) (CkC.one (by kernel_rfl) rfl (CkAt.int underlying3 _) (CkC.one (by kernel_rfl) rfl (CkAt.str underlying9 _) CkC.nil))) rfl encFPair_bits
private theorem pf104 : Go.E.plainF Tryz.prog 104 = true := by kernel_rfl
private theorem pf105 : Go.E.plainF Tryz.prog 105 = true := by kernel_rfl
private theorem pf106 : Go.E.plainF Tryz.prog 106 = true := by kernel_rfl
private theorem pf108 : Go.E.plainF Tryz.prog 108 = true := by kernel_rfl
private theorem pf109 : Go.E.plainF Tryz.prog 109 = true := by kernel_rfl
private theorem pf110 : Go.E.plainF Tryz.prog 110 = true := by kernel_rfl
private theorem pf16 : Go.E.plainF Tryz.prog 16 = true := by kernel_rfl
private theorem pf17 : Go.E.plainF Tryz.prog 17 = true := by kernel_rfl
private theorem pf18 : Go.E.plainF Tryz.prog 18 = true := by kernel_rfl
private theorem pf26 : Go.E.plainF Tryz.prog 26 = true := by kernel_rfl
private theorem pf44 : Go.E.plainF Tryz.prog 44 = true := by kernel_rfl
private theorem pf45 : Go.E.plainF Tryz.prog 45 = true := by kernel_rfl
private theorem pf46 : Go.E.plainF Tryz.prog 46 = true := by kernel_rfl
private theorem pf50 : Go.E.plainF Tryz.prog 50 = true := by kernel_rfl
private theorem pf62 : Go.E.plainF Tryz.prog 62 = true := by kernel_rfl
private theorem pf82 : Go.E.plainF Tryz.prog 82 = true := by kernel_rfl
private theorem pf84 : Go.E.plainF Tryz.prog 84 = true := by kernel_rfl
private theorem pf89 : Go.E.plainF Tryz.prog 89 = true := by kernel_rfl
private theorem pf90 : Go.E.plainF Tryz.prog 90 = true := by kernel_rfl
private theorem pl25 : Go.E.plOf Tryz.prog 25 = some #[(0, 1), (1, 1), (2, 1), (3, 1)] := by kernel_rfl
private theorem pl48 : Go.E.plOf Tryz.prog 48 = some #[(0, 1), (1, 1), (2, 1), (3, 1)] := by kernel_rfl
private theorem pl63 : Go.E.plOf Tryz.prog 63 = some #[] := by kernel_rfl
private theorem pl65 : Go.E.plOf Tryz.prog 65 = some #[(0, 1), (1, 1)] := by kernel_rfl
private theorem pl78 : Go.E.plOf Tryz.prog 78 = some #[(0, 1), (1, 1), (2, 4)] := by kernel_rfl
private theorem sz23 : Go.E.szOf Tryz.prog 23 = some 1 := by kernel_rfl
private theorem sz25 : Go.E.szOf Tryz.prog 25 = some 4 := by kernel_rfl
private theorem sz35 : Go.E.szOf Tryz.prog 35 = some 1 := by kernel_rfl
private theorem sz46 : Go.E.szOf Tryz.prog 46 = some 1 := by kernel_rfl
private theorem sz48 : Go.E.szOf Tryz.prog 48 = some 4 := by kernel_rfl
private theorem sz59 : Go.E.szOf Tryz.prog 59 = some 8 := by kernel_rfl
private theorem sz62 : Go.E.szOf Tryz.prog 62 = some 2 := by kernel_rfl
private theorem sz65 : Go.E.szOf Tryz.prog 65 = some 2 := by kernel_rfl
private theorem sz9 : Go.E.szOf Tryz.prog 9 = some 1 := by kernel_rfl
private theorem ze23 : Go.E.zeroOf Tryz.prog 23 = some (.slice none 0 0) := by kernel_rfl
private theorem ze25 : Go.E.zeroOf Tryz.prog 25 = some (.agg #[.int .i64 0, .slice none 0 0, .slice none 0 0, .slice none 0 0]) := by kernel_rfl
private theorem ze35 : Go.E.zeroOf Tryz.prog 35 = some (.slice none 0 0) := by kernel_rfl
private theorem ze48 : Go.E.zeroOf Tryz.prog 48 = some (.agg #[.int .i64 0, .slice none 0 0, .slice none 0 0, .slice none 0 0]) := by kernel_rfl
private theorem ze59 : Go.E.zeroOf Tryz.prog 59 = some (.agg #[.int .i64 0, .int .i64 0, .int .u64 0, .int .u64 0, .int .u64 0, .int .u64 0, .string ByteArray.empty, .bool false]) := by kernel_rfl
private theorem ze62 : Go.E.zeroOf Tryz.prog 62 = some (.agg #[.int .i64 0, .string ByteArray.empty]) := by kernel_rfl
private theorem ze63 : Go.E.zeroOf Tryz.prog 63 = some (.agg #[]) := by kernel_rfl
private theorem ze65 : Go.E.zeroOf Tryz.prog 65 = some (.agg #[.int .i64 0, .string ByteArray.empty]) := by kernel_rfl
private theorem ze9 : Go.E.zeroOf Tryz.prog 9 = some (.string ByteArray.empty) := by kernel_rfl
theorem Iy_ {σ : Store} {a : Option Addr} {c : Nat} {l : List (List UInt8)} (hl : RS σ 1 Go.E.encS (.slice a l.length c) l) (hsz : l.length * 16 ≤ 140737488355328) :
  Con Tryz.prog 44 #[.slice a l.length c] σ [] (RowP 9 1 Go.E.encS l σ) := by
 have hb := hl.rv.big
 refine Con.mk (n := 8) Tryz.func44 z z z (fun w0 => ?_)
 refine TC.a (TL.s z z (TL.nilS 9 1 Go.E.encS (TL.en (TC.seq (TC.a (TL.s z z (TL.w z (eqlNilSl z underlying35 z z) (TL.en (TC.cond z (fun h2 => ?_) (fun h2 => ?_))))))))))
 ·refine TC.a (TL.s z z (TL.nilS 9 1 Go.E.encS (TL.en (TC.ret (S.r ?_)))))
  cases a with
  | some _ => simp at h2
  | none =>
   obtain rfl := hl.none_nil
   exact ret1R z z
 ·refine TC.skip (S.n (TC.a (TL.op z (lit0 (enc := Go.E.encS) z z underlying35 sz9 z z (fun a4 c5 => ?_)))))
  refine TL.s z z (TL.op z (appendS z z underlying35 sz9 by9 ze9 z z (by decide) z z z (.inl hl) (by simpa using hsz) (by decide) (fun a7 c8 => ?_)))
  exact TL.s z z (TL.en (TC.ret (ret1R z z)))
noncomputable def Fg_ (k125 : Nat) (l128 : List (List UInt8)) (k130 : Nat) : Option (((List (List UInt8)) × Nat × Nat) ⊕ ((Nat) ⊕ ((List (List UInt8))))) :=
 nxt (l128, k130, (k125 + 1))
noncomputable def Fq_ (x0 : List (List UInt8)) (k105 : Nat) (l122 : List (List UInt8)) (k124 : Nat) (k125 : Nat) : Option (((List (List UInt8)) × Nat × Nat) ⊕ ((Nat) ⊕ ((List (List UInt8))))) :=
 iteO (decide (((k125 : Nat) : Int) < (((x0.length - k105) : Nat) : Int))) (grd (k125 < (x0.length - k105)) (grd (0 ≤ (IntKind.i64.wrap (((k125 : Nat) : Int) - 1)) ∧ (IntKind.i64.wrap (((k125 : Nat) : Int) - 1)) < ((x0.length - k105) : Nat)) (iteO (decide ((nth l122 (k105 + k125) ([] : List UInt8)) ≠ (nth l122 (k105 + (IntKind.i64.wrap (((k125 : Nat) : Int) - 1)).toNat) ([] : List UInt8)))) (grd (k125 < (x0.length - k105)) (grd (k124 < l122.length) (Fg_ k125 (l122.set k124 (nth l122 (k105 + k125) ([] : List UInt8))) (k124 + 1)))) (Fg_ k125 l122 k124)))) (fin (grd (k124 ≤ x0.length) (grd (k124 ≤ (l122.take k124 ++ List.replicate (l122.length - k124) ([] : List UInt8)).length) (fin (some ((l122.take k124 ++ List.replicate (l122.length - k124) ([] : List UInt8)).take k124))))))
noncomputable def Fr_ (x0 : List (List UInt8)) (k105 : Nat) : Option ((Nat) ⊕ ((List (List UInt8)))) :=
 iteO (decide (((k105 : Nat) : Int) < ((x0.length : Nat) : Int))) (grd (0 ≤ (IntKind.i64.wrap (((k105 : Nat) : Int) - 1)) ∧ (IntKind.i64.wrap (((k105 : Nat) : Int) - 1)) < (x0.length : Int)) (iteO (decide ((nth x0 k105 ([] : List UInt8)) = (nth x0 ((IntKind.i64.wrap (((k105 : Nat) : Int) - 1)).toNat) ([] : List UInt8)))) (grd (k105 ≤ x0.length) (iter (fun q : (List (List UInt8)) × Nat × Nat => Fq_ x0 k105 q.1 q.2.1 q.2.2) (x0, k105, 1))) (nxt (k105 + 1)))) (fin (some x0))
noncomputable def compactS (x0 : List (List UInt8)) : Option ((List (List UInt8))) :=
 iteO (decide (((x0.length : Nat) : Int) < 2)) (some x0) (iter (fun q : Nat => Fr_ x0 q) 1)
theorem Ij_ {σ : Store} {x0 : List (List UInt8)} {a0_1 : Option Addr} {c0_2 : Nat}  {r : (List (List UInt8))} (hh : compactS x0 = some r) :
  Con Tryz.prog 46 #[.slice a0_1 x0.length c0_2] σ [Res.rowS 9 1 Go.E.encS (.slice a0_1 x0.length c0_2) x0] (fun v σ' H' => ∃ (a1 : Option Addr), ∃ (c1 : Nat), v = .slice a1 r.length c1 ∧ σ = σ' ∧ H' = [Res.rowS 9 1 Go.E.encS (.slice a1 r.length c1) r]) := by
 dsimp only [compactS] at hh
 refine Con.mk (n := 61) Tryz.func46 z z z (fun w0 => ?_)
 refine TC.a (TL.s z z (TL.en (TC.seq (TC.a (TL.s z z (TL.w z (lenC z underlying35 z) (TL.w z (OpVal.lss z z z) (TL.en (TC.cD z hh (fun h102 hh => ?_) (fun h102 hh => ?_))))))))))
 ·refine TC.a (TL.s z z (TL.s z z (TL.en (TC.ret (S.r ?_)))))
  obtain rfl := so hh
  exact ro [Res.rowS 9 1 Go.E.encS (.slice a0_1 x0.length c0_2) x0] z (RVs.tmp z RVs.nil) ⟨a0_1, c0_2, z, z, z⟩
 ·refine TC.skip (S.n (TC.seq (TC.a (TL.i z z (TL.en (TC.block (TC.loopG (α := (Nat) × (Unit)) (rgs [(2, 4), (10, 50)]) (fun g => [(3, .int .i64 ((g.1 : Nat) : Int))]) (fun g => [Res.rowS 9 1 Go.E.encS (.slice a0_1 x0.length c0_2) x0]) (fun g => σ) (fun g => iter (fun q : Nat => Fr_ x0 q) g.1 = some r) (fun g => rounds (fun q : Nat => Fr_ x0 q) g.1) (1, ()) (Sub.pre 1 z) z (by repeat (first | exact trivial | refine ⟨z, ?_⟩)) hh (fun g1 j1 hg1 => ?_))))))))
  obtain ⟨k105, _⟩ := g1
  have hh := hg1; clear hg1
  try dsimp only
  obtain ⟨z1, hh, hR1⟩ := iter_e hh
  dsimp only [Fr_] at hh
  refine TC.isSl (i := 0) z (fun _ hb106 _ => ?_)
  refine TC.seq (TC.a (TL.i z z (TL.s z z (TL.w z (lenC z underlying35 z) (TL.w z (OpVal.lss z z z) (TL.en (TC.cD z hh (fun h107 hh => ?_) (fun h107 hh => ?_))))))))
  ·refine TC.skip (S.n (TC.seq (TC.block (TC.seq ?_))))
   have u19 := grd_c hh
   replace hh := grd_t hh
   refine TC.draw [] (by kernel_rfl) (TA.a 0 z (moveSl (.inl z) z) z (TA.a 1 z (moveI (.inl z) z) z (TA.isSl (i := 0) z (fun hs110 _ _ => ?_))))
   refine TA.b 2 z (indexN z underlying35 sz9 z z hs110 (by omega)) z (TA.b 3 z (loadO1 ([] : List UInt8) z ag9 z (q := 0) z Go.E.encS_len (by omega) z) z (TA.a 4 z (moveSl (.inl z) z) z (TA.a 5 z (moveI (.inl z) z) z (TA.a 6 z (subW z z z) z (TA.isSl (i := 0) z (fun hs111 _ _ => ?_))))))
   refine TA.b 7 z (OpVal.index z underlying35 sz9 z z hs111 u19.1 u19.2) z (TA.b 8 z (loadO1 ([] : List UInt8) z ag9 z (q := 0) z Go.E.encS_len (by omega) z) z (TA.a 9 z (eqlBs z z z) z (TA.dn (S.n (TC.cD z hh (fun h112 hh => ?_) (fun h112 hh => ?_))))))
   ·refine TC.a (TL.s z z (TL.i z z ?_))
    have u24 := grd_c hh
    replace hh := grd_t hh
    refine TL.isSl (i := 0) z (fun hs113 _ _ => ?_)
    obtain ⟨a113, c113, hv113, ho113⟩ := vw_of (k := k105) (size := 1) hs113 (by omega)
    refine TL.w z (ho113 z underlying35 sz9 z z) (TL.s z z (TL.en (TC.seq (TC.a (TL.i z z (TL.en (TC.block (TC.loopG (α := ((List (List UInt8)) × Nat × Nat) × (Unit)) (rgs [(3, 1), (5, 1), (29, 25)]) (fun g => [(3, .int .i64 ((g.1.2.1 : Nat) : Int)), (5, .int .i64 ((g.1.2.2 : Nat) : Int))]) (fun g => [Res.rowS 9 1 Go.E.encS (.slice a0_1 x0.length c0_2) g.1.1]) (fun g => σ) (fun g => iter (fun q : (List (List UInt8)) × Nat × Nat => Fq_ x0 k105 q.1 q.2.1 q.2.2) g.1 = some z1 ∧ g.1.1.length = x0.length) (fun g => rounds (fun q : (List (List UInt8)) × Nat × Nat => Fq_ x0 k105 q.1 q.2.1 q.2.2) g.1) ((x0, k105, 1), ()) (Sub.pre 1 z) z (by repeat (first | exact trivial | refine ⟨z, ?_⟩)) ⟨hh, z⟩ (fun g2 j2 hg2 => ?_)))))))))
    obtain ⟨⟨l122, k124, k125⟩, _⟩ := g2
    obtain ⟨hh, hn123⟩ := hg2
    try dsimp only at hn123 ⊢
    obtain ⟨z2, hh, hR2⟩ := iter_e hh
    dsimp only [Fq_] at hh
    have hn123b := hn123
    refine TC.isSl (i := 0) z (fun _ hb126 _ => ?_)
    refine TC.seq (TC.a (TL.i z z (TL.s z z (TL.w z (lenC z underlying35 z) (TL.w z (OpVal.lss z z z) (TL.en (TC.cD z hh (fun h127 hh => ?_) (fun h127 hh => ?_))))))))
    ·refine TC.skip (S.n (TC.cutG (α := ((List (List UInt8)) × Nat) × (Unit)) (rgs [(3, 1), (35, 19)]) (fun g => [(3, .int .i64 ((g.1.2 : Nat) : Int))]) (fun g => [Res.rowS 9 1 Go.E.encS (.slice a0_1 x0.length c0_2) g.1.1]) (fun g => σ) (fun g => Fg_ k125 g.1.1 g.1.2 = some z2 ∧ g.1.1.length = x0.length) ?_ (fun g j hg => ?_)))
     ·skip
      refine TC.block (TC.seq ?_)
      have u33 := grd_c hh
      replace hh := grd_t hh
      have u38 := grd_c hh
      replace hh := grd_t hh
      refine TC.draw [] (by kernel_rfl) (TA.a 0 z (moveSl (.inl z) z) z (TA.a 1 z (moveI (.inl z) z) z (TA.b 2 z (elVw hv113 (by omega) (indexN z underlying35 sz9 z z hv113.sl (by omega))) z (TA.b 3 z (loadO1 ([] : List UInt8) z ag9 z (q := 0) z Go.E.encS_len (by omega) z) z (TA.a 4 z (moveSl (.inl z) z) z (TA.a 5 z (moveI (.inl z) z) z (TA.a 6 z (subW z z z) z (TA.b 7 z (elVw hv113 (by omega) (OpVal.index z underlying35 sz9 z z hv113.sl u38.1 u38.2)) z (TA.b 8 z (loadO1 ([] : List UInt8) z ag9 z (q := 0) z Go.E.encS_len (by omega) z) z (TA.a 9 z (neqBs z z z) z (TA.dn (S.n (TC.cD z hh (fun h131 hh => ?_) (fun h131 hh => ?_))))))))))))))
      ·refine TC.a (TL.s z z (TL.i z z (TL.s z z (TL.i z z ?_))))
       have u45 := grd_c hh
       replace hh := grd_t hh
       refine TL.w z (elVw hv113 (by omega) (indexN z underlying35 sz9 z z hv113.sl (by omega))) (TL.w z (loadO1 ([] : List UInt8) z ag9 z (q := 0) z Go.E.encS_len (by omega) z) ?_)
       have u47 := grd_c hh
       replace hh := grd_t hh
       refine TL.isSl (i := 0) z (fun hs132 _ _ => ?_)
       refine TL.w z (indexN z underlying35 sz9 z z hs132 (by omega)) ?_
       have hn133 : (l122.set k124 (nth l122 (k105 + k125) ([] : List UInt8))).length = x0.length := by rw [List.length_set]; exact hn123
       refine TL.op z (storeS (nth l122 (k105 + k125) ([] : List UInt8)) z sz9 z z z z Go.E.encS_len Go.E.encS_one (by omega) (by omega) ?_)
       exact TL.en (TC.region (TL.i z z (TL.w z (OpVal.succ z z z (by omega)) (TL.i z z (TL.nil (B.n (S.n (cf (((l122.set k124 (nth l122 (k105 + k125) ([] : List UInt8))), (k124 + 1)), ()) ⟨hh, hn133⟩ (Sub.pre 1 z)))))))))
      ·exact TC.skip (B.n (S.n (cf ((l122, k124), ()) ⟨hh, hn123⟩ (Sub.pre 1 z))))
     ·skip
      obtain ⟨⟨l128, k130⟩, _⟩ := g
      obtain ⟨hh, hn129⟩ := hg
      try dsimp only at hn129 ⊢
      dsimp only [Fg_] at hh
      have hn129b := hn129
      refine TC.isSl (i := 0) z (fun _ hb134 _ => ?_)
      refine TC.region (TL.i z z (TL.w z (OpVal.succ z z z (by omega)) (TL.i z z (TL.en ?_))))
      obtain ⟨hh, hlt135⟩ := nxt_x hR2 hh
      exact lf ((l128, k130, (k125 + 1)), ()) hlt135 ⟨hh, hn129⟩ (Sub.pre 1 z)
    ·refine TC.exit (S.x (S.x ?_))
     replace hh := fin_x hR2 hh
     refine TC.exitHere (S.n (TC.a (TL.s z z (TL.i z z ?_))))
     have u57 := grd_c hh
     replace hh := grd_t hh
     refine TL.isSl (i := 0) z (fun hs136 _ _ => ?_)
     rw [hn123] at hs136
     obtain ⟨a136, c136, hv136, ho136⟩ := vw_of (k := k124) (size := 1) hs136 (by omega)
     refine TL.w z (ho136 z underlying35 sz9 z z) ?_
     have hn137 : (l122.take k124 ++ List.replicate (l122.length - k124) ([] : List UInt8)).length = x0.length := by simp only [List.length_append, List.length_take, List.length_replicate]; try simp only [List.length_replicate] at *; omega
     refine TL.op z (clearV (k := k124) ([] : List UInt8) z underlying35 ze9 z z hv136 (by omega) (by omega) Go.E.encS_len (by decide) z Go.E.encS_one ?_)
     refine TL.en (TC.a (TL.s z z (TL.i z z ?_)))
     rw [← hn137]
     have u61 := grd_c hh
     replace hh := grd_t hh
     refine TL.op z (cutS z underlying35 sz9 z z z z z (by omega) Go.E.encS_len ?_)
     refine TL.s z z (TL.en (TC.ret (B.r (S.r (S.r ?_)))))
     replace hh := fin_x hR1 hh
     refine B.r (S.r ?_)
     obtain rfl := so hh
     exact ro [Res.rowS 9 1 Go.E.encS (.slice a0_1 ((l122.take k124 ++ List.replicate (l122.length - k124) ([] : List UInt8)).take k124).length c0_2) ((l122.take k124 ++ List.replicate (l122.length - k124) ([] : List UInt8)).take k124)] z (RVs.tmp z RVs.nil) ⟨a0_1, c0_2, z, z, z⟩
   ·refine TC.skip (B.n (S.n (TC.region (TL.i z z (TL.w z (OpVal.succ z z z (by omega)) (TL.i z z (TL.en ?_)))))))
    obtain ⟨hh, hlt138⟩ := nxt_x hR1 hh
    exact lf ((k105 + 1), ()) hlt138 hh (Sub.pre 1 z)
  ·refine TC.exit (S.x (S.x ?_))
   replace hh := fin_x hR1 hh
   refine TC.exitHere (S.n (TC.a (TL.s z z (TL.s z z (TL.en (TC.ret ?_))))))
   obtain rfl := so hh
   exact ro [Res.rowS 9 1 Go.E.encS (.slice a0_1 x0.length c0_2) x0] z (RVs.tmp z RVs.nil) ⟨a0_1, c0_2, z, z, z⟩
theorem I0_ {σ : Store} {a : Option Addr} {c : Nat} {l : List Tip} (hl : RS σ 2 encTip (.slice a l.length c) l) (hsz : l.length * 24 ≤ 140737488355328) :
  Con Tryz.prog 104 #[.slice a l.length c] σ [] (RowP 62 2 encTip l σ) := by
 have hb := hl.rv.big
 refine Con.mk (n := 8) Tryz.func104 z z z (fun w0 => ?_)
 refine TC.a (TL.s z z (TL.nilS 62 2 encTip (TL.en (TC.seq (TC.a (TL.s z z (TL.w z (eqlNilSl z underlying22 z z) (TL.en (TC.cond z (fun h2 => ?_) (fun h2 => ?_))))))))))
 ·refine TC.a (TL.s z z (TL.nilS 62 2 encTip (TL.en (TC.ret (S.r ?_)))))
  cases a with
  | some _ => simp at h2
  | none =>
   obtain rfl := hl.none_nil
   exact ret1R z z
 ·refine TC.skip (S.n (TC.a (TL.op z (lit0 (enc := encTip) z z underlying22 sz62 z z (fun a4 c5 => ?_)))))
  refine TL.s z z (TL.op z (appendS z z underlying22 sz62 by62 ze62 z z (by decide) z z z (.inl hl) (by simpa using hsz) (by decide) (fun a7 c8 => ?_)))
  exact TL.s z z (TL.en (TC.ret (ret1R z z)))
noncomputable def Fn_ (k125 : Nat) (l128 : List Tip) (k130 : Nat) : Option (((List Tip) × Nat × Nat) ⊕ ((Nat) ⊕ ((List Tip)))) :=
 nxt (l128, k130, (k125 + 1))
noncomputable def Fi_ (x0 : List Tip) (k105 : Nat) (l122 : List Tip) (k124 : Nat) (k125 : Nat) : Option (((List Tip) × Nat × Nat) ⊕ ((Nat) ⊕ ((List Tip)))) :=
 iteO (decide (((k125 : Nat) : Int) < (((x0.length - k105) : Nat) : Int))) (grd (k125 < (x0.length - k105)) (grd (0 ≤ (IntKind.i64.wrap (((k125 : Nat) : Int) - 1)) ∧ (IntKind.i64.wrap (((k125 : Nat) : Int) - 1)) < ((x0.length - k105) : Nat)) (iteO (decide (¬ ((nth l122 (k105 + k125) Tip.zero) = (nth l122 (k105 + (IntKind.i64.wrap (((k125 : Nat) : Int) - 1)).toNat) Tip.zero)))) (grd (k125 < (x0.length - k105)) (grd (k124 < l122.length) (Fn_ k125 (l122.set k124 (nth l122 (k105 + k125) Tip.zero)) (k124 + 1)))) (Fn_ k125 l122 k124)))) (fin (grd (k124 ≤ x0.length) (grd (k124 ≤ (l122.take k124 ++ List.replicate (l122.length - k124) Tip.zero).length) (fin (some ((l122.take k124 ++ List.replicate (l122.length - k124) Tip.zero).take k124))))))
noncomputable def Fs_ (x0 : List Tip) (k105 : Nat) : Option ((Nat) ⊕ ((List Tip))) :=
 iteO (decide (((k105 : Nat) : Int) < ((x0.length : Nat) : Int))) (grd (0 ≤ (IntKind.i64.wrap (((k105 : Nat) : Int) - 1)) ∧ (IntKind.i64.wrap (((k105 : Nat) : Int) - 1)) < (x0.length : Int)) (iteO (decide ((nth x0 k105 Tip.zero) = (nth x0 ((IntKind.i64.wrap (((k105 : Nat) : Int) - 1)).toNat) Tip.zero))) (grd (k105 ≤ x0.length) (iter (fun q : (List Tip) × Nat × Nat => Fi_ x0 k105 q.1 q.2.1 q.2.2) (x0, k105, 1))) (nxt (k105 + 1)))) (fin (some x0))
noncomputable def compactT (x0 : List Tip) : Option ((List Tip)) :=
 iteO (decide (((x0.length : Nat) : Int) < 2)) (some x0) (iter (fun q : Nat => Fs_ x0 q) 1)
theorem Ie_ {σ : Store} {x0 : List Tip} {a0_1 : Option Addr} {c0_2 : Nat}  {r : (List Tip)} (hh : compactT x0 = some r) :
  Con Tryz.prog 106 #[.slice a0_1 x0.length c0_2] σ [Res.rowS 62 2 encTip (.slice a0_1 x0.length c0_2) x0] (fun v σ' H' => ∃ (a1 : Option Addr), ∃ (c1 : Nat), v = .slice a1 r.length c1 ∧ σ = σ' ∧ H' = [Res.rowS 62 2 encTip (.slice a1 r.length c1) r]) := by
 dsimp only [compactT] at hh
 refine Con.mk (n := 61) Tryz.func106 z z z (fun w0 => ?_)
 refine TC.a (TL.s z z (TL.en (TC.seq (TC.a (TL.s z z (TL.w z (lenC z underlying22 z) (TL.w z (OpVal.lss z z z) (TL.en (TC.cD z hh (fun h102 hh => ?_) (fun h102 hh => ?_))))))))))
 ·refine TC.a (TL.s z z (TL.s z z (TL.en (TC.ret (S.r ?_)))))
  obtain rfl := so hh
  exact ro [Res.rowS 62 2 encTip (.slice a0_1 x0.length c0_2) x0] z (RVs.tmp z RVs.nil) ⟨a0_1, c0_2, z, z, z⟩
 ·refine TC.skip (S.n (TC.seq (TC.a (TL.i z z (TL.en (TC.block (TC.loopG (α := (Nat) × (Unit)) (rgs [(2, 4), (10, 50)]) (fun g => [(3, .int .i64 ((g.1 : Nat) : Int))]) (fun g => [Res.rowS 62 2 encTip (.slice a0_1 x0.length c0_2) x0]) (fun g => σ) (fun g => iter (fun q : Nat => Fs_ x0 q) g.1 = some r) (fun g => rounds (fun q : Nat => Fs_ x0 q) g.1) (1, ()) (Sub.pre 1 z) z (by repeat (first | exact trivial | refine ⟨z, ?_⟩)) hh (fun g1 j1 hg1 => ?_))))))))
  obtain ⟨k105, _⟩ := g1
  have hh := hg1; clear hg1
  try dsimp only
  obtain ⟨z1, hh, hR1⟩ := iter_e hh
  dsimp only [Fs_] at hh
  refine TC.isSl (i := 0) z (fun _ hb106 _ => ?_)
  refine TC.seq (TC.a (TL.i z z (TL.s z z (TL.w z (lenC z underlying22 z) (TL.w z (OpVal.lss z z z) (TL.en (TC.cD z hh (fun h107 hh => ?_) (fun h107 hh => ?_))))))))
  ·refine TC.skip (S.n (TC.seq (TC.block (TC.seq ?_))))
   have u19 := grd_c hh
   replace hh := grd_t hh
   refine TC.draw [] (by kernel_rfl) (TA.a 0 z (moveSl (.inl z) z) z (TA.a 1 z (moveI (.inl z) z) z (TA.isSl (i := 0) z (fun hs110 _ _ => ?_))))
   refine TA.b 2 z (indexN z underlying22 sz62 z z hs110 (by omega)) z (TA.b 3 z (loadOA Tip.zero z ag62 sz62 z (q := 0) z encTip_len (by omega) (by omega)) z (TA.a 4 z (moveSl (.inl z) z) z (TA.a 5 z (moveI (.inl z) z) z (TA.a 6 z (subW z z z) z (TA.isSl (i := 0) z (fun hs111 _ _ => ?_))))))
   refine TA.b 7 z (OpVal.index z underlying22 sz62 z z hs111 u19.1 u19.2) z (TA.b 8 z (loadOA Tip.zero z ag62 sz62 z (q := 0) z encTip_len (by omega) (by omega)) z (TA.a 9 z (eqlSt (p := (nth x0 k105 Tip.zero) = (nth x0 ((IntKind.i64.wrap (((k105 : Nat) : Int) - 1)).toNat) Tip.zero)) z z z eg62 (es62 (nth x0 k105 Tip.zero) (nth x0 ((IntKind.i64.wrap (((k105 : Nat) : Int) - 1)).toNat) Tip.zero)) z) z (TA.dn (S.n (TC.cD z hh (fun h112 hh => ?_) (fun h112 hh => ?_))))))
   ·refine TC.a (TL.s z z (TL.i z z ?_))
    have u24 := grd_c hh
    replace hh := grd_t hh
    refine TL.isSl (i := 0) z (fun hs113 _ _ => ?_)
    obtain ⟨a113, c113, hv113, ho113⟩ := vw_of (k := k105) (size := 2) hs113 (by omega)
    refine TL.w z (ho113 z underlying22 sz62 z z) (TL.s z z (TL.en (TC.seq (TC.a (TL.i z z (TL.en (TC.block (TC.loopG (α := ((List Tip) × Nat × Nat) × (Unit)) (rgs [(3, 1), (5, 1), (29, 25)]) (fun g => [(3, .int .i64 ((g.1.2.1 : Nat) : Int)), (5, .int .i64 ((g.1.2.2 : Nat) : Int))]) (fun g => [Res.rowS 62 2 encTip (.slice a0_1 x0.length c0_2) g.1.1]) (fun g => σ) (fun g => iter (fun q : (List Tip) × Nat × Nat => Fi_ x0 k105 q.1 q.2.1 q.2.2) g.1 = some z1 ∧ g.1.1.length = x0.length) (fun g => rounds (fun q : (List Tip) × Nat × Nat => Fi_ x0 k105 q.1 q.2.1 q.2.2) g.1) ((x0, k105, 1), ()) (Sub.pre 1 z) z (by repeat (first | exact trivial | refine ⟨z, ?_⟩)) ⟨hh, z⟩ (fun g2 j2 hg2 => ?_)))))))))
    obtain ⟨⟨l122, k124, k125⟩, _⟩ := g2
    obtain ⟨hh, hn123⟩ := hg2
    try dsimp only at hn123 ⊢
    obtain ⟨z2, hh, hR2⟩ := iter_e hh
    dsimp only [Fi_] at hh
    have hn123b := hn123
    refine TC.isSl (i := 0) z (fun _ hb126 _ => ?_)
    refine TC.seq (TC.a (TL.i z z (TL.s z z (TL.w z (lenC z underlying22 z) (TL.w z (OpVal.lss z z z) (TL.en (TC.cD z hh (fun h127 hh => ?_) (fun h127 hh => ?_))))))))
    ·refine TC.skip (S.n (TC.cutG (α := ((List Tip) × Nat) × (Unit)) (rgs [(3, 1), (35, 19)]) (fun g => [(3, .int .i64 ((g.1.2 : Nat) : Int))]) (fun g => [Res.rowS 62 2 encTip (.slice a0_1 x0.length c0_2) g.1.1]) (fun g => σ) (fun g => Fn_ k125 g.1.1 g.1.2 = some z2 ∧ g.1.1.length = x0.length) ?_ (fun g j hg => ?_)))
     ·skip
      refine TC.block (TC.seq ?_)
      have u33 := grd_c hh
      replace hh := grd_t hh
      have u38 := grd_c hh
      replace hh := grd_t hh
      refine TC.draw [] (by kernel_rfl) (TA.a 0 z (moveSl (.inl z) z) z (TA.a 1 z (moveI (.inl z) z) z (TA.b 2 z (elVw hv113 (by omega) (indexN z underlying22 sz62 z z hv113.sl (by omega))) z (TA.b 3 z (loadOA Tip.zero z ag62 sz62 z (q := 0) z encTip_len (by omega) (by omega)) z (TA.a 4 z (moveSl (.inl z) z) z (TA.a 5 z (moveI (.inl z) z) z (TA.a 6 z (subW z z z) z (TA.b 7 z (elVw hv113 (by omega) (OpVal.index z underlying22 sz62 z z hv113.sl u38.1 u38.2)) z (TA.b 8 z (loadOA Tip.zero z ag62 sz62 z (q := 0) z encTip_len (by omega) (by omega)) z (TA.a 9 z (neqSt (p := (nth l122 (k105 + k125) Tip.zero) = (nth l122 (k105 + (IntKind.i64.wrap (((k125 : Nat) : Int) - 1)).toNat) Tip.zero)) z z z eg62 (es62 (nth l122 (k105 + k125) Tip.zero) (nth l122 (k105 + (IntKind.i64.wrap (((k125 : Nat) : Int) - 1)).toNat) Tip.zero)) z) z (TA.dn (S.n (TC.cD z hh (fun h131 hh => ?_) (fun h131 hh => ?_))))))))))))))
      ·refine TC.a (TL.s z z (TL.i z z (TL.s z z (TL.i z z ?_))))
       have u45 := grd_c hh
       replace hh := grd_t hh
       refine TL.w z (elVw hv113 (by omega) (indexN z underlying22 sz62 z z hv113.sl (by omega))) (TL.w z (loadOA Tip.zero z ag62 sz62 z (q := 0) z encTip_len (by omega) (by omega)) ?_)
       have u47 := grd_c hh
       replace hh := grd_t hh
       refine TL.isSl (i := 0) z (fun hs132 _ _ => ?_)
       refine TL.w z (indexN z underlying22 sz62 z z hs132 (by omega)) ?_
       have hn133 : (l122.set k124 (nth l122 (k105 + k125) Tip.zero)).length = x0.length := by rw [List.length_set]; exact hn123
       refine TL.op z (storeS (nth l122 (k105 + k125) Tip.zero) z sz62 z z z z encTip_len encTip_one (by omega) (by omega) ?_)
       exact TL.en (TC.region (TL.i z z (TL.w z (OpVal.succ z z z (by omega)) (TL.i z z (TL.nil (B.n (S.n (cf (((l122.set k124 (nth l122 (k105 + k125) Tip.zero)), (k124 + 1)), ()) ⟨hh, hn133⟩ (Sub.pre 1 z)))))))))
      ·exact TC.skip (B.n (S.n (cf ((l122, k124), ()) ⟨hh, hn123⟩ (Sub.pre 1 z))))
     ·skip
      obtain ⟨⟨l128, k130⟩, _⟩ := g
      obtain ⟨hh, hn129⟩ := hg
      try dsimp only at hn129 ⊢
      dsimp only [Fn_] at hh
      have hn129b := hn129
      refine TC.isSl (i := 0) z (fun _ hb134 _ => ?_)
      refine TC.region (TL.i z z (TL.w z (OpVal.succ z z z (by omega)) (TL.i z z (TL.en ?_))))
      obtain ⟨hh, hlt135⟩ := nxt_x hR2 hh
      exact lf ((l128, k130, (k125 + 1)), ()) hlt135 ⟨hh, hn129⟩ (Sub.pre 1 z)
    ·refine TC.exit (S.x (S.x ?_))
     replace hh := fin_x hR2 hh
     refine TC.exitHere (S.n (TC.a (TL.s z z (TL.i z z ?_))))
     have u57 := grd_c hh
     replace hh := grd_t hh
     refine TL.isSl (i := 0) z (fun hs136 _ _ => ?_)
     rw [hn123] at hs136
     obtain ⟨a136, c136, hv136, ho136⟩ := vw_of (k := k124) (size := 2) hs136 (by omega)
     refine TL.w z (ho136 z underlying22 sz62 z z) ?_
     have hn137 : (l122.take k124 ++ List.replicate (l122.length - k124) Tip.zero).length = x0.length := by simp only [List.length_append, List.length_take, List.length_replicate]; try simp only [List.length_replicate] at *; omega
     refine TL.op z (clearV (k := k124) Tip.zero z underlying22 ze62 z z hv136 (by omega) (by omega) encTip_len (by decide) z encTip_one ?_)
     refine TL.en (TC.a (TL.s z z (TL.i z z ?_)))
     rw [← hn137]
     have u61 := grd_c hh
     replace hh := grd_t hh
     refine TL.op z (cutS z underlying22 sz62 z z z z z (by omega) encTip_len ?_)
     refine TL.s z z (TL.en (TC.ret (B.r (S.r (S.r ?_)))))
     replace hh := fin_x hR1 hh
     refine B.r (S.r ?_)
     obtain rfl := so hh
     exact ro [Res.rowS 62 2 encTip (.slice a0_1 ((l122.take k124 ++ List.replicate (l122.length - k124) Tip.zero).take k124).length c0_2) ((l122.take k124 ++ List.replicate (l122.length - k124) Tip.zero).take k124)] z (RVs.tmp z RVs.nil) ⟨a0_1, c0_2, z, z, z⟩
   ·refine TC.skip (B.n (S.n (TC.region (TL.i z z (TL.w z (OpVal.succ z z z (by omega)) (TL.i z z (TL.en ?_)))))))
    obtain ⟨hh, hlt138⟩ := nxt_x hR1 hh
    exact lf ((k105 + 1), ()) hlt138 hh (Sub.pre 1 z)
  ·refine TC.exit (S.x (S.x ?_))
   replace hh := fin_x hR1 hh
   refine TC.exitHere (S.n (TC.a (TL.s z z (TL.s z z (TL.en (TC.ret ?_))))))
   obtain rfl := so hh
   exact ro [Res.rowS 62 2 encTip (.slice a0_1 x0.length c0_2) x0] z (RVs.tmp z RVs.nil) ⟨a0_1, c0_2, z, z, z⟩
theorem I4_ {σ : Store} {a : Option Addr} {c : Nat} {l : List Arc} (hl : RS σ 8 encArc (.slice a l.length c) l) (hsz : l.length * 72 ≤ 140737488355328) :
  Con Tryz.prog 108 #[.slice a l.length c] σ [] (RowP 59 8 encArc l σ) := by
 have hb := hl.rv.big
 refine Con.mk (n := 8) Tryz.func108 z z z (fun w0 => ?_)
 refine TC.a (TL.s z z (TL.nilS 59 8 encArc (TL.en (TC.seq (TC.a (TL.s z z (TL.w z (eqlNilSl z underlying23 z z) (TL.en (TC.cond z (fun h2 => ?_) (fun h2 => ?_))))))))))
 ·refine TC.a (TL.s z z (TL.nilS 59 8 encArc (TL.en (TC.ret (S.r ?_)))))
  cases a with
  | some _ => simp at h2
  | none =>
   obtain rfl := hl.none_nil
   exact ret1R z z
 ·refine TC.skip (S.n (TC.a (TL.op z (lit0 (enc := encArc) z z underlying23 sz59 z z (fun a4 c5 => ?_)))))
  refine TL.s z z (TL.op z (appendS z z underlying23 sz59 by59 ze59 z z (by decide) z z z (.inl hl) (by simpa using hsz) (by decide) (fun a7 c8 => ?_)))
  exact TL.s z z (TL.en (TC.ret (ret1R z z)))
noncomputable def Fp_ (k125 : Nat) (l128 : List Arc) (k130 : Nat) : Option (((List Arc) × Nat × Nat) ⊕ ((Nat) ⊕ ((List Arc)))) :=
 nxt (l128, k130, (k125 + 1))
noncomputable def Fl_ (x0 : List Arc) (k105 : Nat) (l122 : List Arc) (k124 : Nat) (k125 : Nat) : Option (((List Arc) × Nat × Nat) ⊕ ((Nat) ⊕ ((List Arc)))) :=
 iteO (decide (((k125 : Nat) : Int) < (((x0.length - k105) : Nat) : Int))) (grd (k125 < (x0.length - k105)) (grd (0 ≤ (IntKind.i64.wrap (((k125 : Nat) : Int) - 1)) ∧ (IntKind.i64.wrap (((k125 : Nat) : Int) - 1)) < ((x0.length - k105) : Nat)) (iteO (decide (¬ ((nth l122 (k105 + k125) Arc.zero) = (nth l122 (k105 + (IntKind.i64.wrap (((k125 : Nat) : Int) - 1)).toNat) Arc.zero)))) (grd (k125 < (x0.length - k105)) (grd (k124 < l122.length) (Fp_ k125 (l122.set k124 (nth l122 (k105 + k125) Arc.zero)) (k124 + 1)))) (Fp_ k125 l122 k124)))) (fin (grd (k124 ≤ x0.length) (grd (k124 ≤ (l122.take k124 ++ List.replicate (l122.length - k124) Arc.zero).length) (fin (some ((l122.take k124 ++ List.replicate (l122.length - k124) Arc.zero).take k124))))))
noncomputable def Fk_ (x0 : List Arc) (k105 : Nat) : Option ((Nat) ⊕ ((List Arc))) :=
 iteO (decide (((k105 : Nat) : Int) < ((x0.length : Nat) : Int))) (grd (0 ≤ (IntKind.i64.wrap (((k105 : Nat) : Int) - 1)) ∧ (IntKind.i64.wrap (((k105 : Nat) : Int) - 1)) < (x0.length : Int)) (iteO (decide ((nth x0 k105 Arc.zero) = (nth x0 ((IntKind.i64.wrap (((k105 : Nat) : Int) - 1)).toNat) Arc.zero))) (grd (k105 ≤ x0.length) (iter (fun q : (List Arc) × Nat × Nat => Fl_ x0 k105 q.1 q.2.1 q.2.2) (x0, k105, 1))) (nxt (k105 + 1)))) (fin (some x0))
noncomputable def compactA (x0 : List Arc) : Option ((List Arc)) :=
 iteO (decide (((x0.length : Nat) : Int) < 2)) (some x0) (iter (fun q : Nat => Fk_ x0 q) 1)
theorem If_ {σ : Store} {x0 : List Arc} {a0_1 : Option Addr} {c0_2 : Nat}  {r : (List Arc)} (hh : compactA x0 = some r) :
  Con Tryz.prog 110 #[.slice a0_1 x0.length c0_2] σ [Res.rowS 59 8 encArc (.slice a0_1 x0.length c0_2) x0] (fun v σ' H' => ∃ (a1 : Option Addr), ∃ (c1 : Nat), v = .slice a1 r.length c1 ∧ σ = σ' ∧ H' = [Res.rowS 59 8 encArc (.slice a1 r.length c1) r]) := by
 dsimp only [compactA] at hh
 refine Con.mk (n := 61) Tryz.func110 z z z (fun w0 => ?_)
 refine TC.a (TL.s z z (TL.en (TC.seq (TC.a (TL.s z z (TL.w z (lenC z underlying23 z) (TL.w z (OpVal.lss z z z) (TL.en (TC.cD z hh (fun h102 hh => ?_) (fun h102 hh => ?_))))))))))
 ·refine TC.a (TL.s z z (TL.s z z (TL.en (TC.ret (S.r ?_)))))
  obtain rfl := so hh
  exact ro [Res.rowS 59 8 encArc (.slice a0_1 x0.length c0_2) x0] z (RVs.tmp z RVs.nil) ⟨a0_1, c0_2, z, z, z⟩
 ·refine TC.skip (S.n (TC.seq (TC.a (TL.i z z (TL.en (TC.block (TC.loopG (α := (Nat) × (Unit)) (rgs [(2, 4), (10, 50)]) (fun g => [(3, .int .i64 ((g.1 : Nat) : Int))]) (fun g => [Res.rowS 59 8 encArc (.slice a0_1 x0.length c0_2) x0]) (fun g => σ) (fun g => iter (fun q : Nat => Fk_ x0 q) g.1 = some r) (fun g => rounds (fun q : Nat => Fk_ x0 q) g.1) (1, ()) (Sub.pre 1 z) z (by repeat (first | exact trivial | refine ⟨z, ?_⟩)) hh (fun g1 j1 hg1 => ?_))))))))
  obtain ⟨k105, _⟩ := g1
  have hh := hg1; clear hg1
  try dsimp only
  obtain ⟨z1, hh, hR1⟩ := iter_e hh
  dsimp only [Fk_] at hh
  refine TC.isSl (i := 0) z (fun _ hb106 _ => ?_)
  refine TC.seq (TC.a (TL.i z z (TL.s z z (TL.w z (lenC z underlying23 z) (TL.w z (OpVal.lss z z z) (TL.en (TC.cD z hh (fun h107 hh => ?_) (fun h107 hh => ?_))))))))
  ·refine TC.skip (S.n (TC.seq (TC.block (TC.seq ?_))))
   have u19 := grd_c hh
   replace hh := grd_t hh
   refine TC.draw [] (by kernel_rfl) (TA.a 0 z (moveSl (.inl z) z) z (TA.a 1 z (moveI (.inl z) z) z (TA.isSl (i := 0) z (fun hs110 _ _ => ?_))))
   refine TA.b 2 z (indexN z underlying23 sz59 z z hs110 (by omega)) z (TA.b 3 z (loadOA Arc.zero z ag59 sz59 z (q := 0) z encArc_len (by omega) (by omega)) z (TA.a 4 z (moveSl (.inl z) z) z (TA.a 5 z (moveI (.inl z) z) z (TA.a 6 z (subW z z z) z (TA.isSl (i := 0) z (fun hs111 _ _ => ?_))))))
   refine TA.b 7 z (OpVal.index z underlying23 sz59 z z hs111 u19.1 u19.2) z (TA.b 8 z (loadOA Arc.zero z ag59 sz59 z (q := 0) z encArc_len (by omega) (by omega)) z (TA.a 9 z (eqlSt (p := (nth x0 k105 Arc.zero) = (nth x0 ((IntKind.i64.wrap (((k105 : Nat) : Int) - 1)).toNat) Arc.zero)) z z z eg59 (es59 (nth x0 k105 Arc.zero) (nth x0 ((IntKind.i64.wrap (((k105 : Nat) : Int) - 1)).toNat) Arc.zero)) z) z (TA.dn (S.n (TC.cD z hh (fun h112 hh => ?_) (fun h112 hh => ?_))))))
   ·refine TC.a (TL.s z z (TL.i z z ?_))
    have u24 := grd_c hh
    replace hh := grd_t hh
    refine TL.isSl (i := 0) z (fun hs113 _ _ => ?_)
    obtain ⟨a113, c113, hv113, ho113⟩ := vw_of (k := k105) (size := 8) hs113 (by omega)
    refine TL.w z (ho113 z underlying23 sz59 z z) (TL.s z z (TL.en (TC.seq (TC.a (TL.i z z (TL.en (TC.block (TC.loopG (α := ((List Arc) × Nat × Nat) × (Unit)) (rgs [(3, 1), (5, 1), (29, 25)]) (fun g => [(3, .int .i64 ((g.1.2.1 : Nat) : Int)), (5, .int .i64 ((g.1.2.2 : Nat) : Int))]) (fun g => [Res.rowS 59 8 encArc (.slice a0_1 x0.length c0_2) g.1.1]) (fun g => σ) (fun g => iter (fun q : (List Arc) × Nat × Nat => Fl_ x0 k105 q.1 q.2.1 q.2.2) g.1 = some z1 ∧ g.1.1.length = x0.length) (fun g => rounds (fun q : (List Arc) × Nat × Nat => Fl_ x0 k105 q.1 q.2.1 q.2.2) g.1) ((x0, k105, 1), ()) (Sub.pre 1 z) z (by repeat (first | exact trivial | refine ⟨z, ?_⟩)) ⟨hh, z⟩ (fun g2 j2 hg2 => ?_)))))))))
    obtain ⟨⟨l122, k124, k125⟩, _⟩ := g2
    obtain ⟨hh, hn123⟩ := hg2
    try dsimp only at hn123 ⊢
    obtain ⟨z2, hh, hR2⟩ := iter_e hh
    dsimp only [Fl_] at hh
    have hn123b := hn123
    refine TC.isSl (i := 0) z (fun _ hb126 _ => ?_)
    refine TC.seq (TC.a (TL.i z z (TL.s z z (TL.w z (lenC z underlying23 z) (TL.w z (OpVal.lss z z z) (TL.en (TC.cD z hh (fun h127 hh => ?_) (fun h127 hh => ?_))))))))
    ·refine TC.skip (S.n (TC.cutG (α := ((List Arc) × Nat) × (Unit)) (rgs [(3, 1), (35, 19)]) (fun g => [(3, .int .i64 ((g.1.2 : Nat) : Int))]) (fun g => [Res.rowS 59 8 encArc (.slice a0_1 x0.length c0_2) g.1.1]) (fun g => σ) (fun g => Fp_ k125 g.1.1 g.1.2 = some z2 ∧ g.1.1.length = x0.length) ?_ (fun g j hg => ?_)))
     ·skip
      refine TC.block (TC.seq ?_)
      have u33 := grd_c hh
      replace hh := grd_t hh
      have u38 := grd_c hh
      replace hh := grd_t hh
      refine TC.draw [] (by kernel_rfl) (TA.a 0 z (moveSl (.inl z) z) z (TA.a 1 z (moveI (.inl z) z) z (TA.b 2 z (elVw hv113 (by omega) (indexN z underlying23 sz59 z z hv113.sl (by omega))) z (TA.b 3 z (loadOA Arc.zero z ag59 sz59 z (q := 0) z encArc_len (by omega) (by omega)) z (TA.a 4 z (moveSl (.inl z) z) z (TA.a 5 z (moveI (.inl z) z) z (TA.a 6 z (subW z z z) z (TA.b 7 z (elVw hv113 (by omega) (OpVal.index z underlying23 sz59 z z hv113.sl u38.1 u38.2)) z (TA.b 8 z (loadOA Arc.zero z ag59 sz59 z (q := 0) z encArc_len (by omega) (by omega)) z (TA.a 9 z (neqSt (p := (nth l122 (k105 + k125) Arc.zero) = (nth l122 (k105 + (IntKind.i64.wrap (((k125 : Nat) : Int) - 1)).toNat) Arc.zero)) z z z eg59 (es59 (nth l122 (k105 + k125) Arc.zero) (nth l122 (k105 + (IntKind.i64.wrap (((k125 : Nat) : Int) - 1)).toNat) Arc.zero)) z) z (TA.dn (S.n (TC.cD z hh (fun h131 hh => ?_) (fun h131 hh => ?_))))))))))))))
      ·refine TC.a (TL.s z z (TL.i z z (TL.s z z (TL.i z z ?_))))
       have u45 := grd_c hh
       replace hh := grd_t hh
       refine TL.w z (elVw hv113 (by omega) (indexN z underlying23 sz59 z z hv113.sl (by omega))) (TL.w z (loadOA Arc.zero z ag59 sz59 z (q := 0) z encArc_len (by omega) (by omega)) ?_)
       have u47 := grd_c hh
       replace hh := grd_t hh
       refine TL.isSl (i := 0) z (fun hs132 _ _ => ?_)
       refine TL.w z (indexN z underlying23 sz59 z z hs132 (by omega)) ?_
       have hn133 : (l122.set k124 (nth l122 (k105 + k125) Arc.zero)).length = x0.length := by rw [List.length_set]; exact hn123
       refine TL.op z (storeS (nth l122 (k105 + k125) Arc.zero) z sz59 z z z z encArc_len encArc_one (by omega) (by omega) ?_)
       exact TL.en (TC.region (TL.i z z (TL.w z (OpVal.succ z z z (by omega)) (TL.i z z (TL.nil (B.n (S.n (cf (((l122.set k124 (nth l122 (k105 + k125) Arc.zero)), (k124 + 1)), ()) ⟨hh, hn133⟩ (Sub.pre 1 z)))))))))
      ·exact TC.skip (B.n (S.n (cf ((l122, k124), ()) ⟨hh, hn123⟩ (Sub.pre 1 z))))
     ·skip
      obtain ⟨⟨l128, k130⟩, _⟩ := g
      obtain ⟨hh, hn129⟩ := hg
      try dsimp only at hn129 ⊢
      dsimp only [Fp_] at hh
      have hn129b := hn129
      refine TC.isSl (i := 0) z (fun _ hb134 _ => ?_)
      refine TC.region (TL.i z z (TL.w z (OpVal.succ z z z (by omega)) (TL.i z z (TL.en ?_))))
      obtain ⟨hh, hlt135⟩ := nxt_x hR2 hh
      exact lf ((l128, k130, (k125 + 1)), ()) hlt135 ⟨hh, hn129⟩ (Sub.pre 1 z)
    ·refine TC.exit (S.x (S.x ?_))
     replace hh := fin_x hR2 hh
     refine TC.exitHere (S.n (TC.a (TL.s z z (TL.i z z ?_))))
     have u57 := grd_c hh
     replace hh := grd_t hh
     refine TL.isSl (i := 0) z (fun hs136 _ _ => ?_)
     rw [hn123] at hs136
     obtain ⟨a136, c136, hv136, ho136⟩ := vw_of (k := k124) (size := 8) hs136 (by omega)
     refine TL.w z (ho136 z underlying23 sz59 z z) ?_
     have hn137 : (l122.take k124 ++ List.replicate (l122.length - k124) Arc.zero).length = x0.length := by simp only [List.length_append, List.length_take, List.length_replicate]; try simp only [List.length_replicate] at *; omega
     refine TL.op z (clearV (k := k124) Arc.zero z underlying23 ze59 z z hv136 (by omega) (by omega) encArc_len (by decide) z encArc_one ?_)
     refine TL.en (TC.a (TL.s z z (TL.i z z ?_)))
     rw [← hn137]
     have u61 := grd_c hh
     replace hh := grd_t hh
     refine TL.op z (cutS z underlying23 sz59 z z z z z (by omega) encArc_len ?_)
     refine TL.s z z (TL.en (TC.ret (B.r (S.r (S.r ?_)))))
     replace hh := fin_x hR1 hh
     refine B.r (S.r ?_)
     obtain rfl := so hh
     exact ro [Res.rowS 59 8 encArc (.slice a0_1 ((l122.take k124 ++ List.replicate (l122.length - k124) Arc.zero).take k124).length c0_2) ((l122.take k124 ++ List.replicate (l122.length - k124) Arc.zero).take k124)] z (RVs.tmp z RVs.nil) ⟨a0_1, c0_2, z, z, z⟩
   ·refine TC.skip (B.n (S.n (TC.region (TL.i z z (TL.w z (OpVal.succ z z z (by omega)) (TL.i z z (TL.en ?_)))))))
    obtain ⟨hh, hlt138⟩ := nxt_x hR1 hh
    exact lf ((k105 + 1), ()) hlt138 hh (Sub.pre 1 z)
  ·refine TC.exit (S.x (S.x ?_))
   replace hh := fin_x hR1 hh
   refine TC.exitHere (S.n (TC.a (TL.s z z (TL.s z z (TL.en (TC.ret ?_))))))
   obtain rfl := so hh
   exact ro [Res.rowS 59 8 encArc (.slice a0_1 x0.length c0_2) x0] z (RVs.tmp z RVs.nil) ⟨a0_1, c0_2, z, z, z⟩
noncomputable def onceS (x0 : List (List UInt8)) : Option ((List (List UInt8))) :=
 grd (x0.length * 16 ≤ 140737488355328) (bnd (compactS (sortL Lib.compareBytes x0)) (fun v9 => some v9))
def Jk_ (σ : Store) (r : (List (List UInt8))) : Value → Store → List Res → Prop := fun v σ' H' =>
 ∃ (a1 : Option Addr), ∃ (c1 : Nat),  v = .slice a1 r.length c1 ∧ σ = σ' ∧ H' = [Res.rowS 9 1 Go.E.encS (.slice a1 r.length c1) r]
theorem I5_ {σ : Store} {x0 : List (List UInt8)} {a0_0 : Option Addr} {c0_0 : Nat} (f0_0 : RS σ 1 Go.E.encS (.slice a0_0 x0.length c0_0) x0) {r : (List (List UInt8))} (hh : onceS x0 = some r) :
  Con Tryz.prog 18 #[.slice a0_0 x0.length c0_0, .func (.func 19) #[] #[]] σ [] (Jk_ σ r) := by
 dsimp only [onceS] at hh
 have f0_0b := f0_0.rv.big
 refine Con.mk (n := 13) Tryz.func18 z z z (fun w0 => ?_)
 refine TC.a (TL.s z z (TL.en (TC.a (TL.s z z ?_))))
 have u3 := grd_c hh
 replace hh := grd_t hh
 refine TL.op z (OpOk.call (Iy_ f0_0 u3) z z pf44 z z z z ?_)
 rintro _ _ _ _ ⟨⟨a101, c102, rfl⟩, rfl, rfl⟩
 refine TL.s z z (TL.en (TC.a (TL.s z z (TL.w z (moveFn (.inl z) z) ?_))))
 have hn104 : (sortL Lib.compareBytes x0).length = x0.length := List.length_mergeSort _
 refine TL.op z (OpOk.call (I8_ (l := x0)) z z pf45 z z z z ?_)
 rintro _ _ _ _ ⟨rfl, rfl, rfl⟩
 refine TL.en (TC.a (TL.s z z ?_))
 rw [← hn104]
 obtain ⟨v9, u9, hh⟩ := bnd_e hh
 refine TL.op z (OpOk.call (Ij_ u9) z z pf46 z z z z ?_)
 rintro _ _ _ hle105 ⟨a105_1, c105_2, rfl, rfl, rfl⟩
 refine TL.s z z (TL.en (TC.ret ?_))
 obtain rfl := so hh
 exact ro [Res.rowS 9 1 Go.E.encS (.slice a105_1 v9.length c105_2) v9] z (RVs.tmp z RVs.nil) ⟨a105_1, c105_2, z, z, z⟩
noncomputable def onceI (x0 : List Int) : Option ((List Int)) :=
 grd (x0.length * 8 ≤ 140737488355328) (bnd (compactI (sortL cmpI x0)) (fun v9 => some v9))
def Jj_ (σ : Store) (r : (List Int)) : Value → Store → List Res → Prop := fun v σ' H' =>
 ∃ (a1 : Option Addr), ∃ (c1 : Nat),  v = .slice a1 r.length c1 ∧ σ = σ' ∧ H' = [Res.rowS 3 1 Go.E.encI (.slice a1 r.length c1) r]
theorem Jb_ {σ : Store} {x0 : List Int} {a0_0 : Option Addr} {c0_0 : Nat} (f0_0 : RS σ 1 Go.E.encI (.slice a0_0 x0.length c0_0) x0) {r : (List Int)} (hh : onceI x0 = some r) :
  Con Tryz.prog 62 #[.slice a0_0 x0.length c0_0, .func (.func 63) #[] #[]] σ [] (Jj_ σ r) := by
 dsimp only [onceI] at hh
 have f0_0b := f0_0.rv.big
 refine Con.mk (n := 13) Tryz.func62 z z z (fun w0 => ?_)
 refine TC.a (TL.s z z (TL.en (TC.a (TL.s z z ?_))))
 have u3 := grd_c hh
 replace hh := grd_t hh
 refine TL.op z (OpOk.call (G2_ f0_0 u3) z z pf50 z z z z ?_)
 rintro _ _ _ _ ⟨⟨a101, c102, rfl⟩, rfl, rfl⟩
 refine TL.s z z (TL.en (TC.a (TL.s z z (TL.w z (moveFn (.inl z) z) ?_))))
 have hn104 : (sortL cmpI x0).length = x0.length := List.length_mergeSort _
 refine TL.op z (OpOk.call (I9_ (l := x0)) z z pf89 z z z z ?_)
 rintro _ _ _ _ ⟨rfl, rfl, rfl⟩
 refine TL.en (TC.a (TL.s z z ?_))
 rw [← hn104]
 obtain ⟨v9, u9, hh⟩ := bnd_e hh
 refine TL.op z (OpOk.call (Hg_ u9) z z pf90 z z z z ?_)
 rintro _ _ _ hle105 ⟨a105_1, c105_2, rfl, rfl, rfl⟩
 refine TL.s z z (TL.en (TC.ret ?_))
 obtain rfl := so hh
 exact ro [Res.rowS 3 1 Go.E.encI (.slice a105_1 v9.length c105_2) v9] z (RVs.tmp z RVs.nil) ⟨a105_1, c105_2, z, z, z⟩
noncomputable def onceT (x0 : List Tip) : Option ((List Tip)) :=
 grd (x0.length * 24 ≤ 140737488355328) (bnd (compactT (sortL cmpTip x0)) (fun v9 => some v9))
def Jl_ (σ : Store) (r : (List Tip)) : Value → Store → List Res → Prop := fun v σ' H' =>
 ∃ (a1 : Option Addr), ∃ (c1 : Nat),  v = .slice a1 r.length c1 ∧ σ = σ' ∧ H' = [Res.rowS 62 2 encTip (.slice a1 r.length c1) r]
theorem H3_ {σ : Store} {x0 : List Tip} {a0_0 : Option Addr} {c0_0 : Nat} (f0_0 : RS σ 2 encTip (.slice a0_0 x0.length c0_0) x0) {r : (List Tip)} (hh : onceT x0 = some r) :
  Con Tryz.prog 82 #[.slice a0_0 x0.length c0_0, .func (.func 83) #[] #[]] σ [] (Jl_ σ r) := by
 dsimp only [onceT] at hh
 have f0_0b := f0_0.rv.big
 refine Con.mk (n := 13) Tryz.func82 z z z (fun w0 => ?_)
 refine TC.a (TL.s z z (TL.en (TC.a (TL.s z z ?_))))
 have u3 := grd_c hh
 replace hh := grd_t hh
 refine TL.op z (OpOk.call (I0_ f0_0 u3) z z pf104 z z z z ?_)
 rintro _ _ _ _ ⟨⟨a101, c102, rfl⟩, rfl, rfl⟩
 refine TL.s z z (TL.en (TC.a (TL.s z z (TL.w z (moveFn (.inl z) z) ?_))))
 have hn104 : (sortL cmpTip x0).length = x0.length := List.length_mergeSort _
 refine TL.op z (OpOk.call (Jc_ (l := x0)) z z pf105 z z z z ?_)
 rintro _ _ _ _ ⟨rfl, rfl, rfl⟩
 refine TL.en (TC.a (TL.s z z ?_))
 rw [← hn104]
 obtain ⟨v9, u9, hh⟩ := bnd_e hh
 refine TL.op z (OpOk.call (Ie_ u9) z z pf106 z z z z ?_)
 rintro _ _ _ hle105 ⟨a105_1, c105_2, rfl, rfl, rfl⟩
 refine TL.s z z (TL.en (TC.ret ?_))
 obtain rfl := so hh
 exact ro [Res.rowS 62 2 encTip (.slice a105_1 v9.length c105_2) v9] z (RVs.tmp z RVs.nil) ⟨a105_1, c105_2, z, z, z⟩
noncomputable def onceA (x0 : List Arc) : Option ((List Arc)) :=
 grd (x0.length * 72 ≤ 140737488355328) (bnd (compactA (sortL cmpArc x0)) (fun v9 => some v9))
def Jn_ (σ : Store) (r : (List Arc)) : Value → Store → List Res → Prop := fun v σ' H' =>
 ∃ (a1 : Option Addr), ∃ (c1 : Nat),  v = .slice a1 r.length c1 ∧ σ = σ' ∧ H' = [Res.rowS 59 8 encArc (.slice a1 r.length c1) r]
theorem I7_ {σ : Store} {x0 : List Arc} {a0_0 : Option Addr} {c0_0 : Nat} (f0_0 : RS σ 8 encArc (.slice a0_0 x0.length c0_0) x0) {r : (List Arc)} (hh : onceA x0 = some r) :
  Con Tryz.prog 84 #[.slice a0_0 x0.length c0_0, .func (.func 85) #[] #[]] σ [] (Jn_ σ r) := by
 dsimp only [onceA] at hh
 have f0_0b := f0_0.rv.big
 refine Con.mk (n := 13) Tryz.func84 z z z (fun w0 => ?_)
 refine TC.a (TL.s z z (TL.en (TC.a (TL.s z z ?_))))
 have u3 := grd_c hh
 replace hh := grd_t hh
 refine TL.op z (OpOk.call (I4_ f0_0 u3) z z pf108 z z z z ?_)
 rintro _ _ _ _ ⟨⟨a101, c102, rfl⟩, rfl, rfl⟩
 refine TL.s z z (TL.en (TC.a (TL.s z z (TL.w z (moveFn (.inl z) z) ?_))))
 have hn104 : (sortL cmpArc x0).length = x0.length := List.length_mergeSort _
 refine TL.op z (OpOk.call (I6_ (l := x0)) z z pf109 z z z z ?_)
 rintro _ _ _ _ ⟨rfl, rfl, rfl⟩
 refine TL.en (TC.a (TL.s z z ?_))
 rw [← hn104]
 obtain ⟨v9, u9, hh⟩ := bnd_e hh
 refine TL.op z (OpOk.call (If_ u9) z z pf110 z z z z ?_)
 rintro _ _ _ hle105 ⟨a105_1, c105_2, rfl, rfl, rfl⟩
 refine TL.s z z (TL.en (TC.ret ?_))
 obtain rfl := so hh
 exact ro [Res.rowS 59 8 encArc (.slice a105_1 v9.length c105_2) v9] z (RVs.tmp z RVs.nil) ⟨a105_1, c105_2, z, z, z⟩
noncomputable def Cb_ (x0 : List Tip) (l112 : List Int) (k115 : Nat) : Option (((List Int) × Nat) ⊕ ((List Int))) :=
 iteO (decide (((k115 : Nat) : Int) < ((x0.length : Nat) : Int))) (grd ((l112.length + [(nth x0 k115 Tip.zero).state].length) * 8 ≤ 140737488355328) (nxt ((l112 ++ [(nth x0 k115 Tip.zero).state]), (k115 + 1)))) (fin (bnd (onceI l112) (fun v20 => some v20)))
noncomputable def D9_ (x0 : List Tip) : Option ((List Int)) :=
 iter (fun q : (List Int) × Nat => Cb_ x0 q.1 q.2) (([] : List Int), 0)
def Ic_ (σ : Store) (r : (List Int)) : Value → Store → List Res → Prop := fun v σ' H' =>
 ∃ (a1 : Option Addr), ∃ (c1 : Nat),  v = .slice a1 r.length c1 ∧ σ = σ' ∧ H' = [Res.rowS 3 1 Go.E.encI (.slice a1 r.length c1) r]
theorem C4_ {σ : Store} {x0 : List Tip} {a0_0 : Option Addr} {c0_0 : Nat} (f0_0 : RS σ 2 encTip (.slice a0_0 x0.length c0_0) x0) {r : (List Int)} (hh : D9_ x0 = some r) :
  Con Tryz.prog 26 #[.slice a0_0 x0.length c0_0] σ [] (Ic_ σ r) := by
 dsimp only [D9_] at hh
 have f0_0b := f0_0.rv.big
 refine Con.mk (n := 20) Tryz.func26 z z z (fun w0 => ?_)
 refine TC.a (TL.s z z (TL.en (TC.a (TL.s z z (TL.en (TC.seq (TC.a (TL.s z z (TL.w z (lenC z underlying22 z) (TL.i z z (TL.en (TC.block (TC.nilS 3 1 Go.E.encI (TC.loopG (α := ((List Int) × Nat) × ((Option Addr) × Nat)) (rgs [(3, 1), (5, 1), (8, 10)]) (fun g => [(3, .slice g.2.1 g.1.1.length g.2.2), (8, .int .i64 ((g.1.2 : Nat) : Int))]) (fun g => [Res.rowS 3 1 Go.E.encI (.slice g.2.1 g.1.1.length g.2.2) g.1.1]) (fun g => σ) (fun g => iter (fun q : (List Int) × Nat => Cb_ x0 q.1 q.2) g.1 = some r) (fun g => rounds (fun q : (List Int) × Nat => Cb_ x0 q.1 q.2) g.1) ((([] : List Int), 0), (none, 0)) (Sub.pre 1 z) z (by repeat (first | exact trivial | refine ⟨z, ?_⟩)) hh (fun g1 j1 hg1 => ?_)))))))))))))))
 obtain ⟨⟨l112, k115⟩, ⟨a113, c114⟩⟩ := g1
 have hh := hg1; clear hg1
 try dsimp only
 obtain ⟨z1, hh, hR1⟩ := iter_e hh
 dsimp only [Cb_] at hh
 refine TC.isSl (i := 0) z (fun _ hb117 _ => ?_)
 refine TC.a (TL.w z (OpVal.lss z z z) (TL.en (TC.seq (TC.cD z hh (fun h118 hh => ?_) (fun h118 hh => ?_)))))
 ·refine TC.skip (S.n (TC.seq (TC.block (TC.a (TL.w z (indexN z underlying22 sz62 z z f0_0.rv.sl (by omega)) (TL.w z (loadSA Tip.zero z ag62 sz62 z f0_0 (by omega) (by omega)) (TL.op z (OpOk.alloc z ze62 z z (fun b119 => ?_)))))))))
  refine TL.op z (storeAll z sz62 z z z z z z ?_)
  refine TL.en (TC.region (TL.s z z (TL.w z (fieldLoc z fo62_0 z) (TL.w z (loadLoc z ag3 z (i := 0) z z) (TL.op z (OpOk.lit (enc := Go.E.encI) [(nth x0 k115 Tip.zero).state] z underlying27 sz3 ze3 z z z Go.E.encI_len (by decide) (by decide) (0 : Int) z (by decide) z (by decide) Go.E.encI_one (fun a121 c122 => ?_)))))))
  refine TL.front 2 z z ?_
  have u15 := grd_c hh
  replace hh := grd_t hh
  refine TL.op z (appendS z z underlying27 sz3 by3 ze3 z z (by decide) z z z (.inr ⟨_, 0, z⟩) (by simpa using u15) (by decide) (fun a124 c125 => ?_))
  refine TL.s z z (TL.nil (B.n (S.n (TC.region (TL.w z (OpVal.succ z z z (by omega)) (TL.i z z (TL.en ?_)))))))
  obtain ⟨hh, hlt126⟩ := nxt_x hR1 hh
  exact lf (((l112 ++ [(nth x0 k115 Tip.zero).state]), (k115 + 1)), (a124, c125)) hlt126 hh (Sub.pre 1 z)
 ·refine TC.exit (S.x (S.x ?_))
  replace hh := fin_x hR1 hh
  refine TC.exitHere (S.n (TC.a (TL.s z z (TL.sealS Go.E.encI_len (fun τ129 hle128 hr127 => ?_)))))
  have hr127b := hr127.rv.big
  obtain ⟨v20, u20, hh⟩ := bnd_e hh
  refine TL.op z (OpOk.call (Jb_ hr127 u20) z z pf62 z z z z ?_)
  rintro _ _ _ hle130 ⟨a130_1, c130_1, rfl, rfl, rfl⟩
  refine TL.s z z (TL.en (TC.back (TC.ret ?_)))
  obtain rfl := so hh
  exact ro [Res.rowS 3 1 Go.E.encI (.slice a130_1 v20.length c130_1) v20] z (RVs.tmp z RVs.nil) ⟨a130_1, c130_1, z, z, z⟩
noncomputable def D5_ (x0 : Fst) (l109 : List Int) (l113 : List Int) (l151 : List Arrow) (k154 : Nat) : Option (((List Arrow) × Nat) ⊕ (Nfa × Int)) :=
 iteO (decide (((k154 : Nat) : Int) < ((x0.arcs.length : Nat) : Int))) (grd ((l151.length + [(⟨(nth x0.arcs k154 Arc.zero).frm, (nth x0.arcs k154 Arc.zero).to, (nth x0.arcs k154 Arc.zero).set⟩ : Arrow)].length) * 48 ≤ 140737488355328) (nxt ((l151 ++ [(⟨(nth x0.arcs k154 Arc.zero).frm, (nth x0.arcs k154 Arc.zero).to, (nth x0.arcs k154 Arc.zero).set⟩ : Arrow)]), (k154 + 1)))) (fin (some ((⟨x0.states, l109, l113, l151⟩ : Nfa), 0)))
noncomputable def Gl_ (x0 : Fst) (l109 : List Int) (l113 : List Int) : Option (Nfa × Int) :=
 iter (fun q : (List Arrow) × Nat => D5_ x0 l109 l113 q.1 q.2) (([] : List Arrow), 0)
noncomputable def G0_ (x0 : Fst) : Option (Nfa × Int) :=
 bnd (C8_ x0) (fun v5 => iteO (decide (v5 ≠ 0)) (some ((⟨0, ([] : List Int), ([] : List Int), ([] : List Arrow)⟩ : Nfa), 1)) (bnd (D9_ x0.starts) (fun v14 => bnd (D9_ x0.ends) (fun v17 => Gl_ x0 v14 v17))))
def Je_ (σ : Store) (r : Nfa × Int) : Value → Store → List Res → Prop := fun v σ' H' =>
 ∃ (a1 : Option Addr), ∃ (c1 : Nat), ∃ (a2 : Option Addr), ∃ (c2 : Nat), ∃ (a3 : Option Addr), ∃ (c3 : Nat),  v = .tuple #[.agg #[.int .i64 r.1.states, .slice a1 r.1.starts.length c1, .slice a2 r.1.ends.length c2, .slice a3 r.1.edges.length c3], .int .i64 r.2] ∧ RS σ' 1 Go.E.encI (.slice a1 r.1.starts.length c1) r.1.starts ∧ RS σ' 1 Go.E.encI (.slice a2 r.1.ends.length c2) r.1.ends ∧ RS σ' 6 encE (.slice a3 r.1.edges.length c3) r.1.edges ∧ H' = []
theorem Iv_ {σ : Store} {x0 : Fst} {a0_0 : Option Addr} {c0_0 : Nat} {a0_1 : Option Addr} {c0_1 : Nat} {a0_2 : Option Addr} {c0_2 : Nat} (f0_0 : RS σ 2 encTip (.slice a0_0 x0.starts.length c0_0) x0.starts) (f0_1 : RS σ 2 encTip (.slice a0_1 x0.ends.length c0_1) x0.ends) (f0_2 : RS σ 8 encArc (.slice a0_2 x0.arcs.length c0_2) x0.arcs) {r : Nfa × Int} (hh : G0_ x0 = some r) :
  Con Tryz.prog 13 #[.agg #[.int .i64 x0.states, .slice a0_0 x0.starts.length c0_0, .slice a0_1 x0.ends.length c0_1, .slice a0_2 x0.arcs.length c0_2]] σ [] (Je_ σ r) := by
 dsimp only [G0_] at hh
 have f0_0b := f0_0.rv.big
 have f0_1b := f0_1.rv.big
 have f0_2b := f0_2.rv.big
 refine Con.mk (n := 41) Tryz.func13 z z z (fun w0 => ?_)
 refine TC.a (TL.op z (boxA z z z z (fun b101 => ?_)))
 refine TL.op z (OpOk.alloc z ze48 z z (fun b103 => ?_))
 refine TL.i z z (TL.en (TC.seq (TC.a (TL.w z (loadAll z ag25 sz25 z (i := 1) z z) ?_))))
 obtain ⟨v5, u5, hh⟩ := bnd_e hh
 refine TL.op z (callP (Ej_ (x0 := x0) f0_0 f0_1 f0_2 u5) z z pf16 z z z ?_)
 refine TL.w z (OpVal.neq z z z) (TL.en (TC.cD z hh (fun h105 hh => ?_) (fun h105 hh => ?_)))
 ·refine TC.a (TL.w z (buildL z pl48 ze48 z) (TL.op z (storeAll z sz48 z z z z z z ?_)))
  refine TL.i z z (TL.en (TC.rt 1 (S.r ?_)))
  obtain rfl := so hh
  exact ro [] z (RVs.agg ag48 sz48 z (i := 0) z z (RVs.tmp z RVs.nil)) ⟨none, 0, none, 0, none, 0, z, (RS.nilF _ Go.E.encI Go.E.encI_len), (RS.nilF _ Go.E.encI Go.E.encI_len), (RS.nilF _ encE encE_len), z⟩
 ·refine TC.skip (S.n (TC.cutG (α := ((List Int) × (List Int)) × (Nat × (Option Addr) × Nat × (Option Addr) × Nat)) (rgs [(4, 1), (11, 9)]) (fun g => [(4, loc g.2.1 0)]) (fun g => [Res.cells b101 #[.int .i64 x0.states, .slice a0_0 x0.starts.length c0_0, .slice a0_1 x0.ends.length c0_1, .slice a0_2 x0.arcs.length c0_2] 25, Res.cells b103 #[.int .i64 0, .slice none 0 0, .slice none 0 0, .slice none 0 0] 48, Res.cells g.2.1 #[.int .i64 x0.states, .slice g.2.2.1 g.1.1.length g.2.2.2.1, .slice g.2.2.2.2.1 g.1.2.length g.2.2.2.2.2, .slice none 0 0] 48, Res.rowS 3 1 Go.E.encI (.slice g.2.2.1 g.1.1.length g.2.2.2.1) g.1.1, Res.rowS 3 1 Go.E.encI (.slice g.2.2.2.2.1 g.1.2.length g.2.2.2.2.2) g.1.2]) (fun g => σ) (fun g => Gl_ x0 g.1.1 g.1.2 = some r) ?_ (fun g j hg => ?_)))
  ·skip
   obtain ⟨v14, u14, hh⟩ := bnd_e hh
   obtain ⟨v17, u17, hh⟩ := bnd_e hh
   refine TC.draw [10] (by kernel_rfl) (TA.a 0 z (fieldLoc z fo25_0 z) z (TA.b 1 z (loadLoc z ag3 z (i := 1) z z) z (TA.a 2 z (fieldLoc z fo25_1 z) z (TA.b 3 z (loadLoc z ag22 z (i := 1) z z) z (TA.a 5 z (fieldLoc z fo25_2 z) z (TA.b 6 z (loadLoc z ag22 z (i := 1) z z) z (TA.actN [4, 9] (by kernel_rfl) (an z z (OpOk.call (C4_ f0_0 u14) z z pf26 z z z z ?_) (an z z (OpOk.alloc z ze48 z z (fun b124 => (k1 ?_))) (True.intro))))))))))
   ·skip
    rintro _ _ _ hle122 ⟨a122_1, c122_1, rfl, rfl, rfl⟩
    refine k1 (TA.actN [7, 9] (by kernel_rfl) (an z z (OpOk.call (C4_ f0_1 u17) z z pf26 z z z z ?_) (an z z (OpOk.alloc z ze48 z z (fun b128 => (k2 ?_))) (True.intro))))
    ·skip
     rintro _ _ _ hle126 ⟨a126_1, c126_1, rfl, rfl, rfl⟩
     refine k2 (TA.a 8 z (buildL z pl48 ze48 z) z (TA.ac 9 z (OpOk.alloc z ze48 z z (fun b130 => (k3 ?_)))))
     refine TA.last 10 (by kernel_rfl) z z z (storeAll z sz48 z z z z z z ?_)
     exact TZ.done (by kernel_rfl) (S.n (cf ((v14, v17), (b130, a122_1, c122_1, a126_1, c126_1)) hh (Sub.f [1, 2, 2, 3, 4] 5)))
    ·skip
     refine TA.ac 7 z (OpOk.call (C4_ f0_1 u17) z z pf26 z z z z ?_)
     rintro _ _ _ hle132 ⟨a132_1, c132_1, rfl, rfl, rfl⟩
     refine k3 (TA.a 8 z (buildL z pl48 ze48 z) z (TA.front 1 z z (TA.last 10 (by kernel_rfl) z z z (storeAll z sz48 z z z z z z ?_))))
     exact TZ.done (by kernel_rfl) (S.n (cf ((v14, v17), (b128, a122_1, c122_1, a132_1, c132_1)) hh (Sub.f [1, 2, 2, 3, 4] 5)))
   ·skip
    refine TA.ac 4 z (OpOk.call (C4_ f0_0 u14) z z pf26 z z z z ?_)
    rintro _ _ _ hle134 ⟨a134_1, c134_1, rfl, rfl, rfl⟩
    refine k2 (TA.ac 7 z (OpOk.call (C4_ f0_1 u17) z z pf26 z z z z ?_))
    rintro _ _ _ hle136 ⟨a136_1, c136_1, rfl, rfl, rfl⟩
    refine k3 (TA.a 8 z (buildL z pl48 ze48 z) z (TA.front 2 z z (TA.last 10 (by kernel_rfl) z z z (storeAll z sz48 z z z z z z ?_))))
    exact TZ.done (by kernel_rfl) (S.n (cf ((v14, v17), (b124, a134_1, c134_1, a136_1, c136_1)) hh (Sub.f [1, 2, 2, 3, 4] 5)))
  ·skip
   obtain ⟨⟨l109, l113⟩, ⟨b107, a110, c111, a114, c115⟩⟩ := g
   have hh := hg; clear hg
   try dsimp only
   dsimp only [Gl_] at hh
   refine TC.isSl (i := 3) z (fun _ hb138 _ => ?_)
   refine TC.isSl (i := 4) z (fun _ hb139 _ => ?_)
   refine TC.seq (TC.a (TL.w z (fieldLoc z fo25_3 z) (TL.w z (loadLoc z ag23 z (i := 0) z z) (TL.w z (lenC z underlying23 z) (TL.i z z (TL.en (TC.block (TC.nilS 78 6 encE (TC.loopG (α := ((List Arrow) × Nat) × ((Option Addr) × Nat)) (rgs [(6, 1), (23, 17)]) (fun g => [(23, .int .i64 ((g.1.2 : Nat) : Int))]) (fun g => [Res.cells b103 #[.int .i64 0, .slice none 0 0, .slice none 0 0, .slice none 0 0] 48, Res.cells b107 #[.int .i64 x0.states, .slice a110 l109.length c111, .slice a114 l113.length c115, .slice g.2.1 g.1.1.length g.2.2] 48, Res.rowS 3 1 Go.E.encI (.slice a110 l109.length c111) l109, Res.rowS 3 1 Go.E.encI (.slice a114 l113.length c115) l113, Res.rowS 78 6 encE (.slice g.2.1 g.1.1.length g.2.2) g.1.1]) (fun g => σ) (fun g => iter (fun q : (List Arrow) × Nat => D5_ x0 l109 l113 q.1 q.2) g.1 = some r) (fun g => rounds (fun q : (List Arrow) × Nat => D5_ x0 l109 l113 q.1 q.2) g.1) ((([] : List Arrow), 0), (none, 0)) (Sub.f [5, 5, 5, 5] 5) z (by repeat (first | exact trivial | refine ⟨z, ?_⟩)) hh (fun g1 j1 hg1 => ?_))))))))))
   obtain ⟨⟨l151, k154⟩, ⟨a152, c153⟩⟩ := g1
   have hh := hg1; clear hg1
   try dsimp only
   obtain ⟨z1, hh, hR1⟩ := iter_e hh
   dsimp only [D5_] at hh
   refine TC.isSl (i := 2) z (fun _ hb156 _ => ?_)
   refine TC.isSl (i := 3) z (fun _ hb157 _ => ?_)
   refine TC.isSl (i := 4) z (fun _ hb158 _ => ?_)
   refine TC.a (TL.w z (OpVal.lss z z z) (TL.en (TC.seq (TC.cD z hh (fun h159 hh => ?_) (fun h159 hh => ?_)))))
   ·refine TC.skip (S.n (TC.seq (TC.block (TC.a (TL.w z (indexN z underlying23 sz59 z z f0_2.rv.sl (by omega)) (TL.w z (loadSA Arc.zero z ag59 sz59 z f0_2 (by omega) (by omega)) (TL.op z (OpOk.alloc z ze59 z z (fun b160 => ?_)))))))))
    refine TL.op z (storeAll z sz59 z z z z z z ?_)
    refine TL.en (TC.region (TL.w z (fieldLoc z fo48_3 z) (TL.w z (loadLoc z ag46 z (i := 2) z z) (TL.w z (fieldLoc z fo59_0 z) (TL.w z (loadLoc z ag3 z (i := 0) z z) (TL.w z (fieldLoc z fo59_1 z) (TL.w z (loadLoc z ag3 z (i := 0) z z) (TL.w z (fieldLoc z fo59_2 z) (TL.w z (loadLocA z ag57 sz57 z (i := 0) z z z) (TL.w z (buildL z pl78 ze78 z) (TL.op z (OpOk.lit (enc := encE) [(⟨(nth x0.arcs k154 Arc.zero).frm, (nth x0.arcs k154 Arc.zero).to, (nth x0.arcs k154 Arc.zero).set⟩ : Arrow)] z underlying46 sz78 ze78 z z z encE_len (by decide) (by decide) Arrow.zero z (by decide) z (by decide) encE_one (fun a162 c163 => ?_)))))))))))))
    refine TL.front 6 z z ?_
    have u40 := grd_c hh
    replace hh := grd_t hh
    refine TL.op z (appendS z z underlying46 sz78 by78 ze78 z z (by decide) z z z (.inr ⟨_, 0, z⟩) (by simpa using u40) (by decide) (fun a165 c166 => ?_))
    refine TL.w z (fieldLoc z fo48_3 z) (TL.front 4 z z (TL.op z (storeSl z sz46 z z z z z ?_)))
    refine TL.nil (B.n (S.n (TC.region (TL.w z (OpVal.succ z z z (by omega)) (TL.i z z (TL.en ?_))))))
    obtain ⟨hh, hlt167⟩ := nxt_x hR1 hh
    exact lf (((l151 ++ [(⟨(nth x0.arcs k154 Arc.zero).frm, (nth x0.arcs k154 Arc.zero).to, (nth x0.arcs k154 Arc.zero).set⟩ : Arrow)]), (k154 + 1)), (a165, c166)) hlt167 hh (Sub.f [1, 6, 6, 3, 6] 5)
   ·refine TC.exit (S.x (S.x ?_))
    replace hh := fin_x hR1 hh
    refine TC.exitHere (S.n (TC.a (TL.w z (loadAll z ag48 sz48 z (i := 1) z z) (TL.op z (storeAll z sz48 z z z z z z ?_)))))
    refine TL.i z z (TL.en (TC.front 2 z z (TC.sealS Go.E.encI_len (fun τ170 hle169 hr168 => ?_))))
    have hr168b := hr168.rv.big
    refine TC.front 2 z z (TC.sealS Go.E.encI_len (fun τ173 hle172 hr171 => ?_))
    replace hr168 := hr168.mono hle172
    have hr171b := hr171.rv.big
    refine TC.front 2 z z (TC.sealS encE_len (fun τ176 hle175 hr174 => ?_))
    replace hr168 := hr168.mono hle175
    replace hr171 := hr171.mono hle175
    have hr174b := hr174.rv.big
    refine TC.rt 1 ?_
    obtain rfl := so hh
    exact ro [] z (RVs.agg ag48 sz48 z (i := 0) z z (RVs.tmp z RVs.nil)) ⟨a110, c111, a114, c115, a152, c153, z, hr168, hr171, hr174, z⟩
noncomputable def Cq_ (x0 : Fst) : Option (Fst × Int) :=
 bnd (C8_ x0) (fun v5 => iteO (decide (v5 ≠ 0)) (some ((⟨0, ([] : List Tip), ([] : List Tip), ([] : List Arc)⟩ : Fst), 1)) (bnd (onceT x0.starts) (fun v14 => bnd (onceT x0.ends) (fun v17 => bnd (onceA x0.arcs) (fun v20 => some ((⟨x0.states, v14, v17, v20⟩ : Fst), 0))))))
def Iw_ (σ : Store) (r : Fst × Int) : Value → Store → List Res → Prop := fun v σ' H' =>
 ∃ (a1 : Option Addr), ∃ (c1 : Nat), ∃ (a2 : Option Addr), ∃ (c2 : Nat), ∃ (a3 : Option Addr), ∃ (c3 : Nat),  v = .tuple #[.agg #[.int .i64 r.1.states, .slice a1 r.1.starts.length c1, .slice a2 r.1.ends.length c2, .slice a3 r.1.arcs.length c3], .int .i64 r.2] ∧ RS σ' 2 encTip (.slice a1 r.1.starts.length c1) r.1.starts ∧ RS σ' 2 encTip (.slice a2 r.1.ends.length c2) r.1.ends ∧ RS σ' 8 encArc (.slice a3 r.1.arcs.length c3) r.1.arcs ∧ H' = []
theorem H9_ {σ : Store} {x0 : Fst} {a0_0 : Option Addr} {c0_0 : Nat} {a0_1 : Option Addr} {c0_1 : Nat} {a0_2 : Option Addr} {c0_2 : Nat} (f0_0 : RS σ 2 encTip (.slice a0_0 x0.starts.length c0_0) x0.starts) (f0_1 : RS σ 2 encTip (.slice a0_1 x0.ends.length c0_1) x0.ends) (f0_2 : RS σ 8 encArc (.slice a0_2 x0.arcs.length c0_2) x0.arcs) {r : Fst × Int} (hh : Cq_ x0 = some r) :
  Con Tryz.prog 49 #[.agg #[.int .i64 x0.states, .slice a0_0 x0.starts.length c0_0, .slice a0_1 x0.ends.length c0_1, .slice a0_2 x0.arcs.length c0_2]] σ [] (Iw_ σ r) := by
 dsimp only [Cq_] at hh
 have f0_0b := f0_0.rv.big
 have f0_1b := f0_1.rv.big
 have f0_2b := f0_2.rv.big
 refine Con.mk (n := 20) Tryz.func49 z z z (fun w0 => ?_)
 refine TC.a (TL.op z (boxA z z z z (fun b101 => ?_)))
 refine TL.op z (OpOk.alloc z ze25 z z (fun b103 => ?_))
 refine TL.i z z (TL.en (TC.seq (TC.a (TL.w z (loadAll z ag25 sz25 z (i := 1) z z) ?_))))
 obtain ⟨v5, u5, hh⟩ := bnd_e hh
 refine TL.op z (callP (Ej_ (x0 := x0) f0_0 f0_1 f0_2 u5) z z pf16 z z z ?_)
 refine TL.w z (OpVal.neq z z z) (TL.en (TC.cD z hh (fun h105 hh => ?_) (fun h105 hh => ?_)))
 ·refine TC.a (TL.w z (buildL z pl25 ze25 z) (TL.op z (storeAll z sz25 z z z z z z ?_)))
  refine TL.i z z (TL.en (TC.rt 1 (S.r ?_)))
  obtain rfl := so hh
  exact ro [] z (RVs.agg ag25 sz25 z (i := 0) z z (RVs.tmp z RVs.nil)) ⟨none, 0, none, 0, none, 0, z, (RS.nilF _ encTip encTip_len), (RS.nilF _ encTip encTip_len), (RS.nilF _ encArc encArc_len), z⟩
 ·refine TC.skip (S.n (TC.seq ?_))
  obtain ⟨v14, u14, hh⟩ := bnd_e hh
  obtain ⟨v17, u17, hh⟩ := bnd_e hh
  obtain ⟨v20, u20, hh⟩ := bnd_e hh
  refine TC.draw [12, 13] (by kernel_rfl) (TA.a 0 z (fieldLoc z fo25_0 z) z (TA.b 1 z (loadLoc z ag3 z (i := 1) z z) z (TA.a 2 z (fieldLoc z fo25_1 z) z (TA.b 3 z (loadLoc z ag22 z (i := 1) z z) z (TA.a 5 z (fieldLoc z fo25_2 z) z (TA.b 6 z (loadLoc z ag22 z (i := 1) z z) z (TA.a 8 z (fieldLoc z fo25_3 z) z (TA.b 9 z (loadLoc z ag23 z (i := 1) z z) z (TA.ac 4 z (OpOk.call (H3_ f0_0 u14) z z pf82 z z z z ?_))))))))))
  rintro _ _ _ hle112 ⟨a112_1, c112_1, rfl, rfl, rfl⟩
  refine k1 (TA.ac 7 z (OpOk.call (H3_ f0_1 u17) z z pf82 z z z z ?_))
  rintro _ _ _ hle114 ⟨a114_1, c114_1, rfl, rfl, rfl⟩
  refine k2 (TA.ac 10 z (OpOk.call (I7_ f0_2 u20) z z pf84 z z z z ?_))
  rintro _ _ _ hle116 ⟨a116_1, c116_1, rfl, rfl, rfl⟩
  refine k3 (TA.a 11 z (buildL z pl25 ze25 z) z (TA.front 3 z z (TA.last 12 (by kernel_rfl) z z z (storeAll z sz25 z z z z z z ?_))))
  refine TZ.v 13 (by kernel_rfl) z z z (moveI (.inr z) z) z z (TZ.done (by kernel_rfl) (S.n (TC.front 3 z z (TC.sealS encTip_len (fun τ120 hle119 hr118 => ?_)))))
  have hr118b := hr118.rv.big
  refine TC.front 2 z z (TC.sealS encTip_len (fun τ123 hle122 hr121 => ?_))
  replace hr118 := hr118.mono hle122
  have hr121b := hr121.rv.big
  refine TC.front 1 z z (TC.sealS encArc_len (fun τ126 hle125 hr124 => ?_))
  replace hr118 := hr118.mono hle125
  replace hr121 := hr121.mono hle125
  have hr124b := hr124.rv.big
  refine TC.rt 1 ?_
  obtain rfl := so hh
  exact ro [] z (RVs.agg ag25 sz25 z (i := 0) z z (RVs.tmp z RVs.nil)) ⟨a112_1, c112_1, a114_1, c114_1, a116_1, c116_1, z, hr118, hr121, hr124, z⟩
noncomputable def Gt_ (l120 : List (List Arc)) (x0 : Fst) (k124 : Nat) : Option (((List (List Arc)) × Nat) ⊕ ((List (List UInt8)) × Int)) :=
 nxt ((l120.set (((nth x0.arcs k124 Arc.zero).frm).toNat) ((nth l120 (((nth x0.arcs k124 Arc.zero).frm).toNat) ([] : List Arc)) ++ [(nth x0.arcs k124 Arc.zero)])), (k124 + 1))
noncomputable def Gs_ (l229 : List (List (List UInt8))) (x0 : Fst) (k233 : Nat) : Option (((List (List (List UInt8))) × Nat) ⊕ ((List (List UInt8)) × Int)) :=
 nxt ((l229.set (((nth x0.ends k233 Tip.zero).state).toNat) ((nth l229 (((nth x0.ends k233 Tip.zero).state).toNat) ([] : List (List UInt8))) ++ [(nth x0.ends k233 Tip.zero).out])), (k233 + 1))
noncomputable def Ci_ (l229 : List (List (List UInt8))) (v120c : FPair × Unit) (l338 : List (List UInt8)) (k341 : Nat) : Option (((List (List UInt8)) × Nat) ⊕ (((List (List UInt8))) ⊕ ((List (List UInt8)) × Int))) :=
 iteO (decide (((k341 : Nat) : Int) < (((nth l229 v120c.1.state.toNat ([] : List (List UInt8))).length : Nat) : Int))) (grd (v120c.1.out.length + (nth (nth l229 v120c.1.state.toNat ([] : List (List UInt8))) k341 ([] : List UInt8)).length ≤ 9223372036854775807) (grd ((l338.length + [(v120c.1.out ++ (nth (nth l229 v120c.1.state.toNat ([] : List (List UInt8))) k341 ([] : List UInt8)))].length) * 16 ≤ 140737488355328) (nxt ((l338 ++ [(v120c.1.out ++ (nth (nth l229 v120c.1.state.toNat ([] : List (List UInt8))) k341 ([] : List UInt8)))]), (k341 + 1))))) (fin (nxt l338))
noncomputable def Ch_ (l229 : List (List (List UInt8))) (l299 : List (List UInt8)) (oE : Option (FPair × Unit)) : Option (((List (List UInt8))) ⊕ ((List (List UInt8)) × Int)) :=
 optE oE (fin (bnd (onceS l299) (fun v148 => some (v148, 0)))) (fun v120c => grd (0 ≤ v120c.1.state ∧ v120c.1.state < (l229.length : Int)) (iter (fun q : (List (List UInt8)) × Nat => Ci_ l229 v120c q.1 q.2) (l299, 0)))
noncomputable def Cf_ (x0 : Fst) (m201 : FM FPair Unit) (l229 : List (List (List UInt8))) (k233 : Nat) : Option (((List (List (List UInt8))) × Nat) ⊕ ((List (List UInt8)) × Int)) :=
 iteO (decide (((k233 : Nat) : Int) < ((x0.ends.length : Nat) : Int))) (grd (0 ≤ ((nth x0.ends k233 Tip.zero).state) ∧ ((nth x0.ends k233 Tip.zero).state) < (l229.length : Int)) (grd (((nth l229 (((nth x0.ends k233 Tip.zero).state).toNat) ([] : List (List UInt8))).length + [(nth x0.ends k233 Tip.zero).out].length) * 16 ≤ 140737488355328) (grd (0 ≤ ((nth x0.ends k233 Tip.zero).state) ∧ ((nth x0.ends k233 Tip.zero).state) < (l229.length : Int)) (Gs_ l229 x0 k233)))) (fin (allP (fun q => Rep q m201) (fun q => runL (fun (q : (List (List UInt8))) (oE : Option (FPair × Unit)) => Ch_ l229 q oE) q ([] : List (List UInt8)))))
noncomputable def B4_ (x1 : List UInt8) (l120 : List (List Arc)) (x0 : Fst) (m201 : FM FPair Unit) (k203 : Nat) : Option (((FM FPair Unit) × Nat) ⊕ ((List (List UInt8)) × Int)) :=
 iteO (decide (((k203 : Nat) : Int) < ((x1.length : Nat) : Int))) (bnd (Gj_ l120 m201 (nth x1 k203 (0 : UInt8))) (fun v74 => iteO (!v74.2) (fin (some (([] : List (List UInt8)), 2))) (nxt (v74.1, (k203 + 1))))) (fin (grd (0 ≤ x0.states ∧ 24 * x0.states.toNat ≤ 281474976710656) (iter (fun q : (List (List (List UInt8))) × Nat => Cf_ x0 m201 q.1 q.2) ((List.replicate x0.states.toNat ([] : List (List UInt8))), 0))))
noncomputable def Cl_ (x0 : Fst) (x1 : List UInt8) (l120 : List (List Arc)) (m180 : FM FPair Unit) (k181 : Nat) : Option (((FM FPair Unit) × Nat) ⊕ ((List (List UInt8)) × Int)) :=
 iteO (decide (((k181 : Nat) : Int) < ((x0.starts.length : Nat) : Int))) (nxt ((m180.put (⟨(nth x0.starts k181 Tip.zero).state, (nth x0.starts k181 Tip.zero).out⟩ : FPair) ()), (k181 + 1))) (fin (iter (fun q : (FM FPair Unit) × Nat => B4_ x1 l120 x0 q.1 q.2) (m180, 0)))
noncomputable def Cg_ (x0 : Fst) (x1 : List UInt8) (l120 : List (List Arc)) (k124 : Nat) : Option (((List (List Arc)) × Nat) ⊕ ((List (List UInt8)) × Int)) :=
 iteO (decide (((k124 : Nat) : Int) < ((x0.arcs.length : Nat) : Int))) (grd (0 ≤ ((nth x0.arcs k124 Arc.zero).frm) ∧ ((nth x0.arcs k124 Arc.zero).frm) < (l120.length : Int)) (grd (((nth l120 (((nth x0.arcs k124 Arc.zero).frm).toNat) ([] : List Arc)).length + [(nth x0.arcs k124 Arc.zero)].length) * 72 ≤ 140737488355328) (grd (0 ≤ ((nth x0.arcs k124 Arc.zero).frm) ∧ ((nth x0.arcs k124 Arc.zero).frm) < (l120.length : Int)) (Gt_ l120 x0 k124)))) (fin (iter (fun q : (FM FPair Unit) × Nat => Cl_ x0 x1 l120 q.1 q.2) ((FM.emp : FM FPair Unit), 0)))
noncomputable def Ga_ (x0 : Fst) (x1 : List UInt8) : Option ((List (List UInt8)) × Int) :=
 grd (x1.length ≤ 281474976710656) (bnd (C8_ x0) (fun v5 => iteO (decide (v5 ≠ 0)) (some (([] : List (List UInt8)), 1)) (iteO (decide (256 < ((x1.length : Nat) : Int))) (some (([] : List (List UInt8)), 2)) (grd (0 ≤ x0.states ∧ 24 * x0.states.toNat ≤ 281474976710656) (iter (fun q : (List (List Arc)) × Nat => Cg_ x0 x1 q.1 q.2) ((List.replicate x0.states.toNat ([] : List Arc)), 0))))))
def I2_ (σ : Store) (r : (List (List UInt8)) × Int) : Value → Store → List Res → Prop := fun v σ' H' =>
 ∃ (a1 : Option Addr), ∃ (c1 : Nat),  v = .tuple #[.slice a1 r.1.length c1, .int .i64 r.2] ∧ RS σ' 1 Go.E.encS (.slice a1 r.1.length c1) r.1 ∧ H' = []
theorem Ii_ {σ : Store} {x0 : Fst} {a0_0 : Option Addr} {c0_0 : Nat} {a0_1 : Option Addr} {c0_1 : Nat} {a0_2 : Option Addr} {c0_2 : Nat} {x1 : List UInt8} (f0_0 : RS σ 2 encTip (.slice a0_0 x0.starts.length c0_0) x0.starts) (f0_1 : RS σ 2 encTip (.slice a0_1 x0.ends.length c0_1) x0.ends) (f0_2 : RS σ 8 encArc (.slice a0_2 x0.arcs.length c0_2) x0.arcs) {r : (List (List UInt8)) × Int} (hh : Ga_ x0 x1 = some r) :
  Con Tryz.prog 7 #[.agg #[.int .i64 x0.states, .slice a0_0 x0.starts.length c0_0, .slice a0_1 x0.ends.length c0_1, .slice a0_2 x0.arcs.length c0_2], .string (bs x1)] σ [] (I2_ σ r) := by
 dsimp only [Ga_] at hh
 have f0_0b := f0_0.rv.big
 have f0_1b := f0_1.rv.big
 have f0_2b := f0_2.rv.big
 refine Con.mk (n := 135) Tryz.func7 z z z (fun w0 => ?_)
 have x1b := grd_c hh
 replace hh := grd_t hh
 refine TC.a (TL.op z (boxA z z z z (fun b101 => ?_)))
 refine TL.s z z (TL.i z z (TL.en (TC.seq (TC.a (TL.w z (loadAll z ag25 sz25 z (i := 0) z z) ?_)))))
 obtain ⟨v5, u5, hh⟩ := bnd_e hh
 refine TL.op z (callP (Ej_ (x0 := x0) f0_0 f0_1 f0_2 u5) z z pf16 z z z ?_)
 refine TL.w z (OpVal.neq z z z) (TL.en (TC.cD z hh (fun h103 hh => ?_) (fun h103 hh => ?_)))
 ·refine TC.a (TL.s z z (TL.i z z (TL.en (TC.rt 0 (S.r ?_)))))
  obtain rfl := so hh
  exact rq [4, 5] ⟨none, 0, z, (RS.nilF _ Go.E.encS Go.E.encS_len), z⟩
 ·refine TC.skip (S.n (TC.seq (TC.a (TL.w z (moveStr (.inl z) z) (TL.w z (lenBs z underlying9 z) (TL.w z (OpVal.gtr z z z) (TL.en (TC.cD z hh (fun h104 hh => ?_) (fun h104 hh => ?_)))))))))
  ·refine TC.a (TL.s z z (TL.i z z (TL.en (TC.rt 0 (S.r ?_)))))
   obtain rfl := so hh
   exact rq [4, 5] ⟨none, 0, z, (RS.nilF _ Go.E.encS Go.E.encS_len), z⟩
  ·refine TC.skip (S.n (TC.a (TL.w z (fieldLoc z fo25_0 z) (TL.w z (loadLoc z ag3 z (i := 0) z z) ?_))))
   have u16 := grd_c hh
   replace hh := grd_t hh
   refine TL.op rfl (makeN (q := x0.states.toNat) (E := 59) (size := 8) (enc := encArc) rfl underlying54 sz23 by23 ze23 rfl rfl (by show Value.int _ _ = _; rw [Int.toNat_of_nonneg u16.1]) (by show Value.int _ _ = _; rw [Int.toNat_of_nonneg u16.1]) (by omega) (by decide) rfl (fun a105 c106 zf107 => ?_))
   refine TL.s z z (TL.en (TC.seq (TC.a (TL.w z (fieldLoc z fo25_3 z) (TL.w z (loadLoc z ag23 z (i := 1) z z) (TL.w z (lenC z underlying23 z) (TL.i z z (TL.en (TC.block (TC.loopG (α := ((List (List Arc)) × Nat) × ((List (NP Arc)))) (rgs [(8, 1), (34, 17)]) (fun g => [(34, .int .i64 ((g.1.2 : Nat) : Int))]) (fun g => [Res.cells b101 #[.int .i64 x0.states, .slice a0_0 x0.starts.length c0_0, .slice a0_1 x0.ends.length c0_1, .slice a0_2 x0.arcs.length c0_2] 25, Res.nest 23 59 8 encArc (.slice a105 (List.replicate x0.states.toNat ([] : List Arc)).length c106) g.2]) (fun g => σ) (fun g => iter (fun q : (List (List Arc)) × Nat => Cg_ x0 x1 q.1 q.2) g.1 = some r ∧ g.1.1.length = (List.replicate x0.states.toNat ([] : List Arc)).length ∧ Zn g.2 g.1.1) (fun g => rounds (fun q : (List (List Arc)) × Nat => Cg_ x0 x1 q.1 q.2) g.1) (((List.replicate x0.states.toNat ([] : List Arc)), 0), (List.replicate x0.states.toNat (nilN : NP Arc))) (Sub.f [1] 2) z (by repeat (first | exact trivial | refine ⟨z, ?_⟩)) ⟨hh, z, zf107⟩ (fun g1 j1 hg1 => ?_)))))))))))
   obtain ⟨⟨l120, k124⟩, z122⟩ := g1
   obtain ⟨hh, hn121, zf123⟩ := hg1
   try dsimp only at hn121 zf123 ⊢
   obtain ⟨z1, hh, hR1⟩ := iter_e hh
   dsimp only [Cg_] at hh
   have hn121b := hn121
   have zf123b := zf123.len
   refine TC.know (isSl_nest (q := 1) z zf123) (fun ⟨_, hb125⟩ => ?_)
   refine TC.a (TL.w z (OpVal.lss z z z) (TL.en (TC.seq (TC.cD z hh (fun h126 hh => ?_) (fun h126 hh => ?_)))))
   ·refine TC.skip (S.n (TC.cutG (α := (Unit) × ((List (NP Arc)))) (rgs [(8, 1), (36, 14)]) (fun g => []) (fun g => [Res.cells b101 #[.int .i64 x0.states, .slice a0_0 x0.starts.length c0_0, .slice a0_1 x0.ends.length c0_1, .slice a0_2 x0.arcs.length c0_2] 25, Res.nest 23 59 8 encArc (.slice a105 (List.replicate x0.states.toNat ([] : List Arc)).length c106) g.2]) (fun g => σ) (fun g => Gt_ l120 x0 k124 = some z1 ∧ (l120.set (((nth x0.arcs k124 Arc.zero).frm).toNat) ((nth l120 (((nth x0.arcs k124 Arc.zero).frm).toNat) ([] : List Arc)) ++ [(nth x0.arcs k124 Arc.zero)])).length = (List.replicate x0.states.toNat ([] : List Arc)).length ∧ Zn g.2 (l120.set (((nth x0.arcs k124 Arc.zero).frm).toNat) ((nth l120 (((nth x0.arcs k124 Arc.zero).frm).toNat) ([] : List Arc)) ++ [(nth x0.arcs k124 Arc.zero)]))) ?_ (fun g j hg => ?_)))
    ·skip
     refine TC.block (TC.a (TL.w z (indexN z underlying23 sz59 z z f0_2.rv.sl (by omega)) (TL.w z (loadSA Arc.zero z ag59 sz59 z f0_2 (by omega) (by omega)) (TL.op z (OpOk.alloc z ze59 z z (fun b130 => ?_))))))
     refine TL.op z (storeAll z sz59 z z z z z z ?_)
     refine TL.en ?_
     have u33 := grd_c hh
     replace hh := grd_t hh
     have u37 := grd_c hh
     replace hh := grd_t hh
     have u38 := grd_c hh
     replace hh := grd_t hh
     refine TC.drawR (Hr := [Res.cells b130 #[.int .i64 ((nth x0.arcs k124 Arc.zero).frm), .int .i64 ((nth x0.arcs k124 Arc.zero).to), .int .u64 ((((nth x0.arcs k124 Arc.zero).set).a : Nat) : Int), .int .u64 ((((nth x0.arcs k124 Arc.zero).set).b : Nat) : Int), .int .u64 ((((nth x0.arcs k124 Arc.zero).set).c : Nat) : Int), .int .u64 ((((nth x0.arcs k124 Arc.zero).set).d : Nat) : Int), .string (bs ((nth x0.arcs k124 Arc.zero).out)), .bool ((nth x0.arcs k124 Arc.zero).copy)] 59, Res.cells b101 #[.int .i64 x0.states, .slice a0_0 x0.starts.length c0_0, .slice a0_1 x0.ends.length c0_1, .slice a0_2 x0.arcs.length c0_2] 25]) (fun r hr => mem_pick [0, 1] z hr) [] (by kernel_rfl) (TA.a 0 z (moveSl (.inl z) z) z (TA.a 1 z (fieldLoc z fo59_0 z) z (TA.b 2 z (loadLoc z ag3 z (i := 0) z z) z (TA.a 3 z (moveSl (.inl z) z) z (TA.a 4 z (fieldLoc z fo59_0 z) z (TA.b 5 z (loadLoc z ag3 z (i := 0) z z) z (TA.know (isSl_nest (q := 2) z zf123) (fun ⟨hs143, hs143b⟩ => ?_))))))))
     refine TA.b 6 z (OpVal.index z underlying54 sz23 z z hs143 u33.1 u33.2) z (TA.b 8 z (loadAll z ag59 sz59 z (i := 0) z z) z ?_)
     obtain ⟨p144, hz144, hm144⟩ := Zn.at zf123 (i := ((nth x0.arcs k124 Arc.zero).frm).toNat) (by omega)
     refine TA.actN [7, 9] (by kernel_rfl) (an z z (OpVal.ok (loadN z ag23 z (q := 2) z hz144 hm144) z z ⟨(fun w h => sees_of (Store.le.refl _) (fun r hr => mem_pick [0, 1] z hr) w h), ?_⟩) (an z z (OpOk.lit (enc := encArc) [(nth x0.arcs k124 Arc.zero)] z underlying23 sz59 ze59 z z z encArc_len (by decide) (by decide) Arc.zero z (by decide) z (by decide) encArc_one (fun a145 c146 => ⟨(fun w h => sees_of (Store.le.refl _) (fun r hr => mem_pick [1, 2] z hr) w h), ?_⟩)) (True.intro)))
     ·skip
      refine TA.ac 9 z (OpOk.lit (enc := encArc) [(nth x0.arcs k124 Arc.zero)] z underlying23 sz59 ze59 z z z encArc_len (by decide) (by decide) Arc.zero z (by decide) z (by decide) encArc_one (fun a148 c149 => ⟨(fun w h => sees_of (Store.le.refl _) (fun r hr => mem_pick [1, 2] z hr) w h), ?_⟩))
      refine TA.front 3 z z (TA.by (fun w h => Reach.takeN hz144 hm144 h) (TA.ac 10 z (appendS z z underlying23 sz59 by59 ze59 z z (by decide) z z z (.inr ⟨_, 1, z⟩) (by simpa using u37) (by decide) (fun a152 c153 => (k3 ?_)))))
      refine TA.know (isSl_nestX (q := 1) z zf123) (fun ⟨hs154, hs154b⟩ => ?_)
      refine TA.b 11 z (OpVal.index z underlying54 sz23 z z hs154 u38.1 u38.2) z (TA.front 1 z z (TA.front 1 z z ?_))
      have hn156 : (l120.set (((nth x0.arcs k124 Arc.zero).frm).toNat) ((nth l120 (((nth x0.arcs k124 Arc.zero).frm).toNat) ([] : List Arc)) ++ [(nth x0.arcs k124 Arc.zero)])).length = (List.replicate x0.states.toNat ([] : List Arc)).length := (List.length_set ..).trans hn121
      refine TA.ac 12 rfl (storeX (l' := ((nth l120 (((nth x0.arcs k124 Arc.zero).frm).toNat) ([] : List Arc)) ++ [(nth x0.arcs k124 Arc.zero)])) rfl sz23 rfl rfl rfl rfl rfl (by rw [zf123.len]; omega) zf123 (fun zf155 => (k2 ?_)))
      exact TA.dn (B.n (S.n (cf ((), (z122.set (((nth x0.arcs k124 Arc.zero).frm).toNat) (((nth l120 (((nth x0.arcs k124 Arc.zero).frm).toNat) ([] : List Arc)) ++ [(nth x0.arcs k124 Arc.zero)]), (a152, c153)))) ⟨hh, hn156, zf155⟩ (Sub.f [3] 2))))
     ·skip
      obtain ⟨p157, hz157, hm157⟩ := Zn.at zf123 (i := ((nth x0.arcs k124 Arc.zero).frm).toNat) (by omega)
      refine TA.ac 7 z (OpVal.ok (loadN z ag23 z (q := 3) z hz157 hm157) z z ⟨(fun w h => sees_of (Store.le.refl _) (fun r hr => mem_pick [1, 2] z hr) w h), ?_⟩)
      refine TA.front 3 z z (TA.by (fun w h => Reach.takeN hz157 hm157 h) (TA.ac 10 z (appendS z z underlying23 sz59 by59 ze59 z z (by decide) z z z (.inr ⟨_, 1, z⟩) (by simpa using u37) (by decide) (fun a159 c160 => (k3 ?_)))))
      refine TA.know (isSl_nestX (q := 1) z zf123) (fun ⟨hs161, hs161b⟩ => ?_)
      refine TA.b 11 z (OpVal.index z underlying54 sz23 z z hs161 u38.1 u38.2) z (TA.front 1 z z (TA.front 1 z z ?_))
      have hn163 : (l120.set (((nth x0.arcs k124 Arc.zero).frm).toNat) ((nth l120 (((nth x0.arcs k124 Arc.zero).frm).toNat) ([] : List Arc)) ++ [(nth x0.arcs k124 Arc.zero)])).length = (List.replicate x0.states.toNat ([] : List Arc)).length := (List.length_set ..).trans hn121
      refine TA.ac 12 rfl (storeX (l' := ((nth l120 (((nth x0.arcs k124 Arc.zero).frm).toNat) ([] : List Arc)) ++ [(nth x0.arcs k124 Arc.zero)])) rfl sz23 rfl rfl rfl rfl rfl (by rw [zf123.len]; omega) zf123 (fun zf162 => (k2 ?_)))
      exact TA.dn (B.n (S.n (cf ((), (z122.set (((nth x0.arcs k124 Arc.zero).frm).toNat) (((nth l120 (((nth x0.arcs k124 Arc.zero).frm).toNat) ([] : List Arc)) ++ [(nth x0.arcs k124 Arc.zero)]), (a159, c160)))) ⟨hh, hn163, zf162⟩ (Sub.f [3] 2))))
    ·skip
     obtain ⟨_, z128⟩ := g
     obtain ⟨hh, hn127, zf129⟩ := hg
     try dsimp only at hn127 zf129 ⊢
     dsimp only [Gt_] at hh
     have hn127b := hn127
     have zf129b := zf129.len
     refine TC.know (isSl_nest (q := 1) z zf129) (fun ⟨_, hb164⟩ => ?_)
     refine TC.region (TL.w z (OpVal.succ z z z (by omega)) (TL.i z z (TL.en ?_)))
     obtain ⟨hh, hlt165⟩ := nxt_x hR1 hh
     exact lf (((l120.set (((nth x0.arcs k124 Arc.zero).frm).toNat) ((nth l120 (((nth x0.arcs k124 Arc.zero).frm).toNat) ([] : List Arc)) ++ [(nth x0.arcs k124 Arc.zero)])), (k124 + 1)), z128) hlt165 ⟨hh, hn127, zf129⟩ (Sub.f [1, 1] 2)
   ·refine TC.exit (S.x (S.x ?_))
    replace hh := fin_x hR1 hh
    refine TC.exitHere (S.n (TC.a (TL.op z (makeMapB (enc := (fun x => Value.agg (encFPair x).toArray)) (encV := unitV) z z z (fun b166 => ?_)))))
    refine TL.w z (moveMap (.inr z) z) (TL.en (TC.seq (TC.a (TL.w z (fieldLoc z fo25_1 z) (TL.w z (loadLoc z ag22 z (i := 1) z z) (TL.w z (lenC z underlying22 z) (TL.i z z (TL.en (TC.block (TC.loopG (α := ((FM FPair Unit) × Nat) × (Unit)) (rgs [(11, 1), (55, 12)]) (fun g => [(55, .int .i64 ((g.1.2 : Nat) : Int))]) (fun g => [Res.cells b101 #[.int .i64 x0.states, .slice a0_0 x0.starts.length c0_0, .slice a0_1 x0.ends.length c0_1, .slice a0_2 x0.arcs.length c0_2] 25, Res.nest 23 59 8 encArc (.slice a105 (List.replicate x0.states.toNat ([] : List Arc)).length c106) z122, Res.mapB (fun x => Value.agg (encFPair x).toArray) unitV (some b166) g.1.1]) (fun g => σ) (fun g => iter (fun q : (FM FPair Unit) × Nat => Cl_ x0 x1 l120 q.1 q.2) g.1 = some r ∧ l120.length = (List.replicate x0.states.toNat ([] : List Arc)).length ∧ Zn z122 l120) (fun g => rounds (fun q : (FM FPair Unit) × Nat => Cl_ x0 x1 l120 q.1 q.2) g.1) (((FM.emp : FM FPair Unit), 0), ()) (Sub.f [2, 2] 3) z (by repeat (first | exact trivial | refine ⟨z, ?_⟩)) ⟨hh, hn121, zf123⟩ (fun g2 j2 hg2 => ?_)))))))))))
    obtain ⟨⟨m180, k181⟩, _⟩ := g2
    obtain ⟨hh, hn178, zf179⟩ := hg2
    try dsimp only at hn178 zf179 ⊢
    obtain ⟨z1, hh, hR1⟩ := iter_e hh
    dsimp only [Cl_] at hh
    have hn178b := hn178
    have zf179b := zf179.len
    refine TC.know (isSl_nest (q := 1) z zf179) (fun ⟨_, hb182⟩ => ?_)
    refine TC.a (TL.w z (OpVal.lss z z z) (TL.en (TC.seq (TC.cD z hh (fun h183 hh => ?_) (fun h183 hh => ?_)))))
    ·refine TC.skip (S.n (TC.seq (TC.block (TC.a (TL.w z (indexN z underlying22 sz62 z z f0_0.rv.sl (by omega)) (TL.w z (loadSA Tip.zero z ag62 sz62 z f0_0 (by omega) (by omega)) (TL.op z (OpOk.alloc z ze62 z z (fun b184 => ?_)))))))))
     refine TL.op z (storeAll z sz62 z z z z z z ?_)
     refine TL.en (TC.region (TL.w z (moveMap (.inl z) z) (TL.w z (fieldLoc z fo62_0 z) (TL.w z (loadLoc z ag3 z (i := 0) z z) (TL.w z (fieldLoc z fo62_1 z) (TL.w z (loadLoc z ag9 z (i := 0) z z) (TL.w z (buildL z pl65 ze65 z) (TL.w z (buildL z pl63 ze63 z) (TL.front 3 z z (TL.op z (updB (⟨(nth x0.starts k181 Tip.zero).state, (nth x0.starts k181 Tip.zero).out⟩ : FPair) () z underlying60 z z z z kl65 ?_)))))))))))
     refine TL.nil (B.n (S.n (TC.region (TL.w z (OpVal.succ z z z (by omega)) (TL.i z z (TL.en ?_))))))
     obtain ⟨hh, hlt186⟩ := nxt_x hR1 hh
     exact lf (((m180.put (⟨(nth x0.starts k181 Tip.zero).state, (nth x0.starts k181 Tip.zero).out⟩ : FPair) ()), (k181 + 1)), ()) hlt186 ⟨hh, hn178, zf179⟩ (Sub.f [3, 3] 3)
    ·refine TC.exit (S.x (S.x ?_))
     replace hh := fin_x hR1 hh
     refine TC.exitHere (S.n (TC.seq (TC.a (TL.w z (moveStr (.inl z) z) (TL.w z (lenBs z underlying9 z) (TL.i z z (TL.en (TC.block ?_))))))))
     rw [← hn178]
     refine TC.front 1 z z (TC.seals (fun w h => Reach.sealNest encArc_len zf179 h) (fun τ206 hle205 hr204 => ?_))
     replace f0_1 := f0_1.mono hle205
     have hr204b := hr204.big
     refine TC.loopG (α := ((FM FPair Unit) × Nat) × ((Option Nat) × Store)) (rgs [(4, 2), (9, 1), (12, 3), (69, 16)]) (fun g => [(9, .map g.2.1), (69, .int .i64 ((g.1.2 : Nat) : Int))]) (fun g => [Res.cells b101 #[.int .i64 x0.states, .slice a0_0 x0.starts.length c0_0, .slice a0_1 x0.ends.length c0_1, .slice a0_2 x0.arcs.length c0_2] 25, Res.mapB (fun x => Value.agg (encFPair x).toArray) unitV g.2.1 g.1.1]) (fun g => g.2.2) (fun g => iter (fun q : (FM FPair Unit) × Nat => B4_ x1 l120 x0 q.1 q.2) g.1 = some r ∧ RZ g.2.2 (pkSl 8 encArc encArc_len) (.slice a105 l120.length c106) l120 ∧ Store.le τ206 g.2.2) (fun g => rounds (fun q : (FM FPair Unit) × Nat => B4_ x1 l120 x0 q.1 q.2) g.1) ((m180, 0), ((some b166), τ206)) (Sub.f [1, 1] 2) z (by repeat (first | exact trivial | refine ⟨z, ?_⟩)) ⟨hh, hr204, (Store.le.refl _)⟩ (fun g3 j3 hg3 => ?_)
     obtain ⟨⟨m201, k203⟩, ⟨b202, τ207⟩⟩ := g3
     obtain ⟨hh, hr199, hle208⟩ := hg3
     try dsimp only at hr199
     dsimp only at hle208
     replace f0_1 := f0_1.mono hle208
     try dsimp only
     obtain ⟨z1, hh, hR1⟩ := iter_e hh
     dsimp only [B4_] at hh
     have hr199b := hr199.big
     refine TC.a (TL.w z (OpVal.lss z z z) (TL.en (TC.seq (TC.cD z hh (fun h209 hh => ?_) (fun h209 hh => ?_)))))
     ·refine TC.skip (S.n (TC.seq (TC.block (TC.a (TL.i z z (TL.i z z (TL.en (TC.a (TL.s z z (TL.w z (moveMap (.inl z) z) (TL.w z (moveStr (.inl z) z) (TL.i z z (TL.w z (indexBs z underlying9 z z (by omega)) (TL.front 1 z z ?_))))))))))))))
      obtain ⟨v74, u74, hh⟩ := bnd_e hh
      refine TL.op z (OpOk.call (H8_ hr199 u74) z z pf17 z z z z ?_)
      rintro _ _ _ hle210 ⟨b210_1, rfl, rfl, rfl⟩
      refine TL.w z (moveT (.inl z) z) (TL.w z (OpVal.extract z z z) (TL.w z (OpVal.extract z z z) (TL.w z (moveMap (.inr z) z) (TL.j z z (TL.en (TC.seq (TC.a (TL.j z z (TL.w z (OpVal.not z z) (TL.en (TC.cB z hh (fun h212 hh => ?_) (fun h212 hh => ?_))))))))))))
      ·refine TC.a (TL.s z z (TL.i z z (TL.en (TC.rt 0 (S.r (B.r (S.r (S.r ?_))))))))
       replace hh := fin_x hR1 hh
       refine B.r (S.r ?_)
       obtain rfl := so hh
       exact rq [4, 5] ⟨none, 0, z, (RS.nilF _ Go.E.encS Go.E.encS_len), z⟩
      ·refine TC.skip (S.n (TC.region (TL.w z (moveMap (.inl z) z) (TL.w z (moveMap (.inr z) z) (TL.nil (B.n (S.n (TC.region (TL.w z (OpVal.succ z z z (by omega)) (TL.i z z (TL.en ?_)))))))))))
       obtain ⟨hh, hlt213⟩ := nxt_x hR1 hh
       exact lf ((v74.1, (k203 + 1)), (b210_1, τ207)) hlt213 ⟨hh, hr199, hle208⟩ (Sub.f [1] 2)
     ·refine TC.exit (S.x (S.x ?_))
      replace hh := fin_x hR1 hh
      refine TC.exitHere (S.n (TC.a (TL.w z (fieldLoc z fo25_0 z) (TL.w z (loadLoc z ag3 z (i := 0) z z) ?_))))
      have u90 := grd_c hh
      replace hh := grd_t hh
      refine TL.op rfl (makeN (q := x0.states.toNat) (E := 9) (size := 1) (enc := Go.E.encS) rfl underlying68 sz35 by35 ze35 rfl rfl (by show Value.int _ _ = _; rw [Int.toNat_of_nonneg u90.1]) (by show Value.int _ _ = _; rw [Int.toNat_of_nonneg u90.1]) (by omega) (by decide) rfl (fun a214 c215 zf216 => ?_))
      refine TL.s z z (TL.en (TC.seq (TC.a (TL.w z (fieldLoc z fo25_2 z) (TL.w z (loadLoc z ag22 z (i := 1) z z) (TL.w z (lenC z underlying22 z) (TL.i z z (TL.en (TC.block (TC.loopG (α := ((List (List (List UInt8))) × Nat) × ((List (NP (List UInt8))))) (rgs [(17, 1), (91, 18)]) (fun g => [(91, .int .i64 ((g.1.2 : Nat) : Int))]) (fun g => [Res.mapB (fun x => Value.agg (encFPair x).toArray) unitV b202 m201, Res.nest 35 9 1 Go.E.encS (.slice a214 (List.replicate x0.states.toNat ([] : List (List UInt8))).length c215) g.2]) (fun g => τ207) (fun g => iter (fun q : (List (List (List UInt8))) × Nat => Cf_ x0 m201 q.1 q.2) g.1 = some r ∧ g.1.1.length = (List.replicate x0.states.toNat ([] : List (List UInt8))).length ∧ Zn g.2 g.1.1) (fun g => rounds (fun q : (List (List (List UInt8))) × Nat => Cf_ x0 m201 q.1 q.2) g.1) (((List.replicate x0.states.toNat ([] : List (List UInt8))), 0), (List.replicate x0.states.toNat (nilN : NP (List UInt8)))) (Sub.f [2] 2) z (by repeat (first | exact trivial | refine ⟨z, ?_⟩)) ⟨hh, z, zf216⟩ (fun g4 j4 hg4 => ?_)))))))))))
      obtain ⟨⟨l229, k233⟩, z231⟩ := g4
      obtain ⟨hh, hn230, zf232⟩ := hg4
      try dsimp only at hn230 zf232 ⊢
      obtain ⟨z1, hh, hR1⟩ := iter_e hh
      dsimp only [Cf_] at hh
      have hn230b := hn230
      have zf232b := zf232.len
      refine TC.know (isSl_nest (q := 1) z zf232) (fun ⟨_, hb234⟩ => ?_)
      refine TC.a (TL.w z (OpVal.lss z z z) (TL.en (TC.seq (TC.cD z hh (fun h235 hh => ?_) (fun h235 hh => ?_)))))
      ·refine TC.skip (S.n (TC.cutG (α := (Unit) × ((List (NP (List UInt8))))) (rgs [(17, 1), (93, 15)]) (fun g => []) (fun g => [Res.mapB (fun x => Value.agg (encFPair x).toArray) unitV b202 m201, Res.nest 35 9 1 Go.E.encS (.slice a214 (List.replicate x0.states.toNat ([] : List (List UInt8))).length c215) g.2]) (fun g => τ207) (fun g => Gs_ l229 x0 k233 = some z1 ∧ (l229.set (((nth x0.ends k233 Tip.zero).state).toNat) ((nth l229 (((nth x0.ends k233 Tip.zero).state).toNat) ([] : List (List UInt8))) ++ [(nth x0.ends k233 Tip.zero).out])).length = (List.replicate x0.states.toNat ([] : List (List UInt8))).length ∧ Zn g.2 (l229.set (((nth x0.ends k233 Tip.zero).state).toNat) ((nth l229 (((nth x0.ends k233 Tip.zero).state).toNat) ([] : List (List UInt8))) ++ [(nth x0.ends k233 Tip.zero).out]))) ?_ (fun g j hg => ?_)))
       ·skip
        refine TC.block (TC.a (TL.w z (indexN z underlying22 sz62 z z f0_1.rv.sl (by omega)) (TL.w z (loadSA Tip.zero z ag62 sz62 z f0_1 (by omega) (by omega)) (TL.op z (OpOk.alloc z ze62 z z (fun b239 => ?_))))))
        refine TL.op z (storeAll z sz62 z z z z z z ?_)
        refine TL.en ?_
        have u107 := grd_c hh
        replace hh := grd_t hh
        have u112 := grd_c hh
        replace hh := grd_t hh
        have u113 := grd_c hh
        replace hh := grd_t hh
        refine TC.drawR (Hr := [Res.cells b239 #[.int .i64 ((nth x0.ends k233 Tip.zero).state), .string (bs ((nth x0.ends k233 Tip.zero).out))] 62, Res.mapB (fun x => Value.agg (encFPair x).toArray) unitV b202 m201]) (fun r hr => mem_pick [0, 1] z hr) [] (by kernel_rfl) (TA.a 0 z (moveSl (.inl z) z) z (TA.a 1 z (fieldLoc z fo62_0 z) z (TA.b 2 z (loadLoc z ag3 z (i := 0) z z) z (TA.a 3 z (moveSl (.inl z) z) z (TA.a 4 z (fieldLoc z fo62_0 z) z (TA.b 5 z (loadLoc z ag3 z (i := 0) z z) z (TA.know (isSl_nest (q := 2) z zf232) (fun ⟨hs252, hs252b⟩ => ?_))))))))
        refine TA.b 6 z (OpVal.index z underlying68 sz35 z z hs252 u107.1 u107.2) z (TA.a 8 z (fieldLoc z fo62_1 z) z (TA.b 9 z (loadLoc z ag9 z (i := 0) z z) z ?_))
        obtain ⟨p253, hz253, hm253⟩ := Zn.at zf232 (i := ((nth x0.ends k233 Tip.zero).state).toNat) (by omega)
        refine TA.actN [7, 10] (by kernel_rfl) (an z z (OpVal.ok (loadN z ag35 z (q := 2) z hz253 hm253) z z ⟨(fun w h => sees_of (Store.le.refl _) (fun r hr => mem_pick [0, 1] z hr) w h), ?_⟩) (an z z (OpOk.lit (enc := Go.E.encS) [(nth x0.ends k233 Tip.zero).out] z underlying35 sz9 ze9 z z z Go.E.encS_len (by decide) (by decide) ([] : List UInt8) z (by decide) z (by decide) Go.E.encS_one (fun a254 c255 => ⟨(fun w h => sees_of (Store.le.refl _) (fun r hr => mem_pick [1, 2] z hr) w h), ?_⟩)) (True.intro)))
        ·skip
         refine TA.ac 10 z (OpOk.lit (enc := Go.E.encS) [(nth x0.ends k233 Tip.zero).out] z underlying35 sz9 ze9 z z z Go.E.encS_len (by decide) (by decide) ([] : List UInt8) z (by decide) z (by decide) Go.E.encS_one (fun a257 c258 => ⟨(fun w h => sees_of (Store.le.refl _) (fun r hr => mem_pick [1, 2] z hr) w h), ?_⟩))
         refine TA.front 3 z z (TA.by (fun w h => Reach.takeN hz253 hm253 h) (TA.ac 11 z (appendS z z underlying35 sz9 by9 ze9 z z (by decide) z z z (.inr ⟨_, 1, z⟩) (by simpa using u112) (by decide) (fun a261 c262 => (k3 ?_)))))
         refine TA.know (isSl_nestX (q := 1) z zf232) (fun ⟨hs263, hs263b⟩ => ?_)
         refine TA.b 12 z (OpVal.index z underlying68 sz35 z z hs263 u113.1 u113.2) z (TA.front 1 z z (TA.front 1 z z ?_))
         have hn265 : (l229.set (((nth x0.ends k233 Tip.zero).state).toNat) ((nth l229 (((nth x0.ends k233 Tip.zero).state).toNat) ([] : List (List UInt8))) ++ [(nth x0.ends k233 Tip.zero).out])).length = (List.replicate x0.states.toNat ([] : List (List UInt8))).length := (List.length_set ..).trans hn230
         refine TA.ac 13 rfl (storeX (l' := ((nth l229 (((nth x0.ends k233 Tip.zero).state).toNat) ([] : List (List UInt8))) ++ [(nth x0.ends k233 Tip.zero).out])) rfl sz35 rfl rfl rfl rfl rfl (by rw [zf232.len]; omega) zf232 (fun zf264 => (k2 ?_)))
         exact TA.dn (B.n (S.n (cf ((), (z231.set (((nth x0.ends k233 Tip.zero).state).toNat) (((nth l229 (((nth x0.ends k233 Tip.zero).state).toNat) ([] : List (List UInt8))) ++ [(nth x0.ends k233 Tip.zero).out]), (a261, c262)))) ⟨hh, hn265, zf264⟩ (Sub.f [3] 2))))
        ·skip
         obtain ⟨p266, hz266, hm266⟩ := Zn.at zf232 (i := ((nth x0.ends k233 Tip.zero).state).toNat) (by omega)
         refine TA.ac 7 z (OpVal.ok (loadN z ag35 z (q := 3) z hz266 hm266) z z ⟨(fun w h => sees_of (Store.le.refl _) (fun r hr => mem_pick [1, 2] z hr) w h), ?_⟩)
         refine TA.front 3 z z (TA.by (fun w h => Reach.takeN hz266 hm266 h) (TA.ac 11 z (appendS z z underlying35 sz9 by9 ze9 z z (by decide) z z z (.inr ⟨_, 1, z⟩) (by simpa using u112) (by decide) (fun a268 c269 => (k3 ?_)))))
         refine TA.know (isSl_nestX (q := 1) z zf232) (fun ⟨hs270, hs270b⟩ => ?_)
         refine TA.b 12 z (OpVal.index z underlying68 sz35 z z hs270 u113.1 u113.2) z (TA.front 1 z z (TA.front 1 z z ?_))
         have hn272 : (l229.set (((nth x0.ends k233 Tip.zero).state).toNat) ((nth l229 (((nth x0.ends k233 Tip.zero).state).toNat) ([] : List (List UInt8))) ++ [(nth x0.ends k233 Tip.zero).out])).length = (List.replicate x0.states.toNat ([] : List (List UInt8))).length := (List.length_set ..).trans hn230
         refine TA.ac 13 rfl (storeX (l' := ((nth l229 (((nth x0.ends k233 Tip.zero).state).toNat) ([] : List (List UInt8))) ++ [(nth x0.ends k233 Tip.zero).out])) rfl sz35 rfl rfl rfl rfl rfl (by rw [zf232.len]; omega) zf232 (fun zf271 => (k2 ?_)))
         exact TA.dn (B.n (S.n (cf ((), (z231.set (((nth x0.ends k233 Tip.zero).state).toNat) (((nth l229 (((nth x0.ends k233 Tip.zero).state).toNat) ([] : List (List UInt8))) ++ [(nth x0.ends k233 Tip.zero).out]), (a268, c269)))) ⟨hh, hn272, zf271⟩ (Sub.f [3] 2))))
       ·skip
        obtain ⟨_, z237⟩ := g
        obtain ⟨hh, hn236, zf238⟩ := hg
        try dsimp only at hn236 zf238 ⊢
        dsimp only [Gs_] at hh
        have hn236b := hn236
        have zf238b := zf238.len
        refine TC.know (isSl_nest (q := 1) z zf238) (fun ⟨_, hb273⟩ => ?_)
        refine TC.region (TL.w z (OpVal.succ z z z (by omega)) (TL.i z z (TL.en ?_)))
        obtain ⟨hh, hlt274⟩ := nxt_x hR1 hh
        exact lf (((l229.set (((nth x0.ends k233 Tip.zero).state).toNat) ((nth l229 (((nth x0.ends k233 Tip.zero).state).toNat) ([] : List (List UInt8))) ++ [(nth x0.ends k233 Tip.zero).out])), (k233 + 1)), z237) hlt274 ⟨hh, hn236, zf238⟩ (Sub.f [1, 1] 2)
      ·refine TC.exit (S.x (S.x ?_))
       replace hh := fin_x hR1 hh
       refine TC.exitHere (S.n (TC.a (TL.s z z (TL.en (TC.seq (TC.a (TL.w z (moveMap (.inl z) z) (TL.op z (rangeB z underlying60 z z z (fun it275 l276 hl277 => ?_))))))))))
       refine TL.en (TC.block (TC.nilS 9 1 Go.E.encS (TC.loopG (α := ((List (List UInt8))) × ((Option Addr) × Nat × (List (FPair × Unit)) × (Option (FPair × Unit)))) (rgs [(18, 2), (21, 1), (111, 22)]) (fun g => [(18, .slice g.2.1 g.1.length g.2.2.1)]) (fun g => [Res.nest 35 9 1 Go.E.encS (.slice a214 (List.replicate x0.states.toNat ([] : List (List UInt8))).length c215) z231, Res.rowS 9 1 Go.E.encS (.slice g.2.1 g.1.length g.2.2.1) g.1, Res.rng (fun x => Value.agg (encFPair x).toArray) unitV b202 it275 m201 g.2.2.2.1 g.2.2.2.2]) (fun g => τ207) (fun g => runA (fun (q : (List (List UInt8))) (oE : Option (FPair × Unit)) => Ch_ l229 q oE) g.2.2.2.1 g.1 = some r ∧ l229.length = (List.replicate x0.states.toNat ([] : List (List UInt8))).length ∧ Zn z231 l229) (fun g => List.length g.2.2.2.1) (([] : List (List UInt8)), (none, 0, l276, none)) (Sub.f [1, 1, 2] 3) z (by repeat (first | exact trivial | refine ⟨z, ?_⟩)) ⟨(runA_of hh hl277), hn230, zf232⟩ (fun g5 j5 hg5 => ?_))))
       obtain ⟨l299, ⟨a300, c301, l302, o303⟩⟩ := g5
       obtain ⟨hh, hn296, zf297⟩ := hg5
       try dsimp only at hn296 zf297 ⊢
       have hn296b := hn296
       have zf297b := zf297.len
       refine TC.know (isSl_nest (q := 0) z zf297) (fun ⟨_, hb305⟩ => ?_)
       refine TC.isSl (i := 1) z (fun _ hb306 _ => ?_)
       refine TC.a (TL.front 2 z z (TL.op z (nextB (T := 0) z z z z z (fun hl307 => ?_) (fun l308 v120c l309 hl307 => ?_))))
       ·subst hl307
        obtain ⟨z1, hh, hR1⟩ := runA_end hh
        dsimp only [Ch_, optE_none] at hh
        refine TL.by (fun w h => Reach.unrng h) (TL.w z (OpVal.extract z z z) (TL.en (TC.seq (TC.f z (TC.exit (S.x (S.x ?_)))))))
        replace hh := finE_x hR1 hh
        refine TC.exitHere (S.n (TC.a (TL.s z z (TL.front 2 z z (TL.sealS Go.E.encS_len (fun τ312 hle311 hr310 => ?_))))))
        have hr310b := hr310.rv.big
        obtain ⟨v148, u148, hh⟩ := bnd_e hh
        refine TL.op z (OpOk.call (I5_ hr310 u148) z z pf18 z z z z ?_)
        rintro _ _ _ hle313 ⟨a313_1, c313_1, rfl, rfl, rfl⟩
        refine TL.s z z (TL.i z z (TL.en (TC.sealS Go.E.encS_len (fun τ317 hle316 hr315 => ?_))))
        have hr315b := hr315.rv.big
        refine TC.rt 0 ?_
        obtain rfl := so hh
        exact rq [4, 5] ⟨a313_1, c313_1, z, hr315, z⟩
       ·subst hl307
        obtain ⟨z1, hh, hR1⟩ := runA_step hh
        dsimp only [Ch_, optE_some] at hh
        refine TL.w z (OpVal.extract z z z) (TL.en (TC.seq (TC.t z (TC.skip (S.n (TC.block (TC.a (TL.w z (OpVal.of (entryB z z (i := 0) z) (v' := .tuple #[.agg #[.int .i64 v120c.1.state, .string (bs v120c.1.out)], .agg #[]]) z) (TL.w z (OpVal.extract z z z) (TL.op z (OpOk.alloc z ze65 z z (fun b318 => ?_))))))))))))
        refine TL.op z (storeAll z sz65 z z z z z z ?_)
        refine TL.en (TC.a (TL.s z z (TL.w z (fieldLoc z fo65_0 z) (TL.w z (loadLoc z ag3 z (i := 0) z z) ?_))))
        have u129 := grd_c hh
        replace hh := grd_t hh
        refine TL.know (isSl_nest (q := 2) z zf297) (fun ⟨hs320, hs320b⟩ => ?_)
        refine TL.w z (OpVal.index z underlying68 sz35 z z hs320 u129.1 u129.2) ?_
        obtain ⟨p321, hz321, hm321⟩ := Zn.at zf297 (i := v120c.1.state.toNat) (by omega)
        refine TL.w z (loadN z ag35 z (q := 2) z hz321 hm321) (TL.w z (lenC z underlying35 z) (TL.i z z (TL.en (TC.block (TC.loopG (α := ((List (List UInt8)) × Nat) × ((Option Addr) × Nat)) (rgs [(18, 1), (21, 1), (121, 12)]) (fun g => [(18, .slice g.2.1 g.1.1.length g.2.2), (121, .int .i64 ((g.1.2 : Nat) : Int))]) (fun g => [Res.nest 35 9 1 Go.E.encS (.slice a214 (List.replicate x0.states.toNat ([] : List (List UInt8))).length c215) z231, Res.rowS 9 1 Go.E.encS (.slice g.2.1 g.1.1.length g.2.2) g.1.1, Res.cells b318 #[.int .i64 v120c.1.state, .string (bs v120c.1.out)] 65, Res.rng (fun x => Value.agg (encFPair x).toArray) unitV b202 it275 m201 (l308 ++ l309) (some v120c)]) (fun g => τ207) (fun g => iter (fun q : (List (List UInt8)) × Nat => Ci_ l229 v120c q.1 q.2) g.1 = some z1 ∧ l229.length = (List.replicate x0.states.toNat ([] : List (List UInt8))).length ∧ Zn z231 l229) (fun g => rounds (fun q : (List (List UInt8)) × Nat => Ci_ l229 v120c q.1 q.2) g.1) ((l299, 0), (a300, c301)) (Sub.f [1, 1, 3, 3] 4) z (by repeat (first | exact trivial | refine ⟨z, ?_⟩)) ⟨hh, hn296, zf297⟩ (fun g6 j6 hg6 => ?_))))))
        obtain ⟨⟨l338, k341⟩, ⟨a339, c340⟩⟩ := g6
        obtain ⟨hh, hn336, zf337⟩ := hg6
        try dsimp only at hn336 zf337 ⊢
        obtain ⟨z2, hh, hR2⟩ := iter_e hh
        dsimp only [Ci_] at hh
        have hn336b := hn336
        have zf337b := zf337.len
        refine TC.know (isSl_nest (q := 0) z zf337) (fun ⟨_, hb342⟩ => ?_)
        refine TC.isSl (i := 1) z (fun _ hb343 _ => ?_)
        refine TC.a (TL.w z (OpVal.lss z z z) (TL.en (TC.seq (TC.cD z hh (fun h344 hh => ?_) (fun h344 hh => ?_)))))
        ·refine TC.skip (S.n (TC.seq (TC.block (TC.a (TL.know (isSl_inner (q := 0) z hz321 hm321) (fun ⟨hs345, hs345b⟩ => ?_))))))
         refine TL.w z (indexN z underlying35 sz9 z z hs345 (by omega)) (TL.w z (OpVal.seen (sees_inner (q := 0) z hz321 hm321) (loadO1 ([] : List UInt8) z ag9 z (q := 0) z Go.E.encS_len (by omega) z)) (TL.w z (moveStr (.inr z) z) (TL.en (TC.region (TL.s z z (TL.w z (fieldLoc z fo65_1 z) (TL.w z (loadLoc z ag9 z (i := 2) z z) (TL.w z (moveStr (.inl z) z) ?_))))))))
         have u141 := grd_c hh
         replace hh := grd_t hh
         refine TL.w z (catBs z z z u141) (TL.op z (OpOk.lit (enc := Go.E.encS) [(v120c.1.out ++ (nth (nth l229 v120c.1.state.toNat ([] : List (List UInt8))) k341 ([] : List UInt8)))] z underlying35 sz9 ze9 z z z Go.E.encS_len (by decide) (by decide) ([] : List UInt8) z (by decide) z (by decide) Go.E.encS_one (fun a346 c347 => ?_)))
         refine TL.front 2 z z ?_
         have u143 := grd_c hh
         replace hh := grd_t hh
         refine TL.op z (appendS z z underlying35 sz9 by9 ze9 z z (by decide) z z z (.inr ⟨_, 0, z⟩) (by simpa using u143) (by decide) (fun a349 c350 => ?_))
         refine TL.s z z (TL.nil (B.n (S.n (TC.region (TL.w z (OpVal.succ z z z (by omega)) (TL.i z z (TL.en ?_)))))))
         obtain ⟨hh, hlt351⟩ := nxt_x hR2 hh
         exact lf (((l338 ++ [(v120c.1.out ++ (nth (nth l229 v120c.1.state.toNat ([] : List (List UInt8))) k341 ([] : List UInt8)))]), (k341 + 1)), (a349, c350)) hlt351 ⟨hh, hn336, zf337⟩ (Sub.f [4, 4, 2, 4] 4)
        ·refine TC.exit (S.x (S.x ?_))
         replace hh := fin_x hR2 hh
         refine TC.exitHere (B.n (S.n ?_))
         replace hh := nxtA_x hR1 hh
         exact lf (l338, (a339, c340, (l308 ++ l309), (some v120c))) (by simp) ⟨hh, hn336, zf337⟩ (Sub.f [3, 2, 2] 3)
end Go.Proofs.YtnpbfjdpglfdkaaGreatDoor
end

section
namespace Go.E
open Go
section
variable {α : Type} {σ : Store} {size m c : Nat} {enc : α → List Value} {a : Option Addr} {l : List α}
theorem RS.takeF (h : RS σ size enc (.slice a m c) l) (j : Nat) (hj : j ≤ l.length) : RS σ size enc (.slice a (l.take j).length c) (l.take j) := by
  have hlj : (l.take j).length = j := by rw [List.length_take]; omega
  obtain ⟨a1, c1, hv, hn, hc⟩ := h.rv.sl
  cases hv
  rw [hlj]
  refine ⟨⟨⟨a, c, by rw [hlj], fun ha => ?_, by omega⟩, by rw [flatMap_len h.len], ?_, fun u hu => h.rv.one u (by rw [take_flat h.len] at hu; exact List.mem_of_mem_take hu), by have := h.rv.big; omega⟩, h.len⟩
  · obtain ⟨h1, h2⟩ := hn ha; exact ⟨by omega, h2⟩
  · intro ad m' c' hv i u hi
    cases hv
    rw [take_flat h.len, List.getElem?_take] at hi
    split at hi
    · exact h.rv.cell ad _ c rfl i u hi
    · cases hi
theorem RS.dropF (h : RS σ size enc (.slice a m c) l) (i : Nat) (hi : i ≤ l.length) : RS σ size enc (.slice (if c = i then a else a.map (·.add (i * size))) (l.drop i).length (c - i)) (l.drop i) := by
  have hlj : (l.drop i).length = l.length - i := by rw [List.length_drop]
  obtain ⟨a1, c1, hv, hn, hc⟩ := h.rv.sl
  cases hv
  rw [hlj]
  refine ⟨⟨⟨_, _, by rw [hlj], fun ha => ?_, by omega⟩, by rw [flatMap_len h.len], ?_, fun u hu => h.rv.one u (by rw [drop_flat h.len] at hu; exact List.mem_of_mem_drop hu), by have := h.rv.big; omega⟩, h.len⟩
  · split at ha
    · obtain ⟨h1, h2⟩ := hn ha; omega
    · cases a with
      | none => obtain ⟨h1, h2⟩ := hn rfl; omega
      | some ad => simp at ha
  · intro ad m' c' hv j u hj
    rw [drop_flat h.len, List.getElem?_drop] at hj
    have hjl := (List.getElem?_eq_some_iff.1 hj).1
    rw [flatMap_len h.len] at hjl
    have hil : i < l.length := by
      rcases Nat.lt_or_ge i l.length with h1 | h1
      · exact h1
      · have := Nat.mul_le_mul_right size h1; omega
    have hci : ¬ c = i := by omega
    rw [if_neg hci] at hv
    cases a with
    | none => simp at hv
    | some a0 =>
      simp only [Option.map_some, Value.slice.injEq, Option.some.injEq] at hv
      obtain ⟨rfl, _⟩ := hv
      rw [add_add]
      exact h.rv.cell a0 _ c rfl _ u hj
theorem RS.sub (h : RS σ size enc (.slice a m c) l) (i j : Nat) (hij : i ≤ j ∧ j ≤ l.length) : ∃ (a' : Option Addr) (c' : Nat), RS σ size enc (.slice a' ((l.take j).drop i).length c') ((l.take j).drop i) ∧
    ∀ {P : Program} {n : Nat} {e : Env} {H : List Res} {o : Oper} {x y z : Operand} {T E : TypeId} {k k' : IntKind} (_ : o.op = .slice T x (some z) (some y) none) (_ : P.underlying T = some (.slice E)) (_ : szOf P E = some size) (_ : ev e x = .slice a m c) (_ : ev e z = .int k (i : Nat)) (_ : ev e y = .int k' (j : Nat)), OpVal P n o e σ H (.slice a' ((l.take j).drop i).length c') := by
  have hlj : (l.take j).length = j := by rw [List.length_take]; omega
  have hll : ((l.take j).drop i).length = j - i := by rw [List.length_drop, hlj]
  refine ⟨_, _, (h.takeF j hij.2).dropF i (by omega), ?_⟩
  obtain ⟨a1, c1, hv, hn, hc⟩ := h.rv.sl
  cases hv
  rw [hll]
  intro P n e H o x y z T E k k' ho hT hs hx hz hy w _
  have hsz := run_sizeOf (P := P) hs
  have hrun : (Instr.slice T (.slice a l.length c) (some (.int k i)) (some (.int k' j)) none).run P w = .ok (.slice (if c = i then a else a.map (·.add (i * size))) (j - i) (c - i)) w := by
    simp [Instr.slice, Instr.sliceBounds, Instr.sliceBound, asIntOf, run_underlying hT, hsz]
    rw [if_pos (show j ≤ c by omega), if_pos hij.1]
  simp [execOp, ho, hx, hz, hy, Instr.sliceAt, run_underlying hT, hrun]
end
end Go.E
end

section
namespace Go.E
open Go
theorem OpOk.storeFn {X : Ctx} {e : Env} {σ : Store} {F : List Res} {o : Oper} {x y : Operand} {K : Env → Store → List Res → Prop} {T b k : Nat} {E : TypeId} {cs cs' : Array Value} {f : Fn} {xs ys : Array Value} (ho : o.op = .store T x y) (hs : szOf X.P T = some 1) (hd : o.dst = none) (hx : ev e x = loc b k) (hfit : Nat.ble (k + 1) cs.size = true)
    (hv : ev e y = .func f xs ys) (hcs : (splice cs.toList k [.func f xs ys]).toArray = cs') (kk : K e σ (Res.cells b cs' E :: F)) : OpOk X o e σ (Res.cells b cs E :: F) K := OpOk.store1 ho hs hd hx hv rfl rfl hfit hcs kk
def SC (σ : Store) (b : Nat) (cs : Array Value) (E : TypeId) : Prop := σ b = some (.cells cs E (0, 0))
theorem SC.big {σ : Store} {b : Nat} {cs : Array Value} {E : TypeId} (_ : SC σ b cs E) : True := True.intro
end Go.E
end

section
namespace Go.E
open Go
structure YSpec (S : Type) where
  R : S → Store → Res → Prop
  mono : ∀ {s σ σ' r}, R s σ r → σ.le σ' → R s σ' r
def YR {S : Type} (Z : YSpec S) (s : S) (σ : Store) (r : Res) : Prop := Z.R s σ r
theorem YR.mono {S : Type} {Z : YSpec S} {s : S} {σ σ' : Store} {r : Res} (h : YR Z s σ r) (hle : σ.le σ') : YR Z s σ' r := Z.mono h hle
def YOk (P : Program) (l : Nat) {S α : Type} (A : α → Store → List Value → Prop) (Z : YSpec S) (Y : S → α → Option (S × Bool)) : Prop :=
  ∀ s x σ r args w s' b, Y s x = some (s', b) → A x σ args → YR Z s σ r → Reach w r.bl σ σ w [r] →
    YieldAt (fence none) 0 P l args.toArray w fun e w' => e = .returned (.bool b) ∧ ∃ σ' r', YR Z s' σ' r' ∧ Reach w r.bl σ σ' w' [r']
def IterOk (P : Program) (f : FuncId) (lb : List Value) {S α : Type} (A : α → Store → List Value → Prop) (Y : S → α → Option (S × Bool)) (σ : Store) (Hc : List Res) (s s' : S) (Post : Store → List Res → Prop) : Prop :=
  ∀ (l : Nat) (Z : YSpec S) (r : Res), YOk P l A Z Y → YR Z s σ r →
    Con P f (.func (.yield l) #[] #[] :: lb).toArray σ (r :: Hc) fun _ σ' H' => ∃ r' Hc', H' = r' :: Hc' ∧ YR Z s' σ' r' ∧ Post σ' Hc'
theorem OpOk.callY {X : Ctx} {e : Env} {σ : Store} {H F : List Res} {o : Oper} {x : Operand} {K : Env → Store → List Res → Prop} {l d : Nat} {opds : Array Operand} {ts : Array TypeId} {S α : Type} {A : α → Store → List Value → Prop} {Z : YSpec S} {Y : S → α → Option (S × Bool)} {s : S} {q : S × Bool} {v : α} {r : Res}
    (hY : YOk X.P l A Z Y) (hs : YR Z s σ r) (he : Y s v = some q) (ho : o.op = .call { callee := .value x, args := opds, argTypes := ts })
    (hx : ev e x = .func (.yield l) #[] #[]) (hA : A v σ (opds.toList.map (ev e))) (hd : o.dst = some d) (hn : Nat.blt d X.n = true) (hH : r :: F = H)
    (k : ∀ σ' r', σ.le σ' → YR Z q.1 σ' r' → K (upd e d (.bool q.2)) σ' (r' :: F)) : OpOk X o e σ H K := by
  subst hH
  obtain ⟨s', b⟩ := q
  intro u0 C0 τ0 w a hw ha K' Q hK
  have hbl : blks [r] = r.bl := by simp [blks]
  have hself : Reach w r.bl σ σ w [r] := by
    have := (hw.sub (H' := [r]) (by simp)).self
    rwa [hbl] at this
  obtain ⟨fn, tmps, assign, body, hrun, hround⟩ := hY s v σ r _ w s' b he hA hs hself
  have hr : (execOp a.eval o).run X.P w = .ok (.round l fn tmps assign body) w := by
    rw [ha.eval']
    have hl : (opds.toList.map (ev e)).toArray = opds.map (ev e) := by apply Array.ext'; simp
    rw [hl] at hrun
    simp [execOp, ho, resolve, hx, Deferred.ofValue, invoke, hrun]
  refine Oper.wp_run hr (fun _ => by simp) ?_
  rw [Oper.uponIn_round]
  refine ⟨fun h => (by cases h), RoundIn.mono (R := fun e w' => e = .returned (.bool b) ∧ ∃ σ' r', YR Z s' σ' r' ∧ Reach w r.bl σ σ' w' [r']) hround ?_⟩
  rintro ex w' ⟨rfl, σ', r', h1, h2⟩
  refine hK _ _ _ _ _ (k σ' r' h2.le h1) (Reach.call (H1 := [r]) (H1' := [r']) hw (by rw [hbl]; exact h2)) (put_dst ha hd hn _)
def Res.lrec (b : Nat) (o : Obj) : Res := ⟨[b], fun w => w.heap[b]? = some o, fun w k hk h => by simp at hk; subst hk; exact (Array.getElem?_eq_some_iff.1 h).1, fun w w' hb h => by rw [hb b (by simp)]; exact h⟩
theorem Reach.turnRec {w0 : World} {C : List Nat} {σ0 σ : Store} {w : World} {l : Nat} {o o' : Obj} {F : List Res} (h : Reach w0 C σ0 σ w (Res.lrec l o :: F)) : Reach w0 C σ0 σ (w.putObj l o') (Res.lrec l o' :: F) := by
  have hl : w.heap[l]? = some o := h.holds _ (List.mem_cons_self ..)
  refine h.turn rfl rfl rfl (by simp [World.putObj]) (Nat.le_refl _) (fun k _ hk => World.putObj_heap_other (fun e => hk (by simp [Res.lrec, e]))) (World.putObj_heap_same (Array.getElem?_eq_some_iff.1 hl).1) (fun b hb => .inl hb) (by simp [Res.lrec])
theorem Reach.tail {w0 : World} {C : List Nat} {σ0 σ : Store} {w : World} {r : Res} {F : List Res} (h : Reach w0 C σ0 σ w (r :: F)) : Reach w (blks F) σ σ w F := (h.sub (List.sublist_cons_self ..)).self
theorem Reach.callT {w0 : World} {C : List Nat} {σ0 σ σ' : Store} {w w' : World} {r : Res} {F F' : List Res} (h : Reach w0 C σ0 σ w (r :: F)) (k : Reach w (blks F) σ σ' w' F') : Reach w0 C σ0 σ' w' (r :: F') := by
  have h1 : Reach w0 C σ0 σ w (F ++ [r]) := h.perm (List.perm_append_singleton r F)
  exact (h1.call k).perm (List.perm_append_singleton r F').symm
def bindE (e : Env) (ps : List Tmp) (vs : List Value) : Env := (ps.zip vs).foldl (fun e p => upd e p.1 p.2) e
theorem St.binds {n : Nat} : ∀ (ps : List Tmp) (vs : List Value) {e : Env} {t : Array Value}, (∀ p ∈ ps, p < n) → St n e { tmps := t, defers := [] } → St n (bindE e ps vs) { tmps := (ps.zip vs).foldl (fun t p => t.setIfInBounds p.1 p.2) t, defers := [] }
  | [], _, _, _, _, h => h
  | _ :: _, [], _, _, _, h => h
  | p :: ps, v :: vs, e, t, hp, h => by
    have h1 := h.put (hp p (List.mem_cons_self ..)) v
    exact St.binds ps vs (fun q hq => hp q (List.mem_cons_of_mem _ hq)) h1
@[reducible] def asgQ (K : Env → Store → List Res → Prop) : QP := fun ex => match ex with
  | .normal => K
  | _ => fun _ _ _ => False
@[reducible] def rndQ (J : List Code) (K : Nat → Store → List Res → Prop) : QP := fun ex _ σ H => match ex with
  | .normal => K 0 σ H
  | .ret => ∃ j, J[j]? = some .ret ∧ K (j + 1) σ H
  | .exit i => ∃ j, J[j]? = some (.exit i) ∧ K (j + 1) σ H
  | .goto i => ∃ j, J[j]? = some (.goto i) ∧ K (j + 1) σ H
  | _ => False
def stepY {S α : Type} (B : S → α → Option (Nat × S)) (p : Nat × S) (x : α) : Option ((Nat × S) × Bool) :=
  if p.1 = 0 then (B p.2 x).bind fun q => some (q, q.1 == 0) else none
theorem stepY_some {S α : Type} {B : S → α → Option (Nat × S)} {p p' : Nat × S} {x : α} {b : Bool} (h : stepY B p x = some (p', b)) : p.1 = 0 ∧ B p.2 x = some p' ∧ b = (p'.1 == 0) := by
  unfold stepY at h
  split at h
  · rename_i h0
    cases hb : B p.2 x with
    | none => simp [hb] at h
    | some q => simp [hb] at h; exact ⟨h0, by rw [h.1], by rw [← h.2, h.1]⟩
  · cases h
abbrev mkRec (fn : FuncId) (tmps : Array Value) (ps : Array Tmp) (assign body : Code) (D : Nat) (st : LoopState) (pe : Option Code) : Loop := { state := st, pending := pe, fn, tmps, params := ps, assign, body, defers := D }
def recOf (rec : LoopState → Option Code → Loop) (J : List Code) (j : Nat) : Obj := .loop (if j = 0 then rec .ready none else rec .done (J[j - 1]?))
def rndZ {S : Type} (l : Nat) (rec : LoopState → Option Code → Loop) (J : List Code) (σs : Store) (G : S → Store → List Res → Prop) (hG : ∀ {s σ σ' H}, G s σ H → σ.le σ' → G s σ' H) : YSpec (Nat × S) where
  R p σ r := ∃ Hs, r = Res.star (Res.lrec l (recOf rec J p.1) :: Hs) ∧ G p.2 σ Hs ∧ σs.le σ ∧ (p.1 ≠ 0 → ∃ c, J[p.1 - 1]? = some c)
  mono := fun ⟨Hs, h1, h2, h3, h4⟩ hle => ⟨Hs, h1, hG h2 hle, h3.trans hle, h4⟩
theorem rec_far {w0 : World} {C : List Nat} {σ0 σ : Store} {w : World} {l : Nat} {o : Obj} {F : List Res} (h : Reach w0 C σ0 σ w (Res.lrec l o :: F)) : l ∉ blks F ∧ σ l = none := by
  have hn := h.nodup
  simp only [blks, List.flatMap_cons, Res.lrec, List.cons_append, List.nil_append, List.nodup_cons] at hn
  exact ⟨hn.1, h.apart _ (List.mem_cons_self ..) l (by simp [Res.lrec])⟩
theorem yOk_of {P : Program} {n l : Nat} {S α : Type} {A : α → Store → List Value → Prop} {J : List Code} {B : S → α → Option (Nat × S)} {σs : Store} {G : S → Store → List Res → Prop} {hG : ∀ {s σ σ' H}, G s σ H → σ.le σ' → G s σ' H} {fn : FuncId} {ps : Array Tmp} {assign body : Code} {e : Env} {tmps : Array Value} {D : Nat}
    (hst : St n e { tmps := tmps, defers := [] }) (hps : ∀ p ∈ ps.toList, p < n) (hA : ∀ x σ vs, A x σ vs → vs.length = ps.size)
    (hbody : ∀ (w0 : World) (C : List Nat) (τ σ : Store) (s : S) (x : α) (q : Nat × S) (vs : List Value) (Hs : List Res), B s x = some q → σs.le σ → A x σ vs → G s σ Hs →
      TC ⟨P, w0, C, τ, n, some l, none⟩ (asgQ fun e σ H => ∀ w0 C τ, TC ⟨P, w0, C, τ, n, some l, none⟩ (rndQ J fun j σ H => q.1 = j ∧ G q.2 σ H) body e σ H) assign (bindE e ps.toList vs) σ Hs) :
    YOk P l A (rndZ l (mkRec fn tmps ps assign body D) J σs G hG) (stepY B) := by
  rintro p x σ r args w p' b hy hax ⟨Hs, rfl, hg, hle, -⟩ hw
  obtain ⟨hp0, hB, rfl⟩ := stepY_some hy
  rw [hp0] at hw
  have hw1 : Reach w (Res.star (Res.lrec l (recOf (mkRec fn tmps ps assign body D) J 0) :: Hs)).bl σ σ w (Res.lrec l (.loop (mkRec fn tmps ps assign body D .ready none)) :: Hs) := by
    have := hw.unstar
    rw [List.append_nil] at this
    exact this
  have hlen := hA x σ args hax
  have hl1 : w.heap[l]? = some (.loop (mkRec fn tmps ps assign body D .ready none)) := hw1.holds _ (List.mem_cons_self ..)
  have hy := run_yield (P := P) (args := args.toArray) hl1 (by simpa using hlen)
  refine ⟨fn, _, assign, body, hy, roundIn_of_wpIn trivial ?_⟩
  have hz : (ps.zip args.toArray).foldl (fun t (p, v) => t.setIfInBounds p v) tmps = (ps.toList.zip args).foldl (fun t p => t.setIfInBounds p.1 p.2) tmps := by
    rw [← Array.foldl_toList, Array.toList_zip]
  have hS : St n (bindE e ps.toList args) { tmps := (ps.zip args.toArray).foldl (fun t (p, v) => t.setIfInBounds p v) tmps, defers := [] } := by
    rw [hz]; exact St.binds _ _ hps hst
  refine wpIn_mono (hbody w (blks Hs) σ σ p.2 x p' args Hs hB hle hax hg w _ ⟨hw1.tail, ⟨fun _ => ⟨[], rfl, List.nodup_nil, by simp⟩, (fun _ h => by cases h), fun l' hl' => ?_⟩⟩ hS) ?_
  · cases hl'; exact ⟨rfl, ⟨_, hl1⟩, (rec_far hw1).1, (rec_far hw1).2⟩
  rintro ex a2 w2 ⟨e2, σ2, H2, hS2, hw2, hq2⟩
  cases ex with
  | normal =>
    have hw2' := hw1.callT hw2.toReach
    have hl2 : w2.heap[l]? = some (.loop (mkRec fn tmps ps assign body D .ready none)) := hw2'.holds _ (List.mem_cons_self ..)
    have hw3 := hw2'.turnRec (o' := .loop (mkRec fn tmps ps assign body D .busy none))
    have hl3 : (w2.putObj l (.loop (mkRec fn tmps ps assign body D .busy none))).heap[l]? = some (.loop (mkRec fn tmps ps assign body D .busy none)) := hw3.holds _ (List.mem_cons_self ..)
    have hd2 : a2.defers = [] := (hw2.marks.rc l rfl).1
    refine ⟨_, run_beginRound hl2 rfl, ?_⟩
    refine wpIn_mono (hq2 _ (blks H2) σ2 _ a2 ⟨hw3.tail, ⟨fun _ => ⟨[], by rw [hd2]; rfl, List.nodup_nil, by simp⟩, (fun _ h => by cases h), fun l' hl' => ?_⟩⟩ hS2) ?_
    · cases hl'; exact ⟨hd2, ⟨_, hl3⟩, (rec_far hw3).1, (rec_far hw3).2⟩
    rintro ex a4 w4 ⟨e4, σ4, H4, hS4, hw4, hq4⟩
    have hw4' := hw3.callT hw4.toReach
    have hl4 : w4.heap[l]? = some (.loop (mkRec fn tmps ps assign body D .busy none)) := hw4'.holds _ (List.mem_cons_self ..)
    have fin : ∀ (jump : Option Code) (j : Nat), p'.1 = j → (j = 0 → jump = none) → (j ≠ 0 → jump = J[j - 1]? ∧ ∃ c, jump = some c) → G p'.2 σ4 H4 → ∃ v w', (Instr.endRound l jump).run P w4 = .ok v w' ∧ (Ending.returned v = .returned (.bool (p'.1 == 0)) ∧ ∃ σ' r', YR (rndZ l (mkRec fn tmps ps assign body D) J σs G hG) p' σ' r' ∧ Reach w (Res.star (Res.lrec l (recOf (mkRec fn tmps ps assign body D) J p.1) :: Hs)).bl σ σ' w' [r']) := fun jump j h1 h2 h3 h4 => by
      have h6 : Obj.loop (mkRec fn tmps ps assign body D (if jump.isNone then .ready else .done) jump) = recOf (mkRec fn tmps ps assign body D) J p'.1 := by
        unfold recOf
        rw [h1]
        by_cases h0 : j = 0
        · rw [if_pos h0, h2 h0]; rfl
        · obtain ⟨h7, c, h8⟩ := h3 h0
          rw [if_neg h0, ← h7, h8]; rfl
      refine ⟨_, _, run_endRound jump hl4, ?_, σ4, Res.star (Res.lrec l (recOf (mkRec fn tmps ps assign body D) J p'.1) :: H4), ⟨H4, rfl, h4, hle.trans hw4'.le, fun h => ?_⟩, ?_⟩
      · rw [h1]
        by_cases h0 : j = 0
        · rw [h2 h0, h0]; rfl
        · obtain ⟨_, c, hc⟩ := h3 h0
          rw [hc]; simp [h0]
      · rw [h1] at h ⊢
        obtain ⟨h5, c, h6⟩ := h3 h
        exact ⟨c, by rw [← h5, h6]⟩
      · have h5 := hw4'.turnRec (o' := .loop (mkRec fn tmps ps assign body D (if jump.isNone then .ready else .done) jump))
        show Reach w _ σ σ4 (w4.putObj l (.loop (mkRec fn tmps ps assign body D (if jump.isNone then .ready else .done) jump))) _
        rw [h6] at h5 ⊢
        rw [hp0]
        exact Reach.star (G := Res.lrec l (recOf (mkRec fn tmps ps assign body D) J p'.1) :: H4) (F := []) (by rw [List.append_nil]; exact h5)
    cases ex with
    | normal => exact fin none 0 hq4.1 (fun _ => rfl) (fun h => absurd rfl h) hq4.2
    | ret => obtain ⟨j, hj, h1, h2⟩ := hq4; exact fin (some .ret) (j + 1) h1 (fun h => by cases h) (fun _ => ⟨by simpa using hj.symm, _, rfl⟩) h2
    | exit i => obtain ⟨j, hj, h1, h2⟩ := hq4; exact fin (some (.exit i)) (j + 1) h1 (fun h => by cases h) (fun _ => ⟨by simpa using hj.symm, _, rfl⟩) h2
    | goto i => obtain ⟨j, hj, h1, h2⟩ := hq4; exact fin (some (.goto i)) (j + 1) h1 (fun h => by cases h) (fun _ => ⟨by simpa using hj.symm, _, rfl⟩) h2
    | panic c => exact hq4.elim
    | outgrown => exact hq4.elim
  | exit i => exact hq2.elim
  | goto i => exact hq2.elim
  | ret => exact hq2.elim
  | panic c => exact hq2.elim
  | outgrown => exact hq2.elim
@[reducible] def jmpQ (X : Ctx) (Q : QP) (J : List Code) : Nat → Env → Store → List Res → Prop
  | 0 => Q .normal
  | j + 1 => fun e σ H => ∀ c, J[j]? = some c → TC X Q c e σ H
theorem TC.rangeFunc {X : Ctx} {Q : QP} {e : Env} {σ : Store} {H Hs Hc : List Res} {S α : Type} {g : Operand} {ps : Array Tmp} {assign body : Code} {f : Nat} {lb : List Value} {A : α → Store → List Value → Prop}
    (J : List Code) (B : S → α → Option (Nat × S)) (G : S → Store → List Res → Prop) {s : S} {q : Nat × S} {PostC : Store → List Res → Prop}
    (hg : ev e g = .func (.func f) #[] lb.toArray) (hp : plainF X.P f = true) (hH : Hs ++ Hc = H) (hps : ps.toList.all (fun p => Nat.blt p X.n) = true)
    (hG : ∀ {s σ σ' H}, G s σ H → σ.le σ' → G s σ' H) (h0 : G s σ Hs) (hA : ∀ x σ vs, A x σ vs → vs.length = ps.size)
    (hit : IterOk X.P f lb A (stepY B) σ Hc (0, s) q PostC)
    (hbody : ∀ (l : Nat) (w0 : World) (C : List Nat) (τ σ' : Store) (s : S) (x : α) (q : Nat × S) (vs : List Value) (Hs : List Res), B s x = some q → σ.le σ' → A x σ' vs → G s σ' Hs →
      TC ⟨X.P, w0, C, τ, X.n, some l, none⟩ (asgQ fun e σ H => ∀ w0 C τ, TC ⟨X.P, w0, C, τ, X.n, some l, none⟩ (rndQ J fun j σ H => q.1 = j ∧ G q.2 σ H) body e σ H) assign (bindE e ps.toList vs) σ' Hs)
    (hdone : ∀ σ' Hs' Hc', σ.le σ' → G q.2 σ' Hs' → PostC σ' Hc' → jmpQ X Q J q.1 e σ' (Hs' ++ Hc')) (hown : X.own = none := by rfl) : TC X Q (.rangeFunc g ps assign body) e σ H := by
  subst hH
  intro w a hw ha
  have hps' : ∀ p ∈ ps.toList, p < X.n := fun p hp => by
    have := List.all_eq_true.1 hps p hp
    simpa [Nat.blt_eq] using this
  refine wpIn_rangeFunc fun fn _ => ?_
  have key : ∀ (l D : Nat) (w1 : World) (a1 : Act), a1.tmps = a.tmps → RM X a1 σ w1 (Res.lrec l (.loop (mkRec fn a.tmps ps assign body D .ready none)) :: (Hs ++ Hc)) →
      CallsIn (fence X.rnd) 0 X.P f (#[.func (.yield l) #[] #[]] ++ lb.toArray) w1 (rangePost (fence X.rnd) 0 X.P l (low X Q) a1) := by
    intro l D w1 a1 ht hw1
    have hcon := hit l (rndZ l (mkRec fn a.tmps ps assign body D) J σ G hG) (Res.star (Res.lrec l (recOf (mkRec fn a.tmps ps assign body D) J 0) :: Hs))
      (yOk_of ⟨ha.size, ha.get⟩ hps' hA (hbody l)) ⟨Hs, rfl, h0, Store.le.refl _, fun h => absurd rfl h⟩
    have hst : RM X a1 σ w1 (Res.star (Res.lrec l (recOf (mkRec fn a.tmps ps assign body D) J 0) :: Hs) :: Hc) := hw1.by fun _ k => Reach.star (G := Res.lrec l (recOf (mkRec fn a.tmps ps assign body D) J 0) :: Hs) (F := Hc) k
    have hcall := hcon w1 hst.self
    have hargs : (Value.func (.yield l) #[] #[] :: lb).toArray = #[.func (.yield l) #[] #[]] ++ lb.toArray := by apply Array.ext'; simp
    rw [hargs] at hcall
    refine calls_fence.2 (hcall.mono ?_)
    rintro ex w2 ⟨v, σ2, H2, rfl, ⟨r', Hc', rfl, ⟨Hs', rfl, hg2, hle, hJ⟩, hpc⟩, hw2⟩
    have hw3 : RM X a1 σ2 w2 (Res.lrec l (recOf (mkRec fn a.tmps ps assign body D) J q.1) :: (Hs' ++ Hc')) := (hst.step hw2 rfl).by fun _ k => k.unstar
    have hl : w2.heap[l]? = some (recOf (mkRec fn a.tmps ps assign body D) J q.1) := hw3.holds _ (List.mem_cons_self ..)
    have hS1 : St X.n e a1 := ⟨by rw [ht]; exact ha.size, fun t => by rw [ht]; exact ha.get t⟩
    have hw5 : ∀ o', RM X a1 σ2 (w2.putObj l o') (Hs' ++ Hc') := fun o' => hw3.step ((hw3.self.turnRec (o' := o')).sub (List.sublist_cons_self ..)) rfl
    have hfin := hdone σ2 Hs' Hc' hle hg2 hpc
    unfold recOf at hl
    cases hq : q.1 with
    | zero =>
      rw [hq] at hl hfin
      exact ⟨none, _, run_endLoop hl (by simp), e, σ2, _, hS1, hw5 _, hfin⟩
    | succ j =>
      rw [hq] at hl hfin hJ
      obtain ⟨c, hc⟩ := hJ (by simp)
      simp only [Nat.add_sub_cancel, Nat.succ_ne_zero, if_false] at hl hc
      rw [hc] at hl
      exact ⟨some c, _, run_endLoop hl (by simp), hfin c hc _ a1 (hw5 _) hS1⟩
  have hnew : ∀ k, k < w.heap.size ∨ True := fun _ => .inr trivial
  have hres : ∀ l w1, (resolve a.eval (rangeCall g l) 0).run X.P w1 = .ok { target := .fn (.func f) lb.toArray, args := #[.func (.yield l) #[] #[]] } w1 := fun l w1 => by
    rw [ha.eval']
    simp only [resolve, hg]
    simp [go_sem, Deferred.ofValue, ev]
  have hinv : ∀ l w1, (invoke (.fn (.func f) lb.toArray) #[.func (.yield l) #[] #[]]).run X.P w1 = .ok (.enter f (#[.func (.yield l) #[] #[]] ++ lb.toArray)) w1 := fun l w1 => by
    simp [invoke, run_callFunc hp]
  cases hr : X.rnd with
  | none =>
    refine ⟨w.heap.size + 1, _, _, _, _, f, _, _, run_enterLoop_outer _ _ _ _ _, hres _ _, fun _ _ => trivial, hinv _ _, (fun h => by cases h), hr ▸ key (w.heap.size + 1) w.heap.size _ _ rfl ?_⟩
    have hsz : ((w.alloc (.deferred (some []))).heap.size) = w.heap.size + 1 := by simp
    have hold : ∀ k, k < w.heap.size → ((w.alloc (.deferred (some []))).alloc (.loop (mkRec fn a.tmps ps assign body w.heap.size .ready none))).heap[k]? = w.heap[k]? := fun k hk => by
      rw [alloc_old _ _ _ (by omega), alloc_old _ _ _ hk]
    have hR : Reach w (blks (Hs ++ Hc)) σ σ ((w.alloc (.deferred (some []))).alloc (.loop (mkRec fn a.tmps ps assign body w.heap.size .ready none))) (Res.lrec (w.heap.size + 1) (.loop (mkRec fn a.tmps ps assign body w.heap.size .ready none)) :: (Hs ++ Hc)) :=
      hw.self.gain rfl rfl rfl (by simp; omega) (Nat.le_refl _) hold (by
        have := World.alloc_heap_new (w.alloc (.deferred (some []))) (.loop (mkRec fn a.tmps ps assign body w.heap.size .ready none))
        rw [hsz] at this; exact this) (fun b hb => by simp [Res.lrec] at hb; omega) (by simp [Res.lrec])
    have h1 := hw.step hR (a' := a) rfl
    refine ⟨h1.toReach, ⟨fun _ => ?_, (fun _ h => by rw [hown] at h; cases h), fun l hl => by rw [hr] at hl; cases hl⟩⟩
    obtain ⟨Ds, g1, g2, g3⟩ := h1.marks.ex hown
    obtain ⟨Ds0, g10, g20, g30⟩ := hw.marks.ex hown
    have hDs : Ds = Ds0 := by
      have := g1.symm.trans g10
      have h2 : ∀ (A B : List Nat), A.map (fun D => ({ target := .collected D, args := #[] } : Deferred)) = B.map (fun D => ({ target := .collected D, args := #[] } : Deferred)) → A = B := fun A => by
        induction A with
        | nil => intro B h; cases B with
          | nil => rfl
          | cons b B => simp at h
        | cons a A ih => intro B h; cases B with
          | nil => simp at h
          | cons b B => simp only [List.map_cons, List.cons.injEq, Deferred.mk.injEq, Target.collected.injEq, and_true] at h; rw [h.1, ih B h.2]
      exact h2 _ _ this
    subst hDs
    refine ⟨w.heap.size :: Ds, by simp [g1], List.nodup_cons.2 ⟨fun hx => ?_, g2⟩, fun D hD => ?_⟩
    · have := (Array.getElem?_eq_some_iff.1 (g30 _ hx).1).1; omega
    · rcases List.mem_cons.1 hD with rfl | hD
      · refine ⟨?_, hw.size, fun hx => ?_, ?_⟩
        · rw [alloc_old _ _ _ (by omega)]; exact World.alloc_heap_new w _
        · simp only [blks, List.flatMap_cons, Res.lrec, List.cons_append, List.nil_append, List.mem_cons] at hx
          rcases hx with hx | hx
          · omega
          · obtain ⟨r, hr', hb⟩ := mem_blks.1 hx
            have := hw.block_lt hr' hb; omega
        · cases hs : σ w.heap.size with
          | none => rfl
          | some o => have := (Array.getElem?_eq_some_iff.1 (hw.fit _ _ hs)).1; omega
      · exact g3 D hD
  | some l0 =>
    obtain ⟨hd0, ⟨r0, h1⟩, h2, h3⟩ := hw.marks.rc l0 hr
    refine ⟨w.heap.size, _, _, _, _, f, _, _, run_enterLoop_inner h1 _ _ _ _ _, hres _ _, fun _ _ => trivial, hinv _ _, (fun h => by cases h), hr ▸ key w.heap.size r0.defers _ a rfl ?_⟩
    refine hw.step (hw.self.gain rfl rfl rfl (by simp) (Nat.le_refl _) (fun k hk => alloc_old _ _ _ hk) (World.alloc_heap_new w _) (fun b hb => by simp [Res.lrec] at hb; omega) (by simp [Res.lrec])) rfl
end Go.E
end

section
namespace Go.E
open Go
theorem TC.rangeG {X : Ctx} {Q : QP} {e : Env} {σ : Store} {H Hs Hc : List Res} {S α : Type} {g : Operand} {ps : Array Tmp} {assign body : Code} {f : Nat} {lb : List Value} {A : α → Store → List Value → Prop}
    (J : List Code) (B : S → α → Option (Nat × S)) (G : S → Store → List Res → Prop) {s : S} {q : Nat × S} {PostC : Store → List Res → Prop}
    (hg : ev e g = .func (.func f) #[] lb.toArray) (hp : plainF X.P f = true) (hH : Hs ++ Hc = H) (hps : ps.toList.all (fun p => Nat.blt p X.n) = true)
    (hG : ∀ {s σ σ' H}, G s σ H → σ.le σ' → G s σ' H) (h0 : G s σ Hs) (hA : ∀ x σ vs, A x σ vs → vs.length = ps.size)
    (hit : IterOk X.P f lb A (stepY B) σ Hc (0, s) q PostC)
    (hbody : ∀ (l : Nat) (w0 : World) (C : List Nat) (τ σ' : Store) (s : S) (x : α) (q : Nat × S) (vs : List Value) (Hs : List Res), B s x = some q → σ.le σ' → A x σ' vs → G s σ' Hs →
      TC ⟨X.P, w0, C, τ, X.n, some l, none⟩ (asgQ fun e σ H => ∀ w0 C τ, TC ⟨X.P, w0, C, τ, X.n, some l, none⟩ (rndQ J fun j σ H => q.1 = j ∧ ∃ F, Sub F H ∧ G q.2 σ F) body e σ H) assign (bindE e ps.toList vs) σ' Hs)
    (hdone : ∀ σ' Hs' Hc', σ.le σ' → G q.2 σ' Hs' → PostC σ' Hc' → jmpQ X Q J q.1 e σ' (Hs' ++ Hc')) (hown : X.own = none := by rfl) : TC X Q (.rangeFunc g ps assign body) e σ H := by
  refine TC.rangeFunc J B G hg hp hH hps hG h0 hA hit (fun l w0 C τ σ' s x q vs Hs h1 h2 h3 h4 => (hbody l w0 C τ σ' s x q vs Hs h1 h2 h3 h4).weak fun ex e σ H h => ?_) hdone hown
  cases ex with
  | normal =>
    refine fun w0 C τ => TC.weakR ((h w0 C τ).weak fun ex e σ H h => ?_)
    cases ex with
    | normal => obtain ⟨h1, F, hs, hg⟩ := h; exact ⟨F, hs, h1, hg⟩
    | ret => obtain ⟨j, hj, h1, F, hs, hg⟩ := h; exact ⟨F, hs, j, hj, h1, hg⟩
    | exit i => obtain ⟨j, hj, h1, F, hs, hg⟩ := h; exact ⟨F, hs, j, hj, h1, hg⟩
    | goto i => obtain ⟨j, hj, h1, F, hs, hg⟩ := h; exact ⟨F, hs, j, hj, h1, hg⟩
    | panic c => exact h.elim
    | outgrown => exact h.elim
  | exit i => exact h
  | goto i => exact h
  | ret => exact h
  | panic c => exact h
  | outgrown => exact h
theorem asg_n {K : Env → Store → List Res → Prop} {e : Env} {σ : Store} {H : List Res} (h : K e σ H) : asgQ K .normal e σ H := h
theorem rnd_n {J : List Code} {K : Nat → Store → List Res → Prop} {e : Env} {σ : Store} {H : List Res} (h : K 0 σ H) : rndQ J K .normal e σ H := h
theorem rnd_r {J : List Code} {K : Nat → Store → List Res → Prop} {e : Env} {σ : Store} {H : List Res} (j : Nat) (hj : J[j]? = some .ret) (h : K (j + 1) σ H) : rndQ J K .ret e σ H := ⟨j, hj, h⟩
def jsel {α : Type} : Nat → Option α → (Nat → Option α) → Option α
  | 0, a, _ => a
  | n + 1, _, b => b n
theorem jmp_split {X : Ctx} {Q : QP} {J : List Code} {n : Nat} {e : Env} {σ : Store} {H : List Res} {α : Type} {a : Option α} {b : Nat → Option α} {r : α} (hh : jsel n a b = some r)
    (h0 : a = some r → Q .normal e σ H) (h1 : ∀ m c, b m = some r → J[m]? = some c → TC X Q c e σ H) : jmpQ X Q J n e σ H := by
  cases n with
  | zero => exact h0 hh
  | succ m => exact fun c hc => h1 m c hh hc
theorem jl_split {X : Ctx} {Q : QP} {J : List Code} {c0 c : Code} {m : Nat} {e : Env} {σ : Store} {H : List Res} {α : Type} {a : Option α} {b : Nat → Option α} {r : α} (hh : jsel m a b = some r) (hc : (c0 :: J)[m]? = some c)
    (h0 : a = some r → TC X Q c0 e σ H) (h1 : ∀ m, b m = some r → J[m]? = some c → TC X Q c e σ H) : TC X Q c e σ H := by
  cases m with
  | zero => simp at hc; subst hc; exact h0 hh
  | succ m => exact h1 m hh (by simpa using hc)
theorem jl_nil {X : Ctx} {Q : QP} {c : Code} {m : Nat} {e : Env} {σ : Store} {H : List Res} (hc : ([] : List Code)[m]? = some c) : TC X Q c e σ H := by simp at hc
end Go.E
end

section
namespace Go.Proofs.YtnpbfjdpglfdkaaGreatDoor
open Go Go.E Go.E.OpVal Go.E.OpOk Go.Proofs.Tryz
private theorem ag170 : Go.E.aggOf Tryz.prog 170 = some false := by kernel_rfl
private theorem ag28 : Go.E.aggOf Tryz.prog 28 = some false := by kernel_rfl
private theorem ag29 : Go.E.aggOf Tryz.prog 29 = some false := by kernel_rfl
private theorem ag4 : Go.E.aggOf Tryz.prog 4 = some false := by kernel_rfl
private theorem by27 : Go.E.byOf Tryz.prog 27 = some 24 := by kernel_rfl
private theorem by4 : Go.E.byOf Tryz.prog 4 = some 1 := by kernel_rfl
private theorem fo59_3 : Go.E.foOf Tryz.prog 59 3 = some 6 := by kernel_rfl
private theorem fo59_4 : Go.E.foOf Tryz.prog 59 4 = some 7 := by kernel_rfl
private theorem pf103 : Go.E.plainF Tryz.prog 103 = true := by kernel_rfl
private theorem pf48 : Go.E.plainF Tryz.prog 48 = true := by kernel_rfl
private theorem pf49 : Go.E.plainF Tryz.prog 49 = true := by kernel_rfl
private theorem pf80 : Go.E.plainF Tryz.prog 80 = true := by kernel_rfl
private theorem pf81 : Go.E.plainF Tryz.prog 81 = true := by kernel_rfl
private theorem pl59 : Go.E.plOf Tryz.prog 59 = some #[(0, 1), (1, 1), (2, 4), (6, 1), (7, 1)] := by kernel_rfl
private theorem pl62 : Go.E.plOf Tryz.prog 62 = some #[(0, 1), (1, 1)] := by kernel_rfl
private theorem sz170 : Go.E.szOf Tryz.prog 170 = some 1 := by kernel_rfl
private theorem sz22 : Go.E.szOf Tryz.prog 22 = some 1 := by kernel_rfl
private theorem sz27 : Go.E.szOf Tryz.prog 27 = some 1 := by kernel_rfl
private theorem sz28 : Go.E.szOf Tryz.prog 28 = some 1 := by kernel_rfl
private theorem sz29 : Go.E.szOf Tryz.prog 29 = some 1 := by kernel_rfl
private theorem sz4 : Go.E.szOf Tryz.prog 4 = some 1 := by kernel_rfl
private theorem ze170 : Go.E.zeroOf Tryz.prog 170 = some (.nilFunc) := by kernel_rfl
private theorem ze27 : Go.E.zeroOf Tryz.prog 27 = some (.slice none 0 0) := by kernel_rfl
private theorem ze28 : Go.E.zeroOf Tryz.prog 28 = some (.slice none 0 0) := by kernel_rfl
private theorem ze29 : Go.E.zeroOf Tryz.prog 29 = some (.slice none 0 0) := by kernel_rfl
private theorem ze4 : Go.E.zeroOf Tryz.prog 4 = some (.bool false) := by kernel_rfl
noncomputable def Aw_ (x2 : List (List Int)) (x0 : Int) (self_ : Int → (List Bool) → (List (List Int)) → Option (List Bool)) (l124 : List Bool) (k127 : Nat) : Option (((List Bool) × Nat) ⊕ ((List Bool))) :=
 iteO (decide (((k127 : Nat) : Int) < (((nth x2 x0.toNat ([] : List Int)).length : Nat) : Int))) (bnd (self_ (nth (nth x2 x0.toNat ([] : List Int)) k127 (0 : Int)) l124 x2) (fun v21 => nxt (v21, (k127 + 1)))) (fin (some l124))
noncomputable def C3_ (self_ : Int → (List Bool) → (List (List Int)) → Option (List Bool)) (x0 : Int) (x1 : List Bool) (x2 : List (List Int)) : Option ((List Bool)) :=
 grd (0 ≤ x0 ∧ x0 < (x1.length : Int)) (iteO (nth x1 x0.toNat false) (some x1) (grd (0 ≤ x0 ∧ x0 < (x1.length : Int)) (grd (0 ≤ x0 ∧ x0 < (x2.length : Int)) (iter (fun q : (List Bool) × Nat => Aw_ x2 x0 self_ q.1 q.2) ((x1.set x0.toNat true), 0)))))
noncomputable def Bj_ : Nat → Int → (List Bool) → (List (List Int)) → Option (List Bool)
 | 0 => fun _ _ _ => none
 | n+1 => C3_ (Bj_ n)
theorem Hh_ {self_ : Int → (List Bool) → (List (List Int)) → Option (List Bool)} (self__con : ∀ {σ : Store} {x0 : Int} {x1 : List Bool} {b1_0 : Nat} {Eb1 : Nat} {a1_1 : Option Addr} {c1_2 : Nat} {x2 : List (List Int)} {b2_0 : Nat} {Eb2 : Nat} {a2_1 : Option Addr} {c2_2 : Nat} {b3_0 : Nat} {Eb3 : Nat} (f2_3 : RZ σ (pkSl 1 Go.E.encI Go.E.encI_len) (.slice a2_1 x2.length c2_2) x2) {r : (List Bool)} (hh : self_ x0 x1 x2 = some r),
  Con Tryz.prog 103 #[.int .i64 x0, loc b1_0 0, loc b2_0 0, loc b3_0 0] σ [Res.cells b1_0 #[.slice a1_1 x1.length c1_2] Eb1, Res.rowS 4 1 encB (.slice a1_1 x1.length c1_2) x1, Res.cells b2_0 #[.slice a2_1 x2.length c2_2] Eb2, Res.cells b3_0 #[.func (.func 103) #[] #[loc b1_0 0, loc b2_0 0, loc b3_0 0]] Eb3] (fun v σ' H' => ∃ (ao1 : Option Addr), ∃ (co2 : Nat), v = .tuple #[] ∧ σ = σ' ∧ H' = [Res.cells b1_0 #[.slice ao1 r.length co2] Eb1, Res.rowS 4 1 encB (.slice ao1 r.length co2) r, Res.cells b2_0 #[.slice a2_1 x2.length c2_2] Eb2, Res.cells b3_0 #[.func (.func 103) #[] #[loc b1_0 0, loc b2_0 0, loc b3_0 0]] Eb3])) {σ : Store} {x0 : Int} {x1 : List Bool} {b1_0 : Nat} {Eb1 : Nat} {a1_1 : Option Addr} {c1_2 : Nat} {x2 : List (List Int)} {b2_0 : Nat} {Eb2 : Nat} {a2_1 : Option Addr} {c2_2 : Nat} {b3_0 : Nat} {Eb3 : Nat} (f2_3 : RZ σ (pkSl 1 Go.E.encI Go.E.encI_len) (.slice a2_1 x2.length c2_2) x2) {r : (List Bool)} (hh : C3_ self_ x0 x1 x2 = some r) :
  Con Tryz.prog 103 #[.int .i64 x0, loc b1_0 0, loc b2_0 0, loc b3_0 0] σ [Res.cells b1_0 #[.slice a1_1 x1.length c1_2] Eb1, Res.rowS 4 1 encB (.slice a1_1 x1.length c1_2) x1, Res.cells b2_0 #[.slice a2_1 x2.length c2_2] Eb2, Res.cells b3_0 #[.func (.func 103) #[] #[loc b1_0 0, loc b2_0 0, loc b3_0 0]] Eb3] (fun v σ' H' => ∃ (ao1 : Option Addr), ∃ (co2 : Nat), v = .tuple #[] ∧ σ = σ' ∧ H' = [Res.cells b1_0 #[.slice ao1 r.length co2] Eb1, Res.rowS 4 1 encB (.slice ao1 r.length co2) r, Res.cells b2_0 #[.slice a2_1 x2.length c2_2] Eb2, Res.cells b3_0 #[.func (.func 103) #[] #[loc b1_0 0, loc b2_0 0, loc b3_0 0]] Eb3]) := by
 dsimp only [C3_] at hh
 have f2_3b := f2_3.big
 refine Con.mk (n := 27) Tryz.func103 z z z (fun w0 => ?_)
 refine TC.weakR (TC.seq (TC.a (TL.w z (loadLoc z ag29 z (i := 0) z z) (TL.i z z ?_))))
 have u3 := grd_c hh
 replace hh := grd_t hh
 refine TL.isSl (i := 1) z (fun hs107 _ _ => ?_)
 refine TL.w z (OpVal.index z underlying29 sz4 z z hs107 u3.1 u3.2) (TL.w z (loadO1 false z ag4 z (q := 1) z encB_len (by omega) z) (TL.en (TC.cB z hh (fun h108 hh => ?_) (fun h108 hh => ?_))))
 ·refine TC.ret (S.r ?_)
  obtain rfl := so hh
  refine ⟨_, Sub.f [3, 3, 3, 3] 4, ?_⟩
  exact ro [Res.cells b1_0 #[.slice a1_1 x1.length c1_2] Eb1, Res.rowS 4 1 encB (.slice a1_1 x1.length c1_2) x1, Res.cells b2_0 #[.slice a2_1 x2.length c2_2] Eb2, Res.cells b3_0 #[.func (.func 103) #[] #[loc b1_0 0, loc b2_0 0, loc b3_0 0]] Eb3] z RVs.nil ⟨a1_1, c1_2, z, z, z⟩
 ·refine TC.skip (S.n (TC.a (TL.w z (loadLoc z ag29 z (i := 0) z z) (TL.i z z ?_))))
  have u7 := grd_c hh
  replace hh := grd_t hh
  refine TL.isSl (i := 1) z (fun hs109 _ _ => ?_)
  refine TL.w z (OpVal.index z underlying29 sz4 z z hs109 u7.1 u7.2) (TL.front 1 z z ?_)
  have hn110 : (x1.set x0.toNat true).length = x1.length := by rw [List.length_set]
  refine TL.op z (storeS true z sz4 z z z z encB_len encB_one (by omega) (by omega) ?_)
  refine TL.en (TC.a (TL.w z (loadLoc z ag28 z (i := 2) z z) (TL.i z z ?_)))
  have u11 := grd_c hh
  replace hh := grd_t hh
  refine TL.w z (OpVal.index z underlying28 sz27 z z f2_3.isSl u11.1 u11.2) ?_
  obtain ⟨p111, hk111, hg111⟩ := RZ.seg f2_3 x0.toNat (by omega)
  replace hk111 : RS _ 1 Go.E.encI (.slice p111.1 (nth x2 x0.toNat ([] : List Int)).length p111.2) (nth x2 x0.toNat ([] : List Int)) := hk111
  have hk111b := hk111.rv.big
  refine TL.w z (OpVal.of (loadSeg0 z ag27 z hg111 z) (v' := .slice p111.1 ((nth x2 x0.toNat ([] : List Int)).length) p111.2) z) (TL.w z (lenC z underlying27 z) (TL.i z z (TL.en (TC.block ?_))))
  rw [← hn110]
  refine TC.loopG (α := ((List Bool) × Nat) × ((Option Addr) × Nat)) (rgs [(6, 1), (19, 8)]) (fun g => [(19, .int .i64 ((g.1.2 : Nat) : Int))]) (fun g => [Res.cells b3_0 #[.func (.func 103) #[] #[loc b1_0 0, loc b2_0 0, loc b3_0 0]] Eb3, Res.cells b1_0 #[.slice g.2.1 g.1.1.length g.2.2] Eb1, Res.rowS 4 1 encB (.slice g.2.1 g.1.1.length g.2.2) g.1.1, Res.cells b2_0 #[.slice a2_1 x2.length c2_2] Eb2]) (fun g => σ) (fun g => iter (fun q : (List Bool) × Nat => Aw_ x2 x0 self_ q.1 q.2) g.1 = some r) (fun g => rounds (fun q : (List Bool) × Nat => Aw_ x2 x0 self_ q.1 q.2) g.1) (((x1.set x0.toNat true), 0), (a1_1, c1_2)) (Sub.f [2, 1, 2, 3] 4) z (by repeat (first | exact trivial | refine ⟨z, ?_⟩)) hh (fun g1 j1 hg1 => ?_)
  obtain ⟨⟨l124, k127⟩, ⟨a125, c126⟩⟩ := g1
  have hh := hg1; clear hg1
  try dsimp only
  obtain ⟨z1, hh, hR1⟩ := iter_e hh
  dsimp only [Aw_] at hh
  refine TC.isSl (i := 2) z (fun _ hb128 _ => ?_)
  refine TC.a (TL.w z (OpVal.lss z z z) (TL.en (TC.seq (TC.cD z hh (fun h129 hh => ?_) (fun h129 hh => ?_)))))
  ·refine TC.skip (S.n (TC.seq (TC.block (TC.a (TL.w z (indexN z underlying27 sz3 z z hk111.rv.sl (by omega)) (TL.w z (loadS1 (0 : Int) z ag3 z hk111 (by omega) z) (TL.i z z (TL.en (TC.region (TL.w z (loadLoc z ag170 z (i := 0) z z) (TL.i z z (TL.front 3 z z (TL.front 3 z z (TL.front 3 z z ?_))))))))))))))
   obtain ⟨v21, u21, hh⟩ := bnd_e hh
   refine TL.op z (OpOk.call (self__con f2_3 u21) z z pf103 z z z z ?_)
   rintro _ _ _ hle130 ⟨a130_1, c130_2, rfl, rfl, rfl⟩
   refine TL.nil (B.n (S.n (TC.region (TL.w z (OpVal.succ z z z (by omega)) (TL.i z z (TL.en ?_))))))
   obtain ⟨hh, hlt132⟩ := nxt_x hR1 hh
   exact lf ((v21, (k127 + 1)), (a130_1, c130_2)) hlt132 hh (Sub.f [2, 2, 2, 3] 4)
  ·refine TC.exit (S.x (S.x ?_))
   replace hh := fin_x hR1 hh
   refine TC.exitHere ?_
   obtain rfl := so hh
   refine ⟨_, Sub.f [3, 3, 3] 4, ?_⟩
   exact RetOk.mk' (rs := []) [Res.cells b1_0 #[.slice a125 l124.length c126] Eb1, Res.rowS 4 1 encB (.slice a125 l124.length c126) l124, Res.cells b2_0 #[.slice a2_1 x2.length c2_2] Eb2, Res.cells b3_0 #[.func (.func 103) #[] #[loc b1_0 0, loc b2_0 0, loc b3_0 0]] Eb3] z (.inr z) RVs.nil (List.sublist_append_left _ _) ⟨a125, c126, z, z, z⟩
theorem Hj_ {n_ : Nat} : ∀ {σ : Store} {x0 : Int} {x1 : List Bool} {b1_0 : Nat} {Eb1 : Nat} {a1_1 : Option Addr} {c1_2 : Nat} {x2 : List (List Int)} {b2_0 : Nat} {Eb2 : Nat} {a2_1 : Option Addr} {c2_2 : Nat} {b3_0 : Nat} {Eb3 : Nat} (f2_3 : RZ σ (pkSl 1 Go.E.encI Go.E.encI_len) (.slice a2_1 x2.length c2_2) x2) {r : (List Bool)} (hh : Bj_ n_ x0 x1 x2 = some r),
  Con Tryz.prog 103 #[.int .i64 x0, loc b1_0 0, loc b2_0 0, loc b3_0 0] σ [Res.cells b1_0 #[.slice a1_1 x1.length c1_2] Eb1, Res.rowS 4 1 encB (.slice a1_1 x1.length c1_2) x1, Res.cells b2_0 #[.slice a2_1 x2.length c2_2] Eb2, Res.cells b3_0 #[.func (.func 103) #[] #[loc b1_0 0, loc b2_0 0, loc b3_0 0]] Eb3] (fun v σ' H' => ∃ (ao1 : Option Addr), ∃ (co2 : Nat), v = .tuple #[] ∧ σ = σ' ∧ H' = [Res.cells b1_0 #[.slice ao1 r.length co2] Eb1, Res.rowS 4 1 encB (.slice ao1 r.length co2) r, Res.cells b2_0 #[.slice a2_1 x2.length c2_2] Eb2, Res.cells b3_0 #[.func (.func 103) #[] #[loc b1_0 0, loc b2_0 0, loc b3_0 0]] Eb3]) := by
 induction n_ with
 | zero => intro σ x0 x1 b1_0 Eb1 a1_1 c1_2 x2 b2_0 Eb2 a2_1 c2_2 b3_0 Eb3 f2_3 r hh; exact absurd hh (by intro h_; cases h_)
 | succ k_ ih_ =>
  intro σ x0 x1 b1_0 Eb1 a1_1 c1_2 x2 b2_0 Eb2 a2_1 c2_2 b3_0 Eb3 f2_3 r hh
  exact Hh_ (self_ := Bj_ k_) @ih_ f2_3 hh
noncomputable def A9_ (x0 : List Tip) (x1 : List (List Int)) (l121 : List Bool) (k124 : Nat) : Option (((List Bool) × Nat) ⊕ ((List Bool))) :=
 iteO (decide (((k124 : Nat) : Int) < ((x0.length : Nat) : Int))) (bnd (Bj_ (l121.length + 1) ((nth x0 k124 Tip.zero).state) l121 x1) (fun v22 => nxt (v22, (k124 + 1)))) (fin (some l121))
noncomputable def Dq_ (x0 : List Tip) (x1 : List (List Int)) : Option ((List Bool)) :=
 grd (1 * x1.length ≤ 281474976710656) (iter (fun q : (List Bool) × Nat => A9_ x0 x1 q.1 q.2) ((List.replicate x1.length false), 0))
def H5_ (σ : Store) (r : (List Bool)) : Value → Store → List Res → Prop := fun v σ' H' =>
 ∃ (a1 : Option Addr), ∃ (c1 : Nat),  v = .slice a1 r.length c1 ∧ σ = σ' ∧ H' = [Res.rowS 4 1 encB (.slice a1 r.length c1) r]
theorem Gn_ {σ : Store} {x0 : List Tip} {a0_0 : Option Addr} {c0_0 : Nat} {x1 : List (List Int)} {a1_0 : Option Addr} {c1_0 : Nat} (f0_0 : RS σ 2 encTip (.slice a0_0 x0.length c0_0) x0) (f1_0 : RZ σ (pkSl 1 Go.E.encI Go.E.encI_len) (.slice a1_0 x1.length c1_0) x1) {r : (List Bool)} (hh : Dq_ x0 x1 = some r) :
  Con Tryz.prog 81 #[.slice a0_0 x0.length c0_0, .slice a1_0 x1.length c1_0] σ [] (H5_ σ r) := by
 dsimp only [Dq_] at hh
 have f0_0b := f0_0.rv.big
 have f1_0b := f1_0.big
 refine Con.mk (n := 25) Tryz.func81 z z z (fun w0 => ?_)
 refine TC.a (TL.op z (OpOk.box z z z z (fun b101 => ?_)))
 refine TL.s z z (TL.en (TC.a (TL.w z (loadLoc z ag28 z (i := 0) z z) (TL.w z (lenC z underlying28 z) ?_))))
 have u5 := grd_c hh
 replace hh := grd_t hh
 refine TL.op z (makeS2 (enc := encB) false z underlying29 sz4 by4 ze4 z z z z (by omega) (by decide) encB_len (by decide) z encB_one (fun a103 c104 => ?_))
 refine TL.op z (OpOk.alloc z ze29 z z (fun b106 => ?_))
 refine TL.op z (storeSl z sz29 z z z z z ?_)
 refine TL.en (TC.a (TL.op z (OpOk.alloc z ze170 z z (fun b108 => ?_))))
 refine TL.en (TC.a (TL.w z (makeFn z) (TL.op z (storeFn z sz170 z z z z z ?_))))
 refine TL.en (TC.seq (TC.a (TL.s z z (TL.w z (lenC z underlying22 z) (TL.i z z (TL.en (TC.block (TC.loopG (α := ((List Bool) × Nat) × ((Option Addr) × Nat)) (rgs [(8, 1), (15, 9)]) (fun g => [(15, .int .i64 ((g.1.2 : Nat) : Int))]) (fun g => [Res.cells b106 #[.slice g.2.1 g.1.1.length g.2.2] 29, Res.rowS 4 1 encB (.slice g.2.1 g.1.1.length g.2.2) g.1.1, Res.cells b108 #[.func (.func 103) #[] #[loc b106 0, loc b101 0, loc b108 0]] 170, Res.cells b101 #[.slice a1_0 x1.length c1_0] 28]) (fun g => σ) (fun g => iter (fun q : (List Bool) × Nat => A9_ x0 x1 q.1 q.2) g.1 = some r) (fun g => rounds (fun q : (List Bool) × Nat => A9_ x0 x1 q.1 q.2) g.1) (((List.replicate x1.length false), 0), (a103, c104)) (Sub.f [3, 1, 3, 3] 4) z (by repeat (first | exact trivial | refine ⟨z, ?_⟩)) hh (fun g1 j1 hg1 => ?_)))))))))
 obtain ⟨⟨l121, k124⟩, ⟨a122, c123⟩⟩ := g1
 have hh := hg1; clear hg1
 try dsimp only
 obtain ⟨z1, hh, hR1⟩ := iter_e hh
 dsimp only [A9_] at hh
 refine TC.isSl (i := 1) z (fun _ hb125 _ => ?_)
 refine TC.a (TL.w z (OpVal.lss z z z) (TL.en (TC.seq (TC.cD z hh (fun h126 hh => ?_) (fun h126 hh => ?_)))))
 ·refine TC.skip (S.n (TC.seq (TC.block (TC.a (TL.w z (indexN z underlying22 sz62 z z f0_0.rv.sl (by omega)) (TL.w z (loadSA Tip.zero z ag62 sz62 z f0_0 (by omega) (by omega)) (TL.op z (OpOk.alloc z ze62 z z (fun b127 => ?_)))))))))
  refine TL.op z (storeAll z sz62 z z z z z z ?_)
  refine TL.en (TC.region (TL.w z (loadLoc z ag170 z (i := 3) z z) (TL.w z (fieldLoc z fo62_0 z) (TL.w z (loadLoc z ag3 z (i := 0) z z) (TL.front 3 z z (TL.front 4 z z (TL.front 4 z z (TL.front 4 z z ?_))))))))
  obtain ⟨v22, u22, hh⟩ := bnd_e hh
  refine TL.op z (OpOk.call (Hj_ f1_0 u22) z z pf103 z z z z ?_)
  rintro _ _ _ hle129 ⟨a129_1, c129_2, rfl, rfl, rfl⟩
  refine TL.nil (B.n (S.n (TC.region (TL.w z (OpVal.succ z z z (by omega)) (TL.i z z (TL.en ?_))))))
  obtain ⟨hh, hlt131⟩ := nxt_x hR1 hh
  exact lf ((v22, (k124 + 1)), (a129_1, c129_2)) hlt131 hh (Sub.f [2, 3, 3, 3] 4)
 ·refine TC.exit (S.x (S.x ?_))
  replace hh := fin_x hR1 hh
  refine TC.exitHere (S.n (TC.a (TL.w z (loadLoc z ag29 z (i := 0) z z) (TL.s z z (TL.en (TC.ofSub (Sub.f [1] 1) (TC.ret ?_)))))))
  obtain rfl := so hh
  exact ro [Res.rowS 4 1 encB (.slice a122 l121.length c123) l121] z (RVs.tmp z RVs.nil) ⟨a122, c123, z, z, z⟩
noncomputable def Bx_ {Sy : Type} (k125 : Nat) (s134 : Sy) : Option ((Nat × Sy) ⊕ (Sy)) :=
 nxt ((k125 + 1), s134)
noncomputable def Ao_ {Sy : Type} (v4 : (List Bool)) (v8 : (List Bool)) (Y : Sy → Int → Option (Sy × Bool)) (k125 : Nat) (s126 : Sy) : Option ((Nat × Sy) ⊕ (Sy)) :=
 iteO (decide (((k125 : Nat) : Int) < ((v4.length : Nat) : Int))) (iteO (nth v4 k125 false) (grd (k125 < v8.length) (iteO (nth v8 k125 false) (bnd (Y s126 ((k125 : Nat) : Int)) (fun v30 => iteO (!v30.2) (fin (some v30.1)) (Bx_ k125 v30.1))) (Bx_ k125 s126))) (Bx_ k125 s126)) (fin (some s126))
noncomputable def C7_ {Sy : Type} (Y : Sy → Int → Option (Sy × Bool)) (s0 : Sy) (x1 : Fst) (x2 : List (List Int)) (x3 : List (List Int)) : Option (Sy) :=
 bnd (Dq_ x1.starts x2) (fun v4 => bnd (Dq_ x1.ends x3) (fun v8 => iter (fun q : Nat × Sy => Ao_ v4 v8 Y q.1 q.2) (0, s0)))
theorem He_ {Sy : Type} {σ : Store} {Y : Sy → Int → Option (Sy × Bool)} {s0 : Sy} {x1 : Fst} {b1_0 : Nat} {Eb1 : Nat} {a1_1 : Option Addr} {c1_2 : Nat} {a1_4 : Option Addr} {c1_5 : Nat} {a1_7 : Option Addr} {c1_8 : Nat} {x2 : List (List Int)} {b2_0 : Nat} {Eb2 : Nat} {a2_1 : Option Addr} {c2_2 : Nat} {x3 : List (List Int)} {b3_0 : Nat} {Eb3 : Nat} {a3_1 : Option Addr} {c3_2 : Nat} (f1_3 : RS σ 2 encTip (.slice a1_1 x1.starts.length c1_2) x1.starts) (f1_6 : RS σ 2 encTip (.slice a1_4 x1.ends.length c1_5) x1.ends) (f1_9 : RS σ 8 encArc (.slice a1_7 x1.arcs.length c1_8) x1.arcs) (f2_3 : RZ σ (pkSl 1 Go.E.encI Go.E.encI_len) (.slice a2_1 x2.length c2_2) x2) (f3_3 : RZ σ (pkSl 1 Go.E.encI Go.E.encI_len) (.slice a3_1 x3.length c3_2) x3) {r : Sy} (hh : C7_ Y s0 x1 x2 x3 = some r) :
  IterOk Tryz.prog 80 [loc b1_0 0, loc b2_0 0, loc b3_0 0] (fun (x : Int) _ vs => vs = [.int .i64 x]) Y σ [Res.cells b1_0 #[.int .i64 x1.states, .slice a1_1 x1.starts.length c1_2, .slice a1_4 x1.ends.length c1_5, .slice a1_7 x1.arcs.length c1_8] Eb1, Res.cells b2_0 #[.slice a2_1 x2.length c2_2] Eb2, Res.cells b3_0 #[.slice a3_1 x3.length c3_2] Eb3] s0 r (fun σ' H' => H' = [Res.cells b1_0 #[.int .i64 x1.states, .slice a1_1 x1.starts.length c1_2, .slice a1_4 x1.ends.length c1_5, .slice a1_7 x1.arcs.length c1_8] Eb1, Res.cells b2_0 #[.slice a2_1 x2.length c2_2] Eb2, Res.cells b3_0 #[.slice a3_1 x3.length c3_2] Eb3]) := by
 intro l Z ry0 hY hys
 dsimp only [C7_] at hh
 have f1_3b := f1_3.rv.big
 have f1_6b := f1_6.rv.big
 have f1_9b := f1_9.rv.big
 have f2_3b := f2_3.big
 have f3_3b := f3_3.big
 refine Con.mk (n := 38) Tryz.func80 z z z (fun w0 => ?_)
 refine TC.weakR (TC.seq ?_)
 obtain ⟨v4, u4, hh⟩ := bnd_e hh
 obtain ⟨v8, u8, hh⟩ := bnd_e hh
 refine TC.draw [] (by kernel_rfl) (TA.a 0 z (fieldLoc z fo25_1 z) z (TA.b 1 z (loadLoc z ag22 z (i := 1) z z) z (TA.b 2 z (loadLoc z ag28 z (i := 2) z z) z (TA.a 4 z (fieldLoc z fo25_2 z) z (TA.b 5 z (loadLoc z ag22 z (i := 1) z z) z (TA.b 6 z (loadLoc z ag28 z (i := 3) z z) z (TA.ac 3 z (OpOk.call (Gn_ f1_3 f2_3 u4) z z pf81 z z z z ?_))))))))
 rintro _ _ _ hle113 ⟨a113_1, c113_1, rfl, rfl, rfl⟩
 refine k1 (TA.ac 7 z (OpOk.call (Gn_ f1_6 f3_3 u8) z z pf81 z z z z ?_))
 rintro _ _ _ hle115 ⟨a115_1, c115_1, rfl, rfl, rfl⟩
 refine k2 (TA.a 8 z (moveSl (.inr z) z) z (TA.a 9 z (moveSl (.inr z) z) z (TA.dn (S.n (TC.a (TL.s z z (TL.w z (lenC z underlying29 z) (TL.i z z (TL.en (TC.block (TC.loopG (α := (Nat × Sy) × (Res × Store)) (rgs [(7, 1), (18, 20)]) (fun g => [(18, .int .i64 ((g.1.1 : Nat) : Int))]) (fun g => [Res.rowS 4 1 encB (.slice a113_1 v4.length c113_1) v4, Res.rowS 4 1 encB (.slice a115_1 v8.length c115_1) v8, Res.cells b1_0 #[.int .i64 x1.states, .slice a1_1 x1.starts.length c1_2, .slice a1_4 x1.ends.length c1_5, .slice a1_7 x1.arcs.length c1_8] Eb1, Res.cells b2_0 #[.slice a2_1 x2.length c2_2] Eb2, Res.cells b3_0 #[.slice a3_1 x3.length c3_2] Eb3, g.2.1]) (fun g => g.2.2) (fun g => iter (fun q : Nat × Sy => Ao_ v4 v8 Y q.1 q.2) g.1 = some r ∧ YR Z g.1.2 g.2.2 g.2.1 ∧ Store.le σ g.2.2) (fun g => rounds (fun q : Nat × Sy => Ao_ v4 v8 Y q.1 q.2) g.1) ((0, s0), (ry0, σ)) (Sub.f [2, 5, 5, 5, 4, 5] 6) z (by repeat (first | exact trivial | refine ⟨z, ?_⟩)) ⟨hh, hys, (Store.le.refl _)⟩ (fun g1 j1 hg1 => ?_))))))))))))
 obtain ⟨⟨k125, s126⟩, ⟨ry127, τ129⟩⟩ := g1
 obtain ⟨hh, hy128, hle130⟩ := hg1
 try dsimp only at hy128 hle130 ⊢
 obtain ⟨z1, hh, hR1⟩ := iter_e hh
 dsimp only [Ao_] at hh
 skip
 refine TC.isSl (i := 0) z (fun _ hb131 _ => ?_)
 refine TC.isSl (i := 1) z (fun _ hb132 _ => ?_)
 refine TC.a (TL.w z (OpVal.lss z z z) (TL.en (TC.seq (TC.cD z hh (fun h133 hh => ?_) (fun h133 hh => ?_)))))
 ·refine TC.skip (S.n (TC.cutG (α := (Sy) × (Res × Store)) (rgs [(7, 1), (20, 17)]) (fun g => []) (fun g => [Res.rowS 4 1 encB (.slice a113_1 v4.length c113_1) v4, Res.rowS 4 1 encB (.slice a115_1 v8.length c115_1) v8, Res.cells b1_0 #[.int .i64 x1.states, .slice a1_1 x1.starts.length c1_2, .slice a1_4 x1.ends.length c1_5, .slice a1_7 x1.arcs.length c1_8] Eb1, Res.cells b2_0 #[.slice a2_1 x2.length c2_2] Eb2, Res.cells b3_0 #[.slice a3_1 x3.length c3_2] Eb3, g.2.1]) (fun g => g.2.2) (fun g => Bx_ k125 g.1 = some z1 ∧ YR Z g.1 g.2.2 g.2.1 ∧ Store.le τ129 g.2.2) ?_ (fun g j hg => ?_)))
  ·skip
   refine TC.block (TC.a (TL.i z z (TL.i z z (TL.en (TC.a (TL.s z z (TL.i z z (TL.isSl (i := 0) z (fun hs137 _ _ => ?_)))))))))
   refine TL.w z (indexN z underlying29 sz4 z z hs137 (by omega)) (TL.w z (loadO1 false z ag4 z (q := 0) z encB_len (by omega) z) (TL.j z z (TL.split 25 z (fun h138 => ?_) (fun h138 => ?_))))
   ·replace hh := iteO_t h138 hh
    refine TL.g z (moveSl (.inl z) z) (TL.g z (moveI (.inl z) z) ?_)
    have u24 := grd_c hh
    replace hh := grd_t hh
    refine TL.isSl (i := 1) z (fun hs139 _ _ => ?_)
    refine TL.g z (indexN z underlying29 sz4 z z hs139 (by omega)) (TL.g z (loadO1 false z ag4 z (q := 1) z encB_len (by omega) z) (TL.w z (pickTB z z z) (TL.j z z (TL.split 31 z (fun h140 => ?_) (fun h140 => ?_)))))
    ·replace hh := iteO_t h140 hh
     refine TL.g z (OpVal.mv (.inl z)) (TL.g z (moveI (.inl z) z) ?_)
     obtain ⟨v30, u30, hh⟩ := bnd_e hh
     refine TL.front 5 z z (TL.gon z z z z z (callY hY hy128 u30 z z z z z z ?_))
     rintro τ141 ry141 hle141 hy141
     refine TL.g z (OpVal.not z z) (TL.w z (pickTB z z z) (TL.en (TC.cB z hh (fun h142 hh => ?_) (fun h142 hh => ?_))))
     ·refine TC.ofSub (Sub.f [5, 5, 5, 3] 4) (TC.ret (B.r (S.r (S.r ?_))))
      replace hh := fin_x hR1 hh
      refine B.r ?_
      obtain rfl := so hh
      refine ⟨_, Sub.f [3, 3, 3, 3] 4, ?_⟩
      exact ro [ry141, Res.cells b1_0 #[.int .i64 x1.states, .slice a1_1 x1.starts.length c1_2, .slice a1_4 x1.ends.length c1_5, .slice a1_7 x1.arcs.length c1_8] Eb1, Res.cells b2_0 #[.slice a2_1 x2.length c2_2] Eb2, Res.cells b3_0 #[.slice a3_1 x3.length c3_2] Eb3] z RVs.nil ⟨_, _, z, hy141, z⟩
     ·exact TC.skip (B.n (S.n (cf (v30.1, (ry141, τ141)) ⟨hh, hy141, hle141⟩ (Sub.f [5, 5, 5, 5, 5] 6))))
    ·replace hh := iteO_f h140 hh
     exact TL.f z (TL.f z (TL.f z (TL.f z (TL.w z (pickFB z z z) (TL.en (TC.f z (TC.skip (B.n (S.n (cf (s126, (ry127, τ129)) ⟨hh, hy128, (Store.le.refl _)⟩ (Sub.f [5, 5, 5, 5, 5, 5] 6)))))))))))
   ·replace hh := iteO_f h138 hh
    exact TL.f z (TL.f z (TL.f z (TL.f z (TL.w z (pickFB z z z) (TL.j z z (TL.f z (TL.f z (TL.f z (TL.f z (TL.w z (pickFB z z z) (TL.en (TC.f z (TC.skip (B.n (S.n (cf (s126, (ry127, τ129)) ⟨hh, hy128, (Store.le.refl _)⟩ (Sub.f [5, 5, 5, 5, 5, 5] 6)))))))))))))))))
  ·skip
   obtain ⟨s134, ⟨ry135, τ143⟩⟩ := g
   obtain ⟨hh, hy136, hle144⟩ := hg
   try dsimp only at hy136
   dsimp only at hle144
   replace hy128 := hy128.mono hle144
   try dsimp only
   dsimp only [Bx_] at hh
   skip
   refine TC.isSl (i := 0) z (fun _ hb145 _ => ?_)
   refine TC.isSl (i := 1) z (fun _ hb146 _ => ?_)
   refine TC.region (TL.w z (OpVal.succ z z z (by omega)) (TL.i z z (TL.en ?_)))
   obtain ⟨hh, hlt147⟩ := nxt_x hR1 hh
   exact lf (((k125 + 1), s134), (ry135, τ143)) hlt147 ⟨hh, hy136, (hle130.trans hle144)⟩ (Sub.f [5, 5, 5, 5, 5, 5] 6)
 ·refine TC.exit (S.x (S.x ?_))
  replace hh := fin_x hR1 hh
  refine TC.exitHere ?_
  obtain rfl := so hh
  refine ⟨_, Sub.f [4, 4, 4, 5] 4, ?_⟩
  exact RetOk.mk' (rs := []) [ry127, Res.cells b1_0 #[.int .i64 x1.states, .slice a1_1 x1.starts.length c1_2, .slice a1_4 x1.ends.length c1_5, .slice a1_7 x1.arcs.length c1_8] Eb1, Res.cells b2_0 #[.slice a2_1 x2.length c2_2] Eb2, Res.cells b3_0 #[.slice a3_1 x3.length c3_2] Eb3] z (.inr z) RVs.nil (List.sublist_append_left _ _) ⟨_, _, z, hy128, z⟩
noncomputable def Dy_ (l387 : List (List Int)) (x0 : Fst) (k394 : Nat) (l391 : List (List Int)) : Option (((List (List Int)) × (List (List Int)) × Nat) ⊕ ((Fst × (List (List Int)) × (List (List Int))))) :=
 nxt ((l387.set (((nth x0.arcs k394 Arc.zero).frm).toNat) ((nth l387 (((nth x0.arcs k394 Arc.zero).frm).toNat) ([] : List Int)) ++ [(nth x0.arcs k394 Arc.zero).to])), (l391.set (((nth x0.arcs k394 Arc.zero).to).toNat) ((nth l391 (((nth x0.arcs k394 Arc.zero).to).toNat) ([] : List Int)) ++ [(nth x0.arcs k394 Arc.zero).frm])), (k394 + 1))
noncomputable def Du_ (x0 : Fst) (k394 : Nat) (l391 : List (List Int)) (l387 : List (List Int)) : Option (((List (List Int)) × (List (List Int)) × Nat) ⊕ ((Fst × (List (List Int)) × (List (List Int))))) :=
 grd (0 ≤ ((nth x0.arcs k394 Arc.zero).to) ∧ ((nth x0.arcs k394 Arc.zero).to) < (l391.length : Int)) (grd (((nth l391 (((nth x0.arcs k394 Arc.zero).to).toNat) ([] : List Int)).length + [(nth x0.arcs k394 Arc.zero).frm].length) * 8 ≤ 140737488355328) (grd (0 ≤ ((nth x0.arcs k394 Arc.zero).to) ∧ ((nth x0.arcs k394 Arc.zero).to) < (l391.length : Int)) (Dy_ l387 x0 k394 l391)))
noncomputable def A7_ (x0 : Fst) (l387 : List (List Int)) (l391 : List (List Int)) (k394 : Nat) : Option (((List (List Int)) × (List (List Int)) × Nat) ⊕ ((Fst × (List (List Int)) × (List (List Int))))) :=
 iteO (decide (((k394 : Nat) : Int) < ((x0.arcs.length : Nat) : Int))) (grd (0 ≤ ((nth x0.arcs k394 Arc.zero).frm) ∧ ((nth x0.arcs k394 Arc.zero).frm) < (l387.length : Int)) (grd (((nth l387 (((nth x0.arcs k394 Arc.zero).frm).toNat) ([] : List Int)).length + [(nth x0.arcs k394 Arc.zero).to].length) * 8 ≤ 140737488355328) (grd (0 ≤ ((nth x0.arcs k394 Arc.zero).frm) ∧ ((nth x0.arcs k394 Arc.zero).frm) < (l387.length : Int)) (Du_ x0 k394 l391 l387)))) (fin (some (x0, l387, l391)))
noncomputable def Dw_ (x0 : Fst) : Option ((Fst × (List (List Int)) × (List (List Int)))) :=
 iter (fun q : (List (List Int)) × (List (List Int)) × Nat => A7_ x0 q.1 q.2.1 q.2.2) ((List.replicate x0.states.toNat ([] : List Int)), (List.replicate x0.states.toNat ([] : List Int)), 0)
noncomputable def D3_ (x0 : Fst) : Option ((Fst × (List (List Int)) × (List (List Int)))) :=
 grd (0 ≤ x0.states ∧ 24 * x0.states.toNat ≤ 281474976710656) (grd (0 ≤ x0.states ∧ 24 * x0.states.toNat ≤ 281474976710656) (Dw_ x0))
theorem Hl_ {σ : Store} {x0 : Fst} {a0_0 : Option Addr} {c0_0 : Nat} {a0_1 : Option Addr} {c0_1 : Nat} {a0_2 : Option Addr} {c0_2 : Nat} (f0_0 : RS σ 2 encTip (.slice a0_0 x0.starts.length c0_0) x0.starts) (f0_1 : RS σ 2 encTip (.slice a0_1 x0.ends.length c0_1) x0.ends) (f0_2 : RS σ 8 encArc (.slice a0_2 x0.arcs.length c0_2) x0.arcs) {r : (Fst × (List (List Int)) × (List (List Int)))} (hh : D3_ x0 = some r) :
  Con Tryz.prog 48 #[.agg #[.int .i64 x0.states, .slice a0_0 x0.starts.length c0_0, .slice a0_1 x0.ends.length c0_1, .slice a0_2 x0.arcs.length c0_2]] σ [] (fun v σ' H' => ∃ (br10 : Nat), ∃ (ar1 : Option Addr), ∃ (cr2 : Nat), ∃ (ar4 : Option Addr), ∃ (cr5 : Nat), ∃ (ar7 : Option Addr), ∃ (cr8 : Nat), ∃ (br14 : Nat), ∃ (ar11 : Option Addr), ∃ (cr12 : Nat), ∃ (br18 : Nat), ∃ (ar15 : Option Addr), ∃ (cr16 : Nat), v = .func (.func 80) #[] #[loc br10 0, loc br14 0, loc br18 0] ∧ RS σ' 2 encTip (.slice ar1 r.1.starts.length cr2) r.1.starts ∧ RS σ' 2 encTip (.slice ar4 r.1.ends.length cr5) r.1.ends ∧ RS σ' 8 encArc (.slice ar7 r.1.arcs.length cr8) r.1.arcs ∧ RZ σ' (pkSl 1 Go.E.encI Go.E.encI_len) (.slice ar11 r.2.1.length cr12) r.2.1 ∧ RZ σ' (pkSl 1 Go.E.encI Go.E.encI_len) (.slice ar15 r.2.2.length cr16) r.2.2 ∧ H' = [Res.cells br10 #[.int .i64 r.1.states, .slice ar1 r.1.starts.length cr2, .slice ar4 r.1.ends.length cr5, .slice ar7 r.1.arcs.length cr8] 25, Res.cells br14 #[.slice ar11 r.2.1.length cr12] 28, Res.cells br18 #[.slice ar15 r.2.2.length cr16] 28]) := by
 dsimp only [D3_] at hh
 have f0_0b := f0_0.rv.big
 have f0_1b := f0_1.rv.big
 have f0_2b := f0_2.rv.big
 refine Con.mk (n := 48) Tryz.func48 z z z (fun w0 => ?_)
 refine TC.a (TL.op z (boxA z z z z (fun b109 => ?_)))
 refine TL.w z (OpVal.mv (.inr z)) (TL.en (TC.cutG (α := (Unit) × (Nat × (Option Addr) × Nat × Nat × (Option Addr) × Nat)) (rgs [(3, 2), (7, 6)]) (fun g => [(3, loc g.2.1 0), (4, loc g.2.2.2.2.1 0)]) (fun g => [Res.cells b109 #[.int .i64 x0.states, .slice a0_0 x0.starts.length c0_0, .slice a0_1 x0.ends.length c0_1, .slice a0_2 x0.arcs.length c0_2] 25, Res.cells g.2.1 #[.slice g.2.2.1 ((List.replicate x0.states.toNat ([] : List Int)).length) g.2.2.2.1] 28, Res.nest 27 3 1 Go.E.encI (.slice g.2.2.1 (List.replicate x0.states.toNat ([] : List Int)).length g.2.2.2.1) (List.replicate x0.states.toNat (nilN : NP Int)), Res.cells g.2.2.2.2.1 #[.slice g.2.2.2.2.2.1 ((List.replicate x0.states.toNat ([] : List Int)).length) g.2.2.2.2.2.2] 28, Res.nest 27 3 1 Go.E.encI (.slice g.2.2.2.2.2.1 (List.replicate x0.states.toNat ([] : List Int)).length g.2.2.2.2.2.2) (List.replicate x0.states.toNat (nilN : NP Int))]) (fun g => σ) (fun g => Dw_ x0 = some r ∧ Zn (List.replicate x0.states.toNat (nilN : NP Int)) (List.replicate x0.states.toNat ([] : List Int)) ∧ Zn (List.replicate x0.states.toNat (nilN : NP Int)) (List.replicate x0.states.toNat ([] : List Int))) ?_ (fun g j hg => ?_)))
 ·skip
  have u5 := grd_c hh
  replace hh := grd_t hh
  have u8 := grd_c hh
  replace hh := grd_t hh
  refine TC.drawR (Hr := [Res.cells b109 #[.int .i64 x0.states, .slice a0_0 x0.starts.length c0_0, .slice a0_1 x0.ends.length c0_1, .slice a0_2 x0.arcs.length c0_2] 25]) (fun r hr => mem_pick [0] z hr) [] (by kernel_rfl) (TA.a 0 z (fieldLoc z fo25_0 z) z (TA.b 1 z (loadLoc z ag3 z (i := 0) z z) z (TA.a 3 z (fieldLoc z fo25_0 z) z (TA.b 4 z (loadLoc z ag3 z (i := 0) z z) z ?_))))
  refine TA.actN [2, 5, 6, 7] (by kernel_rfl) (an rfl rfl (makeN (q := x0.states.toNat) (E := 3) (size := 1) (enc := Go.E.encI) rfl underlying28 sz27 by27 ze27 rfl rfl (by show Value.int _ _ = _; rw [Int.toNat_of_nonneg u5.1]) (by show Value.int _ _ = _; rw [Int.toNat_of_nonneg u5.1]) (by omega) (by decide) rfl (fun a135 c136 zf137 => (k1 ?_))) (an rfl rfl (makeN (q := x0.states.toNat) (E := 3) (size := 1) (enc := Go.E.encI) rfl underlying28 sz27 by27 ze27 rfl rfl (by show Value.int _ _ = _; rw [Int.toNat_of_nonneg u8.1]) (by show Value.int _ _ = _; rw [Int.toNat_of_nonneg u8.1]) (by omega) (by decide) rfl (fun a139 c140 zf141 => (k1 ?_))) (an rfl rfl (OpOk.alloc rfl ze28 rfl rfl (fun b143 => (k1 ?_))) (an rfl rfl (OpOk.alloc rfl ze28 rfl rfl (fun b145 => (k1 ?_))) (True.intro)))))
  ·skip
   refine TA.actN [5, 6, 7] (by kernel_rfl) (an rfl rfl (makeN (q := x0.states.toNat) (E := 3) (size := 1) (enc := Go.E.encI) rfl underlying28 sz27 by27 ze27 rfl rfl (by show Value.int _ _ = _; rw [Int.toNat_of_nonneg u8.1]) (by show Value.int _ _ = _; rw [Int.toNat_of_nonneg u8.1]) (by omega) (by decide) rfl (fun a147 c148 zf149 => (k2 ?_))) (an rfl rfl (OpOk.alloc rfl ze28 rfl rfl (fun b151 => (k2 ?_))) (an rfl rfl (OpOk.alloc rfl ze28 rfl rfl (fun b153 => (k2 ?_))) (True.intro))))
   ·skip
    refine TA.actN [6, 7] (by kernel_rfl) (an z z (OpOk.alloc z ze28 z z (fun b155 => (k3 ?_))) (an z z (OpOk.alloc z ze28 z z (fun b157 => (k3 ?_))) (True.intro)))
    ·skip
     refine TA.ac 7 z (OpOk.alloc z ze28 z z (fun b159 => (kc 4 ?_)))
     refine TA.front 1 z z (TA.ac 8 z (storeSl z sz28 z z z z z (kc 4 ?_)))
     refine TA.front 1 z z (TA.ac 9 z (storeSl z sz28 z z z z z (kc 4 ?_)))
     exact TA.dn (S.n (cf ((), (b155, a135, c136, b159, a147, c148)) ⟨hh, zf137, zf149⟩ (Sub.f [2, 1, 3, 3, 4] 5)))
    ·skip
     refine TA.ac 6 z (OpOk.alloc z ze28 z z (fun b161 => (kc 4 ?_)))
     refine TA.ac 8 z (storeSl z sz28 z z z z z (kc 4 ?_))
     refine TA.front 1 z z (TA.ac 9 z (storeSl z sz28 z z z z z (kc 4 ?_)))
     exact TA.dn (S.n (cf ((), (b161, a135, c136, b157, a147, c148)) ⟨hh, zf137, zf149⟩ (Sub.f [2, 1, 3, 3, 4] 5)))
   ·skip
    refine TA.actN [5, 7] (by kernel_rfl) (an rfl rfl (makeN (q := x0.states.toNat) (E := 3) (size := 1) (enc := Go.E.encI) rfl underlying28 sz27 by27 ze27 rfl rfl (by show Value.int _ _ = _; rw [Int.toNat_of_nonneg u8.1]) (by show Value.int _ _ = _; rw [Int.toNat_of_nonneg u8.1]) (by omega) (by decide) rfl (fun a163 c164 zf165 => (k3 ?_))) (an rfl rfl (OpOk.alloc rfl ze28 rfl rfl (fun b167 => (k3 ?_))) (True.intro)))
    ·skip
     refine TA.ac 7 z (OpOk.alloc z ze28 z z (fun b169 => (kc 4 ?_)))
     refine TA.front 2 z z (TA.ac 8 z (storeSl z sz28 z z z z z (kc 4 ?_)))
     refine TA.front 1 z z (TA.ac 9 z (storeSl z sz28 z z z z z (kc 4 ?_)))
     exact TA.dn (S.n (cf ((), (b151, a135, c136, b169, a163, c164)) ⟨hh, zf137, zf165⟩ (Sub.f [2, 1, 3, 3, 4] 5)))
    ·skip
     refine TA.actN [5, 8] (by kernel_rfl) (an rfl rfl (makeN (q := x0.states.toNat) (E := 3) (size := 1) (enc := Go.E.encI) rfl underlying28 sz27 by27 ze27 rfl rfl (by show Value.int _ _ = _; rw [Int.toNat_of_nonneg u8.1]) (by show Value.int _ _ = _; rw [Int.toNat_of_nonneg u8.1]) (by omega) (by decide) rfl (fun a171 c172 zf173 => (kc 4 ?_))) (an rfl rfl (OpOk.front 1 rfl rfl (storeSl rfl sz28 rfl rfl rfl rfl rfl (k3 ?_))) (True.intro)))
     ·skip
      refine TA.front 2 z z (TA.ac 8 z (storeSl z sz28 z z z z z (kc 4 ?_)))
      refine TA.front 2 z z (TA.ac 9 z (storeSl z sz28 z z z z z (kc 4 ?_)))
      exact TA.dn (S.n (cf ((), (b151, a135, c136, b167, a171, c172)) ⟨hh, zf137, zf173⟩ (Sub.f [2, 1, 3, 3, 4] 5)))
     ·skip
      refine TA.ac 5 rfl (makeN (q := x0.states.toNat) (E := 3) (size := 1) (enc := Go.E.encI) rfl underlying28 sz27 by27 ze27 rfl rfl (by show Value.int _ _ = _; rw [Int.toNat_of_nonneg u8.1]) (by show Value.int _ _ = _; rw [Int.toNat_of_nonneg u8.1]) (by omega) (by decide) rfl (fun a175 c176 zf177 => (kc 4 ?_)))
      refine TA.front 2 z z (TA.ac 9 z (storeSl z sz28 z z z z z (kc 4 ?_)))
      exact TA.dn (S.n (cf ((), (b151, a135, c136, b167, a175, c176)) ⟨hh, zf137, zf177⟩ (Sub.f [1, 1, 3, 3, 4] 5)))
   ·skip
    refine TA.actN [5, 6] (by kernel_rfl) (an rfl rfl (makeN (q := x0.states.toNat) (E := 3) (size := 1) (enc := Go.E.encI) rfl underlying28 sz27 by27 ze27 rfl rfl (by show Value.int _ _ = _; rw [Int.toNat_of_nonneg u8.1]) (by show Value.int _ _ = _; rw [Int.toNat_of_nonneg u8.1]) (by omega) (by decide) rfl (fun a179 c180 zf181 => (k3 ?_))) (an rfl rfl (OpOk.alloc rfl ze28 rfl rfl (fun b183 => (k3 ?_))) (True.intro)))
    ·skip
     refine TA.ac 6 z (OpOk.alloc z ze28 z z (fun b185 => (kc 4 ?_)))
     refine TA.ac 8 z (storeSl z sz28 z z z z z (kc 4 ?_))
     refine TA.front 2 z z (TA.ac 9 z (storeSl z sz28 z z z z z (kc 4 ?_)))
     exact TA.dn (S.n (cf ((), (b185, a135, c136, b153, a179, c180)) ⟨hh, zf137, zf181⟩ (Sub.f [2, 1, 3, 3, 4] 5)))
    ·skip
     refine TA.actN [5, 8] (by kernel_rfl) (an rfl rfl (makeN (q := x0.states.toNat) (E := 3) (size := 1) (enc := Go.E.encI) rfl underlying28 sz27 by27 ze27 rfl rfl (by show Value.int _ _ = _; rw [Int.toNat_of_nonneg u8.1]) (by show Value.int _ _ = _; rw [Int.toNat_of_nonneg u8.1]) (by omega) (by decide) rfl (fun a187 c188 zf189 => (kc 4 ?_))) (an rfl rfl (storeSl rfl sz28 rfl rfl rfl rfl rfl (k3 ?_)) (True.intro)))
     ·skip
      refine TA.front 1 z z (TA.ac 8 z (storeSl z sz28 z z z z z (kc 4 ?_)))
      refine TA.front 2 z z (TA.ac 9 z (storeSl z sz28 z z z z z (kc 4 ?_)))
      exact TA.dn (S.n (cf ((), (b183, a135, c136, b153, a187, c188)) ⟨hh, zf137, zf189⟩ (Sub.f [2, 1, 3, 3, 4] 5)))
     ·skip
      refine TA.ac 5 rfl (makeN (q := x0.states.toNat) (E := 3) (size := 1) (enc := Go.E.encI) rfl underlying28 sz27 by27 ze27 rfl rfl (by show Value.int _ _ = _; rw [Int.toNat_of_nonneg u8.1]) (by show Value.int _ _ = _; rw [Int.toNat_of_nonneg u8.1]) (by omega) (by decide) rfl (fun a191 c192 zf193 => (kc 4 ?_)))
      refine TA.front 2 z z (TA.ac 9 z (storeSl z sz28 z z z z z (kc 4 ?_)))
      exact TA.dn (S.n (cf ((), (b183, a135, c136, b153, a191, c192)) ⟨hh, zf137, zf193⟩ (Sub.f [1, 1, 3, 3, 4] 5)))
  ·skip
   refine TA.actN [2, 6, 7] (by kernel_rfl) (an rfl rfl (makeN (q := x0.states.toNat) (E := 3) (size := 1) (enc := Go.E.encI) rfl underlying28 sz27 by27 ze27 rfl rfl (by show Value.int _ _ = _; rw [Int.toNat_of_nonneg u5.1]) (by show Value.int _ _ = _; rw [Int.toNat_of_nonneg u5.1]) (by omega) (by decide) rfl (fun a195 c196 zf197 => (k2 ?_))) (an rfl rfl (OpOk.alloc rfl ze28 rfl rfl (fun b199 => (k2 ?_))) (an rfl rfl (OpOk.alloc rfl ze28 rfl rfl (fun b201 => (k2 ?_))) (True.intro))))
   ·skip
    refine TA.actN [6, 7] (by kernel_rfl) (an z z (OpOk.alloc z ze28 z z (fun b203 => (k3 ?_))) (an z z (OpOk.alloc z ze28 z z (fun b205 => (k3 ?_))) (True.intro)))
    ·skip
     refine TA.ac 7 z (OpOk.alloc z ze28 z z (fun b207 => (kc 4 ?_)))
     refine TA.front 1 z z (TA.ac 8 z (storeSl z sz28 z z z z z (kc 4 ?_)))
     refine TA.front 1 z z (TA.ac 9 z (storeSl z sz28 z z z z z (kc 4 ?_)))
     exact TA.dn (S.n (cf ((), (b203, a195, c196, b207, a139, c140)) ⟨hh, zf197, zf141⟩ (Sub.f [3, 1, 3, 3, 4] 5)))
    ·skip
     refine TA.ac 6 z (OpOk.alloc z ze28 z z (fun b209 => (kc 4 ?_)))
     refine TA.ac 8 z (storeSl z sz28 z z z z z (kc 4 ?_))
     refine TA.front 1 z z (TA.ac 9 z (storeSl z sz28 z z z z z (kc 4 ?_)))
     exact TA.dn (S.n (cf ((), (b209, a195, c196, b205, a139, c140)) ⟨hh, zf197, zf141⟩ (Sub.f [3, 1, 3, 3, 4] 5)))
   ·skip
    refine TA.actN [2, 7] (by kernel_rfl) (an rfl rfl (makeN (q := x0.states.toNat) (E := 3) (size := 1) (enc := Go.E.encI) rfl underlying28 sz27 by27 ze27 rfl rfl (by show Value.int _ _ = _; rw [Int.toNat_of_nonneg u5.1]) (by show Value.int _ _ = _; rw [Int.toNat_of_nonneg u5.1]) (by omega) (by decide) rfl (fun a211 c212 zf213 => (k3 ?_))) (an rfl rfl (OpOk.alloc rfl ze28 rfl rfl (fun b215 => (k3 ?_))) (True.intro)))
    ·skip
     refine TA.ac 7 z (OpOk.alloc z ze28 z z (fun b217 => (kc 4 ?_)))
     refine TA.front 2 z z (TA.ac 8 z (storeSl z sz28 z z z z z (kc 4 ?_)))
     refine TA.front 1 z z (TA.ac 9 z (storeSl z sz28 z z z z z (kc 4 ?_)))
     exact TA.dn (S.n (cf ((), (b199, a211, c212, b217, a139, c140)) ⟨hh, zf213, zf141⟩ (Sub.f [3, 1, 3, 3, 4] 5)))
    ·skip
     refine TA.ac 2 rfl (makeN (q := x0.states.toNat) (E := 3) (size := 1) (enc := Go.E.encI) rfl underlying28 sz27 by27 ze27 rfl rfl (by show Value.int _ _ = _; rw [Int.toNat_of_nonneg u5.1]) (by show Value.int _ _ = _; rw [Int.toNat_of_nonneg u5.1]) (by omega) (by decide) rfl (fun a219 c220 zf221 => (kc 4 ?_)))
     refine TA.front 2 z z (TA.ac 8 z (storeSl z sz28 z z z z z (kc 4 ?_)))
     refine TA.front 2 z z (TA.ac 9 z (storeSl z sz28 z z z z z (kc 4 ?_)))
     exact TA.dn (S.n (cf ((), (b199, a219, c220, b215, a139, c140)) ⟨hh, zf221, zf141⟩ (Sub.f [3, 1, 3, 3, 4] 5)))
   ·skip
    refine TA.actN [2, 6] (by kernel_rfl) (an rfl rfl (makeN (q := x0.states.toNat) (E := 3) (size := 1) (enc := Go.E.encI) rfl underlying28 sz27 by27 ze27 rfl rfl (by show Value.int _ _ = _; rw [Int.toNat_of_nonneg u5.1]) (by show Value.int _ _ = _; rw [Int.toNat_of_nonneg u5.1]) (by omega) (by decide) rfl (fun a223 c224 zf225 => (k3 ?_))) (an rfl rfl (OpOk.alloc rfl ze28 rfl rfl (fun b227 => (k3 ?_))) (True.intro)))
    ·skip
     refine TA.ac 6 z (OpOk.alloc z ze28 z z (fun b229 => (kc 4 ?_)))
     refine TA.ac 8 z (storeSl z sz28 z z z z z (kc 4 ?_))
     refine TA.front 2 z z (TA.ac 9 z (storeSl z sz28 z z z z z (kc 4 ?_)))
     exact TA.dn (S.n (cf ((), (b229, a223, c224, b201, a139, c140)) ⟨hh, zf225, zf141⟩ (Sub.f [3, 1, 3, 3, 4] 5)))
    ·skip
     refine TA.ac 2 rfl (makeN (q := x0.states.toNat) (E := 3) (size := 1) (enc := Go.E.encI) rfl underlying28 sz27 by27 ze27 rfl rfl (by show Value.int _ _ = _; rw [Int.toNat_of_nonneg u5.1]) (by show Value.int _ _ = _; rw [Int.toNat_of_nonneg u5.1]) (by omega) (by decide) rfl (fun a231 c232 zf233 => (kc 4 ?_)))
     refine TA.front 1 z z (TA.ac 8 z (storeSl z sz28 z z z z z (kc 4 ?_)))
     refine TA.front 2 z z (TA.ac 9 z (storeSl z sz28 z z z z z (kc 4 ?_)))
     exact TA.dn (S.n (cf ((), (b227, a231, c232, b201, a139, c140)) ⟨hh, zf233, zf141⟩ (Sub.f [3, 1, 3, 3, 4] 5)))
  ·skip
   refine TA.actN [2, 5, 7] (by kernel_rfl) (an rfl rfl (makeN (q := x0.states.toNat) (E := 3) (size := 1) (enc := Go.E.encI) rfl underlying28 sz27 by27 ze27 rfl rfl (by show Value.int _ _ = _; rw [Int.toNat_of_nonneg u5.1]) (by show Value.int _ _ = _; rw [Int.toNat_of_nonneg u5.1]) (by omega) (by decide) rfl (fun a235 c236 zf237 => (k2 ?_))) (an rfl rfl (makeN (q := x0.states.toNat) (E := 3) (size := 1) (enc := Go.E.encI) rfl underlying28 sz27 by27 ze27 rfl rfl (by show Value.int _ _ = _; rw [Int.toNat_of_nonneg u8.1]) (by show Value.int _ _ = _; rw [Int.toNat_of_nonneg u8.1]) (by omega) (by decide) rfl (fun a239 c240 zf241 => (k2 ?_))) (an rfl rfl (OpOk.alloc rfl ze28 rfl rfl (fun b243 => (k2 ?_))) (True.intro))))
   ·skip
    refine TA.actN [5, 7] (by kernel_rfl) (an rfl rfl (makeN (q := x0.states.toNat) (E := 3) (size := 1) (enc := Go.E.encI) rfl underlying28 sz27 by27 ze27 rfl rfl (by show Value.int _ _ = _; rw [Int.toNat_of_nonneg u8.1]) (by show Value.int _ _ = _; rw [Int.toNat_of_nonneg u8.1]) (by omega) (by decide) rfl (fun a245 c246 zf247 => (k3 ?_))) (an rfl rfl (OpOk.alloc rfl ze28 rfl rfl (fun b249 => (k3 ?_))) (True.intro)))
    ·skip
     refine TA.ac 7 z (OpOk.alloc z ze28 z z (fun b251 => (kc 4 ?_)))
     refine TA.front 3 z z (TA.ac 8 z (storeSl z sz28 z z z z z (kc 4 ?_)))
     refine TA.front 1 z z (TA.ac 9 z (storeSl z sz28 z z z z z (kc 4 ?_)))
     exact TA.dn (S.n (cf ((), (b143, a235, c236, b251, a245, c246)) ⟨hh, zf237, zf247⟩ (Sub.f [2, 1, 3, 3, 4] 5)))
    ·skip
     refine TA.actN [5, 8] (by kernel_rfl) (an rfl rfl (makeN (q := x0.states.toNat) (E := 3) (size := 1) (enc := Go.E.encI) rfl underlying28 sz27 by27 ze27 rfl rfl (by show Value.int _ _ = _; rw [Int.toNat_of_nonneg u8.1]) (by show Value.int _ _ = _; rw [Int.toNat_of_nonneg u8.1]) (by omega) (by decide) rfl (fun a253 c254 zf255 => (kc 4 ?_))) (an rfl rfl (OpOk.front 2 rfl rfl (storeSl rfl sz28 rfl rfl rfl rfl rfl (k3 ?_))) (True.intro)))
     ·skip
      refine TA.front 3 z z (TA.ac 8 z (storeSl z sz28 z z z z z (kc 4 ?_)))
      refine TA.front 2 z z (TA.ac 9 z (storeSl z sz28 z z z z z (kc 4 ?_)))
      exact TA.dn (S.n (cf ((), (b143, a235, c236, b249, a253, c254)) ⟨hh, zf237, zf255⟩ (Sub.f [2, 1, 3, 3, 4] 5)))
     ·skip
      refine TA.ac 5 rfl (makeN (q := x0.states.toNat) (E := 3) (size := 1) (enc := Go.E.encI) rfl underlying28 sz27 by27 ze27 rfl rfl (by show Value.int _ _ = _; rw [Int.toNat_of_nonneg u8.1]) (by show Value.int _ _ = _; rw [Int.toNat_of_nonneg u8.1]) (by omega) (by decide) rfl (fun a257 c258 zf259 => (kc 4 ?_)))
      refine TA.front 2 z z (TA.ac 9 z (storeSl z sz28 z z z z z (kc 4 ?_)))
      exact TA.dn (S.n (cf ((), (b143, a235, c236, b249, a257, c258)) ⟨hh, zf237, zf259⟩ (Sub.f [1, 1, 3, 3, 4] 5)))
   ·skip
    refine TA.actN [2, 7] (by kernel_rfl) (an rfl rfl (makeN (q := x0.states.toNat) (E := 3) (size := 1) (enc := Go.E.encI) rfl underlying28 sz27 by27 ze27 rfl rfl (by show Value.int _ _ = _; rw [Int.toNat_of_nonneg u5.1]) (by show Value.int _ _ = _; rw [Int.toNat_of_nonneg u5.1]) (by omega) (by decide) rfl (fun a261 c262 zf263 => (k3 ?_))) (an rfl rfl (OpOk.alloc rfl ze28 rfl rfl (fun b265 => (k3 ?_))) (True.intro)))
    ·skip
     refine TA.ac 7 z (OpOk.alloc z ze28 z z (fun b267 => (kc 4 ?_)))
     refine TA.front 3 z z (TA.ac 8 z (storeSl z sz28 z z z z z (kc 4 ?_)))
     refine TA.front 1 z z (TA.ac 9 z (storeSl z sz28 z z z z z (kc 4 ?_)))
     exact TA.dn (S.n (cf ((), (b143, a261, c262, b267, a239, c240)) ⟨hh, zf263, zf241⟩ (Sub.f [3, 1, 3, 3, 4] 5)))
    ·skip
     refine TA.ac 2 rfl (makeN (q := x0.states.toNat) (E := 3) (size := 1) (enc := Go.E.encI) rfl underlying28 sz27 by27 ze27 rfl rfl (by show Value.int _ _ = _; rw [Int.toNat_of_nonneg u5.1]) (by show Value.int _ _ = _; rw [Int.toNat_of_nonneg u5.1]) (by omega) (by decide) rfl (fun a269 c270 zf271 => (kc 4 ?_)))
     refine TA.front 3 z z (TA.ac 8 z (storeSl z sz28 z z z z z (kc 4 ?_)))
     refine TA.front 2 z z (TA.ac 9 z (storeSl z sz28 z z z z z (kc 4 ?_)))
     exact TA.dn (S.n (cf ((), (b143, a269, c270, b265, a239, c240)) ⟨hh, zf271, zf241⟩ (Sub.f [3, 1, 3, 3, 4] 5)))
   ·skip
    refine TA.actN [2, 5] (by kernel_rfl) (an rfl rfl (makeN (q := x0.states.toNat) (E := 3) (size := 1) (enc := Go.E.encI) rfl underlying28 sz27 by27 ze27 rfl rfl (by show Value.int _ _ = _; rw [Int.toNat_of_nonneg u5.1]) (by show Value.int _ _ = _; rw [Int.toNat_of_nonneg u5.1]) (by omega) (by decide) rfl (fun a273 c274 zf275 => (k3 ?_))) (an rfl rfl (makeN (q := x0.states.toNat) (E := 3) (size := 1) (enc := Go.E.encI) rfl underlying28 sz27 by27 ze27 rfl rfl (by show Value.int _ _ = _; rw [Int.toNat_of_nonneg u8.1]) (by show Value.int _ _ = _; rw [Int.toNat_of_nonneg u8.1]) (by omega) (by decide) rfl (fun a277 c278 zf279 => (k3 ?_))) (True.intro)))
    ·skip
     refine TA.actN [5, 8] (by kernel_rfl) (an rfl rfl (makeN (q := x0.states.toNat) (E := 3) (size := 1) (enc := Go.E.encI) rfl underlying28 sz27 by27 ze27 rfl rfl (by show Value.int _ _ = _; rw [Int.toNat_of_nonneg u8.1]) (by show Value.int _ _ = _; rw [Int.toNat_of_nonneg u8.1]) (by omega) (by decide) rfl (fun a281 c282 zf283 => (kc 4 ?_))) (an rfl rfl (OpOk.front 2 rfl rfl (storeSl rfl sz28 rfl rfl rfl rfl rfl (k3 ?_))) (True.intro)))
     ·skip
      refine TA.front 3 z z (TA.ac 8 z (storeSl z sz28 z z z z z (kc 4 ?_)))
      refine TA.front 3 z z (TA.ac 9 z (storeSl z sz28 z z z z z (kc 4 ?_)))
      exact TA.dn (S.n (cf ((), (b143, a273, c274, b243, a281, c282)) ⟨hh, zf275, zf283⟩ (Sub.f [2, 1, 3, 3, 4] 5)))
     ·skip
      refine TA.ac 5 rfl (makeN (q := x0.states.toNat) (E := 3) (size := 1) (enc := Go.E.encI) rfl underlying28 sz27 by27 ze27 rfl rfl (by show Value.int _ _ = _; rw [Int.toNat_of_nonneg u8.1]) (by show Value.int _ _ = _; rw [Int.toNat_of_nonneg u8.1]) (by omega) (by decide) rfl (fun a285 c286 zf287 => (kc 4 ?_)))
      refine TA.front 3 z z (TA.ac 9 z (storeSl z sz28 z z z z z (kc 4 ?_)))
      exact TA.dn (S.n (cf ((), (b143, a273, c274, b243, a285, c286)) ⟨hh, zf275, zf287⟩ (Sub.f [1, 1, 3, 3, 4] 5)))
    ·skip
     refine TA.ac 2 rfl (makeN (q := x0.states.toNat) (E := 3) (size := 1) (enc := Go.E.encI) rfl underlying28 sz27 by27 ze27 rfl rfl (by show Value.int _ _ = _; rw [Int.toNat_of_nonneg u5.1]) (by show Value.int _ _ = _; rw [Int.toNat_of_nonneg u5.1]) (by omega) (by decide) rfl (fun a289 c290 zf291 => (kc 4 ?_)))
     refine TA.front 3 z z (TA.ac 8 z (storeSl z sz28 z z z z z (kc 4 ?_)))
     refine TA.front 3 z z (TA.ac 9 z (storeSl z sz28 z z z z z (kc 4 ?_)))
     exact TA.dn (S.n (cf ((), (b143, a289, c290, b243, a277, c278)) ⟨hh, zf291, zf279⟩ (Sub.f [3, 1, 3, 3, 4] 5)))
  ·skip
   refine TA.actN [2, 5, 6] (by kernel_rfl) (an rfl rfl (makeN (q := x0.states.toNat) (E := 3) (size := 1) (enc := Go.E.encI) rfl underlying28 sz27 by27 ze27 rfl rfl (by show Value.int _ _ = _; rw [Int.toNat_of_nonneg u5.1]) (by show Value.int _ _ = _; rw [Int.toNat_of_nonneg u5.1]) (by omega) (by decide) rfl (fun a293 c294 zf295 => (k2 ?_))) (an rfl rfl (makeN (q := x0.states.toNat) (E := 3) (size := 1) (enc := Go.E.encI) rfl underlying28 sz27 by27 ze27 rfl rfl (by show Value.int _ _ = _; rw [Int.toNat_of_nonneg u8.1]) (by show Value.int _ _ = _; rw [Int.toNat_of_nonneg u8.1]) (by omega) (by decide) rfl (fun a297 c298 zf299 => (k2 ?_))) (an rfl rfl (OpOk.alloc rfl ze28 rfl rfl (fun b301 => (k2 ?_))) (True.intro))))
   ·skip
    refine TA.actN [5, 6] (by kernel_rfl) (an rfl rfl (makeN (q := x0.states.toNat) (E := 3) (size := 1) (enc := Go.E.encI) rfl underlying28 sz27 by27 ze27 rfl rfl (by show Value.int _ _ = _; rw [Int.toNat_of_nonneg u8.1]) (by show Value.int _ _ = _; rw [Int.toNat_of_nonneg u8.1]) (by omega) (by decide) rfl (fun a303 c304 zf305 => (k3 ?_))) (an rfl rfl (OpOk.alloc rfl ze28 rfl rfl (fun b307 => (k3 ?_))) (True.intro)))
    ·skip
     refine TA.ac 6 z (OpOk.alloc z ze28 z z (fun b309 => (kc 4 ?_)))
     refine TA.ac 8 z (storeSl z sz28 z z z z z (kc 4 ?_))
     refine TA.front 3 z z (TA.ac 9 z (storeSl z sz28 z z z z z (kc 4 ?_)))
     exact TA.dn (S.n (cf ((), (b309, a293, c294, b145, a303, c304)) ⟨hh, zf295, zf305⟩ (Sub.f [2, 1, 3, 3, 4] 5)))
    ·skip
     refine TA.actN [5, 8] (by kernel_rfl) (an rfl rfl (makeN (q := x0.states.toNat) (E := 3) (size := 1) (enc := Go.E.encI) rfl underlying28 sz27 by27 ze27 rfl rfl (by show Value.int _ _ = _; rw [Int.toNat_of_nonneg u8.1]) (by show Value.int _ _ = _; rw [Int.toNat_of_nonneg u8.1]) (by omega) (by decide) rfl (fun a311 c312 zf313 => (kc 4 ?_))) (an rfl rfl (storeSl rfl sz28 rfl rfl rfl rfl rfl (k3 ?_)) (True.intro)))
     ·skip
      refine TA.front 1 z z (TA.ac 8 z (storeSl z sz28 z z z z z (kc 4 ?_)))
      refine TA.front 3 z z (TA.ac 9 z (storeSl z sz28 z z z z z (kc 4 ?_)))
      exact TA.dn (S.n (cf ((), (b307, a293, c294, b145, a311, c312)) ⟨hh, zf295, zf313⟩ (Sub.f [2, 1, 3, 3, 4] 5)))
     ·skip
      refine TA.ac 5 rfl (makeN (q := x0.states.toNat) (E := 3) (size := 1) (enc := Go.E.encI) rfl underlying28 sz27 by27 ze27 rfl rfl (by show Value.int _ _ = _; rw [Int.toNat_of_nonneg u8.1]) (by show Value.int _ _ = _; rw [Int.toNat_of_nonneg u8.1]) (by omega) (by decide) rfl (fun a315 c316 zf317 => (kc 4 ?_)))
      refine TA.front 3 z z (TA.ac 9 z (storeSl z sz28 z z z z z (kc 4 ?_)))
      exact TA.dn (S.n (cf ((), (b307, a293, c294, b145, a315, c316)) ⟨hh, zf295, zf317⟩ (Sub.f [1, 1, 3, 3, 4] 5)))
   ·skip
    refine TA.actN [2, 6] (by kernel_rfl) (an rfl rfl (makeN (q := x0.states.toNat) (E := 3) (size := 1) (enc := Go.E.encI) rfl underlying28 sz27 by27 ze27 rfl rfl (by show Value.int _ _ = _; rw [Int.toNat_of_nonneg u5.1]) (by show Value.int _ _ = _; rw [Int.toNat_of_nonneg u5.1]) (by omega) (by decide) rfl (fun a319 c320 zf321 => (k3 ?_))) (an rfl rfl (OpOk.alloc rfl ze28 rfl rfl (fun b323 => (k3 ?_))) (True.intro)))
    ·skip
     refine TA.ac 6 z (OpOk.alloc z ze28 z z (fun b325 => (kc 4 ?_)))
     refine TA.ac 8 z (storeSl z sz28 z z z z z (kc 4 ?_))
     refine TA.front 3 z z (TA.ac 9 z (storeSl z sz28 z z z z z (kc 4 ?_)))
     exact TA.dn (S.n (cf ((), (b325, a319, c320, b145, a297, c298)) ⟨hh, zf321, zf299⟩ (Sub.f [3, 1, 3, 3, 4] 5)))
    ·skip
     refine TA.ac 2 rfl (makeN (q := x0.states.toNat) (E := 3) (size := 1) (enc := Go.E.encI) rfl underlying28 sz27 by27 ze27 rfl rfl (by show Value.int _ _ = _; rw [Int.toNat_of_nonneg u5.1]) (by show Value.int _ _ = _; rw [Int.toNat_of_nonneg u5.1]) (by omega) (by decide) rfl (fun a327 c328 zf329 => (kc 4 ?_)))
     refine TA.front 1 z z (TA.ac 8 z (storeSl z sz28 z z z z z (kc 4 ?_)))
     refine TA.front 3 z z (TA.ac 9 z (storeSl z sz28 z z z z z (kc 4 ?_)))
     exact TA.dn (S.n (cf ((), (b323, a327, c328, b145, a297, c298)) ⟨hh, zf329, zf299⟩ (Sub.f [3, 1, 3, 3, 4] 5)))
   ·skip
    refine TA.actN [2, 5] (by kernel_rfl) (an rfl rfl (makeN (q := x0.states.toNat) (E := 3) (size := 1) (enc := Go.E.encI) rfl underlying28 sz27 by27 ze27 rfl rfl (by show Value.int _ _ = _; rw [Int.toNat_of_nonneg u5.1]) (by show Value.int _ _ = _; rw [Int.toNat_of_nonneg u5.1]) (by omega) (by decide) rfl (fun a331 c332 zf333 => (k3 ?_))) (an rfl rfl (makeN (q := x0.states.toNat) (E := 3) (size := 1) (enc := Go.E.encI) rfl underlying28 sz27 by27 ze27 rfl rfl (by show Value.int _ _ = _; rw [Int.toNat_of_nonneg u8.1]) (by show Value.int _ _ = _; rw [Int.toNat_of_nonneg u8.1]) (by omega) (by decide) rfl (fun a335 c336 zf337 => (k3 ?_))) (True.intro)))
    ·skip
     refine TA.actN [5, 8] (by kernel_rfl) (an rfl rfl (makeN (q := x0.states.toNat) (E := 3) (size := 1) (enc := Go.E.encI) rfl underlying28 sz27 by27 ze27 rfl rfl (by show Value.int _ _ = _; rw [Int.toNat_of_nonneg u8.1]) (by show Value.int _ _ = _; rw [Int.toNat_of_nonneg u8.1]) (by omega) (by decide) rfl (fun a339 c340 zf341 => (kc 4 ?_))) (an rfl rfl (OpOk.front 1 rfl rfl (storeSl rfl sz28 rfl rfl rfl rfl rfl (k3 ?_))) (True.intro)))
     ·skip
      refine TA.front 2 z z (TA.ac 8 z (storeSl z sz28 z z z z z (kc 4 ?_)))
      refine TA.front 3 z z (TA.ac 9 z (storeSl z sz28 z z z z z (kc 4 ?_)))
      exact TA.dn (S.n (cf ((), (b301, a331, c332, b145, a339, c340)) ⟨hh, zf333, zf341⟩ (Sub.f [2, 1, 3, 3, 4] 5)))
     ·skip
      refine TA.ac 5 rfl (makeN (q := x0.states.toNat) (E := 3) (size := 1) (enc := Go.E.encI) rfl underlying28 sz27 by27 ze27 rfl rfl (by show Value.int _ _ = _; rw [Int.toNat_of_nonneg u8.1]) (by show Value.int _ _ = _; rw [Int.toNat_of_nonneg u8.1]) (by omega) (by decide) rfl (fun a343 c344 zf345 => (kc 4 ?_)))
      refine TA.front 3 z z (TA.ac 9 z (storeSl z sz28 z z z z z (kc 4 ?_)))
      exact TA.dn (S.n (cf ((), (b301, a331, c332, b145, a343, c344)) ⟨hh, zf333, zf345⟩ (Sub.f [1, 1, 3, 3, 4] 5)))
    ·skip
     refine TA.ac 2 rfl (makeN (q := x0.states.toNat) (E := 3) (size := 1) (enc := Go.E.encI) rfl underlying28 sz27 by27 ze27 rfl rfl (by show Value.int _ _ = _; rw [Int.toNat_of_nonneg u5.1]) (by show Value.int _ _ = _; rw [Int.toNat_of_nonneg u5.1]) (by omega) (by decide) rfl (fun a347 c348 zf349 => (kc 4 ?_)))
     refine TA.front 2 z z (TA.ac 8 z (storeSl z sz28 z z z z z (kc 4 ?_)))
     refine TA.front 3 z z (TA.ac 9 z (storeSl z sz28 z z z z z (kc 4 ?_)))
     exact TA.dn (S.n (cf ((), (b301, a347, c348, b145, a335, c336)) ⟨hh, zf349, zf337⟩ (Sub.f [3, 1, 3, 3, 4] 5)))
 ·skip
  obtain ⟨_, ⟨b112, a114, c115, b118, a120, c121⟩⟩ := g
  obtain ⟨hh, zf116, zf122⟩ := hg
  try dsimp only at zf116 zf122 ⊢
  dsimp only [Dw_] at hh
  have zf116b := zf116.len
  have zf122b := zf122.len
  refine TC.know (isSl_nest (q := 2) z zf116) (fun ⟨_, hb351⟩ => ?_)
  refine TC.know (isSl_nest (q := 4) z zf122) (fun ⟨_, hb352⟩ => ?_)
  refine TC.seq (TC.a (TL.w z (fieldLoc z fo25_3 z) (TL.w z (loadLoc z ag23 z (i := 0) z z) (TL.w z (lenC z underlying23 z) (TL.i z z (TL.en (TC.block (TC.loopG (α := ((List (List Int)) × (List (List Int)) × Nat) × ((List (NP Int)) × (List (NP Int)))) (rgs [(6, 1), (16, 31)]) (fun g => [(16, .int .i64 ((g.1.2.2 : Nat) : Int))]) (fun g => [Res.cells b109 #[.int .i64 x0.states, .slice a0_0 x0.starts.length c0_0, .slice a0_1 x0.ends.length c0_1, .slice a0_2 x0.arcs.length c0_2] 25, Res.cells b112 #[.slice a114 ((List.replicate x0.states.toNat ([] : List Int)).length) c115] 28, Res.nest 27 3 1 Go.E.encI (.slice a114 (List.replicate x0.states.toNat ([] : List Int)).length c115) g.2.1, Res.cells b118 #[.slice a120 g.1.2.1.length c121] 28, Res.nest 27 3 1 Go.E.encI (.slice a120 g.1.2.1.length c121) g.2.2]) (fun g => σ) (fun g => iter (fun q : (List (List Int)) × (List (List Int)) × Nat => A7_ x0 q.1 q.2.1 q.2.2) g.1 = some r ∧ g.1.1.length = (List.replicate x0.states.toNat ([] : List Int)).length ∧ Zn g.2.1 g.1.1 ∧ Zn g.2.2 g.1.2.1) (fun g => rounds (fun q : (List (List Int)) × (List (List Int)) × Nat => A7_ x0 q.1 q.2.1 q.2.2) g.1) (((List.replicate x0.states.toNat ([] : List Int)), (List.replicate x0.states.toNat ([] : List Int)), 0), ((List.replicate x0.states.toNat (nilN : NP Int)), (List.replicate x0.states.toNat (nilN : NP Int)))) (Sub.f [4, 4, 4, 4, 4] 5) z (by repeat (first | exact trivial | refine ⟨z, ?_⟩)) ⟨hh, z, zf116, zf122⟩ (fun g1 j1 hg1 => ?_)))))))))
  obtain ⟨⟨l387, l391, k394⟩, ⟨z389, z392⟩⟩ := g1
  obtain ⟨hh, hn388, zf390, zf393⟩ := hg1
  try dsimp only at hn388 zf390 zf393 ⊢
  obtain ⟨z1, hh, hR1⟩ := iter_e hh
  dsimp only [A7_] at hh
  have hn388b := hn388
  have zf390b := zf390.len
  have zf393b := zf393.len
  refine TC.know (isSl_nest (q := 2) z zf390) (fun ⟨_, hb395⟩ => ?_)
  refine TC.know (isSl_nest (q := 4) z zf393) (fun ⟨_, hb396⟩ => ?_)
  refine TC.a (TL.w z (OpVal.lss z z z) (TL.en (TC.seq (TC.cD z hh (fun h397 hh => ?_) (fun h397 hh => ?_)))))
  ·refine TC.skip (S.n (TC.cutG (α := (Unit) × ((List (NP Int)) × (List (NP Int)))) (rgs [(6, 1), (18, 28)]) (fun g => []) (fun g => [Res.cells b109 #[.int .i64 x0.states, .slice a0_0 x0.starts.length c0_0, .slice a0_1 x0.ends.length c0_1, .slice a0_2 x0.arcs.length c0_2] 25, Res.cells b112 #[.slice a114 ((List.replicate x0.states.toNat ([] : List Int)).length) c115] 28, Res.nest 27 3 1 Go.E.encI (.slice a114 (List.replicate x0.states.toNat ([] : List Int)).length c115) g.2.1, Res.cells b118 #[.slice a120 l391.length c121] 28, Res.nest 27 3 1 Go.E.encI (.slice a120 l391.length c121) g.2.2]) (fun g => σ) (fun g => Dy_ l387 x0 k394 l391 = some z1 ∧ (l387.set (((nth x0.arcs k394 Arc.zero).frm).toNat) ((nth l387 (((nth x0.arcs k394 Arc.zero).frm).toNat) ([] : List Int)) ++ [(nth x0.arcs k394 Arc.zero).to])).length = (List.replicate x0.states.toNat ([] : List Int)).length ∧ Zn g.2.1 (l387.set (((nth x0.arcs k394 Arc.zero).frm).toNat) ((nth l387 (((nth x0.arcs k394 Arc.zero).frm).toNat) ([] : List Int)) ++ [(nth x0.arcs k394 Arc.zero).to])) ∧ (l391.set (((nth x0.arcs k394 Arc.zero).to).toNat) ((nth l391 (((nth x0.arcs k394 Arc.zero).to).toNat) ([] : List Int)) ++ [(nth x0.arcs k394 Arc.zero).frm])).length = l391.length ∧ Zn g.2.2 (l391.set (((nth x0.arcs k394 Arc.zero).to).toNat) ((nth l391 (((nth x0.arcs k394 Arc.zero).to).toNat) ([] : List Int)) ++ [(nth x0.arcs k394 Arc.zero).frm]))) ?_ (fun g j hg => ?_)))
   ·skip
    refine TC.block (TC.a (TL.w z (indexN z underlying23 sz59 z z f0_2.rv.sl (by omega)) (TL.w z (loadSA Arc.zero z ag59 sz59 z f0_2 (by omega) (by omega)) (TL.op z (OpOk.alloc z ze59 z z (fun b404 => ?_))))))
    refine TL.op z (storeAll z sz59 z z z z z z ?_)
    refine TL.en (TC.cutG (α := (Unit) × ((List (NP Int)))) (rgs [(20, 13)]) (fun g => []) (fun g => [Res.cells b109 #[.int .i64 x0.states, .slice a0_0 x0.starts.length c0_0, .slice a0_1 x0.ends.length c0_1, .slice a0_2 x0.arcs.length c0_2] 25, Res.cells b112 #[.slice a114 ((List.replicate x0.states.toNat ([] : List Int)).length) c115] 28, Res.nest 27 3 1 Go.E.encI (.slice a114 (List.replicate x0.states.toNat ([] : List Int)).length c115) g.2, Res.cells b118 #[.slice a120 l391.length c121] 28, Res.nest 27 3 1 Go.E.encI (.slice a120 l391.length c121) z392, Res.cells b404 #[.int .i64 ((nth x0.arcs k394 Arc.zero).frm), .int .i64 ((nth x0.arcs k394 Arc.zero).to), .int .u64 ((((nth x0.arcs k394 Arc.zero).set).a : Nat) : Int), .int .u64 ((((nth x0.arcs k394 Arc.zero).set).b : Nat) : Int), .int .u64 ((((nth x0.arcs k394 Arc.zero).set).c : Nat) : Int), .int .u64 ((((nth x0.arcs k394 Arc.zero).set).d : Nat) : Int), .string (bs ((nth x0.arcs k394 Arc.zero).out)), .bool ((nth x0.arcs k394 Arc.zero).copy)] 59]) (fun g => σ) (fun g => Du_ x0 k394 l391 l387 = some z1 ∧ (l387.set (((nth x0.arcs k394 Arc.zero).frm).toNat) ((nth l387 (((nth x0.arcs k394 Arc.zero).frm).toNat) ([] : List Int)) ++ [(nth x0.arcs k394 Arc.zero).to])).length = (List.replicate x0.states.toNat ([] : List Int)).length ∧ Zn g.2 (l387.set (((nth x0.arcs k394 Arc.zero).frm).toNat) ((nth l387 (((nth x0.arcs k394 Arc.zero).frm).toNat) ([] : List Int)) ++ [(nth x0.arcs k394 Arc.zero).to])) ∧ Zn z392 l391) ?_ (fun g j hg => ?_))
    ·skip
     have u28 := grd_c hh
     replace hh := grd_t hh
     have u33 := grd_c hh
     replace hh := grd_t hh
     have u34 := grd_c hh
     replace hh := grd_t hh
     refine TC.drawR (Hr := [Res.cells b404 #[.int .i64 ((nth x0.arcs k394 Arc.zero).frm), .int .i64 ((nth x0.arcs k394 Arc.zero).to), .int .u64 ((((nth x0.arcs k394 Arc.zero).set).a : Nat) : Int), .int .u64 ((((nth x0.arcs k394 Arc.zero).set).b : Nat) : Int), .int .u64 ((((nth x0.arcs k394 Arc.zero).set).c : Nat) : Int), .int .u64 ((((nth x0.arcs k394 Arc.zero).set).d : Nat) : Int), .string (bs ((nth x0.arcs k394 Arc.zero).out)), .bool ((nth x0.arcs k394 Arc.zero).copy)] 59, Res.cells b109 #[.int .i64 x0.states, .slice a0_0 x0.starts.length c0_0, .slice a0_1 x0.ends.length c0_1, .slice a0_2 x0.arcs.length c0_2] 25, Res.cells b112 #[.slice a114 ((List.replicate x0.states.toNat ([] : List Int)).length) c115] 28, Res.cells b118 #[.slice a120 l391.length c121] 28, Res.nest 27 3 1 Go.E.encI (.slice a120 l391.length c121) z392]) (fun r hr => mem_pick [0, 1, 2, 4, 5] z hr) [] (by kernel_rfl) (TA.b 0 z (loadLoc z ag28 z (i := 2) z z) z (TA.a 1 z (fieldLoc z fo59_0 z) z (TA.b 2 z (loadLoc z ag3 z (i := 0) z z) z (TA.b 3 z (loadLoc z ag28 z (i := 2) z z) z (TA.a 4 z (fieldLoc z fo59_0 z) z (TA.b 5 z (loadLoc z ag3 z (i := 0) z z) z (TA.know (isSl_nest (q := 3) z zf390) (fun ⟨hs421, hs421b⟩ => ?_))))))))
     refine TA.b 6 z (OpVal.index z underlying28 sz27 z z hs421 u28.1 u28.2) z (TA.a 8 z (fieldLoc z fo59_1 z) z (TA.b 9 z (loadLoc z ag3 z (i := 0) z z) z ?_))
     obtain ⟨p422, hz422, hm422⟩ := Zn.at zf390 (i := ((nth x0.arcs k394 Arc.zero).frm).toNat) (by omega)
     refine TA.actN [7, 10] (by kernel_rfl) (an z z (OpVal.ok (loadN z ag27 z (q := 3) z hz422 hm422) z z ⟨(fun w h => sees_of (Store.le.refl _) (fun r hr => mem_pick [0, 1, 2, 4, 5] z hr) w h), ?_⟩) (an z z (OpOk.lit (enc := Go.E.encI) [(nth x0.arcs k394 Arc.zero).to] z underlying27 sz3 ze3 z z z Go.E.encI_len (by decide) (by decide) (0 : Int) z (by decide) z (by decide) Go.E.encI_one (fun a423 c424 => ⟨(fun w h => sees_of (Store.le.refl _) (fun r hr => mem_pick [1, 2, 3, 5, 6] z hr) w h), ?_⟩)) (True.intro)))
     ·skip
      refine TA.ac 10 z (OpOk.lit (enc := Go.E.encI) [(nth x0.arcs k394 Arc.zero).to] z underlying27 sz3 ze3 z z z Go.E.encI_len (by decide) (by decide) (0 : Int) z (by decide) z (by decide) Go.E.encI_one (fun a426 c427 => ⟨(fun w h => sees_of (Store.le.refl _) (fun r hr => mem_pick [1, 2, 3, 5, 6] z hr) w h), ?_⟩))
      refine TA.front 4 z z (TA.by (fun w h => Reach.takeN hz422 hm422 h) (TA.ac 11 z (appendS z z underlying27 sz3 by3 ze3 z z (by decide) z z z (.inr ⟨_, 1, z⟩) (by simpa using u33) (by decide) (fun a430 c431 => (k3 ?_)))))
      refine TA.know (isSl_nestX (q := 1) z zf390) (fun ⟨hs432, hs432b⟩ => ?_)
      refine TA.b 12 z (OpVal.index z underlying28 sz27 z z hs432 u34.1 u34.2) z (TA.front 1 z z (TA.front 1 z z ?_))
      have hn434 : (l387.set (((nth x0.arcs k394 Arc.zero).frm).toNat) ((nth l387 (((nth x0.arcs k394 Arc.zero).frm).toNat) ([] : List Int)) ++ [(nth x0.arcs k394 Arc.zero).to])).length = (List.replicate x0.states.toNat ([] : List Int)).length := (List.length_set ..).trans hn388
      refine TA.ac 13 rfl (storeX (l' := ((nth l387 (((nth x0.arcs k394 Arc.zero).frm).toNat) ([] : List Int)) ++ [(nth x0.arcs k394 Arc.zero).to])) rfl sz27 rfl rfl rfl rfl rfl (by rw [zf390.len]; omega) zf390 (fun zf433 => (k2 ?_)))
      exact TA.dn (S.n (cf ((), (z389.set (((nth x0.arcs k394 Arc.zero).frm).toNat) (((nth l387 (((nth x0.arcs k394 Arc.zero).frm).toNat) ([] : List Int)) ++ [(nth x0.arcs k394 Arc.zero).to]), (a430, c431)))) ⟨hh, hn434, zf433, zf393⟩ (Sub.f [2, 6, 6, 3, 6, 6] 6)))
     ·skip
      obtain ⟨p435, hz435, hm435⟩ := Zn.at zf390 (i := ((nth x0.arcs k394 Arc.zero).frm).toNat) (by omega)
      refine TA.ac 7 z (OpVal.ok (loadN z ag27 z (q := 4) z hz435 hm435) z z ⟨(fun w h => sees_of (Store.le.refl _) (fun r hr => mem_pick [1, 2, 3, 5, 6] z hr) w h), ?_⟩)
      refine TA.front 4 z z (TA.by (fun w h => Reach.takeN hz435 hm435 h) (TA.ac 11 z (appendS z z underlying27 sz3 by3 ze3 z z (by decide) z z z (.inr ⟨_, 1, z⟩) (by simpa using u33) (by decide) (fun a437 c438 => (k3 ?_)))))
      refine TA.know (isSl_nestX (q := 1) z zf390) (fun ⟨hs439, hs439b⟩ => ?_)
      refine TA.b 12 z (OpVal.index z underlying28 sz27 z z hs439 u34.1 u34.2) z (TA.front 1 z z (TA.front 1 z z ?_))
      have hn441 : (l387.set (((nth x0.arcs k394 Arc.zero).frm).toNat) ((nth l387 (((nth x0.arcs k394 Arc.zero).frm).toNat) ([] : List Int)) ++ [(nth x0.arcs k394 Arc.zero).to])).length = (List.replicate x0.states.toNat ([] : List Int)).length := (List.length_set ..).trans hn388
      refine TA.ac 13 rfl (storeX (l' := ((nth l387 (((nth x0.arcs k394 Arc.zero).frm).toNat) ([] : List Int)) ++ [(nth x0.arcs k394 Arc.zero).to])) rfl sz27 rfl rfl rfl rfl rfl (by rw [zf390.len]; omega) zf390 (fun zf440 => (k2 ?_)))
      exact TA.dn (S.n (cf ((), (z389.set (((nth x0.arcs k394 Arc.zero).frm).toNat) (((nth l387 (((nth x0.arcs k394 Arc.zero).frm).toNat) ([] : List Int)) ++ [(nth x0.arcs k394 Arc.zero).to]), (a437, c438)))) ⟨hh, hn441, zf440, zf393⟩ (Sub.f [2, 6, 6, 3, 6, 6] 6)))
    ·skip
     obtain ⟨_, z407⟩ := g
     obtain ⟨hh, hn406, zf408, zf409⟩ := hg
     try dsimp only at hn406 zf408 zf409 ⊢
     dsimp only [Du_] at hh
     have hn406b := hn406
     have zf408b := zf408.len
     have zf409b := zf409.len
     refine TC.know (isSl_nest (q := 2) z zf408) (fun ⟨_, hb442⟩ => ?_)
     refine TC.know (isSl_nest (q := 4) z zf409) (fun ⟨_, hb443⟩ => ?_)
     have u42 := grd_c hh
     replace hh := grd_t hh
     have u47 := grd_c hh
     replace hh := grd_t hh
     have u48 := grd_c hh
     replace hh := grd_t hh
     refine TC.drawR (Hr := [Res.cells b109 #[.int .i64 x0.states, .slice a0_0 x0.starts.length c0_0, .slice a0_1 x0.ends.length c0_1, .slice a0_2 x0.arcs.length c0_2] 25, Res.cells b112 #[.slice a114 ((List.replicate x0.states.toNat ([] : List Int)).length) c115] 28, Res.nest 27 3 1 Go.E.encI (.slice a114 (List.replicate x0.states.toNat ([] : List Int)).length c115) z407, Res.cells b118 #[.slice a120 l391.length c121] 28, Res.cells b404 #[.int .i64 ((nth x0.arcs k394 Arc.zero).frm), .int .i64 ((nth x0.arcs k394 Arc.zero).to), .int .u64 ((((nth x0.arcs k394 Arc.zero).set).a : Nat) : Int), .int .u64 ((((nth x0.arcs k394 Arc.zero).set).b : Nat) : Int), .int .u64 ((((nth x0.arcs k394 Arc.zero).set).c : Nat) : Int), .int .u64 ((((nth x0.arcs k394 Arc.zero).set).d : Nat) : Int), .string (bs ((nth x0.arcs k394 Arc.zero).out)), .bool ((nth x0.arcs k394 Arc.zero).copy)] 59]) (fun r hr => mem_pick [0, 1, 2, 3, 5] z hr) [] (by kernel_rfl) (TA.b 0 z (loadLoc z ag28 z (i := 3) z z) z (TA.a 1 z (fieldLoc z fo59_1 z) z (TA.b 2 z (loadLoc z ag3 z (i := 4) z z) z (TA.b 3 z (loadLoc z ag28 z (i := 3) z z) z (TA.a 4 z (fieldLoc z fo59_1 z) z (TA.b 5 z (loadLoc z ag3 z (i := 4) z z) z (TA.know (isSl_nest (q := 4) z zf409) (fun ⟨hs455, hs455b⟩ => ?_))))))))
     refine TA.b 6 z (OpVal.index z underlying28 sz27 z z hs455 u42.1 u42.2) z (TA.a 8 z (fieldLoc z fo59_0 z) z (TA.b 9 z (loadLoc z ag3 z (i := 4) z z) z ?_))
     obtain ⟨p456, hz456, hm456⟩ := Zn.at zf409 (i := ((nth x0.arcs k394 Arc.zero).to).toNat) (by omega)
     refine TA.actN [7, 10] (by kernel_rfl) (an z z (OpVal.ok (loadN z ag27 z (q := 4) z hz456 hm456) z z ⟨(fun w h => sees_of (Store.le.refl _) (fun r hr => mem_pick [0, 1, 2, 3, 5] z hr) w h), ?_⟩) (an z z (OpOk.lit (enc := Go.E.encI) [(nth x0.arcs k394 Arc.zero).frm] z underlying27 sz3 ze3 z z z Go.E.encI_len (by decide) (by decide) (0 : Int) z (by decide) z (by decide) Go.E.encI_one (fun a457 c458 => ⟨(fun w h => sees_of (Store.le.refl _) (fun r hr => mem_pick [1, 2, 3, 4, 6] z hr) w h), ?_⟩)) (True.intro)))
     ·skip
      refine TA.ac 10 z (OpOk.lit (enc := Go.E.encI) [(nth x0.arcs k394 Arc.zero).frm] z underlying27 sz3 ze3 z z z Go.E.encI_len (by decide) (by decide) (0 : Int) z (by decide) z (by decide) Go.E.encI_one (fun a460 c461 => ⟨(fun w h => sees_of (Store.le.refl _) (fun r hr => mem_pick [1, 2, 3, 4, 6] z hr) w h), ?_⟩))
      refine TA.front 5 z z (TA.by (fun w h => Reach.takeN hz456 hm456 h) (TA.ac 11 z (appendS z z underlying27 sz3 by3 ze3 z z (by decide) z z z (.inr ⟨_, 1, z⟩) (by simpa using u47) (by decide) (fun a464 c465 => (k3 ?_)))))
      refine TA.know (isSl_nestX (q := 1) z zf409) (fun ⟨hs466, hs466b⟩ => ?_)
      refine TA.b 12 z (OpVal.index z underlying28 sz27 z z hs466 u48.1 u48.2) z (TA.front 1 z z (TA.front 1 z z ?_))
      have hn468 : (l391.set (((nth x0.arcs k394 Arc.zero).to).toNat) ((nth l391 (((nth x0.arcs k394 Arc.zero).to).toNat) ([] : List Int)) ++ [(nth x0.arcs k394 Arc.zero).frm])).length = l391.length := (List.length_set ..).trans rfl
      refine TA.ac 13 rfl (storeX (l' := ((nth l391 (((nth x0.arcs k394 Arc.zero).to).toNat) ([] : List Int)) ++ [(nth x0.arcs k394 Arc.zero).frm])) rfl sz27 rfl rfl rfl rfl rfl (by rw [zf409.len]; omega) zf409 (fun zf467 => (k2 ?_)))
      exact TA.dn (B.n (S.n (cf ((), (z407, (z392.set (((nth x0.arcs k394 Arc.zero).to).toNat) (((nth l391 (((nth x0.arcs k394 Arc.zero).to).toNat) ([] : List Int)) ++ [(nth x0.arcs k394 Arc.zero).frm]), (a464, c465))))) ⟨hh, hn406, zf408, hn468, zf467⟩ (Sub.f [5, 5, 5, 5] 5))))
     ·skip
      obtain ⟨p469, hz469, hm469⟩ := Zn.at zf409 (i := ((nth x0.arcs k394 Arc.zero).to).toNat) (by omega)
      refine TA.ac 7 z (OpVal.ok (loadN z ag27 z (q := 5) z hz469 hm469) z z ⟨(fun w h => sees_of (Store.le.refl _) (fun r hr => mem_pick [1, 2, 3, 4, 6] z hr) w h), ?_⟩)
      refine TA.front 5 z z (TA.by (fun w h => Reach.takeN hz469 hm469 h) (TA.ac 11 z (appendS z z underlying27 sz3 by3 ze3 z z (by decide) z z z (.inr ⟨_, 1, z⟩) (by simpa using u47) (by decide) (fun a471 c472 => (k3 ?_)))))
      refine TA.know (isSl_nestX (q := 1) z zf409) (fun ⟨hs473, hs473b⟩ => ?_)
      refine TA.b 12 z (OpVal.index z underlying28 sz27 z z hs473 u48.1 u48.2) z (TA.front 1 z z (TA.front 1 z z ?_))
      have hn475 : (l391.set (((nth x0.arcs k394 Arc.zero).to).toNat) ((nth l391 (((nth x0.arcs k394 Arc.zero).to).toNat) ([] : List Int)) ++ [(nth x0.arcs k394 Arc.zero).frm])).length = l391.length := (List.length_set ..).trans rfl
      refine TA.ac 13 rfl (storeX (l' := ((nth l391 (((nth x0.arcs k394 Arc.zero).to).toNat) ([] : List Int)) ++ [(nth x0.arcs k394 Arc.zero).frm])) rfl sz27 rfl rfl rfl rfl rfl (by rw [zf409.len]; omega) zf409 (fun zf474 => (k2 ?_)))
      exact TA.dn (B.n (S.n (cf ((), (z407, (z392.set (((nth x0.arcs k394 Arc.zero).to).toNat) (((nth l391 (((nth x0.arcs k394 Arc.zero).to).toNat) ([] : List Int)) ++ [(nth x0.arcs k394 Arc.zero).frm]), (a471, c472))))) ⟨hh, hn406, zf408, hn475, zf474⟩ (Sub.f [5, 5, 5, 5] 5))))
   ·skip
    obtain ⟨_, ⟨z399, z402⟩⟩ := g
    obtain ⟨hh, hn398, zf400, hn401, zf403⟩ := hg
    try dsimp only at hn398 zf400 hn401 zf403 ⊢
    dsimp only [Dy_] at hh
    have hn398b := hn398
    have zf400b := zf400.len
    have hn401b := hn401
    have zf403b := zf403.len
    refine TC.know (isSl_nest (q := 2) z zf400) (fun ⟨_, hb476⟩ => ?_)
    refine TC.know (isSl_nest (q := 4) z zf403) (fun ⟨_, hb477⟩ => ?_)
    refine TC.region (TL.w z (OpVal.succ z z z (by omega)) (TL.i z z ?_))
    rw [← hn401]
    refine TL.en ?_
    obtain ⟨hh, hlt478⟩ := nxt_x hR1 hh
    exact lf (((l387.set (((nth x0.arcs k394 Arc.zero).frm).toNat) ((nth l387 (((nth x0.arcs k394 Arc.zero).frm).toNat) ([] : List Int)) ++ [(nth x0.arcs k394 Arc.zero).to])), (l391.set (((nth x0.arcs k394 Arc.zero).to).toNat) ((nth l391 (((nth x0.arcs k394 Arc.zero).to).toNat) ([] : List Int)) ++ [(nth x0.arcs k394 Arc.zero).frm])), (k394 + 1)), (z399, z402)) hlt478 ⟨hh, hn398, zf400, zf403⟩ (Sub.f [4, 4, 4, 4, 4] 5)
  ·refine TC.exit (S.x (S.x ?_))
   replace hh := fin_x hR1 hh
   refine TC.exitHere (S.n (TC.a (TL.w z (makeFn z) (TL.w z (moveFn (.inr z) z) (TL.en ?_)))))
   rw [← hn388]
   refine TC.front 2 z z (TC.seals (fun w h => Reach.sealNest Go.E.encI_len zf390 h) (fun τ481 hle480 hr479 => ?_))
   replace f0_0 := f0_0.mono hle480
   replace f0_1 := f0_1.mono hle480
   replace f0_2 := f0_2.mono hle480
   have hr479b := hr479.big
   refine TC.front 3 z z (TC.seals (fun w h => Reach.sealNest Go.E.encI_len zf393 h) (fun τ484 hle483 hr482 => ?_))
   replace f0_0 := f0_0.mono hle483
   replace f0_1 := f0_1.mono hle483
   replace f0_2 := f0_2.mono hle483
   replace hr479 := hr479.mono hle483
   have hr482b := hr482.big
   refine TC.ret ?_
   obtain rfl := so hh
   exact ro [Res.cells b109 #[.int .i64 x0.states, .slice a0_0 x0.starts.length c0_0, .slice a0_1 x0.ends.length c0_1, .slice a0_2 x0.arcs.length c0_2] 25, Res.cells b112 #[.slice a114 l387.length c115] 28, Res.cells b118 #[.slice a120 l391.length c121] 28] z (RVs.tmp z RVs.nil) ⟨b109, a0_0, c0_0, a0_1, c0_1, a0_2, c0_2, b112, a114, c115, b118, a120, c121, z, f0_0, f0_1, f0_2, hr479, hr482, z⟩
noncomputable def Bz_ (l143 : List Int) (k145 : Nat) (y4_0 : Int) : Option (Nat × ((List Int) × Nat)) :=
 grd (0 ≤ y4_0 ∧ y4_0 < (l143.length : Int)) (grd (k145 + 1 ≤ 9223372036854775807) (some (0, ((l143.set y4_0.toNat ((k145 : Nat) : Int)), (k145 + 1)))))
noncomputable def Dl_ (k169 : Nat) (l175 : List Tip) : Option (((List Tip) × Nat) ⊕ (Fst × Int)) :=
 nxt (l175, (k169 + 1))
noncomputable def Dk_ (k208 : Nat) (l215 : List Tip) : Option (((List Tip) × Nat) ⊕ (Fst × Int)) :=
 nxt (l215, (k208 + 1))
noncomputable def Cs_ (k249 : Nat) (l257 : List Arc) : Option (((List Arc) × Nat) ⊕ (Fst × Int)) :=
 nxt (l257, (k249 + 1))
noncomputable def Bm_ (x0 : Fst) (l143 : List Int) (k145 : Nat) (l166 : List Tip) (l205 : List Tip) (l246 : List Arc) (k249 : Nat) : Option (((List Arc) × Nat) ⊕ (Fst × Int)) :=
 iteO (decide (((k249 : Nat) : Int) < ((x0.arcs.length : Nat) : Int))) (grd (0 ≤ ((nth x0.arcs k249 Arc.zero).frm) ∧ ((nth x0.arcs k249 Arc.zero).frm) < (l143.length : Int)) (grd (0 ≤ ((nth x0.arcs k249 Arc.zero).to) ∧ ((nth x0.arcs k249 Arc.zero).to) < (l143.length : Int)) (iteO (decide (0 ≤ (nth l143 (((nth x0.arcs k249 Arc.zero).frm).toNat) (0 : Int)))) (iteO (decide (0 ≤ (nth l143 (((nth x0.arcs k249 Arc.zero).to).toNat) (0 : Int)))) (grd ((l246.length + [(⟨(nth l143 (((nth x0.arcs k249 Arc.zero).frm).toNat) (0 : Int)), (nth l143 (((nth x0.arcs k249 Arc.zero).to).toNat) (0 : Int)), (nth x0.arcs k249 Arc.zero).set, (nth x0.arcs k249 Arc.zero).out, (nth x0.arcs k249 Arc.zero).copy⟩ : Arc)].length) * 72 ≤ 140737488355328) (Cs_ k249 (l246 ++ [(⟨(nth l143 (((nth x0.arcs k249 Arc.zero).frm).toNat) (0 : Int)), (nth l143 (((nth x0.arcs k249 Arc.zero).to).toNat) (0 : Int)), (nth x0.arcs k249 Arc.zero).set, (nth x0.arcs k249 Arc.zero).out, (nth x0.arcs k249 Arc.zero).copy⟩ : Arc)]))) (Cs_ k249 l246)) (Cs_ k249 l246)))) (fin (bnd (Cq_ (⟨((k145 : Nat) : Int), l166, l205, l246⟩ : Fst)) (fun v145 => some (v145.1, v145.2))))
noncomputable def Bo_ (x0 : Fst) (l143 : List Int) (k145 : Nat) (l166 : List Tip) (l205 : List Tip) (k208 : Nat) : Option (((List Tip) × Nat) ⊕ (Fst × Int)) :=
 iteO (decide (((k208 : Nat) : Int) < ((x0.ends.length : Nat) : Int))) (grd (0 ≤ ((nth x0.ends k208 Tip.zero).state) ∧ ((nth x0.ends k208 Tip.zero).state) < (l143.length : Int)) (iteO (decide (0 ≤ (nth l143 (((nth x0.ends k208 Tip.zero).state).toNat) (0 : Int)))) (grd ((l205.length + [(⟨(nth l143 (((nth x0.ends k208 Tip.zero).state).toNat) (0 : Int)), (nth x0.ends k208 Tip.zero).out⟩ : Tip)].length) * 24 ≤ 140737488355328) (Dk_ k208 (l205 ++ [(⟨(nth l143 (((nth x0.ends k208 Tip.zero).state).toNat) (0 : Int)), (nth x0.ends k208 Tip.zero).out⟩ : Tip)]))) (Dk_ k208 l205))) (fin (iter (fun q : (List Arc) × Nat => Bm_ x0 l143 k145 l166 l205 q.1 q.2) (([] : List Arc), 0)))
noncomputable def Bk_ (x0 : Fst) (l143 : List Int) (k145 : Nat) (l166 : List Tip) (k169 : Nat) : Option (((List Tip) × Nat) ⊕ (Fst × Int)) :=
 iteO (decide (((k169 : Nat) : Int) < ((x0.starts.length : Nat) : Int))) (grd (0 ≤ ((nth x0.starts k169 Tip.zero).state) ∧ ((nth x0.starts k169 Tip.zero).state) < (l143.length : Int)) (iteO (decide (0 ≤ (nth l143 (((nth x0.starts k169 Tip.zero).state).toNat) (0 : Int)))) (grd ((l166.length + [(⟨(nth l143 (((nth x0.starts k169 Tip.zero).state).toNat) (0 : Int)), (nth x0.starts k169 Tip.zero).out⟩ : Tip)].length) * 24 ≤ 140737488355328) (Dl_ k169 (l166 ++ [(⟨(nth l143 (((nth x0.starts k169 Tip.zero).state).toNat) (0 : Int)), (nth x0.starts k169 Tip.zero).out⟩ : Tip)]))) (Dl_ k169 l166))) (fin (iter (fun q : (List Tip) × Nat => Bo_ x0 l143 k145 l166 q.1 q.2) (([] : List Tip), 0)))
noncomputable def F2_ (x0 : Fst) (jz : Nat) (l143 : List Int) (k145 : Nat) : Option (Fst × Int) :=
 jsel jz (iter (fun q : (List Tip) × Nat => Bk_ x0 l143 k145 q.1 q.2) (([] : List Tip), 0)) (fun _ => none)
noncomputable def Bn_ (x0 : Fst) (l117 : List Int) (k119 : Nat) : Option (((List Int) × Nat) ⊕ (Fst × Int)) :=
 iteO (decide (((k119 : Nat) : Int) < (((List.replicate x0.states.toNat (0 : Int)).length : Nat) : Int))) (grd (k119 < l117.length) (nxt ((l117.set k119 (-1)), (k119 + 1)))) (fin (bnd (D3_ x0) (fun v29 => bnd (C7_ (stepY (fun (q : (List Int) × Nat) (x : Int) => Bz_ q.1 q.2 x)) (0, (l117, 0)) (⟨v29.1.states, v29.1.starts, v29.1.ends, v29.1.arcs⟩ : Fst) v29.2.1 v29.2.2) (fun zr4 => F2_ x0 zr4.1 zr4.2.1 zr4.2.2))))
noncomputable def Ea_ (x0 : Fst) : Option (Fst × Int) :=
 bnd (C8_ x0) (fun v5 => iteO (decide (v5 ≠ 0)) (some ((⟨0, ([] : List Tip), ([] : List Tip), ([] : List Arc)⟩ : Fst), 1)) (grd (0 ≤ x0.states ∧ 8 * x0.states.toNat ≤ 281474976710656) (iter (fun q : (List Int) × Nat => Bn_ x0 q.1 q.2) ((List.replicate x0.states.toNat (0 : Int)), 0))))
def H7_ (σ : Store) (r : Fst × Int) : Value → Store → List Res → Prop := fun v σ' H' =>
 ∃ (a1 : Option Addr), ∃ (c1 : Nat), ∃ (a2 : Option Addr), ∃ (c2 : Nat), ∃ (a3 : Option Addr), ∃ (c3 : Nat),  v = .tuple #[.agg #[.int .i64 r.1.states, .slice a1 r.1.starts.length c1, .slice a2 r.1.ends.length c2, .slice a3 r.1.arcs.length c3], .int .i64 r.2] ∧ RS σ' 2 encTip (.slice a1 r.1.starts.length c1) r.1.starts ∧ RS σ' 2 encTip (.slice a2 r.1.ends.length c2) r.1.ends ∧ RS σ' 8 encArc (.slice a3 r.1.arcs.length c3) r.1.arcs ∧ H' = []
theorem Hz_ {σ : Store} {x0 : Fst} {a0_0 : Option Addr} {c0_0 : Nat} {a0_1 : Option Addr} {c0_1 : Nat} {a0_2 : Option Addr} {c0_2 : Nat} (f0_0 : RS σ 2 encTip (.slice a0_0 x0.starts.length c0_0) x0.starts) (f0_1 : RS σ 2 encTip (.slice a0_1 x0.ends.length c0_1) x0.ends) (f0_2 : RS σ 8 encArc (.slice a0_2 x0.arcs.length c0_2) x0.arcs) {r : Fst × Int} (hh : Ea_ x0 = some r) :
  Con Tryz.prog 21 #[.agg #[.int .i64 x0.states, .slice a0_0 x0.starts.length c0_0, .slice a0_1 x0.ends.length c0_1, .slice a0_2 x0.arcs.length c0_2]] σ [] (H7_ σ r) := by
 dsimp only [Ea_] at hh
 have f0_0b := f0_0.rv.big
 have f0_1b := f0_1.rv.big
 have f0_2b := f0_2.rv.big
 refine Con.mk (n := 136) Tryz.func21 z z z (fun w0 => ?_)
 refine TC.a (TL.op z (boxA z z z z (fun b101 => ?_)))
 refine TL.op z (OpOk.alloc z ze25 z z (fun b103 => ?_))
 refine TL.i z z (TL.en (TC.seq (TC.a (TL.w z (loadAll z ag25 sz25 z (i := 1) z z) ?_))))
 obtain ⟨v5, u5, hh⟩ := bnd_e hh
 refine TL.op z (callP (Ej_ (x0 := x0) f0_0 f0_1 f0_2 u5) z z pf16 z z z ?_)
 refine TL.w z (OpVal.neq z z z) (TL.en (TC.cD z hh (fun h105 hh => ?_) (fun h105 hh => ?_)))
 ·refine TC.a (TL.w z (buildL z pl25 ze25 z) (TL.op z (storeAll z sz25 z z z z z z ?_)))
  refine TL.i z z (TL.en (TC.rt 1 (S.r ?_)))
  obtain rfl := so hh
  exact ro [] z (RVs.agg ag25 sz25 z (i := 0) z z (RVs.tmp z RVs.nil)) ⟨none, 0, none, 0, none, 0, z, (RS.nilF _ encTip encTip_len), (RS.nilF _ encTip encTip_len), (RS.nilF _ encArc encArc_len), z⟩
 ·refine TC.skip (S.n (TC.a (TL.w z (fieldLoc z fo25_0 z) (TL.w z (loadLoc z ag3 z (i := 1) z z) ?_))))
  have u12 := grd_c hh
  replace hh := grd_t hh
  refine TL.op rfl (makeS2 (m := x0.states.toNat) (enc := Go.E.encI) (0 : Int) rfl underlying27 sz3 by3 ze3 rfl rfl (by show Value.int _ _ = _; rw [Int.toNat_of_nonneg u12.1]) (by show Value.int _ _ = _; rw [Int.toNat_of_nonneg u12.1]) (by omega) (by decide) Go.E.encI_len (by decide) rfl Go.E.encI_one (fun a106 c107 => ?_))
  refine TL.op z (OpOk.alloc z ze27 z z (fun b109 => ?_))
  refine TL.op z (storeSl z sz27 z z z z z ?_)
  refine TL.en (TC.seq (TC.a (TL.w z (loadLoc z ag27 z (i := 0) z z) (TL.w z (lenC z underlying27 z) (TL.i z z (TL.en (TC.block (TC.loopG (α := ((List Int) × Nat) × (Unit)) (rgs [(5, 1), (27, 7)]) (fun g => [(27, .int .i64 ((g.1.2 : Nat) : Int))]) (fun g => [Res.cells b101 #[.int .i64 x0.states, .slice a0_0 x0.starts.length c0_0, .slice a0_1 x0.ends.length c0_1, .slice a0_2 x0.arcs.length c0_2] 25, Res.cells b103 #[.int .i64 0, .slice none 0 0, .slice none 0 0, .slice none 0 0] 25, Res.cells b109 #[.slice a106 ((List.replicate x0.states.toNat (0 : Int)).length) c107] 27, Res.rowS 3 1 Go.E.encI (.slice a106 (List.replicate x0.states.toNat (0 : Int)).length c107) g.1.1]) (fun g => σ) (fun g => iter (fun q : (List Int) × Nat => Bn_ x0 q.1 q.2) g.1 = some r ∧ g.1.1.length = (List.replicate x0.states.toNat (0 : Int)).length) (fun g => rounds (fun q : (List Int) × Nat => Bn_ x0 q.1 q.2) g.1) (((List.replicate x0.states.toNat (0 : Int)), 0), ()) (Sub.f [1, 1, 2, 3] 4) z (by repeat (first | exact trivial | refine ⟨z, ?_⟩)) ⟨hh, z⟩ (fun g1 j1 hg1 => ?_)))))))))
  obtain ⟨⟨l117, k119⟩, _⟩ := g1
  obtain ⟨hh, hn118⟩ := hg1
  try dsimp only at hn118 ⊢
  obtain ⟨z1, hh, hR1⟩ := iter_e hh
  dsimp only [Bn_] at hh
  have hn118b := hn118
  refine TC.isSl (i := 3) z (fun _ hb120 _ => ?_)
  refine TC.a (TL.w z (OpVal.lss z z z) (TL.en (TC.seq (TC.cD z hh (fun h121 hh => ?_) (fun h121 hh => ?_)))))
  ·refine TC.skip (S.n (TC.seq (TC.block (TC.a (TL.i z z (TL.i z z (TL.en (TC.region (TL.w z (loadLoc z ag27 z (i := 2) z z) (TL.i z z ?_))))))))))
   have u23 := grd_c hh
   replace hh := grd_t hh
   refine TL.isSl (i := 3) z (fun hs122 _ _ => ?_)
   refine TL.w z (indexN z underlying27 sz3 z z hs122 (by omega)) (TL.front 3 z z ?_)
   have hn123 : (l117.set k119 (-1)).length = (List.replicate x0.states.toNat (0 : Int)).length := by rw [List.length_set]; exact hn118
   refine TL.op z (storeS (-1) z sz3 z z z z Go.E.encI_len Go.E.encI_one (by omega) (by omega) ?_)
   refine TL.nil (B.n (S.n (TC.region (TL.w z (OpVal.succ z z z (by omega)) (TL.i z z (TL.en ?_))))))
   obtain ⟨hh, hlt124⟩ := nxt_x hR1 hh
   exact lf (((l117.set k119 (-1)), (k119 + 1)), ()) hlt124 ⟨hh, hn123⟩ (Sub.f [3, 3, 3] 4)
  ·refine TC.exit (S.x (S.x ?_))
   replace hh := fin_x hR1 hh
   refine TC.exitHere (S.n (TC.a (TL.op z (OpOk.alloc z ze25 z z (fun b125 => ?_)))))
   refine TL.en (TC.seq (TC.a (TL.w z (loadAll z ag25 sz25 z (i := 1) z z) ?_)))
   obtain ⟨v29, u29, hh⟩ := bnd_e hh
   refine TL.op z (OpOk.call (Hl_ f0_0 f0_1 f0_2 u29) z z pf48 z z z z ?_)
   rintro _ τ127 _ hle127 ⟨b127_10, a127_1, c127_2, a127_4, c127_5, a127_7, c127_8, b127_14, a127_11, c127_12, b127_18, a127_15, c127_16, rfl, f127_3, f127_6, f127_9, f127_13, f127_17, rfl⟩
   replace f0_0 := f0_0.mono hle127
   replace f0_1 := f0_1.mono hle127
   replace f0_2 := f0_2.mono hle127
   have f127_3b := f127_3.rv.big
   have f127_6b := f127_6.rv.big
   have f127_9b := f127_9.rv.big
   have f127_13b := f127_13.big
   have f127_17b := f127_17.big
   refine TL.en (TC.block (TC.ofSub (Sub.f [2, 2, 2, 3, 7, 7, 7, 7] 8) ?_))
   obtain ⟨zr4, hz4, hh⟩ := bnd_e hh
   obtain ⟨jz4, ⟨l143, k145⟩⟩ := zr4
   dsimp only at hh
   refine TC.rangeG (A := (fun (x : Int) _ vs => vs = [.int .i64 x])) [] (fun (q : (List Int) × Nat) (x : Int) => Bz_ q.1 q.2 x) (fun (q : (List Int) × Nat) (τ146 : Store) Hs => Hs = [Res.cells b101 #[.int .i64 x0.states, .slice a0_0 x0.starts.length c0_0, .slice a0_1 x0.ends.length c0_1, .slice a0_2 x0.arcs.length c0_2] 25, Res.cells b103 #[.int .i64 0, .slice none 0 0, .slice none 0 0, .slice none 0 0] 25, Res.cells b109 #[.slice a106 ((List.replicate x0.states.toNat (0 : Int)).length) c107] 27, Res.rowS 3 1 Go.E.encI (.slice a106 (List.replicate x0.states.toNat (0 : Int)).length c107) q.1, Res.cells b125 #[.int .i64 ((q.2 : Nat) : Int), .slice none 0 0, .slice none 0 0, .slice none 0 0] 25] ∧ q.1.length = (List.replicate x0.states.toNat (0 : Int)).length) (s := (l117, 0)) rfl pf80 rfl rfl (by rintro _ _ _ _ ⟨rfl, hn144⟩ hle_; exact ⟨rfl, hn144⟩) ⟨rfl, hn118⟩ (fun _ _ _ h_ => by subst h_; rfl) (He_ f127_3 f127_6 f127_9 f127_13 f127_17 hz4) ?_ ?_
   ·clear hh hz4
    rintro l_ _ _ _ τ146 ⟨l143, k145⟩ y4_0 z4 _ _ hh hle147 rfl ⟨rfl, hn144⟩
    dsimp only [Bz_] at hh
    replace f0_0 := f0_0.mono hle147
    replace f0_1 := f0_1.mono hle147
    replace f0_2 := f0_2.mono hle147
    have hn144b := hn144
    show TC _ _ _ (upds _ [(36, .int .i64 y4_0)]) τ146 [Res.cells b101 #[.int .i64 x0.states, .slice a0_0 x0.starts.length c0_0, .slice a0_1 x0.ends.length c0_1, .slice a0_2 x0.arcs.length c0_2] 25, Res.cells b103 #[.int .i64 0, .slice none 0 0, .slice none 0 0, .slice none 0 0] 25, Res.cells b109 #[.slice a106 ((List.replicate x0.states.toNat (0 : Int)).length) c107] 27, Res.rowS 3 1 Go.E.encI (.slice a106 (List.replicate x0.states.toNat (0 : Int)).length c107) l143, Res.cells b125 #[.int .i64 ((k145 : Nat) : Int), .slice none 0 0, .slice none 0 0, .slice none 0 0] 25]
    refine TC.isSl (i := 3) z (fun _ hb148 _ => ?_)
    refine TC.region (TL.i z z (TL.nil (asg_n (fun _ _ _ => ?_))))
    refine TC.block (TC.a (TL.w z (loadLoc z ag27 z (i := 2) z z) (TL.i z z (TL.w z (fieldLoc z fo25_0 z) (TL.w z (loadLoc z ag3 z (i := 4) z z) ?_)))))
    have u35 := grd_c hh
    replace hh := grd_t hh
    refine TL.isSl (i := 3) z (fun hs149 _ _ => ?_)
    refine TL.w z (OpVal.index z underlying27 sz3 z z hs149 u35.1 u35.2) (TL.front 3 z z ?_)
    have hn150 : (l143.set y4_0.toNat ((k145 : Nat) : Int)).length = (List.replicate x0.states.toNat (0 : Int)).length := by rw [List.length_set]; exact hn144
    refine TL.op z (storeS ((k145 : Nat) : Int) z sz3 z z z z Go.E.encI_len Go.E.encI_one (by omega) (by omega) ?_)
    refine TL.en (TC.region (TL.w z (fieldLoc z fo25_0 z) (TL.w z (loadLoc z ag3 z (i := 4) z z) ?_)))
    have u39 := grd_c hh
    replace hh := grd_t hh
    refine TL.w z (OpVal.succ z z z (by omega)) (TL.w z (fieldLoc z fo25_0 z) (TL.front 4 z z (TL.op z (storeI z sz3 z z z z z ?_))))
    refine TL.nil (B.n ?_)
    obtain rfl := so hh
    exact rnd_n ⟨z, _, Sub.f [1, 4, 4, 4] 5, ⟨z, hn150⟩⟩
   ·rintro τ146 _ _ hle147 ⟨rfl, hn144⟩ ⟨rfl⟩
    replace f0_0 := f0_0.mono hle147
    replace f0_1 := f0_1.mono hle147
    replace f0_2 := f0_2.mono hle147
    have hn144b := hn144
    dsimp only [F2_] at hh
    show jmpQ _ _ _ _ _ τ146 [Res.cells b101 #[.int .i64 x0.states, .slice a0_0 x0.starts.length c0_0, .slice a0_1 x0.ends.length c0_1, .slice a0_2 x0.arcs.length c0_2] 25, Res.cells b103 #[.int .i64 0, .slice none 0 0, .slice none 0 0, .slice none 0 0] 25, Res.cells b109 #[.slice a106 ((List.replicate x0.states.toNat (0 : Int)).length) c107] 27, Res.rowS 3 1 Go.E.encI (.slice a106 (List.replicate x0.states.toNat (0 : Int)).length c107) l143, Res.cells b125 #[.int .i64 ((k145 : Nat) : Int), .slice none 0 0, .slice none 0 0, .slice none 0 0] 25, Res.cells b127_10 #[.int .i64 v29.1.states, .slice a127_1 v29.1.starts.length c127_2, .slice a127_4 v29.1.ends.length c127_5, .slice a127_7 v29.1.arcs.length c127_8] 25, Res.cells b127_14 #[.slice a127_11 v29.2.1.length c127_12] 28, Res.cells b127_18 #[.slice a127_15 v29.2.2.length c127_16] 28]
    refine jmp_split hh ?_ ?_ <;> clear hh
    ·intro hh
     refine B.n (S.n (TC.seq (TC.a (TL.w z (fieldLoc z fo25_1 z) (TL.w z (loadLoc z ag22 z (i := 0) z z) (TL.w z (lenC z underlying22 z) (TL.i z z (TL.en (TC.block (TC.nilS 62 2 encTip (TC.loopG (α := ((List Tip) × Nat) × ((Option Addr) × Nat)) (rgs [(9, 2), (49, 21)]) (fun g => [(49, .int .i64 ((g.1.2 : Nat) : Int))]) (fun g => [Res.cells b101 #[.int .i64 x0.states, .slice a0_0 x0.starts.length c0_0, .slice a0_1 x0.ends.length c0_1, .slice a0_2 x0.arcs.length c0_2] 25, Res.cells b103 #[.int .i64 0, .slice none 0 0, .slice none 0 0, .slice none 0 0] 25, Res.cells b109 #[.slice a106 ((List.replicate x0.states.toNat (0 : Int)).length) c107] 27, Res.rowS 3 1 Go.E.encI (.slice a106 (List.replicate x0.states.toNat (0 : Int)).length c107) l143, Res.cells b125 #[.int .i64 ((k145 : Nat) : Int), .slice g.2.1 g.1.1.length g.2.2, .slice none 0 0, .slice none 0 0] 25, Res.rowS 62 2 encTip (.slice g.2.1 g.1.1.length g.2.2) g.1.1]) (fun g => τ146) (fun g => iter (fun q : (List Tip) × Nat => Bk_ x0 l143 k145 q.1 q.2) g.1 = some r ∧ l143.length = (List.replicate x0.states.toNat (0 : Int)).length) (fun g => rounds (fun q : (List Tip) × Nat => Bk_ x0 l143 k145 q.1 q.2) g.1) ((([] : List Tip), 0), (none, 0)) (Sub.f [5, 5, 5, 5, 5] 6) z (by repeat (first | exact trivial | refine ⟨z, ?_⟩)) ⟨hh, hn144⟩ (fun g2 j2 hg2 => ?_))))))))))))
     obtain ⟨⟨l166, k169⟩, ⟨a167, c168⟩⟩ := g2
     obtain ⟨hh, hn164⟩ := hg2
     try dsimp only at hn164 ⊢
     obtain ⟨z1, hh, hR1⟩ := iter_e hh
     dsimp only [Bk_] at hh
     have hn164b := hn164
     refine TC.isSl (i := 3) z (fun _ hb171 _ => ?_)
     refine TC.isSl (i := 5) z (fun _ hb172 _ => ?_)
     refine TC.a (TL.w z (OpVal.lss z z z) (TL.en (TC.seq (TC.cD z hh (fun h173 hh => ?_) (fun h173 hh => ?_)))))
     ·refine TC.skip (S.n (TC.cutG (α := ((List Tip)) × ((Option Addr) × Nat)) (rgs [(9, 2), (51, 18)]) (fun g => []) (fun g => [Res.cells b101 #[.int .i64 x0.states, .slice a0_0 x0.starts.length c0_0, .slice a0_1 x0.ends.length c0_1, .slice a0_2 x0.arcs.length c0_2] 25, Res.cells b103 #[.int .i64 0, .slice none 0 0, .slice none 0 0, .slice none 0 0] 25, Res.cells b109 #[.slice a106 ((List.replicate x0.states.toNat (0 : Int)).length) c107] 27, Res.rowS 3 1 Go.E.encI (.slice a106 (List.replicate x0.states.toNat (0 : Int)).length c107) l143, Res.cells b125 #[.int .i64 ((k145 : Nat) : Int), .slice g.2.1 g.1.length g.2.2, .slice none 0 0, .slice none 0 0] 25, Res.rowS 62 2 encTip (.slice g.2.1 g.1.length g.2.2) g.1]) (fun g => τ146) (fun g => Dl_ k169 g.1 = some z1 ∧ l143.length = (List.replicate x0.states.toNat (0 : Int)).length) ?_ (fun g j hg => ?_)))
      ·skip
       refine TC.block (TC.a (TL.w z (indexN z underlying22 sz62 z z f0_0.rv.sl (by omega)) (TL.w z (loadSA Tip.zero z ag62 sz62 z f0_0 (by omega) (by omega)) (TL.op z (OpOk.alloc z ze62 z z (fun b178 => ?_))))))
       refine TL.op z (storeAll z sz62 z z z z z z ?_)
       refine TL.en (TC.a (TL.w z (loadLoc z ag27 z (i := 3) z z) (TL.w z (fieldLoc z fo62_0 z) (TL.w z (loadLoc z ag3 z (i := 0) z z) ?_))))
       have u54 := grd_c hh
       replace hh := grd_t hh
       refine TL.isSl (i := 4) z (fun hs180 _ _ => ?_)
       refine TL.w z (OpVal.index z underlying27 sz3 z z hs180 u54.1 u54.2) (TL.w z (loadO1 (0 : Int) z ag3 z (q := 4) z Go.E.encI_len (by omega) z) (TL.i z z (TL.en (TC.a (TL.i z z (TL.w z (OpVal.geq z z z) (TL.en (TC.cD z hh (fun h181 hh => ?_) (fun h181 hh => ?_)))))))))
       ·refine TC.region (TL.w z (fieldLoc z fo25_1 z) (TL.w z (loadLoc z ag22 z (i := 5) z z) (TL.i z z (TL.w z (fieldLoc z fo62_1 z) (TL.w z (loadLoc z ag9 z (i := 0) z z) (TL.w z (buildL z pl62 ze62 z) (TL.op z (OpOk.lit (enc := encTip) [(⟨(nth l143 (((nth x0.starts k169 Tip.zero).state).toNat) (0 : Int)), (nth x0.starts k169 Tip.zero).out⟩ : Tip)] z underlying22 sz62 ze62 z z z encTip_len (by decide) (by decide) Tip.zero z (by decide) z (by decide) encTip_one (fun a182 c183 => ?_)))))))))
        refine TL.front 7 z z ?_
        have u66 := grd_c hh
        replace hh := grd_t hh
        refine TL.op z (appendS z z underlying22 sz62 by62 ze62 z z (by decide) z z z (.inr ⟨_, 0, z⟩) (by simpa using u66) (by decide) (fun a185 c186 => ?_))
        refine TL.w z (fieldLoc z fo25_1 z) (TL.front 7 z z (TL.op z (storeSl z sz22 z z z z z ?_)))
        exact TL.nil (B.n (S.n (cf ((l166 ++ [(⟨(nth l143 (((nth x0.starts k169 Tip.zero).state).toNat) (0 : Int)), (nth x0.starts k169 Tip.zero).out⟩ : Tip)]), (a185, c186)) ⟨hh, hn164⟩ (Sub.f [1, 1, 7, 7, 7, 7] 6))))
       ·exact TC.skip (B.n (S.n (cf (l166, (a167, c168)) ⟨hh, hn164⟩ (Sub.f [6, 6, 6, 6, 6, 6] 6))))
      ·skip
       obtain ⟨l175, ⟨a176, c177⟩⟩ := g
       obtain ⟨hh, hn174⟩ := hg
       try dsimp only at hn174 ⊢
       dsimp only [Dl_] at hh
       have hn174b := hn174
       refine TC.isSl (i := 3) z (fun _ hb187 _ => ?_)
       refine TC.isSl (i := 5) z (fun _ hb188 _ => ?_)
       refine TC.region (TL.w z (OpVal.succ z z z (by omega)) (TL.i z z (TL.en ?_)))
       obtain ⟨hh, hlt189⟩ := nxt_x hR1 hh
       exact lf ((l175, (k169 + 1)), (a176, c177)) hlt189 ⟨hh, hn174⟩ (Sub.f [5, 5, 5, 5, 5, 5] 6)
     ·refine TC.exit (S.x (S.x ?_))
      replace hh := fin_x hR1 hh
      refine TC.exitHere (S.n (TC.seq (TC.a (TL.w z (fieldLoc z fo25_2 z) (TL.w z (loadLoc z ag22 z (i := 0) z z) (TL.w z (lenC z underlying22 z) (TL.i z z (TL.en (TC.block (TC.nilS 62 2 encTip (TC.loopG (α := ((List Tip) × Nat) × ((Option Addr) × Nat)) (rgs [(12, 2), (73, 21)]) (fun g => [(73, .int .i64 ((g.1.2 : Nat) : Int))]) (fun g => [Res.cells b101 #[.int .i64 x0.states, .slice a0_0 x0.starts.length c0_0, .slice a0_1 x0.ends.length c0_1, .slice a0_2 x0.arcs.length c0_2] 25, Res.cells b103 #[.int .i64 0, .slice none 0 0, .slice none 0 0, .slice none 0 0] 25, Res.cells b109 #[.slice a106 ((List.replicate x0.states.toNat (0 : Int)).length) c107] 27, Res.rowS 3 1 Go.E.encI (.slice a106 (List.replicate x0.states.toNat (0 : Int)).length c107) l143, Res.cells b125 #[.int .i64 ((k145 : Nat) : Int), .slice a167 l166.length c168, .slice g.2.1 g.1.1.length g.2.2, .slice none 0 0] 25, Res.rowS 62 2 encTip (.slice a167 l166.length c168) l166, Res.rowS 62 2 encTip (.slice g.2.1 g.1.1.length g.2.2) g.1.1]) (fun g => τ146) (fun g => iter (fun q : (List Tip) × Nat => Bo_ x0 l143 k145 l166 q.1 q.2) g.1 = some r ∧ l143.length = (List.replicate x0.states.toNat (0 : Int)).length) (fun g => rounds (fun q : (List Tip) × Nat => Bo_ x0 l143 k145 l166 q.1 q.2) g.1) ((([] : List Tip), 0), (none, 0)) (Sub.f [6, 6, 6, 6, 6, 6] 7) z (by repeat (first | exact trivial | refine ⟨z, ?_⟩)) ⟨hh, hn164⟩ (fun g3 j3 hg3 => ?_))))))))))))
      obtain ⟨⟨l205, k208⟩, ⟨a206, c207⟩⟩ := g3
      obtain ⟨hh, hn203⟩ := hg3
      try dsimp only at hn203 ⊢
      obtain ⟨z1, hh, hR1⟩ := iter_e hh
      dsimp only [Bo_] at hh
      have hn203b := hn203
      refine TC.isSl (i := 3) z (fun _ hb210 _ => ?_)
      refine TC.isSl (i := 5) z (fun _ hb211 _ => ?_)
      refine TC.isSl (i := 6) z (fun _ hb212 _ => ?_)
      refine TC.a (TL.w z (OpVal.lss z z z) (TL.en (TC.seq (TC.cD z hh (fun h213 hh => ?_) (fun h213 hh => ?_)))))
      ·refine TC.skip (S.n (TC.cutG (α := ((List Tip)) × ((Option Addr) × Nat)) (rgs [(12, 2), (75, 18)]) (fun g => []) (fun g => [Res.cells b101 #[.int .i64 x0.states, .slice a0_0 x0.starts.length c0_0, .slice a0_1 x0.ends.length c0_1, .slice a0_2 x0.arcs.length c0_2] 25, Res.cells b103 #[.int .i64 0, .slice none 0 0, .slice none 0 0, .slice none 0 0] 25, Res.cells b109 #[.slice a106 ((List.replicate x0.states.toNat (0 : Int)).length) c107] 27, Res.rowS 3 1 Go.E.encI (.slice a106 (List.replicate x0.states.toNat (0 : Int)).length c107) l143, Res.cells b125 #[.int .i64 ((k145 : Nat) : Int), .slice a167 l166.length c168, .slice g.2.1 g.1.length g.2.2, .slice none 0 0] 25, Res.rowS 62 2 encTip (.slice a167 l166.length c168) l166, Res.rowS 62 2 encTip (.slice g.2.1 g.1.length g.2.2) g.1]) (fun g => τ146) (fun g => Dk_ k208 g.1 = some z1 ∧ l143.length = (List.replicate x0.states.toNat (0 : Int)).length) ?_ (fun g j hg => ?_)))
       ·skip
        refine TC.block (TC.a (TL.w z (indexN z underlying22 sz62 z z f0_1.rv.sl (by omega)) (TL.w z (loadSA Tip.zero z ag62 sz62 z f0_1 (by omega) (by omega)) (TL.op z (OpOk.alloc z ze62 z z (fun b218 => ?_))))))
        refine TL.op z (storeAll z sz62 z z z z z z ?_)
        refine TL.en (TC.a (TL.w z (loadLoc z ag27 z (i := 3) z z) (TL.w z (fieldLoc z fo62_0 z) (TL.w z (loadLoc z ag3 z (i := 0) z z) ?_))))
        have u83 := grd_c hh
        replace hh := grd_t hh
        refine TL.isSl (i := 4) z (fun hs220 _ _ => ?_)
        refine TL.w z (OpVal.index z underlying27 sz3 z z hs220 u83.1 u83.2) (TL.w z (loadO1 (0 : Int) z ag3 z (q := 4) z Go.E.encI_len (by omega) z) (TL.i z z (TL.en (TC.a (TL.i z z (TL.w z (OpVal.geq z z z) (TL.en (TC.cD z hh (fun h221 hh => ?_) (fun h221 hh => ?_)))))))))
        ·refine TC.region (TL.w z (fieldLoc z fo25_2 z) (TL.w z (loadLoc z ag22 z (i := 5) z z) (TL.i z z (TL.w z (fieldLoc z fo62_1 z) (TL.w z (loadLoc z ag9 z (i := 0) z z) (TL.w z (buildL z pl62 ze62 z) (TL.op z (OpOk.lit (enc := encTip) [(⟨(nth l143 (((nth x0.ends k208 Tip.zero).state).toNat) (0 : Int)), (nth x0.ends k208 Tip.zero).out⟩ : Tip)] z underlying22 sz62 ze62 z z z encTip_len (by decide) (by decide) Tip.zero z (by decide) z (by decide) encTip_one (fun a222 c223 => ?_)))))))))
         refine TL.front 8 z z ?_
         have u95 := grd_c hh
         replace hh := grd_t hh
         refine TL.op z (appendS z z underlying22 sz62 by62 ze62 z z (by decide) z z z (.inr ⟨_, 0, z⟩) (by simpa using u95) (by decide) (fun a225 c226 => ?_))
         refine TL.w z (fieldLoc z fo25_2 z) (TL.front 7 z z (TL.op z (storeSl z sz22 z z z z z ?_)))
         exact TL.nil (B.n (S.n (cf ((l205 ++ [(⟨(nth l143 (((nth x0.ends k208 Tip.zero).state).toNat) (0 : Int)), (nth x0.ends k208 Tip.zero).out⟩ : Tip)]), (a225, c226)) ⟨hh, hn203⟩ (Sub.f [1, 8, 2, 8, 8, 8, 8] 7))))
        ·exact TC.skip (B.n (S.n (cf (l205, (a206, c207)) ⟨hh, hn203⟩ (Sub.f [7, 7, 7, 7, 7, 7, 7] 7))))
       ·skip
        obtain ⟨l215, ⟨a216, c217⟩⟩ := g
        obtain ⟨hh, hn214⟩ := hg
        try dsimp only at hn214 ⊢
        dsimp only [Dk_] at hh
        have hn214b := hn214
        refine TC.isSl (i := 3) z (fun _ hb227 _ => ?_)
        refine TC.isSl (i := 5) z (fun _ hb228 _ => ?_)
        refine TC.isSl (i := 6) z (fun _ hb229 _ => ?_)
        refine TC.region (TL.w z (OpVal.succ z z z (by omega)) (TL.i z z (TL.en ?_)))
        obtain ⟨hh, hlt230⟩ := nxt_x hR1 hh
        exact lf ((l215, (k208 + 1)), (a216, c217)) hlt230 ⟨hh, hn214⟩ (Sub.f [6, 6, 6, 6, 6, 6, 6] 7)
      ·refine TC.exit (S.x (S.x ?_))
       replace hh := fin_x hR1 hh
       refine TC.exitHere (S.n (TC.seq (TC.a (TL.w z (fieldLoc z fo25_3 z) (TL.w z (loadLoc z ag23 z (i := 0) z z) (TL.w z (lenC z underlying23 z) (TL.i z z (TL.en (TC.block (TC.nilS 59 8 encArc (TC.loopG (α := ((List Arc) × Nat) × ((Option Addr) × Nat)) (rgs [(15, 3), (97, 35)]) (fun g => [(97, .int .i64 ((g.1.2 : Nat) : Int))]) (fun g => [Res.cells b103 #[.int .i64 0, .slice none 0 0, .slice none 0 0, .slice none 0 0] 25, Res.cells b109 #[.slice a106 ((List.replicate x0.states.toNat (0 : Int)).length) c107] 27, Res.rowS 3 1 Go.E.encI (.slice a106 (List.replicate x0.states.toNat (0 : Int)).length c107) l143, Res.cells b125 #[.int .i64 ((k145 : Nat) : Int), .slice a167 l166.length c168, .slice a206 l205.length c207, .slice g.2.1 g.1.1.length g.2.2] 25, Res.rowS 62 2 encTip (.slice a167 l166.length c168) l166, Res.rowS 62 2 encTip (.slice a206 l205.length c207) l205, Res.rowS 59 8 encArc (.slice g.2.1 g.1.1.length g.2.2) g.1.1]) (fun g => τ146) (fun g => iter (fun q : (List Arc) × Nat => Bm_ x0 l143 k145 l166 l205 q.1 q.2) g.1 = some r ∧ l143.length = (List.replicate x0.states.toNat (0 : Int)).length) (fun g => rounds (fun q : (List Arc) × Nat => Bm_ x0 l143 k145 l166 l205 q.1 q.2) g.1) ((([] : List Arc), 0), (none, 0)) (Sub.f [7, 7, 7, 7, 7, 7] 7) z (by repeat (first | exact trivial | refine ⟨z, ?_⟩)) ⟨hh, hn203⟩ (fun g4 j4 hg4 => ?_))))))))))))
       obtain ⟨⟨l246, k249⟩, ⟨a247, c248⟩⟩ := g4
       obtain ⟨hh, hn244⟩ := hg4
       try dsimp only at hn244 ⊢
       obtain ⟨z1, hh, hR1⟩ := iter_e hh
       dsimp only [Bm_] at hh
       have hn244b := hn244
       refine TC.isSl (i := 2) z (fun _ hb251 _ => ?_)
       refine TC.isSl (i := 4) z (fun _ hb252 _ => ?_)
       refine TC.isSl (i := 5) z (fun _ hb253 _ => ?_)
       refine TC.isSl (i := 6) z (fun _ hb254 _ => ?_)
       refine TC.a (TL.w z (OpVal.lss z z z) (TL.en (TC.seq (TC.cD z hh (fun h255 hh => ?_) (fun h255 hh => ?_)))))
       ·refine TC.skip (S.n (TC.cutG (α := ((List Arc)) × ((Option Addr) × Nat)) (rgs [(15, 3), (99, 32)]) (fun g => []) (fun g => [Res.cells b103 #[.int .i64 0, .slice none 0 0, .slice none 0 0, .slice none 0 0] 25, Res.cells b109 #[.slice a106 ((List.replicate x0.states.toNat (0 : Int)).length) c107] 27, Res.rowS 3 1 Go.E.encI (.slice a106 (List.replicate x0.states.toNat (0 : Int)).length c107) l143, Res.cells b125 #[.int .i64 ((k145 : Nat) : Int), .slice a167 l166.length c168, .slice a206 l205.length c207, .slice g.2.1 g.1.length g.2.2] 25, Res.rowS 62 2 encTip (.slice a167 l166.length c168) l166, Res.rowS 62 2 encTip (.slice a206 l205.length c207) l205, Res.rowS 59 8 encArc (.slice g.2.1 g.1.length g.2.2) g.1]) (fun g => τ146) (fun g => Cs_ k249 g.1 = some z1 ∧ l143.length = (List.replicate x0.states.toNat (0 : Int)).length) ?_ (fun g j hg => ?_)))
        ·skip
         refine TC.block (TC.a (TL.w z (indexN z underlying23 sz59 z z f0_2.rv.sl (by omega)) (TL.w z (loadSA Arc.zero z ag59 sz59 z f0_2 (by omega) (by omega)) (TL.op z (OpOk.alloc z ze59 z z (fun b260 => ?_))))))
         refine TL.op z (storeAll z sz59 z z z z z z ?_)
         refine TL.en (TC.seq ?_)
         have u112 := grd_c hh
         replace hh := grd_t hh
         have u117 := grd_c hh
         replace hh := grd_t hh
         refine TC.draw [] (by kernel_rfl) (TA.b 0 z (loadLoc z ag27 z (i := 2) z z) z (TA.a 1 z (fieldLoc z fo59_0 z) z (TA.b 2 z (loadLoc z ag3 z (i := 0) z z) z (TA.isSl (i := 3) z (fun hs264 _ _ => ?_)))))
         refine TA.b 3 z (OpVal.index z underlying27 sz3 z z hs264 u112.1 u112.2) z (TA.b 4 z (loadO1 (0 : Int) z ag3 z (q := 3) z Go.E.encI_len (by omega) z) z (TA.b 5 z (loadLoc z ag27 z (i := 2) z z) z (TA.a 6 z (fieldLoc z fo59_1 z) z (TA.b 7 z (loadLoc z ag3 z (i := 0) z z) z (TA.isSl (i := 3) z (fun hs265 _ _ => ?_))))))
         refine TA.b 8 z (OpVal.index z underlying27 sz3 z z hs265 u117.1 u117.2) z (TA.b 9 z (loadO1 (0 : Int) z ag3 z (q := 3) z Go.E.encI_len (by omega) z) z (TA.a 10 z (moveI (.inr z) z) z (TA.a 11 z (moveI (.inr z) z) z (TA.dn (S.n (TC.a (TL.i z z (TL.w z (OpVal.geq z z z) (TL.j z z (TL.split 113 z (fun h266 => ?_) (fun h266 => ?_)))))))))))
         ·replace hh := iteO_t h266 hh
          replace h266 := of_decide_eq_true h266
          refine TL.g z (moveI (.inl z) z) (TL.g z (OpVal.geq z z z) (TL.w z (pickTB z z z) (TL.en (TC.cD z hh (fun h267 hh => ?_) (fun h267 hh => ?_)))))
          ·refine TC.region (TL.w z (fieldLoc z fo25_3 z) (TL.w z (loadLoc z ag23 z (i := 4) z z) (TL.i z z (TL.i z z (TL.w z (fieldLoc z fo59_2 z) (TL.w z (loadLocA z ag57 sz57 z (i := 0) z z z) (TL.w z (fieldLoc z fo59_3 z) (TL.w z (loadLoc z ag9 z (i := 0) z z) (TL.w z (fieldLoc z fo59_4 z) (TL.w z (loadLoc z ag4 z (i := 0) z z) (TL.w z (buildL z pl59 ze59 z) (TL.op z (OpOk.lit (enc := encArc) [(⟨(nth l143 (((nth x0.arcs k249 Arc.zero).frm).toNat) (0 : Int)), (nth l143 (((nth x0.arcs k249 Arc.zero).to).toNat) (0 : Int)), (nth x0.arcs k249 Arc.zero).set, (nth x0.arcs k249 Arc.zero).out, (nth x0.arcs k249 Arc.zero).copy⟩ : Arc)] z underlying23 sz59 ze59 z z z encArc_len (by decide) (by decide) Arc.zero z (by decide) z (by decide) encArc_one (fun a268 c269 => ?_))))))))))))))
           refine TL.front 8 z z ?_
           have u139 := grd_c hh
           replace hh := grd_t hh
           refine TL.op z (appendS z z underlying23 sz59 by59 ze59 z z (by decide) z z z (.inr ⟨_, 0, z⟩) (by simpa using u139) (by decide) (fun a271 c272 => ?_))
           refine TL.w z (fieldLoc z fo25_3 z) (TL.front 6 z z (TL.op z (storeSl z sz23 z z z z z ?_)))
           exact TL.nil (B.n (S.n (cf ((l246 ++ [(⟨(nth l143 (((nth x0.arcs k249 Arc.zero).frm).toNat) (0 : Int)), (nth l143 (((nth x0.arcs k249 Arc.zero).to).toNat) (0 : Int)), (nth x0.arcs k249 Arc.zero).set, (nth x0.arcs k249 Arc.zero).out, (nth x0.arcs k249 Arc.zero).copy⟩ : Arc)]), (a271, c272)) ⟨hh, hn244⟩ (Sub.f [1, 8, 8, 3, 8, 8, 8] 7))))
          ·exact TC.skip (B.n (S.n (cf (l246, (a247, c248)) ⟨hh, hn244⟩ (Sub.f [7, 7, 7, 7, 7, 7, 7] 7))))
         ·replace hh := iteO_f h266 hh
          replace h266 := of_decide_eq_false h266
          exact TL.f z (TL.f z (TL.w z (pickFB z z z) (TL.en (TC.f z (TC.skip (B.n (S.n (cf (l246, (a247, c248)) ⟨hh, hn244⟩ (Sub.f [7, 7, 7, 7, 7, 7, 7] 7)))))))))
        ·skip
         obtain ⟨l257, ⟨a258, c259⟩⟩ := g
         obtain ⟨hh, hn256⟩ := hg
         try dsimp only at hn256 ⊢
         dsimp only [Cs_] at hh
         have hn256b := hn256
         refine TC.isSl (i := 2) z (fun _ hb273 _ => ?_)
         refine TC.isSl (i := 4) z (fun _ hb274 _ => ?_)
         refine TC.isSl (i := 5) z (fun _ hb275 _ => ?_)
         refine TC.isSl (i := 6) z (fun _ hb276 _ => ?_)
         refine TC.region (TL.w z (OpVal.succ z z z (by omega)) (TL.i z z (TL.en ?_)))
         obtain ⟨hh, hlt277⟩ := nxt_x hR1 hh
         exact lf ((l257, (k249 + 1)), (a258, c259)) hlt277 ⟨hh, hn256⟩ (Sub.f [6, 6, 6, 6, 6, 6, 6] 7)
       ·refine TC.exit (S.x (S.x ?_))
        replace hh := fin_x hR1 hh
        refine TC.exitHere (S.n (TC.a (TL.w z (loadAll z ag25 sz25 z (i := 3) z z) (TL.front 4 z z (TL.sealS encTip_len (fun τ280 hle279 hr278 => ?_))))))
        have hr278b := hr278.rv.big
        refine TL.front 4 z z (TL.sealS encTip_len (fun τ283 hle282 hr281 => ?_))
        replace hr278 := hr278.mono hle282
        have hr281b := hr281.rv.big
        refine TL.front 4 z z (TL.sealS encArc_len (fun τ286 hle285 hr284 => ?_))
        replace hr278 := hr278.mono hle285
        replace hr281 := hr281.mono hle285
        have hr284b := hr284.rv.big
        obtain ⟨v145, u145, hh⟩ := bnd_e hh
        refine TL.op z (OpOk.call (H9_ (x0 := (⟨((k145 : Nat) : Int), l166, l205, l246⟩ : Fst)) hr278 hr281 hr284 u145) z z pf49 z z z z ?_)
        rintro _ τ287 _ hle287 ⟨a287_1, c287_1, a287_2, c287_2, a287_3, c287_3, rfl, hr287_0, hr287_1, hr287_2, rfl⟩
        have hr287_0b := hr287_0.rv.big
        have hr287_1b := hr287_1.rv.big
        have hr287_2b := hr287_2.rv.big
        refine TL.w z (OpVal.extract z z z) (TL.w z (OpVal.extract z z z) (TL.op z (storeAll z sz25 z z z z z z ?_)))
        refine TL.i z z (TL.en (TC.rt 1 ?_))
        obtain rfl := so hh
        exact ro [] z (RVs.agg ag25 sz25 z (i := 0) z z (RVs.tmp z RVs.nil)) ⟨a287_1, c287_1, a287_2, c287_2, a287_3, c287_3, z, hr287_0, hr287_1, hr287_2, z⟩
    ·intro m_ c_ hh hc_
     exact jl_nil hc_
end Go.Proofs.YtnpbfjdpglfdkaaGreatDoor
end

section
namespace Go.E
open Go
structure TLag where
  p : Int
  q : Int
  a : List UInt8
  b : List UInt8
  deriving DecidableEq
def TLag.zero : TLag := ⟨0, 0, [], []⟩
structure Walk where
  t : Fst
  arcs : List (List Arc)
  most : Int
end Go.E
end

section
namespace Go.E
open Go
structure ReLeaf where
  kind : Int
  text : List UInt8
  set : BSet
  min : Int
  max : Int
  deriving DecidableEq
def ReLeaf.zero : ReLeaf := ⟨0, [], BSet.zero, 0, 0⟩
structure ReRoot where
  kind : Int
  text : List UInt8
  set : BSet
  parts : List ReLeaf
  min : Int
  max : Int
def ReRoot.zero : ReRoot := ⟨0, [], BSet.zero, [], 0, 0⟩
end Go.E
end

section
namespace Go.Proofs.YtnpbfjdpglfdkaaGreatDoor
open Go Go.E Go.E.OpVal Go.E.OpOk
end Go.Proofs.YtnpbfjdpglfdkaaGreatDoor
end

section
namespace Go.E
open Go
section
variable {K : Type} [DecidableEq K]
theorem len_of_sub : ∀ {l m : List K}, l.Nodup → (∀ x ∈ l, x ∈ m) → l.length ≤ m.length
  | [], m, _, _ => Nat.zero_le _
  | x :: l, m, hn, hs => by
    rw [List.nodup_cons] at hn
    have hx := hs x (List.mem_cons_self ..)
    have := len_of_sub (m := m.erase x) hn.2 fun y hy => by
      have h1 := hs y (List.mem_cons_of_mem _ hy)
      refine (List.mem_erase_of_ne ?_).2 h1
      intro e; subst e; exact hn.1 hy
    rw [List.length_erase_of_mem hx] at this
    have hp := List.length_pos_of_mem hx
    simp only [List.length_cons]; omega
def FM.ofL (S : List K) : FM K Unit := S.foldl (fun m k => m.put k ()) FM.emp
theorem FM.ofL_snoc (S : List K) (k : K) : FM.ofL (S ++ [k]) = (FM.ofL S).put k () := by simp [FM.ofL]
theorem FM.ofL_f (S : List K) (x : K) : (FM.ofL S).f x = if x ∈ S then some () else none := by
  have key : ∀ (S : List K) (m : FM K Unit), (S.foldl (fun m k => m.put k ()) m).f x = if x ∈ S then some () else m.f x := by
    intro S
    induction S with
    | nil => intro m; simp
    | cons y S ih =>
      intro m
      rw [List.foldl_cons, ih]
      by_cases h : x ∈ S
      · simp [h]
      · by_cases e : x = y
        · subst e; simp [FM.put]
        · simp [h, FM.put, e]
  rw [FM.ofL, key]; rfl
def card (S : List K) : Nat := (FM.ofL S).n
theorem rev_ind {p : List K → Prop} (h0 : p []) (h1 : ∀ l x, p l → p (l ++ [x])) (l : List K) : p l := by
  have : ∀ m : List K, p m.reverse := fun m => by
    induction m with
    | nil => exact h0
    | cons x m ih => rw [List.reverse_cons]; exact h1 _ _ ih
  simpa using this l.reverse
theorem FM.ofL_len (S : List K) : ∃ l : List K, l.Nodup ∧ (∀ x, x ∈ l ↔ x ∈ S) ∧ l.length = card S := by
  induction S using rev_ind with
  | h0 => exact ⟨[], List.nodup_nil, by simp, rfl⟩
  | h1 S k ih =>
    obtain ⟨l, h1, h2, h3⟩ := ih
    have hf := FM.ofL_f S k
    by_cases hk : k ∈ S
    · refine ⟨l, h1, fun x => ?_, ?_⟩
      · rw [h2, List.mem_append, List.mem_singleton]
        constructor
        · exact .inl
        · rintro (h | rfl)
          · exact h
          · exact hk
      · rw [h3, card, card, FM.ofL_snoc, FM.put]; simp [hf, hk]
    · refine ⟨l ++ [k], ?_, fun x => by rw [List.mem_append, List.mem_append, h2], ?_⟩
      · rw [List.nodup_append]
        exact ⟨h1, by simp, fun x hx y hy => by
          rw [List.mem_singleton] at hy; subst hy
          intro e; subst e; exact hk ((h2 _).1 hx)⟩
      · rw [List.length_append, h3, card, card, FM.ofL_snoc, FM.put]; simp [hf, hk]
theorem card_mono {S T : List K} (h : ∀ x ∈ S, x ∈ T) : card S ≤ card T := by
  obtain ⟨l, h1, h2, h3⟩ := FM.ofL_len S
  obtain ⟨m, _, h5, h6⟩ := FM.ofL_len T
  rw [← h3, ← h6]
  exact len_of_sub h1 fun x hx => (h5 x).2 (h x ((h2 x).1 hx))
theorem card_congr {S T : List K} (h : ∀ x, x ∈ S ↔ x ∈ T) : card S = card T := Nat.le_antisymm (card_mono fun x hx => (h x).1 hx) (card_mono fun x hx => (h x).2 hx)
theorem card_le (S : List K) : card S ≤ S.length := by
  obtain ⟨l, h1, h2, h3⟩ := FM.ofL_len S
  rw [← h3]; exact len_of_sub h1 fun x hx => (h2 x).1 hx
theorem FM.ofL_congr {S T : List K} (h : ∀ x, x ∈ S ↔ x ∈ T) : FM.ofL S = FM.ofL T := by
  have e1 : (FM.ofL S).f = (FM.ofL T).f := funext fun x => by rw [FM.ofL_f, FM.ofL_f]; simp only [h]
  have e2 : (FM.ofL S).n = (FM.ofL T).n := card_congr h
  cases hS : FM.ofL S; cases hT : FM.ofL T
  rw [hS] at e1 e2; rw [hT] at e1 e2
  simp only at e1 e2
  rw [e1, e2]
theorem Rep.of_ofL {S : List K} {q : List (K × Unit)} (h : Rep q (FM.ofL S)) : (∀ z, z ∈ q ↔ z.1 ∈ S) ∧ q.length = card S := by
  refine ⟨fun z => ?_, h.len⟩
  obtain ⟨k, v⟩ := z
  rw [h.mem, FM.ofL_f]
  by_cases hk : k ∈ S <;> simp [hk]
theorem Rep.ofL (S : List K) : ∃ q : List (K × Unit), Rep q (FM.ofL S) := by
  obtain ⟨l, h1, h2, h3⟩ := FM.ofL_len S
  refine ⟨l.map fun x => (x, ()), ⟨fun k v => ?_, by rw [List.length_map, h3]; rfl, ?_⟩⟩
  · rw [FM.ofL_f, List.mem_map]
    constructor
    · rintro ⟨x, hx, e⟩
      cases e
      rw [if_pos ((h2 _).1 hx)]
    · intro h
      split at h
      · rename_i hk; exact ⟨k, (h2 k).2 hk, rfl⟩
      · cases h
  · rw [List.map_map, show (Prod.fst ∘ fun x : K => (x, ())) = id from rfl, List.map_id]; exact h1
end
section
variable {β γ : Type}
structure Grp (key : β → Int) (val : β → γ) (n : Nat) (l : List (List γ)) (xs : List β) : Prop where
  len : l.length = n
  row : ∀ i, i < n → nth l i [] = (xs.filter fun x => decide (key x = (i : Int))).map val
theorem Grp.nil (key : β → Int) (val : β → γ) (n : Nat) : Grp key val n (List.replicate n []) [] := ⟨List.length_replicate .., fun i hi => by simp [nth, List.getD, List.getElem?_replicate, hi]⟩
theorem Grp.snoc {key : β → Int} {val : β → γ} {n : Nat} {l : List (List γ)} {xs : List β} (h : Grp key val n l xs) {x : β} (h0 : 0 ≤ key x) (h1 : key x < n) :
    Grp key val n (l.set (key x).toNat (nth l (key x).toNat [] ++ [val x])) (xs ++ [x]) := by
  refine ⟨by rw [List.length_set]; exact h.len, fun i hi => ?_⟩
  rw [List.filter_append, List.map_append, ← h.row i hi]
  by_cases e : i = (key x).toNat
  · subst e
    have : key x = ((key x).toNat : Int) := by omega
    have hl := h.len
    rw [show nth (l.set (key x).toNat (nth l (key x).toNat [] ++ [val x])) (key x).toNat [] = nth l (key x).toNat [] ++ [val x] from by simp [nth, List.getD, hl, hi]]
    simp [this.symm]
  · have hne : ¬ key x = (i : Int) := by omega
    rw [show nth (l.set (key x).toNat (nth l (key x).toNat [] ++ [val x])) i [] = nth l i [] from by simp [nth, List.getD, List.getElem?_set, Ne.symm e]]
    simp [hne]
theorem Grp.at {key : β → Int} {val : β → γ} {n : Nat} {l : List (List γ)} {xs : List β} (h : Grp key val n l xs) {s : Int} (h0 : 0 ≤ s) (h1 : s < n) : nth l s.toNat [] = (xs.filter fun x => decide (key x = s)).map val := by
  rw [h.row _ (by omega)]
  have : ((s.toNat : Nat) : Int) = s := by omega
  simp only [this]
theorem iter_all {α R : Type} {step : Nat → Option (Nat ⊕ R)} {y no : R} (l : List α) (d : α) (p : α → Bool) (hs : ∀ k, k < l.length → p (nth l k d) = true → step k = some (.inl (k + 1)))
    (hn : ∀ k, k < l.length → p (nth l k d) = false → step k = some (.inr no)) (hd : step l.length = some (.inr y)) : iter step 0 = some (if l.all p then y else no) := by
  have h := iter_any0 (step := step) (y := no) (no := y) (fun k => k) (fun k => !p (nth l k d)) l.length (fun k hk hp => hs k hk (by simpa using hp)) (fun k hk hp => hn k hk (by simpa using hp)) hd
  rw [h, range_any l d (fun x => !p x)]
  by_cases ha : l.all p = true
  · have : (l.any fun x => !p x) = false := by rw [List.any_eq_false]; intro x hx; have := (List.all_eq_true.1 ha) x hx; simp [this]
    rw [this, ha]; rfl
  · have : (l.any fun x => !p x) = true := by
      rw [Bool.not_eq_true, List.all_eq_false] at ha
      obtain ⟨x, hx, h⟩ := ha
      exact List.any_eq_true.2 ⟨x, hx, by simpa using h⟩
    rw [this]; simp only [cond_true]; rw [if_neg ha]
theorem iter_fold {α S R : Type} {step : S × Nat → Option ((S × Nat) ⊕ R)} {r : R} (l : List α) (d : α) (f : Nat → S) (hs : ∀ k, k < l.length → step (f k, k) = some (.inl (f (k + 1), k + 1))) (hd : step (f l.length, l.length) = some (.inr r)) :
    iter step (f 0, 0) = some r := iter_seq0 (fun k => (f k, k)) l.length hs hd
end
end Go.E
end

section
namespace Go.E
open Go
theorem iter_for {α S T R : Type} {step : T → Option (T ⊕ R)} (g : S → Nat → T) (l : List α) (d : α) (I : List α → S → Prop) (Q : R → Prop)
    (hs : ∀ k s, k < l.length → I (l.take k) s → (∃ s', step (g s k) = some (.inl (g s' (k + 1))) ∧ I (l.take k ++ [nth l k d]) s') ∨ ∃ r, step (g s k) = some (.inr r) ∧ Q r)
    (hd : ∀ s, I l s → ∃ r, step (g s l.length) = some (.inr r) ∧ Q r) {s0 : S} (h0 : I [] s0) : ∃ r, iter step (g s0 0) = some r ∧ Q r := by
  have key : ∀ m k s, l.length - k = m → k ≤ l.length → I (l.take k) s → ∃ r, iter step (g s k) = some r ∧ Q r := by
    intro m
    induction m with
    | zero =>
      intro k s hm hk hI
      have hk : k = l.length := by omega
      subst hk
      rw [List.take_length] at hI
      obtain ⟨r, h1, h2⟩ := hd s hI
      exact ⟨r, iter_done h1, h2⟩
    | succ m ih =>
      intro k s hm hk hI
      rcases hs k s (by omega) hI with ⟨s', h1, h2⟩ | ⟨r, h1, h2⟩
      · rw [← take_snoc l (by omega) d] at h2
        obtain ⟨r, h3, h4⟩ := ih (k + 1) s' (by omega) (by omega) h2
        exact ⟨r, iter_next h1 h3, h4⟩
      · exact ⟨r, iter_done h1, h2⟩
  exact key _ 0 s0 rfl (Nat.zero_le _) h0
theorem take_split {α : Type} (l : List α) {k : Nat} (h : k < l.length) (d : α) : l = l.take k ++ nth l k d :: l.drop (k + 1) := by
  have h1 : l.drop k = nth l k d :: l.drop (k + 1) := by
    have := List.drop_eq_getElem_cons h
    rw [this]; congr 1
    have h2 := getD_some l h d
    rw [List.getElem?_eq_getElem h] at h2; exact Option.some.inj h2
  rw [← h1, List.take_append_drop]
end Go.E
end

section
namespace Go.E
open Go
theorem iteO_dt {α : Type} {p : Prop} [Decidable p] {a b : Option α} (h : p) : iteO (decide p) a b = a := by rw [decide_eq_true h]; rfl
theorem iteO_df {α : Type} {p : Prop} [Decidable p] {a b : Option α} (h : ¬ p) : iteO (decide p) a b = b := by rw [decide_eq_false h]; rfl
theorem bnd_mk {α β : Type} {x : α} {f : α → Option β} : bnd (some x) f = f x := rfl
theorem iter_up {S T R : Type} {step : T → Option (T ⊕ R)} (g : S → Nat → T) (n : Nat) (I : Nat → S → Prop) (Q : R → Prop)
    (hs : ∀ k s, k < n → I k s → (∃ s', step (g s k) = some (.inl (g s' (k + 1))) ∧ I (k + 1) s') ∨ ∃ r, step (g s k) = some (.inr r) ∧ Q r)
    (hd : ∀ s, I n s → ∃ r, step (g s n) = some (.inr r) ∧ Q r) {s0 : S} (h0 : I 0 s0) : ∃ r, iter step (g s0 0) = some r ∧ Q r := by
  have key : ∀ m k s, n - k = m → k ≤ n → I k s → ∃ r, iter step (g s k) = some r ∧ Q r := by
    intro m
    induction m with
    | zero =>
      intro k s hm hk hI
      have hk : k = n := by omega
      subst hk
      obtain ⟨r, h1, h2⟩ := hd s hI
      exact ⟨r, iter_done h1, h2⟩
    | succ m ih =>
      intro k s hm hk hI
      rcases hs k s (by omega) hI with ⟨s', h1, h2⟩ | ⟨r, h1, h2⟩
      · obtain ⟨r, h3, h4⟩ := ih (k + 1) s' (by omega) (by omega) h2
        exact ⟨r, iter_next h1 h3, h4⟩
      · exact ⟨r, iter_done h1, h2⟩
  exact key _ 0 s0 rfl (Nat.zero_le _) h0
theorem nth_set {α : Type} (l : List α) (i j : Nat) (x d : α) : nth (l.set i x) j d = if i = j ∧ j < l.length then x else nth l j d := by
  unfold nth
  simp only [List.getD_eq_getElem?_getD, List.getElem?_set]
  by_cases h : i = j
  · subst h
    by_cases k : i < l.length
    · simp [k]
    · simp [k]
  · simp [h]
theorem nth_map {α β : Type} (f : α → β) (l : List α) (i : Nat) (d : α) (e : β) (h : i < l.length) : nth (l.map f) i e = f (nth l i d) := by
  unfold nth
  simp [List.getD_eq_getElem?_getD, List.getElem?_map, List.getElem?_eq_getElem h]
theorem nth_rep {α : Type} (n i : Nat) (x : α) : nth (List.replicate n x) i x = x := by
  unfold nth
  rw [List.getD_eq_getElem?_getD, List.getElem?_replicate]
  split <;> rfl
theorem nth_ext {α : Type} (d : α) {l m : List α} (hl : l.length = m.length) (h : ∀ i, i < l.length → nth l i d = nth m i d) : l = m := by
  apply List.ext_getElem hl
  intro i h1 h2
  have a := h i h1
  have b := getD_some l h1 d
  have c := getD_some m h2 d
  rw [List.getElem?_eq_getElem h1] at b
  rw [List.getElem?_eq_getElem h2] at c
  rw [Option.some.inj b, a, ← Option.some.inj c]
end Go.E
end

section
namespace Go.Proofs.YtnpbfjdpglfdkaaGreatDoor
open Go Go.E
inductive Rch (S : Int → Prop) (E : Int → Int → Prop) : Int → Prop
  | base {s : Int} : S s → Rch S E s
  | step {a b : Int} : Rch S E a → E a b → Rch S E b
def onS (t : Fst) (s : Int) : Prop := ∃ x ∈ t.starts, x.state = s
def enS (t : Fst) (s : Int) : Prop := ∃ x ∈ t.ends, x.state = s
def arE (t : Fst) (a b : Int) : Prop := ∃ x ∈ t.arcs, x.frm = a ∧ x.to = b
def arB (t : Fst) (a b : Int) : Prop := ∃ x ∈ t.arcs, x.to = a ∧ x.frm = b
def Use (t : Fst) (s : Int) : Prop := Rch (onS t) (arE t) s ∧ Rch (enS t) (arB t) s
open Classical in
noncomputable def useB (t : Fst) (s : Nat) : Bool := decide (Use t s)
def cntB (p : Nat → Bool) : Nat → Nat
  | 0 => 0
  | n + 1 => cntB p n + (if p n then 1 else 0)
def numB (p : Nat → Bool) (s : Int) : Int := if p s.toNat then (cntB p s.toNat : Int) else -1
theorem cntB_le (p : Nat → Bool) : ∀ {m n : Nat}, m ≤ n → cntB p m ≤ cntB p n
  | m, 0, h => by obtain rfl : m = 0 := by omega
                  exact Nat.le_refl _
  | m, n + 1, h => by
    by_cases hm : m = n + 1
    · subst hm; exact Nat.le_refl _
    · have := cntB_le p (m := m) (n := n) (by omega)
      simp only [cntB]; omega
theorem cntB_lt (p : Nat → Bool) {m n : Nat} (h : m < n) (hp : p m = true) : cntB p m < cntB p n := by
  have := cntB_le p (m := m + 1) (n := n) h
  simp only [cntB, hp, if_true] at this
  omega
theorem cntB_self (p : Nat → Bool) : ∀ n, cntB p n ≤ n
  | 0 => Nat.le_refl _
  | n + 1 => by have := cntB_self p n; simp only [cntB]; split <;> omega
theorem numB_pos {p : Nat → Bool} {s : Int} (h : p s.toNat = true) : numB p s = cntB p s.toNat := by unfold numB; rw [if_pos h]
theorem numB_ge {p : Nat → Bool} {s : Int} : 0 ≤ numB p s ↔ p s.toNat = true := by
  unfold numB; split
  · simp_all
  · simp_all
def keepT (p : Nat → Bool) (l : List Tip) : List Tip := l.filterMap fun x => if 0 ≤ numB p x.state then some ⟨numB p x.state, x.out⟩ else none
def keepA (p : Nat → Bool) (l : List Arc) : List Arc := l.filterMap fun x => if 0 ≤ numB p x.frm ∧ 0 ≤ numB p x.to then some ⟨numB p x.frm, numB p x.to, x.set, x.out, x.copy⟩ else none
def keepF (p : Nat → Bool) (t : Fst) : Fst := ⟨cntB p t.states.toNat, keepT p t.starts, keepT p t.ends, keepA p t.arcs⟩
theorem mem_keepT {p : Nat → Bool} {l : List Tip} {y : Tip} : y ∈ keepT p l ↔ ∃ x ∈ l, p x.state.toNat = true ∧ y = ⟨numB p x.state, x.out⟩ := by
  unfold keepT
  rw [List.mem_filterMap]
  constructor
  · rintro ⟨x, hx, h⟩
    split at h
    · rename_i h0; exact ⟨x, hx, numB_ge.1 h0, by cases h; rfl⟩
    · cases h
  · rintro ⟨x, hx, h0, rfl⟩; exact ⟨x, hx, by rw [if_pos (numB_ge.2 h0)]⟩
theorem mem_keepA {p : Nat → Bool} {l : List Arc} {y : Arc} : y ∈ keepA p l ↔ ∃ x ∈ l, p x.frm.toNat = true ∧ p x.to.toNat = true ∧ y = ⟨numB p x.frm, numB p x.to, x.set, x.out, x.copy⟩ := by
  unfold keepA
  rw [List.mem_filterMap]
  constructor
  · rintro ⟨x, hx, h⟩
    split at h
    · rename_i h0; exact ⟨x, hx, numB_ge.1 h0.1, numB_ge.1 h0.2, by cases h; rfl⟩
    · cases h
  · rintro ⟨x, hx, h0, h1, rfl⟩; exact ⟨x, hx, by rw [if_pos ⟨numB_ge.2 h0, numB_ge.2 h1⟩]⟩
theorem keepT_len (p : Nat → Bool) (l : List Tip) : (keepT p l).length ≤ l.length := List.length_filterMap_le ..
theorem keepA_len (p : Nat → Bool) (l : List Arc) : (keepA p l).length ≤ l.length := List.length_filterMap_le ..
structure Rng (t : Fst) : Prop where
  starts : ∀ x ∈ t.starts, 0 ≤ x.state ∧ x.state < t.states
  ends : ∀ x ∈ t.ends, 0 ≤ x.state ∧ x.state < t.states
  arcs : ∀ x ∈ t.arcs, (0 ≤ x.frm ∧ x.frm < t.states) ∧ (0 ≤ x.to ∧ x.to < t.states)
open Classical in
theorem useB_iff {t : Fst} {s : Nat} : useB t s = true ↔ Use t s := by unfold useB; exact decide_eq_true_iff
theorem keep_rng {t r : Fst} (hS : ∀ x, x ∈ r.starts ↔ x ∈ keepT (useB t) t.starts) (hE : ∀ x, x ∈ r.ends ↔ x ∈ keepT (useB t) t.ends) (hA : ∀ x, x ∈ r.arcs ↔ x ∈ keepA (useB t) t.arcs) (hn : r.states = cntB (useB t) t.states.toNat) (h : Rng t) : Rng r := by
  have num : ∀ {a : Int}, 0 ≤ a → a < t.states → useB t a.toNat = true → 0 ≤ numB (useB t) a ∧ numB (useB t) a < r.states := fun {a} h0 h1 hu => by
    rw [numB_pos hu, hn]
    have := cntB_lt (useB t) (m := a.toNat) (n := t.states.toNat) (by omega) hu
    omega
  refine ⟨fun y hy => ?_, fun y hy => ?_, fun y hy => ?_⟩
  · obtain ⟨x, hx, hu, rfl⟩ := mem_keepT.1 ((hS y).1 hy); have := h.starts x hx; exact num this.1 this.2 hu
  · obtain ⟨x, hx, hu, rfl⟩ := mem_keepT.1 ((hE y).1 hy); have := h.ends x hx; exact num this.1 this.2 hu
  · obtain ⟨x, hx, hu, hv, rfl⟩ := mem_keepA.1 ((hA y).1 hy); have := h.arcs x hx; exact ⟨num this.1.1 this.1.2 hu, num this.2.1 this.2.2 hv⟩
end Go.Proofs.YtnpbfjdpglfdkaaGreatDoor
end

section
namespace Go.Proofs.YtnpbfjdpglfdkaaGreatDoor
open Go Go.E
def uns : List Bool → Nat
  | [] => 0
  | b :: l => (if b then 0 else 1) + uns l
theorem uns_len : ∀ l : List Bool, uns l ≤ l.length
  | [] => Nat.le_refl _
  | b :: l => by have := uns_len l; simp only [uns, List.length_cons]; split <;> omega
def Le (l r : List Bool) : Prop := ∀ v, nth l v false = true → nth r v false = true
theorem Le.rfl' (l : List Bool) : Le l l := fun _ h => h
theorem Le.trans {l r s : List Bool} (h : Le l r) (k : Le r s) : Le l s := fun v hv => k v (h v hv)
theorem uns_le : ∀ {l r : List Bool}, l.length = r.length → Le l r → uns r ≤ uns l
  | [], [], _, _ => Nat.le_refl _
  | [], _ :: _, h, _ => by simp at h
  | _ :: _, [], h, _ => by simp at h
  | a :: l, b :: r, h, k => by
    have h1 := uns_le (l := l) (r := r) (by simpa using h) (fun v hv => k (v + 1) hv)
    have h2 : a = true → b = true := fun ha => k 0 ha
    simp only [uns]
    cases a <;> cases b <;> simp_all <;> omega
theorem uns_set : ∀ {l : List Bool} {i : Nat}, i < l.length → nth l i false = false → uns (l.set i true) + 1 = uns l
  | [], i, h, _ => by simp at h
  | a :: l, 0, _, h => by
    have : a = false := h
    subst this
    simp [uns]; omega
  | a :: l, i + 1, h, k => by
    have := uns_set (l := l) (i := i) (by simpa using h) k
    simp only [List.set_cons_succ, uns]; omega
theorem le_set {l : List Bool} (i : Nat) (h : i < l.length) : Le l (l.set i true) := fun v hv => by
  rw [nth_set]; split
  · rfl
  · exact hv
def stE (st : List (List Int)) (a b : Int) : Prop := 0 ≤ a ∧ b ∈ nth st a.toNat []
theorem Rch.trans {S : Int → Prop} {E : Int → Int → Prop} {a b : Int} (h : Rch (fun c => c = a) E b) (k : Rch S E a) : Rch S E b := by
  induction h with
  | base e => subst e; exact k
  | step _ e ih => exact .step ih e
theorem mem_nth {α : Type} {l : List α} {x d : α} (h : x ∈ l) : ∃ j, j < l.length ∧ nth l j d = x := by
  obtain ⟨j, hj, e⟩ := List.getElem_of_mem h
  refine ⟨j, hj, ?_⟩
  have := getD_some l hj d
  rw [List.getElem?_eq_getElem hj, Option.some.injEq] at this
  rw [← this]; exact e
theorem mem_at {α : Type} {l : List α} {j : Nat} (d : α) (h : j < l.length) : nth l j d ∈ l := by
  have := getD_some l h d
  exact List.mem_of_getElem? this
structure Vis (st : List (List Int)) (n : Nat) (s : Int) (seen r : List Bool) : Prop where
  len : r.length = n
  le : Le seen r
  at' : nth r s.toNat false = true
  out : ∀ v, nth r v false = true → nth seen v false = true ∨ Rch (fun c => c = s) (stE st) v
  cl : ∀ v, nth r v false = true → nth seen v false = false → ∀ z ∈ nth st v [], nth r z.toNat false = true
theorem visit_ok {st : List (List Int)} {n : Nat} (hl : st.length = n) (hst : ∀ a, ∀ z ∈ nth st a [], 0 ≤ z ∧ z < n) :
    ∀ k (s : Int) (seen : List Bool), 0 ≤ s → s < n → seen.length = n → uns seen < k → ∃ r, Bj_ k s seen st = some r ∧ Vis st n s seen r := by
  intro k
  induction k with
  | zero => intro s seen _ _ _ h; omega
  | succ k ih =>
    intro s seen h0 h1 hn hu
    show ∃ r, C3_ (Bj_ k) s seen st = some r ∧ _
    unfold C3_
    rw [grd_mk ⟨h0, by omega⟩]
    cases hs : nth seen s.toNat false with
    | true => exact ⟨seen, rfl, hn, Le.rfl' _, hs, fun v hv => .inl hv, fun v hv hf => by rw [hv] at hf; cases hf⟩
    | false =>
      rw [iteO_false, grd_mk ⟨h0, by omega⟩, grd_mk ⟨h0, by omega⟩]
      have hlt : s.toNat < seen.length := by omega
      have hun := uns_set hlt hs
      have hat : nth (seen.set s.toNat true) s.toNat false = true := by rw [nth_set, if_pos ⟨rfl, hlt⟩]
      have hor : ∀ v, nth (seen.set s.toNat true) v false = true → nth seen v false = true ∨ v = s.toNat := fun v hv => by
        rw [nth_set] at hv
        split at hv
        · rename_i h; exact .inr h.1.symm
        · exact .inl hv
      obtain ⟨r, h2, h3, h4, h5, h6, h7⟩ := iter_up (step := fun q : List Bool × Nat => Aw_ st s (Bj_ k) q.1 q.2) (fun (l : List Bool) j => (l, j)) (nth st s.toNat []).length
        (fun j l => l.length = n ∧ Le (seen.set s.toNat true) l ∧ (∀ i, i < j → nth l (nth (nth st s.toNat []) i 0).toNat false = true) ∧ (∀ v, nth l v false = true → nth (seen.set s.toNat true) v false = true ∨ Rch (fun c => c = s) (stE st) v) ∧ (∀ v, nth l v false = true → nth (seen.set s.toNat true) v false = false → ∀ z ∈ nth st v [], nth l z.toNat false = true))
        (fun l => l.length = n ∧ Le (seen.set s.toNat true) l ∧ (∀ i, i < (nth st s.toNat []).length → nth l (nth (nth st s.toNat []) i 0).toNat false = true) ∧ (∀ v, nth l v false = true → nth (seen.set s.toNat true) v false = true ∨ Rch (fun c => c = s) (stE st) v) ∧ (∀ v, nth l v false = true → nth (seen.set s.toNat true) v false = false → ∀ z ∈ nth st v [], nth l z.toNat false = true))
        (fun j l hj ⟨a1, a2, a3, a4, a5⟩ => by
          have hz := mem_at (0 : Int) hj
          have hzr := hst _ _ hz
          have hle := uns_le (by rw [List.length_set]; omega) a2
          obtain ⟨r, b1, b2⟩ := ih (nth (nth st s.toNat []) j 0) l hzr.1 hzr.2 a1 (by omega)
          refine .inl ⟨r, ?_, b2.len, a2.trans b2.le, fun i hi => ?_, fun v hv => ?_, fun v hv hf z hz' => ?_⟩
          · show Aw_ st s (Bj_ k) l j = _
            unfold Aw_
            rw [iteO_dt (by omega), b1]; rfl
          · by_cases hij : i = j
            · subst hij; exact b2.at'
            · exact b2.le _ (a3 i (by omega))
          · rcases b2.out v hv with h | h
            · exact a4 v h
            · exact .inr (h.trans (.step (.base rfl) ⟨h0, hz⟩))
          · cases hlv : nth l v false with
            | true => exact b2.le _ (a5 v hlv hf z hz')
            | false => exact b2.cl v hv hlv z hz')
        (fun l hI => ⟨l, by
          show Aw_ st s (Bj_ k) l _ = _
          unfold Aw_
          rw [iteO_df (by omega)]; rfl, hI⟩)
        (s0 := seen.set s.toNat true) ⟨by rw [List.length_set]; exact hn, Le.rfl' _, fun i hi => by omega, fun v hv => .inl hv, fun v hv hf => by rw [hv] at hf; cases hf⟩
      refine ⟨r, h2, h3, (le_set _ hlt).trans h4, h4 _ hat, fun v hv => ?_, fun v hv hf z hz => ?_⟩
      · rcases h6 v hv with h | h
        · rcases hor v h with h | h
          · exact .inl h
          · exact .inr (.base (by omega))
        · exact .inr h
      · cases hsv : nth (seen.set s.toNat true) v false with
        | true =>
          rcases hor v hsv with h | h
          · rw [h] at hf; cases hf
          · subst h
            obtain ⟨i, hi, e⟩ := mem_nth (d := (0 : Int)) hz
            have := h5 i hi
            rw [e] at this; exact this
        | false => exact h7 v hv hsv z hz
theorem reach_ok {st : List (List Int)} {n : Nat} {tips : List Tip} (hn : n ≤ 1024) (hl : st.length = n) (hst : ∀ a, ∀ z ∈ nth st a [], 0 ≤ z ∧ z < n) (ht : ∀ x ∈ tips, 0 ≤ x.state ∧ x.state < n) :
    ∃ r, Dq_ tips st = some r ∧ r.length = n ∧ ∀ v : Nat, nth r v false = true ↔ Rch (fun c => ∃ x ∈ tips, x.state = c) (stE st) v := by
  unfold Dq_
  rw [grd_mk (by omega)]
  obtain ⟨r, h1, h2, h3, h4, h5⟩ := iter_up (step := fun q : List Bool × Nat => A9_ tips st q.1 q.2) (fun (l : List Bool) j => (l, j)) tips.length
    (fun j l => l.length = n ∧ (∀ i, i < j → nth l (nth tips i Tip.zero).state.toNat false = true) ∧ (∀ v : Nat, nth l v false = true → Rch (fun c => ∃ x ∈ tips, x.state = c) (stE st) v) ∧ (∀ v, nth l v false = true → ∀ z ∈ nth st v [], nth l z.toNat false = true))
    (fun l => l.length = n ∧ (∀ i, i < tips.length → nth l (nth tips i Tip.zero).state.toNat false = true) ∧ (∀ v : Nat, nth l v false = true → Rch (fun c => ∃ x ∈ tips, x.state = c) (stE st) v) ∧ (∀ v, nth l v false = true → ∀ z ∈ nth st v [], nth l z.toNat false = true))
    (fun j l hj ⟨a1, a2, a3, a4⟩ => by
      have hz := mem_at Tip.zero hj
      have hzr := ht _ hz
      have := uns_len l
      obtain ⟨r, b1, b2⟩ := visit_ok hl hst (l.length + 1) (nth tips j Tip.zero).state l hzr.1 hzr.2 a1 (by omega)
      refine .inl ⟨r, ?_, b2.len, fun i hi => ?_, fun v hv => ?_, fun v hv z hz' => ?_⟩
      · show A9_ tips st l j = _
        unfold A9_
        rw [iteO_dt (by omega), b1]; rfl
      · by_cases hij : i = j
        · subst hij; exact b2.at'
        · exact b2.le _ (a2 i (by omega))
      · rcases b2.out v hv with h | h
        · exact a3 v h
        · exact h.trans (.base ⟨_, hz, rfl⟩)
      · cases hlv : nth l v false with
        | true => exact b2.le _ (a4 v hlv z hz')
        | false => exact b2.cl v hv hlv z hz')
    (fun l hI => ⟨l, by
      show A9_ tips st l _ = _
      unfold A9_
      rw [iteO_df (by omega)]; rfl, hI⟩)
    (s0 := List.replicate st.length false) ⟨by rw [List.length_replicate]; exact hl, fun i hi => by omega, fun v hv => (by rw [nth_rep] at hv; cases hv), fun v hv => (by rw [nth_rep] at hv; cases hv)⟩
  refine ⟨r, h1, h2, fun v => ⟨h4 v, fun hv => ?_⟩⟩
  have : ∀ c : Int, Rch (fun c => ∃ x ∈ tips, x.state = c) (stE st) c → nth r c.toNat false = true := fun c hc => by
    induction hc with
    | base h =>
      obtain ⟨x, hx, rfl⟩ := h
      obtain ⟨i, hi, e⟩ := mem_nth (d := Tip.zero) hx
      have := h3 i hi
      rw [e] at this; exact this
    | step _ e ih => exact h5 _ ih _ e.2
  have := this v hv
  simpa using this
end Go.Proofs.YtnpbfjdpglfdkaaGreatDoor
end

section
namespace Go.Proofs.YtnpbfjdpglfdkaaGreatDoor
open Go Go.E
section
variable {S α : Type}
end
structure ArcsOk (arcs : List (List Arc)) : Prop where
  out : ∀ i, ∀ x ∈ nth arcs i [], x.out.length ≤ 1000000
structure LagOk (n : Nat) (l : TLag) : Prop where
  p : 0 ≤ l.p ∧ l.p < n
  q : 0 ≤ l.q ∧ l.q < n
  a : l.a.length ≤ 100000000
  b : l.b.length ≤ 100000000
section
variable {Sy : Type} {Y : Sy → TLag → Option (Sy × Bool)} (w : Walk) (hw : ArcsOk w.arcs) (row : List TLag) (hr : ∀ l ∈ row, LagOk w.arcs.length l) (i : Nat) (hi : i < row.length)
include hw hr hi
end
end Go.Proofs.YtnpbfjdpglfdkaaGreatDoor
end

section
namespace Go.Proofs.YtnpbfjdpglfdkaaGreatDoor
open Go Go.E
end Go.Proofs.YtnpbfjdpglfdkaaGreatDoor
end

section
namespace Go.Proofs.YtnpbfjdpglfdkaaGreatDoor
open Go Go.E
end Go.Proofs.YtnpbfjdpglfdkaaGreatDoor
end

section
namespace Go.Proofs.YtnpbfjdpglfdkaaGreatDoor
open Go Go.E
end Go.Proofs.YtnpbfjdpglfdkaaGreatDoor
end

section
namespace Go.E
open Go
structure Dfa where
  cls : List Int
  next : List (List Int)
  fin : List Bool
def Dfa.zero : Dfa := ⟨[], [], []⟩
structure DfaP where
  a1 : Option Addr
  c1 : Nat
  a2 : Option Addr
  c2 : Nat
  a3 : Option Addr
  c3 : Nat
def DfaP.zero : DfaP := ⟨none, 0, none, 0, none, 0⟩
structure RDfa (σ : Store) (x : Dfa) (p : DfaP) : Prop where
  c : RS σ 1 Go.E.encI (.slice p.a1 x.cls.length p.c1) x.cls
  n : RZ σ (pkSl 1 Go.E.encI encI_len) (.slice p.a2 x.next.length p.c2) x.next
  e : RS σ 1 encB (.slice p.a3 x.fin.length p.c3) x.fin
end Go.E
end

section
namespace Go.E
open Go
def GT {α : Type} (σ : Store) (g : Nat) (enc : α → List Value) (l : List α) : Prop := ∃ E, σ g = some (.cells (l.flatMap enc).toArray E)
theorem GT.mono {α : Type} {σ τ : Store} {g : Nat} {enc : α → List Value} {l : List α} (h : GT σ g enc l) (hle : σ.le τ) : GT τ g enc l := let ⟨E, h⟩ := h; ⟨E, hle _ _ h⟩
theorem flat_one {α : Type} {enc : α → List Value} (hl : ∀ x, (enc x).length = 1) (d : α) : ∀ (l : List α) (i : Nat), i < l.length → (l.flatMap enc)[i]? = (enc (nth l i d))[0]?
  | [], i, h => by simp at h
  | x :: l, 0, _ => by
    have := hl x
    rw [List.flatMap_cons, List.getElem?_append_left (by omega)]
    simp [nth]
  | x :: l, i + 1, h => by
    have h1 := hl x
    rw [List.flatMap_cons, List.getElem?_append_right (by omega), h1, Nat.add_sub_cancel, flat_one hl d l i (by simpa using h)]
    simp [nth]
theorem OpVal.loadG1 {P : Program} {n : Nat} {e : Env} {σ : Store} {H : List Res} {o : Oper} {x : Operand} {α : Type} {T g i : Nat} {enc : α → List Value} {l : List α} {v : Value} (d : α) (ho : o.op = .load T x) (hA : aggOf P T = some false) (hx : ev e x = loc g (0 + i * 1)) (hG : GT σ g enc l) (hi : i < l.length) (hl : ∀ x, (enc x).length = 1) (hv : enc (nth l i d) = [v]) : OpVal P n o e σ H v := fun w hw => by
  obtain ⟨E, hE⟩ := hG
  have h1 := hw.1 _ _ hE
  have hc : w.cell? ⟨g, 0 + i * 1, none⟩ = some v := by
    have h2 := flat_one hl d l i hi
    rw [hv] at h2
    simp only [World.cell?, h1, Option.isSome_none, Bool.false_eq_true, if_false, Nat.zero_add, Nat.mul_one, List.getElem?_toArray]
    rw [h2]; rfl
  rw [Nat.zero_add, Nat.mul_one] at hc hx
  simp [execOp, ho, hx, Instr.loadAt, Instr.sureAddr, loc, run_loadVar_one hA hc]
theorem OpVal.negW {P : Program} {n : Nat} {e : Env} {σ : Store} {H : List Res} {o : Oper} {x : Operand} {T : TypeId} {k : IntKind} {a : Int} (ho : o.op = .unOp .neg T x) (hx : ev e x = .int k a) : OpVal P n o e σ H (.int k (k.wrap (-a))) := fun w _ => by
  simp [execOp, ho, hx, Op.unary, Op.intArith]
theorem OpVal.negU {P : Program} {n : Nat} {e : Env} {σ : Store} {H : List Res} {o : Oper} {x : Operand} {T : TypeId} {a : Nat} (ho : o.op = .unOp .neg T x) (hx : ev e x = .int .u64 (a : Nat)) : OpVal P n o e σ H (.int .u64 ((u64of (-(a : Int)) : Nat) : Int)) := by
  rw [u64of_val]; exact OpVal.negW ho hx
theorem OpVal.indexSet {P : Program} {n : Nat} {e : Env} {σ : Store} {H : List Res} {o : Oper} {x y : Operand} {T E i : Nat} {k : IntKind} {s : BSet} (ho : o.op = .index T x y) (ht : P.underlying T = some (.array 4 E)) (hz : szOf P E = some 1) (hA : aggOf P E = some false) (hx : ev e x = setV s) (hy : ev e y = .int k (i : Nat)) (hi : i < 4) :
    OpVal P n o e σ H (.int .u64 ((s.word i : Nat) : Int)) := fun w _ => by
  have h1 := setA_get s hi
  simp [execOp, ho, hx, hy, setV, Instr.index, asIntOf, run_underlying ht, run_sizeOf hz, part, run_isAgg hA, h1]
  omega
def deB : List UInt8 := [0, 1, 56, 2, 57, 49, 28, 3, 61, 58, 42, 50, 38, 29, 17, 4, 62, 47, 59, 36, 45, 43, 51, 22, 53, 39, 33, 30, 24, 18, 12, 5, 63, 55, 48, 27, 60, 41, 37, 16, 46, 35, 44, 21, 52, 32, 23, 11, 54, 26, 40, 15, 34, 20, 31, 10, 25, 14, 19, 9, 13, 8, 7, 6]
end Go.E
end
