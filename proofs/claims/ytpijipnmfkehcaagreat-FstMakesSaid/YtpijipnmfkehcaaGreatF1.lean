/- Decompiled: what a transducer relates. -/
import Derived.Test.YtpijipnmfkehcaaGreatSets
import Derived.Test.YtpijipnmfkehcaaGreatData2
set_option linter.unusedVariables false
set_option linter.unusedSimpArgs false
namespace Go.Proofs.YtpijipnmfkehcaaGreat
open Go Go.E
set_option maxRecDepth 100000
private theorem ag22 : Go.E.aggOf Tryz.prog 22 = some false := by kernel_rfl
private theorem ag23 : Go.E.aggOf Tryz.prog 23 = some false := by kernel_rfl
private theorem ag3 : Go.E.aggOf Tryz.prog 3 = some false := by kernel_rfl
private theorem ag4 : Go.E.aggOf Tryz.prog 4 = some false := by kernel_rfl
private theorem ag40 : Go.E.aggOf Tryz.prog 40 = some true := by kernel_rfl
private theorem ag45 : Go.E.aggOf Tryz.prog 45 = some true := by kernel_rfl
private theorem ag9 : Go.E.aggOf Tryz.prog 9 = some false := by kernel_rfl
private theorem eg43 : Tryz.prog.eqGuardType Tryz.prog.depth 43 = false := by kernel_rfl
private theorem fo25_0 : Go.E.foOf Tryz.prog 25 0 = some 0 := by kernel_rfl
private theorem fo25_1 : Go.E.foOf Tryz.prog 25 1 = some 1 := by kernel_rfl
private theorem fo25_2 : Go.E.foOf Tryz.prog 25 2 = some 2 := by kernel_rfl
private theorem fo25_3 : Go.E.foOf Tryz.prog 25 3 = some 3 := by kernel_rfl
private theorem fo40_0 : Go.E.foOf Tryz.prog 40 0 = some 0 := by kernel_rfl
private theorem fo40_1 : Go.E.foOf Tryz.prog 40 1 = some 1 := by kernel_rfl
private theorem fo45_0 : Go.E.foOf Tryz.prog 45 0 = some 0 := by kernel_rfl
private theorem fo45_1 : Go.E.foOf Tryz.prog 45 1 = some 1 := by kernel_rfl
private theorem fo45_2 : Go.E.foOf Tryz.prog 45 2 = some 2 := by kernel_rfl
private theorem fo45_3 : Go.E.foOf Tryz.prog 45 3 = some 6 := by kernel_rfl
private theorem fo45_4 : Go.E.foOf Tryz.prog 45 4 = some 7 := by kernel_rfl
private theorem fo84_0 : Go.E.foOf Tryz.prog 84 0 = some 0 := by kernel_rfl
private theorem fo84_1 : Go.E.foOf Tryz.prog 84 1 = some 1 := by kernel_rfl
private theorem es84 (x y : FPair) : Go.E.EqAt Tryz.prog 2 84 (.agg (Go.E.encFPair x).toArray) (.agg (Go.E.encFPair y).toArray) (decide (x = y)) :=
  (EqAt.struct (ts := [(false, 3, 0), (false, 9, 1)]) (by kernel_rfl) (by kernel_rfl) (by kernel_rfl) (EqC.one (by kernel_rfl) rfl rfl (EqAt.int Tryz.underlying3 x.state y.state) (EqC.one (by kernel_rfl) rfl rfl (EqAt.str Tryz.underlying9 x.out y.out) EqC.nil))).of (by rw [Bool.eq_iff_iff]; cases x; cases y; simp)
private theorem kl84 : Go.E.KeyL Tryz.prog 84 (fun x => Value.agg (Go.E.encFPair x).toArray) :=
  KeyL.struct Tryz.underlying84 es84 rfl (fun x => CkAt.struct (n := 1) (ts := [(false, 3, 0), (false, 9, 1)]) (by kernel_rfl) (by kernel_rfl) (CkC.one (by kernel_rfl) rfl (CkAt.int Tryz.underlying3 _) (CkC.one (by kernel_rfl) rfl (CkAt.str Tryz.underlying9 _) CkC.nil))) rfl encFPair_bits
private theorem pf28 : Go.E.plainF Tryz.prog 28 = true := by kernel_rfl
private theorem pf29 : Go.E.plainF Tryz.prog 29 = true := by kernel_rfl
private theorem pf32 : Go.E.plainF Tryz.prog 32 = true := by kernel_rfl
private theorem pf58 : Go.E.plainF Tryz.prog 58 = true := by kernel_rfl
private theorem pl82 : Go.E.plOf Tryz.prog 82 = some #[] := by kernel_rfl
private theorem pl84 : Go.E.plOf Tryz.prog 84 = some #[(0, 1), (1, 1)] := by kernel_rfl
private theorem sz23 : Go.E.szOf Tryz.prog 23 = some 1 := by kernel_rfl
private theorem sz40 : Go.E.szOf Tryz.prog 40 = some 2 := by kernel_rfl
private theorem sz45 : Go.E.szOf Tryz.prog 45 = some 8 := by kernel_rfl
private theorem sz84 : Go.E.szOf Tryz.prog 84 = some 2 := by kernel_rfl
private theorem ze40 : Go.E.zeroOf Tryz.prog 40 = some (.agg #[.int .i64 0, .string ByteArray.empty]) := by kernel_rfl
private theorem ze45 : Go.E.zeroOf Tryz.prog 45 = some (.agg #[.int .i64 0, .int .i64 0, .int .u64 0, .int .u64 0, .int .u64 0, .int .u64 0, .string ByteArray.empty, .bool false]) := by kernel_rfl
private theorem ze5 : Go.E.zeroOf Tryz.prog 5 = some (.int .u8 0) := by kernel_rfl
private theorem ze82 : Go.E.zeroOf Tryz.prog 82 = some (.agg #[]) := by kernel_rfl
private theorem ze84 : Go.E.zeroOf Tryz.prog 84 = some (.agg #[.int .i64 0, .string ByteArray.empty]) := by kernel_rfl

noncomputable def fst_state (x0 : Int) (x1 : Int) : Option (Bool) :=
  iteO (decide (0 ≤ x0)) (some (decide (x0 < x1))) (some false)
theorem fst_state_con {σ : Store} {x0 : Int} {x1 : Int}  {r : Bool} (hh : fst_state x0 x1 = some r) :
    Con Tryz.prog 29 #[.int .i64 x0, .int .i64 x1] σ [] (PureP (.bool r) σ) := by
  dsimp only [fst_state] at hh
  refine Con.mk (n := 12) Tryz.func29 rfl rfl rfl (fun w0 => ?_)
  refine TC.seq ?_
  refine TC.region ?_
  refine TL.v rfl (OpVal.moveB (.inr rfl) rfl) rfl rfl ?_
  refine TL.nil ?_
  refine S.n ?_
  refine TC.seq ?_
  refine TC.region ?_
  refine TL.v rfl (OpVal.moveI (.inl rfl) rfl) rfl rfl ?_
  refine TL.v rfl (OpVal.leq rfl rfl rfl) rfl rfl ?_
  refine TL.v rfl (OpVal.moveB (.inl rfl) rfl) rfl rfl ?_
  refine TL.split 7 rfl (fun h101 => ?_) (fun h101 => ?_)
  · replace hh := iteO_t h101 hh
    replace h101 := of_decide_eq_true h101
    refine TL.gv rfl rfl rfl rfl rfl (OpVal.moveI (.inl rfl) rfl) rfl rfl ?_
    refine TL.gv rfl rfl rfl rfl rfl (OpVal.moveI (.inl rfl) rfl) rfl rfl ?_
    refine TL.gv rfl rfl rfl rfl rfl (OpVal.lss rfl rfl rfl) rfl rfl ?_
    refine TL.v rfl (OpVal.pickTB rfl rfl rfl) rfl rfl ?_
    refine TL.v rfl (OpVal.moveB (.inr rfl) rfl) rfl rfl ?_
    refine TL.nil ?_
    refine S.n ?_
    refine TC.ret ?_
    obtain rfl := Option.some.inj hh
    exact RetOk.mk' (rs := [.tmp 4]) [] rfl (.inl rfl) (RVs.tmp rfl RVs.nil) (List.sublist_append_left _ _) ⟨rfl, rfl, rfl⟩
  · replace hh := iteO_f h101 hh
    replace h101 := of_decide_eq_false h101
    refine TL.goff rfl rfl rfl rfl rfl rfl rfl rfl ?_
    refine TL.goff rfl rfl rfl rfl rfl rfl rfl rfl ?_
    refine TL.goff rfl rfl rfl rfl rfl rfl rfl rfl ?_
    refine TL.v rfl (OpVal.pickFB rfl rfl rfl) rfl rfl ?_
    refine TL.v rfl (OpVal.moveB (.inr rfl) rfl) rfl rfl ?_
    refine TL.nil ?_
    refine S.n ?_
    refine TC.ret ?_
    obtain rfl := Option.some.inj hh
    exact RetOk.mk' (rs := [.tmp 4]) [] rfl (.inl rfl) (RVs.tmp rfl RVs.nil) (List.sublist_append_left _ _) ⟨rfl, rfl, rfl⟩

noncomputable def fst_rightTips_b1 (x0 : List Tip) (x1 : Int) (k104 : Nat) : Option ((Nat) ⊕ (Bool)) :=
  iteO (decide (((k104 : Nat) : Int) < ((x0.length : Nat) : Int))) (bnd (fst_state ((nth x0 k104 Tip.zero).state) x1) (fun v17 => iteO (!v17) (fin (some false)) (iteO (decide (1024 < ((((nth x0 k104 Tip.zero).out).length : Nat) : Int))) (fin (some false)) (nxt (k104 + 1))))) (fin (some true))
noncomputable def fst_rightTips (x0 : List Tip) (x1 : Int) : Option (Bool) :=
  iteO (decide (1024 < ((x0.length : Nat) : Int))) (some false) (iter (fun q : Nat => fst_rightTips_b1 x0 x1 q) 0)
theorem fst_rightTips_con {σ : Store} {x0 : List Tip} {a0_0 : Option Addr} {c0_0 : Nat} {x1 : Int} (f0_0 : RS σ 2 encTip (.slice a0_0 x0.length c0_0) x0) {r : Bool} (hh : fst_rightTips x0 x1 = some r) :
    Con Tryz.prog 28 #[.slice a0_0 x0.length c0_0, .int .i64 x1] σ [] (PureP (.bool r) σ) := by
  dsimp only [fst_rightTips] at hh
  have f0_0b := f0_0.rv.big
  refine Con.mk (n := 28) Tryz.func28 rfl rfl rfl (fun w0 => ?_)
  refine TC.seq ?_
  refine TC.region ?_
  refine TL.v rfl (OpVal.moveB (.inr rfl) rfl) rfl rfl ?_
  refine TL.nil ?_
  refine S.n ?_
  refine TC.seq ?_
  refine TC.seq ?_
  refine TC.region ?_
  refine TL.v rfl (OpVal.moveSl (.inl rfl) rfl) rfl rfl ?_
  refine TL.v rfl (OpVal.lenC rfl Tryz.underlying22 rfl) rfl rfl ?_
  refine TL.v rfl (OpVal.gtr rfl rfl rfl) rfl rfl ?_
  refine TL.nil ?_
  refine S.n ?_
  refine TC.cond rfl (fun h101 => ?_) (fun h101 => ?_)
  · replace hh := iteO_t h101 hh
    replace h101 := of_decide_eq_true h101
    refine TC.seq ?_
    refine TC.region ?_
    refine TL.v rfl (OpVal.moveB (.inr rfl) rfl) rfl rfl ?_
    refine TL.nil ?_
    refine S.n ?_
    refine TC.ret ?_
    refine S.r ?_
    obtain rfl := Option.some.inj hh
    exact RetOk.mk' (rs := [.tmp 4]) [] rfl (.inl rfl) (RVs.tmp rfl RVs.nil) (List.sublist_append_left _ _) ⟨rfl, rfl, rfl⟩
  · replace hh := iteO_f h101 hh
    replace h101 := of_decide_eq_false h101
    refine TC.skip ?_
    refine S.n ?_
    refine TC.seq ?_
    refine TC.seq ?_
    refine TC.region ?_
    refine TL.v rfl (OpVal.moveSl (.inl rfl) rfl) rfl rfl ?_
    refine TL.v rfl (OpVal.lenC rfl Tryz.underlying22 rfl) rfl rfl ?_
    refine TL.v rfl (OpVal.moveI (.inl rfl) rfl) rfl rfl ?_
    refine TL.nil ?_
    refine S.n ?_
    refine TC.block ?_
    refine TC.loopG (α := (Nat) × (Unit)) [4, 6, 12, 13, 14, 15, 16, 17, 18, 19, 20, 21, 22, 23, 24, 25, 26, 27] (fun g => [(12, .int .i64 ((g.1 : Nat) : Int))]) (fun g => []) (fun g => σ) (fun g => iter (fun q : Nat => fst_rightTips_b1 x0 x1 q) g.1 = some r) (fun g => rounds (fun q : Nat => fst_rightTips_b1 x0 x1 q) g.1) (0, ()) (Sub.pre 0 rfl) rfl (by repeat (first | exact trivial | refine ⟨rfl, ?_⟩)) hh (fun g1 j1 hg1 => ?_)
    obtain ⟨k104, _⟩ := g1
    have hh := hg1; clear hg1
    show TC _ _ _ (upds (mask _ j1 _) [(12, .int .i64 ((k104 : Nat) : Int))]) _ []
    obtain ⟨z1, hh, hR1⟩ := iter_e hh
    dsimp only [fst_rightTips_b1] at hh
    refine TC.seq ?_
    refine TC.region ?_
    refine TL.v rfl (OpVal.lss rfl rfl rfl) rfl rfl ?_
    refine TL.nil ?_
    refine S.n ?_
    refine TC.seq ?_
    refine TC.cond rfl (fun h105 => ?_) (fun h105 => ?_)
    · replace hh := iteO_t h105 hh
      replace h105 := of_decide_eq_true h105
      refine TC.skip ?_
      refine S.n ?_
      refine TC.seq ?_
      refine TC.block ?_
      refine TC.seq ?_
      refine TC.region ?_
      refine TL.v rfl (OpVal.indexN rfl Tryz.underlying22 sz40 rfl rfl f0_0.rv.sl (by omega)) rfl rfl ?_
      refine TL.v rfl (OpVal.loadSA Tip.zero rfl ag40 sz40 rfl f0_0 (by omega) (by omega)) rfl rfl ?_
      refine TL.op rfl (OpOk.alloc rfl ze40 rfl rfl (fun b106 => ?_))
      refine TL.op rfl (OpOk.storeAll rfl sz40 rfl rfl rfl rfl rfl rfl ?_)
      refine TL.nil ?_
      refine S.n ?_
      refine TC.seq ?_
      refine TC.region ?_
      refine TL.v rfl (OpVal.fieldLoc rfl fo40_0 rfl) rfl rfl ?_
      refine TL.v rfl (OpVal.loadLoc rfl ag3 rfl (i := 0) rfl rfl) rfl rfl ?_
      refine TL.v rfl (OpVal.moveI (.inl rfl) rfl) rfl rfl ?_
      obtain ⟨v17, u17, hh⟩ := bnd_e hh
      refine TL.op rfl (OpOk.callP (fst_state_con u17) rfl rfl pf29 rfl rfl rfl ?_)
      refine TL.v rfl (OpVal.not rfl rfl) rfl rfl ?_
      refine TL.v rfl (OpVal.moveB (.inl rfl) rfl) rfl rfl ?_
      refine TL.split 21 rfl (fun h108 => ?_) (fun h108 => ?_)
      · replace hh := iteO_t h108 hh
        refine TL.goff rfl rfl rfl rfl rfl rfl rfl rfl ?_
        refine TL.goff rfl rfl rfl rfl rfl rfl rfl rfl ?_
        refine TL.goff rfl rfl rfl rfl rfl rfl rfl rfl ?_
        refine TL.goff rfl rfl rfl rfl rfl rfl rfl rfl ?_
        refine TL.v rfl (OpVal.pickTB rfl rfl rfl) rfl rfl ?_
        refine TL.nil ?_
        refine S.n ?_
        refine TC.cond rfl (fun _ => ?_) (fun h => Bool.noConfusion h)
        refine TC.seq ?_
        refine TC.region ?_
        refine TL.v rfl (OpVal.moveB (.inr rfl) rfl) rfl rfl ?_
        refine TL.nil ?_
        refine S.n ?_
        refine TC.ofSub (Sub.pre 0 rfl) ?_
        refine TC.ret ?_
        refine B.r ?_
        refine S.r ?_
        refine S.r ?_
        replace hh := fin_x hR1 hh
        refine B.r ?_
        refine S.r ?_
        obtain rfl := Option.some.inj hh
        exact RetOk.mk' (rs := [.tmp 4]) [] rfl (.inl rfl) (RVs.tmp rfl RVs.nil) (List.sublist_append_left _ _) ⟨rfl, rfl, rfl⟩
      · replace hh := iteO_f h108 hh
        refine TL.gv rfl rfl rfl rfl rfl (OpVal.fieldLoc rfl fo40_1 rfl) rfl rfl ?_
        refine TL.gv rfl rfl rfl rfl rfl (OpVal.loadLoc rfl ag9 rfl (i := 0) rfl rfl) rfl rfl ?_
        refine TL.gv rfl rfl rfl rfl rfl (OpVal.lenBs rfl Tryz.underlying9 rfl) rfl rfl ?_
        refine TL.gv rfl rfl rfl rfl rfl (OpVal.gtr rfl rfl rfl) rfl rfl ?_
        refine TL.v rfl (OpVal.pickFB rfl rfl rfl) rfl rfl ?_
        refine TL.nil ?_
        refine S.n ?_
        refine TC.cond rfl (fun h109 => ?_) (fun h109 => ?_)
        · replace hh := iteO_t h109 hh
          replace h109 := of_decide_eq_true h109
          refine TC.seq ?_
          refine TC.region ?_
          refine TL.v rfl (OpVal.moveB (.inr rfl) rfl) rfl rfl ?_
          refine TL.nil ?_
          refine S.n ?_
          refine TC.ofSub (Sub.pre 0 rfl) ?_
          refine TC.ret ?_
          refine B.r ?_
          refine S.r ?_
          refine S.r ?_
          replace hh := fin_x hR1 hh
          refine B.r ?_
          refine S.r ?_
          obtain rfl := Option.some.inj hh
          exact RetOk.mk' (rs := [.tmp 4]) [] rfl (.inl rfl) (RVs.tmp rfl RVs.nil) (List.sublist_append_left _ _) ⟨rfl, rfl, rfl⟩
        · replace hh := iteO_f h109 hh
          replace h109 := of_decide_eq_false h109
          refine TC.skip ?_
          refine B.n ?_
          refine S.n ?_
          refine TC.region ?_
          refine TL.v rfl (OpVal.succ rfl rfl rfl (by omega)) rfl rfl ?_
          refine TL.v rfl (OpVal.moveI (.inl rfl) rfl) rfl rfl ?_
          refine TL.nil ?_
          refine S.n ?_
          obtain ⟨hh, hlt110⟩ := nxt_x hR1 hh
          refine ⟨by repeat (first | exact Agr.refl _ _ | exact Agr.mask | refine Agr.upd rfl ?_ | refine Agr.maskIn rfl ?_ | refine Agr.upds rfl ?_), ((k104 + 1), ()), hlt110, hh, by repeat (first | exact trivial | refine ⟨rfl, ?_⟩), Sub.pre 0 rfl, rfl⟩
    · replace hh := iteO_f h105 hh
      replace h105 := of_decide_eq_false h105
      refine TC.exit ?_
      refine S.x ?_
      refine S.x ?_
      replace hh := fin_x hR1 hh
      refine TC.exitHere ?_
      refine S.n ?_
      refine TC.seq ?_
      refine TC.region ?_
      refine TL.v rfl (OpVal.moveB (.inr rfl) rfl) rfl rfl ?_
      refine TL.nil ?_
      refine S.n ?_
      refine TC.ret ?_
      obtain rfl := Option.some.inj hh
      exact RetOk.mk' (rs := [.tmp 4]) [] rfl (.inl rfl) (RVs.tmp rfl RVs.nil) (List.sublist_append_left _ _) ⟨rfl, rfl, rfl⟩

noncomputable def fst_Check_b1 (x0 : Fst) (k110 : Nat) : Option ((Nat) ⊕ (Int)) :=
  iteO (decide (((k110 : Nat) : Int) < ((x0.arcs.length : Nat) : Int))) (bnd (fst_state ((nth x0.arcs k110 Arc.zero).frm) x0.states) (fun v46 => iteO (!v46) (fin (some 1)) (bnd (fst_state ((nth x0.arcs k110 Arc.zero).to) x0.states) (fun v53 => iteO (!v53) (fin (some 1)) (iteO (decide ((nth x0.arcs k110 Arc.zero).set = BSet.zero)) (fin (some 1)) (iteO (decide (1024 < ((((nth x0.arcs k110 Arc.zero).out).length : Nat) : Int))) (fin (some 1)) (nxt (k110 + 1)))))))) (fin (some 0))
noncomputable def fst_Check (x0 : Fst) : Option (Int) :=
  iteO (decide (x0.states < 0)) (some 1) (iteO (decide (1024 < x0.states)) (some 1) (iteO (decide (16384 < ((x0.arcs.length : Nat) : Int))) (some 1) (bnd (fst_rightTips x0.starts x0.states) (fun v22 => iteO (!v22) (some 1) (bnd (fst_rightTips x0.ends x0.states) (fun v29 => iteO (!v29) (some 1) (iter (fun q : Nat => fst_Check_b1 x0 q) 0)))))))
theorem fst_Check_con {σ : Store} {x0 : Fst} {a0_0 : Option Addr} {c0_0 : Nat} {a0_1 : Option Addr} {c0_1 : Nat} {a0_2 : Option Addr} {c0_2 : Nat} (f0_0 : RS σ 2 encTip (.slice a0_0 x0.starts.length c0_0) x0.starts) (f0_1 : RS σ 2 encTip (.slice a0_1 x0.ends.length c0_1) x0.ends) (f0_2 : RS σ 8 encArc (.slice a0_2 x0.arcs.length c0_2) x0.arcs) {r : Int} (hh : fst_Check x0 = some r) :
    Con Tryz.prog 12 #[.agg #[.int .i64 x0.states, .slice a0_0 x0.starts.length c0_0, .slice a0_1 x0.ends.length c0_1, .slice a0_2 x0.arcs.length c0_2]] σ [] (PureP (.int .i64 r) σ) := by
  dsimp only [fst_Check] at hh
  have f0_0b := f0_0.rv.big
  have f0_1b := f0_1.rv.big
  have f0_2b := f0_2.rv.big
  refine Con.mk (n := 67) Tryz.func12 rfl rfl rfl (fun w0 => ?_)
  refine TC.seq ?_
  refine TC.region ?_
  refine TL.op rfl (OpOk.boxA rfl rfl rfl rfl (fun b101 => ?_))
  refine TL.v rfl (OpVal.moveI (.inr rfl) rfl) rfl rfl ?_
  refine TL.nil ?_
  refine S.n ?_
  refine TC.seq ?_
  refine TC.seq ?_
  refine TC.region ?_
  refine TL.v rfl (OpVal.fieldLoc rfl fo25_0 rfl) rfl rfl ?_
  refine TL.v rfl (OpVal.loadLoc rfl ag3 rfl (i := 0) rfl rfl) rfl rfl ?_
  refine TL.v rfl (OpVal.lss rfl rfl rfl) rfl rfl ?_
  refine TL.v rfl (OpVal.moveB (.inl rfl) rfl) rfl rfl ?_
  refine TL.split 8 rfl (fun h103 => ?_) (fun h103 => ?_)
  · replace hh := iteO_t h103 hh
    replace h103 := of_decide_eq_true h103
    refine TL.goff rfl rfl rfl rfl rfl rfl rfl rfl ?_
    refine TL.goff rfl rfl rfl rfl rfl rfl rfl rfl ?_
    refine TL.goff rfl rfl rfl rfl rfl rfl rfl rfl ?_
    refine TL.v rfl (OpVal.pickTB rfl rfl rfl) rfl rfl ?_
    refine TL.v rfl (OpVal.moveB (.inl rfl) rfl) rfl rfl ?_
    refine TL.goff rfl rfl rfl rfl rfl rfl rfl rfl ?_
    refine TL.goff rfl rfl rfl rfl rfl rfl rfl rfl ?_
    refine TL.goff rfl rfl rfl rfl rfl rfl rfl rfl ?_
    refine TL.goff rfl rfl rfl rfl rfl rfl rfl rfl ?_
    refine TL.v rfl (OpVal.pickTB rfl rfl rfl) rfl rfl ?_
    refine TL.nil ?_
    refine S.n ?_
    refine TC.cond rfl (fun _ => ?_) (fun h => Bool.noConfusion h)
    refine TC.seq ?_
    refine TC.region ?_
    refine TL.v rfl (OpVal.moveI (.inr rfl) rfl) rfl rfl ?_
    refine TL.nil ?_
    refine S.n ?_
    refine TC.ofSub (Sub.pre 0 rfl) ?_
    refine TC.ret ?_
    refine S.r ?_
    obtain rfl := Option.some.inj hh
    exact RetOk.mk' (rs := [.tmp 2]) [] rfl (.inl rfl) (RVs.tmp rfl RVs.nil) (List.sublist_append_left _ _) ⟨rfl, rfl, rfl⟩
  · replace hh := iteO_f h103 hh
    replace h103 := of_decide_eq_false h103
    refine TL.gv rfl rfl rfl rfl rfl (OpVal.fieldLoc rfl fo25_0 rfl) rfl rfl ?_
    refine TL.gv rfl rfl rfl rfl rfl (OpVal.loadLoc rfl ag3 rfl (i := 0) rfl rfl) rfl rfl ?_
    refine TL.gv rfl rfl rfl rfl rfl (OpVal.gtr rfl rfl rfl) rfl rfl ?_
    refine TL.v rfl (OpVal.pickFB rfl rfl rfl) rfl rfl ?_
    refine TL.v rfl (OpVal.moveB (.inl rfl) rfl) rfl rfl ?_
    refine TL.split 13 rfl (fun h104 => ?_) (fun h104 => ?_)
    · replace hh := iteO_t h104 hh
      replace h104 := of_decide_eq_true h104
      refine TL.goff rfl rfl rfl rfl rfl rfl rfl rfl ?_
      refine TL.goff rfl rfl rfl rfl rfl rfl rfl rfl ?_
      refine TL.goff rfl rfl rfl rfl rfl rfl rfl rfl ?_
      refine TL.goff rfl rfl rfl rfl rfl rfl rfl rfl ?_
      refine TL.v rfl (OpVal.pickTB rfl rfl rfl) rfl rfl ?_
      refine TL.nil ?_
      refine S.n ?_
      refine TC.cond rfl (fun _ => ?_) (fun h => Bool.noConfusion h)
      refine TC.seq ?_
      refine TC.region ?_
      refine TL.v rfl (OpVal.moveI (.inr rfl) rfl) rfl rfl ?_
      refine TL.nil ?_
      refine S.n ?_
      refine TC.ofSub (Sub.pre 0 rfl) ?_
      refine TC.ret ?_
      refine S.r ?_
      obtain rfl := Option.some.inj hh
      exact RetOk.mk' (rs := [.tmp 2]) [] rfl (.inl rfl) (RVs.tmp rfl RVs.nil) (List.sublist_append_left _ _) ⟨rfl, rfl, rfl⟩
    · replace hh := iteO_f h104 hh
      replace h104 := of_decide_eq_false h104
      refine TL.gv rfl rfl rfl rfl rfl (OpVal.fieldLoc rfl fo25_3 rfl) rfl rfl ?_
      refine TL.gv rfl rfl rfl rfl rfl (OpVal.loadLoc rfl ag23 rfl (i := 0) rfl rfl) rfl rfl ?_
      refine TL.gv rfl rfl rfl rfl rfl (OpVal.lenC rfl Tryz.underlying23 rfl) rfl rfl ?_
      refine TL.gv rfl rfl rfl rfl rfl (OpVal.gtr rfl rfl rfl) rfl rfl ?_
      refine TL.v rfl (OpVal.pickFB rfl rfl rfl) rfl rfl ?_
      refine TL.nil ?_
      refine S.n ?_
      refine TC.cond rfl (fun h105 => ?_) (fun h105 => ?_)
      · replace hh := iteO_t h105 hh
        replace h105 := of_decide_eq_true h105
        refine TC.seq ?_
        refine TC.region ?_
        refine TL.v rfl (OpVal.moveI (.inr rfl) rfl) rfl rfl ?_
        refine TL.nil ?_
        refine S.n ?_
        refine TC.ofSub (Sub.pre 0 rfl) ?_
        refine TC.ret ?_
        refine S.r ?_
        obtain rfl := Option.some.inj hh
        exact RetOk.mk' (rs := [.tmp 2]) [] rfl (.inl rfl) (RVs.tmp rfl RVs.nil) (List.sublist_append_left _ _) ⟨rfl, rfl, rfl⟩
      · replace hh := iteO_f h105 hh
        replace h105 := of_decide_eq_false h105
        refine TC.skip ?_
        refine S.n ?_
        refine TC.seq ?_
        refine TC.seq ?_
        refine TC.region ?_
        refine TL.v rfl (OpVal.fieldLoc rfl fo25_1 rfl) rfl rfl ?_
        refine TL.v rfl (OpVal.loadLoc rfl ag22 rfl (i := 0) rfl rfl) rfl rfl ?_
        refine TL.v rfl (OpVal.fieldLoc rfl fo25_0 rfl) rfl rfl ?_
        refine TL.v rfl (OpVal.loadLoc rfl ag3 rfl (i := 0) rfl rfl) rfl rfl ?_
        obtain ⟨v22, u22, hh⟩ := bnd_e hh
        refine TL.op rfl (OpOk.callP (fst_rightTips_con f0_0 u22) rfl rfl pf28 rfl rfl rfl ?_)
        refine TL.v rfl (OpVal.not rfl rfl) rfl rfl ?_
        refine TL.v rfl (OpVal.moveB (.inl rfl) rfl) rfl rfl ?_
        refine TL.split 25 rfl (fun h106 => ?_) (fun h106 => ?_)
        · replace hh := iteO_t h106 hh
          refine TL.goff rfl rfl rfl rfl rfl rfl rfl rfl ?_
          refine TL.goff rfl rfl rfl rfl rfl rfl rfl rfl ?_
          refine TL.goff rfl rfl rfl rfl rfl rfl rfl rfl ?_
          refine TL.goff rfl rfl rfl rfl rfl rfl rfl rfl ?_
          refine TL.goff rfl rfl rfl rfl rfl rfl rfl rfl ?_
          refine TL.goff rfl rfl rfl rfl rfl rfl rfl rfl ?_
          refine TL.v rfl (OpVal.pickTB rfl rfl rfl) rfl rfl ?_
          refine TL.nil ?_
          refine S.n ?_
          refine TC.cond rfl (fun _ => ?_) (fun h => Bool.noConfusion h)
          refine TC.seq ?_
          refine TC.region ?_
          refine TL.v rfl (OpVal.moveI (.inr rfl) rfl) rfl rfl ?_
          refine TL.nil ?_
          refine S.n ?_
          refine TC.ofSub (Sub.pre 0 rfl) ?_
          refine TC.ret ?_
          refine S.r ?_
          obtain rfl := Option.some.inj hh
          exact RetOk.mk' (rs := [.tmp 2]) [] rfl (.inl rfl) (RVs.tmp rfl RVs.nil) (List.sublist_append_left _ _) ⟨rfl, rfl, rfl⟩
        · replace hh := iteO_f h106 hh
          refine TL.gv rfl rfl rfl rfl rfl (OpVal.fieldLoc rfl fo25_2 rfl) rfl rfl ?_
          refine TL.gv rfl rfl rfl rfl rfl (OpVal.loadLoc rfl ag22 rfl (i := 0) rfl rfl) rfl rfl ?_
          refine TL.gv rfl rfl rfl rfl rfl (OpVal.fieldLoc rfl fo25_0 rfl) rfl rfl ?_
          refine TL.gv rfl rfl rfl rfl rfl (OpVal.loadLoc rfl ag3 rfl (i := 0) rfl rfl) rfl rfl ?_
          obtain ⟨v29, u29, hh⟩ := bnd_e hh
          refine TL.gon rfl rfl rfl rfl rfl (OpOk.callP (fst_rightTips_con f0_1 u29) rfl rfl pf28 rfl rfl rfl ?_)
          refine TL.gv rfl rfl rfl rfl rfl (OpVal.not rfl rfl) rfl rfl ?_
          refine TL.v rfl (OpVal.pickFB rfl rfl rfl) rfl rfl ?_
          refine TL.nil ?_
          refine S.n ?_
          refine TC.cond rfl (fun h107 => ?_) (fun h107 => ?_)
          · replace hh := iteO_t h107 hh
            refine TC.seq ?_
            refine TC.region ?_
            refine TL.v rfl (OpVal.moveI (.inr rfl) rfl) rfl rfl ?_
            refine TL.nil ?_
            refine S.n ?_
            refine TC.ofSub (Sub.pre 0 rfl) ?_
            refine TC.ret ?_
            refine S.r ?_
            obtain rfl := Option.some.inj hh
            exact RetOk.mk' (rs := [.tmp 2]) [] rfl (.inl rfl) (RVs.tmp rfl RVs.nil) (List.sublist_append_left _ _) ⟨rfl, rfl, rfl⟩
          · replace hh := iteO_f h107 hh
            refine TC.skip ?_
            refine S.n ?_
            refine TC.seq ?_
            refine TC.seq ?_
            refine TC.region ?_
            refine TL.v rfl (OpVal.fieldLoc rfl fo25_3 rfl) rfl rfl ?_
            refine TL.v rfl (OpVal.loadLoc rfl ag23 rfl (i := 0) rfl rfl) rfl rfl ?_
            refine TL.v rfl (OpVal.lenC rfl Tryz.underlying23 rfl) rfl rfl ?_
            refine TL.v rfl (OpVal.moveI (.inl rfl) rfl) rfl rfl ?_
            refine TL.nil ?_
            refine S.n ?_
            refine TC.block ?_
            refine TC.loopG (α := (Nat) × (Unit)) [2, 4, 36, 37, 38, 39, 40, 41, 42, 43, 44, 45, 46, 47, 48, 49, 50, 51, 52, 53, 54, 55, 56, 57, 58, 59, 60, 61, 62, 63, 64, 65, 66] (fun g => [(36, .int .i64 ((g.1 : Nat) : Int))]) (fun g => [Res.cells b101 #[.int .i64 x0.states, .slice a0_0 x0.starts.length c0_0, .slice a0_1 x0.ends.length c0_1, .slice a0_2 x0.arcs.length c0_2] 25]) (fun g => σ) (fun g => iter (fun q : Nat => fst_Check_b1 x0 q) g.1 = some r) (fun g => rounds (fun q : Nat => fst_Check_b1 x0 q) g.1) (0, ()) (Sub.pre 1 rfl) rfl (by repeat (first | exact trivial | refine ⟨rfl, ?_⟩)) hh (fun g1 j1 hg1 => ?_)
            obtain ⟨k110, _⟩ := g1
            have hh := hg1; clear hg1
            show TC _ _ _ (upds (mask _ j1 _) [(36, .int .i64 ((k110 : Nat) : Int))]) _ [Res.cells b101 #[.int .i64 x0.states, .slice a0_0 x0.starts.length c0_0, .slice a0_1 x0.ends.length c0_1, .slice a0_2 x0.arcs.length c0_2] 25]
            obtain ⟨z1, hh, hR1⟩ := iter_e hh
            dsimp only [fst_Check_b1] at hh
            refine TC.seq ?_
            refine TC.region ?_
            refine TL.v rfl (OpVal.lss rfl rfl rfl) rfl rfl ?_
            refine TL.nil ?_
            refine S.n ?_
            refine TC.seq ?_
            refine TC.cond rfl (fun h111 => ?_) (fun h111 => ?_)
            · replace hh := iteO_t h111 hh
              replace h111 := of_decide_eq_true h111
              refine TC.skip ?_
              refine S.n ?_
              refine TC.seq ?_
              refine TC.block ?_
              refine TC.seq ?_
              refine TC.region ?_
              refine TL.v rfl (OpVal.indexN rfl Tryz.underlying23 sz45 rfl rfl f0_2.rv.sl (by omega)) rfl rfl ?_
              refine TL.v rfl (OpVal.loadSA Arc.zero rfl ag45 sz45 rfl f0_2 (by omega) (by omega)) rfl rfl ?_
              refine TL.op rfl (OpOk.alloc rfl ze45 rfl rfl (fun b112 => ?_))
              refine TL.op rfl (OpOk.storeAll rfl sz45 rfl rfl rfl rfl rfl rfl ?_)
              refine TL.nil ?_
              refine S.n ?_
              refine TC.seq ?_
              refine TC.region ?_
              refine TL.v rfl (OpVal.fieldLoc rfl fo45_0 rfl) rfl rfl ?_
              refine TL.v rfl (OpVal.loadLoc rfl ag3 rfl (i := 0) rfl rfl) rfl rfl ?_
              refine TL.v rfl (OpVal.fieldLoc rfl fo25_0 rfl) rfl rfl ?_
              refine TL.v rfl (OpVal.loadLoc rfl ag3 rfl (i := 1) rfl rfl) rfl rfl ?_
              obtain ⟨v46, u46, hh⟩ := bnd_e hh
              refine TL.op rfl (OpOk.callP (fst_state_con u46) rfl rfl pf29 rfl rfl rfl ?_)
              refine TL.v rfl (OpVal.not rfl rfl) rfl rfl ?_
              refine TL.v rfl (OpVal.moveB (.inl rfl) rfl) rfl rfl ?_
              refine TL.split 46 rfl (fun h114 => ?_) (fun h114 => ?_)
              · replace hh := iteO_t h114 hh
                refine TL.goff rfl rfl rfl rfl rfl rfl rfl rfl ?_
                refine TL.goff rfl rfl rfl rfl rfl rfl rfl rfl ?_
                refine TL.goff rfl rfl rfl rfl rfl rfl rfl rfl ?_
                refine TL.goff rfl rfl rfl rfl rfl rfl rfl rfl ?_
                refine TL.goff rfl rfl rfl rfl rfl rfl rfl rfl ?_
                refine TL.goff rfl rfl rfl rfl rfl rfl rfl rfl ?_
                refine TL.v rfl (OpVal.pickTB rfl rfl rfl) rfl rfl ?_
                refine TL.v rfl (OpVal.moveB (.inl rfl) rfl) rfl rfl ?_
                refine TL.goff rfl rfl rfl rfl rfl rfl rfl rfl ?_
                refine TL.goff rfl rfl rfl rfl rfl rfl rfl rfl ?_
                refine TL.goff rfl rfl rfl rfl rfl rfl rfl rfl ?_
                refine TL.goff rfl rfl rfl rfl rfl rfl rfl rfl ?_
                refine TL.v rfl (OpVal.pickTB rfl rfl rfl) rfl rfl ?_
                refine TL.v rfl (OpVal.moveB (.inl rfl) rfl) rfl rfl ?_
                refine TL.goff rfl rfl rfl rfl rfl rfl rfl rfl ?_
                refine TL.goff rfl rfl rfl rfl rfl rfl rfl rfl ?_
                refine TL.goff rfl rfl rfl rfl rfl rfl rfl rfl ?_
                refine TL.goff rfl rfl rfl rfl rfl rfl rfl rfl ?_
                refine TL.v rfl (OpVal.pickTB rfl rfl rfl) rfl rfl ?_
                refine TL.nil ?_
                refine S.n ?_
                refine TC.cond rfl (fun _ => ?_) (fun h => Bool.noConfusion h)
                refine TC.seq ?_
                refine TC.region ?_
                refine TL.v rfl (OpVal.moveI (.inr rfl) rfl) rfl rfl ?_
                refine TL.nil ?_
                refine S.n ?_
                refine TC.ofSub (Sub.pre 0 rfl) ?_
                refine TC.ret ?_
                refine B.r ?_
                refine S.r ?_
                refine S.r ?_
                replace hh := fin_x hR1 hh
                refine B.r ?_
                refine S.r ?_
                obtain rfl := Option.some.inj hh
                exact RetOk.mk' (rs := [.tmp 2]) [] rfl (.inl rfl) (RVs.tmp rfl RVs.nil) (List.sublist_append_left _ _) ⟨rfl, rfl, rfl⟩
              · replace hh := iteO_f h114 hh
                refine TL.gv rfl rfl rfl rfl rfl (OpVal.fieldLoc rfl fo45_1 rfl) rfl rfl ?_
                refine TL.gv rfl rfl rfl rfl rfl (OpVal.loadLoc rfl ag3 rfl (i := 0) rfl rfl) rfl rfl ?_
                refine TL.gv rfl rfl rfl rfl rfl (OpVal.fieldLoc rfl fo25_0 rfl) rfl rfl ?_
                refine TL.gv rfl rfl rfl rfl rfl (OpVal.loadLoc rfl ag3 rfl (i := 1) rfl rfl) rfl rfl ?_
                obtain ⟨v53, u53, hh⟩ := bnd_e hh
                refine TL.gon rfl rfl rfl rfl rfl (OpOk.callP (fst_state_con u53) rfl rfl pf29 rfl rfl rfl ?_)
                refine TL.gv rfl rfl rfl rfl rfl (OpVal.not rfl rfl) rfl rfl ?_
                refine TL.v rfl (OpVal.pickFB rfl rfl rfl) rfl rfl ?_
                refine TL.v rfl (OpVal.moveB (.inl rfl) rfl) rfl rfl ?_
                refine TL.split 54 rfl (fun h115 => ?_) (fun h115 => ?_)
                · replace hh := iteO_t h115 hh
                  refine TL.goff rfl rfl rfl rfl rfl rfl rfl rfl ?_
                  refine TL.goff rfl rfl rfl rfl rfl rfl rfl rfl ?_
                  refine TL.goff rfl rfl rfl rfl rfl rfl rfl rfl ?_
                  refine TL.goff rfl rfl rfl rfl rfl rfl rfl rfl ?_
                  refine TL.v rfl (OpVal.pickTB rfl rfl rfl) rfl rfl ?_
                  refine TL.v rfl (OpVal.moveB (.inl rfl) rfl) rfl rfl ?_
                  refine TL.goff rfl rfl rfl rfl rfl rfl rfl rfl ?_
                  refine TL.goff rfl rfl rfl rfl rfl rfl rfl rfl ?_
                  refine TL.goff rfl rfl rfl rfl rfl rfl rfl rfl ?_
                  refine TL.goff rfl rfl rfl rfl rfl rfl rfl rfl ?_
                  refine TL.v rfl (OpVal.pickTB rfl rfl rfl) rfl rfl ?_
                  refine TL.nil ?_
                  refine S.n ?_
                  refine TC.cond rfl (fun _ => ?_) (fun h => Bool.noConfusion h)
                  refine TC.seq ?_
                  refine TC.region ?_
                  refine TL.v rfl (OpVal.moveI (.inr rfl) rfl) rfl rfl ?_
                  refine TL.nil ?_
                  refine S.n ?_
                  refine TC.ofSub (Sub.pre 0 rfl) ?_
                  refine TC.ret ?_
                  refine B.r ?_
                  refine S.r ?_
                  refine S.r ?_
                  replace hh := fin_x hR1 hh
                  refine B.r ?_
                  refine S.r ?_
                  obtain rfl := Option.some.inj hh
                  exact RetOk.mk' (rs := [.tmp 2]) [] rfl (.inl rfl) (RVs.tmp rfl RVs.nil) (List.sublist_append_left _ _) ⟨rfl, rfl, rfl⟩
                · replace hh := iteO_f h115 hh
                  refine TL.gv rfl rfl rfl rfl rfl (OpVal.fieldLoc rfl fo45_2 rfl) rfl rfl ?_
                  refine TL.gv rfl rfl rfl rfl rfl (OpVal.loadLocA rfl ag43 sz43 rfl (i := 0) rfl rfl rfl) rfl rfl ?_
                  refine TL.gv rfl rfl rfl rfl rfl (OpVal.buildArrL rfl Tryz.underlying43 sz41 ze43 rfl) rfl rfl ?_
                  refine TL.gv rfl rfl rfl rfl rfl (OpVal.eqlSet (s := (nth x0.arcs k110 Arc.zero).set) (t := BSet.zero) rfl Tryz.underlying43 Tryz.underlying41 ag41 sz41 eg43 rfl rfl) rfl rfl ?_
                  refine TL.v rfl (OpVal.pickFB rfl rfl rfl) rfl rfl ?_
                  refine TL.v rfl (OpVal.moveB (.inl rfl) rfl) rfl rfl ?_
                  refine TL.split 60 rfl (fun h116 => ?_) (fun h116 => ?_)
                  · replace hh := iteO_t h116 hh
                    replace h116 := of_decide_eq_true h116
                    refine TL.goff rfl rfl rfl rfl rfl rfl rfl rfl ?_
                    refine TL.goff rfl rfl rfl rfl rfl rfl rfl rfl ?_
                    refine TL.goff rfl rfl rfl rfl rfl rfl rfl rfl ?_
                    refine TL.goff rfl rfl rfl rfl rfl rfl rfl rfl ?_
                    refine TL.v rfl (OpVal.pickTB rfl rfl rfl) rfl rfl ?_
                    refine TL.nil ?_
                    refine S.n ?_
                    refine TC.cond rfl (fun _ => ?_) (fun h => Bool.noConfusion h)
                    refine TC.seq ?_
                    refine TC.region ?_
                    refine TL.v rfl (OpVal.moveI (.inr rfl) rfl) rfl rfl ?_
                    refine TL.nil ?_
                    refine S.n ?_
                    refine TC.ofSub (Sub.pre 0 rfl) ?_
                    refine TC.ret ?_
                    refine B.r ?_
                    refine S.r ?_
                    refine S.r ?_
                    replace hh := fin_x hR1 hh
                    refine B.r ?_
                    refine S.r ?_
                    obtain rfl := Option.some.inj hh
                    exact RetOk.mk' (rs := [.tmp 2]) [] rfl (.inl rfl) (RVs.tmp rfl RVs.nil) (List.sublist_append_left _ _) ⟨rfl, rfl, rfl⟩
                  · replace hh := iteO_f h116 hh
                    replace h116 := of_decide_eq_false h116
                    refine TL.gv rfl rfl rfl rfl rfl (OpVal.fieldLoc rfl fo45_3 rfl) rfl rfl ?_
                    refine TL.gv rfl rfl rfl rfl rfl (OpVal.loadLoc rfl ag9 rfl (i := 0) rfl rfl) rfl rfl ?_
                    refine TL.gv rfl rfl rfl rfl rfl (OpVal.lenBs rfl Tryz.underlying9 rfl) rfl rfl ?_
                    refine TL.gv rfl rfl rfl rfl rfl (OpVal.gtr rfl rfl rfl) rfl rfl ?_
                    refine TL.v rfl (OpVal.pickFB rfl rfl rfl) rfl rfl ?_
                    refine TL.nil ?_
                    refine S.n ?_
                    refine TC.cond rfl (fun h117 => ?_) (fun h117 => ?_)
                    · replace hh := iteO_t h117 hh
                      replace h117 := of_decide_eq_true h117
                      refine TC.seq ?_
                      refine TC.region ?_
                      refine TL.v rfl (OpVal.moveI (.inr rfl) rfl) rfl rfl ?_
                      refine TL.nil ?_
                      refine S.n ?_
                      refine TC.ofSub (Sub.pre 0 rfl) ?_
                      refine TC.ret ?_
                      refine B.r ?_
                      refine S.r ?_
                      refine S.r ?_
                      replace hh := fin_x hR1 hh
                      refine B.r ?_
                      refine S.r ?_
                      obtain rfl := Option.some.inj hh
                      exact RetOk.mk' (rs := [.tmp 2]) [] rfl (.inl rfl) (RVs.tmp rfl RVs.nil) (List.sublist_append_left _ _) ⟨rfl, rfl, rfl⟩
                    · replace hh := iteO_f h117 hh
                      replace h117 := of_decide_eq_false h117
                      refine TC.skip ?_
                      refine B.n ?_
                      refine S.n ?_
                      refine TC.region ?_
                      refine TL.v rfl (OpVal.succ rfl rfl rfl (by omega)) rfl rfl ?_
                      refine TL.v rfl (OpVal.moveI (.inl rfl) rfl) rfl rfl ?_
                      refine TL.nil ?_
                      refine S.n ?_
                      obtain ⟨hh, hlt118⟩ := nxt_x hR1 hh
                      refine ⟨by repeat (first | exact Agr.refl _ _ | exact Agr.mask | refine Agr.upd rfl ?_ | refine Agr.maskIn rfl ?_ | refine Agr.upds rfl ?_), ((k110 + 1), ()), hlt118, hh, by repeat (first | exact trivial | refine ⟨rfl, ?_⟩), Sub.front 1 rfl rfl (Sub.pre 1 rfl), rfl⟩
            · replace hh := iteO_f h111 hh
              replace h111 := of_decide_eq_false h111
              refine TC.exit ?_
              refine S.x ?_
              refine S.x ?_
              replace hh := fin_x hR1 hh
              refine TC.exitHere ?_
              refine S.n ?_
              refine TC.seq ?_
              refine TC.region ?_
              refine TL.v rfl (OpVal.moveI (.inr rfl) rfl) rfl rfl ?_
              refine TL.nil ?_
              refine S.n ?_
              refine TC.ofSub (Sub.pre 0 rfl) ?_
              refine TC.ret ?_
              obtain rfl := Option.some.inj hh
              exact RetOk.mk' (rs := [.tmp 2]) [] rfl (.inl rfl) (RVs.tmp rfl RVs.nil) (List.sublist_append_left _ _) ⟨rfl, rfl, rfl⟩

noncomputable def whittleref15_tips_b1 (x0 : List Tip) (x1 : Int) (k103 : Nat) : Option ((Nat) ⊕ (Bool)) :=
  iteO (decide (((k103 : Nat) : Int) < ((x0.length : Nat) : Int))) (iteO (decide (((nth x0 k103 Tip.zero).state) < 0)) (fin (some false)) (iteO (decide (x1 ≤ ((nth x0 k103 Tip.zero).state))) (fin (some false)) (iteO (decide (1024 < ((((nth x0 k103 Tip.zero).out).length : Nat) : Int))) (fin (some false)) (nxt (k103 + 1))))) (fin (some (decide (((x0.length : Nat) : Int) ≤ 1024))))
noncomputable def whittleref15_tips (x0 : List Tip) (x1 : Int) : Option (Bool) :=
  iter (fun q : Nat => whittleref15_tips_b1 x0 x1 q) 0
theorem whittleref15_tips_con {σ : Store} {x0 : List Tip} {a0_0 : Option Addr} {c0_0 : Nat} {x1 : Int} (f0_0 : RS σ 2 encTip (.slice a0_0 x0.length c0_0) x0) {r : Bool} (hh : whittleref15_tips x0 x1 = some r) :
    Con Tryz.prog 32 #[.slice a0_0 x0.length c0_0, .int .i64 x1] σ [] (PureP (.bool r) σ) := by
  dsimp only [whittleref15_tips] at hh
  have f0_0b := f0_0.rv.big
  refine Con.mk (n := 39) Tryz.func32 rfl rfl rfl (fun w0 => ?_)
  refine TC.seq ?_
  refine TC.region ?_
  refine TL.v rfl (OpVal.moveB (.inr rfl) rfl) rfl rfl ?_
  refine TL.nil ?_
  refine S.n ?_
  refine TC.seq ?_
  refine TC.seq ?_
  refine TC.region ?_
  refine TL.v rfl (OpVal.moveI (.inr rfl) rfl) rfl rfl ?_
  refine TL.nil ?_
  refine S.n ?_
  refine TC.block ?_
  refine TC.loopG (α := (Nat) × (Unit)) [4, 5, 6, 7, 8, 9, 10, 11, 12, 13, 14, 15, 16, 17, 18, 19, 20, 21, 22, 23, 24, 25, 26, 27, 28, 29, 30, 31, 32, 33, 34, 35] (fun g => [(5, .int .i64 ((g.1 : Nat) : Int))]) (fun g => []) (fun g => σ) (fun g => iter (fun q : Nat => whittleref15_tips_b1 x0 x1 q) g.1 = some r) (fun g => rounds (fun q : Nat => whittleref15_tips_b1 x0 x1 q) g.1) (0, ()) (Sub.pre 0 rfl) rfl (by repeat (first | exact trivial | refine ⟨rfl, ?_⟩)) hh (fun g1 j1 hg1 => ?_)
  obtain ⟨k103, _⟩ := g1
  have hh := hg1; clear hg1
  show TC _ _ _ (upds (mask _ j1 _) [(5, .int .i64 ((k103 : Nat) : Int))]) _ []
  obtain ⟨z1, hh, hR1⟩ := iter_e hh
  dsimp only [whittleref15_tips_b1] at hh
  refine TC.seq ?_
  refine TC.seq ?_
  refine TC.region ?_
  refine TL.v rfl (OpVal.moveI (.inl rfl) rfl) rfl rfl ?_
  refine TL.v rfl (OpVal.moveSl (.inl rfl) rfl) rfl rfl ?_
  refine TL.v rfl (OpVal.lenC rfl Tryz.underlying22 rfl) rfl rfl ?_
  refine TL.v rfl (OpVal.lss rfl rfl rfl) rfl rfl ?_
  refine TL.nil ?_
  refine S.n ?_
  refine TC.cond rfl (fun h104 => ?_) (fun h104 => ?_)
  · replace hh := iteO_t h104 hh
    replace h104 := of_decide_eq_true h104
    refine TC.skip ?_
    refine S.n ?_
    refine TC.seq ?_
    refine TC.block ?_
    refine TC.seq ?_
    refine TC.region ?_
    refine TL.v rfl (OpVal.moveSl (.inl rfl) rfl) rfl rfl ?_
    refine TL.v rfl (OpVal.moveI (.inl rfl) rfl) rfl rfl ?_
    refine TL.v rfl (OpVal.indexN rfl Tryz.underlying22 sz40 rfl rfl f0_0.rv.sl (by omega)) rfl rfl ?_
    refine TL.v rfl (OpVal.fieldElem rfl fo40_0 rfl f0_0.rv.sl (by omega)) rfl rfl ?_
    refine TL.v rfl (OpVal.loadS Tip.zero rfl ag3 rfl f0_0 (by omega) (by omega) rfl) rfl rfl ?_
    refine TL.v rfl (OpVal.lss rfl rfl rfl) rfl rfl ?_
    refine TL.v rfl (OpVal.moveB (.inl rfl) rfl) rfl rfl ?_
    refine TL.split 18 rfl (fun h105 => ?_) (fun h105 => ?_)
    · replace hh := iteO_t h105 hh
      replace h105 := of_decide_eq_true h105
      refine TL.goff rfl rfl rfl rfl rfl rfl rfl rfl ?_
      refine TL.goff rfl rfl rfl rfl rfl rfl rfl rfl ?_
      refine TL.goff rfl rfl rfl rfl rfl rfl rfl rfl ?_
      refine TL.goff rfl rfl rfl rfl rfl rfl rfl rfl ?_
      refine TL.goff rfl rfl rfl rfl rfl rfl rfl rfl ?_
      refine TL.goff rfl rfl rfl rfl rfl rfl rfl rfl ?_
      refine TL.goff rfl rfl rfl rfl rfl rfl rfl rfl ?_
      refine TL.v rfl (OpVal.pickTB rfl rfl rfl) rfl rfl ?_
      refine TL.v rfl (OpVal.moveB (.inl rfl) rfl) rfl rfl ?_
      refine TL.goff rfl rfl rfl rfl rfl rfl rfl rfl ?_
      refine TL.goff rfl rfl rfl rfl rfl rfl rfl rfl ?_
      refine TL.goff rfl rfl rfl rfl rfl rfl rfl rfl ?_
      refine TL.goff rfl rfl rfl rfl rfl rfl rfl rfl ?_
      refine TL.goff rfl rfl rfl rfl rfl rfl rfl rfl ?_
      refine TL.goff rfl rfl rfl rfl rfl rfl rfl rfl ?_
      refine TL.goff rfl rfl rfl rfl rfl rfl rfl rfl ?_
      refine TL.v rfl (OpVal.pickTB rfl rfl rfl) rfl rfl ?_
      refine TL.nil ?_
      refine S.n ?_
      refine TC.cond rfl (fun _ => ?_) (fun h => Bool.noConfusion h)
      refine TC.seq ?_
      refine TC.region ?_
      refine TL.v rfl (OpVal.moveB (.inr rfl) rfl) rfl rfl ?_
      refine TL.nil ?_
      refine S.n ?_
      refine TC.ret ?_
      refine B.r ?_
      refine S.r ?_
      refine S.r ?_
      replace hh := fin_x hR1 hh
      refine B.r ?_
      refine S.r ?_
      obtain rfl := Option.some.inj hh
      exact RetOk.mk' (rs := [.tmp 4]) [] rfl (.inl rfl) (RVs.tmp rfl RVs.nil) (List.sublist_append_left _ _) ⟨rfl, rfl, rfl⟩
    · replace hh := iteO_f h105 hh
      replace h105 := of_decide_eq_false h105
      refine TL.gv rfl rfl rfl rfl rfl (OpVal.moveSl (.inl rfl) rfl) rfl rfl ?_
      refine TL.gv rfl rfl rfl rfl rfl (OpVal.moveI (.inl rfl) rfl) rfl rfl ?_
      refine TL.gv rfl rfl rfl rfl rfl (OpVal.indexN rfl Tryz.underlying22 sz40 rfl rfl f0_0.rv.sl (by omega)) rfl rfl ?_
      refine TL.gv rfl rfl rfl rfl rfl (OpVal.fieldElem rfl fo40_0 rfl f0_0.rv.sl (by omega)) rfl rfl ?_
      refine TL.gv rfl rfl rfl rfl rfl (OpVal.loadS Tip.zero rfl ag3 rfl f0_0 (by omega) (by omega) rfl) rfl rfl ?_
      refine TL.gv rfl rfl rfl rfl rfl (OpVal.moveI (.inl rfl) rfl) rfl rfl ?_
      refine TL.gv rfl rfl rfl rfl rfl (OpVal.geq rfl rfl rfl) rfl rfl ?_
      refine TL.v rfl (OpVal.pickFB rfl rfl rfl) rfl rfl ?_
      refine TL.v rfl (OpVal.moveB (.inl rfl) rfl) rfl rfl ?_
      refine TL.split 27 rfl (fun h106 => ?_) (fun h106 => ?_)
      · replace hh := iteO_t h106 hh
        replace h106 := of_decide_eq_true h106
        refine TL.goff rfl rfl rfl rfl rfl rfl rfl rfl ?_
        refine TL.goff rfl rfl rfl rfl rfl rfl rfl rfl ?_
        refine TL.goff rfl rfl rfl rfl rfl rfl rfl rfl ?_
        refine TL.goff rfl rfl rfl rfl rfl rfl rfl rfl ?_
        refine TL.goff rfl rfl rfl rfl rfl rfl rfl rfl ?_
        refine TL.goff rfl rfl rfl rfl rfl rfl rfl rfl ?_
        refine TL.goff rfl rfl rfl rfl rfl rfl rfl rfl ?_
        refine TL.v rfl (OpVal.pickTB rfl rfl rfl) rfl rfl ?_
        refine TL.nil ?_
        refine S.n ?_
        refine TC.cond rfl (fun _ => ?_) (fun h => Bool.noConfusion h)
        refine TC.seq ?_
        refine TC.region ?_
        refine TL.v rfl (OpVal.moveB (.inr rfl) rfl) rfl rfl ?_
        refine TL.nil ?_
        refine S.n ?_
        refine TC.ret ?_
        refine B.r ?_
        refine S.r ?_
        refine S.r ?_
        replace hh := fin_x hR1 hh
        refine B.r ?_
        refine S.r ?_
        obtain rfl := Option.some.inj hh
        exact RetOk.mk' (rs := [.tmp 4]) [] rfl (.inl rfl) (RVs.tmp rfl RVs.nil) (List.sublist_append_left _ _) ⟨rfl, rfl, rfl⟩
      · replace hh := iteO_f h106 hh
        replace h106 := of_decide_eq_false h106
        refine TL.gv rfl rfl rfl rfl rfl (OpVal.moveSl (.inl rfl) rfl) rfl rfl ?_
        refine TL.gv rfl rfl rfl rfl rfl (OpVal.moveI (.inl rfl) rfl) rfl rfl ?_
        refine TL.gv rfl rfl rfl rfl rfl (OpVal.indexN rfl Tryz.underlying22 sz40 rfl rfl f0_0.rv.sl (by omega)) rfl rfl ?_
        refine TL.gv rfl rfl rfl rfl rfl (OpVal.fieldElem rfl fo40_1 rfl f0_0.rv.sl (by omega)) rfl rfl ?_
        refine TL.gv rfl rfl rfl rfl rfl (OpVal.loadS Tip.zero rfl ag9 rfl f0_0 (by omega) (by omega) rfl) rfl rfl ?_
        refine TL.gv rfl rfl rfl rfl rfl (OpVal.lenBs rfl Tryz.underlying9 rfl) rfl rfl ?_
        refine TL.gv rfl rfl rfl rfl rfl (OpVal.gtr rfl rfl rfl) rfl rfl ?_
        refine TL.v rfl (OpVal.pickFB rfl rfl rfl) rfl rfl ?_
        refine TL.nil ?_
        refine S.n ?_
        refine TC.cond rfl (fun h107 => ?_) (fun h107 => ?_)
        · replace hh := iteO_t h107 hh
          replace h107 := of_decide_eq_true h107
          refine TC.seq ?_
          refine TC.region ?_
          refine TL.v rfl (OpVal.moveB (.inr rfl) rfl) rfl rfl ?_
          refine TL.nil ?_
          refine S.n ?_
          refine TC.ret ?_
          refine B.r ?_
          refine S.r ?_
          refine S.r ?_
          replace hh := fin_x hR1 hh
          refine B.r ?_
          refine S.r ?_
          obtain rfl := Option.some.inj hh
          exact RetOk.mk' (rs := [.tmp 4]) [] rfl (.inl rfl) (RVs.tmp rfl RVs.nil) (List.sublist_append_left _ _) ⟨rfl, rfl, rfl⟩
        · replace hh := iteO_f h107 hh
          replace h107 := of_decide_eq_false h107
          refine TC.skip ?_
          refine B.n ?_
          refine S.n ?_
          refine TC.region ?_
          refine TL.v rfl (OpVal.moveI (.inl rfl) rfl) rfl rfl ?_
          refine TL.v rfl (OpVal.succ rfl rfl rfl (by omega)) rfl rfl ?_
          refine TL.v rfl (OpVal.moveI (.inr rfl) rfl) rfl rfl ?_
          refine TL.nil ?_
          refine S.n ?_
          obtain ⟨hh, hlt108⟩ := nxt_x hR1 hh
          refine ⟨by repeat (first | exact Agr.refl _ _ | exact Agr.mask | refine Agr.upd rfl ?_ | refine Agr.maskIn rfl ?_ | refine Agr.upds rfl ?_), ((k103 + 1), ()), hlt108, hh, by repeat (first | exact trivial | refine ⟨rfl, ?_⟩), Sub.pre 0 rfl, rfl⟩
  · replace hh := iteO_f h104 hh
    replace h104 := of_decide_eq_false h104
    refine TC.exit ?_
    refine S.x ?_
    refine S.x ?_
    replace hh := fin_x hR1 hh
    refine TC.exitHere ?_
    refine S.n ?_
    refine TC.seq ?_
    refine TC.region ?_
    refine TL.v rfl (OpVal.moveSl (.inl rfl) rfl) rfl rfl ?_
    refine TL.v rfl (OpVal.lenC rfl Tryz.underlying22 rfl) rfl rfl ?_
    refine TL.v rfl (OpVal.leq rfl rfl rfl) rfl rfl ?_
    refine TL.v rfl (OpVal.moveB (.inr rfl) rfl) rfl rfl ?_
    refine TL.nil ?_
    refine S.n ?_
    refine TC.ret ?_
    obtain rfl := Option.some.inj hh
    exact RetOk.mk' (rs := [.tmp 4]) [] rfl (.inl rfl) (RVs.tmp rfl RVs.nil) (List.sublist_append_left _ _) ⟨rfl, rfl, rfl⟩

noncomputable def whittleref15_Right_b1 (x0 : Fst) (k110 : Nat) : Option ((Nat) ⊕ (Bool)) :=
  iteO (decide (((k110 : Nat) : Int) < ((x0.arcs.length : Nat) : Int))) (iteO (decide (((nth x0.arcs k110 Arc.zero).frm) < 0)) (fin (some false)) (iteO (decide (x0.states ≤ ((nth x0.arcs k110 Arc.zero).frm))) (fin (some false)) (iteO (decide (((nth x0.arcs k110 Arc.zero).to) < 0)) (fin (some false)) (iteO (decide (x0.states ≤ ((nth x0.arcs k110 Arc.zero).to))) (fin (some false)) (iteO (decide ((nth x0.arcs k110 Arc.zero).set = BSet.zero)) (fin (some false)) (iteO (decide (1024 < ((((nth x0.arcs k110 Arc.zero).out).length : Nat) : Int))) (fin (some false)) (nxt (k110 + 1)))))))) (fin (some true))
noncomputable def whittleref15_Right (x0 : Fst) : Option (Bool) :=
  iteO (decide (x0.states < 0)) (some false) (iteO (decide (1024 < x0.states)) (some false) (bnd (whittleref15_tips x0.starts x0.states) (fun v16 => iteO (!v16) (some false) (bnd (whittleref15_tips x0.ends x0.states) (fun v24 => iteO (!v24) (some false) (iteO (decide (16384 < ((x0.arcs.length : Nat) : Int))) (some false) (iter (fun q : Nat => whittleref15_Right_b1 x0 q) 0)))))))
theorem whittleref15_Right_con {σ : Store} {x0 : Fst} {a0_0 : Option Addr} {c0_0 : Nat} {a0_1 : Option Addr} {c0_1 : Nat} {a0_2 : Option Addr} {c0_2 : Nat} (f0_0 : RS σ 2 encTip (.slice a0_0 x0.starts.length c0_0) x0.starts) (f0_1 : RS σ 2 encTip (.slice a0_1 x0.ends.length c0_1) x0.ends) (f0_2 : RS σ 8 encArc (.slice a0_2 x0.arcs.length c0_2) x0.arcs) {r : Bool} (hh : whittleref15_Right x0 = some r) :
    Con Tryz.prog 14 #[.agg #[.int .i64 x0.states, .slice a0_0 x0.starts.length c0_0, .slice a0_1 x0.ends.length c0_1, .slice a0_2 x0.arcs.length c0_2]] σ [] (PureP (.bool r) σ) := by
  dsimp only [whittleref15_Right] at hh
  have f0_0b := f0_0.rv.big
  have f0_1b := f0_1.rv.big
  have f0_2b := f0_2.rv.big
  refine Con.mk (n := 81) Tryz.func14 rfl rfl rfl (fun w0 => ?_)
  refine TC.seq ?_
  refine TC.region ?_
  refine TL.op rfl (OpOk.boxA rfl rfl rfl rfl (fun b101 => ?_))
  refine TL.v rfl (OpVal.moveB (.inr rfl) rfl) rfl rfl ?_
  refine TL.nil ?_
  refine S.n ?_
  refine TC.seq ?_
  refine TC.seq ?_
  refine TC.region ?_
  refine TL.v rfl (OpVal.fieldLoc rfl fo25_0 rfl) rfl rfl ?_
  refine TL.v rfl (OpVal.loadLoc rfl ag3 rfl (i := 0) rfl rfl) rfl rfl ?_
  refine TL.v rfl (OpVal.lss rfl rfl rfl) rfl rfl ?_
  refine TL.v rfl (OpVal.moveB (.inl rfl) rfl) rfl rfl ?_
  refine TL.split 8 rfl (fun h103 => ?_) (fun h103 => ?_)
  · replace hh := iteO_t h103 hh
    replace h103 := of_decide_eq_true h103
    refine TL.goff rfl rfl rfl rfl rfl rfl rfl rfl ?_
    refine TL.goff rfl rfl rfl rfl rfl rfl rfl rfl ?_
    refine TL.goff rfl rfl rfl rfl rfl rfl rfl rfl ?_
    refine TL.v rfl (OpVal.pickTB rfl rfl rfl) rfl rfl ?_
    refine TL.v rfl (OpVal.moveB (.inl rfl) rfl) rfl rfl ?_
    refine TL.goff rfl rfl rfl rfl rfl rfl rfl rfl ?_
    refine TL.goff rfl rfl rfl rfl rfl rfl rfl rfl ?_
    refine TL.goff rfl rfl rfl rfl rfl rfl rfl rfl ?_
    refine TL.goff rfl rfl rfl rfl rfl rfl rfl rfl ?_
    refine TL.goff rfl rfl rfl rfl rfl rfl rfl rfl ?_
    refine TL.goff rfl rfl rfl rfl rfl rfl rfl rfl ?_
    refine TL.v rfl (OpVal.pickTB rfl rfl rfl) rfl rfl ?_
    refine TL.v rfl (OpVal.moveB (.inl rfl) rfl) rfl rfl ?_
    refine TL.goff rfl rfl rfl rfl rfl rfl rfl rfl ?_
    refine TL.goff rfl rfl rfl rfl rfl rfl rfl rfl ?_
    refine TL.goff rfl rfl rfl rfl rfl rfl rfl rfl ?_
    refine TL.goff rfl rfl rfl rfl rfl rfl rfl rfl ?_
    refine TL.goff rfl rfl rfl rfl rfl rfl rfl rfl ?_
    refine TL.goff rfl rfl rfl rfl rfl rfl rfl rfl ?_
    refine TL.v rfl (OpVal.pickTB rfl rfl rfl) rfl rfl ?_
    refine TL.v rfl (OpVal.moveB (.inl rfl) rfl) rfl rfl ?_
    refine TL.goff rfl rfl rfl rfl rfl rfl rfl rfl ?_
    refine TL.goff rfl rfl rfl rfl rfl rfl rfl rfl ?_
    refine TL.goff rfl rfl rfl rfl rfl rfl rfl rfl ?_
    refine TL.goff rfl rfl rfl rfl rfl rfl rfl rfl ?_
    refine TL.v rfl (OpVal.pickTB rfl rfl rfl) rfl rfl ?_
    refine TL.nil ?_
    refine S.n ?_
    refine TC.cond rfl (fun _ => ?_) (fun h => Bool.noConfusion h)
    refine TC.seq ?_
    refine TC.region ?_
    refine TL.v rfl (OpVal.moveB (.inr rfl) rfl) rfl rfl ?_
    refine TL.nil ?_
    refine S.n ?_
    refine TC.ofSub (Sub.pre 0 rfl) ?_
    refine TC.ret ?_
    refine S.r ?_
    obtain rfl := Option.some.inj hh
    exact RetOk.mk' (rs := [.tmp 2]) [] rfl (.inl rfl) (RVs.tmp rfl RVs.nil) (List.sublist_append_left _ _) ⟨rfl, rfl, rfl⟩
  · replace hh := iteO_f h103 hh
    replace h103 := of_decide_eq_false h103
    refine TL.gv rfl rfl rfl rfl rfl (OpVal.fieldLoc rfl fo25_0 rfl) rfl rfl ?_
    refine TL.gv rfl rfl rfl rfl rfl (OpVal.loadLoc rfl ag3 rfl (i := 0) rfl rfl) rfl rfl ?_
    refine TL.gv rfl rfl rfl rfl rfl (OpVal.gtr rfl rfl rfl) rfl rfl ?_
    refine TL.v rfl (OpVal.pickFB rfl rfl rfl) rfl rfl ?_
    refine TL.v rfl (OpVal.moveB (.inl rfl) rfl) rfl rfl ?_
    refine TL.split 13 rfl (fun h104 => ?_) (fun h104 => ?_)
    · replace hh := iteO_t h104 hh
      replace h104 := of_decide_eq_true h104
      refine TL.goff rfl rfl rfl rfl rfl rfl rfl rfl ?_
      refine TL.goff rfl rfl rfl rfl rfl rfl rfl rfl ?_
      refine TL.goff rfl rfl rfl rfl rfl rfl rfl rfl ?_
      refine TL.goff rfl rfl rfl rfl rfl rfl rfl rfl ?_
      refine TL.goff rfl rfl rfl rfl rfl rfl rfl rfl ?_
      refine TL.goff rfl rfl rfl rfl rfl rfl rfl rfl ?_
      refine TL.v rfl (OpVal.pickTB rfl rfl rfl) rfl rfl ?_
      refine TL.v rfl (OpVal.moveB (.inl rfl) rfl) rfl rfl ?_
      refine TL.goff rfl rfl rfl rfl rfl rfl rfl rfl ?_
      refine TL.goff rfl rfl rfl rfl rfl rfl rfl rfl ?_
      refine TL.goff rfl rfl rfl rfl rfl rfl rfl rfl ?_
      refine TL.goff rfl rfl rfl rfl rfl rfl rfl rfl ?_
      refine TL.goff rfl rfl rfl rfl rfl rfl rfl rfl ?_
      refine TL.goff rfl rfl rfl rfl rfl rfl rfl rfl ?_
      refine TL.v rfl (OpVal.pickTB rfl rfl rfl) rfl rfl ?_
      refine TL.v rfl (OpVal.moveB (.inl rfl) rfl) rfl rfl ?_
      refine TL.goff rfl rfl rfl rfl rfl rfl rfl rfl ?_
      refine TL.goff rfl rfl rfl rfl rfl rfl rfl rfl ?_
      refine TL.goff rfl rfl rfl rfl rfl rfl rfl rfl ?_
      refine TL.goff rfl rfl rfl rfl rfl rfl rfl rfl ?_
      refine TL.v rfl (OpVal.pickTB rfl rfl rfl) rfl rfl ?_
      refine TL.nil ?_
      refine S.n ?_
      refine TC.cond rfl (fun _ => ?_) (fun h => Bool.noConfusion h)
      refine TC.seq ?_
      refine TC.region ?_
      refine TL.v rfl (OpVal.moveB (.inr rfl) rfl) rfl rfl ?_
      refine TL.nil ?_
      refine S.n ?_
      refine TC.ofSub (Sub.pre 0 rfl) ?_
      refine TC.ret ?_
      refine S.r ?_
      obtain rfl := Option.some.inj hh
      exact RetOk.mk' (rs := [.tmp 2]) [] rfl (.inl rfl) (RVs.tmp rfl RVs.nil) (List.sublist_append_left _ _) ⟨rfl, rfl, rfl⟩
    · replace hh := iteO_f h104 hh
      replace h104 := of_decide_eq_false h104
      refine TL.gv rfl rfl rfl rfl rfl (OpVal.fieldLoc rfl fo25_1 rfl) rfl rfl ?_
      refine TL.gv rfl rfl rfl rfl rfl (OpVal.loadLoc rfl ag22 rfl (i := 0) rfl rfl) rfl rfl ?_
      refine TL.gv rfl rfl rfl rfl rfl (OpVal.fieldLoc rfl fo25_0 rfl) rfl rfl ?_
      refine TL.gv rfl rfl rfl rfl rfl (OpVal.loadLoc rfl ag3 rfl (i := 0) rfl rfl) rfl rfl ?_
      obtain ⟨v16, u16, hh⟩ := bnd_e hh
      refine TL.gon rfl rfl rfl rfl rfl (OpOk.callP (whittleref15_tips_con f0_0 u16) rfl rfl pf32 rfl rfl rfl ?_)
      refine TL.gv rfl rfl rfl rfl rfl (OpVal.not rfl rfl) rfl rfl ?_
      refine TL.v rfl (OpVal.pickFB rfl rfl rfl) rfl rfl ?_
      refine TL.v rfl (OpVal.moveB (.inl rfl) rfl) rfl rfl ?_
      refine TL.split 21 rfl (fun h105 => ?_) (fun h105 => ?_)
      · replace hh := iteO_t h105 hh
        refine TL.goff rfl rfl rfl rfl rfl rfl rfl rfl ?_
        refine TL.goff rfl rfl rfl rfl rfl rfl rfl rfl ?_
        refine TL.goff rfl rfl rfl rfl rfl rfl rfl rfl ?_
        refine TL.goff rfl rfl rfl rfl rfl rfl rfl rfl ?_
        refine TL.goff rfl rfl rfl rfl rfl rfl rfl rfl ?_
        refine TL.goff rfl rfl rfl rfl rfl rfl rfl rfl ?_
        refine TL.v rfl (OpVal.pickTB rfl rfl rfl) rfl rfl ?_
        refine TL.v rfl (OpVal.moveB (.inl rfl) rfl) rfl rfl ?_
        refine TL.goff rfl rfl rfl rfl rfl rfl rfl rfl ?_
        refine TL.goff rfl rfl rfl rfl rfl rfl rfl rfl ?_
        refine TL.goff rfl rfl rfl rfl rfl rfl rfl rfl ?_
        refine TL.goff rfl rfl rfl rfl rfl rfl rfl rfl ?_
        refine TL.v rfl (OpVal.pickTB rfl rfl rfl) rfl rfl ?_
        refine TL.nil ?_
        refine S.n ?_
        refine TC.cond rfl (fun _ => ?_) (fun h => Bool.noConfusion h)
        refine TC.seq ?_
        refine TC.region ?_
        refine TL.v rfl (OpVal.moveB (.inr rfl) rfl) rfl rfl ?_
        refine TL.nil ?_
        refine S.n ?_
        refine TC.ofSub (Sub.pre 0 rfl) ?_
        refine TC.ret ?_
        refine S.r ?_
        obtain rfl := Option.some.inj hh
        exact RetOk.mk' (rs := [.tmp 2]) [] rfl (.inl rfl) (RVs.tmp rfl RVs.nil) (List.sublist_append_left _ _) ⟨rfl, rfl, rfl⟩
      · replace hh := iteO_f h105 hh
        refine TL.gv rfl rfl rfl rfl rfl (OpVal.fieldLoc rfl fo25_2 rfl) rfl rfl ?_
        refine TL.gv rfl rfl rfl rfl rfl (OpVal.loadLoc rfl ag22 rfl (i := 0) rfl rfl) rfl rfl ?_
        refine TL.gv rfl rfl rfl rfl rfl (OpVal.fieldLoc rfl fo25_0 rfl) rfl rfl ?_
        refine TL.gv rfl rfl rfl rfl rfl (OpVal.loadLoc rfl ag3 rfl (i := 0) rfl rfl) rfl rfl ?_
        obtain ⟨v24, u24, hh⟩ := bnd_e hh
        refine TL.gon rfl rfl rfl rfl rfl (OpOk.callP (whittleref15_tips_con f0_1 u24) rfl rfl pf32 rfl rfl rfl ?_)
        refine TL.gv rfl rfl rfl rfl rfl (OpVal.not rfl rfl) rfl rfl ?_
        refine TL.v rfl (OpVal.pickFB rfl rfl rfl) rfl rfl ?_
        refine TL.v rfl (OpVal.moveB (.inl rfl) rfl) rfl rfl ?_
        refine TL.split 29 rfl (fun h106 => ?_) (fun h106 => ?_)
        · replace hh := iteO_t h106 hh
          refine TL.goff rfl rfl rfl rfl rfl rfl rfl rfl ?_
          refine TL.goff rfl rfl rfl rfl rfl rfl rfl rfl ?_
          refine TL.goff rfl rfl rfl rfl rfl rfl rfl rfl ?_
          refine TL.goff rfl rfl rfl rfl rfl rfl rfl rfl ?_
          refine TL.v rfl (OpVal.pickTB rfl rfl rfl) rfl rfl ?_
          refine TL.nil ?_
          refine S.n ?_
          refine TC.cond rfl (fun _ => ?_) (fun h => Bool.noConfusion h)
          refine TC.seq ?_
          refine TC.region ?_
          refine TL.v rfl (OpVal.moveB (.inr rfl) rfl) rfl rfl ?_
          refine TL.nil ?_
          refine S.n ?_
          refine TC.ofSub (Sub.pre 0 rfl) ?_
          refine TC.ret ?_
          refine S.r ?_
          obtain rfl := Option.some.inj hh
          exact RetOk.mk' (rs := [.tmp 2]) [] rfl (.inl rfl) (RVs.tmp rfl RVs.nil) (List.sublist_append_left _ _) ⟨rfl, rfl, rfl⟩
        · replace hh := iteO_f h106 hh
          refine TL.gv rfl rfl rfl rfl rfl (OpVal.fieldLoc rfl fo25_3 rfl) rfl rfl ?_
          refine TL.gv rfl rfl rfl rfl rfl (OpVal.loadLoc rfl ag23 rfl (i := 0) rfl rfl) rfl rfl ?_
          refine TL.gv rfl rfl rfl rfl rfl (OpVal.lenC rfl Tryz.underlying23 rfl) rfl rfl ?_
          refine TL.gv rfl rfl rfl rfl rfl (OpVal.gtr rfl rfl rfl) rfl rfl ?_
          refine TL.v rfl (OpVal.pickFB rfl rfl rfl) rfl rfl ?_
          refine TL.nil ?_
          refine S.n ?_
          refine TC.cond rfl (fun h107 => ?_) (fun h107 => ?_)
          · replace hh := iteO_t h107 hh
            replace h107 := of_decide_eq_true h107
            refine TC.seq ?_
            refine TC.region ?_
            refine TL.v rfl (OpVal.moveB (.inr rfl) rfl) rfl rfl ?_
            refine TL.nil ?_
            refine S.n ?_
            refine TC.ofSub (Sub.pre 0 rfl) ?_
            refine TC.ret ?_
            refine S.r ?_
            obtain rfl := Option.some.inj hh
            exact RetOk.mk' (rs := [.tmp 2]) [] rfl (.inl rfl) (RVs.tmp rfl RVs.nil) (List.sublist_append_left _ _) ⟨rfl, rfl, rfl⟩
          · replace hh := iteO_f h107 hh
            replace h107 := of_decide_eq_false h107
            refine TC.skip ?_
            refine S.n ?_
            refine TC.seq ?_
            refine TC.seq ?_
            refine TC.region ?_
            refine TL.v rfl (OpVal.moveI (.inr rfl) rfl) rfl rfl ?_
            refine TL.nil ?_
            refine S.n ?_
            refine TC.block ?_
            refine TC.loopG (α := (Nat) × (Unit)) [2, 3, 4, 35, 36, 37, 38, 39, 40, 41, 42, 43, 44, 45, 46, 47, 48, 49, 50, 51, 52, 53, 54, 55, 56, 57, 58, 59, 60, 61, 62, 63, 64, 65, 66, 67, 68, 69, 70, 71, 72, 73, 74, 75, 76, 77, 78, 79, 80] (fun g => [(3, .int .i64 ((g.1 : Nat) : Int))]) (fun g => [Res.cells b101 #[.int .i64 x0.states, .slice a0_0 x0.starts.length c0_0, .slice a0_1 x0.ends.length c0_1, .slice a0_2 x0.arcs.length c0_2] 25]) (fun g => σ) (fun g => iter (fun q : Nat => whittleref15_Right_b1 x0 q) g.1 = some r) (fun g => rounds (fun q : Nat => whittleref15_Right_b1 x0 q) g.1) (0, ()) (Sub.pre 1 rfl) rfl (by repeat (first | exact trivial | refine ⟨rfl, ?_⟩)) hh (fun g1 j1 hg1 => ?_)
            obtain ⟨k110, _⟩ := g1
            have hh := hg1; clear hg1
            show TC _ _ _ (upds (mask _ j1 _) [(3, .int .i64 ((k110 : Nat) : Int))]) _ [Res.cells b101 #[.int .i64 x0.states, .slice a0_0 x0.starts.length c0_0, .slice a0_1 x0.ends.length c0_1, .slice a0_2 x0.arcs.length c0_2] 25]
            obtain ⟨z1, hh, hR1⟩ := iter_e hh
            dsimp only [whittleref15_Right_b1] at hh
            refine TC.seq ?_
            refine TC.seq ?_
            refine TC.region ?_
            refine TL.v rfl (OpVal.moveI (.inl rfl) rfl) rfl rfl ?_
            refine TL.v rfl (OpVal.fieldLoc rfl fo25_3 rfl) rfl rfl ?_
            refine TL.v rfl (OpVal.loadLoc rfl ag23 rfl (i := 0) rfl rfl) rfl rfl ?_
            refine TL.v rfl (OpVal.lenC rfl Tryz.underlying23 rfl) rfl rfl ?_
            refine TL.v rfl (OpVal.lss rfl rfl rfl) rfl rfl ?_
            refine TL.nil ?_
            refine S.n ?_
            refine TC.cond rfl (fun h111 => ?_) (fun h111 => ?_)
            · replace hh := iteO_t h111 hh
              replace h111 := of_decide_eq_true h111
              refine TC.skip ?_
              refine S.n ?_
              refine TC.seq ?_
              refine TC.block ?_
              refine TC.seq ?_
              refine TC.region ?_
              refine TL.v rfl (OpVal.fieldLoc rfl fo25_3 rfl) rfl rfl ?_
              refine TL.v rfl (OpVal.loadLoc rfl ag23 rfl (i := 0) rfl rfl) rfl rfl ?_
              refine TL.v rfl (OpVal.moveI (.inl rfl) rfl) rfl rfl ?_
              refine TL.v rfl (OpVal.indexN rfl Tryz.underlying23 sz45 rfl rfl f0_2.rv.sl (by omega)) rfl rfl ?_
              refine TL.v rfl (OpVal.loadSA Arc.zero rfl ag45 sz45 rfl f0_2 (by omega) (by omega)) rfl rfl ?_
              refine TL.op rfl (OpOk.alloc rfl ze45 rfl rfl (fun b112 => ?_))
              refine TL.op rfl (OpOk.storeAll rfl sz45 rfl rfl rfl rfl rfl rfl ?_)
              refine TL.nil ?_
              refine S.n ?_
              refine TC.seq ?_
              refine TC.region ?_
              refine TL.v rfl (OpVal.fieldLoc rfl fo45_0 rfl) rfl rfl ?_
              refine TL.v rfl (OpVal.loadLoc rfl ag3 rfl (i := 0) rfl rfl) rfl rfl ?_
              refine TL.v rfl (OpVal.lss rfl rfl rfl) rfl rfl ?_
              refine TL.v rfl (OpVal.moveB (.inl rfl) rfl) rfl rfl ?_
              refine TL.split 50 rfl (fun h114 => ?_) (fun h114 => ?_)
              · replace hh := iteO_t h114 hh
                replace h114 := of_decide_eq_true h114
                refine TL.goff rfl rfl rfl rfl rfl rfl rfl rfl ?_
                refine TL.goff rfl rfl rfl rfl rfl rfl rfl rfl ?_
                refine TL.goff rfl rfl rfl rfl rfl rfl rfl rfl ?_
                refine TL.goff rfl rfl rfl rfl rfl rfl rfl rfl ?_
                refine TL.goff rfl rfl rfl rfl rfl rfl rfl rfl ?_
                refine TL.v rfl (OpVal.pickTB rfl rfl rfl) rfl rfl ?_
                refine TL.v rfl (OpVal.moveB (.inl rfl) rfl) rfl rfl ?_
                refine TL.goff rfl rfl rfl rfl rfl rfl rfl rfl ?_
                refine TL.goff rfl rfl rfl rfl rfl rfl rfl rfl ?_
                refine TL.goff rfl rfl rfl rfl rfl rfl rfl rfl ?_
                refine TL.v rfl (OpVal.pickTB rfl rfl rfl) rfl rfl ?_
                refine TL.v rfl (OpVal.moveB (.inl rfl) rfl) rfl rfl ?_
                refine TL.goff rfl rfl rfl rfl rfl rfl rfl rfl ?_
                refine TL.goff rfl rfl rfl rfl rfl rfl rfl rfl ?_
                refine TL.goff rfl rfl rfl rfl rfl rfl rfl rfl ?_
                refine TL.goff rfl rfl rfl rfl rfl rfl rfl rfl ?_
                refine TL.goff rfl rfl rfl rfl rfl rfl rfl rfl ?_
                refine TL.v rfl (OpVal.pickTB rfl rfl rfl) rfl rfl ?_
                refine TL.v rfl (OpVal.moveB (.inl rfl) rfl) rfl rfl ?_
                refine TL.goff rfl rfl rfl rfl rfl rfl rfl rfl ?_
                refine TL.goff rfl rfl rfl rfl rfl rfl rfl rfl ?_
                refine TL.goff rfl rfl rfl rfl rfl rfl rfl rfl ?_
                refine TL.goff rfl rfl rfl rfl rfl rfl rfl rfl ?_
                refine TL.v rfl (OpVal.pickTB rfl rfl rfl) rfl rfl ?_
                refine TL.v rfl (OpVal.moveB (.inl rfl) rfl) rfl rfl ?_
                refine TL.goff rfl rfl rfl rfl rfl rfl rfl rfl ?_
                refine TL.goff rfl rfl rfl rfl rfl rfl rfl rfl ?_
                refine TL.goff rfl rfl rfl rfl rfl rfl rfl rfl ?_
                refine TL.goff rfl rfl rfl rfl rfl rfl rfl rfl ?_
                refine TL.v rfl (OpVal.pickTB rfl rfl rfl) rfl rfl ?_
                refine TL.nil ?_
                refine S.n ?_
                refine TC.cond rfl (fun _ => ?_) (fun h => Bool.noConfusion h)
                refine TC.seq ?_
                refine TC.region ?_
                refine TL.v rfl (OpVal.moveB (.inr rfl) rfl) rfl rfl ?_
                refine TL.nil ?_
                refine S.n ?_
                refine TC.ofSub (Sub.pre 0 rfl) ?_
                refine TC.ret ?_
                refine B.r ?_
                refine S.r ?_
                refine S.r ?_
                replace hh := fin_x hR1 hh
                refine B.r ?_
                refine S.r ?_
                obtain rfl := Option.some.inj hh
                exact RetOk.mk' (rs := [.tmp 2]) [] rfl (.inl rfl) (RVs.tmp rfl RVs.nil) (List.sublist_append_left _ _) ⟨rfl, rfl, rfl⟩
              · replace hh := iteO_f h114 hh
                replace h114 := of_decide_eq_false h114
                refine TL.gv rfl rfl rfl rfl rfl (OpVal.fieldLoc rfl fo45_0 rfl) rfl rfl ?_
                refine TL.gv rfl rfl rfl rfl rfl (OpVal.loadLoc rfl ag3 rfl (i := 0) rfl rfl) rfl rfl ?_
                refine TL.gv rfl rfl rfl rfl rfl (OpVal.fieldLoc rfl fo25_0 rfl) rfl rfl ?_
                refine TL.gv rfl rfl rfl rfl rfl (OpVal.loadLoc rfl ag3 rfl (i := 1) rfl rfl) rfl rfl ?_
                refine TL.gv rfl rfl rfl rfl rfl (OpVal.geq rfl rfl rfl) rfl rfl ?_
                refine TL.v rfl (OpVal.pickFB rfl rfl rfl) rfl rfl ?_
                refine TL.v rfl (OpVal.moveB (.inl rfl) rfl) rfl rfl ?_
                refine TL.split 57 rfl (fun h115 => ?_) (fun h115 => ?_)
                · replace hh := iteO_t h115 hh
                  replace h115 := of_decide_eq_true h115
                  refine TL.goff rfl rfl rfl rfl rfl rfl rfl rfl ?_
                  refine TL.goff rfl rfl rfl rfl rfl rfl rfl rfl ?_
                  refine TL.goff rfl rfl rfl rfl rfl rfl rfl rfl ?_
                  refine TL.v rfl (OpVal.pickTB rfl rfl rfl) rfl rfl ?_
                  refine TL.v rfl (OpVal.moveB (.inl rfl) rfl) rfl rfl ?_
                  refine TL.goff rfl rfl rfl rfl rfl rfl rfl rfl ?_
                  refine TL.goff rfl rfl rfl rfl rfl rfl rfl rfl ?_
                  refine TL.goff rfl rfl rfl rfl rfl rfl rfl rfl ?_
                  refine TL.goff rfl rfl rfl rfl rfl rfl rfl rfl ?_
                  refine TL.goff rfl rfl rfl rfl rfl rfl rfl rfl ?_
                  refine TL.v rfl (OpVal.pickTB rfl rfl rfl) rfl rfl ?_
                  refine TL.v rfl (OpVal.moveB (.inl rfl) rfl) rfl rfl ?_
                  refine TL.goff rfl rfl rfl rfl rfl rfl rfl rfl ?_
                  refine TL.goff rfl rfl rfl rfl rfl rfl rfl rfl ?_
                  refine TL.goff rfl rfl rfl rfl rfl rfl rfl rfl ?_
                  refine TL.goff rfl rfl rfl rfl rfl rfl rfl rfl ?_
                  refine TL.v rfl (OpVal.pickTB rfl rfl rfl) rfl rfl ?_
                  refine TL.v rfl (OpVal.moveB (.inl rfl) rfl) rfl rfl ?_
                  refine TL.goff rfl rfl rfl rfl rfl rfl rfl rfl ?_
                  refine TL.goff rfl rfl rfl rfl rfl rfl rfl rfl ?_
                  refine TL.goff rfl rfl rfl rfl rfl rfl rfl rfl ?_
                  refine TL.goff rfl rfl rfl rfl rfl rfl rfl rfl ?_
                  refine TL.v rfl (OpVal.pickTB rfl rfl rfl) rfl rfl ?_
                  refine TL.nil ?_
                  refine S.n ?_
                  refine TC.cond rfl (fun _ => ?_) (fun h => Bool.noConfusion h)
                  refine TC.seq ?_
                  refine TC.region ?_
                  refine TL.v rfl (OpVal.moveB (.inr rfl) rfl) rfl rfl ?_
                  refine TL.nil ?_
                  refine S.n ?_
                  refine TC.ofSub (Sub.pre 0 rfl) ?_
                  refine TC.ret ?_
                  refine B.r ?_
                  refine S.r ?_
                  refine S.r ?_
                  replace hh := fin_x hR1 hh
                  refine B.r ?_
                  refine S.r ?_
                  obtain rfl := Option.some.inj hh
                  exact RetOk.mk' (rs := [.tmp 2]) [] rfl (.inl rfl) (RVs.tmp rfl RVs.nil) (List.sublist_append_left _ _) ⟨rfl, rfl, rfl⟩
                · replace hh := iteO_f h115 hh
                  replace h115 := of_decide_eq_false h115
                  refine TL.gv rfl rfl rfl rfl rfl (OpVal.fieldLoc rfl fo45_1 rfl) rfl rfl ?_
                  refine TL.gv rfl rfl rfl rfl rfl (OpVal.loadLoc rfl ag3 rfl (i := 0) rfl rfl) rfl rfl ?_
                  refine TL.gv rfl rfl rfl rfl rfl (OpVal.lss rfl rfl rfl) rfl rfl ?_
                  refine TL.v rfl (OpVal.pickFB rfl rfl rfl) rfl rfl ?_
                  refine TL.v rfl (OpVal.moveB (.inl rfl) rfl) rfl rfl ?_
                  refine TL.split 62 rfl (fun h116 => ?_) (fun h116 => ?_)
                  · replace hh := iteO_t h116 hh
                    replace h116 := of_decide_eq_true h116
                    refine TL.goff rfl rfl rfl rfl rfl rfl rfl rfl ?_
                    refine TL.goff rfl rfl rfl rfl rfl rfl rfl rfl ?_
                    refine TL.goff rfl rfl rfl rfl rfl rfl rfl rfl ?_
                    refine TL.goff rfl rfl rfl rfl rfl rfl rfl rfl ?_
                    refine TL.goff rfl rfl rfl rfl rfl rfl rfl rfl ?_
                    refine TL.v rfl (OpVal.pickTB rfl rfl rfl) rfl rfl ?_
                    refine TL.v rfl (OpVal.moveB (.inl rfl) rfl) rfl rfl ?_
                    refine TL.goff rfl rfl rfl rfl rfl rfl rfl rfl ?_
                    refine TL.goff rfl rfl rfl rfl rfl rfl rfl rfl ?_
                    refine TL.goff rfl rfl rfl rfl rfl rfl rfl rfl ?_
                    refine TL.goff rfl rfl rfl rfl rfl rfl rfl rfl ?_
                    refine TL.v rfl (OpVal.pickTB rfl rfl rfl) rfl rfl ?_
                    refine TL.v rfl (OpVal.moveB (.inl rfl) rfl) rfl rfl ?_
                    refine TL.goff rfl rfl rfl rfl rfl rfl rfl rfl ?_
                    refine TL.goff rfl rfl rfl rfl rfl rfl rfl rfl ?_
                    refine TL.goff rfl rfl rfl rfl rfl rfl rfl rfl ?_
                    refine TL.goff rfl rfl rfl rfl rfl rfl rfl rfl ?_
                    refine TL.v rfl (OpVal.pickTB rfl rfl rfl) rfl rfl ?_
                    refine TL.nil ?_
                    refine S.n ?_
                    refine TC.cond rfl (fun _ => ?_) (fun h => Bool.noConfusion h)
                    refine TC.seq ?_
                    refine TC.region ?_
                    refine TL.v rfl (OpVal.moveB (.inr rfl) rfl) rfl rfl ?_
                    refine TL.nil ?_
                    refine S.n ?_
                    refine TC.ofSub (Sub.pre 0 rfl) ?_
                    refine TC.ret ?_
                    refine B.r ?_
                    refine S.r ?_
                    refine S.r ?_
                    replace hh := fin_x hR1 hh
                    refine B.r ?_
                    refine S.r ?_
                    obtain rfl := Option.some.inj hh
                    exact RetOk.mk' (rs := [.tmp 2]) [] rfl (.inl rfl) (RVs.tmp rfl RVs.nil) (List.sublist_append_left _ _) ⟨rfl, rfl, rfl⟩
                  · replace hh := iteO_f h116 hh
                    replace h116 := of_decide_eq_false h116
                    refine TL.gv rfl rfl rfl rfl rfl (OpVal.fieldLoc rfl fo45_1 rfl) rfl rfl ?_
                    refine TL.gv rfl rfl rfl rfl rfl (OpVal.loadLoc rfl ag3 rfl (i := 0) rfl rfl) rfl rfl ?_
                    refine TL.gv rfl rfl rfl rfl rfl (OpVal.fieldLoc rfl fo25_0 rfl) rfl rfl ?_
                    refine TL.gv rfl rfl rfl rfl rfl (OpVal.loadLoc rfl ag3 rfl (i := 1) rfl rfl) rfl rfl ?_
                    refine TL.gv rfl rfl rfl rfl rfl (OpVal.geq rfl rfl rfl) rfl rfl ?_
                    refine TL.v rfl (OpVal.pickFB rfl rfl rfl) rfl rfl ?_
                    refine TL.v rfl (OpVal.moveB (.inl rfl) rfl) rfl rfl ?_
                    refine TL.split 69 rfl (fun h117 => ?_) (fun h117 => ?_)
                    · replace hh := iteO_t h117 hh
                      replace h117 := of_decide_eq_true h117
                      refine TL.goff rfl rfl rfl rfl rfl rfl rfl rfl ?_
                      refine TL.goff rfl rfl rfl rfl rfl rfl rfl rfl ?_
                      refine TL.goff rfl rfl rfl rfl rfl rfl rfl rfl ?_
                      refine TL.goff rfl rfl rfl rfl rfl rfl rfl rfl ?_
                      refine TL.v rfl (OpVal.pickTB rfl rfl rfl) rfl rfl ?_
                      refine TL.v rfl (OpVal.moveB (.inl rfl) rfl) rfl rfl ?_
                      refine TL.goff rfl rfl rfl rfl rfl rfl rfl rfl ?_
                      refine TL.goff rfl rfl rfl rfl rfl rfl rfl rfl ?_
                      refine TL.goff rfl rfl rfl rfl rfl rfl rfl rfl ?_
                      refine TL.goff rfl rfl rfl rfl rfl rfl rfl rfl ?_
                      refine TL.v rfl (OpVal.pickTB rfl rfl rfl) rfl rfl ?_
                      refine TL.nil ?_
                      refine S.n ?_
                      refine TC.cond rfl (fun _ => ?_) (fun h => Bool.noConfusion h)
                      refine TC.seq ?_
                      refine TC.region ?_
                      refine TL.v rfl (OpVal.moveB (.inr rfl) rfl) rfl rfl ?_
                      refine TL.nil ?_
                      refine S.n ?_
                      refine TC.ofSub (Sub.pre 0 rfl) ?_
                      refine TC.ret ?_
                      refine B.r ?_
                      refine S.r ?_
                      refine S.r ?_
                      replace hh := fin_x hR1 hh
                      refine B.r ?_
                      refine S.r ?_
                      obtain rfl := Option.some.inj hh
                      exact RetOk.mk' (rs := [.tmp 2]) [] rfl (.inl rfl) (RVs.tmp rfl RVs.nil) (List.sublist_append_left _ _) ⟨rfl, rfl, rfl⟩
                    · replace hh := iteO_f h117 hh
                      replace h117 := of_decide_eq_false h117
                      refine TL.gv rfl rfl rfl rfl rfl (OpVal.fieldLoc rfl fo45_2 rfl) rfl rfl ?_
                      refine TL.gv rfl rfl rfl rfl rfl (OpVal.loadLocA rfl ag43 sz43 rfl (i := 0) rfl rfl rfl) rfl rfl ?_
                      refine TL.gv rfl rfl rfl rfl rfl (OpVal.buildArrL rfl Tryz.underlying43 sz41 ze43 rfl) rfl rfl ?_
                      refine TL.gv rfl rfl rfl rfl rfl (OpVal.eqlSet (s := (nth x0.arcs k110 Arc.zero).set) (t := BSet.zero) rfl Tryz.underlying43 Tryz.underlying41 ag41 sz41 eg43 rfl rfl) rfl rfl ?_
                      refine TL.v rfl (OpVal.pickFB rfl rfl rfl) rfl rfl ?_
                      refine TL.v rfl (OpVal.moveB (.inl rfl) rfl) rfl rfl ?_
                      refine TL.split 75 rfl (fun h118 => ?_) (fun h118 => ?_)
                      · replace hh := iteO_t h118 hh
                        replace h118 := of_decide_eq_true h118
                        refine TL.goff rfl rfl rfl rfl rfl rfl rfl rfl ?_
                        refine TL.goff rfl rfl rfl rfl rfl rfl rfl rfl ?_
                        refine TL.goff rfl rfl rfl rfl rfl rfl rfl rfl ?_
                        refine TL.goff rfl rfl rfl rfl rfl rfl rfl rfl ?_
                        refine TL.v rfl (OpVal.pickTB rfl rfl rfl) rfl rfl ?_
                        refine TL.nil ?_
                        refine S.n ?_
                        refine TC.cond rfl (fun _ => ?_) (fun h => Bool.noConfusion h)
                        refine TC.seq ?_
                        refine TC.region ?_
                        refine TL.v rfl (OpVal.moveB (.inr rfl) rfl) rfl rfl ?_
                        refine TL.nil ?_
                        refine S.n ?_
                        refine TC.ofSub (Sub.pre 0 rfl) ?_
                        refine TC.ret ?_
                        refine B.r ?_
                        refine S.r ?_
                        refine S.r ?_
                        replace hh := fin_x hR1 hh
                        refine B.r ?_
                        refine S.r ?_
                        obtain rfl := Option.some.inj hh
                        exact RetOk.mk' (rs := [.tmp 2]) [] rfl (.inl rfl) (RVs.tmp rfl RVs.nil) (List.sublist_append_left _ _) ⟨rfl, rfl, rfl⟩
                      · replace hh := iteO_f h118 hh
                        replace h118 := of_decide_eq_false h118
                        refine TL.gv rfl rfl rfl rfl rfl (OpVal.fieldLoc rfl fo45_3 rfl) rfl rfl ?_
                        refine TL.gv rfl rfl rfl rfl rfl (OpVal.loadLoc rfl ag9 rfl (i := 0) rfl rfl) rfl rfl ?_
                        refine TL.gv rfl rfl rfl rfl rfl (OpVal.lenBs rfl Tryz.underlying9 rfl) rfl rfl ?_
                        refine TL.gv rfl rfl rfl rfl rfl (OpVal.gtr rfl rfl rfl) rfl rfl ?_
                        refine TL.v rfl (OpVal.pickFB rfl rfl rfl) rfl rfl ?_
                        refine TL.nil ?_
                        refine S.n ?_
                        refine TC.cond rfl (fun h119 => ?_) (fun h119 => ?_)
                        · replace hh := iteO_t h119 hh
                          replace h119 := of_decide_eq_true h119
                          refine TC.seq ?_
                          refine TC.region ?_
                          refine TL.v rfl (OpVal.moveB (.inr rfl) rfl) rfl rfl ?_
                          refine TL.nil ?_
                          refine S.n ?_
                          refine TC.ofSub (Sub.pre 0 rfl) ?_
                          refine TC.ret ?_
                          refine B.r ?_
                          refine S.r ?_
                          refine S.r ?_
                          replace hh := fin_x hR1 hh
                          refine B.r ?_
                          refine S.r ?_
                          obtain rfl := Option.some.inj hh
                          exact RetOk.mk' (rs := [.tmp 2]) [] rfl (.inl rfl) (RVs.tmp rfl RVs.nil) (List.sublist_append_left _ _) ⟨rfl, rfl, rfl⟩
                        · replace hh := iteO_f h119 hh
                          replace h119 := of_decide_eq_false h119
                          refine TC.skip ?_
                          refine B.n ?_
                          refine S.n ?_
                          refine TC.region ?_
                          refine TL.v rfl (OpVal.moveI (.inl rfl) rfl) rfl rfl ?_
                          refine TL.v rfl (OpVal.succ rfl rfl rfl (by omega)) rfl rfl ?_
                          refine TL.v rfl (OpVal.moveI (.inr rfl) rfl) rfl rfl ?_
                          refine TL.nil ?_
                          refine S.n ?_
                          obtain ⟨hh, hlt120⟩ := nxt_x hR1 hh
                          refine ⟨by repeat (first | exact Agr.refl _ _ | exact Agr.mask | refine Agr.upd rfl ?_ | refine Agr.maskIn rfl ?_ | refine Agr.upds rfl ?_), ((k110 + 1), ()), hlt120, hh, by repeat (first | exact trivial | refine ⟨rfl, ?_⟩), Sub.front 1 rfl rfl (Sub.pre 1 rfl), rfl⟩
            · replace hh := iteO_f h111 hh
              replace h111 := of_decide_eq_false h111
              refine TC.exit ?_
              refine S.x ?_
              refine S.x ?_
              replace hh := fin_x hR1 hh
              refine TC.exitHere ?_
              refine S.n ?_
              refine TC.seq ?_
              refine TC.region ?_
              refine TL.v rfl (OpVal.moveB (.inr rfl) rfl) rfl rfl ?_
              refine TL.nil ?_
              refine S.n ?_
              refine TC.ofSub (Sub.pre 0 rfl) ?_
              refine TC.ret ?_
              obtain rfl := Option.some.inj hh
              exact RetOk.mk' (rs := [.tmp 2]) [] rfl (.inl rfl) (RVs.tmp rfl RVs.nil) (List.sublist_append_left _ _) ⟨rfl, rfl, rfl⟩

noncomputable def fst_step_j1 (k128 : Nat) (m130 : FM FPair Unit) : Option (((FM FPair Unit) × Nat) ⊕ (((FM FPair Unit)) ⊕ ((FM FPair Unit) × Bool))) :=
  nxt (m130, (k128 + 1))
noncomputable def fst_step_j2 (m127 : FM FPair Unit) (x0 : List (List Arc)) (v7c : FPair × Unit) (k128 : Nat) (s134 : List UInt8) : Option (((FM FPair Unit) × Nat) ⊕ (((FM FPair Unit)) ⊕ ((FM FPair Unit) × Bool))) :=
  iteO (decide (4096 < (((m127.put (⟨(nth (nth x0 v7c.1.state.toNat ([] : List Arc)) k128 Arc.zero).to, s134⟩ : FPair) ()).n : Nat) : Int))) (fin (fin (some ((FM.emp : FM FPair Unit), false)))) (fst_step_j1 k128 (m127.put (⟨(nth (nth x0 v7c.1.state.toNat ([] : List Arc)) k128 Arc.zero).to, s134⟩ : FPair) ()))
noncomputable def fst_step_b2 (x0 : List (List Arc)) (v7c : FPair × Unit) (x2 : UInt8) (m127 : FM FPair Unit) (k128 : Nat) : Option (((FM FPair Unit) × Nat) ⊕ (((FM FPair Unit)) ⊕ ((FM FPair Unit) × Bool))) :=
  iteO (decide (((k128 : Nat) : Int) < (((nth x0 v7c.1.state.toNat ([] : List Arc)).length : Nat) : Int))) (iteO (!(((nth (nth x0 v7c.1.state.toNat ([] : List Arc)) k128 Arc.zero).set).has x2.toNat)) (fst_step_j1 k128 m127) (grd (v7c.1.out.length + ((nth (nth x0 v7c.1.state.toNat ([] : List Arc)) k128 Arc.zero).out).length ≤ 9223372036854775807) (iteO ((nth (nth x0 v7c.1.state.toNat ([] : List Arc)) k128 Arc.zero).copy) (grd ((v7c.1.out ++ (nth (nth x0 v7c.1.state.toNat ([] : List Arc)) k128 Arc.zero).out).length + [x2].length ≤ 9223372036854775807) (fst_step_j2 m127 x0 v7c k128 ((v7c.1.out ++ (nth (nth x0 v7c.1.state.toNat ([] : List Arc)) k128 Arc.zero).out) ++ [x2]))) (fst_step_j2 m127 x0 v7c k128 (v7c.1.out ++ (nth (nth x0 v7c.1.state.toNat ([] : List Arc)) k128 Arc.zero).out))))) (fin (nxt m127))
noncomputable def fst_step_b1 (x0 : List (List Arc)) (x2 : UInt8) (m114 : FM FPair Unit) (oE : Option (FPair × Unit)) : Option (((FM FPair Unit)) ⊕ ((FM FPair Unit) × Bool)) :=
  optE oE (fin (some (m114, true))) (fun v7c => grd (0 ≤ v7c.1.state ∧ v7c.1.state < (x0.length : Int)) (iter (fun q : (FM FPair Unit) × Nat => fst_step_b2 x0 v7c x2 q.1 q.2) (m114, 0)))
noncomputable def fst_step (x0 : List (List Arc)) (x1 : FM FPair Unit) (x2 : UInt8) : Option ((FM FPair Unit) × Bool) :=
  allP (fun q => Rep q x1) (fun q => runL (fun (q : (FM FPair Unit)) (oE : Option (FPair × Unit)) => fst_step_b1 x0 x2 q oE) q (FM.emp : FM FPair Unit))
theorem fst_step_con {σ : Store} {x0 : List (List Arc)} {a0_0 : Option Addr} {c0_0 : Nat} {x1 : FM FPair Unit} {b1_0 : Option Nat} {x2 : UInt8} (f0_0 : RZ σ (pkSl 8 encArc encArc_len) (.slice a0_0 x0.length c0_0) x0) {r : (FM FPair Unit) × Bool} (hh : fst_step x0 x1 x2 = some r) :
    Con Tryz.prog 46 #[.slice a0_0 x0.length c0_0, .map b1_0, .int .u8 ((x2.toNat : Nat) : Int)] σ [Res.mapB (fun x => Value.agg (encFPair x).toArray) unitV b1_0 x1] (fun v σ' H' => ∃ (br1 : Option Nat), v = .tuple #[.map br1, .bool r.2] ∧ σ = σ' ∧ H' = [Res.mapB (fun x => Value.agg (encFPair x).toArray) unitV br1 r.1]) := by
  dsimp only [fst_step] at hh
  have f0_0b := f0_0.big
  refine Con.mk (n := 58) Tryz.func46 rfl rfl rfl (fun w0 => ?_)
  refine TC.seq ?_
  refine TC.region ?_
  refine TL.v rfl (OpVal.moveMap (.inr rfl) rfl) rfl rfl ?_
  refine TL.v rfl (OpVal.moveB (.inr rfl) rfl) rfl rfl ?_
  refine TL.nil ?_
  refine S.n ?_
  refine TC.seq ?_
  refine TC.region ?_
  refine TL.op rfl (OpOk.makeMapB (enc := (fun x => Value.agg (encFPair x).toArray)) (encV := unitV) rfl rfl rfl (fun b103 => ?_))
  refine TL.v rfl (OpVal.moveMap (.inr rfl) rfl) rfl rfl ?_
  refine TL.nil ?_
  refine S.n ?_
  refine TC.seq ?_
  refine TC.seq ?_
  refine TC.region ?_
  refine TL.v rfl (OpVal.moveMap (.inl rfl) rfl) rfl rfl ?_
  refine TL.front 1 rfl rfl ?_
  refine TL.op rfl (OpOk.rangeB rfl Tryz.underlying81 rfl rfl rfl (fun it105 l106 hl107 => ?_))
  refine TL.nil ?_
  refine S.n ?_
  refine TC.block ?_
  refine TC.loopG (α := ((FM FPair Unit)) × ((List (FPair × Unit)) × (Option (FPair × Unit)))) [6, 7, 9, 11, 12, 16, 17, 18, 19, 20, 21, 22, 23, 24, 25, 26, 27, 28, 29, 30, 31, 32, 33, 34, 35, 36, 37, 38, 39, 40, 41, 42, 43, 44, 45, 46, 47, 48, 49, 50, 51, 52, 53, 54, 55, 56] (fun g => []) (fun g => [Res.mapB (fun x => Value.agg (encFPair x).toArray) unitV (some b103) g.1, Res.rng (fun x => Value.agg (encFPair x).toArray) unitV b1_0 it105 x1 g.2.1 g.2.2]) (fun g => σ) (fun g => runA (fun (q : (FM FPair Unit)) (oE : Option (FPair × Unit)) => fst_step_b1 x0 x2 q oE) g.2.1 g.1 = some r) (fun g => List.length g.2.1) ((FM.emp : FM FPair Unit), (l106, none)) (Sub.front 1 rfl rfl (Sub.pre 2 rfl)) rfl (by repeat (first | exact trivial | refine ⟨rfl, ?_⟩)) (runA_of hh hl107) (fun g1 j1 hg1 => ?_)
  obtain ⟨m114, ⟨l115, o116⟩⟩ := g1
  have hh := hg1; clear hg1
  show TC _ _ _ (upds (mask _ j1 _) []) _ [Res.mapB (fun x => Value.agg (encFPair x).toArray) unitV (some b103) m114, Res.rng (fun x => Value.agg (encFPair x).toArray) unitV b1_0 it105 x1 l115 o116]
  refine TC.seq ?_
  refine TC.region ?_
  refine TL.front 1 rfl rfl ?_
  refine TL.op rfl (OpOk.nextB (T := 0) rfl rfl rfl rfl rfl (fun hl117 => ?_) (fun l118 v7c l119 hl117 => ?_))
  · subst hl117
    obtain ⟨z1, hh, hR1⟩ := runA_end hh
    dsimp only [fst_step_b1, optE_none] at hh
    refine TL.by (fun w h => Reach.unrng h) ?_
    refine TL.v rfl (OpVal.extract rfl rfl rfl) rfl rfl ?_
    refine TL.nil ?_
    refine S.n ?_
    refine TC.seq ?_
    refine TC.cond rfl (fun h => Bool.noConfusion h) (fun _ => ?_)
    refine TC.exit ?_
    refine S.x ?_
    refine S.x ?_
    replace hh := finE_x hR1 hh
    refine TC.exitHere ?_
    refine S.n ?_
    refine TC.seq ?_
    refine TC.region ?_
    refine TL.v rfl (OpVal.moveMap (.inl rfl) rfl) rfl rfl ?_
    refine TL.v rfl (OpVal.moveMap (.inr rfl) rfl) rfl rfl ?_
    refine TL.v rfl (OpVal.moveB (.inr rfl) rfl) rfl rfl ?_
    refine TL.nil ?_
    refine S.n ?_
    refine TC.ofSub (Sub.front 1 rfl rfl (Sub.pre 1 rfl)) ?_
    refine TC.ret ?_
    obtain rfl := Option.some.inj hh
    exact RetOk.mk' (rs := [.tmp 6, .tmp 7]) [Res.mapB (fun x => Value.agg (encFPair x).toArray) unitV (some b103) m114] rfl (.inl rfl) (RVs.tmp rfl (RVs.tmp rfl RVs.nil)) (List.sublist_append_left _ _) ⟨(some b103), rfl, rfl, rfl⟩
  · subst hl117
    obtain ⟨z1, hh, hR1⟩ := runA_step hh
    dsimp only [fst_step_b1, optE_some] at hh
    refine TL.v rfl (OpVal.extract rfl rfl rfl) rfl rfl ?_
    refine TL.nil ?_
    refine S.n ?_
    refine TC.seq ?_
    refine TC.cond rfl (fun _ => ?_) (fun h => Bool.noConfusion h)
    refine TC.skip ?_
    refine S.n ?_
    refine TC.block ?_
    refine TC.seq ?_
    refine TC.region ?_
    refine TL.v rfl (OpVal.of (OpVal.entryB rfl rfl (i := 0) rfl) (v' := .tuple #[.agg #[.int .i64 v7c.1.state, .string (bs v7c.1.out)], .agg #[]]) rfl) rfl rfl ?_
    refine TL.v rfl (OpVal.extract rfl rfl rfl) rfl rfl ?_
    refine TL.op rfl (OpOk.alloc rfl ze84 rfl rfl (fun b120 => ?_))
    refine TL.op rfl (OpOk.storeAll rfl sz84 rfl rfl rfl rfl rfl rfl ?_)
    refine TL.nil ?_
    refine S.n ?_
    refine TC.seq ?_
    refine TC.region ?_
    refine TL.v rfl (OpVal.moveSl (.inl rfl) rfl) rfl rfl ?_
    refine TL.v rfl (OpVal.fieldLoc rfl fo84_0 rfl) rfl rfl ?_
    refine TL.v rfl (OpVal.loadLoc rfl ag3 rfl (i := 0) rfl rfl) rfl rfl ?_
    have u16 := grd_c hh
    replace hh := grd_t hh
    refine TL.v rfl (OpVal.index rfl Tryz.underlying80 sz23 rfl rfl f0_0.isSl u16.1 u16.2) rfl rfl ?_
    obtain ⟨p122, hk122, hg122⟩ := RZ.seg f0_0 v7c.1.state.toNat (by omega)
    replace hk122 : RS _ 8 encArc (.slice p122.1 (nth x0 v7c.1.state.toNat ([] : List Arc)).length p122.2) (nth x0 v7c.1.state.toNat ([] : List Arc)) := hk122
    have hk122b := hk122.rv.big
    refine TL.v rfl (OpVal.of (OpVal.loadSeg0 rfl ag23 rfl hg122 rfl) (v' := .slice p122.1 ((nth x0 v7c.1.state.toNat ([] : List Arc)).length) p122.2) rfl) rfl rfl ?_
    refine TL.v rfl (OpVal.lenC rfl Tryz.underlying23 rfl) rfl rfl ?_
    refine TL.v rfl (OpVal.moveI (.inl rfl) rfl) rfl rfl ?_
    refine TL.nil ?_
    refine S.n ?_
    refine TC.block ?_
    refine TC.loopG (α := ((FM FPair Unit) × Nat) × (Unit)) [6, 7, 11, 12, 26, 27, 28, 29, 30, 31, 32, 33, 34, 35, 36, 37, 38, 39, 40, 41, 42, 43, 44, 45, 46, 47, 48, 49, 50, 51, 52, 53, 54, 55, 56] (fun g => [(26, .int .i64 ((g.1.2 : Nat) : Int))]) (fun g => [Res.mapB (fun x => Value.agg (encFPair x).toArray) unitV (some b103) g.1.1, Res.cells b120 #[.int .i64 v7c.1.state, .string (bs v7c.1.out)] 84, Res.rng (fun x => Value.agg (encFPair x).toArray) unitV b1_0 it105 x1 (l118 ++ l119) (some v7c)]) (fun g => σ) (fun g => iter (fun q : (FM FPair Unit) × Nat => fst_step_b2 x0 v7c x2 q.1 q.2) g.1 = some z1) (fun g => rounds (fun q : (FM FPair Unit) × Nat => fst_step_b2 x0 v7c x2 q.1 q.2) g.1) ((m114, 0), ()) (Sub.front 1 rfl rfl (Sub.front 1 rfl rfl (Sub.front 2 rfl rfl (Sub.pre 3 rfl)))) rfl (by repeat (first | exact trivial | refine ⟨rfl, ?_⟩)) hh (fun g2 j2 hg2 => ?_)
    obtain ⟨⟨m127, k128⟩, _⟩ := g2
    have hh := hg2; clear hg2
    show TC _ _ _ (upds (mask _ j2 _) [(26, .int .i64 ((k128 : Nat) : Int))]) _ [Res.mapB (fun x => Value.agg (encFPair x).toArray) unitV (some b103) m127, Res.cells b120 #[.int .i64 v7c.1.state, .string (bs v7c.1.out)] 84, Res.rng (fun x => Value.agg (encFPair x).toArray) unitV b1_0 it105 x1 (l118 ++ l119) (some v7c)]
    obtain ⟨z2, hh, hR2⟩ := iter_e hh
    dsimp only [fst_step_b2] at hh
    refine TC.seq ?_
    refine TC.region ?_
    refine TL.v rfl (OpVal.lss rfl rfl rfl) rfl rfl ?_
    refine TL.nil ?_
    refine S.n ?_
    refine TC.seq ?_
    refine TC.cond rfl (fun h129 => ?_) (fun h129 => ?_)
    · replace hh := iteO_t h129 hh
      replace h129 := of_decide_eq_true h129
      refine TC.skip ?_
      refine S.n ?_
      refine TC.cutG (α := ((FM FPair Unit)) × (Unit)) [6, 7, 11, 12, 28, 29, 30, 31, 32, 33, 34, 35, 36, 37, 38, 39, 40, 41, 42, 43, 44, 45, 46, 47, 48, 49, 50, 51, 52, 53, 54, 55] (fun g => []) (fun g => [Res.mapB (fun x => Value.agg (encFPair x).toArray) unitV (some b103) g.1, Res.cells b120 #[.int .i64 v7c.1.state, .string (bs v7c.1.out)] 84, Res.rng (fun x => Value.agg (encFPair x).toArray) unitV b1_0 it105 x1 (l118 ++ l119) (some v7c)]) (fun g => σ) (fun g => fst_step_j1 k128 g.1 = some z2) ?_ (fun g j hg => ?_)
      · skip
        refine TC.block ?_
        refine TC.seq ?_
        refine TC.region ?_
        refine TL.v rfl (OpVal.indexN rfl Tryz.underlying23 sz45 rfl rfl hk122.rv.sl (by omega)) rfl rfl ?_
        refine TL.v rfl (OpVal.loadSA Arc.zero rfl ag45 sz45 rfl hk122 (by omega) (by omega)) rfl rfl ?_
        refine TL.op rfl (OpOk.alloc rfl ze45 rfl rfl (fun b131 => ?_))
        refine TL.op rfl (OpOk.storeAll rfl sz45 rfl rfl rfl rfl rfl rfl ?_)
        refine TL.nil ?_
        refine S.n ?_
        refine TC.seq ?_
        refine TC.seq ?_
        refine TC.region ?_
        refine TL.v rfl (OpVal.fieldLoc rfl fo45_2 rfl) rfl rfl ?_
        refine TL.v rfl (OpVal.loadLocA rfl ag43 sz43 rfl (i := 0) rfl rfl rfl) rfl rfl ?_
        refine TL.v rfl (OpVal.moveI (.inl rfl) rfl) rfl rfl ?_
        refine TL.op rfl (OpOk.callP (has_con _ ((nth (nth x0 v7c.1.state.toNat ([] : List Arc)) k128 Arc.zero).set) x2.toNat (BSet.isOk _) (UInt8.toNat_lt _)) rfl rfl pf58 rfl rfl rfl ?_)
        refine TL.v rfl (OpVal.not rfl rfl) rfl rfl ?_
        refine TL.nil ?_
        refine S.n ?_
        refine TC.cond rfl (fun h133 => ?_) (fun h133 => ?_)
        · replace hh := iteO_t h133 hh
          refine TC.exit ?_
          refine S.x ?_
          refine TC.exitHere ?_
          refine S.n ?_
          refine ⟨by repeat (first | exact Agr.refl _ _ | exact Agr.mask | refine Agr.upd rfl ?_ | refine Agr.maskIn rfl ?_ | refine Agr.upds rfl ?_), (m127, ()), hh, by repeat (first | exact trivial | refine ⟨rfl, ?_⟩), Sub.front 3 rfl rfl (Sub.front 3 rfl rfl (Sub.front 3 rfl rfl (Sub.pre 3 rfl))), rfl⟩
        · replace hh := iteO_f h133 hh
          refine TC.skip ?_
          refine S.n ?_
          refine TC.seq ?_
          refine TC.region ?_
          refine TL.v rfl (OpVal.fieldLoc rfl fo84_1 rfl) rfl rfl ?_
          refine TL.v rfl (OpVal.loadLoc rfl ag9 rfl (i := 2) rfl rfl) rfl rfl ?_
          refine TL.v rfl (OpVal.fieldLoc rfl fo45_3 rfl) rfl rfl ?_
          refine TL.v rfl (OpVal.loadLoc rfl ag9 rfl (i := 0) rfl rfl) rfl rfl ?_
          have u34 := grd_c hh
          replace hh := grd_t hh
          refine TL.v rfl (OpVal.catBs rfl rfl rfl u34) rfl rfl ?_
          refine TL.v rfl (OpVal.moveStr (.inr rfl) rfl) rfl rfl ?_
          refine TL.nil ?_
          refine S.n ?_
          refine TC.cutG (α := ((List UInt8)) × (Unit)) [12, 40, 41, 42, 43, 44, 45, 46] (fun g => [(12, .string (bs g.1))]) (fun g => [Res.mapB (fun x => Value.agg (encFPair x).toArray) unitV (some b103) m127, Res.cells b120 #[.int .i64 v7c.1.state, .string (bs v7c.1.out)] 84, Res.cells b131 #[.int .i64 ((nth (nth x0 v7c.1.state.toNat ([] : List Arc)) k128 Arc.zero).frm), .int .i64 ((nth (nth x0 v7c.1.state.toNat ([] : List Arc)) k128 Arc.zero).to), .int .u64 ((((nth (nth x0 v7c.1.state.toNat ([] : List Arc)) k128 Arc.zero).set).a : Nat) : Int), .int .u64 ((((nth (nth x0 v7c.1.state.toNat ([] : List Arc)) k128 Arc.zero).set).b : Nat) : Int), .int .u64 ((((nth (nth x0 v7c.1.state.toNat ([] : List Arc)) k128 Arc.zero).set).c : Nat) : Int), .int .u64 ((((nth (nth x0 v7c.1.state.toNat ([] : List Arc)) k128 Arc.zero).set).d : Nat) : Int), .string (bs ((nth (nth x0 v7c.1.state.toNat ([] : List Arc)) k128 Arc.zero).out)), .bool ((nth (nth x0 v7c.1.state.toNat ([] : List Arc)) k128 Arc.zero).copy)] 45, Res.rng (fun x => Value.agg (encFPair x).toArray) unitV b1_0 it105 x1 (l118 ++ l119) (some v7c)]) (fun g => σ) (fun g => fst_step_j2 m127 x0 v7c k128 g.1 = some z2) ?_ (fun g j hg => ?_)
          · skip
            refine TC.seq ?_
            refine TC.region ?_
            refine TL.v rfl (OpVal.fieldLoc rfl fo45_4 rfl) rfl rfl ?_
            refine TL.v rfl (OpVal.loadLoc rfl ag4 rfl (i := 0) rfl rfl) rfl rfl ?_
            refine TL.nil ?_
            refine S.n ?_
            refine TC.cond rfl (fun h135 => ?_) (fun h135 => ?_)
            · replace hh := iteO_t h135 hh
              refine TC.region ?_
              refine TL.v rfl (OpVal.moveStr (.inl rfl) rfl) rfl rfl ?_
              refine TL.v rfl (OpVal.moveI (.inl rfl) rfl) rfl rfl ?_
              refine TL.op rfl (OpOk.lit (enc := encU8) [x2] rfl Tryz.underlying79 sz5 ze5 rfl rfl rfl encU8_len (by decide) (by decide) (0 : UInt8) rfl (by decide) rfl (by decide) encU8_one (fun a136 c137 => ?_))
              refine TL.isSl (i := 0) rfl (fun hs139 _ _ => ?_)
              refine TL.v rfl (OpVal.bytesStr (l := [x2]) rfl Tryz.underlying79 Tryz.underlying5 Tryz.underlying9 rfl hs139 (fun w hw => rdb_row (q := 0) rfl hw)) rfl rfl ?_
              have u42 := grd_c hh
              replace hh := grd_t hh
              refine TL.v rfl (OpVal.catBs rfl rfl rfl u42) rfl rfl ?_
              refine TL.v rfl (OpVal.moveStr (.inr rfl) rfl) rfl rfl ?_
              refine TL.nil ?_
              refine S.n ?_
              refine ⟨by repeat (first | exact Agr.refl _ _ | exact Agr.mask | refine Agr.upd rfl ?_ | refine Agr.maskIn rfl ?_ | refine Agr.upds rfl ?_), (((v7c.1.out ++ (nth (nth x0 v7c.1.state.toNat ([] : List Arc)) k128 Arc.zero).out) ++ [x2]), ()), hh, by repeat (first | exact trivial | refine ⟨rfl, ?_⟩), Sub.front 4 rfl rfl (Sub.front 2 rfl rfl (Sub.front 4 rfl rfl (Sub.front 4 rfl rfl (Sub.pre 4 rfl)))), rfl⟩
            · replace hh := iteO_f h135 hh
              refine TC.skip ?_
              refine S.n ?_
              refine ⟨by repeat (first | exact Agr.refl _ _ | exact Agr.mask | refine Agr.upd rfl ?_ | refine Agr.maskIn rfl ?_ | refine Agr.upds rfl ?_), ((v7c.1.out ++ (nth (nth x0 v7c.1.state.toNat ([] : List Arc)) k128 Arc.zero).out), ()), hh, by repeat (first | exact trivial | refine ⟨rfl, ?_⟩), Sub.front 3 rfl rfl (Sub.front 1 rfl rfl (Sub.front 3 rfl rfl (Sub.front 3 rfl rfl (Sub.pre 4 rfl)))), rfl⟩
          · skip
            obtain ⟨s134, _⟩ := g
            have hh := hg; clear hg
            show TC _ _ _ (upds (mask _ j _) [(12, .string (bs s134))]) _ [Res.mapB (fun x => Value.agg (encFPair x).toArray) unitV (some b103) m127, Res.cells b120 #[.int .i64 v7c.1.state, .string (bs v7c.1.out)] 84, Res.cells b131 #[.int .i64 ((nth (nth x0 v7c.1.state.toNat ([] : List Arc)) k128 Arc.zero).frm), .int .i64 ((nth (nth x0 v7c.1.state.toNat ([] : List Arc)) k128 Arc.zero).to), .int .u64 ((((nth (nth x0 v7c.1.state.toNat ([] : List Arc)) k128 Arc.zero).set).a : Nat) : Int), .int .u64 ((((nth (nth x0 v7c.1.state.toNat ([] : List Arc)) k128 Arc.zero).set).b : Nat) : Int), .int .u64 ((((nth (nth x0 v7c.1.state.toNat ([] : List Arc)) k128 Arc.zero).set).c : Nat) : Int), .int .u64 ((((nth (nth x0 v7c.1.state.toNat ([] : List Arc)) k128 Arc.zero).set).d : Nat) : Int), .string (bs ((nth (nth x0 v7c.1.state.toNat ([] : List Arc)) k128 Arc.zero).out)), .bool ((nth (nth x0 v7c.1.state.toNat ([] : List Arc)) k128 Arc.zero).copy)] 45, Res.rng (fun x => Value.agg (encFPair x).toArray) unitV b1_0 it105 x1 (l118 ++ l119) (some v7c)]
            dsimp only [fst_step_j2] at hh
            refine TC.seq ?_
            refine TC.region ?_
            refine TL.v rfl (OpVal.moveMap (.inl rfl) rfl) rfl rfl ?_
            refine TL.v rfl (OpVal.fieldLoc rfl fo45_1 rfl) rfl rfl ?_
            refine TL.v rfl (OpVal.loadLoc rfl ag3 rfl (i := 2) rfl rfl) rfl rfl ?_
            refine TL.v rfl (OpVal.moveStr (.inl rfl) rfl) rfl rfl ?_
            refine TL.v rfl (OpVal.buildL rfl pl84 ze84 rfl) rfl rfl ?_
            refine TL.v rfl (OpVal.buildL rfl pl82 ze82 rfl) rfl rfl ?_
            refine TL.op rfl (OpOk.updB (⟨(nth (nth x0 v7c.1.state.toNat ([] : List Arc)) k128 Arc.zero).to, s134⟩ : FPair) () rfl Tryz.underlying81 rfl rfl rfl rfl kl84 ?_)
            refine TL.nil ?_
            refine S.n ?_
            refine TC.seq ?_
            refine TC.region ?_
            refine TL.v rfl (OpVal.moveMap (.inl rfl) rfl) rfl rfl ?_
            refine TL.v rfl (OpVal.lenB rfl Tryz.underlying81 rfl (i := 0) rfl) rfl rfl ?_
            refine TL.v rfl (OpVal.gtr rfl rfl rfl) rfl rfl ?_
            refine TL.nil ?_
            refine S.n ?_
            refine TC.cond rfl (fun h140 => ?_) (fun h140 => ?_)
            · replace hh := iteO_t h140 hh
              replace h140 := of_decide_eq_true h140
              refine TC.seq ?_
              refine TC.region ?_
              refine TL.v rfl (OpVal.moveMap (.inr rfl) rfl) rfl rfl ?_
              refine TL.v rfl (OpVal.moveB (.inr rfl) rfl) rfl rfl ?_
              refine TL.nil ?_
              refine S.n ?_
              refine TC.by (fun w h => Reach.nilMap (enc := (fun x => Value.agg (encFPair x).toArray)) (encV := unitV) h) ?_
              refine TC.ofSub (Sub.pre 1 rfl) ?_
              refine TC.ret ?_
              refine B.r ?_
              refine S.r ?_
              refine S.r ?_
              replace hh := fin_x hR2 hh
              refine B.r ?_
              refine B.r ?_
              refine S.r ?_
              replace hh := finA_x hR1 hh
              refine B.r ?_
              refine S.r ?_
              obtain rfl := Option.some.inj hh
              exact RetOk.mk' (rs := [.tmp 6, .tmp 7]) [Res.mapB (fun x => Value.agg (encFPair x).toArray) unitV none (FM.emp : FM FPair Unit)] rfl (.inl rfl) (RVs.tmp rfl (RVs.tmp rfl RVs.nil)) (List.sublist_append_left _ _) ⟨none, rfl, rfl, rfl⟩
            · replace hh := iteO_f h140 hh
              replace h140 := of_decide_eq_false h140
              refine TC.skip ?_
              refine B.n ?_
              refine S.n ?_
              refine ⟨by repeat (first | exact Agr.refl _ _ | exact Agr.mask | refine Agr.upd rfl ?_ | refine Agr.maskIn rfl ?_ | refine Agr.upds rfl ?_), ((m127.put (⟨(nth (nth x0 v7c.1.state.toNat ([] : List Arc)) k128 Arc.zero).to, s134⟩ : FPair) ()), ()), hh, by repeat (first | exact trivial | refine ⟨rfl, ?_⟩), Sub.front 3 rfl rfl (Sub.front 2 rfl rfl (Sub.front 2 rfl rfl (Sub.pre 3 rfl))), rfl⟩
      · skip
        obtain ⟨m130, _⟩ := g
        have hh := hg; clear hg
        show TC _ _ _ (upds (mask _ j _) []) _ [Res.mapB (fun x => Value.agg (encFPair x).toArray) unitV (some b103) m130, Res.cells b120 #[.int .i64 v7c.1.state, .string (bs v7c.1.out)] 84, Res.rng (fun x => Value.agg (encFPair x).toArray) unitV b1_0 it105 x1 (l118 ++ l119) (some v7c)]
        dsimp only [fst_step_j1] at hh
        refine TC.region ?_
        refine TL.v rfl (OpVal.succ rfl rfl rfl (by omega)) rfl rfl ?_
        refine TL.v rfl (OpVal.moveI (.inl rfl) rfl) rfl rfl ?_
        refine TL.nil ?_
        refine S.n ?_
        obtain ⟨hh, hlt142⟩ := nxt_x hR2 hh
        refine ⟨by repeat (first | exact Agr.refl _ _ | exact Agr.mask | refine Agr.upd rfl ?_ | refine Agr.maskIn rfl ?_ | refine Agr.upds rfl ?_), ((m130, (k128 + 1)), ()), hlt142, hh, by repeat (first | exact trivial | refine ⟨rfl, ?_⟩), Sub.front 2 rfl rfl (Sub.front 2 rfl rfl (Sub.front 2 rfl rfl (Sub.pre 3 rfl))), rfl⟩
    · replace hh := iteO_f h129 hh
      replace h129 := of_decide_eq_false h129
      refine TC.exit ?_
      refine S.x ?_
      refine S.x ?_
      replace hh := fin_x hR2 hh
      refine TC.exitHere ?_
      refine B.n ?_
      refine S.n ?_
      replace hh := nxtA_x hR1 hh
      refine ⟨by repeat (first | exact Agr.refl _ _ | exact Agr.mask | refine Agr.upd rfl ?_ | refine Agr.maskIn rfl ?_ | refine Agr.upds rfl ?_), (m127, ((l118 ++ l119), (some v7c))), (by simp), hh, by repeat (first | exact trivial | refine ⟨rfl, ?_⟩), Sub.front 2 rfl rfl (Sub.front 1 rfl rfl (Sub.pre 2 rfl)), rfl⟩

end Go.Proofs.YtpijipnmfkehcaaGreat
