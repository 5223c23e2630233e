/- Decompiled: what a transducer relates. -/
import Derived.Test.YtpijipnmfkehcaaSets
import Derived.Test.YtpijipnmfkehcaaData2
set_option linter.unusedVariables false
set_option linter.unusedSimpArgs false
namespace Go.Proofs.Ytpijipnmfkehcaa
open Go Go.E
set_option maxRecDepth 100000
private theorem ag22 : Go.E.aggOf Try.prog 22 = some false := by kernel_rfl
private theorem ag23 : Go.E.aggOf Try.prog 23 = some false := by kernel_rfl
private theorem ag25 : Go.E.aggOf Try.prog 25 = some true := by kernel_rfl
private theorem ag4 : Go.E.aggOf Try.prog 4 = some false := by kernel_rfl
private theorem ag41 : Go.E.aggOf Try.prog 41 = some true := by kernel_rfl
private theorem ag57 : Go.E.aggOf Try.prog 57 = some true := by kernel_rfl
private theorem ag9 : Go.E.aggOf Try.prog 9 = some false := by kernel_rfl
private theorem by57 : Go.E.byOf Try.prog 57 = some 24 := by kernel_rfl
private theorem eg57 : Try.prog.eqGuardType Try.prog.depth 57 = false := by kernel_rfl
private theorem es57 (x y : Tip) : Go.E.EqAt Try.prog 2 57 (.agg (Go.E.encTip x).toArray) (.agg (Go.E.encTip y).toArray) (decide (x = y)) :=
  (EqAt.struct (ts := [(false, 3, 0), (false, 9, 1)]) (by kernel_rfl) (by kernel_rfl) (by kernel_rfl) (EqC.one (by kernel_rfl) rfl rfl (EqAt.int Try.underlying3 x.state y.state) (EqC.one (by kernel_rfl) rfl rfl (EqAt.str Try.underlying9 x.out y.out) EqC.nil))).of (by rw [Bool.eq_iff_iff]; cases x; cases y; simp)
private theorem fo25_0 : Go.E.foOf Try.prog 25 0 = some 0 := by kernel_rfl
private theorem fo25_1 : Go.E.foOf Try.prog 25 1 = some 1 := by kernel_rfl
private theorem fo25_2 : Go.E.foOf Try.prog 25 2 = some 2 := by kernel_rfl
private theorem fo25_3 : Go.E.foOf Try.prog 25 3 = some 3 := by kernel_rfl
private theorem fo41_0 : Go.E.foOf Try.prog 41 0 = some 0 := by kernel_rfl
private theorem fo41_1 : Go.E.foOf Try.prog 41 1 = some 1 := by kernel_rfl
private theorem fo41_2 : Go.E.foOf Try.prog 41 2 = some 2 := by kernel_rfl
private theorem fo41_3 : Go.E.foOf Try.prog 41 3 = some 6 := by kernel_rfl
private theorem fo41_4 : Go.E.foOf Try.prog 41 4 = some 7 := by kernel_rfl
private theorem fo57_0 : Go.E.foOf Try.prog 57 0 = some 0 := by kernel_rfl
private theorem fo57_1 : Go.E.foOf Try.prog 57 1 = some 1 := by kernel_rfl
private theorem fo62_0 : Go.E.foOf Try.prog 62 0 = some 0 := by kernel_rfl
private theorem fo62_1 : Go.E.foOf Try.prog 62 1 = some 1 := by kernel_rfl
private theorem es62 (x y : FPair) : Go.E.EqAt Try.prog 2 62 (.agg (Go.E.encFPair x).toArray) (.agg (Go.E.encFPair y).toArray) (decide (x = y)) :=
  (EqAt.struct (ts := [(false, 3, 0), (false, 9, 1)]) (by kernel_rfl) (by kernel_rfl) (by kernel_rfl) (EqC.one (by kernel_rfl) rfl rfl (EqAt.int Try.underlying3 x.state y.state) (EqC.one (by kernel_rfl) rfl rfl (EqAt.str Try.underlying9 x.out y.out) EqC.nil))).of (by rw [Bool.eq_iff_iff]; cases x; cases y; simp)
private theorem kl62 : Go.E.KeyL Try.prog 62 (fun x => Value.agg (Go.E.encFPair x).toArray) :=
  KeyL.struct Try.underlying62 es62 rfl (fun x => CkAt.struct (n := 1) (ts := [(false, 3, 0), (false, 9, 1)]) (by kernel_rfl) (by kernel_rfl) (CkC.one (by kernel_rfl) rfl (CkAt.int Try.underlying3 _) (CkC.one (by kernel_rfl) rfl (CkAt.str Try.underlying9 _) CkC.nil))) rfl encFPair_bits
private theorem pf24 : Go.E.plainF Try.prog 24 = true := by kernel_rfl
private theorem pf25 : Go.E.plainF Try.prog 25 = true := by kernel_rfl
private theorem pf30 : Go.E.plainF Try.prog 30 = true := by kernel_rfl
private theorem pf31 : Go.E.plainF Try.prog 31 = true := by kernel_rfl
private theorem pf38 : Go.E.plainF Try.prog 38 = true := by kernel_rfl
private theorem pf45 : Go.E.plainF Try.prog 45 = true := by kernel_rfl
private theorem pf46 : Go.E.plainF Try.prog 46 = true := by kernel_rfl
private theorem pl57 : Go.E.plOf Try.prog 57 = some #[(0, 1), (1, 1)] := by kernel_rfl
private theorem pl60 : Go.E.plOf Try.prog 60 = some #[] := by kernel_rfl
private theorem pl62 : Go.E.plOf Try.prog 62 = some #[(0, 1), (1, 1)] := by kernel_rfl
private theorem sz23 : Go.E.szOf Try.prog 23 = some 1 := by kernel_rfl
private theorem sz25 : Go.E.szOf Try.prog 25 = some 4 := by kernel_rfl
private theorem sz41 : Go.E.szOf Try.prog 41 = some 8 := by kernel_rfl
private theorem sz57 : Go.E.szOf Try.prog 57 = some 2 := by kernel_rfl
private theorem sz62 : Go.E.szOf Try.prog 62 = some 2 := by kernel_rfl
private theorem ze41 : Go.E.zeroOf Try.prog 41 = some (.agg #[.int .i64 0, .int .i64 0, .int .u64 0, .int .u64 0, .int .u64 0, .int .u64 0, .string ByteArray.empty, .bool false]) := by kernel_rfl
private theorem ze5 : Go.E.zeroOf Try.prog 5 = some (.int .u8 0) := by kernel_rfl
private theorem ze57 : Go.E.zeroOf Try.prog 57 = some (.agg #[.int .i64 0, .string ByteArray.empty]) := by kernel_rfl
private theorem ze60 : Go.E.zeroOf Try.prog 60 = some (.agg #[]) := by kernel_rfl
private theorem ze62 : Go.E.zeroOf Try.prog 62 = some (.agg #[.int .i64 0, .string ByteArray.empty]) := by kernel_rfl

noncomputable def fst_state (x0 : Int) (x1 : Int) : Option (Bool) :=
  iteO (decide (0 ≤ x0)) (some (decide (x0 < x1))) (some false)
theorem fst_state_con {σ : Store} {x0 : Int} {x1 : Int}  {r : Bool} (hh : fst_state x0 x1 = some r) :
    Con Try.prog 31 #[.int .i64 x0, .int .i64 x1] σ [] (PureP (.bool r) σ) := by
  dsimp only [fst_state] at hh
  refine Con.mk (n := 12) Try.func31 rfl rfl rfl (fun w0 => ?_)
  refine TC.seq ?_
  refine TC.region ?_
  refine TL.v rfl (OpVal.moveB (.inr rfl) rfl) rfl rfl ?_
  refine TL.nil ?_
  refine S.n ?_
  refine TC.seq ?_
  refine TC.region ?_
  refine TL.v rfl (OpVal.moveI (.inl rfl) rfl) rfl rfl ?_
  refine TL.v rfl (OpVal.leq rfl rfl rfl) rfl rfl ?_
  refine TL.v rfl (OpVal.moveB (.inl rfl) rfl) rfl rfl ?_
  refine TL.split 7 rfl (fun h101 => ?_) (fun h101 => ?_)
  · replace hh := iteO_t h101 hh
    replace h101 := of_decide_eq_true h101
    refine TL.gv rfl rfl rfl rfl rfl (OpVal.moveI (.inl rfl) rfl) rfl rfl ?_
    refine TL.gv rfl rfl rfl rfl rfl (OpVal.moveI (.inl rfl) rfl) rfl rfl ?_
    refine TL.gv rfl rfl rfl rfl rfl (OpVal.lss rfl rfl rfl) rfl rfl ?_
    refine TL.v rfl (OpVal.pickTB rfl rfl rfl) rfl rfl ?_
    refine TL.v rfl (OpVal.moveB (.inr rfl) rfl) rfl rfl ?_
    refine TL.nil ?_
    refine S.n ?_
    refine TC.ret ?_
    obtain rfl := Option.some.inj hh
    exact RetOk.mk' (rs := [.tmp 4]) [] rfl (.inl rfl) (RVs.tmp rfl RVs.nil) (List.sublist_append_left _ _) ⟨rfl, rfl, rfl⟩
  · replace hh := iteO_f h101 hh
    replace h101 := of_decide_eq_false h101
    refine TL.goff rfl rfl rfl rfl rfl rfl rfl rfl ?_
    refine TL.goff rfl rfl rfl rfl rfl rfl rfl rfl ?_
    refine TL.goff rfl rfl rfl rfl rfl rfl rfl rfl ?_
    refine TL.v rfl (OpVal.pickFB rfl rfl rfl) rfl rfl ?_
    refine TL.v rfl (OpVal.moveB (.inr rfl) rfl) rfl rfl ?_
    refine TL.nil ?_
    refine S.n ?_
    refine TC.ret ?_
    obtain rfl := Option.some.inj hh
    exact RetOk.mk' (rs := [.tmp 4]) [] rfl (.inl rfl) (RVs.tmp rfl RVs.nil) (List.sublist_append_left _ _) ⟨rfl, rfl, rfl⟩

noncomputable def fst_rightTips_b1 (x0 : List Tip) (x1 : Int) (k104 : Nat) : Option ((Nat) ⊕ (Bool)) :=
  iteO (decide (((k104 : Nat) : Int) < ((x0.length : Nat) : Int))) (bnd (fst_state ((nth x0 k104 Tip.zero).state) x1) (fun v17 => iteO (!v17) (fin (some false)) (iteO (decide (1024 < ((((nth x0 k104 Tip.zero).out).length : Nat) : Int))) (fin (some false)) (nxt (k104 + 1))))) (fin (some true))
noncomputable def fst_rightTips (x0 : List Tip) (x1 : Int) : Option (Bool) :=
  iteO (decide (1024 < ((x0.length : Nat) : Int))) (some false) (iter (fun q : Nat => fst_rightTips_b1 x0 x1 q) 0)
theorem fst_rightTips_con {σ : Store} {x0 : List Tip} {a0_0 : Option Addr} {c0_0 : Nat} {x1 : Int} (f0_0 : RS σ 2 encTip (.slice a0_0 x0.length c0_0) x0) {r : Bool} (hh : fst_rightTips x0 x1 = some r) :
    Con Try.prog 30 #[.slice a0_0 x0.length c0_0, .int .i64 x1] σ [] (PureP (.bool r) σ) := by
  dsimp only [fst_rightTips] at hh
  have f0_0b := f0_0.rv.big
  refine Con.mk (n := 28) Try.func30 rfl rfl rfl (fun w0 => ?_)
  refine TC.seq ?_
  refine TC.region ?_
  refine TL.v rfl (OpVal.moveB (.inr rfl) rfl) rfl rfl ?_
  refine TL.nil ?_
  refine S.n ?_
  refine TC.seq ?_
  refine TC.seq ?_
  refine TC.region ?_
  refine TL.v rfl (OpVal.moveSl (.inl rfl) rfl) rfl rfl ?_
  refine TL.v rfl (OpVal.lenC rfl Try.underlying22 rfl) rfl rfl ?_
  refine TL.v rfl (OpVal.gtr rfl rfl rfl) rfl rfl ?_
  refine TL.nil ?_
  refine S.n ?_
  refine TC.cond rfl (fun h101 => ?_) (fun h101 => ?_)
  · replace hh := iteO_t h101 hh
    replace h101 := of_decide_eq_true h101
    refine TC.seq ?_
    refine TC.region ?_
    refine TL.v rfl (OpVal.moveB (.inr rfl) rfl) rfl rfl ?_
    refine TL.nil ?_
    refine S.n ?_
    refine TC.ret ?_
    refine S.r ?_
    obtain rfl := Option.some.inj hh
    exact RetOk.mk' (rs := [.tmp 4]) [] rfl (.inl rfl) (RVs.tmp rfl RVs.nil) (List.sublist_append_left _ _) ⟨rfl, rfl, rfl⟩
  · replace hh := iteO_f h101 hh
    replace h101 := of_decide_eq_false h101
    refine TC.skip ?_
    refine S.n ?_
    refine TC.seq ?_
    refine TC.seq ?_
    refine TC.region ?_
    refine TL.v rfl (OpVal.moveSl (.inl rfl) rfl) rfl rfl ?_
    refine TL.v rfl (OpVal.lenC rfl Try.underlying22 rfl) rfl rfl ?_
    refine TL.v rfl (OpVal.moveI (.inl rfl) rfl) rfl rfl ?_
    refine TL.nil ?_
    refine S.n ?_
    refine TC.block ?_
    refine TC.loopG (α := (Nat) × (Unit)) [4, 6, 12, 13, 14, 15, 16, 17, 18, 19, 20, 21, 22, 23, 24, 25, 26, 27] (fun g => [(12, .int .i64 ((g.1 : Nat) : Int))]) (fun g => []) (fun g => σ) (fun g => iter (fun q : Nat => fst_rightTips_b1 x0 x1 q) g.1 = some r) (fun g => rounds (fun q : Nat => fst_rightTips_b1 x0 x1 q) g.1) (0, ()) (Sub.pre 0 rfl) rfl (by repeat (first | exact trivial | refine ⟨rfl, ?_⟩)) hh (fun g1 j1 hg1 => ?_)
    obtain ⟨k104, _⟩ := g1
    have hh := hg1; clear hg1
    show TC _ _ _ (upds (mask _ j1 _) [(12, .int .i64 ((k104 : Nat) : Int))]) _ []
    obtain ⟨z1, hh, hR1⟩ := iter_e hh
    dsimp only [fst_rightTips_b1] at hh
    refine TC.seq ?_
    refine TC.region ?_
    refine TL.v rfl (OpVal.lss rfl rfl rfl) rfl rfl ?_
    refine TL.nil ?_
    refine S.n ?_
    refine TC.seq ?_
    refine TC.cond rfl (fun h105 => ?_) (fun h105 => ?_)
    · replace hh := iteO_t h105 hh
      replace h105 := of_decide_eq_true h105
      refine TC.skip ?_
      refine S.n ?_
      refine TC.seq ?_
      refine TC.block ?_
      refine TC.seq ?_
      refine TC.region ?_
      refine TL.v rfl (OpVal.indexN rfl Try.underlying22 sz57 rfl rfl f0_0.rv.sl (by omega)) rfl rfl ?_
      refine TL.v rfl (OpVal.loadSA Tip.zero rfl ag57 sz57 rfl f0_0 (by omega) (by omega)) rfl rfl ?_
      refine TL.op rfl (OpOk.alloc rfl ze57 rfl rfl (fun b106 => ?_))
      refine TL.op rfl (OpOk.storeAll rfl sz57 rfl rfl rfl rfl rfl rfl ?_)
      refine TL.nil ?_
      refine S.n ?_
      refine TC.seq ?_
      refine TC.region ?_
      refine TL.v rfl (OpVal.fieldLoc rfl fo57_0 rfl) rfl rfl ?_
      refine TL.v rfl (OpVal.loadLoc rfl ag3 rfl (i := 0) rfl rfl) rfl rfl ?_
      refine TL.v rfl (OpVal.moveI (.inl rfl) rfl) rfl rfl ?_
      obtain ⟨v17, u17, hh⟩ := bnd_e hh
      refine TL.op rfl (OpOk.callP (fst_state_con u17) rfl rfl pf31 rfl rfl rfl ?_)
      refine TL.v rfl (OpVal.not rfl rfl) rfl rfl ?_
      refine TL.v rfl (OpVal.moveB (.inl rfl) rfl) rfl rfl ?_
      refine TL.split 21 rfl (fun h108 => ?_) (fun h108 => ?_)
      · replace hh := iteO_t h108 hh
        refine TL.goff rfl rfl rfl rfl rfl rfl rfl rfl ?_
        refine TL.goff rfl rfl rfl rfl rfl rfl rfl rfl ?_
        refine TL.goff rfl rfl rfl rfl rfl rfl rfl rfl ?_
        refine TL.goff rfl rfl rfl rfl rfl rfl rfl rfl ?_
        refine TL.v rfl (OpVal.pickTB rfl rfl rfl) rfl rfl ?_
        refine TL.nil ?_
        refine S.n ?_
        refine TC.cond rfl (fun _ => ?_) (fun h => Bool.noConfusion h)
        refine TC.seq ?_
        refine TC.region ?_
        refine TL.v rfl (OpVal.moveB (.inr rfl) rfl) rfl rfl ?_
        refine TL.nil ?_
        refine S.n ?_
        refine TC.ofSub (Sub.pre 0 rfl) ?_
        refine TC.ret ?_
        refine B.r ?_
        refine S.r ?_
        refine S.r ?_
        replace hh := fin_x hR1 hh
        refine B.r ?_
        refine S.r ?_
        obtain rfl := Option.some.inj hh
        exact RetOk.mk' (rs := [.tmp 4]) [] rfl (.inl rfl) (RVs.tmp rfl RVs.nil) (List.sublist_append_left _ _) ⟨rfl, rfl, rfl⟩
      · replace hh := iteO_f h108 hh
        refine TL.gv rfl rfl rfl rfl rfl (OpVal.fieldLoc rfl fo57_1 rfl) rfl rfl ?_
        refine TL.gv rfl rfl rfl rfl rfl (OpVal.loadLoc rfl ag9 rfl (i := 0) rfl rfl) rfl rfl ?_
        refine TL.gv rfl rfl rfl rfl rfl (OpVal.lenBs rfl Try.underlying9 rfl) rfl rfl ?_
        refine TL.gv rfl rfl rfl rfl rfl (OpVal.gtr rfl rfl rfl) rfl rfl ?_
        refine TL.v rfl (OpVal.pickFB rfl rfl rfl) rfl rfl ?_
        refine TL.nil ?_
        refine S.n ?_
        refine TC.cond rfl (fun h109 => ?_) (fun h109 => ?_)
        · replace hh := iteO_t h109 hh
          replace h109 := of_decide_eq_true h109
          refine TC.seq ?_
          refine TC.region ?_
          refine TL.v rfl (OpVal.moveB (.inr rfl) rfl) rfl rfl ?_
          refine TL.nil ?_
          refine S.n ?_
          refine TC.ofSub (Sub.pre 0 rfl) ?_
          refine TC.ret ?_
          refine B.r ?_
          refine S.r ?_
          refine S.r ?_
          replace hh := fin_x hR1 hh
          refine B.r ?_
          refine S.r ?_
          obtain rfl := Option.some.inj hh
          exact RetOk.mk' (rs := [.tmp 4]) [] rfl (.inl rfl) (RVs.tmp rfl RVs.nil) (List.sublist_append_left _ _) ⟨rfl, rfl, rfl⟩
        · replace hh := iteO_f h109 hh
          replace h109 := of_decide_eq_false h109
          refine TC.skip ?_
          refine B.n ?_
          refine S.n ?_
          refine TC.region ?_
          refine TL.v rfl (OpVal.succ rfl rfl rfl (by omega)) rfl rfl ?_
          refine TL.v rfl (OpVal.moveI (.inl rfl) rfl) rfl rfl ?_
          refine TL.nil ?_
          refine S.n ?_
          obtain ⟨hh, hlt110⟩ := nxt_x hR1 hh
          refine ⟨by repeat (first | exact Agr.refl _ _ | exact Agr.mask | refine Agr.upd rfl ?_ | refine Agr.maskIn rfl ?_ | refine Agr.upds rfl ?_), ((k104 + 1), ()), hlt110, hh, by repeat (first | exact trivial | refine ⟨rfl, ?_⟩), Sub.pre 0 rfl, rfl⟩
    · replace hh := iteO_f h105 hh
      replace h105 := of_decide_eq_false h105
      refine TC.exit ?_
      refine S.x ?_
      refine S.x ?_
      replace hh := fin_x hR1 hh
      refine TC.exitHere ?_
      refine S.n ?_
      refine TC.seq ?_
      refine TC.region ?_
      refine TL.v rfl (OpVal.moveB (.inr rfl) rfl) rfl rfl ?_
      refine TL.nil ?_
      refine S.n ?_
      refine TC.ret ?_
      obtain rfl := Option.some.inj hh
      exact RetOk.mk' (rs := [.tmp 4]) [] rfl (.inl rfl) (RVs.tmp rfl RVs.nil) (List.sublist_append_left _ _) ⟨rfl, rfl, rfl⟩

noncomputable def fst_Check_b1 (x0 : Fst) (k110 : Nat) : Option ((Nat) ⊕ (Int)) :=
  iteO (decide (((k110 : Nat) : Int) < ((x0.arcs.length : Nat) : Int))) (bnd (fst_state ((nth x0.arcs k110 Arc.zero).frm) x0.states) (fun v46 => iteO (!v46) (fin (some 1)) (bnd (fst_state ((nth x0.arcs k110 Arc.zero).to) x0.states) (fun v53 => iteO (!v53) (fin (some 1)) (iteO (decide ((nth x0.arcs k110 Arc.zero).set = BSet.zero)) (fin (some 1)) (iteO (decide (1024 < ((((nth x0.arcs k110 Arc.zero).out).length : Nat) : Int))) (fin (some 1)) (nxt (k110 + 1)))))))) (fin (some 0))
noncomputable def fst_Check (x0 : Fst) : Option (Int) :=
  iteO (decide (x0.states < 0)) (some 1) (iteO (decide (1024 < x0.states)) (some 1) (iteO (decide (16384 < ((x0.arcs.length : Nat) : Int))) (some 1) (bnd (fst_rightTips x0.starts x0.states) (fun v22 => iteO (!v22) (some 1) (bnd (fst_rightTips x0.ends x0.states) (fun v29 => iteO (!v29) (some 1) (iter (fun q : Nat => fst_Check_b1 x0 q) 0)))))))
theorem fst_Check_con {σ : Store} {x0 : Fst} {a0_0 : Option Addr} {c0_0 : Nat} {a0_1 : Option Addr} {c0_1 : Nat} {a0_2 : Option Addr} {c0_2 : Nat} (f0_0 : RS σ 2 encTip (.slice a0_0 x0.starts.length c0_0) x0.starts) (f0_1 : RS σ 2 encTip (.slice a0_1 x0.ends.length c0_1) x0.ends) (f0_2 : RS σ 8 encArc (.slice a0_2 x0.arcs.length c0_2) x0.arcs) {r : Int} (hh : fst_Check x0 = some r) :
    Con Try.prog 13 #[.agg #[.int .i64 x0.states, .slice a0_0 x0.starts.length c0_0, .slice a0_1 x0.ends.length c0_1, .slice a0_2 x0.arcs.length c0_2]] σ [] (PureP (.int .i64 r) σ) := by
  dsimp only [fst_Check] at hh
  have f0_0b := f0_0.rv.big
  have f0_1b := f0_1.rv.big
  have f0_2b := f0_2.rv.big
  refine Con.mk (n := 67) Try.func13 rfl rfl rfl (fun w0 => ?_)
  refine TC.seq ?_
  refine TC.region ?_
  refine TL.op rfl (OpOk.boxA rfl rfl rfl rfl (fun b101 => ?_))
  refine TL.v rfl (OpVal.moveI (.inr rfl) rfl) rfl rfl ?_
  refine TL.nil ?_
  refine S.n ?_
  refine TC.seq ?_
  refine TC.seq ?_
  refine TC.region ?_
  refine TL.v rfl (OpVal.fieldLoc rfl fo25_0 rfl) rfl rfl ?_
  refine TL.v rfl (OpVal.loadLoc rfl ag3 rfl (i := 0) rfl rfl) rfl rfl ?_
  refine TL.v rfl (OpVal.lss rfl rfl rfl) rfl rfl ?_
  refine TL.v rfl (OpVal.moveB (.inl rfl) rfl) rfl rfl ?_
  refine TL.split 8 rfl (fun h103 => ?_) (fun h103 => ?_)
  · replace hh := iteO_t h103 hh
    replace h103 := of_decide_eq_true h103
    refine TL.goff rfl rfl rfl rfl rfl rfl rfl rfl ?_
    refine TL.goff rfl rfl rfl rfl rfl rfl rfl rfl ?_
    refine TL.goff rfl rfl rfl rfl rfl rfl rfl rfl ?_
    refine TL.v rfl (OpVal.pickTB rfl rfl rfl) rfl rfl ?_
    refine TL.v rfl (OpVal.moveB (.inl rfl) rfl) rfl rfl ?_
    refine TL.goff rfl rfl rfl rfl rfl rfl rfl rfl ?_
    refine TL.goff rfl rfl rfl rfl rfl rfl rfl rfl ?_
    refine TL.goff rfl rfl rfl rfl rfl rfl rfl rfl ?_
    refine TL.goff rfl rfl rfl rfl rfl rfl rfl rfl ?_
    refine TL.v rfl (OpVal.pickTB rfl rfl rfl) rfl rfl ?_
    refine TL.nil ?_
    refine S.n ?_
    refine TC.cond rfl (fun _ => ?_) (fun h => Bool.noConfusion h)
    refine TC.seq ?_
    refine TC.region ?_
    refine TL.v rfl (OpVal.moveI (.inr rfl) rfl) rfl rfl ?_
    refine TL.nil ?_
    refine S.n ?_
    refine TC.ofSub (Sub.pre 0 rfl) ?_
    refine TC.ret ?_
    refine S.r ?_
    obtain rfl := Option.some.inj hh
    exact RetOk.mk' (rs := [.tmp 2]) [] rfl (.inl rfl) (RVs.tmp rfl RVs.nil) (List.sublist_append_left _ _) ⟨rfl, rfl, rfl⟩
  · replace hh := iteO_f h103 hh
    replace h103 := of_decide_eq_false h103
    refine TL.gv rfl rfl rfl rfl rfl (OpVal.fieldLoc rfl fo25_0 rfl) rfl rfl ?_
    refine TL.gv rfl rfl rfl rfl rfl (OpVal.loadLoc rfl ag3 rfl (i := 0) rfl rfl) rfl rfl ?_
    refine TL.gv rfl rfl rfl rfl rfl (OpVal.gtr rfl rfl rfl) rfl rfl ?_
    refine TL.v rfl (OpVal.pickFB rfl rfl rfl) rfl rfl ?_
    refine TL.v rfl (OpVal.moveB (.inl rfl) rfl) rfl rfl ?_
    refine TL.split 13 rfl (fun h104 => ?_) (fun h104 => ?_)
    · replace hh := iteO_t h104 hh
      replace h104 := of_decide_eq_true h104
      refine TL.goff rfl rfl rfl rfl rfl rfl rfl rfl ?_
      refine TL.goff rfl rfl rfl rfl rfl rfl rfl rfl ?_
      refine TL.goff rfl rfl rfl rfl rfl rfl rfl rfl ?_
      refine TL.goff rfl rfl rfl rfl rfl rfl rfl rfl ?_
      refine TL.v rfl (OpVal.pickTB rfl rfl rfl) rfl rfl ?_
      refine TL.nil ?_
      refine S.n ?_
      refine TC.cond rfl (fun _ => ?_) (fun h => Bool.noConfusion h)
      refine TC.seq ?_
      refine TC.region ?_
      refine TL.v rfl (OpVal.moveI (.inr rfl) rfl) rfl rfl ?_
      refine TL.nil ?_
      refine S.n ?_
      refine TC.ofSub (Sub.pre 0 rfl) ?_
      refine TC.ret ?_
      refine S.r ?_
      obtain rfl := Option.some.inj hh
      exact RetOk.mk' (rs := [.tmp 2]) [] rfl (.inl rfl) (RVs.tmp rfl RVs.nil) (List.sublist_append_left _ _) ⟨rfl, rfl, rfl⟩
    · replace hh := iteO_f h104 hh
      replace h104 := of_decide_eq_false h104
      refine TL.gv rfl rfl rfl rfl rfl (OpVal.fieldLoc rfl fo25_3 rfl) rfl rfl ?_
      refine TL.gv rfl rfl rfl rfl rfl (OpVal.loadLoc rfl ag23 rfl (i := 0) rfl rfl) rfl rfl ?_
      refine TL.gv rfl rfl rfl rfl rfl (OpVal.lenC rfl Try.underlying23 rfl) rfl rfl ?_
      refine TL.gv rfl rfl rfl rfl rfl (OpVal.gtr rfl rfl rfl) rfl rfl ?_
      refine TL.v rfl (OpVal.pickFB rfl rfl rfl) rfl rfl ?_
      refine TL.nil ?_
      refine S.n ?_
      refine TC.cond rfl (fun h105 => ?_) (fun h105 => ?_)
      · replace hh := iteO_t h105 hh
        replace h105 := of_decide_eq_true h105
        refine TC.seq ?_
        refine TC.region ?_
        refine TL.v rfl (OpVal.moveI (.inr rfl) rfl) rfl rfl ?_
        refine TL.nil ?_
        refine S.n ?_
        refine TC.ofSub (Sub.pre 0 rfl) ?_
        refine TC.ret ?_
        refine S.r ?_
        obtain rfl := Option.some.inj hh
        exact RetOk.mk' (rs := [.tmp 2]) [] rfl (.inl rfl) (RVs.tmp rfl RVs.nil) (List.sublist_append_left _ _) ⟨rfl, rfl, rfl⟩
      · replace hh := iteO_f h105 hh
        replace h105 := of_decide_eq_false h105
        refine TC.skip ?_
        refine S.n ?_
        refine TC.seq ?_
        refine TC.seq ?_
        refine TC.region ?_
        refine TL.v rfl (OpVal.fieldLoc rfl fo25_1 rfl) rfl rfl ?_
        refine TL.v rfl (OpVal.loadLoc rfl ag22 rfl (i := 0) rfl rfl) rfl rfl ?_
        refine TL.v rfl (OpVal.fieldLoc rfl fo25_0 rfl) rfl rfl ?_
        refine TL.v rfl (OpVal.loadLoc rfl ag3 rfl (i := 0) rfl rfl) rfl rfl ?_
        obtain ⟨v22, u22, hh⟩ := bnd_e hh
        refine TL.op rfl (OpOk.callP (fst_rightTips_con f0_0 u22) rfl rfl pf30 rfl rfl rfl ?_)
        refine TL.v rfl (OpVal.not rfl rfl) rfl rfl ?_
        refine TL.v rfl (OpVal.moveB (.inl rfl) rfl) rfl rfl ?_
        refine TL.split 25 rfl (fun h106 => ?_) (fun h106 => ?_)
        · replace hh := iteO_t h106 hh
          refine TL.goff rfl rfl rfl rfl rfl rfl rfl rfl ?_
          refine TL.goff rfl rfl rfl rfl rfl rfl rfl rfl ?_
          refine TL.goff rfl rfl rfl rfl rfl rfl rfl rfl ?_
          refine TL.goff rfl rfl rfl rfl rfl rfl rfl rfl ?_
          refine TL.goff rfl rfl rfl rfl rfl rfl rfl rfl ?_
          refine TL.goff rfl rfl rfl rfl rfl rfl rfl rfl ?_
          refine TL.v rfl (OpVal.pickTB rfl rfl rfl) rfl rfl ?_
          refine TL.nil ?_
          refine S.n ?_
          refine TC.cond rfl (fun _ => ?_) (fun h => Bool.noConfusion h)
          refine TC.seq ?_
          refine TC.region ?_
          refine TL.v rfl (OpVal.moveI (.inr rfl) rfl) rfl rfl ?_
          refine TL.nil ?_
          refine S.n ?_
          refine TC.ofSub (Sub.pre 0 rfl) ?_
          refine TC.ret ?_
          refine S.r ?_
          obtain rfl := Option.some.inj hh
          exact RetOk.mk' (rs := [.tmp 2]) [] rfl (.inl rfl) (RVs.tmp rfl RVs.nil) (List.sublist_append_left _ _) ⟨rfl, rfl, rfl⟩
        · replace hh := iteO_f h106 hh
          refine TL.gv rfl rfl rfl rfl rfl (OpVal.fieldLoc rfl fo25_2 rfl) rfl rfl ?_
          refine TL.gv rfl rfl rfl rfl rfl (OpVal.loadLoc rfl ag22 rfl (i := 0) rfl rfl) rfl rfl ?_
          refine TL.gv rfl rfl rfl rfl rfl (OpVal.fieldLoc rfl fo25_0 rfl) rfl rfl ?_
          refine TL.gv rfl rfl rfl rfl rfl (OpVal.loadLoc rfl ag3 rfl (i := 0) rfl rfl) rfl rfl ?_
          obtain ⟨v29, u29, hh⟩ := bnd_e hh
          refine TL.gon rfl rfl rfl rfl rfl (OpOk.callP (fst_rightTips_con f0_1 u29) rfl rfl pf30 rfl rfl rfl ?_)
          refine TL.gv rfl rfl rfl rfl rfl (OpVal.not rfl rfl) rfl rfl ?_
          refine TL.v rfl (OpVal.pickFB rfl rfl rfl) rfl rfl ?_
          refine TL.nil ?_
          refine S.n ?_
          refine TC.cond rfl (fun h107 => ?_) (fun h107 => ?_)
          · replace hh := iteO_t h107 hh
            refine TC.seq ?_
            refine TC.region ?_
            refine TL.v rfl (OpVal.moveI (.inr rfl) rfl) rfl rfl ?_
            refine TL.nil ?_
            refine S.n ?_
            refine TC.ofSub (Sub.pre 0 rfl) ?_
            refine TC.ret ?_
            refine S.r ?_
            obtain rfl := Option.some.inj hh
            exact RetOk.mk' (rs := [.tmp 2]) [] rfl (.inl rfl) (RVs.tmp rfl RVs.nil) (List.sublist_append_left _ _) ⟨rfl, rfl, rfl⟩
          · replace hh := iteO_f h107 hh
            refine TC.skip ?_
            refine S.n ?_
            refine TC.seq ?_
            refine TC.seq ?_
            refine TC.region ?_
            refine TL.v rfl (OpVal.fieldLoc rfl fo25_3 rfl) rfl rfl ?_
            refine TL.v rfl (OpVal.loadLoc rfl ag23 rfl (i := 0) rfl rfl) rfl rfl ?_
            refine TL.v rfl (OpVal.lenC rfl Try.underlying23 rfl) rfl rfl ?_
            refine TL.v rfl (OpVal.moveI (.inl rfl) rfl) rfl rfl ?_
            refine TL.nil ?_
            refine S.n ?_
            refine TC.block ?_
            refine TC.loopG (α := (Nat) × (Unit)) [2, 4, 36, 37, 38, 39, 40, 41, 42, 43, 44, 45, 46, 47, 48, 49, 50, 51, 52, 53, 54, 55, 56, 57, 58, 59, 60, 61, 62, 63, 64, 65, 66] (fun g => [(36, .int .i64 ((g.1 : Nat) : Int))]) (fun g => [Res.cells b101 #[.int .i64 x0.states, .slice a0_0 x0.starts.length c0_0, .slice a0_1 x0.ends.length c0_1, .slice a0_2 x0.arcs.length c0_2] 25]) (fun g => σ) (fun g => iter (fun q : Nat => fst_Check_b1 x0 q) g.1 = some r) (fun g => rounds (fun q : Nat => fst_Check_b1 x0 q) g.1) (0, ()) (Sub.pre 1 rfl) rfl (by repeat (first | exact trivial | refine ⟨rfl, ?_⟩)) hh (fun g1 j1 hg1 => ?_)
            obtain ⟨k110, _⟩ := g1
            have hh := hg1; clear hg1
            show TC _ _ _ (upds (mask _ j1 _) [(36, .int .i64 ((k110 : Nat) : Int))]) _ [Res.cells b101 #[.int .i64 x0.states, .slice a0_0 x0.starts.length c0_0, .slice a0_1 x0.ends.length c0_1, .slice a0_2 x0.arcs.length c0_2] 25]
            obtain ⟨z1, hh, hR1⟩ := iter_e hh
            dsimp only [fst_Check_b1] at hh
            refine TC.seq ?_
            refine TC.region ?_
            refine TL.v rfl (OpVal.lss rfl rfl rfl) rfl rfl ?_
            refine TL.nil ?_
            refine S.n ?_
            refine TC.seq ?_
            refine TC.cond rfl (fun h111 => ?_) (fun h111 => ?_)
            · replace hh := iteO_t h111 hh
              replace h111 := of_decide_eq_true h111
              refine TC.skip ?_
              refine S.n ?_
              refine TC.seq ?_
              refine TC.block ?_
              refine TC.seq ?_
              refine TC.region ?_
              refine TL.v rfl (OpVal.indexN rfl Try.underlying23 sz41 rfl rfl f0_2.rv.sl (by omega)) rfl rfl ?_
              refine TL.v rfl (OpVal.loadSA Arc.zero rfl ag41 sz41 rfl f0_2 (by omega) (by omega)) rfl rfl ?_
              refine TL.op rfl (OpOk.alloc rfl ze41 rfl rfl (fun b112 => ?_))
              refine TL.op rfl (OpOk.storeAll rfl sz41 rfl rfl rfl rfl rfl rfl ?_)
              refine TL.nil ?_
              refine S.n ?_
              refine TC.seq ?_
              refine TC.region ?_
              refine TL.v rfl (OpVal.fieldLoc rfl fo41_0 rfl) rfl rfl ?_
              refine TL.v rfl (OpVal.loadLoc rfl ag3 rfl (i := 0) rfl rfl) rfl rfl ?_
              refine TL.v rfl (OpVal.fieldLoc rfl fo25_0 rfl) rfl rfl ?_
              refine TL.v rfl (OpVal.loadLoc rfl ag3 rfl (i := 1) rfl rfl) rfl rfl ?_
              obtain ⟨v46, u46, hh⟩ := bnd_e hh
              refine TL.op rfl (OpOk.callP (fst_state_con u46) rfl rfl pf31 rfl rfl rfl ?_)
              refine TL.v rfl (OpVal.not rfl rfl) rfl rfl ?_
              refine TL.v rfl (OpVal.moveB (.inl rfl) rfl) rfl rfl ?_
              refine TL.split 46 rfl (fun h114 => ?_) (fun h114 => ?_)
              · replace hh := iteO_t h114 hh
                refine TL.goff rfl rfl rfl rfl rfl rfl rfl rfl ?_
                refine TL.goff rfl rfl rfl rfl rfl rfl rfl rfl ?_
                refine TL.goff rfl rfl rfl rfl rfl rfl rfl rfl ?_
                refine TL.goff rfl rfl rfl rfl rfl rfl rfl rfl ?_
                refine TL.goff rfl rfl rfl rfl rfl rfl rfl rfl ?_
                refine TL.goff rfl rfl rfl rfl rfl rfl rfl rfl ?_
                refine TL.v rfl (OpVal.pickTB rfl rfl rfl) rfl rfl ?_
                refine TL.v rfl (OpVal.moveB (.inl rfl) rfl) rfl rfl ?_
                refine TL.goff rfl rfl rfl rfl rfl rfl rfl rfl ?_
                refine TL.goff rfl rfl rfl rfl rfl rfl rfl rfl ?_
                refine TL.goff rfl rfl rfl rfl rfl rfl rfl rfl ?_
                refine TL.goff rfl rfl rfl rfl rfl rfl rfl rfl ?_
                refine TL.v rfl (OpVal.pickTB rfl rfl rfl) rfl rfl ?_
                refine TL.v rfl (OpVal.moveB (.inl rfl) rfl) rfl rfl ?_
                refine TL.goff rfl rfl rfl rfl rfl rfl rfl rfl ?_
                refine TL.goff rfl rfl rfl rfl rfl rfl rfl rfl ?_
                refine TL.goff rfl rfl rfl rfl rfl rfl rfl rfl ?_
                refine TL.goff rfl rfl rfl rfl rfl rfl rfl rfl ?_
                refine TL.v rfl (OpVal.pickTB rfl rfl rfl) rfl rfl ?_
                refine TL.nil ?_
                refine S.n ?_
                refine TC.cond rfl (fun _ => ?_) (fun h => Bool.noConfusion h)
                refine TC.seq ?_
                refine TC.region ?_
                refine TL.v rfl (OpVal.moveI (.inr rfl) rfl) rfl rfl ?_
                refine TL.nil ?_
                refine S.n ?_
                refine TC.ofSub (Sub.pre 0 rfl) ?_
                refine TC.ret ?_
                refine B.r ?_
                refine S.r ?_
                refine S.r ?_
                replace hh := fin_x hR1 hh
                refine B.r ?_
                refine S.r ?_
                obtain rfl := Option.some.inj hh
                exact RetOk.mk' (rs := [.tmp 2]) [] rfl (.inl rfl) (RVs.tmp rfl RVs.nil) (List.sublist_append_left _ _) ⟨rfl, rfl, rfl⟩
              · replace hh := iteO_f h114 hh
                refine TL.gv rfl rfl rfl rfl rfl (OpVal.fieldLoc rfl fo41_1 rfl) rfl rfl ?_
                refine TL.gv rfl rfl rfl rfl rfl (OpVal.loadLoc rfl ag3 rfl (i := 0) rfl rfl) rfl rfl ?_
                refine TL.gv rfl rfl rfl rfl rfl (OpVal.fieldLoc rfl fo25_0 rfl) rfl rfl ?_
                refine TL.gv rfl rfl rfl rfl rfl (OpVal.loadLoc rfl ag3 rfl (i := 1) rfl rfl) rfl rfl ?_
                obtain ⟨v53, u53, hh⟩ := bnd_e hh
                refine TL.gon rfl rfl rfl rfl rfl (OpOk.callP (fst_state_con u53) rfl rfl pf31 rfl rfl rfl ?_)
                refine TL.gv rfl rfl rfl rfl rfl (OpVal.not rfl rfl) rfl rfl ?_
                refine TL.v rfl (OpVal.pickFB rfl rfl rfl) rfl rfl ?_
                refine TL.v rfl (OpVal.moveB (.inl rfl) rfl) rfl rfl ?_
                refine TL.split 54 rfl (fun h115 => ?_) (fun h115 => ?_)
                · replace hh := iteO_t h115 hh
                  refine TL.goff rfl rfl rfl rfl rfl rfl rfl rfl ?_
                  refine TL.goff rfl rfl rfl rfl rfl rfl rfl rfl ?_
                  refine TL.goff rfl rfl rfl rfl rfl rfl rfl rfl ?_
                  refine TL.goff rfl rfl rfl rfl rfl rfl rfl rfl ?_
                  refine TL.v rfl (OpVal.pickTB rfl rfl rfl) rfl rfl ?_
                  refine TL.v rfl (OpVal.moveB (.inl rfl) rfl) rfl rfl ?_
                  refine TL.goff rfl rfl rfl rfl rfl rfl rfl rfl ?_
                  refine TL.goff rfl rfl rfl rfl rfl rfl rfl rfl ?_
                  refine TL.goff rfl rfl rfl rfl rfl rfl rfl rfl ?_
                  refine TL.goff rfl rfl rfl rfl rfl rfl rfl rfl ?_
                  refine TL.v rfl (OpVal.pickTB rfl rfl rfl) rfl rfl ?_
                  refine TL.nil ?_
                  refine S.n ?_
                  refine TC.cond rfl (fun _ => ?_) (fun h => Bool.noConfusion h)
                  refine TC.seq ?_
                  refine TC.region ?_
                  refine TL.v rfl (OpVal.moveI (.inr rfl) rfl) rfl rfl ?_
                  refine TL.nil ?_
                  refine S.n ?_
                  refine TC.ofSub (Sub.pre 0 rfl) ?_
                  refine TC.ret ?_
                  refine B.r ?_
                  refine S.r ?_
                  refine S.r ?_
                  replace hh := fin_x hR1 hh
                  refine B.r ?_
                  refine S.r ?_
                  obtain rfl := Option.some.inj hh
                  exact RetOk.mk' (rs := [.tmp 2]) [] rfl (.inl rfl) (RVs.tmp rfl RVs.nil) (List.sublist_append_left _ _) ⟨rfl, rfl, rfl⟩
                · replace hh := iteO_f h115 hh
                  refine TL.gv rfl rfl rfl rfl rfl (OpVal.fieldLoc rfl fo41_2 rfl) rfl rfl ?_
                  refine TL.gv rfl rfl rfl rfl rfl (OpVal.loadLocA rfl ag39 sz39 rfl (i := 0) rfl rfl rfl) rfl rfl ?_
                  refine TL.gv rfl rfl rfl rfl rfl (OpVal.buildArrL rfl Try.underlying39 sz37 ze39 rfl) rfl rfl ?_
                  refine TL.gv rfl rfl rfl rfl rfl (OpVal.eqlSet (s := (nth x0.arcs k110 Arc.zero).set) (t := BSet.zero) rfl Try.underlying39 Try.underlying37 ag37 sz37 eg39 rfl rfl) rfl rfl ?_
                  refine TL.v rfl (OpVal.pickFB rfl rfl rfl) rfl rfl ?_
                  refine TL.v rfl (OpVal.moveB (.inl rfl) rfl) rfl rfl ?_
                  refine TL.split 60 rfl (fun h116 => ?_) (fun h116 => ?_)
                  · replace hh := iteO_t h116 hh
                    replace h116 := of_decide_eq_true h116
                    refine TL.goff rfl rfl rfl rfl rfl rfl rfl rfl ?_
                    refine TL.goff rfl rfl rfl rfl rfl rfl rfl rfl ?_
                    refine TL.goff rfl rfl rfl rfl rfl rfl rfl rfl ?_
                    refine TL.goff rfl rfl rfl rfl rfl rfl rfl rfl ?_
                    refine TL.v rfl (OpVal.pickTB rfl rfl rfl) rfl rfl ?_
                    refine TL.nil ?_
                    refine S.n ?_
                    refine TC.cond rfl (fun _ => ?_) (fun h => Bool.noConfusion h)
                    refine TC.seq ?_
                    refine TC.region ?_
                    refine TL.v rfl (OpVal.moveI (.inr rfl) rfl) rfl rfl ?_
                    refine TL.nil ?_
                    refine S.n ?_
                    refine TC.ofSub (Sub.pre 0 rfl) ?_
                    refine TC.ret ?_
                    refine B.r ?_
                    refine S.r ?_
                    refine S.r ?_
                    replace hh := fin_x hR1 hh
                    refine B.r ?_
                    refine S.r ?_
                    obtain rfl := Option.some.inj hh
                    exact RetOk.mk' (rs := [.tmp 2]) [] rfl (.inl rfl) (RVs.tmp rfl RVs.nil) (List.sublist_append_left _ _) ⟨rfl, rfl, rfl⟩
                  · replace hh := iteO_f h116 hh
                    replace h116 := of_decide_eq_false h116
                    refine TL.gv rfl rfl rfl rfl rfl (OpVal.fieldLoc rfl fo41_3 rfl) rfl rfl ?_
                    refine TL.gv rfl rfl rfl rfl rfl (OpVal.loadLoc rfl ag9 rfl (i := 0) rfl rfl) rfl rfl ?_
                    refine TL.gv rfl rfl rfl rfl rfl (OpVal.lenBs rfl Try.underlying9 rfl) rfl rfl ?_
                    refine TL.gv rfl rfl rfl rfl rfl (OpVal.gtr rfl rfl rfl) rfl rfl ?_
                    refine TL.v rfl (OpVal.pickFB rfl rfl rfl) rfl rfl ?_
                    refine TL.nil ?_
                    refine S.n ?_
                    refine TC.cond rfl (fun h117 => ?_) (fun h117 => ?_)
                    · replace hh := iteO_t h117 hh
                      replace h117 := of_decide_eq_true h117
                      refine TC.seq ?_
                      refine TC.region ?_
                      refine TL.v rfl (OpVal.moveI (.inr rfl) rfl) rfl rfl ?_
                      refine TL.nil ?_
                      refine S.n ?_
                      refine TC.ofSub (Sub.pre 0 rfl) ?_
                      refine TC.ret ?_
                      refine B.r ?_
                      refine S.r ?_
                      refine S.r ?_
                      replace hh := fin_x hR1 hh
                      refine B.r ?_
                      refine S.r ?_
                      obtain rfl := Option.some.inj hh
                      exact RetOk.mk' (rs := [.tmp 2]) [] rfl (.inl rfl) (RVs.tmp rfl RVs.nil) (List.sublist_append_left _ _) ⟨rfl, rfl, rfl⟩
                    · replace hh := iteO_f h117 hh
                      replace h117 := of_decide_eq_false h117
                      refine TC.skip ?_
                      refine B.n ?_
                      refine S.n ?_
                      refine TC.region ?_
                      refine TL.v rfl (OpVal.succ rfl rfl rfl (by omega)) rfl rfl ?_
                      refine TL.v rfl (OpVal.moveI (.inl rfl) rfl) rfl rfl ?_
                      refine TL.nil ?_
                      refine S.n ?_
                      obtain ⟨hh, hlt118⟩ := nxt_x hR1 hh
                      refine ⟨by repeat (first | exact Agr.refl _ _ | exact Agr.mask | refine Agr.upd rfl ?_ | refine Agr.maskIn rfl ?_ | refine Agr.upds rfl ?_), ((k110 + 1), ()), hlt118, hh, by repeat (first | exact trivial | refine ⟨rfl, ?_⟩), Sub.front 1 rfl rfl (Sub.pre 1 rfl), rfl⟩
            · replace hh := iteO_f h111 hh
              replace h111 := of_decide_eq_false h111
              refine TC.exit ?_
              refine S.x ?_
              refine S.x ?_
              replace hh := fin_x hR1 hh
              refine TC.exitHere ?_
              refine S.n ?_
              refine TC.seq ?_
              refine TC.region ?_
              refine TL.v rfl (OpVal.moveI (.inr rfl) rfl) rfl rfl ?_
              refine TL.nil ?_
              refine S.n ?_
              refine TC.ofSub (Sub.pre 0 rfl) ?_
              refine TC.ret ?_
              obtain rfl := Option.some.inj hh
              exact RetOk.mk' (rs := [.tmp 2]) [] rfl (.inl rfl) (RVs.tmp rfl RVs.nil) (List.sublist_append_left _ _) ⟨rfl, rfl, rfl⟩

noncomputable def whittleref15_tips_b1 (x0 : List Tip) (x1 : Int) (k103 : Nat) : Option ((Nat) ⊕ (Bool)) :=
  iteO (decide (((k103 : Nat) : Int) < ((x0.length : Nat) : Int))) (iteO (decide (((nth x0 k103 Tip.zero).state) < 0)) (fin (some false)) (iteO (decide (x1 ≤ ((nth x0 k103 Tip.zero).state))) (fin (some false)) (iteO (decide (1024 < ((((nth x0 k103 Tip.zero).out).length : Nat) : Int))) (fin (some false)) (nxt (k103 + 1))))) (fin (some (decide (((x0.length : Nat) : Int) ≤ 1024))))
noncomputable def whittleref15_tips (x0 : List Tip) (x1 : Int) : Option (Bool) :=
  iter (fun q : Nat => whittleref15_tips_b1 x0 x1 q) 0
theorem whittleref15_tips_con {σ : Store} {x0 : List Tip} {a0_0 : Option Addr} {c0_0 : Nat} {x1 : Int} (f0_0 : RS σ 2 encTip (.slice a0_0 x0.length c0_0) x0) {r : Bool} (hh : whittleref15_tips x0 x1 = some r) :
    Con Try.prog 45 #[.slice a0_0 x0.length c0_0, .int .i64 x1] σ [] (PureP (.bool r) σ) := by
  dsimp only [whittleref15_tips] at hh
  have f0_0b := f0_0.rv.big
  refine Con.mk (n := 39) Try.func45 rfl rfl rfl (fun w0 => ?_)
  refine TC.seq ?_
  refine TC.region ?_
  refine TL.v rfl (OpVal.moveB (.inr rfl) rfl) rfl rfl ?_
  refine TL.nil ?_
  refine S.n ?_
  refine TC.seq ?_
  refine TC.seq ?_
  refine TC.region ?_
  refine TL.v rfl (OpVal.moveI (.inr rfl) rfl) rfl rfl ?_
  refine TL.nil ?_
  refine S.n ?_
  refine TC.block ?_
  refine TC.loopG (α := (Nat) × (Unit)) [4, 5, 6, 7, 8, 9, 10, 11, 12, 13, 14, 15, 16, 17, 18, 19, 20, 21, 22, 23, 24, 25, 26, 27, 28, 29, 30, 31, 32, 33, 34, 35] (fun g => [(5, .int .i64 ((g.1 : Nat) : Int))]) (fun g => []) (fun g => σ) (fun g => iter (fun q : Nat => whittleref15_tips_b1 x0 x1 q) g.1 = some r) (fun g => rounds (fun q : Nat => whittleref15_tips_b1 x0 x1 q) g.1) (0, ()) (Sub.pre 0 rfl) rfl (by repeat (first | exact trivial | refine ⟨rfl, ?_⟩)) hh (fun g1 j1 hg1 => ?_)
  obtain ⟨k103, _⟩ := g1
  have hh := hg1; clear hg1
  show TC _ _ _ (upds (mask _ j1 _) [(5, .int .i64 ((k103 : Nat) : Int))]) _ []
  obtain ⟨z1, hh, hR1⟩ := iter_e hh
  dsimp only [whittleref15_tips_b1] at hh
  refine TC.seq ?_
  refine TC.seq ?_
  refine TC.region ?_
  refine TL.v rfl (OpVal.moveI (.inl rfl) rfl) rfl rfl ?_
  refine TL.v rfl (OpVal.moveSl (.inl rfl) rfl) rfl rfl ?_
  refine TL.v rfl (OpVal.lenC rfl Try.underlying22 rfl) rfl rfl ?_
  refine TL.v rfl (OpVal.lss rfl rfl rfl) rfl rfl ?_
  refine TL.nil ?_
  refine S.n ?_
  refine TC.cond rfl (fun h104 => ?_) (fun h104 => ?_)
  · replace hh := iteO_t h104 hh
    replace h104 := of_decide_eq_true h104
    refine TC.skip ?_
    refine S.n ?_
    refine TC.seq ?_
    refine TC.block ?_
    refine TC.seq ?_
    refine TC.region ?_
    refine TL.v rfl (OpVal.moveSl (.inl rfl) rfl) rfl rfl ?_
    refine TL.v rfl (OpVal.moveI (.inl rfl) rfl) rfl rfl ?_
    refine TL.v rfl (OpVal.indexN rfl Try.underlying22 sz57 rfl rfl f0_0.rv.sl (by omega)) rfl rfl ?_
    refine TL.v rfl (OpVal.fieldElem rfl fo57_0 rfl f0_0.rv.sl (by omega)) rfl rfl ?_
    refine TL.v rfl (OpVal.loadS Tip.zero rfl ag3 rfl f0_0 (by omega) (by omega) rfl) rfl rfl ?_
    refine TL.v rfl (OpVal.lss rfl rfl rfl) rfl rfl ?_
    refine TL.v rfl (OpVal.moveB (.inl rfl) rfl) rfl rfl ?_
    refine TL.split 18 rfl (fun h105 => ?_) (fun h105 => ?_)
    · replace hh := iteO_t h105 hh
      replace h105 := of_decide_eq_true h105
      refine TL.goff rfl rfl rfl rfl rfl rfl rfl rfl ?_
      refine TL.goff rfl rfl rfl rfl rfl rfl rfl rfl ?_
      refine TL.goff rfl rfl rfl rfl rfl rfl rfl rfl ?_
      refine TL.goff rfl rfl rfl rfl rfl rfl rfl rfl ?_
      refine TL.goff rfl rfl rfl rfl rfl rfl rfl rfl ?_
      refine TL.goff rfl rfl rfl rfl rfl rfl rfl rfl ?_
      refine TL.goff rfl rfl rfl rfl rfl rfl rfl rfl ?_
      refine TL.v rfl (OpVal.pickTB rfl rfl rfl) rfl rfl ?_
      refine TL.v rfl (OpVal.moveB (.inl rfl) rfl) rfl rfl ?_
      refine TL.goff rfl rfl rfl rfl rfl rfl rfl rfl ?_
      refine TL.goff rfl rfl rfl rfl rfl rfl rfl rfl ?_
      refine TL.goff rfl rfl rfl rfl rfl rfl rfl rfl ?_
      refine TL.goff rfl rfl rfl rfl rfl rfl rfl rfl ?_
      refine TL.goff rfl rfl rfl rfl rfl rfl rfl rfl ?_
      refine TL.goff rfl rfl rfl rfl rfl rfl rfl rfl ?_
      refine TL.goff rfl rfl rfl rfl rfl rfl rfl rfl ?_
      refine TL.v rfl (OpVal.pickTB rfl rfl rfl) rfl rfl ?_
      refine TL.nil ?_
      refine S.n ?_
      refine TC.cond rfl (fun _ => ?_) (fun h => Bool.noConfusion h)
      refine TC.seq ?_
      refine TC.region ?_
      refine TL.v rfl (OpVal.moveB (.inr rfl) rfl) rfl rfl ?_
      refine TL.nil ?_
      refine S.n ?_
      refine TC.ret ?_
      refine B.r ?_
      refine S.r ?_
      refine S.r ?_
      replace hh := fin_x hR1 hh
      refine B.r ?_
      refine S.r ?_
      obtain rfl := Option.some.inj hh
      exact RetOk.mk' (rs := [.tmp 4]) [] rfl (.inl rfl) (RVs.tmp rfl RVs.nil) (List.sublist_append_left _ _) ⟨rfl, rfl, rfl⟩
    · replace hh := iteO_f h105 hh
      replace h105 := of_decide_eq_false h105
      refine TL.gv rfl rfl rfl rfl rfl (OpVal.moveSl (.inl rfl) rfl) rfl rfl ?_
      refine TL.gv rfl rfl rfl rfl rfl (OpVal.moveI (.inl rfl) rfl) rfl rfl ?_
      refine TL.gv rfl rfl rfl rfl rfl (OpVal.indexN rfl Try.underlying22 sz57 rfl rfl f0_0.rv.sl (by omega)) rfl rfl ?_
      refine TL.gv rfl rfl rfl rfl rfl (OpVal.fieldElem rfl fo57_0 rfl f0_0.rv.sl (by omega)) rfl rfl ?_
      refine TL.gv rfl rfl rfl rfl rfl (OpVal.loadS Tip.zero rfl ag3 rfl f0_0 (by omega) (by omega) rfl) rfl rfl ?_
      refine TL.gv rfl rfl rfl rfl rfl (OpVal.moveI (.inl rfl) rfl) rfl rfl ?_
      refine TL.gv rfl rfl rfl rfl rfl (OpVal.geq rfl rfl rfl) rfl rfl ?_
      refine TL.v rfl (OpVal.pickFB rfl rfl rfl) rfl rfl ?_
      refine TL.v rfl (OpVal.moveB (.inl rfl) rfl) rfl rfl ?_
      refine TL.split 27 rfl (fun h106 => ?_) (fun h106 => ?_)
      · replace hh := iteO_t h106 hh
        replace h106 := of_decide_eq_true h106
        refine TL.goff rfl rfl rfl rfl rfl rfl rfl rfl ?_
        refine TL.goff rfl rfl rfl rfl rfl rfl rfl rfl ?_
        refine TL.goff rfl rfl rfl rfl rfl rfl rfl rfl ?_
        refine TL.goff rfl rfl rfl rfl rfl rfl rfl rfl ?_
        refine TL.goff rfl rfl rfl rfl rfl rfl rfl rfl ?_
        refine TL.goff rfl rfl rfl rfl rfl rfl rfl rfl ?_
        refine TL.goff rfl rfl rfl rfl rfl rfl rfl rfl ?_
        refine TL.v rfl (OpVal.pickTB rfl rfl rfl) rfl rfl ?_
        refine TL.nil ?_
        refine S.n ?_
        refine TC.cond rfl (fun _ => ?_) (fun h => Bool.noConfusion h)
        refine TC.seq ?_
        refine TC.region ?_
        refine TL.v rfl (OpVal.moveB (.inr rfl) rfl) rfl rfl ?_
        refine TL.nil ?_
        refine S.n ?_
        refine TC.ret ?_
        refine B.r ?_
        refine S.r ?_
        refine S.r ?_
        replace hh := fin_x hR1 hh
        refine B.r ?_
        refine S.r ?_
        obtain rfl := Option.some.inj hh
        exact RetOk.mk' (rs := [.tmp 4]) [] rfl (.inl rfl) (RVs.tmp rfl RVs.nil) (List.sublist_append_left _ _) ⟨rfl, rfl, rfl⟩
      · replace hh := iteO_f h106 hh
        replace h106 := of_decide_eq_false h106
        refine TL.gv rfl rfl rfl rfl rfl (OpVal.moveSl (.inl rfl) rfl) rfl rfl ?_
        refine TL.gv rfl rfl rfl rfl rfl (OpVal.moveI (.inl rfl) rfl) rfl rfl ?_
        refine TL.gv rfl rfl rfl rfl rfl (OpVal.indexN rfl Try.underlying22 sz57 rfl rfl f0_0.rv.sl (by omega)) rfl rfl ?_
        refine TL.gv rfl rfl rfl rfl rfl (OpVal.fieldElem rfl fo57_1 rfl f0_0.rv.sl (by omega)) rfl rfl ?_
        refine TL.gv rfl rfl rfl rfl rfl (OpVal.loadS Tip.zero rfl ag9 rfl f0_0 (by omega) (by omega) rfl) rfl rfl ?_
        refine TL.gv rfl rfl rfl rfl rfl (OpVal.lenBs rfl Try.underlying9 rfl) rfl rfl ?_
        refine TL.gv rfl rfl rfl rfl rfl (OpVal.gtr rfl rfl rfl) rfl rfl ?_
        refine TL.v rfl (OpVal.pickFB rfl rfl rfl) rfl rfl ?_
        refine TL.nil ?_
        refine S.n ?_
        refine TC.cond rfl (fun h107 => ?_) (fun h107 => ?_)
        · replace hh := iteO_t h107 hh
          replace h107 := of_decide_eq_true h107
          refine TC.seq ?_
          refine TC.region ?_
          refine TL.v rfl (OpVal.moveB (.inr rfl) rfl) rfl rfl ?_
          refine TL.nil ?_
          refine S.n ?_
          refine TC.ret ?_
          refine B.r ?_
          refine S.r ?_
          refine S.r ?_
          replace hh := fin_x hR1 hh
          refine B.r ?_
          refine S.r ?_
          obtain rfl := Option.some.inj hh
          exact RetOk.mk' (rs := [.tmp 4]) [] rfl (.inl rfl) (RVs.tmp rfl RVs.nil) (List.sublist_append_left _ _) ⟨rfl, rfl, rfl⟩
        · replace hh := iteO_f h107 hh
          replace h107 := of_decide_eq_false h107
          refine TC.skip ?_
          refine B.n ?_
          refine S.n ?_
          refine TC.region ?_
          refine TL.v rfl (OpVal.moveI (.inl rfl) rfl) rfl rfl ?_
          refine TL.v rfl (OpVal.succ rfl rfl rfl (by omega)) rfl rfl ?_
          refine TL.v rfl (OpVal.moveI (.inr rfl) rfl) rfl rfl ?_
          refine TL.nil ?_
          refine S.n ?_
          obtain ⟨hh, hlt108⟩ := nxt_x hR1 hh
          refine ⟨by repeat (first | exact Agr.refl _ _ | exact Agr.mask | refine Agr.upd rfl ?_ | refine Agr.maskIn rfl ?_ | refine Agr.upds rfl ?_), ((k103 + 1), ()), hlt108, hh, by repeat (first | exact trivial | refine ⟨rfl, ?_⟩), Sub.pre 0 rfl, rfl⟩
  · replace hh := iteO_f h104 hh
    replace h104 := of_decide_eq_false h104
    refine TC.exit ?_
    refine S.x ?_
    refine S.x ?_
    replace hh := fin_x hR1 hh
    refine TC.exitHere ?_
    refine S.n ?_
    refine TC.seq ?_
    refine TC.region ?_
    refine TL.v rfl (OpVal.moveSl (.inl rfl) rfl) rfl rfl ?_
    refine TL.v rfl (OpVal.lenC rfl Try.underlying22 rfl) rfl rfl ?_
    refine TL.v rfl (OpVal.leq rfl rfl rfl) rfl rfl ?_
    refine TL.v rfl (OpVal.moveB (.inr rfl) rfl) rfl rfl ?_
    refine TL.nil ?_
    refine S.n ?_
    refine TC.ret ?_
    obtain rfl := Option.some.inj hh
    exact RetOk.mk' (rs := [.tmp 4]) [] rfl (.inl rfl) (RVs.tmp rfl RVs.nil) (List.sublist_append_left _ _) ⟨rfl, rfl, rfl⟩

noncomputable def whittleref15_Right_b1 (x0 : Fst) (k110 : Nat) : Option ((Nat) ⊕ (Bool)) :=
  iteO (decide (((k110 : Nat) : Int) < ((x0.arcs.length : Nat) : Int))) (iteO (decide (((nth x0.arcs k110 Arc.zero).frm) < 0)) (fin (some false)) (iteO (decide (x0.states ≤ ((nth x0.arcs k110 Arc.zero).frm))) (fin (some false)) (iteO (decide (((nth x0.arcs k110 Arc.zero).to) < 0)) (fin (some false)) (iteO (decide (x0.states ≤ ((nth x0.arcs k110 Arc.zero).to))) (fin (some false)) (iteO (decide ((nth x0.arcs k110 Arc.zero).set = BSet.zero)) (fin (some false)) (iteO (decide (1024 < ((((nth x0.arcs k110 Arc.zero).out).length : Nat) : Int))) (fin (some false)) (nxt (k110 + 1)))))))) (fin (some true))
noncomputable def whittleref15_Right (x0 : Fst) : Option (Bool) :=
  iteO (decide (x0.states < 0)) (some false) (iteO (decide (1024 < x0.states)) (some false) (bnd (whittleref15_tips x0.starts x0.states) (fun v16 => iteO (!v16) (some false) (bnd (whittleref15_tips x0.ends x0.states) (fun v24 => iteO (!v24) (some false) (iteO (decide (16384 < ((x0.arcs.length : Nat) : Int))) (some false) (iter (fun q : Nat => whittleref15_Right_b1 x0 q) 0)))))))
theorem whittleref15_Right_con {σ : Store} {x0 : Fst} {a0_0 : Option Addr} {c0_0 : Nat} {a0_1 : Option Addr} {c0_1 : Nat} {a0_2 : Option Addr} {c0_2 : Nat} (f0_0 : RS σ 2 encTip (.slice a0_0 x0.starts.length c0_0) x0.starts) (f0_1 : RS σ 2 encTip (.slice a0_1 x0.ends.length c0_1) x0.ends) (f0_2 : RS σ 8 encArc (.slice a0_2 x0.arcs.length c0_2) x0.arcs) {r : Bool} (hh : whittleref15_Right x0 = some r) :
    Con Try.prog 24 #[.agg #[.int .i64 x0.states, .slice a0_0 x0.starts.length c0_0, .slice a0_1 x0.ends.length c0_1, .slice a0_2 x0.arcs.length c0_2]] σ [] (PureP (.bool r) σ) := by
  dsimp only [whittleref15_Right] at hh
  have f0_0b := f0_0.rv.big
  have f0_1b := f0_1.rv.big
  have f0_2b := f0_2.rv.big
  refine Con.mk (n := 81) Try.func24 rfl rfl rfl (fun w0 => ?_)
  refine TC.seq ?_
  refine TC.region ?_
  refine TL.op rfl (OpOk.boxA rfl rfl rfl rfl (fun b101 => ?_))
  refine TL.v rfl (OpVal.moveB (.inr rfl) rfl) rfl rfl ?_
  refine TL.nil ?_
  refine S.n ?_
  refine TC.seq ?_
  refine TC.seq ?_
  refine TC.region ?_
  refine TL.v rfl (OpVal.fieldLoc rfl fo25_0 rfl) rfl rfl ?_
  refine TL.v rfl (OpVal.loadLoc rfl ag3 rfl (i := 0) rfl rfl) rfl rfl ?_
  refine TL.v rfl (OpVal.lss rfl rfl rfl) rfl rfl ?_
  refine TL.v rfl (OpVal.moveB (.inl rfl) rfl) rfl rfl ?_
  refine TL.split 8 rfl (fun h103 => ?_) (fun h103 => ?_)
  · replace hh := iteO_t h103 hh
    replace h103 := of_decide_eq_true h103
    refine TL.goff rfl rfl rfl rfl rfl rfl rfl rfl ?_
    refine TL.goff rfl rfl rfl rfl rfl rfl rfl rfl ?_
    refine TL.goff rfl rfl rfl rfl rfl rfl rfl rfl ?_
    refine TL.v rfl (OpVal.pickTB rfl rfl rfl) rfl rfl ?_
    refine TL.v rfl (OpVal.moveB (.inl rfl) rfl) rfl rfl ?_
    refine TL.goff rfl rfl rfl rfl rfl rfl rfl rfl ?_
    refine TL.goff rfl rfl rfl rfl rfl rfl rfl rfl ?_
    refine TL.goff rfl rfl rfl rfl rfl rfl rfl rfl ?_
    refine TL.goff rfl rfl rfl rfl rfl rfl rfl rfl ?_
    refine TL.goff rfl rfl rfl rfl rfl rfl rfl rfl ?_
    refine TL.goff rfl rfl rfl rfl rfl rfl rfl rfl ?_
    refine TL.v rfl (OpVal.pickTB rfl rfl rfl) rfl rfl ?_
    refine TL.v rfl (OpVal.moveB (.inl rfl) rfl) rfl rfl ?_
    refine TL.goff rfl rfl rfl rfl rfl rfl rfl rfl ?_
    refine TL.goff rfl rfl rfl rfl rfl rfl rfl rfl ?_
    refine TL.goff rfl rfl rfl rfl rfl rfl rfl rfl ?_
    refine TL.goff rfl rfl rfl rfl rfl rfl rfl rfl ?_
    refine TL.goff rfl rfl rfl rfl rfl rfl rfl rfl ?_
    refine TL.goff rfl rfl rfl rfl rfl rfl rfl rfl ?_
    refine TL.v rfl (OpVal.pickTB rfl rfl rfl) rfl rfl ?_
    refine TL.v rfl (OpVal.moveB (.inl rfl) rfl) rfl rfl ?_
    refine TL.goff rfl rfl rfl rfl rfl rfl rfl rfl ?_
    refine TL.goff rfl rfl rfl rfl rfl rfl rfl rfl ?_
    refine TL.goff rfl rfl rfl rfl rfl rfl rfl rfl ?_
    refine TL.goff rfl rfl rfl rfl rfl rfl rfl rfl ?_
    refine TL.v rfl (OpVal.pickTB rfl rfl rfl) rfl rfl ?_
    refine TL.nil ?_
    refine S.n ?_
    refine TC.cond rfl (fun _ => ?_) (fun h => Bool.noConfusion h)
    refine TC.seq ?_
    refine TC.region ?_
    refine TL.v rfl (OpVal.moveB (.inr rfl) rfl) rfl rfl ?_
    refine TL.nil ?_
    refine S.n ?_
    refine TC.ofSub (Sub.pre 0 rfl) ?_
    refine TC.ret ?_
    refine S.r ?_
    obtain rfl := Option.some.inj hh
    exact RetOk.mk' (rs := [.tmp 2]) [] rfl (.inl rfl) (RVs.tmp rfl RVs.nil) (List.sublist_append_left _ _) ⟨rfl, rfl, rfl⟩
  · replace hh := iteO_f h103 hh
    replace h103 := of_decide_eq_false h103
    refine TL.gv rfl rfl rfl rfl rfl (OpVal.fieldLoc rfl fo25_0 rfl) rfl rfl ?_
    refine TL.gv rfl rfl rfl rfl rfl (OpVal.loadLoc rfl ag3 rfl (i := 0) rfl rfl) rfl rfl ?_
    refine TL.gv rfl rfl rfl rfl rfl (OpVal.gtr rfl rfl rfl) rfl rfl ?_
    refine TL.v rfl (OpVal.pickFB rfl rfl rfl) rfl rfl ?_
    refine TL.v rfl (OpVal.moveB (.inl rfl) rfl) rfl rfl ?_
    refine TL.split 13 rfl (fun h104 => ?_) (fun h104 => ?_)
    · replace hh := iteO_t h104 hh
      replace h104 := of_decide_eq_true h104
      refine TL.goff rfl rfl rfl rfl rfl rfl rfl rfl ?_
      refine TL.goff rfl rfl rfl rfl rfl rfl rfl rfl ?_
      refine TL.goff rfl rfl rfl rfl rfl rfl rfl rfl ?_
      refine TL.goff rfl rfl rfl rfl rfl rfl rfl rfl ?_
      refine TL.goff rfl rfl rfl rfl rfl rfl rfl rfl ?_
      refine TL.goff rfl rfl rfl rfl rfl rfl rfl rfl ?_
      refine TL.v rfl (OpVal.pickTB rfl rfl rfl) rfl rfl ?_
      refine TL.v rfl (OpVal.moveB (.inl rfl) rfl) rfl rfl ?_
      refine TL.goff rfl rfl rfl rfl rfl rfl rfl rfl ?_
      refine TL.goff rfl rfl rfl rfl rfl rfl rfl rfl ?_
      refine TL.goff rfl rfl rfl rfl rfl rfl rfl rfl ?_
      refine TL.goff rfl rfl rfl rfl rfl rfl rfl rfl ?_
      refine TL.goff rfl rfl rfl rfl rfl rfl rfl rfl ?_
      refine TL.goff rfl rfl rfl rfl rfl rfl rfl rfl ?_
      refine TL.v rfl (OpVal.pickTB rfl rfl rfl) rfl rfl ?_
      refine TL.v rfl (OpVal.moveB (.inl rfl) rfl) rfl rfl ?_
      refine TL.goff rfl rfl rfl rfl rfl rfl rfl rfl ?_
      refine TL.goff rfl rfl rfl rfl rfl rfl rfl rfl ?_
      refine TL.goff rfl rfl rfl rfl rfl rfl rfl rfl ?_
      refine TL.goff rfl rfl rfl rfl rfl rfl rfl rfl ?_
      refine TL.v rfl (OpVal.pickTB rfl rfl rfl) rfl rfl ?_
      refine TL.nil ?_
      refine S.n ?_
      refine TC.cond rfl (fun _ => ?_) (fun h => Bool.noConfusion h)
      refine TC.seq ?_
      refine TC.region ?_
      refine TL.v rfl (OpVal.moveB (.inr rfl) rfl) rfl rfl ?_
      refine TL.nil ?_
      refine S.n ?_
      refine TC.ofSub (Sub.pre 0 rfl) ?_
      refine TC.ret ?_
      refine S.r ?_
      obtain rfl := Option.some.inj hh
      exact RetOk.mk' (rs := [.tmp 2]) [] rfl (.inl rfl) (RVs.tmp rfl RVs.nil) (List.sublist_append_left _ _) ⟨rfl, rfl, rfl⟩
    · replace hh := iteO_f h104 hh
      replace h104 := of_decide_eq_false h104
      refine TL.gv rfl rfl rfl rfl rfl (OpVal.fieldLoc rfl fo25_1 rfl) rfl rfl ?_
      refine TL.gv rfl rfl rfl rfl rfl (OpVal.loadLoc rfl ag22 rfl (i := 0) rfl rfl) rfl rfl ?_
      refine TL.gv rfl rfl rfl rfl rfl (OpVal.fieldLoc rfl fo25_0 rfl) rfl rfl ?_
      refine TL.gv rfl rfl rfl rfl rfl (OpVal.loadLoc rfl ag3 rfl (i := 0) rfl rfl) rfl rfl ?_
      obtain ⟨v16, u16, hh⟩ := bnd_e hh
      refine TL.gon rfl rfl rfl rfl rfl (OpOk.callP (whittleref15_tips_con f0_0 u16) rfl rfl pf45 rfl rfl rfl ?_)
      refine TL.gv rfl rfl rfl rfl rfl (OpVal.not rfl rfl) rfl rfl ?_
      refine TL.v rfl (OpVal.pickFB rfl rfl rfl) rfl rfl ?_
      refine TL.v rfl (OpVal.moveB (.inl rfl) rfl) rfl rfl ?_
      refine TL.split 21 rfl (fun h105 => ?_) (fun h105 => ?_)
      · replace hh := iteO_t h105 hh
        refine TL.goff rfl rfl rfl rfl rfl rfl rfl rfl ?_
        refine TL.goff rfl rfl rfl rfl rfl rfl rfl rfl ?_
        refine TL.goff rfl rfl rfl rfl rfl rfl rfl rfl ?_
        refine TL.goff rfl rfl rfl rfl rfl rfl rfl rfl ?_
        refine TL.goff rfl rfl rfl rfl rfl rfl rfl rfl ?_
        refine TL.goff rfl rfl rfl rfl rfl rfl rfl rfl ?_
        refine TL.v rfl (OpVal.pickTB rfl rfl rfl) rfl rfl ?_
        refine TL.v rfl (OpVal.moveB (.inl rfl) rfl) rfl rfl ?_
        refine TL.goff rfl rfl rfl rfl rfl rfl rfl rfl ?_
        refine TL.goff rfl rfl rfl rfl rfl rfl rfl rfl ?_
        refine TL.goff rfl rfl rfl rfl rfl rfl rfl rfl ?_
        refine TL.goff rfl rfl rfl rfl rfl rfl rfl rfl ?_
        refine TL.v rfl (OpVal.pickTB rfl rfl rfl) rfl rfl ?_
        refine TL.nil ?_
        refine S.n ?_
        refine TC.cond rfl (fun _ => ?_) (fun h => Bool.noConfusion h)
        refine TC.seq ?_
        refine TC.region ?_
        refine TL.v rfl (OpVal.moveB (.inr rfl) rfl) rfl rfl ?_
        refine TL.nil ?_
        refine S.n ?_
        refine TC.ofSub (Sub.pre 0 rfl) ?_
        refine TC.ret ?_
        refine S.r ?_
        obtain rfl := Option.some.inj hh
        exact RetOk.mk' (rs := [.tmp 2]) [] rfl (.inl rfl) (RVs.tmp rfl RVs.nil) (List.sublist_append_left _ _) ⟨rfl, rfl, rfl⟩
      · replace hh := iteO_f h105 hh
        refine TL.gv rfl rfl rfl rfl rfl (OpVal.fieldLoc rfl fo25_2 rfl) rfl rfl ?_
        refine TL.gv rfl rfl rfl rfl rfl (OpVal.loadLoc rfl ag22 rfl (i := 0) rfl rfl) rfl rfl ?_
        refine TL.gv rfl rfl rfl rfl rfl (OpVal.fieldLoc rfl fo25_0 rfl) rfl rfl ?_
        refine TL.gv rfl rfl rfl rfl rfl (OpVal.loadLoc rfl ag3 rfl (i := 0) rfl rfl) rfl rfl ?_
        obtain ⟨v24, u24, hh⟩ := bnd_e hh
        refine TL.gon rfl rfl rfl rfl rfl (OpOk.callP (whittleref15_tips_con f0_1 u24) rfl rfl pf45 rfl rfl rfl ?_)
        refine TL.gv rfl rfl rfl rfl rfl (OpVal.not rfl rfl) rfl rfl ?_
        refine TL.v rfl (OpVal.pickFB rfl rfl rfl) rfl rfl ?_
        refine TL.v rfl (OpVal.moveB (.inl rfl) rfl) rfl rfl ?_
        refine TL.split 29 rfl (fun h106 => ?_) (fun h106 => ?_)
        · replace hh := iteO_t h106 hh
          refine TL.goff rfl rfl rfl rfl rfl rfl rfl rfl ?_
          refine TL.goff rfl rfl rfl rfl rfl rfl rfl rfl ?_
          refine TL.goff rfl rfl rfl rfl rfl rfl rfl rfl ?_
          refine TL.goff rfl rfl rfl rfl rfl rfl rfl rfl ?_
          refine TL.v rfl (OpVal.pickTB rfl rfl rfl) rfl rfl ?_
          refine TL.nil ?_
          refine S.n ?_
          refine TC.cond rfl (fun _ => ?_) (fun h => Bool.noConfusion h)
          refine TC.seq ?_
          refine TC.region ?_
          refine TL.v rfl (OpVal.moveB (.inr rfl) rfl) rfl rfl ?_
          refine TL.nil ?_
          refine S.n ?_
          refine TC.ofSub (Sub.pre 0 rfl) ?_
          refine TC.ret ?_
          refine S.r ?_
          obtain rfl := Option.some.inj hh
          exact RetOk.mk' (rs := [.tmp 2]) [] rfl (.inl rfl) (RVs.tmp rfl RVs.nil) (List.sublist_append_left _ _) ⟨rfl, rfl, rfl⟩
        · replace hh := iteO_f h106 hh
          refine TL.gv rfl rfl rfl rfl rfl (OpVal.fieldLoc rfl fo25_3 rfl) rfl rfl ?_
          refine TL.gv rfl rfl rfl rfl rfl (OpVal.loadLoc rfl ag23 rfl (i := 0) rfl rfl) rfl rfl ?_
          refine TL.gv rfl rfl rfl rfl rfl (OpVal.lenC rfl Try.underlying23 rfl) rfl rfl ?_
          refine TL.gv rfl rfl rfl rfl rfl (OpVal.gtr rfl rfl rfl) rfl rfl ?_
          refine TL.v rfl (OpVal.pickFB rfl rfl rfl) rfl rfl ?_
          refine TL.nil ?_
          refine S.n ?_
          refine TC.cond rfl (fun h107 => ?_) (fun h107 => ?_)
          · replace hh := iteO_t h107 hh
            replace h107 := of_decide_eq_true h107
            refine TC.seq ?_
            refine TC.region ?_
            refine TL.v rfl (OpVal.moveB (.inr rfl) rfl) rfl rfl ?_
            refine TL.nil ?_
            refine S.n ?_
            refine TC.ofSub (Sub.pre 0 rfl) ?_
            refine TC.ret ?_
            refine S.r ?_
            obtain rfl := Option.some.inj hh
            exact RetOk.mk' (rs := [.tmp 2]) [] rfl (.inl rfl) (RVs.tmp rfl RVs.nil) (List.sublist_append_left _ _) ⟨rfl, rfl, rfl⟩
          · replace hh := iteO_f h107 hh
            replace h107 := of_decide_eq_false h107
            refine TC.skip ?_
            refine S.n ?_
            refine TC.seq ?_
            refine TC.seq ?_
            refine TC.region ?_
            refine TL.v rfl (OpVal.moveI (.inr rfl) rfl) rfl rfl ?_
            refine TL.nil ?_
            refine S.n ?_
            refine TC.block ?_
            refine TC.loopG (α := (Nat) × (Unit)) [2, 3, 4, 35, 36, 37, 38, 39, 40, 41, 42, 43, 44, 45, 46, 47, 48, 49, 50, 51, 52, 53, 54, 55, 56, 57, 58, 59, 60, 61, 62, 63, 64, 65, 66, 67, 68, 69, 70, 71, 72, 73, 74, 75, 76, 77, 78, 79, 80] (fun g => [(3, .int .i64 ((g.1 : Nat) : Int))]) (fun g => [Res.cells b101 #[.int .i64 x0.states, .slice a0_0 x0.starts.length c0_0, .slice a0_1 x0.ends.length c0_1, .slice a0_2 x0.arcs.length c0_2] 25]) (fun g => σ) (fun g => iter (fun q : Nat => whittleref15_Right_b1 x0 q) g.1 = some r) (fun g => rounds (fun q : Nat => whittleref15_Right_b1 x0 q) g.1) (0, ()) (Sub.pre 1 rfl) rfl (by repeat (first | exact trivial | refine ⟨rfl, ?_⟩)) hh (fun g1 j1 hg1 => ?_)
            obtain ⟨k110, _⟩ := g1
            have hh := hg1; clear hg1
            show TC _ _ _ (upds (mask _ j1 _) [(3, .int .i64 ((k110 : Nat) : Int))]) _ [Res.cells b101 #[.int .i64 x0.states, .slice a0_0 x0.starts.length c0_0, .slice a0_1 x0.ends.length c0_1, .slice a0_2 x0.arcs.length c0_2] 25]
            obtain ⟨z1, hh, hR1⟩ := iter_e hh
            dsimp only [whittleref15_Right_b1] at hh
            refine TC.seq ?_
            refine TC.seq ?_
            refine TC.region ?_
            refine TL.v rfl (OpVal.moveI (.inl rfl) rfl) rfl rfl ?_
            refine TL.v rfl (OpVal.fieldLoc rfl fo25_3 rfl) rfl rfl ?_
            refine TL.v rfl (OpVal.loadLoc rfl ag23 rfl (i := 0) rfl rfl) rfl rfl ?_
            refine TL.v rfl (OpVal.lenC rfl Try.underlying23 rfl) rfl rfl ?_
            refine TL.v rfl (OpVal.lss rfl rfl rfl) rfl rfl ?_
            refine TL.nil ?_
            refine S.n ?_
            refine TC.cond rfl (fun h111 => ?_) (fun h111 => ?_)
            · replace hh := iteO_t h111 hh
              replace h111 := of_decide_eq_true h111
              refine TC.skip ?_
              refine S.n ?_
              refine TC.seq ?_
              refine TC.block ?_
              refine TC.seq ?_
              refine TC.region ?_
              refine TL.v rfl (OpVal.fieldLoc rfl fo25_3 rfl) rfl rfl ?_
              refine TL.v rfl (OpVal.loadLoc rfl ag23 rfl (i := 0) rfl rfl) rfl rfl ?_
              refine TL.v rfl (OpVal.moveI (.inl rfl) rfl) rfl rfl ?_
              refine TL.v rfl (OpVal.indexN rfl Try.underlying23 sz41 rfl rfl f0_2.rv.sl (by omega)) rfl rfl ?_
              refine TL.v rfl (OpVal.loadSA Arc.zero rfl ag41 sz41 rfl f0_2 (by omega) (by omega)) rfl rfl ?_
              refine TL.op rfl (OpOk.alloc rfl ze41 rfl rfl (fun b112 => ?_))
              refine TL.op rfl (OpOk.storeAll rfl sz41 rfl rfl rfl rfl rfl rfl ?_)
              refine TL.nil ?_
              refine S.n ?_
              refine TC.seq ?_
              refine TC.region ?_
              refine TL.v rfl (OpVal.fieldLoc rfl fo41_0 rfl) rfl rfl ?_
              refine TL.v rfl (OpVal.loadLoc rfl ag3 rfl (i := 0) rfl rfl) rfl rfl ?_
              refine TL.v rfl (OpVal.lss rfl rfl rfl) rfl rfl ?_
              refine TL.v rfl (OpVal.moveB (.inl rfl) rfl) rfl rfl ?_
              refine TL.split 50 rfl (fun h114 => ?_) (fun h114 => ?_)
              · replace hh := iteO_t h114 hh
                replace h114 := of_decide_eq_true h114
                refine TL.goff rfl rfl rfl rfl rfl rfl rfl rfl ?_
                refine TL.goff rfl rfl rfl rfl rfl rfl rfl rfl ?_
                refine TL.goff rfl rfl rfl rfl rfl rfl rfl rfl ?_
                refine TL.goff rfl rfl rfl rfl rfl rfl rfl rfl ?_
                refine TL.goff rfl rfl rfl rfl rfl rfl rfl rfl ?_
                refine TL.v rfl (OpVal.pickTB rfl rfl rfl) rfl rfl ?_
                refine TL.v rfl (OpVal.moveB (.inl rfl) rfl) rfl rfl ?_
                refine TL.goff rfl rfl rfl rfl rfl rfl rfl rfl ?_
                refine TL.goff rfl rfl rfl rfl rfl rfl rfl rfl ?_
                refine TL.goff rfl rfl rfl rfl rfl rfl rfl rfl ?_
                refine TL.v rfl (OpVal.pickTB rfl rfl rfl) rfl rfl ?_
                refine TL.v rfl (OpVal.moveB (.inl rfl) rfl) rfl rfl ?_
                refine TL.goff rfl rfl rfl rfl rfl rfl rfl rfl ?_
                refine TL.goff rfl rfl rfl rfl rfl rfl rfl rfl ?_
                refine TL.goff rfl rfl rfl rfl rfl rfl rfl rfl ?_
                refine TL.goff rfl rfl rfl rfl rfl rfl rfl rfl ?_
                refine TL.goff rfl rfl rfl rfl rfl rfl rfl rfl ?_
                refine TL.v rfl (OpVal.pickTB rfl rfl rfl) rfl rfl ?_
                refine TL.v rfl (OpVal.moveB (.inl rfl) rfl) rfl rfl ?_
                refine TL.goff rfl rfl rfl rfl rfl rfl rfl rfl ?_
                refine TL.goff rfl rfl rfl rfl rfl rfl rfl rfl ?_
                refine TL.goff rfl rfl rfl rfl rfl rfl rfl rfl ?_
                refine TL.goff rfl rfl rfl rfl rfl rfl rfl rfl ?_
                refine TL.v rfl (OpVal.pickTB rfl rfl rfl) rfl rfl ?_
                refine TL.v rfl (OpVal.moveB (.inl rfl) rfl) rfl rfl ?_
                refine TL.goff rfl rfl rfl rfl rfl rfl rfl rfl ?_
                refine TL.goff rfl rfl rfl rfl rfl rfl rfl rfl ?_
                refine TL.goff rfl rfl rfl rfl rfl rfl rfl rfl ?_
                refine TL.goff rfl rfl rfl rfl rfl rfl rfl rfl ?_
                refine TL.v rfl (OpVal.pickTB rfl rfl rfl) rfl rfl ?_
                refine TL.nil ?_
                refine S.n ?_
                refine TC.cond rfl (fun _ => ?_) (fun h => Bool.noConfusion h)
                refine TC.seq ?_
                refine TC.region ?_
                refine TL.v rfl (OpVal.moveB (.inr rfl) rfl) rfl rfl ?_
                refine TL.nil ?_
                refine S.n ?_
                refine TC.ofSub (Sub.pre 0 rfl) ?_
                refine TC.ret ?_
                refine B.r ?_
                refine S.r ?_
                refine S.r ?_
                replace hh := fin_x hR1 hh
                refine B.r ?_
                refine S.r ?_
                obtain rfl := Option.some.inj hh
                exact RetOk.mk' (rs := [.tmp 2]) [] rfl (.inl rfl) (RVs.tmp rfl RVs.nil) (List.sublist_append_left _ _) ⟨rfl, rfl, rfl⟩
              · replace hh := iteO_f h114 hh
                replace h114 := of_decide_eq_false h114
                refine TL.gv rfl rfl rfl rfl rfl (OpVal.fieldLoc rfl fo41_0 rfl) rfl rfl ?_
                refine TL.gv rfl rfl rfl rfl rfl (OpVal.loadLoc rfl ag3 rfl (i := 0) rfl rfl) rfl rfl ?_
                refine TL.gv rfl rfl rfl rfl rfl (OpVal.fieldLoc rfl fo25_0 rfl) rfl rfl ?_
                refine TL.gv rfl rfl rfl rfl rfl (OpVal.loadLoc rfl ag3 rfl (i := 1) rfl rfl) rfl rfl ?_
                refine TL.gv rfl rfl rfl rfl rfl (OpVal.geq rfl rfl rfl) rfl rfl ?_
                refine TL.v rfl (OpVal.pickFB rfl rfl rfl) rfl rfl ?_
                refine TL.v rfl (OpVal.moveB (.inl rfl) rfl) rfl rfl ?_
                refine TL.split 57 rfl (fun h115 => ?_) (fun h115 => ?_)
                · replace hh := iteO_t h115 hh
                  replace h115 := of_decide_eq_true h115
                  refine TL.goff rfl rfl rfl rfl rfl rfl rfl rfl ?_
                  refine TL.goff rfl rfl rfl rfl rfl rfl rfl rfl ?_
                  refine TL.goff rfl rfl rfl rfl rfl rfl rfl rfl ?_
                  refine TL.v rfl (OpVal.pickTB rfl rfl rfl) rfl rfl ?_
                  refine TL.v rfl (OpVal.moveB (.inl rfl) rfl) rfl rfl ?_
                  refine TL.goff rfl rfl rfl rfl rfl rfl rfl rfl ?_
                  refine TL.goff rfl rfl rfl rfl rfl rfl rfl rfl ?_
                  refine TL.goff rfl rfl rfl rfl rfl rfl rfl rfl ?_
                  refine TL.goff rfl rfl rfl rfl rfl rfl rfl rfl ?_
                  refine TL.goff rfl rfl rfl rfl rfl rfl rfl rfl ?_
                  refine TL.v rfl (OpVal.pickTB rfl rfl rfl) rfl rfl ?_
                  refine TL.v rfl (OpVal.moveB (.inl rfl) rfl) rfl rfl ?_
                  refine TL.goff rfl rfl rfl rfl rfl rfl rfl rfl ?_
                  refine TL.goff rfl rfl rfl rfl rfl rfl rfl rfl ?_
                  refine TL.goff rfl rfl rfl rfl rfl rfl rfl rfl ?_
                  refine TL.goff rfl rfl rfl rfl rfl rfl rfl rfl ?_
                  refine TL.v rfl (OpVal.pickTB rfl rfl rfl) rfl rfl ?_
                  refine TL.v rfl (OpVal.moveB (.inl rfl) rfl) rfl rfl ?_
                  refine TL.goff rfl rfl rfl rfl rfl rfl rfl rfl ?_
                  refine TL.goff rfl rfl rfl rfl rfl rfl rfl rfl ?_
                  refine TL.goff rfl rfl rfl rfl rfl rfl rfl rfl ?_
                  refine TL.goff rfl rfl rfl rfl rfl rfl rfl rfl ?_
                  refine TL.v rfl (OpVal.pickTB rfl rfl rfl) rfl rfl ?_
                  refine TL.nil ?_
                  refine S.n ?_
                  refine TC.cond rfl (fun _ => ?_) (fun h => Bool.noConfusion h)
                  refine TC.seq ?_
                  refine TC.region ?_
                  refine TL.v rfl (OpVal.moveB (.inr rfl) rfl) rfl rfl ?_
                  refine TL.nil ?_
                  refine S.n ?_
                  refine TC.ofSub (Sub.pre 0 rfl) ?_
                  refine TC.ret ?_
                  refine B.r ?_
                  refine S.r ?_
                  refine S.r ?_
                  replace hh := fin_x hR1 hh
                  refine B.r ?_
                  refine S.r ?_
                  obtain rfl := Option.some.inj hh
                  exact RetOk.mk' (rs := [.tmp 2]) [] rfl (.inl rfl) (RVs.tmp rfl RVs.nil) (List.sublist_append_left _ _) ⟨rfl, rfl, rfl⟩
                · replace hh := iteO_f h115 hh
                  replace h115 := of_decide_eq_false h115
                  refine TL.gv rfl rfl rfl rfl rfl (OpVal.fieldLoc rfl fo41_1 rfl) rfl rfl ?_
                  refine TL.gv rfl rfl rfl rfl rfl (OpVal.loadLoc rfl ag3 rfl (i := 0) rfl rfl) rfl rfl ?_
                  refine TL.gv rfl rfl rfl rfl rfl (OpVal.lss rfl rfl rfl) rfl rfl ?_
                  refine TL.v rfl (OpVal.pickFB rfl rfl rfl) rfl rfl ?_
                  refine TL.v rfl (OpVal.moveB (.inl rfl) rfl) rfl rfl ?_
                  refine TL.split 62 rfl (fun h116 => ?_) (fun h116 => ?_)
                  · replace hh := iteO_t h116 hh
                    replace h116 := of_decide_eq_true h116
                    refine TL.goff rfl rfl rfl rfl rfl rfl rfl rfl ?_
                    refine TL.goff rfl rfl rfl rfl rfl rfl rfl rfl ?_
                    refine TL.goff rfl rfl rfl rfl rfl rfl rfl rfl ?_
                    refine TL.goff rfl rfl rfl rfl rfl rfl rfl rfl ?_
                    refine TL.goff rfl rfl rfl rfl rfl rfl rfl rfl ?_
                    refine TL.v rfl (OpVal.pickTB rfl rfl rfl) rfl rfl ?_
                    refine TL.v rfl (OpVal.moveB (.inl rfl) rfl) rfl rfl ?_
                    refine TL.goff rfl rfl rfl rfl rfl rfl rfl rfl ?_
                    refine TL.goff rfl rfl rfl rfl rfl rfl rfl rfl ?_
                    refine TL.goff rfl rfl rfl rfl rfl rfl rfl rfl ?_
                    refine TL.goff rfl rfl rfl rfl rfl rfl rfl rfl ?_
                    refine TL.v rfl (OpVal.pickTB rfl rfl rfl) rfl rfl ?_
                    refine TL.v rfl (OpVal.moveB (.inl rfl) rfl) rfl rfl ?_
                    refine TL.goff rfl rfl rfl rfl rfl rfl rfl rfl ?_
                    refine TL.goff rfl rfl rfl rfl rfl rfl rfl rfl ?_
                    refine TL.goff rfl rfl rfl rfl rfl rfl rfl rfl ?_
                    refine TL.goff rfl rfl rfl rfl rfl rfl rfl rfl ?_
                    refine TL.v rfl (OpVal.pickTB rfl rfl rfl) rfl rfl ?_
                    refine TL.nil ?_
                    refine S.n ?_
                    refine TC.cond rfl (fun _ => ?_) (fun h => Bool.noConfusion h)
                    refine TC.seq ?_
                    refine TC.region ?_
                    refine TL.v rfl (OpVal.moveB (.inr rfl) rfl) rfl rfl ?_
                    refine TL.nil ?_
                    refine S.n ?_
                    refine TC.ofSub (Sub.pre 0 rfl) ?_
                    refine TC.ret ?_
                    refine B.r ?_
                    refine S.r ?_
                    refine S.r ?_
                    replace hh := fin_x hR1 hh
                    refine B.r ?_
                    refine S.r ?_
                    obtain rfl := Option.some.inj hh
                    exact RetOk.mk' (rs := [.tmp 2]) [] rfl (.inl rfl) (RVs.tmp rfl RVs.nil) (List.sublist_append_left _ _) ⟨rfl, rfl, rfl⟩
                  · replace hh := iteO_f h116 hh
                    replace h116 := of_decide_eq_false h116
                    refine TL.gv rfl rfl rfl rfl rfl (OpVal.fieldLoc rfl fo41_1 rfl) rfl rfl ?_
                    refine TL.gv rfl rfl rfl rfl rfl (OpVal.loadLoc rfl ag3 rfl (i := 0) rfl rfl) rfl rfl ?_
                    refine TL.gv rfl rfl rfl rfl rfl (OpVal.fieldLoc rfl fo25_0 rfl) rfl rfl ?_
                    refine TL.gv rfl rfl rfl rfl rfl (OpVal.loadLoc rfl ag3 rfl (i := 1) rfl rfl) rfl rfl ?_
                    refine TL.gv rfl rfl rfl rfl rfl (OpVal.geq rfl rfl rfl) rfl rfl ?_
                    refine TL.v rfl (OpVal.pickFB rfl rfl rfl) rfl rfl ?_
                    refine TL.v rfl (OpVal.moveB (.inl rfl) rfl) rfl rfl ?_
                    refine TL.split 69 rfl (fun h117 => ?_) (fun h117 => ?_)
                    · replace hh := iteO_t h117 hh
                      replace h117 := of_decide_eq_true h117
                      refine TL.goff rfl rfl rfl rfl rfl rfl rfl rfl ?_
                      refine TL.goff rfl rfl rfl rfl rfl rfl rfl rfl ?_
                      refine TL.goff rfl rfl rfl rfl rfl rfl rfl rfl ?_
                      refine TL.goff rfl rfl rfl rfl rfl rfl rfl rfl ?_
                      refine TL.v rfl (OpVal.pickTB rfl rfl rfl) rfl rfl ?_
                      refine TL.v rfl (OpVal.moveB (.inl rfl) rfl) rfl rfl ?_
                      refine TL.goff rfl rfl rfl rfl rfl rfl rfl rfl ?_
                      refine TL.goff rfl rfl rfl rfl rfl rfl rfl rfl ?_
                      refine TL.goff rfl rfl rfl rfl rfl rfl rfl rfl ?_
                      refine TL.goff rfl rfl rfl rfl rfl rfl rfl rfl ?_
                      refine TL.v rfl (OpVal.pickTB rfl rfl rfl) rfl rfl ?_
                      refine TL.nil ?_
                      refine S.n ?_
                      refine TC.cond rfl (fun _ => ?_) (fun h => Bool.noConfusion h)
                      refine TC.seq ?_
                      refine TC.region ?_
                      refine TL.v rfl (OpVal.moveB (.inr rfl) rfl) rfl rfl ?_
                      refine TL.nil ?_
                      refine S.n ?_
                      refine TC.ofSub (Sub.pre 0 rfl) ?_
                      refine TC.ret ?_
                      refine B.r ?_
                      refine S.r ?_
                      refine S.r ?_
                      replace hh := fin_x hR1 hh
                      refine B.r ?_
                      refine S.r ?_
                      obtain rfl := Option.some.inj hh
                      exact RetOk.mk' (rs := [.tmp 2]) [] rfl (.inl rfl) (RVs.tmp rfl RVs.nil) (List.sublist_append_left _ _) ⟨rfl, rfl, rfl⟩
                    · replace hh := iteO_f h117 hh
                      replace h117 := of_decide_eq_false h117
                      refine TL.gv rfl rfl rfl rfl rfl (OpVal.fieldLoc rfl fo41_2 rfl) rfl rfl ?_
                      refine TL.gv rfl rfl rfl rfl rfl (OpVal.loadLocA rfl ag39 sz39 rfl (i := 0) rfl rfl rfl) rfl rfl ?_
                      refine TL.gv rfl rfl rfl rfl rfl (OpVal.buildArrL rfl Try.underlying39 sz37 ze39 rfl) rfl rfl ?_
                      refine TL.gv rfl rfl rfl rfl rfl (OpVal.eqlSet (s := (nth x0.arcs k110 Arc.zero).set) (t := BSet.zero) rfl Try.underlying39 Try.underlying37 ag37 sz37 eg39 rfl rfl) rfl rfl ?_
                      refine TL.v rfl (OpVal.pickFB rfl rfl rfl) rfl rfl ?_
                      refine TL.v rfl (OpVal.moveB (.inl rfl) rfl) rfl rfl ?_
                      refine TL.split 75 rfl (fun h118 => ?_) (fun h118 => ?_)
                      · replace hh := iteO_t h118 hh
                        replace h118 := of_decide_eq_true h118
                        refine TL.goff rfl rfl rfl rfl rfl rfl rfl rfl ?_
                        refine TL.goff rfl rfl rfl rfl rfl rfl rfl rfl ?_
                        refine TL.goff rfl rfl rfl rfl rfl rfl rfl rfl ?_
                        refine TL.goff rfl rfl rfl rfl rfl rfl rfl rfl ?_
                        refine TL.v rfl (OpVal.pickTB rfl rfl rfl) rfl rfl ?_
                        refine TL.nil ?_
                        refine S.n ?_
                        refine TC.cond rfl (fun _ => ?_) (fun h => Bool.noConfusion h)
                        refine TC.seq ?_
                        refine TC.region ?_
                        refine TL.v rfl (OpVal.moveB (.inr rfl) rfl) rfl rfl ?_
                        refine TL.nil ?_
                        refine S.n ?_
                        refine TC.ofSub (Sub.pre 0 rfl) ?_
                        refine TC.ret ?_
                        refine B.r ?_
                        refine S.r ?_
                        refine S.r ?_
                        replace hh := fin_x hR1 hh
                        refine B.r ?_
                        refine S.r ?_
                        obtain rfl := Option.some.inj hh
                        exact RetOk.mk' (rs := [.tmp 2]) [] rfl (.inl rfl) (RVs.tmp rfl RVs.nil) (List.sublist_append_left _ _) ⟨rfl, rfl, rfl⟩
                      · replace hh := iteO_f h118 hh
                        replace h118 := of_decide_eq_false h118
                        refine TL.gv rfl rfl rfl rfl rfl (OpVal.fieldLoc rfl fo41_3 rfl) rfl rfl ?_
                        refine TL.gv rfl rfl rfl rfl rfl (OpVal.loadLoc rfl ag9 rfl (i := 0) rfl rfl) rfl rfl ?_
                        refine TL.gv rfl rfl rfl rfl rfl (OpVal.lenBs rfl Try.underlying9 rfl) rfl rfl ?_
                        refine TL.gv rfl rfl rfl rfl rfl (OpVal.gtr rfl rfl rfl) rfl rfl ?_
                        refine TL.v rfl (OpVal.pickFB rfl rfl rfl) rfl rfl ?_
                        refine TL.nil ?_
                        refine S.n ?_
                        refine TC.cond rfl (fun h119 => ?_) (fun h119 => ?_)
                        · replace hh := iteO_t h119 hh
                          replace h119 := of_decide_eq_true h119
                          refine TC.seq ?_
                          refine TC.region ?_
                          refine TL.v rfl (OpVal.moveB (.inr rfl) rfl) rfl rfl ?_
                          refine TL.nil ?_
                          refine S.n ?_
                          refine TC.ofSub (Sub.pre 0 rfl) ?_
                          refine TC.ret ?_
                          refine B.r ?_
                          refine S.r ?_
                          refine S.r ?_
                          replace hh := fin_x hR1 hh
                          refine B.r ?_
                          refine S.r ?_
                          obtain rfl := Option.some.inj hh
                          exact RetOk.mk' (rs := [.tmp 2]) [] rfl (.inl rfl) (RVs.tmp rfl RVs.nil) (List.sublist_append_left _ _) ⟨rfl, rfl, rfl⟩
                        · replace hh := iteO_f h119 hh
                          replace h119 := of_decide_eq_false h119
                          refine TC.skip ?_
                          refine B.n ?_
                          refine S.n ?_
                          refine TC.region ?_
                          refine TL.v rfl (OpVal.moveI (.inl rfl) rfl) rfl rfl ?_
                          refine TL.v rfl (OpVal.succ rfl rfl rfl (by omega)) rfl rfl ?_
                          refine TL.v rfl (OpVal.moveI (.inr rfl) rfl) rfl rfl ?_
                          refine TL.nil ?_
                          refine S.n ?_
                          obtain ⟨hh, hlt120⟩ := nxt_x hR1 hh
                          refine ⟨by repeat (first | exact Agr.refl _ _ | exact Agr.mask | refine Agr.upd rfl ?_ | refine Agr.maskIn rfl ?_ | refine Agr.upds rfl ?_), ((k110 + 1), ()), hlt120, hh, by repeat (first | exact trivial | refine ⟨rfl, ?_⟩), Sub.front 1 rfl rfl (Sub.pre 1 rfl), rfl⟩
            · replace hh := iteO_f h111 hh
              replace h111 := of_decide_eq_false h111
              refine TC.exit ?_
              refine S.x ?_
              refine S.x ?_
              replace hh := fin_x hR1 hh
              refine TC.exitHere ?_
              refine S.n ?_
              refine TC.seq ?_
              refine TC.region ?_
              refine TL.v rfl (OpVal.moveB (.inr rfl) rfl) rfl rfl ?_
              refine TL.nil ?_
              refine S.n ?_
              refine TC.ofSub (Sub.pre 0 rfl) ?_
              refine TC.ret ?_
              obtain rfl := Option.some.inj hh
              exact RetOk.mk' (rs := [.tmp 2]) [] rfl (.inl rfl) (RVs.tmp rfl RVs.nil) (List.sublist_append_left _ _) ⟨rfl, rfl, rfl⟩

noncomputable def whittleref15_Check (x0 : Fst) : Option (Int) :=
  bnd (whittleref15_Right x0) (fun v4 => iteO (!v4) (some 1) (some 0))
theorem whittleref15_Check_con {σ : Store} {x0 : Fst} {a0_0 : Option Addr} {c0_0 : Nat} {a0_1 : Option Addr} {c0_1 : Nat} {a0_2 : Option Addr} {c0_2 : Nat} (f0_0 : RS σ 2 encTip (.slice a0_0 x0.starts.length c0_0) x0.starts) (f0_1 : RS σ 2 encTip (.slice a0_1 x0.ends.length c0_1) x0.ends) (f0_2 : RS σ 8 encArc (.slice a0_2 x0.arcs.length c0_2) x0.arcs) {r : Int} (hh : whittleref15_Check x0 = some r) :
    Con Try.prog 14 #[.agg #[.int .i64 x0.states, .slice a0_0 x0.starts.length c0_0, .slice a0_1 x0.ends.length c0_1, .slice a0_2 x0.arcs.length c0_2]] σ [] (PureP (.int .i64 r) σ) := by
  dsimp only [whittleref15_Check] at hh
  have f0_0b := f0_0.rv.big
  have f0_1b := f0_1.rv.big
  have f0_2b := f0_2.rv.big
  refine Con.mk (n := 6) Try.func14 rfl rfl rfl (fun w0 => ?_)
  refine TC.seq ?_
  refine TC.region ?_
  refine TL.op rfl (OpOk.boxA rfl rfl rfl rfl (fun b101 => ?_))
  refine TL.v rfl (OpVal.moveI (.inr rfl) rfl) rfl rfl ?_
  refine TL.nil ?_
  refine S.n ?_
  refine TC.seq ?_
  refine TC.seq ?_
  refine TC.region ?_
  refine TL.v rfl (OpVal.loadAll rfl ag25 sz25 rfl (i := 0) rfl rfl) rfl rfl ?_
  obtain ⟨v4, u4, hh⟩ := bnd_e hh
  refine TL.op rfl (OpOk.callP (whittleref15_Right_con (x0 := x0) f0_0 f0_1 f0_2 u4) rfl rfl pf24 rfl rfl rfl ?_)
  refine TL.v rfl (OpVal.not rfl rfl) rfl rfl ?_
  refine TL.nil ?_
  refine S.n ?_
  refine TC.cond rfl (fun h103 => ?_) (fun h103 => ?_)
  · replace hh := iteO_t h103 hh
    refine TC.seq ?_
    refine TC.region ?_
    refine TL.v rfl (OpVal.moveI (.inr rfl) rfl) rfl rfl ?_
    refine TL.nil ?_
    refine S.n ?_
    refine TC.ofSub (Sub.pre 0 rfl) ?_
    refine TC.ret ?_
    refine S.r ?_
    obtain rfl := Option.some.inj hh
    exact RetOk.mk' (rs := [.tmp 2]) [] rfl (.inl rfl) (RVs.tmp rfl RVs.nil) (List.sublist_append_left _ _) ⟨rfl, rfl, rfl⟩
  · replace hh := iteO_f h103 hh
    refine TC.skip ?_
    refine S.n ?_
    refine TC.seq ?_
    refine TC.region ?_
    refine TL.v rfl (OpVal.moveI (.inr rfl) rfl) rfl rfl ?_
    refine TL.nil ?_
    refine S.n ?_
    refine TC.ofSub (Sub.pre 0 rfl) ?_
    refine TC.ret ?_
    obtain rfl := Option.some.inj hh
    exact RetOk.mk' (rs := [.tmp 2]) [] rfl (.inl rfl) (RVs.tmp rfl RVs.nil) (List.sublist_append_left _ _) ⟨rfl, rfl, rfl⟩

noncomputable def fst_step_j1 (k128 : Nat) (m130 : FM FPair Unit) : Option (((FM FPair Unit) × Nat) ⊕ (((FM FPair Unit)) ⊕ ((FM FPair Unit) × Bool))) :=
  nxt (m130, (k128 + 1))
noncomputable def fst_step_j2 (m127 : FM FPair Unit) (x0 : List (List Arc)) (v7c : FPair × Unit) (k128 : Nat) (s134 : List UInt8) : Option (((FM FPair Unit) × Nat) ⊕ (((FM FPair Unit)) ⊕ ((FM FPair Unit) × Bool))) :=
  iteO (decide (4096 < (((m127.put (⟨(nth (nth x0 v7c.1.state.toNat ([] : List Arc)) k128 Arc.zero).to, s134⟩ : FPair) ()).n : Nat) : Int))) (fin (fin (some ((FM.emp : FM FPair Unit), false)))) (fst_step_j1 k128 (m127.put (⟨(nth (nth x0 v7c.1.state.toNat ([] : List Arc)) k128 Arc.zero).to, s134⟩ : FPair) ()))
noncomputable def fst_step_b2 (x0 : List (List Arc)) (v7c : FPair × Unit) (x2 : UInt8) (m127 : FM FPair Unit) (k128 : Nat) : Option (((FM FPair Unit) × Nat) ⊕ (((FM FPair Unit)) ⊕ ((FM FPair Unit) × Bool))) :=
  iteO (decide (((k128 : Nat) : Int) < (((nth x0 v7c.1.state.toNat ([] : List Arc)).length : Nat) : Int))) (iteO (!(((nth (nth x0 v7c.1.state.toNat ([] : List Arc)) k128 Arc.zero).set).has x2.toNat)) (fst_step_j1 k128 m127) (grd (v7c.1.out.length + ((nth (nth x0 v7c.1.state.toNat ([] : List Arc)) k128 Arc.zero).out).length ≤ 9223372036854775807) (iteO ((nth (nth x0 v7c.1.state.toNat ([] : List Arc)) k128 Arc.zero).copy) (grd ((v7c.1.out ++ (nth (nth x0 v7c.1.state.toNat ([] : List Arc)) k128 Arc.zero).out).length + [x2].length ≤ 9223372036854775807) (fst_step_j2 m127 x0 v7c k128 ((v7c.1.out ++ (nth (nth x0 v7c.1.state.toNat ([] : List Arc)) k128 Arc.zero).out) ++ [x2]))) (fst_step_j2 m127 x0 v7c k128 (v7c.1.out ++ (nth (nth x0 v7c.1.state.toNat ([] : List Arc)) k128 Arc.zero).out))))) (fin (nxt m127))
noncomputable def fst_step_b1 (x0 : List (List Arc)) (x2 : UInt8) (m114 : FM FPair Unit) (oE : Option (FPair × Unit)) : Option (((FM FPair Unit)) ⊕ ((FM FPair Unit) × Bool)) :=
  optE oE (fin (some (m114, true))) (fun v7c => grd (0 ≤ v7c.1.state ∧ v7c.1.state < (x0.length : Int)) (iter (fun q : (FM FPair Unit) × Nat => fst_step_b2 x0 v7c x2 q.1 q.2) (m114, 0)))
noncomputable def fst_step (x0 : List (List Arc)) (x1 : FM FPair Unit) (x2 : UInt8) : Option ((FM FPair Unit) × Bool) :=
  allP (fun q => Rep q x1) (fun q => runL (fun (q : (FM FPair Unit)) (oE : Option (FPair × Unit)) => fst_step_b1 x0 x2 q oE) q (FM.emp : FM FPair Unit))
theorem fst_step_con {σ : Store} {x0 : List (List Arc)} {a0_0 : Option Addr} {c0_0 : Nat} {x1 : FM FPair Unit} {b1_0 : Option Nat} {x2 : UInt8} (f0_0 : RZ σ (pkSl 8 encArc encArc_len) (.slice a0_0 x0.length c0_0) x0) {r : (FM FPair Unit) × Bool} (hh : fst_step x0 x1 x2 = some r) :
    Con Try.prog 21 #[.slice a0_0 x0.length c0_0, .map b1_0, .int .u8 ((x2.toNat : Nat) : Int)] σ [Res.mapB (fun x => Value.agg (encFPair x).toArray) unitV b1_0 x1] (fun v σ' H' => ∃ (br1 : Option Nat), v = .tuple #[.map br1, .bool r.2] ∧ σ = σ' ∧ H' = [Res.mapB (fun x => Value.agg (encFPair x).toArray) unitV br1 r.1]) := by
  dsimp only [fst_step] at hh
  have f0_0b := f0_0.big
  refine Con.mk (n := 58) Try.func21 rfl rfl rfl (fun w0 => ?_)
  refine TC.seq ?_
  refine TC.region ?_
  refine TL.v rfl (OpVal.moveMap (.inr rfl) rfl) rfl rfl ?_
  refine TL.v rfl (OpVal.moveB (.inr rfl) rfl) rfl rfl ?_
  refine TL.nil ?_
  refine S.n ?_
  refine TC.seq ?_
  refine TC.region ?_
  refine TL.op rfl (OpOk.makeMapB (enc := (fun x => Value.agg (encFPair x).toArray)) (encV := unitV) rfl rfl rfl (fun b103 => ?_))
  refine TL.v rfl (OpVal.moveMap (.inr rfl) rfl) rfl rfl ?_
  refine TL.nil ?_
  refine S.n ?_
  refine TC.seq ?_
  refine TC.seq ?_
  refine TC.region ?_
  refine TL.v rfl (OpVal.moveMap (.inl rfl) rfl) rfl rfl ?_
  refine TL.front 1 rfl rfl ?_
  refine TL.op rfl (OpOk.rangeB rfl Try.underlying59 rfl rfl rfl (fun it105 l106 hl107 => ?_))
  refine TL.nil ?_
  refine S.n ?_
  refine TC.block ?_
  refine TC.loopG (α := ((FM FPair Unit)) × ((List (FPair × Unit)) × (Option (FPair × Unit)))) [6, 7, 9, 11, 12, 16, 17, 18, 19, 20, 21, 22, 23, 24, 25, 26, 27, 28, 29, 30, 31, 32, 33, 34, 35, 36, 37, 38, 39, 40, 41, 42, 43, 44, 45, 46, 47, 48, 49, 50, 51, 52, 53, 54, 55, 56] (fun g => []) (fun g => [Res.mapB (fun x => Value.agg (encFPair x).toArray) unitV (some b103) g.1, Res.rng (fun x => Value.agg (encFPair x).toArray) unitV b1_0 it105 x1 g.2.1 g.2.2]) (fun g => σ) (fun g => runA (fun (q : (FM FPair Unit)) (oE : Option (FPair × Unit)) => fst_step_b1 x0 x2 q oE) g.2.1 g.1 = some r) (fun g => List.length g.2.1) ((FM.emp : FM FPair Unit), (l106, none)) (Sub.front 1 rfl rfl (Sub.pre 2 rfl)) rfl (by repeat (first | exact trivial | refine ⟨rfl, ?_⟩)) (runA_of hh hl107) (fun g1 j1 hg1 => ?_)
  obtain ⟨m114, ⟨l115, o116⟩⟩ := g1
  have hh := hg1; clear hg1
  show TC _ _ _ (upds (mask _ j1 _) []) _ [Res.mapB (fun x => Value.agg (encFPair x).toArray) unitV (some b103) m114, Res.rng (fun x => Value.agg (encFPair x).toArray) unitV b1_0 it105 x1 l115 o116]
  refine TC.seq ?_
  refine TC.region ?_
  refine TL.front 1 rfl rfl ?_
  refine TL.op rfl (OpOk.nextB (T := 0) rfl rfl rfl rfl rfl (fun hl117 => ?_) (fun l118 v7c l119 hl117 => ?_))
  · subst hl117
    obtain ⟨z1, hh, hR1⟩ := runA_end hh
    dsimp only [fst_step_b1, optE_none] at hh
    refine TL.by (fun w h => Reach.unrng h) ?_
    refine TL.v rfl (OpVal.extract rfl rfl rfl) rfl rfl ?_
    refine TL.nil ?_
    refine S.n ?_
    refine TC.seq ?_
    refine TC.cond rfl (fun h => Bool.noConfusion h) (fun _ => ?_)
    refine TC.exit ?_
    refine S.x ?_
    refine S.x ?_
    replace hh := finE_x hR1 hh
    refine TC.exitHere ?_
    refine S.n ?_
    refine TC.seq ?_
    refine TC.region ?_
    refine TL.v rfl (OpVal.moveMap (.inl rfl) rfl) rfl rfl ?_
    refine TL.v rfl (OpVal.moveMap (.inr rfl) rfl) rfl rfl ?_
    refine TL.v rfl (OpVal.moveB (.inr rfl) rfl) rfl rfl ?_
    refine TL.nil ?_
    refine S.n ?_
    refine TC.ofSub (Sub.front 1 rfl rfl (Sub.pre 1 rfl)) ?_
    refine TC.ret ?_
    obtain rfl := Option.some.inj hh
    exact RetOk.mk' (rs := [.tmp 6, .tmp 7]) [Res.mapB (fun x => Value.agg (encFPair x).toArray) unitV (some b103) m114] rfl (.inl rfl) (RVs.tmp rfl (RVs.tmp rfl RVs.nil)) (List.sublist_append_left _ _) ⟨(some b103), rfl, rfl, rfl⟩
  · subst hl117
    obtain ⟨z1, hh, hR1⟩ := runA_step hh
    dsimp only [fst_step_b1, optE_some] at hh
    refine TL.v rfl (OpVal.extract rfl rfl rfl) rfl rfl ?_
    refine TL.nil ?_
    refine S.n ?_
    refine TC.seq ?_
    refine TC.cond rfl (fun _ => ?_) (fun h => Bool.noConfusion h)
    refine TC.skip ?_
    refine S.n ?_
    refine TC.block ?_
    refine TC.seq ?_
    refine TC.region ?_
    refine TL.v rfl (OpVal.of (OpVal.entryB rfl rfl (i := 0) rfl) (v' := .tuple #[.agg #[.int .i64 v7c.1.state, .string (bs v7c.1.out)], .agg #[]]) rfl) rfl rfl ?_
    refine TL.v rfl (OpVal.extract rfl rfl rfl) rfl rfl ?_
    refine TL.op rfl (OpOk.alloc rfl ze62 rfl rfl (fun b120 => ?_))
    refine TL.op rfl (OpOk.storeAll rfl sz62 rfl rfl rfl rfl rfl rfl ?_)
    refine TL.nil ?_
    refine S.n ?_
    refine TC.seq ?_
    refine TC.region ?_
    refine TL.v rfl (OpVal.moveSl (.inl rfl) rfl) rfl rfl ?_
    refine TL.v rfl (OpVal.fieldLoc rfl fo62_0 rfl) rfl rfl ?_
    refine TL.v rfl (OpVal.loadLoc rfl ag3 rfl (i := 0) rfl rfl) rfl rfl ?_
    have u16 := grd_c hh
    replace hh := grd_t hh
    refine TL.v rfl (OpVal.index rfl Try.underlying58 sz23 rfl rfl f0_0.isSl u16.1 u16.2) rfl rfl ?_
    obtain ⟨p122, hk122, hg122⟩ := RZ.seg f0_0 v7c.1.state.toNat (by omega)
    replace hk122 : RS _ 8 encArc (.slice p122.1 (nth x0 v7c.1.state.toNat ([] : List Arc)).length p122.2) (nth x0 v7c.1.state.toNat ([] : List Arc)) := hk122
    have hk122b := hk122.rv.big
    refine TL.v rfl (OpVal.of (OpVal.loadSeg0 rfl ag23 rfl hg122 rfl) (v' := .slice p122.1 ((nth x0 v7c.1.state.toNat ([] : List Arc)).length) p122.2) rfl) rfl rfl ?_
    refine TL.v rfl (OpVal.lenC rfl Try.underlying23 rfl) rfl rfl ?_
    refine TL.v rfl (OpVal.moveI (.inl rfl) rfl) rfl rfl ?_
    refine TL.nil ?_
    refine S.n ?_
    refine TC.block ?_
    refine TC.loopG (α := ((FM FPair Unit) × Nat) × (Unit)) [6, 7, 11, 12, 26, 27, 28, 29, 30, 31, 32, 33, 34, 35, 36, 37, 38, 39, 40, 41, 42, 43, 44, 45, 46, 47, 48, 49, 50, 51, 52, 53, 54, 55, 56] (fun g => [(26, .int .i64 ((g.1.2 : Nat) : Int))]) (fun g => [Res.mapB (fun x => Value.agg (encFPair x).toArray) unitV (some b103) g.1.1, Res.cells b120 #[.int .i64 v7c.1.state, .string (bs v7c.1.out)] 62, Res.rng (fun x => Value.agg (encFPair x).toArray) unitV b1_0 it105 x1 (l118 ++ l119) (some v7c)]) (fun g => σ) (fun g => iter (fun q : (FM FPair Unit) × Nat => fst_step_b2 x0 v7c x2 q.1 q.2) g.1 = some z1) (fun g => rounds (fun q : (FM FPair Unit) × Nat => fst_step_b2 x0 v7c x2 q.1 q.2) g.1) ((m114, 0), ()) (Sub.front 1 rfl rfl (Sub.front 1 rfl rfl (Sub.front 2 rfl rfl (Sub.pre 3 rfl)))) rfl (by repeat (first | exact trivial | refine ⟨rfl, ?_⟩)) hh (fun g2 j2 hg2 => ?_)
    obtain ⟨⟨m127, k128⟩, _⟩ := g2
    have hh := hg2; clear hg2
    show TC _ _ _ (upds (mask _ j2 _) [(26, .int .i64 ((k128 : Nat) : Int))]) _ [Res.mapB (fun x => Value.agg (encFPair x).toArray) unitV (some b103) m127, Res.cells b120 #[.int .i64 v7c.1.state, .string (bs v7c.1.out)] 62, Res.rng (fun x => Value.agg (encFPair x).toArray) unitV b1_0 it105 x1 (l118 ++ l119) (some v7c)]
    obtain ⟨z2, hh, hR2⟩ := iter_e hh
    dsimp only [fst_step_b2] at hh
    refine TC.seq ?_
    refine TC.region ?_
    refine TL.v rfl (OpVal.lss rfl rfl rfl) rfl rfl ?_
    refine TL.nil ?_
    refine S.n ?_
    refine TC.seq ?_
    refine TC.cond rfl (fun h129 => ?_) (fun h129 => ?_)
    · replace hh := iteO_t h129 hh
      replace h129 := of_decide_eq_true h129
      refine TC.skip ?_
      refine S.n ?_
      refine TC.cutG (α := ((FM FPair Unit)) × (Unit)) [6, 7, 11, 12, 28, 29, 30, 31, 32, 33, 34, 35, 36, 37, 38, 39, 40, 41, 42, 43, 44, 45, 46, 47, 48, 49, 50, 51, 52, 53, 54, 55] (fun g => []) (fun g => [Res.mapB (fun x => Value.agg (encFPair x).toArray) unitV (some b103) g.1, Res.cells b120 #[.int .i64 v7c.1.state, .string (bs v7c.1.out)] 62, Res.rng (fun x => Value.agg (encFPair x).toArray) unitV b1_0 it105 x1 (l118 ++ l119) (some v7c)]) (fun g => σ) (fun g => fst_step_j1 k128 g.1 = some z2) ?_ (fun g j hg => ?_)
      · skip
        refine TC.block ?_
        refine TC.seq ?_
        refine TC.region ?_
        refine TL.v rfl (OpVal.indexN rfl Try.underlying23 sz41 rfl rfl hk122.rv.sl (by omega)) rfl rfl ?_
        refine TL.v rfl (OpVal.loadSA Arc.zero rfl ag41 sz41 rfl hk122 (by omega) (by omega)) rfl rfl ?_
        refine TL.op rfl (OpOk.alloc rfl ze41 rfl rfl (fun b131 => ?_))
        refine TL.op rfl (OpOk.storeAll rfl sz41 rfl rfl rfl rfl rfl rfl ?_)
        refine TL.nil ?_
        refine S.n ?_
        refine TC.seq ?_
        refine TC.seq ?_
        refine TC.region ?_
        refine TL.v rfl (OpVal.fieldLoc rfl fo41_2 rfl) rfl rfl ?_
        refine TL.v rfl (OpVal.loadLocA rfl ag39 sz39 rfl (i := 0) rfl rfl rfl) rfl rfl ?_
        refine TL.v rfl (OpVal.moveI (.inl rfl) rfl) rfl rfl ?_
        refine TL.op rfl (OpOk.callP (has_con _ ((nth (nth x0 v7c.1.state.toNat ([] : List Arc)) k128 Arc.zero).set) x2.toNat (BSet.isOk _) (UInt8.toNat_lt _)) rfl rfl pf38 rfl rfl rfl ?_)
        refine TL.v rfl (OpVal.not rfl rfl) rfl rfl ?_
        refine TL.nil ?_
        refine S.n ?_
        refine TC.cond rfl (fun h133 => ?_) (fun h133 => ?_)
        · replace hh := iteO_t h133 hh
          refine TC.exit ?_
          refine S.x ?_
          refine TC.exitHere ?_
          refine S.n ?_
          refine ⟨by repeat (first | exact Agr.refl _ _ | exact Agr.mask | refine Agr.upd rfl ?_ | refine Agr.maskIn rfl ?_ | refine Agr.upds rfl ?_), (m127, ()), hh, by repeat (first | exact trivial | refine ⟨rfl, ?_⟩), Sub.front 3 rfl rfl (Sub.front 3 rfl rfl (Sub.front 3 rfl rfl (Sub.pre 3 rfl))), rfl⟩
        · replace hh := iteO_f h133 hh
          refine TC.skip ?_
          refine S.n ?_
          refine TC.seq ?_
          refine TC.region ?_
          refine TL.v rfl (OpVal.fieldLoc rfl fo62_1 rfl) rfl rfl ?_
          refine TL.v rfl (OpVal.loadLoc rfl ag9 rfl (i := 2) rfl rfl) rfl rfl ?_
          refine TL.v rfl (OpVal.fieldLoc rfl fo41_3 rfl) rfl rfl ?_
          refine TL.v rfl (OpVal.loadLoc rfl ag9 rfl (i := 0) rfl rfl) rfl rfl ?_
          have u34 := grd_c hh
          replace hh := grd_t hh
          refine TL.v rfl (OpVal.catBs rfl rfl rfl u34) rfl rfl ?_
          refine TL.v rfl (OpVal.moveStr (.inr rfl) rfl) rfl rfl ?_
          refine TL.nil ?_
          refine S.n ?_
          refine TC.cutG (α := ((List UInt8)) × (Unit)) [12, 40, 41, 42, 43, 44, 45, 46] (fun g => [(12, .string (bs g.1))]) (fun g => [Res.mapB (fun x => Value.agg (encFPair x).toArray) unitV (some b103) m127, Res.cells b120 #[.int .i64 v7c.1.state, .string (bs v7c.1.out)] 62, Res.cells b131 #[.int .i64 ((nth (nth x0 v7c.1.state.toNat ([] : List Arc)) k128 Arc.zero).frm), .int .i64 ((nth (nth x0 v7c.1.state.toNat ([] : List Arc)) k128 Arc.zero).to), .int .u64 ((((nth (nth x0 v7c.1.state.toNat ([] : List Arc)) k128 Arc.zero).set).a : Nat) : Int), .int .u64 ((((nth (nth x0 v7c.1.state.toNat ([] : List Arc)) k128 Arc.zero).set).b : Nat) : Int), .int .u64 ((((nth (nth x0 v7c.1.state.toNat ([] : List Arc)) k128 Arc.zero).set).c : Nat) : Int), .int .u64 ((((nth (nth x0 v7c.1.state.toNat ([] : List Arc)) k128 Arc.zero).set).d : Nat) : Int), .string (bs ((nth (nth x0 v7c.1.state.toNat ([] : List Arc)) k128 Arc.zero).out)), .bool ((nth (nth x0 v7c.1.state.toNat ([] : List Arc)) k128 Arc.zero).copy)] 41, Res.rng (fun x => Value.agg (encFPair x).toArray) unitV b1_0 it105 x1 (l118 ++ l119) (some v7c)]) (fun g => σ) (fun g => fst_step_j2 m127 x0 v7c k128 g.1 = some z2) ?_ (fun g j hg => ?_)
          · skip
            refine TC.seq ?_
            refine TC.region ?_
            refine TL.v rfl (OpVal.fieldLoc rfl fo41_4 rfl) rfl rfl ?_
            refine TL.v rfl (OpVal.loadLoc rfl ag4 rfl (i := 0) rfl rfl) rfl rfl ?_
            refine TL.nil ?_
            refine S.n ?_
            refine TC.cond rfl (fun h135 => ?_) (fun h135 => ?_)
            · replace hh := iteO_t h135 hh
              refine TC.region ?_
              refine TL.v rfl (OpVal.moveStr (.inl rfl) rfl) rfl rfl ?_
              refine TL.v rfl (OpVal.moveI (.inl rfl) rfl) rfl rfl ?_
              refine TL.op rfl (OpOk.lit (enc := encU8) [x2] rfl Try.underlying87 sz5 ze5 rfl rfl rfl encU8_len (by decide) (by decide) (0 : UInt8) rfl (by decide) rfl (by decide) encU8_one (fun a136 c137 => ?_))
              refine TL.isSl (i := 0) rfl (fun hs139 _ _ => ?_)
              refine TL.v rfl (OpVal.bytesStr (l := [x2]) rfl Try.underlying87 Try.underlying5 Try.underlying9 rfl hs139 (fun w hw => rdb_row (q := 0) rfl hw)) rfl rfl ?_
              have u42 := grd_c hh
              replace hh := grd_t hh
              refine TL.v rfl (OpVal.catBs rfl rfl rfl u42) rfl rfl ?_
              refine TL.v rfl (OpVal.moveStr (.inr rfl) rfl) rfl rfl ?_
              refine TL.nil ?_
              refine S.n ?_
              refine ⟨by repeat (first | exact Agr.refl _ _ | exact Agr.mask | refine Agr.upd rfl ?_ | refine Agr.maskIn rfl ?_ | refine Agr.upds rfl ?_), (((v7c.1.out ++ (nth (nth x0 v7c.1.state.toNat ([] : List Arc)) k128 Arc.zero).out) ++ [x2]), ()), hh, by repeat (first | exact trivial | refine ⟨rfl, ?_⟩), Sub.front 4 rfl rfl (Sub.front 2 rfl rfl (Sub.front 4 rfl rfl (Sub.front 4 rfl rfl (Sub.pre 4 rfl)))), rfl⟩
            · replace hh := iteO_f h135 hh
              refine TC.skip ?_
              refine S.n ?_
              refine ⟨by repeat (first | exact Agr.refl _ _ | exact Agr.mask | refine Agr.upd rfl ?_ | refine Agr.maskIn rfl ?_ | refine Agr.upds rfl ?_), ((v7c.1.out ++ (nth (nth x0 v7c.1.state.toNat ([] : List Arc)) k128 Arc.zero).out), ()), hh, by repeat (first | exact trivial | refine ⟨rfl, ?_⟩), Sub.front 3 rfl rfl (Sub.front 1 rfl rfl (Sub.front 3 rfl rfl (Sub.front 3 rfl rfl (Sub.pre 4 rfl)))), rfl⟩
          · skip
            obtain ⟨s134, _⟩ := g
            have hh := hg; clear hg
            show TC _ _ _ (upds (mask _ j _) [(12, .string (bs s134))]) _ [Res.mapB (fun x => Value.agg (encFPair x).toArray) unitV (some b103) m127, Res.cells b120 #[.int .i64 v7c.1.state, .string (bs v7c.1.out)] 62, Res.cells b131 #[.int .i64 ((nth (nth x0 v7c.1.state.toNat ([] : List Arc)) k128 Arc.zero).frm), .int .i64 ((nth (nth x0 v7c.1.state.toNat ([] : List Arc)) k128 Arc.zero).to), .int .u64 ((((nth (nth x0 v7c.1.state.toNat ([] : List Arc)) k128 Arc.zero).set).a : Nat) : Int), .int .u64 ((((nth (nth x0 v7c.1.state.toNat ([] : List Arc)) k128 Arc.zero).set).b : Nat) : Int), .int .u64 ((((nth (nth x0 v7c.1.state.toNat ([] : List Arc)) k128 Arc.zero).set).c : Nat) : Int), .int .u64 ((((nth (nth x0 v7c.1.state.toNat ([] : List Arc)) k128 Arc.zero).set).d : Nat) : Int), .string (bs ((nth (nth x0 v7c.1.state.toNat ([] : List Arc)) k128 Arc.zero).out)), .bool ((nth (nth x0 v7c.1.state.toNat ([] : List Arc)) k128 Arc.zero).copy)] 41, Res.rng (fun x => Value.agg (encFPair x).toArray) unitV b1_0 it105 x1 (l118 ++ l119) (some v7c)]
            dsimp only [fst_step_j2] at hh
            refine TC.seq ?_
            refine TC.region ?_
            refine TL.v rfl (OpVal.moveMap (.inl rfl) rfl) rfl rfl ?_
            refine TL.v rfl (OpVal.fieldLoc rfl fo41_1 rfl) rfl rfl ?_
            refine TL.v rfl (OpVal.loadLoc rfl ag3 rfl (i := 2) rfl rfl) rfl rfl ?_
            refine TL.v rfl (OpVal.moveStr (.inl rfl) rfl) rfl rfl ?_
            refine TL.v rfl (OpVal.buildL rfl pl62 ze62 rfl) rfl rfl ?_
            refine TL.v rfl (OpVal.buildL rfl pl60 ze60 rfl) rfl rfl ?_
            refine TL.op rfl (OpOk.updB (⟨(nth (nth x0 v7c.1.state.toNat ([] : List Arc)) k128 Arc.zero).to, s134⟩ : FPair) () rfl Try.underlying59 rfl rfl rfl rfl kl62 ?_)
            refine TL.nil ?_
            refine S.n ?_
            refine TC.seq ?_
            refine TC.region ?_
            refine TL.v rfl (OpVal.moveMap (.inl rfl) rfl) rfl rfl ?_
            refine TL.v rfl (OpVal.lenB rfl Try.underlying59 rfl (i := 0) rfl) rfl rfl ?_
            refine TL.v rfl (OpVal.gtr rfl rfl rfl) rfl rfl ?_
            refine TL.nil ?_
            refine S.n ?_
            refine TC.cond rfl (fun h140 => ?_) (fun h140 => ?_)
            · replace hh := iteO_t h140 hh
              replace h140 := of_decide_eq_true h140
              refine TC.seq ?_
              refine TC.region ?_
              refine TL.v rfl (OpVal.moveMap (.inr rfl) rfl) rfl rfl ?_
              refine TL.v rfl (OpVal.moveB (.inr rfl) rfl) rfl rfl ?_
              refine TL.nil ?_
              refine S.n ?_
              refine TC.by (fun w h => Reach.nilMap (enc := (fun x => Value.agg (encFPair x).toArray)) (encV := unitV) h) ?_
              refine TC.ofSub (Sub.pre 1 rfl) ?_
              refine TC.ret ?_
              refine B.r ?_
              refine S.r ?_
              refine S.r ?_
              replace hh := fin_x hR2 hh
              refine B.r ?_
              refine B.r ?_
              refine S.r ?_
              replace hh := finA_x hR1 hh
              refine B.r ?_
              refine S.r ?_
              obtain rfl := Option.some.inj hh
              exact RetOk.mk' (rs := [.tmp 6, .tmp 7]) [Res.mapB (fun x => Value.agg (encFPair x).toArray) unitV none (FM.emp : FM FPair Unit)] rfl (.inl rfl) (RVs.tmp rfl (RVs.tmp rfl RVs.nil)) (List.sublist_append_left _ _) ⟨none, rfl, rfl, rfl⟩
            · replace hh := iteO_f h140 hh
              replace h140 := of_decide_eq_false h140
              refine TC.skip ?_
              refine B.n ?_
              refine S.n ?_
              refine ⟨by repeat (first | exact Agr.refl _ _ | exact Agr.mask | refine Agr.upd rfl ?_ | refine Agr.maskIn rfl ?_ | refine Agr.upds rfl ?_), ((m127.put (⟨(nth (nth x0 v7c.1.state.toNat ([] : List Arc)) k128 Arc.zero).to, s134⟩ : FPair) ()), ()), hh, by repeat (first | exact trivial | refine ⟨rfl, ?_⟩), Sub.front 3 rfl rfl (Sub.front 2 rfl rfl (Sub.front 2 rfl rfl (Sub.pre 3 rfl))), rfl⟩
      · skip
        obtain ⟨m130, _⟩ := g
        have hh := hg; clear hg
        show TC _ _ _ (upds (mask _ j _) []) _ [Res.mapB (fun x => Value.agg (encFPair x).toArray) unitV (some b103) m130, Res.cells b120 #[.int .i64 v7c.1.state, .string (bs v7c.1.out)] 62, Res.rng (fun x => Value.agg (encFPair x).toArray) unitV b1_0 it105 x1 (l118 ++ l119) (some v7c)]
        dsimp only [fst_step_j1] at hh
        refine TC.region ?_
        refine TL.v rfl (OpVal.succ rfl rfl rfl (by omega)) rfl rfl ?_
        refine TL.v rfl (OpVal.moveI (.inl rfl) rfl) rfl rfl ?_
        refine TL.nil ?_
        refine S.n ?_
        obtain ⟨hh, hlt142⟩ := nxt_x hR2 hh
        refine ⟨by repeat (first | exact Agr.refl _ _ | exact Agr.mask | refine Agr.upd rfl ?_ | refine Agr.maskIn rfl ?_ | refine Agr.upds rfl ?_), ((m130, (k128 + 1)), ()), hlt142, hh, by repeat (first | exact trivial | refine ⟨rfl, ?_⟩), Sub.front 2 rfl rfl (Sub.front 2 rfl rfl (Sub.front 2 rfl rfl (Sub.pre 3 rfl))), rfl⟩
    · replace hh := iteO_f h129 hh
      replace h129 := of_decide_eq_false h129
      refine TC.exit ?_
      refine S.x ?_
      refine S.x ?_
      replace hh := fin_x hR2 hh
      refine TC.exitHere ?_
      refine B.n ?_
      refine S.n ?_
      replace hh := nxtA_x hR1 hh
      refine ⟨by repeat (first | exact Agr.refl _ _ | exact Agr.mask | refine Agr.upd rfl ?_ | refine Agr.maskIn rfl ?_ | refine Agr.upds rfl ?_), (m127, ((l118 ++ l119), (some v7c))), (by simp), hh, by repeat (first | exact trivial | refine ⟨rfl, ?_⟩), Sub.front 2 rfl rfl (Sub.front 1 rfl rfl (Sub.pre 2 rfl)), rfl⟩

noncomputable def whittleref15_with_b1 (x0 : List Tip) (x1 : Tip) (k106 : Nat) : Option ((Nat) ⊕ ((List Tip))) :=
  iteO (decide (((k106 : Nat) : Int) < ((x0.length : Nat) : Int))) (iteO (decide ((nth x0 k106 Tip.zero) = x1)) (fin (some x0)) (nxt (k106 + 1))) (fin (grd ((x0.length + [x1].length) * 24 ≤ 140737488355328) (some (x0 ++ [x1]))))
noncomputable def whittleref15_with (x0 : List Tip) (x1 : Tip) : Option ((List Tip)) :=
  iter (fun q : Nat => whittleref15_with_b1 x0 x1 q) 0
theorem whittleref15_with_con {σ : Store} {x0 : List Tip} {a0_1 : Option Addr} {c0_2 : Nat} {x1 : Tip}  {r : (List Tip)} (hh : whittleref15_with x0 x1 = some r) :
    Con Try.prog 25 #[.slice a0_1 x0.length c0_2, .agg #[.int .i64 x1.state, .string (bs x1.out)]] σ [Res.rowS 57 2 encTip (.slice a0_1 x0.length c0_2) x0] (fun v σ' H' => ∃ (a1 : Option Addr), ∃ (c1 : Nat), v = .slice a1 r.length c1 ∧ σ = σ' ∧ H' = [Res.rowS 57 2 encTip (.slice a1 r.length c1) r]) := by
  dsimp only [whittleref15_with] at hh
  refine Con.mk (n := 23) Try.func25 rfl rfl rfl (fun w0 => ?_)
  refine TC.seq ?_
  refine TC.region ?_
  refine TL.op rfl (OpOk.boxA rfl rfl rfl rfl (fun b102 => ?_))
  refine TL.v rfl (OpVal.moveSl (.inr rfl) rfl) rfl rfl ?_
  refine TL.nil ?_
  refine S.n ?_
  refine TC.seq ?_
  refine TC.seq ?_
  refine TC.region ?_
  refine TL.v rfl (OpVal.moveI (.inr rfl) rfl) rfl rfl ?_
  refine TL.nil ?_
  refine S.n ?_
  refine TC.block ?_
  refine TC.loopG (α := (Nat) × (Unit)) [4, 5, 6, 7, 8, 9, 10, 11, 12, 13, 14, 15, 16, 17, 18] (fun g => [(5, .int .i64 ((g.1 : Nat) : Int))]) (fun g => [Res.rowS 57 2 encTip (.slice a0_1 x0.length c0_2) x0, Res.cells b102 #[.int .i64 x1.state, .string (bs x1.out)] 57]) (fun g => σ) (fun g => iter (fun q : Nat => whittleref15_with_b1 x0 x1 q) g.1 = some r) (fun g => rounds (fun q : Nat => whittleref15_with_b1 x0 x1 q) g.1) (0, ()) (Sub.front 1 rfl rfl (Sub.pre 2 rfl)) rfl (by repeat (first | exact trivial | refine ⟨rfl, ?_⟩)) hh (fun g1 j1 hg1 => ?_)
  obtain ⟨k106, _⟩ := g1
  have hh := hg1; clear hg1
  show TC _ _ _ (upds (mask _ j1 _) [(5, .int .i64 ((k106 : Nat) : Int))]) _ [Res.rowS 57 2 encTip (.slice a0_1 x0.length c0_2) x0, Res.cells b102 #[.int .i64 x1.state, .string (bs x1.out)] 57]
  obtain ⟨z1, hh, hR1⟩ := iter_e hh
  dsimp only [whittleref15_with_b1] at hh
  refine TC.isSl (i := 0) rfl (fun _ hb107 _ => ?_)
  refine TC.seq ?_
  refine TC.seq ?_
  refine TC.region ?_
  refine TL.v rfl (OpVal.moveI (.inl rfl) rfl) rfl rfl ?_
  refine TL.v rfl (OpVal.moveSl (.inl rfl) rfl) rfl rfl ?_
  refine TL.v rfl (OpVal.lenC rfl Try.underlying22 rfl) rfl rfl ?_
  refine TL.v rfl (OpVal.lss rfl rfl rfl) rfl rfl ?_
  refine TL.nil ?_
  refine S.n ?_
  refine TC.cond rfl (fun h108 => ?_) (fun h108 => ?_)
  · replace hh := iteO_t h108 hh
    replace h108 := of_decide_eq_true h108
    refine TC.skip ?_
    refine S.n ?_
    refine TC.seq ?_
    refine TC.block ?_
    refine TC.seq ?_
    refine TC.draw [] (by kernel_rfl) ?_
    refine TA.takeP 0 rfl (by kernel_rfl) (by kernel_rfl) (by kernel_rfl) rfl (OpVal.moveSl (.inl rfl) rfl) rfl rfl ?_
    refine TA.takeP 1 rfl (by kernel_rfl) (by kernel_rfl) (by kernel_rfl) rfl (OpVal.moveI (.inl rfl) rfl) rfl rfl ?_
    refine TA.isSl (i := 0) rfl (fun hs110 _ _ => ?_)
    refine TA.take 2 rfl (by kernel_rfl) (by kernel_rfl) (by kernel_rfl) (by kernel_rfl) rfl (OpVal.indexN rfl Try.underlying22 sz57 rfl rfl hs110 (by omega)) rfl rfl ?_
    refine TA.take 3 rfl (by kernel_rfl) (by kernel_rfl) (by kernel_rfl) (by kernel_rfl) rfl (OpVal.loadOA Tip.zero rfl ag57 sz57 rfl (q := 0) rfl encTip_len (by omega) (by omega)) rfl rfl ?_
    refine TA.take 4 rfl (by kernel_rfl) (by kernel_rfl) (by kernel_rfl) (by kernel_rfl) rfl (OpVal.loadAll rfl ag57 sz57 rfl (i := 1) rfl rfl) rfl rfl ?_
    refine TA.takeP 5 rfl (by kernel_rfl) (by kernel_rfl) (by kernel_rfl) rfl (OpVal.eqlSt (p := (nth x0 k106 Tip.zero) = x1) rfl rfl rfl eg57 (es57 (nth x0 k106 Tip.zero) x1) rfl) rfl rfl ?_
    refine TA.done (by kernel_rfl) ?_
    refine S.n ?_
    refine TC.cond rfl (fun h111 => ?_) (fun h111 => ?_)
    · replace hh := iteO_t h111 hh
      replace h111 := of_decide_eq_true h111
      refine TC.seq ?_
      refine TC.region ?_
      refine TL.v rfl (OpVal.moveSl (.inl rfl) rfl) rfl rfl ?_
      refine TL.v rfl (OpVal.moveSl (.inr rfl) rfl) rfl rfl ?_
      refine TL.nil ?_
      refine S.n ?_
      refine TC.ofSub (Sub.pre 1 rfl) ?_
      refine TC.ret ?_
      refine B.r ?_
      refine S.r ?_
      refine S.r ?_
      replace hh := fin_x hR1 hh
      refine B.r ?_
      refine S.r ?_
      obtain rfl := Option.some.inj hh
      exact RetOk.mk' (rs := [.tmp 4]) [Res.rowS 57 2 encTip (.slice a0_1 x0.length c0_2) x0] rfl (.inl rfl) (RVs.tmp rfl RVs.nil) (List.sublist_append_left _ _) ⟨a0_1, c0_2, rfl, rfl, rfl⟩
    · replace hh := iteO_f h111 hh
      replace h111 := of_decide_eq_false h111
      refine TC.skip ?_
      refine B.n ?_
      refine S.n ?_
      refine TC.region ?_
      refine TL.v rfl (OpVal.moveI (.inl rfl) rfl) rfl rfl ?_
      refine TL.v rfl (OpVal.succ rfl rfl rfl (by omega)) rfl rfl ?_
      refine TL.v rfl (OpVal.moveI (.inr rfl) rfl) rfl rfl ?_
      refine TL.nil ?_
      refine S.n ?_
      obtain ⟨hh, hlt112⟩ := nxt_x hR1 hh
      refine ⟨by repeat (first | exact Agr.refl _ _ | exact Agr.mask | refine Agr.upd rfl ?_ | refine Agr.maskIn rfl ?_ | refine Agr.upds rfl ?_), ((k106 + 1), ()), hlt112, hh, by repeat (first | exact trivial | refine ⟨rfl, ?_⟩), Sub.front 1 rfl rfl (Sub.front 1 rfl rfl (Sub.pre 2 rfl)), rfl⟩
  · replace hh := iteO_f h108 hh
    replace h108 := of_decide_eq_false h108
    refine TC.exit ?_
    refine S.x ?_
    refine S.x ?_
    replace hh := fin_x hR1 hh
    refine TC.exitHere ?_
    refine S.n ?_
    refine TC.seq ?_
    refine TC.region ?_
    refine TL.v rfl (OpVal.moveSl (.inl rfl) rfl) rfl rfl ?_
    refine TL.v rfl (OpVal.loadAll rfl ag57 sz57 rfl (i := 1) rfl rfl) rfl rfl ?_
    refine TL.op rfl (OpOk.lit (enc := encTip) [x1] rfl Try.underlying22 sz57 ze57 rfl rfl rfl encTip_len (by decide) (by decide) Tip.zero rfl (by decide) rfl (by decide) encTip_one (fun a113 c114 => ?_))
    refine TL.front 1 rfl rfl ?_
    have u22 := grd_c hh
    replace hh := grd_t hh
    refine TL.op rfl (OpOk.appendS rfl rfl Try.underlying22 sz57 by57 ze57 rfl rfl (by decide) rfl rfl rfl (.inr ⟨_, 0, rfl⟩) (by simpa using u22) (by decide) (fun a116 c117 => ?_))
    refine TL.v rfl (OpVal.moveSl (.inr rfl) rfl) rfl rfl ?_
    refine TL.nil ?_
    refine S.n ?_
    refine TC.ofSub (Sub.pre 1 rfl) ?_
    refine TC.ret ?_
    obtain rfl := Option.some.inj hh
    exact RetOk.mk' (rs := [.tmp 4]) [Res.rowS 57 2 encTip (.slice a116 (x0 ++ [x1]).length c117) (x0 ++ [x1])] rfl (.inl rfl) (RVs.tmp rfl RVs.nil) (List.sublist_append_left _ _) ⟨a116, c117, rfl, rfl, rfl⟩

noncomputable def whittleref15_Step_j2 (k138 : Nat) (l143 : List Tip) : Option (((List Tip) × Nat) ⊕ (((List Tip) × Nat) ⊕ ((List Tip)))) :=
  nxt (l143, (k138 + 1))
noncomputable def whittleref15_Step_j3 (l135 : List Tip) (x0 : Fst) (k138 : Nat) (s150 : List UInt8) : Option (((List Tip) × Nat) ⊕ (((List Tip) × Nat) ⊕ ((List Tip)))) :=
  bnd (whittleref15_with l135 (⟨(nth x0.arcs k138 Arc.zero).to, s150⟩ : Tip)) (fun v65 => whittleref15_Step_j2 k138 v65)
noncomputable def whittleref15_Step_j1 (k117 : Nat) (l121 : List Tip) : Option (((List Tip) × Nat) ⊕ ((List Tip))) :=
  nxt (l121, (k117 + 1))
noncomputable def whittleref15_Step_b2 (x0 : Fst) (x1 : List Tip) (k117 : Nat) (x2 : UInt8) (l135 : List Tip) (k138 : Nat) : Option (((List Tip) × Nat) ⊕ (((List Tip) × Nat) ⊕ ((List Tip)))) :=
  iteO (decide (((k138 : Nat) : Int) < ((x0.arcs.length : Nat) : Int))) (iteO (decide (((l135.length : Nat) : Int) ≤ 4096)) (iteO (decide (((nth x0.arcs k138 Arc.zero).frm) ≠ ((nth x1 k117 Tip.zero).state))) (whittleref15_Step_j2 k138 l135) (iteO (!(((nth x0.arcs k138 Arc.zero).set).has x2.toNat)) (whittleref15_Step_j2 k138 l135) (grd (((nth x1 k117 Tip.zero).out).length + ((nth x0.arcs k138 Arc.zero).out).length ≤ 9223372036854775807) (iteO ((nth x0.arcs k138 Arc.zero).copy) (grd (((nth x1 k117 Tip.zero).out ++ (nth x0.arcs k138 Arc.zero).out).length + [x2].length ≤ 9223372036854775807) (whittleref15_Step_j3 l135 x0 k138 (((nth x1 k117 Tip.zero).out ++ (nth x0.arcs k138 Arc.zero).out) ++ [x2]))) (whittleref15_Step_j3 l135 x0 k138 ((nth x1 k117 Tip.zero).out ++ (nth x0.arcs k138 Arc.zero).out)))))) (fin (whittleref15_Step_j1 k117 l135))) (fin (whittleref15_Step_j1 k117 l135))
noncomputable def whittleref15_Step_b1 (x1 : List Tip) (x0 : Fst) (x2 : UInt8) (l114 : List Tip) (k117 : Nat) : Option (((List Tip) × Nat) ⊕ ((List Tip))) :=
  iteO (decide (((k117 : Nat) : Int) < ((x1.length : Nat) : Int))) (iter (fun q : (List Tip) × Nat => whittleref15_Step_b2 x0 x1 k117 x2 q.1 q.2) (l114, 0)) (fin (some l114))
noncomputable def whittleref15_Step (x0 : Fst) (x1 : List Tip) (x2 : UInt8) : Option ((List Tip)) :=
  iter (fun q : (List Tip) × Nat => whittleref15_Step_b1 x1 x0 x2 q.1 q.2) (([] : List Tip), 0)
def whittleref15_Step_P (σ : Store) (r : (List Tip)) : Value → Store → List Res → Prop := fun v σ' H' =>
  ∃ (a1 : Option Addr), ∃ (c1 : Nat),  v = .slice a1 r.length c1 ∧ σ = σ' ∧ H' = [Res.rowS 57 2 encTip (.slice a1 r.length c1) r]
theorem whittleref15_Step_con {σ : Store} {x0 : Fst} {a0_0 : Option Addr} {c0_0 : Nat} {a0_1 : Option Addr} {c0_1 : Nat} {a0_2 : Option Addr} {c0_2 : Nat} {x1 : List Tip} {a1_0 : Option Addr} {c1_0 : Nat} {x2 : UInt8} (f0_0 : RS σ 2 encTip (.slice a0_0 x0.starts.length c0_0) x0.starts) (f0_1 : RS σ 2 encTip (.slice a0_1 x0.ends.length c0_1) x0.ends) (f0_2 : RS σ 8 encArc (.slice a0_2 x0.arcs.length c0_2) x0.arcs) (f1_0 : RS σ 2 encTip (.slice a1_0 x1.length c1_0) x1) {r : (List Tip)} (hh : whittleref15_Step x0 x1 x2 = some r) :
    Con Try.prog 26 #[.agg #[.int .i64 x0.states, .slice a0_0 x0.starts.length c0_0, .slice a0_1 x0.ends.length c0_1, .slice a0_2 x0.arcs.length c0_2], .slice a1_0 x1.length c1_0, .int .u8 ((x2.toNat : Nat) : Int)] σ [] (whittleref15_Step_P σ r) := by
  dsimp only [whittleref15_Step] at hh
  have f0_0b := f0_0.rv.big
  have f0_1b := f0_1.rv.big
  have f0_2b := f0_2.rv.big
  have f1_0b := f1_0.rv.big
  refine Con.mk (n := 73) Try.func26 rfl rfl rfl (fun w0 => ?_)
  refine TC.seq ?_
  refine TC.region ?_
  refine TL.op rfl (OpOk.boxA rfl rfl rfl rfl (fun b101 => ?_))
  refine TL.v rfl (OpVal.moveSl (.inr rfl) rfl) rfl rfl ?_
  refine TL.nil ?_
  refine S.n ?_
  refine TC.seq ?_
  refine TC.region ?_
  refine TL.v rfl (OpVal.moveSl (.inr rfl) rfl) rfl rfl ?_
  refine TL.nil ?_
  refine S.n ?_
  refine TC.seq ?_
  refine TC.seq ?_
  refine TC.region ?_
  refine TL.v rfl (OpVal.moveI (.inr rfl) rfl) rfl rfl ?_
  refine TL.nil ?_
  refine S.n ?_
  refine TC.block ?_
  refine TC.nilS 57 2 encTip ?_
  refine TC.loopG (α := ((List Tip) × Nat) × ((Option Addr) × Nat)) [7, 8, 9, 10, 11, 12, 13, 14, 15, 16, 17, 18, 19, 20, 21, 22, 23, 24, 25, 26, 27, 28, 29, 30, 31, 32, 33, 34, 35, 36, 37, 38, 39, 40, 41, 42, 43, 44, 45, 46, 47, 48, 49, 50, 51, 52, 53, 54, 55, 56, 57, 58, 59, 60, 61, 62, 63, 64, 65, 66, 67, 68, 69, 70, 71] (fun g => [(7, .slice g.2.1 g.1.1.length g.2.2), (8, .int .i64 ((g.1.2 : Nat) : Int))]) (fun g => [Res.cells b101 #[.int .i64 x0.states, .slice a0_0 x0.starts.length c0_0, .slice a0_1 x0.ends.length c0_1, .slice a0_2 x0.arcs.length c0_2] 25, Res.rowS 57 2 encTip (.slice g.2.1 g.1.1.length g.2.2) g.1.1]) (fun g => σ) (fun g => iter (fun q : (List Tip) × Nat => whittleref15_Step_b1 x1 x0 x2 q.1 q.2) g.1 = some r) (fun g => rounds (fun q : (List Tip) × Nat => whittleref15_Step_b1 x1 x0 x2 q.1 q.2) g.1) ((([] : List Tip), 0), (none, 0)) (Sub.front 1 rfl rfl (Sub.pre 2 rfl)) rfl (by repeat (first | exact trivial | refine ⟨rfl, ?_⟩)) hh (fun g1 j1 hg1 => ?_)
  obtain ⟨⟨l114, k117⟩, ⟨a115, c116⟩⟩ := g1
  have hh := hg1; clear hg1
  show TC _ _ _ (upds (mask _ j1 _) [(7, .slice a115 l114.length c116), (8, .int .i64 ((k117 : Nat) : Int))]) _ [Res.cells b101 #[.int .i64 x0.states, .slice a0_0 x0.starts.length c0_0, .slice a0_1 x0.ends.length c0_1, .slice a0_2 x0.arcs.length c0_2] 25, Res.rowS 57 2 encTip (.slice a115 l114.length c116) l114]
  obtain ⟨z1, hh, hR1⟩ := iter_e hh
  dsimp only [whittleref15_Step_b1] at hh
  refine TC.isSl (i := 1) rfl (fun _ hb119 _ => ?_)
  refine TC.seq ?_
  refine TC.seq ?_
  refine TC.region ?_
  refine TL.v rfl (OpVal.moveI (.inl rfl) rfl) rfl rfl ?_
  refine TL.v rfl (OpVal.moveSl (.inl rfl) rfl) rfl rfl ?_
  refine TL.v rfl (OpVal.lenC rfl Try.underlying22 rfl) rfl rfl ?_
  refine TL.v rfl (OpVal.lss rfl rfl rfl) rfl rfl ?_
  refine TL.nil ?_
  refine S.n ?_
  refine TC.cond rfl (fun h120 => ?_) (fun h120 => ?_)
  · replace hh := iteO_t h120 hh
    replace h120 := of_decide_eq_true h120
    refine TC.skip ?_
    refine S.n ?_
    refine TC.cutG (α := ((List Tip)) × ((Option Addr) × Nat)) [7, 9, 10, 11, 18, 19, 20, 21, 22, 23, 24, 25, 26, 27, 28, 29, 30, 31, 32, 33, 34, 35, 36, 37, 38, 39, 40, 41, 42, 43, 44, 45, 46, 47, 48, 49, 50, 51, 52, 53, 54, 55, 56, 57, 58, 59, 60, 61, 62, 63, 64, 65, 66, 67, 68, 69, 70, 71] (fun g => [(7, .slice g.2.1 g.1.length g.2.2)]) (fun g => [Res.cells b101 #[.int .i64 x0.states, .slice a0_0 x0.starts.length c0_0, .slice a0_1 x0.ends.length c0_1, .slice a0_2 x0.arcs.length c0_2] 25, Res.rowS 57 2 encTip (.slice g.2.1 g.1.length g.2.2) g.1]) (fun g => σ) (fun g => whittleref15_Step_j1 k117 g.1 = some z1) ?_ (fun g j hg => ?_)
    · skip
      refine TC.block ?_
      refine TC.seq ?_
      refine TC.region ?_
      refine TL.v rfl (OpVal.moveI (.inr rfl) rfl) rfl rfl ?_
      refine TL.nil ?_
      refine S.n ?_
      refine TC.block ?_
      refine TC.loopG (α := ((List Tip) × Nat) × ((Option Addr) × Nat)) [7, 9, 10, 11, 18, 19, 20, 21, 22, 23, 24, 25, 26, 27, 28, 29, 30, 31, 32, 33, 34, 35, 36, 37, 38, 39, 40, 41, 42, 43, 44, 45, 46, 47, 48, 49, 50, 51, 52, 53, 54, 55, 56, 57, 58, 59, 60, 61, 62, 63, 64, 65, 66, 67, 68, 69, 70, 71] (fun g => [(7, .slice g.2.1 g.1.1.length g.2.2), (9, .int .i64 ((g.1.2 : Nat) : Int))]) (fun g => [Res.cells b101 #[.int .i64 x0.states, .slice a0_0 x0.starts.length c0_0, .slice a0_1 x0.ends.length c0_1, .slice a0_2 x0.arcs.length c0_2] 25, Res.rowS 57 2 encTip (.slice g.2.1 g.1.1.length g.2.2) g.1.1]) (fun g => σ) (fun g => iter (fun q : (List Tip) × Nat => whittleref15_Step_b2 x0 x1 k117 x2 q.1 q.2) g.1 = some z1) (fun g => rounds (fun q : (List Tip) × Nat => whittleref15_Step_b2 x0 x1 k117 x2 q.1 q.2) g.1) ((l114, 0), (a115, c116)) (Sub.front 1 rfl rfl (Sub.front 1 rfl rfl (Sub.pre 2 rfl))) rfl (by repeat (first | exact trivial | refine ⟨rfl, ?_⟩)) hh (fun g2 j2 hg2 => ?_)
      obtain ⟨⟨l135, k138⟩, ⟨a136, c137⟩⟩ := g2
      have hh := hg2; clear hg2
      show TC _ _ _ (upds (mask _ j2 _) [(7, .slice a136 l135.length c137), (9, .int .i64 ((k138 : Nat) : Int))]) _ [Res.cells b101 #[.int .i64 x0.states, .slice a0_0 x0.starts.length c0_0, .slice a0_1 x0.ends.length c0_1, .slice a0_2 x0.arcs.length c0_2] 25, Res.rowS 57 2 encTip (.slice a136 l135.length c137) l135]
      obtain ⟨z2, hh, hR2⟩ := iter_e hh
      dsimp only [whittleref15_Step_b2] at hh
      refine TC.isSl (i := 1) rfl (fun _ hb139 _ => ?_)
      refine TC.seq ?_
      refine TC.seq ?_
      refine TC.region ?_
      refine TL.v rfl (OpVal.moveI (.inl rfl) rfl) rfl rfl ?_
      refine TL.v rfl (OpVal.fieldLoc rfl fo25_3 rfl) rfl rfl ?_
      refine TL.v rfl (OpVal.loadLoc rfl ag23 rfl (i := 0) rfl rfl) rfl rfl ?_
      refine TL.v rfl (OpVal.lenC rfl Try.underlying23 rfl) rfl rfl ?_
      refine TL.v rfl (OpVal.lss rfl rfl rfl) rfl rfl ?_
      refine TL.v rfl (OpVal.moveB (.inl rfl) rfl) rfl rfl ?_
      refine TL.split 23 rfl (fun h140 => ?_) (fun h140 => ?_)
      · replace hh := iteO_t h140 hh
        replace h140 := of_decide_eq_true h140
        refine TL.gv rfl rfl rfl rfl rfl (OpVal.moveSl (.inl rfl) rfl) rfl rfl ?_
        refine TL.gv rfl rfl rfl rfl rfl (OpVal.lenC rfl Try.underlying22 rfl) rfl rfl ?_
        refine TL.gv rfl rfl rfl rfl rfl (OpVal.leq rfl rfl rfl) rfl rfl ?_
        refine TL.v rfl (OpVal.pickTB rfl rfl rfl) rfl rfl ?_
        refine TL.nil ?_
        refine S.n ?_
        refine TC.cond rfl (fun h141 => ?_) (fun h141 => ?_)
        · replace hh := iteO_t h141 hh
          replace h141 := of_decide_eq_true h141
          refine TC.skip ?_
          refine S.n ?_
          refine TC.cutG (α := ((List Tip)) × ((Option Addr) × Nat)) [7, 10, 11, 30, 31, 32, 33, 34, 35, 36, 37, 38, 39, 40, 41, 42, 43, 44, 45, 46, 47, 48, 49, 50, 51, 52, 53, 54, 55, 56, 57, 58, 59, 60, 61, 62, 63, 64, 65, 66, 67, 68, 69, 70, 71] (fun g => [(7, .slice g.2.1 g.1.length g.2.2)]) (fun g => [Res.cells b101 #[.int .i64 x0.states, .slice a0_0 x0.starts.length c0_0, .slice a0_1 x0.ends.length c0_1, .slice a0_2 x0.arcs.length c0_2] 25, Res.rowS 57 2 encTip (.slice g.2.1 g.1.length g.2.2) g.1]) (fun g => σ) (fun g => whittleref15_Step_j2 k138 g.1 = some z2) ?_ (fun g j hg => ?_)
          · skip
            refine TC.block ?_
            refine TC.seq ?_
            refine TC.region ?_
            refine TL.v rfl (OpVal.fieldLoc rfl fo25_3 rfl) rfl rfl ?_
            refine TL.v rfl (OpVal.loadLoc rfl ag23 rfl (i := 0) rfl rfl) rfl rfl ?_
            refine TL.v rfl (OpVal.moveI (.inl rfl) rfl) rfl rfl ?_
            refine TL.v rfl (OpVal.indexN rfl Try.underlying23 sz41 rfl rfl f0_2.rv.sl (by omega)) rfl rfl ?_
            refine TL.v rfl (OpVal.loadSA Arc.zero rfl ag41 sz41 rfl f0_2 (by omega) (by omega)) rfl rfl ?_
            refine TL.op rfl (OpOk.alloc rfl ze41 rfl rfl (fun b146 => ?_))
            refine TL.op rfl (OpOk.storeAll rfl sz41 rfl rfl rfl rfl rfl rfl ?_)
            refine TL.nil ?_
            refine S.n ?_
            refine TC.seq ?_
            refine TC.seq ?_
            refine TC.draw [] (by kernel_rfl) ?_
            refine TA.takeP 0 rfl (by kernel_rfl) (by kernel_rfl) (by kernel_rfl) rfl (OpVal.fieldLoc rfl fo41_0 rfl) rfl rfl ?_
            refine TA.take 1 rfl (by kernel_rfl) (by kernel_rfl) (by kernel_rfl) (by kernel_rfl) rfl (OpVal.loadLoc rfl ag3 rfl (i := 0) rfl rfl) rfl rfl ?_
            refine TA.takeP 2 rfl (by kernel_rfl) (by kernel_rfl) (by kernel_rfl) rfl (OpVal.moveSl (.inl rfl) rfl) rfl rfl ?_
            refine TA.takeP 3 rfl (by kernel_rfl) (by kernel_rfl) (by kernel_rfl) rfl (OpVal.moveI (.inl rfl) rfl) rfl rfl ?_
            refine TA.take 4 rfl (by kernel_rfl) (by kernel_rfl) (by kernel_rfl) (by kernel_rfl) rfl (OpVal.indexN rfl Try.underlying22 sz57 rfl rfl f1_0.rv.sl (by omega)) rfl rfl ?_
            refine TA.takeP 5 rfl (by kernel_rfl) (by kernel_rfl) (by kernel_rfl) rfl (OpVal.fieldElem rfl fo57_0 rfl f1_0.rv.sl (by omega)) rfl rfl ?_
            refine TA.take 6 rfl (by kernel_rfl) (by kernel_rfl) (by kernel_rfl) (by kernel_rfl) rfl (OpVal.loadS Tip.zero rfl ag3 rfl f1_0 (by omega) (by omega) rfl) rfl rfl ?_
            refine TA.takeP 7 rfl (by kernel_rfl) (by kernel_rfl) (by kernel_rfl) rfl (OpVal.neq rfl rfl rfl) rfl rfl ?_
            refine TA.takeP 8 rfl (by kernel_rfl) (by kernel_rfl) (by kernel_rfl) rfl (OpVal.moveB (.inl rfl) rfl) rfl rfl ?_
            refine TA.split 43 rfl (fun h148 => ?_) (fun h148 => ?_)
            · replace hh := iteO_t h148 hh
              replace h148 := of_decide_eq_true h148
              refine TA.takeOff 9 rfl (by kernel_rfl) (by kernel_rfl) (by kernel_rfl) (by kernel_rfl) rfl rfl rfl rfl rfl rfl rfl rfl ?_
              refine TA.takeOff 10 rfl (by kernel_rfl) (by kernel_rfl) (by kernel_rfl) (by kernel_rfl) rfl rfl rfl rfl rfl rfl rfl rfl ?_
              refine TA.takeOff 11 rfl (by kernel_rfl) (by kernel_rfl) (by kernel_rfl) (by kernel_rfl) rfl rfl rfl rfl rfl rfl rfl rfl ?_
              refine TA.takeOff 12 rfl (by kernel_rfl) (by kernel_rfl) (by kernel_rfl) (by kernel_rfl) rfl rfl rfl rfl rfl rfl rfl rfl ?_
              refine TA.takeOff 13 rfl (by kernel_rfl) (by kernel_rfl) (by kernel_rfl) (by kernel_rfl) rfl rfl rfl rfl rfl rfl rfl rfl ?_
              refine TA.takeOff 14 rfl (by kernel_rfl) (by kernel_rfl) (by kernel_rfl) (by kernel_rfl) rfl rfl rfl rfl rfl rfl rfl rfl ?_
              refine TA.takeP 15 rfl (by kernel_rfl) (by kernel_rfl) (by kernel_rfl) rfl (OpVal.pickTB rfl rfl rfl) rfl rfl ?_
              refine TA.done (by kernel_rfl) ?_
              refine S.n ?_
              refine TC.cond rfl (fun _ => ?_) (fun h => Bool.noConfusion h)
              refine TC.exit ?_
              refine S.x ?_
              refine TC.exitHere ?_
              refine S.n ?_
              refine ⟨by repeat (first | exact Agr.refl _ _ | exact Agr.mask | refine Agr.upd rfl ?_ | refine Agr.maskIn rfl ?_ | refine Agr.upds rfl ?_), (l135, (a136, c137)), hh, by repeat (first | exact trivial | refine ⟨rfl, ?_⟩), Sub.front 2 rfl rfl (Sub.front 2 rfl rfl (Sub.pre 2 rfl)), rfl⟩
            · replace hh := iteO_f h148 hh
              replace h148 := of_decide_eq_false h148
              refine TA.takeOn 9 rfl (by kernel_rfl) (by kernel_rfl) (by kernel_rfl) (by kernel_rfl) rfl rfl rfl rfl rfl (OpVal.fieldLoc rfl fo41_2 rfl) rfl rfl ?_
              refine TA.takeOn 10 rfl (by kernel_rfl) (by kernel_rfl) (by kernel_rfl) (by kernel_rfl) rfl rfl rfl rfl rfl (OpVal.loadLocA rfl ag39 sz39 rfl (i := 0) rfl rfl rfl) rfl rfl ?_
              refine TA.takeOn 11 rfl (by kernel_rfl) (by kernel_rfl) (by kernel_rfl) (by kernel_rfl) rfl rfl rfl rfl rfl (OpVal.moveI (.inl rfl) rfl) rfl rfl ?_
              refine TA.takeOn 12 rfl (by kernel_rfl) (by kernel_rfl) (by kernel_rfl) (by kernel_rfl) rfl rfl rfl rfl rfl (OpVal.convN rfl Try.underlying5 Try.underlying3 rfl (by have := UInt8.toNat_lt x2; simp only [kmax]; omega)) rfl rfl ?_
              refine TA.actOn 13 (by kernel_rfl) rfl rfl rfl rfl rfl rfl (OpOk.callP (rhas_con _ ((nth x0.arcs k138 Arc.zero).set) x2.toNat (BSet.isOk _) (UInt8.toNat_lt _)) rfl rfl pf46 rfl rfl rfl ⟨(fun w h => sees_of (Store.le.refl _) (fun r hr => hr) w h), ?_⟩)
              refine TA.takeOn 14 rfl (by kernel_rfl) (by kernel_rfl) (by kernel_rfl) (by kernel_rfl) rfl rfl rfl rfl rfl (OpVal.not rfl rfl) rfl rfl ?_
              refine TA.takeP 15 rfl (by kernel_rfl) (by kernel_rfl) (by kernel_rfl) rfl (OpVal.pickFB rfl rfl rfl) rfl rfl ?_
              refine TA.done (by kernel_rfl) ?_
              refine S.n ?_
              refine TC.cond rfl (fun h149 => ?_) (fun h149 => ?_)
              · replace hh := iteO_t h149 hh
                refine TC.exit ?_
                refine S.x ?_
                refine TC.exitHere ?_
                refine S.n ?_
                refine ⟨by repeat (first | exact Agr.refl _ _ | exact Agr.mask | refine Agr.upd rfl ?_ | refine Agr.maskIn rfl ?_ | refine Agr.upds rfl ?_), (l135, (a136, c137)), hh, by repeat (first | exact trivial | refine ⟨rfl, ?_⟩), Sub.front 2 rfl rfl (Sub.front 2 rfl rfl (Sub.pre 2 rfl)), rfl⟩
              · replace hh := iteO_f h149 hh
                refine TC.skip ?_
                refine S.n ?_
                refine TC.seq ?_
                have u50 := grd_c hh
                replace hh := grd_t hh
                refine TC.draw [] (by kernel_rfl) ?_
                refine TA.takeP 0 rfl (by kernel_rfl) (by kernel_rfl) (by kernel_rfl) rfl (OpVal.moveSl (.inl rfl) rfl) rfl rfl ?_
                refine TA.takeP 1 rfl (by kernel_rfl) (by kernel_rfl) (by kernel_rfl) rfl (OpVal.moveI (.inl rfl) rfl) rfl rfl ?_
                refine TA.take 2 rfl (by kernel_rfl) (by kernel_rfl) (by kernel_rfl) (by kernel_rfl) rfl (OpVal.indexN rfl Try.underlying22 sz57 rfl rfl f1_0.rv.sl (by omega)) rfl rfl ?_
                refine TA.takeP 3 rfl (by kernel_rfl) (by kernel_rfl) (by kernel_rfl) rfl (OpVal.fieldElem rfl fo57_1 rfl f1_0.rv.sl (by omega)) rfl rfl ?_
                refine TA.take 4 rfl (by kernel_rfl) (by kernel_rfl) (by kernel_rfl) (by kernel_rfl) rfl (OpVal.loadS Tip.zero rfl ag9 rfl f1_0 (by omega) (by omega) rfl) rfl rfl ?_
                refine TA.takeP 5 rfl (by kernel_rfl) (by kernel_rfl) (by kernel_rfl) rfl (OpVal.fieldLoc rfl fo41_3 rfl) rfl rfl ?_
                refine TA.take 6 rfl (by kernel_rfl) (by kernel_rfl) (by kernel_rfl) (by kernel_rfl) rfl (OpVal.loadLoc rfl ag9 rfl (i := 0) rfl rfl) rfl rfl ?_
                refine TA.takeP 7 rfl (by kernel_rfl) (by kernel_rfl) (by kernel_rfl) rfl (OpVal.catBs rfl rfl rfl u50) rfl rfl ?_
                refine TA.takeP 8 rfl (by kernel_rfl) (by kernel_rfl) (by kernel_rfl) rfl (OpVal.moveStr (.inr rfl) rfl) rfl rfl ?_
                refine TA.done (by kernel_rfl) ?_
                refine S.n ?_
                refine TC.cutG (α := ((List UInt8)) × (Unit)) [11, 59, 60, 61, 62, 63, 64, 65] (fun g => [(11, .string (bs g.1))]) (fun g => [Res.cells b101 #[.int .i64 x0.states, .slice a0_0 x0.starts.length c0_0, .slice a0_1 x0.ends.length c0_1, .slice a0_2 x0.arcs.length c0_2] 25, Res.rowS 57 2 encTip (.slice a136 l135.length c137) l135, Res.cells b146 #[.int .i64 ((nth x0.arcs k138 Arc.zero).frm), .int .i64 ((nth x0.arcs k138 Arc.zero).to), .int .u64 ((((nth x0.arcs k138 Arc.zero).set).a : Nat) : Int), .int .u64 ((((nth x0.arcs k138 Arc.zero).set).b : Nat) : Int), .int .u64 ((((nth x0.arcs k138 Arc.zero).set).c : Nat) : Int), .int .u64 ((((nth x0.arcs k138 Arc.zero).set).d : Nat) : Int), .string (bs ((nth x0.arcs k138 Arc.zero).out)), .bool ((nth x0.arcs k138 Arc.zero).copy)] 41]) (fun g => σ) (fun g => whittleref15_Step_j3 l135 x0 k138 g.1 = some z2) ?_ (fun g j hg => ?_)
                · skip
                  refine TC.seq ?_
                  refine TC.region ?_
                  refine TL.v rfl (OpVal.fieldLoc rfl fo41_4 rfl) rfl rfl ?_
                  refine TL.v rfl (OpVal.loadLoc rfl ag4 rfl (i := 0) rfl rfl) rfl rfl ?_
                  refine TL.nil ?_
                  refine S.n ?_
                  refine TC.cond rfl (fun h151 => ?_) (fun h151 => ?_)
                  · replace hh := iteO_t h151 hh
                    refine TC.region ?_
                    refine TL.v rfl (OpVal.moveStr (.inl rfl) rfl) rfl rfl ?_
                    refine TL.v rfl (OpVal.moveI (.inl rfl) rfl) rfl rfl ?_
                    refine TL.op rfl (OpOk.lit (enc := encU8) [x2] rfl Try.underlying87 sz5 ze5 rfl rfl rfl encU8_len (by decide) (by decide) (0 : UInt8) rfl (by decide) rfl (by decide) encU8_one (fun a152 c153 => ?_))
                    refine TL.isSl (i := 0) rfl (fun hs155 _ _ => ?_)
                    refine TL.v rfl (OpVal.bytesStr (l := [x2]) rfl Try.underlying87 Try.underlying5 Try.underlying9 rfl hs155 (fun w hw => rdb_row (q := 0) rfl hw)) rfl rfl ?_
                    have u58 := grd_c hh
                    replace hh := grd_t hh
                    refine TL.v rfl (OpVal.catBs rfl rfl rfl u58) rfl rfl ?_
                    refine TL.v rfl (OpVal.moveStr (.inr rfl) rfl) rfl rfl ?_
                    refine TL.nil ?_
                    refine S.n ?_
                    refine ⟨by repeat (first | exact Agr.refl _ _ | exact Agr.mask | refine Agr.upd rfl ?_ | refine Agr.maskIn rfl ?_ | refine Agr.upds rfl ?_), ((((nth x1 k117 Tip.zero).out ++ (nth x0.arcs k138 Arc.zero).out) ++ [x2]), ()), hh, by repeat (first | exact trivial | refine ⟨rfl, ?_⟩), Sub.front 1 rfl rfl (Sub.front 3 rfl rfl (Sub.front 3 rfl rfl (Sub.pre 3 rfl))), rfl⟩
                  · replace hh := iteO_f h151 hh
                    refine TC.skip ?_
                    refine S.n ?_
                    refine ⟨by repeat (first | exact Agr.refl _ _ | exact Agr.mask | refine Agr.upd rfl ?_ | refine Agr.maskIn rfl ?_ | refine Agr.upds rfl ?_), (((nth x1 k117 Tip.zero).out ++ (nth x0.arcs k138 Arc.zero).out), ()), hh, by repeat (first | exact trivial | refine ⟨rfl, ?_⟩), Sub.front 2 rfl rfl (Sub.front 2 rfl rfl (Sub.pre 3 rfl)), rfl⟩
                · skip
                  obtain ⟨s150, _⟩ := g
                  have hh := hg; clear hg
                  show TC _ _ _ (upds (mask _ j _) [(11, .string (bs s150))]) _ [Res.cells b101 #[.int .i64 x0.states, .slice a0_0 x0.starts.length c0_0, .slice a0_1 x0.ends.length c0_1, .slice a0_2 x0.arcs.length c0_2] 25, Res.rowS 57 2 encTip (.slice a136 l135.length c137) l135, Res.cells b146 #[.int .i64 ((nth x0.arcs k138 Arc.zero).frm), .int .i64 ((nth x0.arcs k138 Arc.zero).to), .int .u64 ((((nth x0.arcs k138 Arc.zero).set).a : Nat) : Int), .int .u64 ((((nth x0.arcs k138 Arc.zero).set).b : Nat) : Int), .int .u64 ((((nth x0.arcs k138 Arc.zero).set).c : Nat) : Int), .int .u64 ((((nth x0.arcs k138 Arc.zero).set).d : Nat) : Int), .string (bs ((nth x0.arcs k138 Arc.zero).out)), .bool ((nth x0.arcs k138 Arc.zero).copy)] 41]
                  dsimp only [whittleref15_Step_j3] at hh
                  refine TC.isSl (i := 1) rfl (fun _ hb156 _ => ?_)
                  refine TC.region ?_
                  refine TL.v rfl (OpVal.moveSl (.inl rfl) rfl) rfl rfl ?_
                  refine TL.v rfl (OpVal.fieldLoc rfl fo41_1 rfl) rfl rfl ?_
                  refine TL.v rfl (OpVal.loadLoc rfl ag3 rfl (i := 2) rfl rfl) rfl rfl ?_
                  refine TL.v rfl (OpVal.moveStr (.inl rfl) rfl) rfl rfl ?_
                  refine TL.v rfl (OpVal.buildL rfl pl57 ze57 rfl) rfl rfl ?_
                  refine TL.front 1 rfl rfl ?_
                  obtain ⟨v65, u65, hh⟩ := bnd_e hh
                  refine TL.op rfl (OpOk.call (whittleref15_with_con u65) rfl rfl pf25 rfl rfl rfl rfl ?_)
                  rintro _ _ _ hle157 ⟨a157_1, c157_2, rfl, rfl, rfl⟩
                  refine TL.v rfl (OpVal.moveSl (.inr rfl) rfl) rfl rfl ?_
                  refine TL.nil ?_
                  refine B.n ?_
                  refine S.n ?_
                  refine ⟨by repeat (first | exact Agr.refl _ _ | exact Agr.mask | refine Agr.upd rfl ?_ | refine Agr.maskIn rfl ?_ | refine Agr.upds rfl ?_), (v65, (a157_1, c157_2)), hh, by repeat (first | exact trivial | refine ⟨rfl, ?_⟩), Sub.front 1 rfl rfl (Sub.pre 2 rfl), rfl⟩
          · skip
            obtain ⟨l143, ⟨a144, c145⟩⟩ := g
            have hh := hg; clear hg
            show TC _ _ _ (upds (mask _ j _) [(7, .slice a144 l143.length c145)]) _ [Res.cells b101 #[.int .i64 x0.states, .slice a0_0 x0.starts.length c0_0, .slice a0_1 x0.ends.length c0_1, .slice a0_2 x0.arcs.length c0_2] 25, Res.rowS 57 2 encTip (.slice a144 l143.length c145) l143]
            dsimp only [whittleref15_Step_j2] at hh
            refine TC.isSl (i := 1) rfl (fun _ hb159 _ => ?_)
            refine TC.region ?_
            refine TL.v rfl (OpVal.moveI (.inl rfl) rfl) rfl rfl ?_
            refine TL.v rfl (OpVal.succ rfl rfl rfl (by omega)) rfl rfl ?_
            refine TL.v rfl (OpVal.moveI (.inr rfl) rfl) rfl rfl ?_
            refine TL.nil ?_
            refine S.n ?_
            obtain ⟨hh, hlt160⟩ := nxt_x hR2 hh
            refine ⟨by repeat (first | exact Agr.refl _ _ | exact Agr.mask | refine Agr.upd rfl ?_ | refine Agr.maskIn rfl ?_ | refine Agr.upds rfl ?_), ((l143, (k138 + 1)), (a144, c145)), hlt160, hh, by repeat (first | exact trivial | refine ⟨rfl, ?_⟩), Sub.front 1 rfl rfl (Sub.front 1 rfl rfl (Sub.pre 2 rfl)), rfl⟩
        · replace hh := iteO_f h141 hh
          replace h141 := of_decide_eq_false h141
          refine TC.exit ?_
          refine S.x ?_
          refine S.x ?_
          replace hh := fin_x hR2 hh
          refine TC.exitHere ?_
          refine B.n ?_
          refine S.n ?_
          refine ⟨by repeat (first | exact Agr.refl _ _ | exact Agr.mask | refine Agr.upd rfl ?_ | refine Agr.maskIn rfl ?_ | refine Agr.upds rfl ?_), (l135, (a136, c137)), hh, by repeat (first | exact trivial | refine ⟨rfl, ?_⟩), Sub.front 1 rfl rfl (Sub.front 1 rfl rfl (Sub.pre 2 rfl)), rfl⟩
      · replace hh := iteO_f h140 hh
        replace h140 := of_decide_eq_false h140
        refine TL.goff rfl rfl rfl rfl rfl rfl rfl rfl ?_
        refine TL.goff rfl rfl rfl rfl rfl rfl rfl rfl ?_
        refine TL.goff rfl rfl rfl rfl rfl rfl rfl rfl ?_
        refine TL.v rfl (OpVal.pickFB rfl rfl rfl) rfl rfl ?_
        refine TL.nil ?_
        refine S.n ?_
        refine TC.cond rfl (fun h => Bool.noConfusion h) (fun _ => ?_)
        refine TC.exit ?_
        refine S.x ?_
        refine S.x ?_
        replace hh := fin_x hR2 hh
        refine TC.exitHere ?_
        refine B.n ?_
        refine S.n ?_
        refine ⟨by repeat (first | exact Agr.refl _ _ | exact Agr.mask | refine Agr.upd rfl ?_ | refine Agr.maskIn rfl ?_ | refine Agr.upds rfl ?_), (l135, (a136, c137)), hh, by repeat (first | exact trivial | refine ⟨rfl, ?_⟩), Sub.front 1 rfl rfl (Sub.front 1 rfl rfl (Sub.pre 2 rfl)), rfl⟩
    · skip
      obtain ⟨l121, ⟨a122, c123⟩⟩ := g
      have hh := hg; clear hg
      show TC _ _ _ (upds (mask _ j _) [(7, .slice a122 l121.length c123)]) _ [Res.cells b101 #[.int .i64 x0.states, .slice a0_0 x0.starts.length c0_0, .slice a0_1 x0.ends.length c0_1, .slice a0_2 x0.arcs.length c0_2] 25, Res.rowS 57 2 encTip (.slice a122 l121.length c123) l121]
      dsimp only [whittleref15_Step_j1] at hh
      refine TC.isSl (i := 1) rfl (fun _ hb161 _ => ?_)
      refine TC.region ?_
      refine TL.v rfl (OpVal.moveI (.inl rfl) rfl) rfl rfl ?_
      refine TL.v rfl (OpVal.succ rfl rfl rfl (by omega)) rfl rfl ?_
      refine TL.v rfl (OpVal.moveI (.inr rfl) rfl) rfl rfl ?_
      refine TL.nil ?_
      refine S.n ?_
      obtain ⟨hh, hlt162⟩ := nxt_x hR1 hh
      refine ⟨by repeat (first | exact Agr.refl _ _ | exact Agr.mask | refine Agr.upd rfl ?_ | refine Agr.maskIn rfl ?_ | refine Agr.upds rfl ?_), ((l121, (k117 + 1)), (a122, c123)), hlt162, hh, by repeat (first | exact trivial | refine ⟨rfl, ?_⟩), Sub.front 1 rfl rfl (Sub.front 1 rfl rfl (Sub.pre 2 rfl)), rfl⟩
  · replace hh := iteO_f h120 hh
    replace h120 := of_decide_eq_false h120
    refine TC.exit ?_
    refine S.x ?_
    refine S.x ?_
    replace hh := fin_x hR1 hh
    refine TC.exitHere ?_
    refine S.n ?_
    refine TC.seq ?_
    refine TC.region ?_
    refine TL.v rfl (OpVal.moveSl (.inl rfl) rfl) rfl rfl ?_
    refine TL.v rfl (OpVal.moveSl (.inr rfl) rfl) rfl rfl ?_
    refine TL.nil ?_
    refine S.n ?_
    refine TC.ofSub (Sub.front 1 rfl rfl (Sub.pre 1 rfl)) ?_
    refine TC.ret ?_
    obtain rfl := Option.some.inj hh
    exact RetOk.mk' (rs := [.tmp 6]) [Res.rowS 57 2 encTip (.slice a115 l114.length c116) l114] rfl (.inl rfl) (RVs.tmp rfl RVs.nil) (List.sublist_append_left _ _) ⟨a115, c116, rfl, rfl, rfl⟩

end Go.Proofs.Ytpijipnmfkehcaa
