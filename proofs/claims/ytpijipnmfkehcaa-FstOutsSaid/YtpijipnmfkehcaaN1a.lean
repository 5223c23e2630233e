/- Decompiled: what an automaton takes. -/
import Derived.Test.YtpijipnmfkehcaaNfa1
import Derived.Test.YtpijipnmfkehcaaDec2
set_option linter.unusedVariables false
set_option linter.unusedSimpArgs false
namespace Go.Proofs.Ytpijipnmfkehcaa
open Go Go.E
set_option maxRecDepth 100000
private theorem ag50 : Go.E.aggOf Try.prog 50 = some true := by kernel_rfl
private theorem pf20 : Go.E.plainF Try.prog 20 = true := by kernel_rfl
private theorem pf38 : Go.E.plainF Try.prog 38 = true := by kernel_rfl
private theorem pl60 : Go.E.plOf Try.prog 60 = some #[] := by kernel_rfl
private theorem sz50 : Go.E.szOf Try.prog 50 = some 4 := by kernel_rfl
private theorem sz60 : Go.E.szOf Try.prog 60 = some 0 := by kernel_rfl
private theorem ze60 : Go.E.zeroOf Try.prog 60 = some (.agg #[]) := by kernel_rfl

noncomputable def nfa_Takes_j2 (k137 : Nat) (m139 : List Int) : Option (((List Int) × Nat) ⊕ (((List Int) × Nat) ⊕ (Bool × Int))) :=
  nxt (m139, (k137 + 1))
noncomputable def nfa_Takes_b3 (x0 : Nfa) (m125 : List Int) (x1 : List UInt8) (k127 : Nat) (m136 : List Int) (k137 : Nat) : Option (((List Int) × Nat) ⊕ (((List Int) × Nat) ⊕ (Bool × Int))) :=
  iteO (decide (((k137 : Nat) : Int) < ((x0.edges.length : Nat) : Int))) (iteO (!(m125.contains ((nth x0.edges k137 Arrow.zero).frm))) (nfa_Takes_j2 k137 m136) (iteO (((nth x0.edges k137 Arrow.zero).set).has (nth x1 k127 (0 : UInt8)).toNat) (nfa_Takes_j2 k137 (insK m136 ((nth x0.edges k137 Arrow.zero).to))) (nfa_Takes_j2 k137 m136))) (fin (nxt (m136, (k127 + 1))))
noncomputable def nfa_Takes_b4 (x0 : Nfa) (m114 : List Int) (k150 : Nat) : Option ((Nat) ⊕ (Bool × Int)) :=
  iteO (decide (((k150 : Nat) : Int) < ((x0.ends.length : Nat) : Int))) (iteO (m114.contains (nth x0.ends k150 (0 : Int))) (fin (some (true, 0))) (nxt (k150 + 1))) (fin (some (false, 0)))
noncomputable def nfa_Takes_j1 (x0 : Nfa) (m114 : List Int) : Option (Bool × Int) :=
  iter (fun q : Nat => nfa_Takes_b4 x0 m114 q) 0
noncomputable def nfa_Takes_b2 (x1 : List UInt8) (x0 : Nfa) (m125 : List Int) (k127 : Nat) : Option (((List Int) × Nat) ⊕ (Bool × Int)) :=
  iteO (decide (((k127 : Nat) : Int) < ((x1.length : Nat) : Int))) (iteO (decide (0 < ((m125.length : Nat) : Int))) (iter (fun q : (List Int) × Nat => nfa_Takes_b3 x0 m125 x1 k127 q.1 q.2) (([] : List Int), 0)) (fin (nfa_Takes_j1 x0 m125))) (fin (nfa_Takes_j1 x0 m125))
noncomputable def nfa_Takes_b1 (x0 : Nfa) (x1 : List UInt8) (m110 : List Int) (k111 : Nat) : Option (((List Int) × Nat) ⊕ (Bool × Int)) :=
  iteO (decide (((k111 : Nat) : Int) < ((x0.starts.length : Nat) : Int))) (nxt ((insK m110 (nth x0.starts k111 (0 : Int))), (k111 + 1))) (fin (iter (fun q : (List Int) × Nat => nfa_Takes_b2 x1 x0 q.1 q.2) (m110, 0)))
noncomputable def nfa_Takes (x0 : Nfa) (x1 : List UInt8) : Option (Bool × Int) :=
  grd (x1.length ≤ 281474976710656) (iteO (decide ((errB (checkB x0)) ≠ 0)) (some (false, 1)) (iter (fun q : (List Int) × Nat => nfa_Takes_b1 x0 x1 q.1 q.2) (([] : List Int), 0)))
theorem nfa_Takes_con {σ : Store} {x0 : Nfa} {a0_0 : Option Addr} {c0_0 : Nat} {a0_1 : Option Addr} {c0_1 : Nat} {a0_2 : Option Addr} {c0_2 : Nat} {x1 : List UInt8} (f0_0 : RS σ 1 Go.E.encI (.slice a0_0 x0.starts.length c0_0) x0.starts) (f0_1 : RS σ 1 Go.E.encI (.slice a0_1 x0.ends.length c0_1) x0.ends) (f0_2 : RS σ 6 encE (.slice a0_2 x0.edges.length c0_2) x0.edges) {r : Bool × Int} (hh : nfa_Takes x0 x1 = some r) :
    Con Try.prog 19 #[.agg #[.int .i64 x0.states, .slice a0_0 x0.starts.length c0_0, .slice a0_1 x0.ends.length c0_1, .slice a0_2 x0.edges.length c0_2], .string (bs x1)] σ [] (PureP (.tuple #[.bool r.1, .int .i64 r.2]) σ) := by
  dsimp only [nfa_Takes] at hh
  have f0_0b := f0_0.rv.big
  have f0_1b := f0_1.rv.big
  have f0_2b := f0_2.rv.big
  refine Con.mk (n := 89) Try.func19 rfl rfl rfl (fun w0 => ?_)
  have x1b := grd_c hh
  replace hh := grd_t hh
  refine TC.seq ?_
  refine TC.region ?_
  refine TL.op rfl (OpOk.boxA rfl rfl rfl rfl (fun b101 => ?_))
  refine TL.v rfl (OpVal.moveB (.inr rfl) rfl) rfl rfl ?_
  refine TL.v rfl (OpVal.moveI (.inr rfl) rfl) rfl rfl ?_
  refine TL.nil ?_
  refine S.n ?_
  refine TC.seq ?_
  refine TC.seq ?_
  refine TC.region ?_
  refine TL.v rfl (OpVal.loadAll rfl ag50 sz50 rfl (i := 0) rfl rfl) rfl rfl ?_
  refine TL.op rfl (OpOk.callP (check_con _ x0 ⟨a0_0, c0_0, a0_1, c0_1, a0_2, c0_2⟩ ⟨f0_0, f0_1, f0_2, fun x _ => x.set.isOk⟩) rfl rfl pf20 rfl rfl rfl ?_)
  refine TL.v rfl (OpVal.neq rfl rfl rfl) rfl rfl ?_
  refine TL.nil ?_
  refine S.n ?_
  refine TC.cond rfl (fun h103 => ?_) (fun h103 => ?_)
  · replace hh := iteO_t h103 hh
    replace h103 := of_decide_eq_true h103
    refine TC.seq ?_
    refine TC.region ?_
    refine TL.v rfl (OpVal.moveB (.inr rfl) rfl) rfl rfl ?_
    refine TL.v rfl (OpVal.moveI (.inr rfl) rfl) rfl rfl ?_
    refine TL.nil ?_
    refine S.n ?_
    refine TC.ofSub (Sub.pre 0 rfl) ?_
    refine TC.ret ?_
    refine S.r ?_
    obtain rfl := Option.some.inj hh
    exact RetOk.mk' (rs := [.tmp 4, .tmp 5]) [] rfl (.inl rfl) (RVs.tmp rfl (RVs.tmp rfl RVs.nil)) (List.sublist_append_left _ _) ⟨rfl, rfl, rfl⟩
  · replace hh := iteO_f h103 hh
    replace h103 := of_decide_eq_false h103
    refine TC.skip ?_
    refine S.n ?_
    refine TC.seq ?_
    refine TC.region ?_
    refine TL.op rfl (OpOk.makeMapS (enc := keyI) rfl rfl rfl (fun b104 => ?_))
    refine TL.v rfl (OpVal.moveMap (.inr rfl) rfl) rfl rfl ?_
    refine TL.nil ?_
    refine S.n ?_
    refine TC.seq ?_
    refine TC.seq ?_
    refine TC.region ?_
    refine TL.v rfl (OpVal.fieldLoc rfl fo50_1 rfl) rfl rfl ?_
    refine TL.v rfl (OpVal.loadLoc rfl ag47 rfl (i := 1) rfl rfl) rfl rfl ?_
    refine TL.v rfl (OpVal.lenC rfl Try.underlying47 rfl) rfl rfl ?_
    refine TL.v rfl (OpVal.moveI (.inl rfl) rfl) rfl rfl ?_
    refine TL.nil ?_
    refine S.n ?_
    refine TC.block ?_
    refine TC.loopG (α := ((List Int) × Nat) × (Unit)) [8, 26, 27, 28, 29, 30, 31, 32, 33] (fun g => [(26, .int .i64 ((g.1.2 : Nat) : Int))]) (fun g => [Res.cells b101 #[.int .i64 x0.states, .slice a0_0 x0.starts.length c0_0, .slice a0_1 x0.ends.length c0_1, .slice a0_2 x0.edges.length c0_2] 50, Res.setS keyI b104 g.1.1]) (fun g => σ) (fun g => iter (fun q : (List Int) × Nat => nfa_Takes_b1 x0 x1 q.1 q.2) g.1 = some r) (fun g => rounds (fun q : (List Int) × Nat => nfa_Takes_b1 x0 x1 q.1 q.2) g.1) ((([] : List Int), 0), ()) (Sub.front 1 rfl rfl (Sub.pre 2 rfl)) rfl (by repeat (first | exact trivial | refine ⟨rfl, ?_⟩)) hh (fun g1 j1 hg1 => ?_)
    obtain ⟨⟨m110, k111⟩, _⟩ := g1
    have hh := hg1; clear hg1
    show TC _ _ _ (upds (mask _ j1 _) [(26, .int .i64 ((k111 : Nat) : Int))]) _ [Res.cells b101 #[.int .i64 x0.states, .slice a0_0 x0.starts.length c0_0, .slice a0_1 x0.ends.length c0_1, .slice a0_2 x0.edges.length c0_2] 50, Res.setS keyI b104 m110]
    obtain ⟨z1, hh, hR1⟩ := iter_e hh
    dsimp only [nfa_Takes_b1] at hh
    refine TC.seq ?_
    refine TC.region ?_
    refine TL.v rfl (OpVal.lss rfl rfl rfl) rfl rfl ?_
    refine TL.nil ?_
    refine S.n ?_
    refine TC.seq ?_
    refine TC.cond rfl (fun h112 => ?_) (fun h112 => ?_)
    · replace hh := iteO_t h112 hh
      replace h112 := of_decide_eq_true h112
      refine TC.skip ?_
      refine S.n ?_
      refine TC.seq ?_
      refine TC.block ?_
      refine TC.seq ?_
      refine TC.region ?_
      refine TL.v rfl (OpVal.indexN rfl Try.underlying47 sz3 rfl rfl f0_0.rv.sl (by omega)) rfl rfl ?_
      refine TL.v rfl (OpVal.loadS1 (0 : Int) rfl ag3 rfl f0_0 (by omega) rfl) rfl rfl ?_
      refine TL.v rfl (OpVal.moveI (.inr rfl) rfl) rfl rfl ?_
      refine TL.nil ?_
      refine S.n ?_
      refine TC.region ?_
      refine TL.v rfl (OpVal.moveMap (.inl rfl) rfl) rfl rfl ?_
      refine TL.v rfl (OpVal.moveI (.inl rfl) rfl) rfl rfl ?_
      refine TL.v rfl (OpVal.buildL rfl pl60 ze60 rfl) rfl rfl ?_
      refine TL.front 1 rfl rfl ?_
      refine TL.op rfl (OpOk.updSet (nth x0.starts k111 (0 : Int)) rfl Try.underlying83 rfl rfl rfl rfl (keyI_law Try.underlying3) ?_)
      refine TL.nil ?_
      refine B.n ?_
      refine S.n ?_
      refine TC.region ?_
      refine TL.v rfl (OpVal.succ rfl rfl rfl (by omega)) rfl rfl ?_
      refine TL.v rfl (OpVal.moveI (.inl rfl) rfl) rfl rfl ?_
      refine TL.nil ?_
      refine S.n ?_
      obtain ⟨hh, hlt113⟩ := nxt_x hR1 hh
      refine ⟨by repeat (first | exact Agr.refl _ _ | exact Agr.mask | refine Agr.upd rfl ?_ | refine Agr.maskIn rfl ?_ | refine Agr.upds rfl ?_), (((insK m110 (nth x0.starts k111 (0 : Int))), (k111 + 1)), ()), hlt113, hh, by repeat (first | exact trivial | refine ⟨rfl, ?_⟩), Sub.front 1 rfl rfl (Sub.pre 2 rfl), rfl⟩
    · replace hh := iteO_f h112 hh
      replace h112 := of_decide_eq_false h112
      refine TC.exit ?_
      refine S.x ?_
      refine S.x ?_
      replace hh := fin_x hR1 hh
      refine TC.exitHere ?_
      refine S.n ?_
      refine TC.cutG (α := ((List Int)) × (Nat)) [6, 9, 10, 12, 13, 14, 34, 35, 36, 37, 38, 39, 40, 41, 42, 43, 44, 45, 46, 47, 48, 49, 50, 51, 52, 53, 54, 55, 56, 57, 58, 59, 60, 61, 62, 63, 64, 65, 66, 67, 68, 69, 70, 71, 72, 73] (fun g => [(6, .map (some g.2))]) (fun g => [Res.cells b101 #[.int .i64 x0.states, .slice a0_0 x0.starts.length c0_0, .slice a0_1 x0.ends.length c0_1, .slice a0_2 x0.edges.length c0_2] 50, Res.setS keyI g.2 g.1]) (fun g => σ) (fun g => nfa_Takes_j1 x0 g.1 = some r) ?_ (fun g j hg => ?_)
      · skip
        refine TC.seq ?_
        refine TC.region ?_
        refine TL.v rfl (OpVal.moveI (.inr rfl) rfl) rfl rfl ?_
        refine TL.nil ?_
        refine S.n ?_
        refine TC.block ?_
        refine TC.loopG (α := ((List Int) × Nat) × (Nat)) [6, 9, 10, 12, 13, 14, 34, 35, 36, 37, 38, 39, 40, 41, 42, 43, 44, 45, 46, 47, 48, 49, 50, 51, 52, 53, 54, 55, 56, 57, 58, 59, 60, 61, 62, 63, 64, 65, 66, 67, 68, 69, 70, 71, 72, 73] (fun g => [(6, .map (some g.2)), (9, .int .i64 ((g.1.2 : Nat) : Int))]) (fun g => [Res.cells b101 #[.int .i64 x0.states, .slice a0_0 x0.starts.length c0_0, .slice a0_1 x0.ends.length c0_1, .slice a0_2 x0.edges.length c0_2] 50, Res.setS keyI g.2 g.1.1]) (fun g => σ) (fun g => iter (fun q : (List Int) × Nat => nfa_Takes_b2 x1 x0 q.1 q.2) g.1 = some r) (fun g => rounds (fun q : (List Int) × Nat => nfa_Takes_b2 x1 x0 q.1 q.2) g.1) ((m110, 0), b104) (Sub.front 1 rfl rfl (Sub.front 1 rfl rfl (Sub.pre 2 rfl))) rfl (by repeat (first | exact trivial | refine ⟨rfl, ?_⟩)) hh (fun g2 j2 hg2 => ?_)
        obtain ⟨⟨m125, k127⟩, b126⟩ := g2
        have hh := hg2; clear hg2
        show TC _ _ _ (upds (mask _ j2 _) [(6, .map (some b126)), (9, .int .i64 ((k127 : Nat) : Int))]) _ [Res.cells b101 #[.int .i64 x0.states, .slice a0_0 x0.starts.length c0_0, .slice a0_1 x0.ends.length c0_1, .slice a0_2 x0.edges.length c0_2] 50, Res.setS keyI b126 m125]
        obtain ⟨z1, hh, hR1⟩ := iter_e hh
        dsimp only [nfa_Takes_b2] at hh
        refine TC.seq ?_
        refine TC.seq ?_
        refine TC.region ?_
        refine TL.v rfl (OpVal.moveI (.inl rfl) rfl) rfl rfl ?_
        refine TL.v rfl (OpVal.moveStr (.inl rfl) rfl) rfl rfl ?_
        refine TL.v rfl (OpVal.lenBs rfl Try.underlying9 rfl) rfl rfl ?_
        refine TL.v rfl (OpVal.lss rfl rfl rfl) rfl rfl ?_
        refine TL.v rfl (OpVal.moveB (.inl rfl) rfl) rfl rfl ?_
        refine TL.split 38 rfl (fun h128 => ?_) (fun h128 => ?_)
        · replace hh := iteO_t h128 hh
          replace h128 := of_decide_eq_true h128
          refine TL.gv rfl rfl rfl rfl rfl (OpVal.moveMap (.inl rfl) rfl) rfl rfl ?_
          refine TL.gv rfl rfl rfl rfl rfl (OpVal.lenSet rfl Try.underlying83 rfl (i := 1) rfl) rfl rfl ?_
          refine TL.gv rfl rfl rfl rfl rfl (OpVal.gtr rfl rfl rfl) rfl rfl ?_
          refine TL.v rfl (OpVal.pickTB rfl rfl rfl) rfl rfl ?_
          refine TL.nil ?_
          refine S.n ?_
          refine TC.cond rfl (fun h129 => ?_) (fun h129 => ?_)
          · replace hh := iteO_t h129 hh
            replace h129 := of_decide_eq_true h129
            refine TC.skip ?_
            refine S.n ?_
            refine TC.seq ?_
            refine TC.block ?_
            refine TC.scope ?_
            refine TC.seq ?_
            refine TC.region ?_
            refine TL.op rfl (OpOk.makeMapS (enc := keyI) rfl rfl rfl (fun b130 => ?_))
            refine TL.v rfl (OpVal.moveMap (.inr rfl) rfl) rfl rfl ?_
            refine TL.nil ?_
            refine S.n ?_
            refine TC.seq ?_
            refine TC.label ?_
            refine S.n ?_
            refine TC.seq ?_
            refine TC.seq ?_
            refine TC.region ?_
            refine TL.v rfl (OpVal.fieldLoc rfl fo50_3 rfl) rfl rfl ?_
            refine TL.v rfl (OpVal.loadLoc rfl ag48 rfl (i := 1) rfl rfl) rfl rfl ?_
            refine TL.v rfl (OpVal.lenC rfl Try.underlying48 rfl) rfl rfl ?_
            refine TL.v rfl (OpVal.moveI (.inl rfl) rfl) rfl rfl ?_
            refine TL.nil ?_
            refine S.n ?_
            refine TC.block ?_
            refine TC.loopG (α := ((List Int) × Nat) × (Unit)) [12, 13, 14, 49, 50, 51, 52, 53, 54, 55, 56, 57, 58, 59, 60, 61, 62, 63, 64, 65, 66, 67, 68, 69, 70, 71, 72] (fun g => [(49, .int .i64 ((g.1.2 : Nat) : Int))]) (fun g => [Res.cells b101 #[.int .i64 x0.states, .slice a0_0 x0.starts.length c0_0, .slice a0_1 x0.ends.length c0_1, .slice a0_2 x0.edges.length c0_2] 50, Res.setS keyI b126 m125, Res.setS keyI b130 g.1.1]) (fun g => σ) (fun g => iter (fun q : (List Int) × Nat => nfa_Takes_b3 x0 m125 x1 k127 q.1 q.2) g.1 = some z1) (fun g => rounds (fun q : (List Int) × Nat => nfa_Takes_b3 x0 m125 x1 k127 q.1 q.2) g.1) ((([] : List Int), 0), ()) (Sub.front 2 rfl rfl (Sub.front 2 rfl rfl (Sub.pre 3 rfl))) rfl (by repeat (first | exact trivial | refine ⟨rfl, ?_⟩)) hh (fun g3 j3 hg3 => ?_)
            obtain ⟨⟨m136, k137⟩, _⟩ := g3
            have hh := hg3; clear hg3
            show TC _ _ _ (upds (mask _ j3 _) [(49, .int .i64 ((k137 : Nat) : Int))]) _ [Res.cells b101 #[.int .i64 x0.states, .slice a0_0 x0.starts.length c0_0, .slice a0_1 x0.ends.length c0_1, .slice a0_2 x0.edges.length c0_2] 50, Res.setS keyI b126 m125, Res.setS keyI b130 m136]
            obtain ⟨z2, hh, hR2⟩ := iter_e hh
            dsimp only [nfa_Takes_b3] at hh
            refine TC.seq ?_
            refine TC.region ?_
            refine TL.v rfl (OpVal.lss rfl rfl rfl) rfl rfl ?_
            refine TL.nil ?_
            refine S.n ?_
            refine TC.seq ?_
            refine TC.cond rfl (fun h138 => ?_) (fun h138 => ?_)
            · replace hh := iteO_t h138 hh
              replace h138 := of_decide_eq_true h138
              refine TC.skip ?_
              refine S.n ?_
              refine TC.cutG (α := ((List Int)) × (Unit)) [12, 13, 14, 51, 52, 53, 54, 55, 56, 57, 58, 59, 60, 61, 62, 63, 64, 65, 66, 67, 68, 69, 70, 71] (fun g => []) (fun g => [Res.cells b101 #[.int .i64 x0.states, .slice a0_0 x0.starts.length c0_0, .slice a0_1 x0.ends.length c0_1, .slice a0_2 x0.edges.length c0_2] 50, Res.setS keyI b126 m125, Res.setS keyI b130 g.1]) (fun g => σ) (fun g => nfa_Takes_j2 k137 g.1 = some z2) ?_ (fun g j hg => ?_)
              · skip
                refine TC.block ?_
                refine TC.seq ?_
                refine TC.region ?_
                refine TL.v rfl (OpVal.indexN rfl Try.underlying48 sz82 rfl rfl f0_2.rv.sl (by omega)) rfl rfl ?_
                refine TL.v rfl (OpVal.loadSA Arrow.zero rfl ag82 sz82 rfl f0_2 (by omega) (by omega)) rfl rfl ?_
                refine TL.op rfl (OpOk.alloc rfl ze82 rfl rfl (fun b140 => ?_))
                refine TL.op rfl (OpOk.storeAll rfl sz82 rfl rfl rfl rfl rfl rfl ?_)
                refine TL.nil ?_
                refine S.n ?_
                refine TC.seq ?_
                refine TC.seq ?_
                refine TC.region ?_
                refine TL.v rfl (OpVal.moveMap (.inl rfl) rfl) rfl rfl ?_
                refine TL.v rfl (OpVal.fieldLoc rfl fo82_0 rfl) rfl rfl ?_
                refine TL.v rfl (OpVal.loadLoc rfl ag3 rfl (i := 0) rfl rfl) rfl rfl ?_
                refine TL.v rfl (OpVal.lookSet rfl Try.underlying83 ze60 rfl (i := 2) rfl rfl (keyI_law Try.underlying3)) rfl rfl ?_
                refine TL.v rfl (OpVal.moveT (.inl rfl) rfl) rfl rfl ?_
                refine TL.v rfl (OpVal.extract rfl rfl rfl) rfl rfl ?_
                refine TL.v rfl (OpVal.extract rfl rfl rfl) rfl rfl ?_
                refine TL.op rfl (OpOk.alloc rfl ze60 rfl rfl (fun b142 => ?_))
                refine TL.op rfl (OpOk.storeAll rfl sz60 rfl rfl rfl rfl rfl rfl ?_)
                refine TL.v rfl (OpVal.moveB (.inr rfl) rfl) rfl rfl ?_
                refine TL.nil ?_
                refine S.n ?_
                refine TC.seq ?_
                refine TC.region ?_
                refine TL.v rfl (OpVal.moveB (.inl rfl) rfl) rfl rfl ?_
                refine TL.v rfl (OpVal.not rfl rfl) rfl rfl ?_
                refine TL.nil ?_
                refine S.n ?_
                refine TC.cond rfl (fun h144 => ?_) (fun h144 => ?_)
                · replace hh := iteO_t h144 hh
                  refine TC.exit ?_
                  refine S.x ?_
                  refine TC.exitHere ?_
                  refine S.n ?_
                  refine ⟨by repeat (first | exact Agr.refl _ _ | exact Agr.mask | refine Agr.upd rfl ?_ | refine Agr.maskIn rfl ?_ | refine Agr.upds rfl ?_), (m136, ()), hh, by repeat (first | exact trivial | refine ⟨rfl, ?_⟩), Sub.front 4 rfl rfl (Sub.front 4 rfl rfl (Sub.front 4 rfl rfl (Sub.pre 3 rfl))), rfl⟩
                · replace hh := iteO_f h144 hh
                  refine TC.skip ?_
                  refine S.n ?_
                  refine TC.seq ?_
                  refine TC.draw [] (by kernel_rfl) ?_
                  refine TA.takeP 0 rfl (by kernel_rfl) (by kernel_rfl) (by kernel_rfl) rfl (OpVal.fieldLoc rfl fo82_2 rfl) rfl rfl ?_
                  refine TA.take 1 rfl (by kernel_rfl) (by kernel_rfl) (by kernel_rfl) (by kernel_rfl) rfl (OpVal.loadLocA rfl ag39 sz39 rfl (i := 1) rfl rfl rfl) rfl rfl ?_
                  refine TA.takeP 2 rfl (by kernel_rfl) (by kernel_rfl) (by kernel_rfl) rfl (OpVal.moveStr (.inl rfl) rfl) rfl rfl ?_
                  refine TA.takeP 3 rfl (by kernel_rfl) (by kernel_rfl) (by kernel_rfl) rfl (OpVal.moveI (.inl rfl) rfl) rfl rfl ?_
                  refine TA.takeP 4 rfl (by kernel_rfl) (by kernel_rfl) (by kernel_rfl) rfl (OpVal.indexBs rfl Try.underlying9 rfl rfl (by omega)) rfl rfl ?_
                  refine TA.act 5 (by kernel_rfl) rfl rfl (OpOk.callP (has_con _ ((nth x0.edges k137 Arrow.zero).set) (nth x1 k127 (0 : UInt8)).toNat (BSet.isOk _) (UInt8.toNat_lt _)) rfl rfl pf38 rfl rfl rfl ⟨(fun w h => sees_of (Store.le.refl _) (fun r hr => hr) w h), ?_⟩)
                  refine TA.done (by kernel_rfl) ?_
                  refine S.n ?_
                  refine TC.cond rfl (fun h145 => ?_) (fun h145 => ?_)
                  · replace hh := iteO_t h145 hh
                    refine TC.region ?_
                    refine TL.v rfl (OpVal.moveMap (.inl rfl) rfl) rfl rfl ?_
                    refine TL.v rfl (OpVal.fieldLoc rfl fo82_1 rfl) rfl rfl ?_
                    refine TL.v rfl (OpVal.loadLoc rfl ag3 rfl (i := 1) rfl rfl) rfl rfl ?_
                    refine TL.v rfl (OpVal.buildL rfl pl60 ze60 rfl) rfl rfl ?_
                    refine TL.front 4 rfl rfl ?_
                    refine TL.op rfl (OpOk.updSet ((nth x0.edges k137 Arrow.zero).to) rfl Try.underlying83 rfl rfl rfl rfl (keyI_law Try.underlying3) ?_)
                    refine TL.nil ?_
                    refine B.n ?_
                    refine S.n ?_
                    refine ⟨by repeat (first | exact Agr.refl _ _ | exact Agr.mask | refine Agr.upd rfl ?_ | refine Agr.maskIn rfl ?_ | refine Agr.upds rfl ?_), ((insK m136 ((nth x0.edges k137 Arrow.zero).to)), ()), hh, by repeat (first | exact trivial | refine ⟨rfl, ?_⟩), Sub.front 4 rfl rfl (Sub.front 4 rfl rfl (Sub.pre 3 rfl)), rfl⟩
                  · replace hh := iteO_f h145 hh
                    refine TC.skip ?_
                    refine B.n ?_
                    refine S.n ?_
                    refine ⟨by repeat (first | exact Agr.refl _ _ | exact Agr.mask | refine Agr.upd rfl ?_ | refine Agr.maskIn rfl ?_ | refine Agr.upds rfl ?_), (m136, ()), hh, by repeat (first | exact trivial | refine ⟨rfl, ?_⟩), Sub.front 4 rfl rfl (Sub.front 4 rfl rfl (Sub.front 4 rfl rfl (Sub.pre 3 rfl))), rfl⟩
              · skip
                obtain ⟨m139, _⟩ := g
                have hh := hg; clear hg
                show TC _ _ _ (upds (mask _ j _) []) _ [Res.cells b101 #[.int .i64 x0.states, .slice a0_0 x0.starts.length c0_0, .slice a0_1 x0.ends.length c0_1, .slice a0_2 x0.edges.length c0_2] 50, Res.setS keyI b126 m125, Res.setS keyI b130 m139]
                dsimp only [nfa_Takes_j2] at hh
                refine TC.region ?_
                refine TL.v rfl (OpVal.succ rfl rfl rfl (by omega)) rfl rfl ?_
                refine TL.v rfl (OpVal.moveI (.inl rfl) rfl) rfl rfl ?_
                refine TL.nil ?_
                refine S.n ?_
                obtain ⟨hh, hlt146⟩ := nxt_x hR2 hh
                refine ⟨by repeat (first | exact Agr.refl _ _ | exact Agr.mask | refine Agr.upd rfl ?_ | refine Agr.maskIn rfl ?_ | refine Agr.upds rfl ?_), ((m139, (k137 + 1)), ()), hlt146, hh, by repeat (first | exact trivial | refine ⟨rfl, ?_⟩), Sub.front 2 rfl rfl (Sub.front 2 rfl rfl (Sub.front 2 rfl rfl (Sub.pre 3 rfl))), rfl⟩
            · replace hh := iteO_f h138 hh
              replace h138 := of_decide_eq_false h138
              refine TC.exit ?_
              refine S.x ?_
              refine S.x ?_
              replace hh := fin_x hR2 hh
              refine TC.exitHere ?_
              refine S.n ?_
              refine TC.region ?_
              refine TL.v rfl (OpVal.moveMap (.inl rfl) rfl) rfl rfl ?_
              refine TL.v rfl (OpVal.moveMap (.inr rfl) rfl) rfl rfl ?_
              refine TL.nil ?_
              refine P.n ?_
              refine B.n ?_
              refine S.n ?_
              refine TC.region ?_
              refine TL.v rfl (OpVal.moveI (.inl rfl) rfl) rfl rfl ?_
              refine TL.v rfl (OpVal.succ rfl rfl rfl (by omega)) rfl rfl ?_
              refine TL.v rfl (OpVal.moveI (.inr rfl) rfl) rfl rfl ?_
              refine TL.nil ?_
              refine S.n ?_
              obtain ⟨hh, hlt147⟩ := nxt_x hR1 hh
              refine ⟨by repeat (first | exact Agr.refl _ _ | exact Agr.mask | refine Agr.upd rfl ?_ | refine Agr.maskIn rfl ?_ | refine Agr.upds rfl ?_), ((m136, (k127 + 1)), b130), hlt147, hh, by repeat (first | exact trivial | refine ⟨rfl, ?_⟩), Sub.front 2 rfl rfl (Sub.front 1 rfl rfl (Sub.pre 2 rfl)), rfl⟩
          · replace hh := iteO_f h129 hh
            replace h129 := of_decide_eq_false h129
            refine TC.exit ?_
            refine S.x ?_
            refine S.x ?_
            replace hh := fin_x hR1 hh
            refine TC.exitHere ?_
            refine S.n ?_
            refine ⟨by repeat (first | exact Agr.refl _ _ | exact Agr.mask | refine Agr.upd rfl ?_ | refine Agr.maskIn rfl ?_ | refine Agr.upds rfl ?_), (m125, b126), hh, by repeat (first | exact trivial | refine ⟨rfl, ?_⟩), Sub.front 1 rfl rfl (Sub.front 1 rfl rfl (Sub.pre 2 rfl)), rfl⟩
        · replace hh := iteO_f h128 hh
          replace h128 := of_decide_eq_false h128
          refine TL.goff rfl rfl rfl rfl rfl rfl rfl rfl ?_
          refine TL.goff rfl rfl rfl rfl rfl rfl rfl rfl ?_
          refine TL.goff rfl rfl rfl rfl rfl rfl rfl rfl ?_
          refine TL.v rfl (OpVal.pickFB rfl rfl rfl) rfl rfl ?_
          refine TL.nil ?_
          refine S.n ?_
          refine TC.cond rfl (fun h => Bool.noConfusion h) (fun _ => ?_)
          refine TC.exit ?_
          refine S.x ?_
          refine S.x ?_
          replace hh := fin_x hR1 hh
          refine TC.exitHere ?_
          refine S.n ?_
          refine ⟨by repeat (first | exact Agr.refl _ _ | exact Agr.mask | refine Agr.upd rfl ?_ | refine Agr.maskIn rfl ?_ | refine Agr.upds rfl ?_), (m125, b126), hh, by repeat (first | exact trivial | refine ⟨rfl, ?_⟩), Sub.front 1 rfl rfl (Sub.front 1 rfl rfl (Sub.pre 2 rfl)), rfl⟩
      · skip
        obtain ⟨m114, b115⟩ := g
        have hh := hg; clear hg
        show TC _ _ _ (upds (mask _ j _) [(6, .map (some b115))]) _ [Res.cells b101 #[.int .i64 x0.states, .slice a0_0 x0.starts.length c0_0, .slice a0_1 x0.ends.length c0_1, .slice a0_2 x0.edges.length c0_2] 50, Res.setS keyI b115 m114]
        dsimp only [nfa_Takes_j1] at hh
        refine TC.seq ?_
        refine TC.seq ?_
        refine TC.region ?_
        refine TL.v rfl (OpVal.fieldLoc rfl fo50_2 rfl) rfl rfl ?_
        refine TL.v rfl (OpVal.loadLoc rfl ag47 rfl (i := 0) rfl rfl) rfl rfl ?_
        refine TL.v rfl (OpVal.lenC rfl Try.underlying47 rfl) rfl rfl ?_
        refine TL.v rfl (OpVal.moveI (.inl rfl) rfl) rfl rfl ?_
        refine TL.nil ?_
        refine S.n ?_
        refine TC.block ?_
        refine TC.loopG (α := (Nat) × (Unit)) [4, 5, 16, 17, 18, 77, 78, 79, 80, 81, 82, 83, 84, 85, 86, 87, 88] (fun g => [(77, .int .i64 ((g.1 : Nat) : Int))]) (fun g => [Res.setS keyI b115 m114]) (fun g => σ) (fun g => iter (fun q : Nat => nfa_Takes_b4 x0 m114 q) g.1 = some r) (fun g => rounds (fun q : Nat => nfa_Takes_b4 x0 m114 q) g.1) (0, ()) (Sub.front 1 rfl rfl (Sub.pre 1 rfl)) rfl (by repeat (first | exact trivial | refine ⟨rfl, ?_⟩)) hh (fun g4 j4 hg4 => ?_)
        obtain ⟨k150, _⟩ := g4
        have hh := hg4; clear hg4
        show TC _ _ _ (upds (mask _ j4 _) [(77, .int .i64 ((k150 : Nat) : Int))]) _ [Res.setS keyI b115 m114]
        obtain ⟨z1, hh, hR1⟩ := iter_e hh
        dsimp only [nfa_Takes_b4] at hh
        refine TC.seq ?_
        refine TC.region ?_
        refine TL.v rfl (OpVal.lss rfl rfl rfl) rfl rfl ?_
        refine TL.nil ?_
        refine S.n ?_
        refine TC.seq ?_
        refine TC.cond rfl (fun h151 => ?_) (fun h151 => ?_)
        · replace hh := iteO_t h151 hh
          replace h151 := of_decide_eq_true h151
          refine TC.skip ?_
          refine S.n ?_
          refine TC.seq ?_
          refine TC.block ?_
          refine TC.seq ?_
          refine TC.region ?_
          refine TL.v rfl (OpVal.indexN rfl Try.underlying47 sz3 rfl rfl f0_1.rv.sl (by omega)) rfl rfl ?_
          refine TL.v rfl (OpVal.loadS1 (0 : Int) rfl ag3 rfl f0_1 (by omega) rfl) rfl rfl ?_
          refine TL.v rfl (OpVal.moveI (.inr rfl) rfl) rfl rfl ?_
          refine TL.nil ?_
          refine S.n ?_
          refine TC.seq ?_
          refine TC.region ?_
          refine TL.v rfl (OpVal.moveMap (.inl rfl) rfl) rfl rfl ?_
          refine TL.v rfl (OpVal.moveI (.inl rfl) rfl) rfl rfl ?_
          refine TL.v rfl (OpVal.lookSet rfl Try.underlying83 ze60 rfl (i := 0) rfl rfl (keyI_law Try.underlying3)) rfl rfl ?_
          refine TL.v rfl (OpVal.moveT (.inl rfl) rfl) rfl rfl ?_
          refine TL.v rfl (OpVal.extract rfl rfl rfl) rfl rfl ?_
          refine TL.v rfl (OpVal.extract rfl rfl rfl) rfl rfl ?_
          refine TL.op rfl (OpOk.alloc rfl ze60 rfl rfl (fun b152 => ?_))
          refine TL.op rfl (OpOk.storeAll rfl sz60 rfl rfl rfl rfl rfl rfl ?_)
          refine TL.v rfl (OpVal.moveB (.inr rfl) rfl) rfl rfl ?_
          refine TL.nil ?_
          refine S.n ?_
          refine TC.seq ?_
          refine TC.region ?_
          refine TL.v rfl (OpVal.moveB (.inl rfl) rfl) rfl rfl ?_
          refine TL.nil ?_
          refine S.n ?_
          refine TC.cond rfl (fun h154 => ?_) (fun h154 => ?_)
          · replace hh := iteO_t h154 hh
            refine TC.seq ?_
            refine TC.region ?_
            refine TL.v rfl (OpVal.moveB (.inr rfl) rfl) rfl rfl ?_
            refine TL.v rfl (OpVal.moveI (.inr rfl) rfl) rfl rfl ?_
            refine TL.nil ?_
            refine S.n ?_
            refine TC.ofSub (Sub.pre 0 rfl) ?_
            refine TC.ret ?_
            refine B.r ?_
            refine S.r ?_
            refine S.r ?_
            replace hh := fin_x hR1 hh
            refine B.r ?_
            refine S.r ?_
            obtain rfl := Option.some.inj hh
            exact RetOk.mk' (rs := [.tmp 4, .tmp 5]) [] rfl (.inl rfl) (RVs.tmp rfl (RVs.tmp rfl RVs.nil)) (List.sublist_append_left _ _) ⟨rfl, rfl, rfl⟩
          · replace hh := iteO_f h154 hh
            refine TC.skip ?_
            refine B.n ?_
            refine S.n ?_
            refine TC.region ?_
            refine TL.v rfl (OpVal.succ rfl rfl rfl (by omega)) rfl rfl ?_
            refine TL.v rfl (OpVal.moveI (.inl rfl) rfl) rfl rfl ?_
            refine TL.nil ?_
            refine S.n ?_
            obtain ⟨hh, hlt155⟩ := nxt_x hR1 hh
            refine ⟨by repeat (first | exact Agr.refl _ _ | exact Agr.mask | refine Agr.upd rfl ?_ | refine Agr.maskIn rfl ?_ | refine Agr.upds rfl ?_), ((k150 + 1), ()), hlt155, hh, by repeat (first | exact trivial | refine ⟨rfl, ?_⟩), Sub.front 1 rfl rfl (Sub.pre 1 rfl), rfl⟩
        · replace hh := iteO_f h151 hh
          replace h151 := of_decide_eq_false h151
          refine TC.exit ?_
          refine S.x ?_
          refine S.x ?_
          replace hh := fin_x hR1 hh
          refine TC.exitHere ?_
          refine S.n ?_
          refine TC.seq ?_
          refine TC.region ?_
          refine TL.v rfl (OpVal.moveB (.inr rfl) rfl) rfl rfl ?_
          refine TL.v rfl (OpVal.moveI (.inr rfl) rfl) rfl rfl ?_
          refine TL.nil ?_
          refine S.n ?_
          refine TC.ofSub (Sub.pre 0 rfl) ?_
          refine TC.ret ?_
          obtain rfl := Option.some.inj hh
          exact RetOk.mk' (rs := [.tmp 4, .tmp 5]) [] rfl (.inl rfl) (RVs.tmp rfl (RVs.tmp rfl RVs.nil)) (List.sublist_append_left _ _) ⟨rfl, rfl, rfl⟩

end Go.Proofs.Ytpijipnmfkehcaa
