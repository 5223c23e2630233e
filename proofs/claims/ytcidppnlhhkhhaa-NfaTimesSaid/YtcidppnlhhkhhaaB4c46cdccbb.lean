/- Parts of a proof, one behind the other: what a machine reaches, functions decompiled, plain lemmas. Conditions stand with each lemma. -/
import Derived.Test.YtcidppnlhhkhhaaBd9b75922b6

/- N1a -/
section
/- Decompiled: what an automaton takes. -/
set_option linter.unusedVariables false
set_option linter.unusedSimpArgs false
namespace Go.Proofs.Ytcidppnlhhkhhaa
open Go Go.E
set_option maxRecDepth 100000
private theorem pf26 : Go.E.plainF Try.prog 26 = true := by kernel_rfl
private theorem pl83 : Go.E.plOf Try.prog 83 = some #[] := by kernel_rfl
private theorem sz83 : Go.E.szOf Try.prog 83 = some 0 := by kernel_rfl
private theorem ze83 : Go.E.zeroOf Try.prog 83 = some (.agg #[]) := by kernel_rfl

noncomputable def nfa_Takes_j2 (k137 : Nat) (m139 : List Int) : Option (((List Int) × Nat) ⊕ (((List Int) × Nat) ⊕ (Bool × Int))) :=
  nxt (m139, (k137 + 1))
noncomputable def nfa_Takes_b3 (x0 : Nfa) (m125 : List Int) (x1 : List UInt8) (k127 : Nat) (m136 : List Int) (k137 : Nat) : Option (((List Int) × Nat) ⊕ (((List Int) × Nat) ⊕ (Bool × Int))) :=
  iteO (decide (((k137 : Nat) : Int) < ((x0.edges.length : Nat) : Int))) (iteO (!(m125.contains ((nth x0.edges k137 Arrow.zero).frm))) (nfa_Takes_j2 k137 m136) (iteO (((nth x0.edges k137 Arrow.zero).set).has (nth x1 k127 (0 : UInt8)).toNat) (nfa_Takes_j2 k137 (insK m136 ((nth x0.edges k137 Arrow.zero).to))) (nfa_Takes_j2 k137 m136))) (fin (nxt (m136, (k127 + 1))))
noncomputable def nfa_Takes_b4 (x0 : Nfa) (m114 : List Int) (k150 : Nat) : Option ((Nat) ⊕ (Bool × Int)) :=
  iteO (decide (((k150 : Nat) : Int) < ((x0.ends.length : Nat) : Int))) (iteO (m114.contains (nth x0.ends k150 (0 : Int))) (fin (some (true, 0))) (nxt (k150 + 1))) (fin (some (false, 0)))
noncomputable def nfa_Takes_j1 (x0 : Nfa) (m114 : List Int) : Option (Bool × Int) :=
  iter (fun q : Nat => nfa_Takes_b4 x0 m114 q) 0
noncomputable def nfa_Takes_b2 (x1 : List UInt8) (x0 : Nfa) (m125 : List Int) (k127 : Nat) : Option (((List Int) × Nat) ⊕ (Bool × Int)) :=
  iteO (decide (((k127 : Nat) : Int) < ((x1.length : Nat) : Int))) (iteO (decide (0 < ((m125.length : Nat) : Int))) (iter (fun q : (List Int) × Nat => nfa_Takes_b3 x0 m125 x1 k127 q.1 q.2) (([] : List Int), 0)) (fin (nfa_Takes_j1 x0 m125))) (fin (nfa_Takes_j1 x0 m125))
noncomputable def nfa_Takes_b1 (x0 : Nfa) (x1 : List UInt8) (m110 : List Int) (k111 : Nat) : Option (((List Int) × Nat) ⊕ (Bool × Int)) :=
  iteO (decide (((k111 : Nat) : Int) < ((x0.starts.length : Nat) : Int))) (nxt ((insK m110 (nth x0.starts k111 (0 : Int))), (k111 + 1))) (fin (iter (fun q : (List Int) × Nat => nfa_Takes_b2 x1 x0 q.1 q.2) (m110, 0)))
noncomputable def nfa_Takes (x0 : Nfa) (x1 : List UInt8) : Option (Bool × Int) :=
  grd (x1.length ≤ 281474976710656) (iteO (decide ((errB (checkB x0)) ≠ 0)) (some (false, 1)) (iter (fun q : (List Int) × Nat => nfa_Takes_b1 x0 x1 q.1 q.2) (([] : List Int), 0)))
theorem nfa_Takes_con {σ : Store} {x0 : Nfa} {a0_0 : Option Addr} {c0_0 : Nat} {a0_1 : Option Addr} {c0_1 : Nat} {a0_2 : Option Addr} {c0_2 : Nat} {x1 : List UInt8} (f0_0 : RS σ 1 Go.E.encI (.slice a0_0 x0.starts.length c0_0) x0.starts) (f0_1 : RS σ 1 Go.E.encI (.slice a0_1 x0.ends.length c0_1) x0.ends) (f0_2 : RS σ 6 encE (.slice a0_2 x0.edges.length c0_2) x0.edges) {r : Bool × Int} (hh : nfa_Takes x0 x1 = some r) :
    Con Try.prog 23 #[.agg #[.int .i64 x0.states, .slice a0_0 x0.starts.length c0_0, .slice a0_1 x0.ends.length c0_1, .slice a0_2 x0.edges.length c0_2], .string (bs x1)] σ [] (PureP (.tuple #[.bool r.1, .int .i64 r.2]) σ) := by
  dsimp only [nfa_Takes] at hh
  have f0_0b := f0_0.rv.big
  have f0_1b := f0_1.rv.big
  have f0_2b := f0_2.rv.big
  refine Con.mk (n := 89) Try.func23 rfl rfl rfl (fun w0 => ?_)
  have x1b := grd_c hh
  replace hh := grd_t hh
  refine TC.seq ?_
  refine TC.region ?_
  refine TL.op rfl (OpOk.boxA rfl rfl rfl rfl (fun b101 => ?_))
  refine TL.v rfl (OpVal.moveB (.inr rfl) rfl) rfl rfl ?_
  refine TL.v rfl (OpVal.moveI (.inr rfl) rfl) rfl rfl ?_
  refine TL.nil ?_
  refine S.n ?_
  refine TC.seq ?_
  refine TC.seq ?_
  refine TC.region ?_
  refine TL.v rfl (OpVal.loadAll rfl ag25 sz25 rfl (i := 0) rfl rfl) rfl rfl ?_
  refine TL.op rfl (OpOk.callP (check_con _ x0 ⟨a0_0, c0_0, a0_1, c0_1, a0_2, c0_2⟩ ⟨f0_0, f0_1, f0_2, fun x _ => x.set.isOk⟩) rfl rfl pf18 rfl rfl rfl ?_)
  refine TL.v rfl (OpVal.neq rfl rfl rfl) rfl rfl ?_
  refine TL.nil ?_
  refine S.n ?_
  refine TC.cond rfl (fun h103 => ?_) (fun h103 => ?_)
  · replace hh := iteO_t h103 hh
    replace h103 := of_decide_eq_true h103
    refine TC.seq ?_
    refine TC.region ?_
    refine TL.v rfl (OpVal.moveB (.inr rfl) rfl) rfl rfl ?_
    refine TL.v rfl (OpVal.moveI (.inr rfl) rfl) rfl rfl ?_
    refine TL.nil ?_
    refine S.n ?_
    refine TC.ofSub (Sub.pre 0 rfl) ?_
    refine TC.ret ?_
    refine S.r ?_
    obtain rfl := Option.some.inj hh
    exact RetOk.mk' (rs := [.tmp 4, .tmp 5]) [] rfl (.inl rfl) (RVs.tmp rfl (RVs.tmp rfl RVs.nil)) (List.sublist_append_left _ _) ⟨rfl, rfl, rfl⟩
  · replace hh := iteO_f h103 hh
    replace h103 := of_decide_eq_false h103
    refine TC.skip ?_
    refine S.n ?_
    refine TC.seq ?_
    refine TC.region ?_
    refine TL.op rfl (OpOk.makeMapS (enc := keyI) rfl rfl rfl (fun b104 => ?_))
    refine TL.v rfl (OpVal.moveMap (.inr rfl) rfl) rfl rfl ?_
    refine TL.nil ?_
    refine S.n ?_
    refine TC.seq ?_
    refine TC.seq ?_
    refine TC.region ?_
    refine TL.v rfl (OpVal.fieldLoc rfl fo25_1 rfl) rfl rfl ?_
    refine TL.v rfl (OpVal.loadLoc rfl ag22 rfl (i := 1) rfl rfl) rfl rfl ?_
    refine TL.v rfl (OpVal.lenC rfl Try.underlying22 rfl) rfl rfl ?_
    refine TL.v rfl (OpVal.moveI (.inl rfl) rfl) rfl rfl ?_
    refine TL.nil ?_
    refine S.n ?_
    refine TC.block ?_
    refine TC.loopG (α := ((List Int) × Nat) × (Unit)) [8, 26, 27, 28, 29, 30, 31, 32, 33] (fun g => [(26, .int .i64 ((g.1.2 : Nat) : Int))]) (fun g => [Res.cells b101 #[.int .i64 x0.states, .slice a0_0 x0.starts.length c0_0, .slice a0_1 x0.ends.length c0_1, .slice a0_2 x0.edges.length c0_2] 25, Res.setS keyI b104 g.1.1]) (fun g => σ) (fun g => iter (fun q : (List Int) × Nat => nfa_Takes_b1 x0 x1 q.1 q.2) g.1 = some r) (fun g => rounds (fun q : (List Int) × Nat => nfa_Takes_b1 x0 x1 q.1 q.2) g.1) ((([] : List Int), 0), ()) (Sub.front 1 rfl rfl (Sub.pre 2 rfl)) rfl (by repeat (first | exact trivial | refine ⟨rfl, ?_⟩)) hh (fun g1 j1 hg1 => ?_)
    obtain ⟨⟨m110, k111⟩, _⟩ := g1
    have hh := hg1; clear hg1
    show TC _ _ _ (upds (mask _ j1 _) [(26, .int .i64 ((k111 : Nat) : Int))]) _ [Res.cells b101 #[.int .i64 x0.states, .slice a0_0 x0.starts.length c0_0, .slice a0_1 x0.ends.length c0_1, .slice a0_2 x0.edges.length c0_2] 25, Res.setS keyI b104 m110]
    obtain ⟨z1, hh, hR1⟩ := iter_e hh
    dsimp only [nfa_Takes_b1] at hh
    refine TC.seq ?_
    refine TC.region ?_
    refine TL.v rfl (OpVal.lss rfl rfl rfl) rfl rfl ?_
    refine TL.nil ?_
    refine S.n ?_
    refine TC.seq ?_
    refine TC.cond rfl (fun h112 => ?_) (fun h112 => ?_)
    · replace hh := iteO_t h112 hh
      replace h112 := of_decide_eq_true h112
      refine TC.skip ?_
      refine S.n ?_
      refine TC.seq ?_
      refine TC.block ?_
      refine TC.seq ?_
      refine TC.region ?_
      refine TL.v rfl (OpVal.indexN rfl Try.underlying22 sz3 rfl rfl f0_0.rv.sl (by omega)) rfl rfl ?_
      refine TL.v rfl (OpVal.loadS1 (0 : Int) rfl ag3 rfl f0_0 (by omega) rfl) rfl rfl ?_
      refine TL.v rfl (OpVal.moveI (.inr rfl) rfl) rfl rfl ?_
      refine TL.nil ?_
      refine S.n ?_
      refine TC.region ?_
      refine TL.v rfl (OpVal.moveMap (.inl rfl) rfl) rfl rfl ?_
      refine TL.v rfl (OpVal.moveI (.inl rfl) rfl) rfl rfl ?_
      refine TL.v rfl (OpVal.buildL rfl pl83 ze83 rfl) rfl rfl ?_
      refine TL.front 1 rfl rfl ?_
      refine TL.op rfl (OpOk.updSet (nth x0.starts k111 (0 : Int)) rfl Try.underlying82 rfl rfl rfl rfl (keyI_law Try.underlying3) ?_)
      refine TL.nil ?_
      refine B.n ?_
      refine S.n ?_
      refine TC.region ?_
      refine TL.v rfl (OpVal.succ rfl rfl rfl (by omega)) rfl rfl ?_
      refine TL.v rfl (OpVal.moveI (.inl rfl) rfl) rfl rfl ?_
      refine TL.nil ?_
      refine S.n ?_
      obtain ⟨hh, hlt113⟩ := nxt_x hR1 hh
      refine ⟨by repeat (first | exact Agr.refl _ _ | exact Agr.mask | refine Agr.upd rfl ?_ | refine Agr.maskIn rfl ?_ | refine Agr.upds rfl ?_), (((insK m110 (nth x0.starts k111 (0 : Int))), (k111 + 1)), ()), hlt113, hh, by repeat (first | exact trivial | refine ⟨rfl, ?_⟩), Sub.front 1 rfl rfl (Sub.pre 2 rfl), rfl⟩
    · replace hh := iteO_f h112 hh
      replace h112 := of_decide_eq_false h112
      refine TC.exit ?_
      refine S.x ?_
      refine S.x ?_
      replace hh := fin_x hR1 hh
      refine TC.exitHere ?_
      refine S.n ?_
      refine TC.cutG (α := ((List Int)) × (Nat)) [6, 9, 10, 12, 13, 14, 34, 35, 36, 37, 38, 39, 40, 41, 42, 43, 44, 45, 46, 47, 48, 49, 50, 51, 52, 53, 54, 55, 56, 57, 58, 59, 60, 61, 62, 63, 64, 65, 66, 67, 68, 69, 70, 71, 72, 73] (fun g => [(6, .map (some g.2))]) (fun g => [Res.cells b101 #[.int .i64 x0.states, .slice a0_0 x0.starts.length c0_0, .slice a0_1 x0.ends.length c0_1, .slice a0_2 x0.edges.length c0_2] 25, Res.setS keyI g.2 g.1]) (fun g => σ) (fun g => nfa_Takes_j1 x0 g.1 = some r) ?_ (fun g j hg => ?_)
      · skip
        refine TC.seq ?_
        refine TC.region ?_
        refine TL.v rfl (OpVal.moveI (.inr rfl) rfl) rfl rfl ?_
        refine TL.nil ?_
        refine S.n ?_
        refine TC.block ?_
        refine TC.loopG (α := ((List Int) × Nat) × (Nat)) [6, 9, 10, 12, 13, 14, 34, 35, 36, 37, 38, 39, 40, 41, 42, 43, 44, 45, 46, 47, 48, 49, 50, 51, 52, 53, 54, 55, 56, 57, 58, 59, 60, 61, 62, 63, 64, 65, 66, 67, 68, 69, 70, 71, 72, 73] (fun g => [(6, .map (some g.2)), (9, .int .i64 ((g.1.2 : Nat) : Int))]) (fun g => [Res.cells b101 #[.int .i64 x0.states, .slice a0_0 x0.starts.length c0_0, .slice a0_1 x0.ends.length c0_1, .slice a0_2 x0.edges.length c0_2] 25, Res.setS keyI g.2 g.1.1]) (fun g => σ) (fun g => iter (fun q : (List Int) × Nat => nfa_Takes_b2 x1 x0 q.1 q.2) g.1 = some r) (fun g => rounds (fun q : (List Int) × Nat => nfa_Takes_b2 x1 x0 q.1 q.2) g.1) ((m110, 0), b104) (Sub.front 1 rfl rfl (Sub.front 1 rfl rfl (Sub.pre 2 rfl))) rfl (by repeat (first | exact trivial | refine ⟨rfl, ?_⟩)) hh (fun g2 j2 hg2 => ?_)
        obtain ⟨⟨m125, k127⟩, b126⟩ := g2
        have hh := hg2; clear hg2
        show TC _ _ _ (upds (mask _ j2 _) [(6, .map (some b126)), (9, .int .i64 ((k127 : Nat) : Int))]) _ [Res.cells b101 #[.int .i64 x0.states, .slice a0_0 x0.starts.length c0_0, .slice a0_1 x0.ends.length c0_1, .slice a0_2 x0.edges.length c0_2] 25, Res.setS keyI b126 m125]
        obtain ⟨z1, hh, hR1⟩ := iter_e hh
        dsimp only [nfa_Takes_b2] at hh
        refine TC.seq ?_
        refine TC.seq ?_
        refine TC.region ?_
        refine TL.v rfl (OpVal.moveI (.inl rfl) rfl) rfl rfl ?_
        refine TL.v rfl (OpVal.moveStr (.inl rfl) rfl) rfl rfl ?_
        refine TL.v rfl (OpVal.lenBs rfl Try.underlying9 rfl) rfl rfl ?_
        refine TL.v rfl (OpVal.lss rfl rfl rfl) rfl rfl ?_
        refine TL.v rfl (OpVal.moveB (.inl rfl) rfl) rfl rfl ?_
        refine TL.split 38 rfl (fun h128 => ?_) (fun h128 => ?_)
        · replace hh := iteO_t h128 hh
          replace h128 := of_decide_eq_true h128
          refine TL.gv rfl rfl rfl rfl rfl (OpVal.moveMap (.inl rfl) rfl) rfl rfl ?_
          refine TL.gv rfl rfl rfl rfl rfl (OpVal.lenSet rfl Try.underlying82 rfl (i := 1) rfl) rfl rfl ?_
          refine TL.gv rfl rfl rfl rfl rfl (OpVal.gtr rfl rfl rfl) rfl rfl ?_
          refine TL.v rfl (OpVal.pickTB rfl rfl rfl) rfl rfl ?_
          refine TL.nil ?_
          refine S.n ?_
          refine TC.cond rfl (fun h129 => ?_) (fun h129 => ?_)
          · replace hh := iteO_t h129 hh
            replace h129 := of_decide_eq_true h129
            refine TC.skip ?_
            refine S.n ?_
            refine TC.seq ?_
            refine TC.block ?_
            refine TC.scope ?_
            refine TC.seq ?_
            refine TC.region ?_
            refine TL.op rfl (OpOk.makeMapS (enc := keyI) rfl rfl rfl (fun b130 => ?_))
            refine TL.v rfl (OpVal.moveMap (.inr rfl) rfl) rfl rfl ?_
            refine TL.nil ?_
            refine S.n ?_
            refine TC.seq ?_
            refine TC.label ?_
            refine S.n ?_
            refine TC.seq ?_
            refine TC.seq ?_
            refine TC.region ?_
            refine TL.v rfl (OpVal.fieldLoc rfl fo25_3 rfl) rfl rfl ?_
            refine TL.v rfl (OpVal.loadLoc rfl ag23 rfl (i := 1) rfl rfl) rfl rfl ?_
            refine TL.v rfl (OpVal.lenC rfl Try.underlying23 rfl) rfl rfl ?_
            refine TL.v rfl (OpVal.moveI (.inl rfl) rfl) rfl rfl ?_
            refine TL.nil ?_
            refine S.n ?_
            refine TC.block ?_
            refine TC.loopG (α := ((List Int) × Nat) × (Unit)) [12, 13, 14, 49, 50, 51, 52, 53, 54, 55, 56, 57, 58, 59, 60, 61, 62, 63, 64, 65, 66, 67, 68, 69, 70, 71, 72] (fun g => [(49, .int .i64 ((g.1.2 : Nat) : Int))]) (fun g => [Res.cells b101 #[.int .i64 x0.states, .slice a0_0 x0.starts.length c0_0, .slice a0_1 x0.ends.length c0_1, .slice a0_2 x0.edges.length c0_2] 25, Res.setS keyI b126 m125, Res.setS keyI b130 g.1.1]) (fun g => σ) (fun g => iter (fun q : (List Int) × Nat => nfa_Takes_b3 x0 m125 x1 k127 q.1 q.2) g.1 = some z1) (fun g => rounds (fun q : (List Int) × Nat => nfa_Takes_b3 x0 m125 x1 k127 q.1 q.2) g.1) ((([] : List Int), 0), ()) (Sub.front 2 rfl rfl (Sub.front 2 rfl rfl (Sub.pre 3 rfl))) rfl (by repeat (first | exact trivial | refine ⟨rfl, ?_⟩)) hh (fun g3 j3 hg3 => ?_)
            obtain ⟨⟨m136, k137⟩, _⟩ := g3
            have hh := hg3; clear hg3
            show TC _ _ _ (upds (mask _ j3 _) [(49, .int .i64 ((k137 : Nat) : Int))]) _ [Res.cells b101 #[.int .i64 x0.states, .slice a0_0 x0.starts.length c0_0, .slice a0_1 x0.ends.length c0_1, .slice a0_2 x0.edges.length c0_2] 25, Res.setS keyI b126 m125, Res.setS keyI b130 m136]
            obtain ⟨z2, hh, hR2⟩ := iter_e hh
            dsimp only [nfa_Takes_b3] at hh
            refine TC.seq ?_
            refine TC.region ?_
            refine TL.v rfl (OpVal.lss rfl rfl rfl) rfl rfl ?_
            refine TL.nil ?_
            refine S.n ?_
            refine TC.seq ?_
            refine TC.cond rfl (fun h138 => ?_) (fun h138 => ?_)
            · replace hh := iteO_t h138 hh
              replace h138 := of_decide_eq_true h138
              refine TC.skip ?_
              refine S.n ?_
              refine TC.cutG (α := ((List Int)) × (Unit)) [12, 13, 14, 51, 52, 53, 54, 55, 56, 57, 58, 59, 60, 61, 62, 63, 64, 65, 66, 67, 68, 69, 70, 71] (fun g => []) (fun g => [Res.cells b101 #[.int .i64 x0.states, .slice a0_0 x0.starts.length c0_0, .slice a0_1 x0.ends.length c0_1, .slice a0_2 x0.edges.length c0_2] 25, Res.setS keyI b126 m125, Res.setS keyI b130 g.1]) (fun g => σ) (fun g => nfa_Takes_j2 k137 g.1 = some z2) ?_ (fun g j hg => ?_)
              · skip
                refine TC.block ?_
                refine TC.seq ?_
                refine TC.region ?_
                refine TL.v rfl (OpVal.indexN rfl Try.underlying23 sz80 rfl rfl f0_2.rv.sl (by omega)) rfl rfl ?_
                refine TL.v rfl (OpVal.loadSA Arrow.zero rfl ag80 sz80 rfl f0_2 (by omega) (by omega)) rfl rfl ?_
                refine TL.op rfl (OpOk.alloc rfl ze80 rfl rfl (fun b140 => ?_))
                refine TL.op rfl (OpOk.storeAll rfl sz80 rfl rfl rfl rfl rfl rfl ?_)
                refine TL.nil ?_
                refine S.n ?_
                refine TC.seq ?_
                refine TC.seq ?_
                refine TC.region ?_
                refine TL.v rfl (OpVal.moveMap (.inl rfl) rfl) rfl rfl ?_
                refine TL.v rfl (OpVal.fieldLoc rfl fo80_0 rfl) rfl rfl ?_
                refine TL.v rfl (OpVal.loadLoc rfl ag3 rfl (i := 0) rfl rfl) rfl rfl ?_
                refine TL.v rfl (OpVal.lookSet rfl Try.underlying82 ze83 rfl (i := 2) rfl rfl (keyI_law Try.underlying3)) rfl rfl ?_
                refine TL.v rfl (OpVal.moveT (.inl rfl) rfl) rfl rfl ?_
                refine TL.v rfl (OpVal.extract rfl rfl rfl) rfl rfl ?_
                refine TL.v rfl (OpVal.extract rfl rfl rfl) rfl rfl ?_
                refine TL.op rfl (OpOk.alloc rfl ze83 rfl rfl (fun b142 => ?_))
                refine TL.op rfl (OpOk.storeAll rfl sz83 rfl rfl rfl rfl rfl rfl ?_)
                refine TL.v rfl (OpVal.moveB (.inr rfl) rfl) rfl rfl ?_
                refine TL.nil ?_
                refine S.n ?_
                refine TC.seq ?_
                refine TC.region ?_
                refine TL.v rfl (OpVal.moveB (.inl rfl) rfl) rfl rfl ?_
                refine TL.v rfl (OpVal.not rfl rfl) rfl rfl ?_
                refine TL.nil ?_
                refine S.n ?_
                refine TC.cond rfl (fun h144 => ?_) (fun h144 => ?_)
                · replace hh := iteO_t h144 hh
                  refine TC.exit ?_
                  refine S.x ?_
                  refine TC.exitHere ?_
                  refine S.n ?_
                  refine ⟨by repeat (first | exact Agr.refl _ _ | exact Agr.mask | refine Agr.upd rfl ?_ | refine Agr.maskIn rfl ?_ | refine Agr.upds rfl ?_), (m136, ()), hh, by repeat (first | exact trivial | refine ⟨rfl, ?_⟩), Sub.front 4 rfl rfl (Sub.front 4 rfl rfl (Sub.front 4 rfl rfl (Sub.pre 3 rfl))), rfl⟩
                · replace hh := iteO_f h144 hh
                  refine TC.skip ?_
                  refine S.n ?_
                  refine TC.seq ?_
                  refine TC.draw [] (by kernel_rfl) ?_
                  refine TA.takeP 0 rfl (by kernel_rfl) (by kernel_rfl) (by kernel_rfl) rfl (OpVal.fieldLoc rfl fo80_2 rfl) rfl rfl ?_
                  refine TA.take 1 rfl (by kernel_rfl) (by kernel_rfl) (by kernel_rfl) (by kernel_rfl) rfl (OpVal.loadLocA rfl ag28 sz28 rfl (i := 1) rfl rfl rfl) rfl rfl ?_
                  refine TA.takeP 2 rfl (by kernel_rfl) (by kernel_rfl) (by kernel_rfl) rfl (OpVal.moveStr (.inl rfl) rfl) rfl rfl ?_
                  refine TA.takeP 3 rfl (by kernel_rfl) (by kernel_rfl) (by kernel_rfl) rfl (OpVal.moveI (.inl rfl) rfl) rfl rfl ?_
                  refine TA.takeP 4 rfl (by kernel_rfl) (by kernel_rfl) (by kernel_rfl) rfl (OpVal.indexBs rfl Try.underlying9 rfl rfl (by omega)) rfl rfl ?_
                  refine TA.act 5 (by kernel_rfl) rfl rfl (OpOk.callP (has_con _ ((nth x0.edges k137 Arrow.zero).set) (nth x1 k127 (0 : UInt8)).toNat (BSet.isOk _) (UInt8.toNat_lt _)) rfl rfl pf26 rfl rfl rfl ⟨(fun w h => sees_of (Store.le.refl _) (fun r hr => hr) w h), ?_⟩)
                  refine TA.done (by kernel_rfl) ?_
                  refine S.n ?_
                  refine TC.cond rfl (fun h145 => ?_) (fun h145 => ?_)
                  · replace hh := iteO_t h145 hh
                    refine TC.region ?_
                    refine TL.v rfl (OpVal.moveMap (.inl rfl) rfl) rfl rfl ?_
                    refine TL.v rfl (OpVal.fieldLoc rfl fo80_1 rfl) rfl rfl ?_
                    refine TL.v rfl (OpVal.loadLoc rfl ag3 rfl (i := 1) rfl rfl) rfl rfl ?_
                    refine TL.v rfl (OpVal.buildL rfl pl83 ze83 rfl) rfl rfl ?_
                    refine TL.front 4 rfl rfl ?_
                    refine TL.op rfl (OpOk.updSet ((nth x0.edges k137 Arrow.zero).to) rfl Try.underlying82 rfl rfl rfl rfl (keyI_law Try.underlying3) ?_)
                    refine TL.nil ?_
                    refine B.n ?_
                    refine S.n ?_
                    refine ⟨by repeat (first | exact Agr.refl _ _ | exact Agr.mask | refine Agr.upd rfl ?_ | refine Agr.maskIn rfl ?_ | refine Agr.upds rfl ?_), ((insK m136 ((nth x0.edges k137 Arrow.zero).to)), ()), hh, by repeat (first | exact trivial | refine ⟨rfl, ?_⟩), Sub.front 4 rfl rfl (Sub.front 4 rfl rfl (Sub.pre 3 rfl)), rfl⟩
                  · replace hh := iteO_f h145 hh
                    refine TC.skip ?_
                    refine B.n ?_
                    refine S.n ?_
                    refine ⟨by repeat (first | exact Agr.refl _ _ | exact Agr.mask | refine Agr.upd rfl ?_ | refine Agr.maskIn rfl ?_ | refine Agr.upds rfl ?_), (m136, ()), hh, by repeat (first | exact trivial | refine ⟨rfl, ?_⟩), Sub.front 4 rfl rfl (Sub.front 4 rfl rfl (Sub.front 4 rfl rfl (Sub.pre 3 rfl))), rfl⟩
              · skip
                obtain ⟨m139, _⟩ := g
                have hh := hg; clear hg
                show TC _ _ _ (upds (mask _ j _) []) _ [Res.cells b101 #[.int .i64 x0.states, .slice a0_0 x0.starts.length c0_0, .slice a0_1 x0.ends.length c0_1, .slice a0_2 x0.edges.length c0_2] 25, Res.setS keyI b126 m125, Res.setS keyI b130 m139]
                dsimp only [nfa_Takes_j2] at hh
                refine TC.region ?_
                refine TL.v rfl (OpVal.succ rfl rfl rfl (by omega)) rfl rfl ?_
                refine TL.v rfl (OpVal.moveI (.inl rfl) rfl) rfl rfl ?_
                refine TL.nil ?_
                refine S.n ?_
                obtain ⟨hh, hlt146⟩ := nxt_x hR2 hh
                refine ⟨by repeat (first | exact Agr.refl _ _ | exact Agr.mask | refine Agr.upd rfl ?_ | refine Agr.maskIn rfl ?_ | refine Agr.upds rfl ?_), ((m139, (k137 + 1)), ()), hlt146, hh, by repeat (first | exact trivial | refine ⟨rfl, ?_⟩), Sub.front 2 rfl rfl (Sub.front 2 rfl rfl (Sub.front 2 rfl rfl (Sub.pre 3 rfl))), rfl⟩
            · replace hh := iteO_f h138 hh
              replace h138 := of_decide_eq_false h138
              refine TC.exit ?_
              refine S.x ?_
              refine S.x ?_
              replace hh := fin_x hR2 hh
              refine TC.exitHere ?_
              refine S.n ?_
              refine TC.region ?_
              refine TL.v rfl (OpVal.moveMap (.inl rfl) rfl) rfl rfl ?_
              refine TL.v rfl (OpVal.moveMap (.inr rfl) rfl) rfl rfl ?_
              refine TL.nil ?_
              refine P.n ?_
              refine B.n ?_
              refine S.n ?_
              refine TC.region ?_
              refine TL.v rfl (OpVal.moveI (.inl rfl) rfl) rfl rfl ?_
              refine TL.v rfl (OpVal.succ rfl rfl rfl (by omega)) rfl rfl ?_
              refine TL.v rfl (OpVal.moveI (.inr rfl) rfl) rfl rfl ?_
              refine TL.nil ?_
              refine S.n ?_
              obtain ⟨hh, hlt147⟩ := nxt_x hR1 hh
              refine ⟨by repeat (first | exact Agr.refl _ _ | exact Agr.mask | refine Agr.upd rfl ?_ | refine Agr.maskIn rfl ?_ | refine Agr.upds rfl ?_), ((m136, (k127 + 1)), b130), hlt147, hh, by repeat (first | exact trivial | refine ⟨rfl, ?_⟩), Sub.front 2 rfl rfl (Sub.front 1 rfl rfl (Sub.pre 2 rfl)), rfl⟩
          · replace hh := iteO_f h129 hh
            replace h129 := of_decide_eq_false h129
            refine TC.exit ?_
            refine S.x ?_
            refine S.x ?_
            replace hh := fin_x hR1 hh
            refine TC.exitHere ?_
            refine S.n ?_
            refine ⟨by repeat (first | exact Agr.refl _ _ | exact Agr.mask | refine Agr.upd rfl ?_ | refine Agr.maskIn rfl ?_ | refine Agr.upds rfl ?_), (m125, b126), hh, by repeat (first | exact trivial | refine ⟨rfl, ?_⟩), Sub.front 1 rfl rfl (Sub.front 1 rfl rfl (Sub.pre 2 rfl)), rfl⟩
        · replace hh := iteO_f h128 hh
          replace h128 := of_decide_eq_false h128
          refine TL.goff rfl rfl rfl rfl rfl rfl rfl rfl ?_
          refine TL.goff rfl rfl rfl rfl rfl rfl rfl rfl ?_
          refine TL.goff rfl rfl rfl rfl rfl rfl rfl rfl ?_
          refine TL.v rfl (OpVal.pickFB rfl rfl rfl) rfl rfl ?_
          refine TL.nil ?_
          refine S.n ?_
          refine TC.cond rfl (fun h => Bool.noConfusion h) (fun _ => ?_)
          refine TC.exit ?_
          refine S.x ?_
          refine S.x ?_
          replace hh := fin_x hR1 hh
          refine TC.exitHere ?_
          refine S.n ?_
          refine ⟨by repeat (first | exact Agr.refl _ _ | exact Agr.mask | refine Agr.upd rfl ?_ | refine Agr.maskIn rfl ?_ | refine Agr.upds rfl ?_), (m125, b126), hh, by repeat (first | exact trivial | refine ⟨rfl, ?_⟩), Sub.front 1 rfl rfl (Sub.front 1 rfl rfl (Sub.pre 2 rfl)), rfl⟩
      · skip
        obtain ⟨m114, b115⟩ := g
        have hh := hg; clear hg
        show TC _ _ _ (upds (mask _ j _) [(6, .map (some b115))]) _ [Res.cells b101 #[.int .i64 x0.states, .slice a0_0 x0.starts.length c0_0, .slice a0_1 x0.ends.length c0_1, .slice a0_2 x0.edges.length c0_2] 25, Res.setS keyI b115 m114]
        dsimp only [nfa_Takes_j1] at hh
        refine TC.seq ?_
        refine TC.seq ?_
        refine TC.region ?_
        refine TL.v rfl (OpVal.fieldLoc rfl fo25_2 rfl) rfl rfl ?_
        refine TL.v rfl (OpVal.loadLoc rfl ag22 rfl (i := 0) rfl rfl) rfl rfl ?_
        refine TL.v rfl (OpVal.lenC rfl Try.underlying22 rfl) rfl rfl ?_
        refine TL.v rfl (OpVal.moveI (.inl rfl) rfl) rfl rfl ?_
        refine TL.nil ?_
        refine S.n ?_
        refine TC.block ?_
        refine TC.loopG (α := (Nat) × (Unit)) [4, 5, 16, 17, 18, 77, 78, 79, 80, 81, 82, 83, 84, 85, 86, 87, 88] (fun g => [(77, .int .i64 ((g.1 : Nat) : Int))]) (fun g => [Res.setS keyI b115 m114]) (fun g => σ) (fun g => iter (fun q : Nat => nfa_Takes_b4 x0 m114 q) g.1 = some r) (fun g => rounds (fun q : Nat => nfa_Takes_b4 x0 m114 q) g.1) (0, ()) (Sub.front 1 rfl rfl (Sub.pre 1 rfl)) rfl (by repeat (first | exact trivial | refine ⟨rfl, ?_⟩)) hh (fun g4 j4 hg4 => ?_)
        obtain ⟨k150, _⟩ := g4
        have hh := hg4; clear hg4
        show TC _ _ _ (upds (mask _ j4 _) [(77, .int .i64 ((k150 : Nat) : Int))]) _ [Res.setS keyI b115 m114]
        obtain ⟨z1, hh, hR1⟩ := iter_e hh
        dsimp only [nfa_Takes_b4] at hh
        refine TC.seq ?_
        refine TC.region ?_
        refine TL.v rfl (OpVal.lss rfl rfl rfl) rfl rfl ?_
        refine TL.nil ?_
        refine S.n ?_
        refine TC.seq ?_
        refine TC.cond rfl (fun h151 => ?_) (fun h151 => ?_)
        · replace hh := iteO_t h151 hh
          replace h151 := of_decide_eq_true h151
          refine TC.skip ?_
          refine S.n ?_
          refine TC.seq ?_
          refine TC.block ?_
          refine TC.seq ?_
          refine TC.region ?_
          refine TL.v rfl (OpVal.indexN rfl Try.underlying22 sz3 rfl rfl f0_1.rv.sl (by omega)) rfl rfl ?_
          refine TL.v rfl (OpVal.loadS1 (0 : Int) rfl ag3 rfl f0_1 (by omega) rfl) rfl rfl ?_
          refine TL.v rfl (OpVal.moveI (.inr rfl) rfl) rfl rfl ?_
          refine TL.nil ?_
          refine S.n ?_
          refine TC.seq ?_
          refine TC.region ?_
          refine TL.v rfl (OpVal.moveMap (.inl rfl) rfl) rfl rfl ?_
          refine TL.v rfl (OpVal.moveI (.inl rfl) rfl) rfl rfl ?_
          refine TL.v rfl (OpVal.lookSet rfl Try.underlying82 ze83 rfl (i := 0) rfl rfl (keyI_law Try.underlying3)) rfl rfl ?_
          refine TL.v rfl (OpVal.moveT (.inl rfl) rfl) rfl rfl ?_
          refine TL.v rfl (OpVal.extract rfl rfl rfl) rfl rfl ?_
          refine TL.v rfl (OpVal.extract rfl rfl rfl) rfl rfl ?_
          refine TL.op rfl (OpOk.alloc rfl ze83 rfl rfl (fun b152 => ?_))
          refine TL.op rfl (OpOk.storeAll rfl sz83 rfl rfl rfl rfl rfl rfl ?_)
          refine TL.v rfl (OpVal.moveB (.inr rfl) rfl) rfl rfl ?_
          refine TL.nil ?_
          refine S.n ?_
          refine TC.seq ?_
          refine TC.region ?_
          refine TL.v rfl (OpVal.moveB (.inl rfl) rfl) rfl rfl ?_
          refine TL.nil ?_
          refine S.n ?_
          refine TC.cond rfl (fun h154 => ?_) (fun h154 => ?_)
          · replace hh := iteO_t h154 hh
            refine TC.seq ?_
            refine TC.region ?_
            refine TL.v rfl (OpVal.moveB (.inr rfl) rfl) rfl rfl ?_
            refine TL.v rfl (OpVal.moveI (.inr rfl) rfl) rfl rfl ?_
            refine TL.nil ?_
            refine S.n ?_
            refine TC.ofSub (Sub.pre 0 rfl) ?_
            refine TC.ret ?_
            refine B.r ?_
            refine S.r ?_
            refine S.r ?_
            replace hh := fin_x hR1 hh
            refine B.r ?_
            refine S.r ?_
            obtain rfl := Option.some.inj hh
            exact RetOk.mk' (rs := [.tmp 4, .tmp 5]) [] rfl (.inl rfl) (RVs.tmp rfl (RVs.tmp rfl RVs.nil)) (List.sublist_append_left _ _) ⟨rfl, rfl, rfl⟩
          · replace hh := iteO_f h154 hh
            refine TC.skip ?_
            refine B.n ?_
            refine S.n ?_
            refine TC.region ?_
            refine TL.v rfl (OpVal.succ rfl rfl rfl (by omega)) rfl rfl ?_
            refine TL.v rfl (OpVal.moveI (.inl rfl) rfl) rfl rfl ?_
            refine TL.nil ?_
            refine S.n ?_
            obtain ⟨hh, hlt155⟩ := nxt_x hR1 hh
            refine ⟨by repeat (first | exact Agr.refl _ _ | exact Agr.mask | refine Agr.upd rfl ?_ | refine Agr.maskIn rfl ?_ | refine Agr.upds rfl ?_), ((k150 + 1), ()), hlt155, hh, by repeat (first | exact trivial | refine ⟨rfl, ?_⟩), Sub.front 1 rfl rfl (Sub.pre 1 rfl), rfl⟩
        · replace hh := iteO_f h151 hh
          replace h151 := of_decide_eq_false h151
          refine TC.exit ?_
          refine S.x ?_
          refine S.x ?_
          replace hh := fin_x hR1 hh
          refine TC.exitHere ?_
          refine S.n ?_
          refine TC.seq ?_
          refine TC.region ?_
          refine TL.v rfl (OpVal.moveB (.inr rfl) rfl) rfl rfl ?_
          refine TL.v rfl (OpVal.moveI (.inr rfl) rfl) rfl rfl ?_
          refine TL.nil ?_
          refine S.n ?_
          refine TC.ofSub (Sub.pre 0 rfl) ?_
          refine TC.ret ?_
          obtain rfl := Option.some.inj hh
          exact RetOk.mk' (rs := [.tmp 4, .tmp 5]) [] rfl (.inl rfl) (RVs.tmp rfl (RVs.tmp rfl RVs.nil)) (List.sublist_append_left _ _) ⟨rfl, rfl, rfl⟩

end Go.Proofs.Ytcidppnlhhkhhaa
end

/- Nfa2 -/
section
/- Contracts of package nfa and of its reference, part two. -/
set_option linter.unusedVariables false
set_option linter.unusedSimpArgs false
namespace Go.Proofs.Ytcidppnlhhkhhaa
open Go Go.E
set_option maxRecDepth 100000

theorem right_con (σ : Store) (n : Nfa) (p : NfaP) (hn : RNfa σ n p) : Con Try.prog 57 #[nfaV n p] σ [] (PureP (.bool (checkB n)) σ) := by
  have hb := hn.d.rv.big
  have hd := hn.d
  refine Con.mk (n := 75) Try.func57 rfl rfl rfl (fun w0 => ?_)
  refine TC.seq ?_
  refine TC.region ?_
  refine TL.op rfl (OpOk.boxA rfl rfl rfl rfl (fun b1 => ?_))
  refine TL.v rfl (OpVal.moveB (.inr rfl) rfl) rfl rfl ?_
  refine TL.nil ?_
  refine S.n ?_
  refine TC.seq ?_
  refine TC.seq ?_
  refine TC.region ?_
  refine TL.v rfl (OpVal.fieldLoc rfl fo25_0 rfl) rfl rfl ?_
  refine TL.v rfl (OpVal.loadLoc rfl ag3 rfl (i := 0) rfl rfl) rfl rfl ?_
  refine TL.v rfl (OpVal.lss rfl rfl rfl) rfl rfl ?_
  refine TL.v rfl (OpVal.moveB (.inl rfl) rfl) rfl rfl ?_
  refine TL.split 8 rfl (fun h3 => ?_) (fun h3 => ?_)
  · try simp only [decide_eq_true_eq, decide_eq_false_iff_not, Bool.not_eq_true', Bool.not_eq_false', Bool.not_eq_eq_eq_not, Bool.not_true, Bool.not_false, Int.not_lt, Int.not_le, Decidable.not_not] at h3
    refine TL.goff rfl rfl rfl rfl rfl rfl rfl rfl ?_
    refine TL.goff rfl rfl rfl rfl rfl rfl rfl rfl ?_
    refine TL.goff rfl rfl rfl rfl rfl rfl rfl rfl ?_
    refine TL.v rfl (OpVal.pickTB rfl rfl rfl) rfl rfl ?_
    refine TL.v rfl (OpVal.moveB (.inl rfl) rfl) rfl rfl ?_
    refine TL.goff rfl rfl rfl rfl rfl rfl rfl rfl ?_
    refine TL.goff rfl rfl rfl rfl rfl rfl rfl rfl ?_
    refine TL.goff rfl rfl rfl rfl rfl rfl rfl rfl ?_
    refine TL.goff rfl rfl rfl rfl rfl rfl rfl rfl ?_
    refine TL.goff rfl rfl rfl rfl rfl rfl rfl rfl ?_
    refine TL.goff rfl rfl rfl rfl rfl rfl rfl rfl ?_
    refine TL.v rfl (OpVal.pickTB rfl rfl rfl) rfl rfl ?_
    refine TL.v rfl (OpVal.moveB (.inl rfl) rfl) rfl rfl ?_
    refine TL.goff rfl rfl rfl rfl rfl rfl rfl rfl ?_
    refine TL.goff rfl rfl rfl rfl rfl rfl rfl rfl ?_
    refine TL.goff rfl rfl rfl rfl rfl rfl rfl rfl ?_
    refine TL.goff rfl rfl rfl rfl rfl rfl rfl rfl ?_
    refine TL.goff rfl rfl rfl rfl rfl rfl rfl rfl ?_
    refine TL.goff rfl rfl rfl rfl rfl rfl rfl rfl ?_
    refine TL.v rfl (OpVal.pickTB rfl rfl rfl) rfl rfl ?_
    refine TL.v rfl (OpVal.moveB (.inl rfl) rfl) rfl rfl ?_
    refine TL.goff rfl rfl rfl rfl rfl rfl rfl rfl ?_
    refine TL.goff rfl rfl rfl rfl rfl rfl rfl rfl ?_
    refine TL.goff rfl rfl rfl rfl rfl rfl rfl rfl ?_
    refine TL.goff rfl rfl rfl rfl rfl rfl rfl rfl ?_
    refine TL.v rfl (OpVal.pickTB rfl rfl rfl) rfl rfl ?_
    refine TL.nil ?_
    refine S.n ?_
    refine TC.cond rfl (fun _ => ?_) (fun h => Bool.noConfusion h)
    refine TC.seq ?_
    refine TC.region ?_
    refine TL.v rfl (OpVal.moveB (.inr rfl) rfl) rfl rfl ?_
    refine TL.nil ?_
    refine S.n ?_
    refine TC.ret ?_
    refine S.r ?_
    -- leaf 1 ret [h3: t8=True] H=['q2']
    refine ret1P rfl (congrArg Value.bool ?_)
    exact (show checkB n = false from by simp only [checkB, Bool.and_eq_false_iff, decide_eq_false_iff_not]; omega).symm
  · try simp only [decide_eq_true_eq, decide_eq_false_iff_not, Bool.not_eq_true', Bool.not_eq_false', Bool.not_eq_eq_eq_not, Bool.not_true, Bool.not_false, Int.not_lt, Int.not_le, Decidable.not_not] at h3
    refine TL.gv rfl rfl rfl rfl rfl (OpVal.fieldLoc rfl fo25_0 rfl) rfl rfl ?_
    refine TL.gv rfl rfl rfl rfl rfl (OpVal.loadLoc rfl ag3 rfl (i := 0) rfl rfl) rfl rfl ?_
    refine TL.gv rfl rfl rfl rfl rfl (OpVal.gtr rfl rfl rfl) rfl rfl ?_
    refine TL.v rfl (OpVal.pickFB rfl rfl rfl) rfl rfl ?_
    refine TL.v rfl (OpVal.moveB (.inl rfl) rfl) rfl rfl ?_
    refine TL.split 13 rfl (fun h4 => ?_) (fun h4 => ?_)
    · try simp only [decide_eq_true_eq, decide_eq_false_iff_not, Bool.not_eq_true', Bool.not_eq_false', Bool.not_eq_eq_eq_not, Bool.not_true, Bool.not_false, Int.not_lt, Int.not_le, Decidable.not_not] at h4
      refine TL.goff rfl rfl rfl rfl rfl rfl rfl rfl ?_
      refine TL.goff rfl rfl rfl rfl rfl rfl rfl rfl ?_
      refine TL.goff rfl rfl rfl rfl rfl rfl rfl rfl ?_
      refine TL.goff rfl rfl rfl rfl rfl rfl rfl rfl ?_
      refine TL.goff rfl rfl rfl rfl rfl rfl rfl rfl ?_
      refine TL.goff rfl rfl rfl rfl rfl rfl rfl rfl ?_
      refine TL.v rfl (OpVal.pickTB rfl rfl rfl) rfl rfl ?_
      refine TL.v rfl (OpVal.moveB (.inl rfl) rfl) rfl rfl ?_
      refine TL.goff rfl rfl rfl rfl rfl rfl rfl rfl ?_
      refine TL.goff rfl rfl rfl rfl rfl rfl rfl rfl ?_
      refine TL.goff rfl rfl rfl rfl rfl rfl rfl rfl ?_
      refine TL.goff rfl rfl rfl rfl rfl rfl rfl rfl ?_
      refine TL.goff rfl rfl rfl rfl rfl rfl rfl rfl ?_
      refine TL.goff rfl rfl rfl rfl rfl rfl rfl rfl ?_
      refine TL.v rfl (OpVal.pickTB rfl rfl rfl) rfl rfl ?_
      refine TL.v rfl (OpVal.moveB (.inl rfl) rfl) rfl rfl ?_
      refine TL.goff rfl rfl rfl rfl rfl rfl rfl rfl ?_
      refine TL.goff rfl rfl rfl rfl rfl rfl rfl rfl ?_
      refine TL.goff rfl rfl rfl rfl rfl rfl rfl rfl ?_
      refine TL.goff rfl rfl rfl rfl rfl rfl rfl rfl ?_
      refine TL.v rfl (OpVal.pickTB rfl rfl rfl) rfl rfl ?_
      refine TL.nil ?_
      refine S.n ?_
      refine TC.cond rfl (fun _ => ?_) (fun h => Bool.noConfusion h)
      refine TC.seq ?_
      refine TC.region ?_
      refine TL.v rfl (OpVal.moveB (.inr rfl) rfl) rfl rfl ?_
      refine TL.nil ?_
      refine S.n ?_
      refine TC.ret ?_
      refine S.r ?_
      -- leaf 2 ret [h3: t8=False; h4: t13=True] H=['q2']
      refine ret1P rfl (congrArg Value.bool ?_)
      exact (show checkB n = false from by simp only [checkB, Bool.and_eq_false_iff, decide_eq_false_iff_not]; omega).symm
    · try simp only [decide_eq_true_eq, decide_eq_false_iff_not, Bool.not_eq_true', Bool.not_eq_false', Bool.not_eq_eq_eq_not, Bool.not_true, Bool.not_false, Int.not_lt, Int.not_le, Decidable.not_not] at h4
      refine TL.gv rfl rfl rfl rfl rfl (OpVal.fieldLoc rfl fo25_1 rfl) rfl rfl ?_
      refine TL.gv rfl rfl rfl rfl rfl (OpVal.loadLoc rfl ag22 rfl (i := 0) rfl rfl) rfl rfl ?_
      refine TL.gv rfl rfl rfl rfl rfl (OpVal.fieldLoc rfl fo25_0 rfl) rfl rfl ?_
      refine TL.gv rfl rfl rfl rfl rfl (OpVal.loadLoc rfl ag3 rfl (i := 0) rfl rfl) rfl rfl ?_
      refine TL.gon rfl rfl rfl rfl rfl (OpOk.callP (states_con _ _ _ _ _ hn.s) rfl rfl pf83 rfl rfl rfl ?_)
      refine TL.gv rfl rfl rfl rfl rfl (OpVal.not rfl rfl) rfl rfl ?_
      refine TL.v rfl (OpVal.pickFB rfl rfl rfl) rfl rfl ?_
      refine TL.v rfl (OpVal.moveB (.inl rfl) rfl) rfl rfl ?_
      refine TL.split 21 rfl (fun h5 => ?_) (fun h5 => ?_)
      · try simp only [decide_eq_true_eq, decide_eq_false_iff_not, Bool.not_eq_true', Bool.not_eq_false', Bool.not_eq_eq_eq_not, Bool.not_true, Bool.not_false, Int.not_lt, Int.not_le, Decidable.not_not] at h5
        refine TL.goff rfl rfl rfl rfl rfl rfl rfl rfl ?_
        refine TL.goff rfl rfl rfl rfl rfl rfl rfl rfl ?_
        refine TL.goff rfl rfl rfl rfl rfl rfl rfl rfl ?_
        refine TL.goff rfl rfl rfl rfl rfl rfl rfl rfl ?_
        refine TL.goff rfl rfl rfl rfl rfl rfl rfl rfl ?_
        refine TL.goff rfl rfl rfl rfl rfl rfl rfl rfl ?_
        refine TL.v rfl (OpVal.pickTB rfl rfl rfl) rfl rfl ?_
        refine TL.v rfl (OpVal.moveB (.inl rfl) rfl) rfl rfl ?_
        refine TL.goff rfl rfl rfl rfl rfl rfl rfl rfl ?_
        refine TL.goff rfl rfl rfl rfl rfl rfl rfl rfl ?_
        refine TL.goff rfl rfl rfl rfl rfl rfl rfl rfl ?_
        refine TL.goff rfl rfl rfl rfl rfl rfl rfl rfl ?_
        refine TL.v rfl (OpVal.pickTB rfl rfl rfl) rfl rfl ?_
        refine TL.nil ?_
        refine S.n ?_
        refine TC.cond rfl (fun _ => ?_) (fun h => Bool.noConfusion h)
        refine TC.seq ?_
        refine TC.region ?_
        refine TL.v rfl (OpVal.moveB (.inr rfl) rfl) rfl rfl ?_
        refine TL.nil ?_
        refine S.n ?_
        refine TC.ret ?_
        refine S.r ?_
        -- leaf 3 ret [h3: t8=False; h4: t13=False; h5: t21=True] H=['q2']
        refine ret1P rfl (congrArg Value.bool ?_)
        exact (show checkB n = false from by simp [checkB, h5]).symm
      · try simp only [decide_eq_true_eq, decide_eq_false_iff_not, Bool.not_eq_true', Bool.not_eq_false', Bool.not_eq_eq_eq_not, Bool.not_true, Bool.not_false, Int.not_lt, Int.not_le, Decidable.not_not] at h5
        refine TL.gv rfl rfl rfl rfl rfl (OpVal.fieldLoc rfl fo25_2 rfl) rfl rfl ?_
        refine TL.gv rfl rfl rfl rfl rfl (OpVal.loadLoc rfl ag22 rfl (i := 0) rfl rfl) rfl rfl ?_
        refine TL.gv rfl rfl rfl rfl rfl (OpVal.fieldLoc rfl fo25_0 rfl) rfl rfl ?_
        refine TL.gv rfl rfl rfl rfl rfl (OpVal.loadLoc rfl ag3 rfl (i := 0) rfl rfl) rfl rfl ?_
        refine TL.gon rfl rfl rfl rfl rfl (OpOk.callP (states_con _ _ _ _ _ hn.e) rfl rfl pf83 rfl rfl rfl ?_)
        refine TL.gv rfl rfl rfl rfl rfl (OpVal.not rfl rfl) rfl rfl ?_
        refine TL.v rfl (OpVal.pickFB rfl rfl rfl) rfl rfl ?_
        refine TL.v rfl (OpVal.moveB (.inl rfl) rfl) rfl rfl ?_
        refine TL.split 29 rfl (fun h6 => ?_) (fun h6 => ?_)
        · try simp only [decide_eq_true_eq, decide_eq_false_iff_not, Bool.not_eq_true', Bool.not_eq_false', Bool.not_eq_eq_eq_not, Bool.not_true, Bool.not_false, Int.not_lt, Int.not_le, Decidable.not_not] at h6
          refine TL.goff rfl rfl rfl rfl rfl rfl rfl rfl ?_
          refine TL.goff rfl rfl rfl rfl rfl rfl rfl rfl ?_
          refine TL.goff rfl rfl rfl rfl rfl rfl rfl rfl ?_
          refine TL.goff rfl rfl rfl rfl rfl rfl rfl rfl ?_
          refine TL.v rfl (OpVal.pickTB rfl rfl rfl) rfl rfl ?_
          refine TL.nil ?_
          refine S.n ?_
          refine TC.cond rfl (fun _ => ?_) (fun h => Bool.noConfusion h)
          refine TC.seq ?_
          refine TC.region ?_
          refine TL.v rfl (OpVal.moveB (.inr rfl) rfl) rfl rfl ?_
          refine TL.nil ?_
          refine S.n ?_
          refine TC.ret ?_
          refine S.r ?_
          -- leaf 4 ret [h3: t8=False; h4: t13=False; h5: t21=False; h6: t29=True] H=['q2']
          refine ret1P rfl (congrArg Value.bool ?_)
          exact (show checkB n = false from by simp [checkB, h6]).symm
        · try simp only [decide_eq_true_eq, decide_eq_false_iff_not, Bool.not_eq_true', Bool.not_eq_false', Bool.not_eq_eq_eq_not, Bool.not_true, Bool.not_false, Int.not_lt, Int.not_le, Decidable.not_not] at h6
          refine TL.gv rfl rfl rfl rfl rfl (OpVal.fieldLoc rfl fo25_3 rfl) rfl rfl ?_
          refine TL.gv rfl rfl rfl rfl rfl (OpVal.loadLoc rfl ag23 rfl (i := 0) rfl rfl) rfl rfl ?_
          refine TL.gv rfl rfl rfl rfl rfl (OpVal.lenC rfl Try.underlying23 rfl) rfl rfl ?_
          refine TL.gv rfl rfl rfl rfl rfl (OpVal.gtr rfl rfl rfl) rfl rfl ?_
          refine TL.v rfl (OpVal.pickFB rfl rfl rfl) rfl rfl ?_
          refine TL.nil ?_
          refine S.n ?_
          refine TC.condD rfl (fun h7 => ?_) (fun h7 => ?_)
          · try simp only [decide_eq_true_eq, decide_eq_false_iff_not, Bool.not_eq_true', Bool.not_eq_false', Bool.not_eq_eq_eq_not, Bool.not_true, Bool.not_false, Int.not_lt, Int.not_le, Decidable.not_not] at h7
            refine TC.seq ?_
            refine TC.region ?_
            refine TL.v rfl (OpVal.moveB (.inr rfl) rfl) rfl rfl ?_
            refine TL.nil ?_
            refine S.n ?_
            refine TC.ret ?_
            refine S.r ?_
            -- leaf 5 ret [h3: t8=False; h4: t13=False; h5: t21=False; h6: t29=False; h7: True] H=['q2']
            refine ret1P rfl (congrArg Value.bool ?_)
            exact (show checkB n = false from by simp only [checkB, Bool.and_eq_false_iff, decide_eq_false_iff_not]; omega).symm
          · try simp only [decide_eq_true_eq, decide_eq_false_iff_not, Bool.not_eq_true', Bool.not_eq_false', Bool.not_eq_eq_eq_not, Bool.not_true, Bool.not_false, Int.not_lt, Int.not_le, Decidable.not_not] at h7
            refine TC.skip ?_
            refine S.n ?_
            refine TC.seq ?_
            refine TC.seq ?_
            refine TC.region ?_
            refine TL.v rfl (OpVal.moveI (.inr rfl) rfl) rfl rfl ?_
            refine TL.nil ?_
            refine S.n ?_
            refine TC.block ?_
            refine TC.loopF (α := Nat) [2, 3, 4, 35, 36, 37, 38, 39, 40, 41, 42, 43, 44, 45, 46, 47, 48, 49, 50, 51, 52, 53, 54, 55, 56, 57, 58, 59, 60, 61, 62, 63, 64, 65, 66, 67, 68, 69, 70, 71, 72, 73, 74] (fun k => [(3, .int .i64 (k : Nat))]) (fun _ => _) (fun _ => _) (fun k => k ≤ n.edges.length ∧ ∀ i, i < k → edgeB n.states (nth n.edges i Arrow.zero) = true) (fun k => n.edges.length - k) (0) (by first | exact True.intro | omega | (dsimp only; omega) | (simp; done) | (simp; omega)) (by repeat (first | exact trivial | refine ⟨rfl, ?_⟩)) (by rfl) (by rfl) (fun g1 j1 hg1 => ?_)
            obtain ⟨hk, hi⟩ := hg1
            refine TC.seq ?_
            refine TC.seq ?_
            refine TC.region ?_
            refine TL.v rfl (OpVal.moveI (.inl rfl) rfl) rfl rfl ?_
            refine TL.v rfl (OpVal.fieldLoc rfl fo25_3 rfl) rfl rfl ?_
            refine TL.v rfl (OpVal.loadLoc rfl ag23 rfl (i := 0) rfl rfl) rfl rfl ?_
            refine TL.v rfl (OpVal.lenC rfl Try.underlying23 rfl) rfl rfl ?_
            refine TL.v rfl (OpVal.lss rfl rfl rfl) rfl rfl ?_
            refine TL.nil ?_
            refine S.n ?_
            refine TC.condD rfl (fun h8 => ?_) (fun h8 => ?_)
            · try simp only [decide_eq_true_eq, decide_eq_false_iff_not, Bool.not_eq_true', Bool.not_eq_false', Bool.not_eq_eq_eq_not, Bool.not_true, Bool.not_false, Int.not_lt, Int.not_le, Decidable.not_not] at h8
              refine TC.skip ?_
              refine S.n ?_
              refine TC.seq ?_
              refine TC.block ?_
              refine TC.seq ?_
              refine TC.region ?_
              refine TL.v rfl (OpVal.fieldLoc rfl fo25_3 rfl) rfl rfl ?_
              refine TL.v rfl (OpVal.loadLoc rfl ag23 rfl (i := 0) rfl rfl) rfl rfl ?_
              refine TL.v rfl (OpVal.moveI (.inl rfl) rfl) rfl rfl ?_
              refine TL.v rfl (OpVal.indexN rfl Try.underlying23 sz80 rfl rfl (by first | assumption | exact (RS.rv (by assumption)).sl) (by omega)) rfl rfl ?_
              refine TL.v rfl (OpVal.loadSA Arrow.zero rfl ag80 sz80 rfl (by assumption) (by omega) (by omega)) rfl rfl ?_
              refine TL.op rfl (OpOk.alloc rfl ze80 rfl rfl (fun b9 => ?_))
              refine TL.op rfl (OpOk.storeAll rfl sz80 rfl rfl rfl rfl rfl rfl ?_)
              refine TL.nil ?_
              refine S.n ?_
              refine TC.seq ?_
              refine TC.region ?_
              refine TL.v rfl (OpVal.fieldLoc rfl fo80_0 rfl) rfl rfl ?_
              refine TL.v rfl (OpVal.loadLoc rfl ag3 rfl (i := 0) rfl rfl) rfl rfl ?_
              refine TL.v rfl (OpVal.lss rfl rfl rfl) rfl rfl ?_
              refine TL.v rfl (OpVal.moveB (.inl rfl) rfl) rfl rfl ?_
              refine TL.split 50 rfl (fun h11 => ?_) (fun h11 => ?_)
              · try simp only [decide_eq_true_eq, decide_eq_false_iff_not, Bool.not_eq_true', Bool.not_eq_false', Bool.not_eq_eq_eq_not, Bool.not_true, Bool.not_false, Int.not_lt, Int.not_le, Decidable.not_not] at h11
                refine TL.goff rfl rfl rfl rfl rfl rfl rfl rfl ?_
                refine TL.goff rfl rfl rfl rfl rfl rfl rfl rfl ?_
                refine TL.goff rfl rfl rfl rfl rfl rfl rfl rfl ?_
                refine TL.goff rfl rfl rfl rfl rfl rfl rfl rfl ?_
                refine TL.goff rfl rfl rfl rfl rfl rfl rfl rfl ?_
                refine TL.v rfl (OpVal.pickTB rfl rfl rfl) rfl rfl ?_
                refine TL.v rfl (OpVal.moveB (.inl rfl) rfl) rfl rfl ?_
                refine TL.goff rfl rfl rfl rfl rfl rfl rfl rfl ?_
                refine TL.goff rfl rfl rfl rfl rfl rfl rfl rfl ?_
                refine TL.goff rfl rfl rfl rfl rfl rfl rfl rfl ?_
                refine TL.v rfl (OpVal.pickTB rfl rfl rfl) rfl rfl ?_
                refine TL.v rfl (OpVal.moveB (.inl rfl) rfl) rfl rfl ?_
                refine TL.goff rfl rfl rfl rfl rfl rfl rfl rfl ?_
                refine TL.goff rfl rfl rfl rfl rfl rfl rfl rfl ?_
                refine TL.goff rfl rfl rfl rfl rfl rfl rfl rfl ?_
                refine TL.goff rfl rfl rfl rfl rfl rfl rfl rfl ?_
                refine TL.goff rfl rfl rfl rfl rfl rfl rfl rfl ?_
                refine TL.v rfl (OpVal.pickTB rfl rfl rfl) rfl rfl ?_
                refine TL.v rfl (OpVal.moveB (.inl rfl) rfl) rfl rfl ?_
                refine TL.goff rfl rfl rfl rfl rfl rfl rfl rfl ?_
                refine TL.goff rfl rfl rfl rfl rfl rfl rfl rfl ?_
                refine TL.goff rfl rfl rfl rfl rfl rfl rfl rfl ?_
                refine TL.goff rfl rfl rfl rfl rfl rfl rfl rfl ?_
                refine TL.v rfl (OpVal.pickTB rfl rfl rfl) rfl rfl ?_
                refine TL.nil ?_
                refine S.n ?_
                refine TC.cond rfl (fun _ => ?_) (fun h => Bool.noConfusion h)
                refine TC.seq ?_
                refine TC.region ?_
                refine TL.v rfl (OpVal.moveB (.inr rfl) rfl) rfl rfl ?_
                refine TL.nil ?_
                refine S.n ?_
                refine TC.ret ?_
                refine B.r ?_
                refine S.r ?_
                refine S.r ?_
                refine B.r ?_
                refine S.r ?_
                -- leaf 6 ret [h3: t8=False; h4: t13=False; h5: t21=False; h6: t29=False; h7: False; h8: True; h11: t50=True] H=['q10', 'q2']
                refine ret1P rfl (congrArg Value.bool ?_)
                exact (show checkB n = false from by rw [checkB, edges_no (n := n) (k := g1) (by omega) (by simp [edgeB, stateB]; omega), Bool.and_false]).symm
              · try simp only [decide_eq_true_eq, decide_eq_false_iff_not, Bool.not_eq_true', Bool.not_eq_false', Bool.not_eq_eq_eq_not, Bool.not_true, Bool.not_false, Int.not_lt, Int.not_le, Decidable.not_not] at h11
                refine TL.gv rfl rfl rfl rfl rfl (OpVal.fieldLoc rfl fo80_0 rfl) rfl rfl ?_
                refine TL.gv rfl rfl rfl rfl rfl (OpVal.loadLoc rfl ag3 rfl (i := 0) rfl rfl) rfl rfl ?_
                refine TL.gv rfl rfl rfl rfl rfl (OpVal.fieldLoc rfl fo25_0 rfl) rfl rfl ?_
                refine TL.gv rfl rfl rfl rfl rfl (OpVal.loadLoc rfl ag3 rfl (i := 1) rfl rfl) rfl rfl ?_
                refine TL.gv rfl rfl rfl rfl rfl (OpVal.geq rfl rfl rfl) rfl rfl ?_
                refine TL.v rfl (OpVal.pickFB rfl rfl rfl) rfl rfl ?_
                refine TL.v rfl (OpVal.moveB (.inl rfl) rfl) rfl rfl ?_
                refine TL.split 57 rfl (fun h12 => ?_) (fun h12 => ?_)
                · try simp only [decide_eq_true_eq, decide_eq_false_iff_not, Bool.not_eq_true', Bool.not_eq_false', Bool.not_eq_eq_eq_not, Bool.not_true, Bool.not_false, Int.not_lt, Int.not_le, Decidable.not_not] at h12
                  refine TL.goff rfl rfl rfl rfl rfl rfl rfl rfl ?_
                  refine TL.goff rfl rfl rfl rfl rfl rfl rfl rfl ?_
                  refine TL.goff rfl rfl rfl rfl rfl rfl rfl rfl ?_
                  refine TL.v rfl (OpVal.pickTB rfl rfl rfl) rfl rfl ?_
                  refine TL.v rfl (OpVal.moveB (.inl rfl) rfl) rfl rfl ?_
                  refine TL.goff rfl rfl rfl rfl rfl rfl rfl rfl ?_
                  refine TL.goff rfl rfl rfl rfl rfl rfl rfl rfl ?_
                  refine TL.goff rfl rfl rfl rfl rfl rfl rfl rfl ?_
                  refine TL.goff rfl rfl rfl rfl rfl rfl rfl rfl ?_
                  refine TL.goff rfl rfl rfl rfl rfl rfl rfl rfl ?_
                  refine TL.v rfl (OpVal.pickTB rfl rfl rfl) rfl rfl ?_
                  refine TL.v rfl (OpVal.moveB (.inl rfl) rfl) rfl rfl ?_
                  refine TL.goff rfl rfl rfl rfl rfl rfl rfl rfl ?_
                  refine TL.goff rfl rfl rfl rfl rfl rfl rfl rfl ?_
                  refine TL.goff rfl rfl rfl rfl rfl rfl rfl rfl ?_
                  refine TL.goff rfl rfl rfl rfl rfl rfl rfl rfl ?_
                  refine TL.v rfl (OpVal.pickTB rfl rfl rfl) rfl rfl ?_
                  refine TL.nil ?_
                  refine S.n ?_
                  refine TC.cond rfl (fun _ => ?_) (fun h => Bool.noConfusion h)
                  refine TC.seq ?_
                  refine TC.region ?_
                  refine TL.v rfl (OpVal.moveB (.inr rfl) rfl) rfl rfl ?_
                  refine TL.nil ?_
                  refine S.n ?_
                  refine TC.ret ?_
                  refine B.r ?_
                  refine S.r ?_
                  refine S.r ?_
                  refine B.r ?_
                  refine S.r ?_
                  -- leaf 7 ret [h3: t8=False; h4: t13=False; h5: t21=False; h6: t29=False; h7: False; h8: True; h11: t50=False; h12: t57=True] H=['q10', 'q2']
                  refine ret1P rfl (congrArg Value.bool ?_)
                  exact (show checkB n = false from by rw [checkB, edges_no (n := n) (k := g1) (by omega) (by simp [edgeB, stateB]; omega), Bool.and_false]).symm
                · try simp only [decide_eq_true_eq, decide_eq_false_iff_not, Bool.not_eq_true', Bool.not_eq_false', Bool.not_eq_eq_eq_not, Bool.not_true, Bool.not_false, Int.not_lt, Int.not_le, Decidable.not_not] at h12
                  refine TL.gv rfl rfl rfl rfl rfl (OpVal.fieldLoc rfl fo80_1 rfl) rfl rfl ?_
                  refine TL.gv rfl rfl rfl rfl rfl (OpVal.loadLoc rfl ag3 rfl (i := 0) rfl rfl) rfl rfl ?_
                  refine TL.gv rfl rfl rfl rfl rfl (OpVal.lss rfl rfl rfl) rfl rfl ?_
                  refine TL.v rfl (OpVal.pickFB rfl rfl rfl) rfl rfl ?_
                  refine TL.v rfl (OpVal.moveB (.inl rfl) rfl) rfl rfl ?_
                  refine TL.split 62 rfl (fun h13 => ?_) (fun h13 => ?_)
                  · try simp only [decide_eq_true_eq, decide_eq_false_iff_not, Bool.not_eq_true', Bool.not_eq_false', Bool.not_eq_eq_eq_not, Bool.not_true, Bool.not_false, Int.not_lt, Int.not_le, Decidable.not_not] at h13
                    refine TL.goff rfl rfl rfl rfl rfl rfl rfl rfl ?_
                    refine TL.goff rfl rfl rfl rfl rfl rfl rfl rfl ?_
                    refine TL.goff rfl rfl rfl rfl rfl rfl rfl rfl ?_
                    refine TL.goff rfl rfl rfl rfl rfl rfl rfl rfl ?_
                    refine TL.goff rfl rfl rfl rfl rfl rfl rfl rfl ?_
                    refine TL.v rfl (OpVal.pickTB rfl rfl rfl) rfl rfl ?_
                    refine TL.v rfl (OpVal.moveB (.inl rfl) rfl) rfl rfl ?_
                    refine TL.goff rfl rfl rfl rfl rfl rfl rfl rfl ?_
                    refine TL.goff rfl rfl rfl rfl rfl rfl rfl rfl ?_
                    refine TL.goff rfl rfl rfl rfl rfl rfl rfl rfl ?_
                    refine TL.goff rfl rfl rfl rfl rfl rfl rfl rfl ?_
                    refine TL.v rfl (OpVal.pickTB rfl rfl rfl) rfl rfl ?_
                    refine TL.nil ?_
                    refine S.n ?_
                    refine TC.cond rfl (fun _ => ?_) (fun h => Bool.noConfusion h)
                    refine TC.seq ?_
                    refine TC.region ?_
                    refine TL.v rfl (OpVal.moveB (.inr rfl) rfl) rfl rfl ?_
                    refine TL.nil ?_
                    refine S.n ?_
                    refine TC.ret ?_
                    refine B.r ?_
                    refine S.r ?_
                    refine S.r ?_
                    refine B.r ?_
                    refine S.r ?_
                    -- leaf 8 ret [h3: t8=False; h4: t13=False; h5: t21=False; h6: t29=False; h7: False; h8: True; h11: t50=False; h12: t57=False; h13: t62=True] H=['q10', 'q2']
                    refine ret1P rfl (congrArg Value.bool ?_)
                    exact (show checkB n = false from by rw [checkB, edges_no (n := n) (k := g1) (by omega) (by simp [edgeB, stateB]; omega), Bool.and_false]).symm
                  · try simp only [decide_eq_true_eq, decide_eq_false_iff_not, Bool.not_eq_true', Bool.not_eq_false', Bool.not_eq_eq_eq_not, Bool.not_true, Bool.not_false, Int.not_lt, Int.not_le, Decidable.not_not] at h13
                    refine TL.gv rfl rfl rfl rfl rfl (OpVal.fieldLoc rfl fo80_1 rfl) rfl rfl ?_
                    refine TL.gv rfl rfl rfl rfl rfl (OpVal.loadLoc rfl ag3 rfl (i := 0) rfl rfl) rfl rfl ?_
                    refine TL.gv rfl rfl rfl rfl rfl (OpVal.fieldLoc rfl fo25_0 rfl) rfl rfl ?_
                    refine TL.gv rfl rfl rfl rfl rfl (OpVal.loadLoc rfl ag3 rfl (i := 1) rfl rfl) rfl rfl ?_
                    refine TL.gv rfl rfl rfl rfl rfl (OpVal.geq rfl rfl rfl) rfl rfl ?_
                    refine TL.v rfl (OpVal.pickFB rfl rfl rfl) rfl rfl ?_
                    refine TL.v rfl (OpVal.moveB (.inl rfl) rfl) rfl rfl ?_
                    refine TL.split 69 rfl (fun h14 => ?_) (fun h14 => ?_)
                    · try simp only [decide_eq_true_eq, decide_eq_false_iff_not, Bool.not_eq_true', Bool.not_eq_false', Bool.not_eq_eq_eq_not, Bool.not_true, Bool.not_false, Int.not_lt, Int.not_le, Decidable.not_not] at h14
                      refine TL.goff rfl rfl rfl rfl rfl rfl rfl rfl ?_
                      refine TL.goff rfl rfl rfl rfl rfl rfl rfl rfl ?_
                      refine TL.goff rfl rfl rfl rfl rfl rfl rfl rfl ?_
                      refine TL.goff rfl rfl rfl rfl rfl rfl rfl rfl ?_
                      refine TL.v rfl (OpVal.pickTB rfl rfl rfl) rfl rfl ?_
                      refine TL.nil ?_
                      refine S.n ?_
                      refine TC.cond rfl (fun _ => ?_) (fun h => Bool.noConfusion h)
                      refine TC.seq ?_
                      refine TC.region ?_
                      refine TL.v rfl (OpVal.moveB (.inr rfl) rfl) rfl rfl ?_
                      refine TL.nil ?_
                      refine S.n ?_
                      refine TC.ret ?_
                      refine B.r ?_
                      refine S.r ?_
                      refine S.r ?_
                      refine B.r ?_
                      refine S.r ?_
                      -- leaf 9 ret [h3: t8=False; h4: t13=False; h5: t21=False; h6: t29=False; h7: False; h8: True; h11: t50=False; h12: t57=False; h13: t62=False; h14: t69=True] H=['q10', 'q2']
                      refine ret1P rfl (congrArg Value.bool ?_)
                      exact (show checkB n = false from by rw [checkB, edges_no (n := n) (k := g1) (by omega) (by simp [edgeB, stateB]; omega), Bool.and_false]).symm
                    · try simp only [decide_eq_true_eq, decide_eq_false_iff_not, Bool.not_eq_true', Bool.not_eq_false', Bool.not_eq_eq_eq_not, Bool.not_true, Bool.not_false, Int.not_lt, Int.not_le, Decidable.not_not] at h14
                      refine TL.gv rfl rfl rfl rfl rfl (OpVal.fieldLoc rfl fo80_2 rfl) rfl rfl ?_
                      refine TL.gv rfl rfl rfl rfl rfl (OpVal.loadLocA rfl ag28 sz28 rfl (i := 0) rfl rfl rfl) rfl rfl ?_
                      refine TL.gv rfl rfl rfl rfl rfl (OpVal.buildArrL rfl Try.underlying28 sz26 ze28 rfl) rfl rfl ?_
                      refine TL.gv rfl rfl rfl rfl rfl (OpVal.eqlArr4 rfl Try.underlying28 Try.underlying26 ag26 sz26 eg28 rfl rfl rfl rfl) rfl rfl ?_
                      refine TL.v rfl (OpVal.pickFB rfl rfl rfl) rfl rfl ?_
                      refine TL.nil ?_
                      refine S.n ?_
                      refine TC.condD rfl (fun h15 => ?_) (fun h15 => ?_)
                      · try simp only [decide_eq_true_eq, decide_eq_false_iff_not, Bool.not_eq_true', Bool.not_eq_false', Bool.not_eq_eq_eq_not, Bool.not_true, Bool.not_false, Int.not_lt, Int.not_le, Decidable.not_not] at h15
                        refine TC.seq ?_
                        refine TC.region ?_
                        refine TL.v rfl (OpVal.moveB (.inr rfl) rfl) rfl rfl ?_
                        refine TL.nil ?_
                        refine S.n ?_
                        refine TC.ret ?_
                        refine B.r ?_
                        refine S.r ?_
                        refine S.r ?_
                        refine B.r ?_
                        refine S.r ?_
                        -- leaf 10 ret [h3: t8=False; h4: t13=False; h5: t21=False; h6: t29=False; h7: False; h8: True; h11: t50=False; h12: t57=False; h13: t62=False; h14: t69=False; h15: True] H=['q10', 'q2']
                        refine ret1P rfl (congrArg Value.bool ?_)
                        exact (show checkB n = false from by rw [checkB, edges_no (n := n) (k := g1) (by omega) (by simp [edgeB, (BSet.zero_iff _).1 h15]), Bool.and_false]).symm
                      · try simp only [decide_eq_true_eq, decide_eq_false_iff_not, Bool.not_eq_true', Bool.not_eq_false', Bool.not_eq_eq_eq_not, Bool.not_true, Bool.not_false, Int.not_lt, Int.not_le, Decidable.not_not] at h15
                        refine TC.skip ?_
                        refine B.n ?_
                        refine S.n ?_
                        refine TC.region ?_
                        refine TL.v rfl (OpVal.moveI (.inl rfl) rfl) rfl rfl ?_
                        refine TL.v rfl (OpVal.succ rfl rfl rfl (by omega)) rfl rfl ?_
                        refine TL.v rfl (OpVal.moveI (.inr rfl) rfl) rfl rfl ?_
                        refine TL.dropN 1 rfl ?_
                        refine TL.nil ?_
                        refine S.n ?_
                        -- leaf 11 next [h3: t8=False; h4: t13=False; h5: t21=False; h6: t29=False; h7: False; h8: True; h11: t50=False; h12: t57=False; h13: t62=False; h14: t69=False; h15: False] H=['q2']
                        refine ⟨by repeat (first | exact Agr.mask | refine Agr.upd rfl ?_ | refine Agr.maskIn rfl ?_), g1 + 1, ?_, ?_, ?_, ?_, ?_⟩
                        · omega
                        · refine ⟨by omega, all_step (p := fun i => edgeB n.states (nth n.edges i Arrow.zero)) hi ?_⟩
                          have hz : ¬ (nth n.edges g1 Arrow.zero).set = BSet.zero := fun hx => h15 ((BSet.zero_iff _).2 hx)
                          simp [edgeB, stateB, hz]; omega
                        · repeat (first | exact trivial | refine ⟨rfl, ?_⟩)
                        · rfl
                        · rfl
            · try simp only [decide_eq_true_eq, decide_eq_false_iff_not, Bool.not_eq_true', Bool.not_eq_false', Bool.not_eq_eq_eq_not, Bool.not_true, Bool.not_false, Int.not_lt, Int.not_le, Decidable.not_not] at h8
              refine TC.exit ?_
              refine S.x ?_
              refine S.x ?_
              refine TC.exitHere ?_
              refine S.n ?_
              refine TC.seq ?_
              refine TC.region ?_
              refine TL.v rfl (OpVal.moveB (.inr rfl) rfl) rfl rfl ?_
              refine TL.nil ?_
              refine S.n ?_
              refine TC.ret ?_
              -- leaf 12 ret [h3: t8=False; h4: t13=False; h5: t21=False; h6: t29=False; h7: False; h8: False] H=['q2']
              refine ret1P rfl (congrArg Value.bool ?_)
              have he := edges_yes (n := n) (fun i h => hi i (by omega))
              simp [checkB, h3, h4, h5, h6, h7, he]

theorem few_con (σ : Store) (n : Nfa) (p : NfaP) (hn : RNfa σ n p) : Con Try.prog 14 #[nfaV n p] σ [] (PureP (.bool (fewB n)) σ) := by
  have hb := hn.d.rv.big
  have hb1 := hn.s.rv.big
  have hb2 := hn.e.rv.big
  refine Con.mk (n := 27) Try.func14 rfl rfl rfl (fun w0 => ?_)
  refine TC.seq ?_
  refine TC.region ?_
  refine TL.op rfl (OpOk.boxA rfl rfl rfl rfl (fun b1 => ?_))
  refine TL.v rfl (OpVal.moveB (.inr rfl) rfl) rfl rfl ?_
  refine TL.nil ?_
  refine S.n ?_
  refine TC.seq ?_
  refine TC.region ?_
  refine TL.v rfl (OpVal.fieldLoc rfl fo25_0 rfl) rfl rfl ?_
  refine TL.v rfl (OpVal.loadLoc rfl ag3 rfl (i := 0) rfl rfl) rfl rfl ?_
  refine TL.v rfl (OpVal.leq rfl rfl rfl) rfl rfl ?_
  refine TL.v rfl (OpVal.moveB (.inl rfl) rfl) rfl rfl ?_
  refine TL.split 6 rfl (fun h3 => ?_) (fun h3 => ?_)
  · try simp only [decide_eq_true_eq, decide_eq_false_iff_not, Bool.not_eq_true', Bool.not_eq_false', Bool.not_eq_eq_eq_not, Bool.not_true, Bool.not_false, Int.not_lt, Int.not_le, Decidable.not_not] at h3
    refine TL.goff rfl rfl rfl rfl rfl rfl rfl rfl ?_
    refine TL.goff rfl rfl rfl rfl rfl rfl rfl rfl ?_
    refine TL.goff rfl rfl rfl rfl rfl rfl rfl rfl ?_
    refine TL.v rfl (OpVal.pickTB rfl rfl rfl) rfl rfl ?_
    refine TL.v rfl (OpVal.moveB (.inl rfl) rfl) rfl rfl ?_
    refine TL.gv rfl rfl rfl rfl rfl (OpVal.fieldLoc rfl fo25_3 rfl) rfl rfl ?_
    refine TL.gv rfl rfl rfl rfl rfl (OpVal.loadLoc rfl ag23 rfl (i := 0) rfl rfl) rfl rfl ?_
    refine TL.gv rfl rfl rfl rfl rfl (OpVal.lenC rfl Try.underlying23 rfl) rfl rfl ?_
    refine TL.gv rfl rfl rfl rfl rfl (OpVal.leq rfl rfl rfl) rfl rfl ?_
    refine TL.v rfl (OpVal.pickTB rfl rfl rfl) rfl rfl ?_
    refine TL.v rfl (OpVal.moveB (.inl rfl) rfl) rfl rfl ?_
    refine TL.split 17 rfl (fun h4 => ?_) (fun h4 => ?_)
    · try simp only [decide_eq_true_eq, decide_eq_false_iff_not, Bool.not_eq_true', Bool.not_eq_false', Bool.not_eq_eq_eq_not, Bool.not_true, Bool.not_false, Int.not_lt, Int.not_le, Decidable.not_not] at h4
      refine TL.gv rfl rfl rfl rfl rfl (OpVal.fieldLoc rfl fo25_1 rfl) rfl rfl ?_
      refine TL.gv rfl rfl rfl rfl rfl (OpVal.loadLoc rfl ag22 rfl (i := 0) rfl rfl) rfl rfl ?_
      refine TL.gv rfl rfl rfl rfl rfl (OpVal.lenC rfl Try.underlying22 rfl) rfl rfl ?_
      refine TL.gv rfl rfl rfl rfl rfl (OpVal.fieldLoc rfl fo25_2 rfl) rfl rfl ?_
      refine TL.gv rfl rfl rfl rfl rfl (OpVal.loadLoc rfl ag22 rfl (i := 0) rfl rfl) rfl rfl ?_
      refine TL.gv rfl rfl rfl rfl rfl (OpVal.lenC rfl Try.underlying22 rfl) rfl rfl ?_
      refine TL.gv rfl rfl rfl rfl rfl (OpVal.add rfl rfl rfl (by omega) (by omega)) rfl rfl ?_
      refine TL.gv rfl rfl rfl rfl rfl (OpVal.leq rfl rfl rfl) rfl rfl ?_
      refine TL.v rfl (OpVal.pickTB rfl rfl rfl) rfl rfl ?_
      refine TL.v rfl (OpVal.moveB (.inr rfl) rfl) rfl rfl ?_
      refine TL.nil ?_
      refine S.n ?_
      refine TC.ret ?_
      -- leaf 1 ret [h3: t6=True; h4: t17=True] H=['q2']
      refine ret1P rfl (congrArg Value.bool ?_)
      simp [fewB, *] <;> omega
    · try simp only [decide_eq_true_eq, decide_eq_false_iff_not, Bool.not_eq_true', Bool.not_eq_false', Bool.not_eq_eq_eq_not, Bool.not_true, Bool.not_false, Int.not_lt, Int.not_le, Decidable.not_not] at h4
      refine TL.goff rfl rfl rfl rfl rfl rfl rfl rfl ?_
      refine TL.goff rfl rfl rfl rfl rfl rfl rfl rfl ?_
      refine TL.goff rfl rfl rfl rfl rfl rfl rfl rfl ?_
      refine TL.goff rfl rfl rfl rfl rfl rfl rfl rfl ?_
      refine TL.goff rfl rfl rfl rfl rfl rfl rfl rfl ?_
      refine TL.goff rfl rfl rfl rfl rfl rfl rfl rfl ?_
      refine TL.goff rfl rfl rfl rfl rfl rfl rfl rfl ?_
      refine TL.goff rfl rfl rfl rfl rfl rfl rfl rfl ?_
      refine TL.v rfl (OpVal.pickFB rfl rfl rfl) rfl rfl ?_
      refine TL.v rfl (OpVal.moveB (.inr rfl) rfl) rfl rfl ?_
      refine TL.nil ?_
      refine S.n ?_
      refine TC.ret ?_
      -- leaf 2 ret [h3: t6=True; h4: t17=False] H=['q2']
      refine ret1P rfl (congrArg Value.bool ?_)
      simp [fewB, *] <;> omega
  · try simp only [decide_eq_true_eq, decide_eq_false_iff_not, Bool.not_eq_true', Bool.not_eq_false', Bool.not_eq_eq_eq_not, Bool.not_true, Bool.not_false, Int.not_lt, Int.not_le, Decidable.not_not] at h3
    refine TL.gv rfl rfl rfl rfl rfl (OpVal.fieldLoc rfl fo25_0 rfl) rfl rfl ?_
    refine TL.gv rfl rfl rfl rfl rfl (OpVal.loadLoc rfl ag3 rfl (i := 0) rfl rfl) rfl rfl ?_
    refine TL.gv rfl rfl rfl rfl rfl (OpVal.gtr rfl rfl rfl) rfl rfl ?_
    refine TL.v rfl (OpVal.pickFB rfl rfl rfl) rfl rfl ?_
    refine TL.v rfl (OpVal.moveB (.inl rfl) rfl) rfl rfl ?_
    refine TL.split 11 rfl (fun h5 => ?_) (fun h5 => ?_)
    · try simp only [decide_eq_true_eq, decide_eq_false_iff_not, Bool.not_eq_true', Bool.not_eq_false', Bool.not_eq_eq_eq_not, Bool.not_true, Bool.not_false, Int.not_lt, Int.not_le, Decidable.not_not] at h5
      refine TL.gv rfl rfl rfl rfl rfl (OpVal.fieldLoc rfl fo25_3 rfl) rfl rfl ?_
      refine TL.gv rfl rfl rfl rfl rfl (OpVal.loadLoc rfl ag23 rfl (i := 0) rfl rfl) rfl rfl ?_
      refine TL.gv rfl rfl rfl rfl rfl (OpVal.lenC rfl Try.underlying23 rfl) rfl rfl ?_
      refine TL.gv rfl rfl rfl rfl rfl (OpVal.leq rfl rfl rfl) rfl rfl ?_
      refine TL.v rfl (OpVal.pickTB rfl rfl rfl) rfl rfl ?_
      refine TL.v rfl (OpVal.moveB (.inl rfl) rfl) rfl rfl ?_
      refine TL.split 17 rfl (fun h6 => ?_) (fun h6 => ?_)
      · try simp only [decide_eq_true_eq, decide_eq_false_iff_not, Bool.not_eq_true', Bool.not_eq_false', Bool.not_eq_eq_eq_not, Bool.not_true, Bool.not_false, Int.not_lt, Int.not_le, Decidable.not_not] at h6
        refine TL.gv rfl rfl rfl rfl rfl (OpVal.fieldLoc rfl fo25_1 rfl) rfl rfl ?_
        refine TL.gv rfl rfl rfl rfl rfl (OpVal.loadLoc rfl ag22 rfl (i := 0) rfl rfl) rfl rfl ?_
        refine TL.gv rfl rfl rfl rfl rfl (OpVal.lenC rfl Try.underlying22 rfl) rfl rfl ?_
        refine TL.gv rfl rfl rfl rfl rfl (OpVal.fieldLoc rfl fo25_2 rfl) rfl rfl ?_
        refine TL.gv rfl rfl rfl rfl rfl (OpVal.loadLoc rfl ag22 rfl (i := 0) rfl rfl) rfl rfl ?_
        refine TL.gv rfl rfl rfl rfl rfl (OpVal.lenC rfl Try.underlying22 rfl) rfl rfl ?_
        refine TL.gv rfl rfl rfl rfl rfl (OpVal.add rfl rfl rfl (by omega) (by omega)) rfl rfl ?_
        refine TL.gv rfl rfl rfl rfl rfl (OpVal.leq rfl rfl rfl) rfl rfl ?_
        refine TL.v rfl (OpVal.pickTB rfl rfl rfl) rfl rfl ?_
        refine TL.v rfl (OpVal.moveB (.inr rfl) rfl) rfl rfl ?_
        refine TL.nil ?_
        refine S.n ?_
        refine TC.ret ?_
        -- leaf 3 ret [h3: t6=False; h5: t11=True; h6: t17=True] H=['q2']
        refine ret1P rfl (congrArg Value.bool ?_)
        simp [fewB, *] <;> omega
      · try simp only [decide_eq_true_eq, decide_eq_false_iff_not, Bool.not_eq_true', Bool.not_eq_false', Bool.not_eq_eq_eq_not, Bool.not_true, Bool.not_false, Int.not_lt, Int.not_le, Decidable.not_not] at h6
        refine TL.goff rfl rfl rfl rfl rfl rfl rfl rfl ?_
        refine TL.goff rfl rfl rfl rfl rfl rfl rfl rfl ?_
        refine TL.goff rfl rfl rfl rfl rfl rfl rfl rfl ?_
        refine TL.goff rfl rfl rfl rfl rfl rfl rfl rfl ?_
        refine TL.goff rfl rfl rfl rfl rfl rfl rfl rfl ?_
        refine TL.goff rfl rfl rfl rfl rfl rfl rfl rfl ?_
        refine TL.goff rfl rfl rfl rfl rfl rfl rfl rfl ?_
        refine TL.goff rfl rfl rfl rfl rfl rfl rfl rfl ?_
        refine TL.v rfl (OpVal.pickFB rfl rfl rfl) rfl rfl ?_
        refine TL.v rfl (OpVal.moveB (.inr rfl) rfl) rfl rfl ?_
        refine TL.nil ?_
        refine S.n ?_
        refine TC.ret ?_
        -- leaf 4 ret [h3: t6=False; h5: t11=True; h6: t17=False] H=['q2']
        refine ret1P rfl (congrArg Value.bool ?_)
        simp [fewB, *] <;> omega
    · try simp only [decide_eq_true_eq, decide_eq_false_iff_not, Bool.not_eq_true', Bool.not_eq_false', Bool.not_eq_eq_eq_not, Bool.not_true, Bool.not_false, Int.not_lt, Int.not_le, Decidable.not_not] at h5
      refine TL.goff rfl rfl rfl rfl rfl rfl rfl rfl ?_
      refine TL.goff rfl rfl rfl rfl rfl rfl rfl rfl ?_
      refine TL.goff rfl rfl rfl rfl rfl rfl rfl rfl ?_
      refine TL.goff rfl rfl rfl rfl rfl rfl rfl rfl ?_
      refine TL.v rfl (OpVal.pickFB rfl rfl rfl) rfl rfl ?_
      refine TL.v rfl (OpVal.moveB (.inl rfl) rfl) rfl rfl ?_
      refine TL.goff rfl rfl rfl rfl rfl rfl rfl rfl ?_
      refine TL.goff rfl rfl rfl rfl rfl rfl rfl rfl ?_
      refine TL.goff rfl rfl rfl rfl rfl rfl rfl rfl ?_
      refine TL.goff rfl rfl rfl rfl rfl rfl rfl rfl ?_
      refine TL.goff rfl rfl rfl rfl rfl rfl rfl rfl ?_
      refine TL.goff rfl rfl rfl rfl rfl rfl rfl rfl ?_
      refine TL.goff rfl rfl rfl rfl rfl rfl rfl rfl ?_
      refine TL.goff rfl rfl rfl rfl rfl rfl rfl rfl ?_
      refine TL.v rfl (OpVal.pickFB rfl rfl rfl) rfl rfl ?_
      refine TL.v rfl (OpVal.moveB (.inr rfl) rfl) rfl rfl ?_
      refine TL.nil ?_
      refine S.n ?_
      refine TC.ret ?_
      -- leaf 5 ret [h3: t6=False; h5: t11=False] H=['q2']
      refine ret1P rfl (congrArg Value.bool ?_)
      simp [fewB, *] <;> omega

theorem fits_con (σ : Store) (s d : Int) : Con Try.prog 61 #[.int .i64 s, .int .i64 d] σ [] (PureP (.bool (decide (s ≤ 4096) && decide (d ≤ 65536))) σ) := by
  refine Con.mk (n := 11) Try.func61 rfl rfl rfl (fun w0 => ?_)
  refine TC.seq ?_
  refine TC.region ?_
  refine TL.v rfl (OpVal.moveB (.inr rfl) rfl) rfl rfl ?_
  refine TL.nil ?_
  refine S.n ?_
  refine TC.seq ?_
  refine TC.region ?_
  refine TL.v rfl (OpVal.moveI (.inl rfl) rfl) rfl rfl ?_
  refine TL.v rfl (OpVal.leq rfl rfl rfl) rfl rfl ?_
  refine TL.v rfl (OpVal.moveB (.inl rfl) rfl) rfl rfl ?_
  refine TL.split 7 rfl (fun h1 => ?_) (fun h1 => ?_)
  · try simp only [decide_eq_true_eq, decide_eq_false_iff_not, Bool.not_eq_true', Bool.not_eq_false', Bool.not_eq_eq_eq_not, Bool.not_true, Bool.not_false, Int.not_lt, Int.not_le, Decidable.not_not] at h1
    refine TL.gv rfl rfl rfl rfl rfl (OpVal.moveI (.inl rfl) rfl) rfl rfl ?_
    refine TL.gv rfl rfl rfl rfl rfl (OpVal.leq rfl rfl rfl) rfl rfl ?_
    refine TL.v rfl (OpVal.pickTB rfl rfl rfl) rfl rfl ?_
    refine TL.v rfl (OpVal.moveB (.inr rfl) rfl) rfl rfl ?_
    refine TL.nil ?_
    refine S.n ?_
    refine TC.ret ?_
    -- leaf 1 ret [h1: t7=True] H=[]
    refine ret1P rfl (congrArg Value.bool ?_)
    simp [*] <;> omega
  · try simp only [decide_eq_true_eq, decide_eq_false_iff_not, Bool.not_eq_true', Bool.not_eq_false', Bool.not_eq_eq_eq_not, Bool.not_true, Bool.not_false, Int.not_lt, Int.not_le, Decidable.not_not] at h1
    refine TL.goff rfl rfl rfl rfl rfl rfl rfl rfl ?_
    refine TL.goff rfl rfl rfl rfl rfl rfl rfl rfl ?_
    refine TL.v rfl (OpVal.pickFB rfl rfl rfl) rfl rfl ?_
    refine TL.v rfl (OpVal.moveB (.inr rfl) rfl) rfl rfl ?_
    refine TL.nil ?_
    refine S.n ?_
    refine TC.ret ?_
    -- leaf 2 ret [h1: t7=False] H=[]
    refine ret1P rfl (congrArg Value.bool ?_)
    simp [*] <;> omega

theorem marks_con (σ : Store) (a : Option Addr) (c : Nat) (l : List Int) (st : Int) (hl : RS σ 1 Go.E.encI (.slice a l.length c) l) (h0 : 0 ≤ st) (h1 : st ≤ 4096) (hs : ∀ x ∈ l, 0 ≤ x ∧ x < st) :
    Con Try.prog 60 #[.slice a l.length c, .int .i64 st] σ [] (RowP 4 1 encB (marksL l st.toNat) σ) := by
  have hb := hl.rv.big
  obtain ⟨m, rfl⟩ := Int.eq_ofNat_of_zero_le h0
  refine Con.mk (n := 21) Try.func60 rfl rfl rfl (fun w0 => ?_)
  refine TC.seq ?_
  refine TC.region ?_
  refine TL.v rfl (OpVal.moveSl (.inr rfl) rfl) rfl rfl ?_
  refine TL.nil ?_
  refine S.n ?_
  refine TC.seq ?_
  refine TC.region ?_
  refine TL.v rfl (OpVal.moveI (.inl rfl) rfl) rfl rfl ?_
  refine TL.op rfl (OpOk.makeS (enc := encB) false rfl Try.underlying47 sz4 by4 ze4 rfl rfl rfl rfl (by omega) (by decide) encB_len (by decide) rfl encB_one (fun a1 c2 => ?_))
  refine TL.v rfl (OpVal.moveSl (.inr rfl) rfl) rfl rfl ?_
  refine TL.nil ?_
  refine S.n ?_
  refine TC.seq ?_
  refine TC.seq ?_
  refine TC.region ?_
  refine TL.v rfl (OpVal.moveSl (.inl rfl) rfl) rfl rfl ?_
  refine TL.v rfl (OpVal.lenC rfl Try.underlying22 rfl) rfl rfl ?_
  refine TL.v rfl (OpVal.moveI (.inl rfl) rfl) rfl rfl ?_
  refine TL.nil ?_
  refine S.n ?_
  refine TC.block ?_
  refine TC.loopF (α := Nat) [7, 12, 13, 14, 15, 16, 17, 18, 19] (fun k => [(12, .int .i64 (k : Nat))]) (fun k => [Res.rowS 4 1 encB (.slice a1 m c2) (marksTo l k m)]) (fun _ => _) (fun k => k ≤ l.length) (fun k => l.length - k) (0) (by first | exact True.intro | omega | (dsimp only; omega) | (simp; done) | (simp; omega)) (by repeat (first | exact trivial | refine ⟨rfl, ?_⟩)) (by rw [marksTo_zero]) (by rfl) (fun g1 j1 hg1 => ?_)
  have hx : g1 < l.length → 0 ≤ nth l g1 0 ∧ nth l g1 0 < m := fun h => hs _ (nth_mem h 0)
  have hml := marksTo_len l g1 m
  refine TC.seq ?_
  refine TC.region ?_
  refine TL.v rfl (OpVal.lss rfl rfl rfl) rfl rfl ?_
  refine TL.nil ?_
  refine S.n ?_
  refine TC.seq ?_
  refine TC.condD rfl (fun h4 => ?_) (fun h4 => ?_)
  · try simp only [decide_eq_true_eq, decide_eq_false_iff_not, Bool.not_eq_true', Bool.not_eq_false', Bool.not_eq_eq_eq_not, Bool.not_true, Bool.not_false, Int.not_lt, Int.not_le, Decidable.not_not] at h4
    refine TC.skip ?_
    refine S.n ?_
    refine TC.seq ?_
    refine TC.block ?_
    refine TC.seq ?_
    refine TC.region ?_
    refine TL.v rfl (OpVal.indexN rfl Try.underlying22 sz3 rfl rfl (by first | assumption | exact (RS.rv (by assumption)).sl) (by omega)) rfl rfl ?_
    refine TL.v rfl (OpVal.loadS1 (0 : Int) rfl ag3 rfl (by assumption) (by omega) rfl) rfl rfl ?_
    refine TL.v rfl (OpVal.moveI (.inr rfl) rfl) rfl rfl ?_
    refine TL.nil ?_
    refine S.n ?_
    refine TC.region ?_
    refine TL.v rfl (OpVal.moveSl (.inl rfl) rfl) rfl rfl ?_
    refine TL.v rfl (OpVal.moveI (.inl rfl) rfl) rfl rfl ?_
    refine TL.isSl (i := 0) rfl (fun hs5 _ _ => ?_)
    refine TL.v rfl (OpVal.index rfl Try.underlying47 sz4 rfl rfl (by first | assumption | exact (RS.rv (by assumption)).sl) (by omega) (by omega)) rfl rfl ?_
    refine TL.op rfl (OpOk.storeS _ rfl sz4 rfl rfl rfl rfl encB_len encB_one (by omega) (by omega) ?_)
    refine TL.nil ?_
    refine B.n ?_
    refine S.n ?_
    refine TC.region ?_
    refine TL.v rfl (OpVal.succ rfl rfl rfl (by omega)) rfl rfl ?_
    refine TL.v rfl (OpVal.moveI (.inl rfl) rfl) rfl rfl ?_
    refine TL.nil ?_
    refine S.n ?_
    -- leaf 1 next [h4: True] H=['q3']
    refine ⟨by repeat (first | exact Agr.mask | refine Agr.upd rfl ?_ | refine Agr.maskIn rfl ?_), g1 + 1, ?_, ?_, ?_, ?_, ?_⟩
    · omega
    · first | exact True.intro | omega | (dsimp only; omega) | (simp; done) | (simp; omega)
    · repeat (first | exact trivial | refine ⟨rfl, ?_⟩)
    · rw [marksTo_succ (by omega) (by omega)]
    · rfl
  · try simp only [decide_eq_true_eq, decide_eq_false_iff_not, Bool.not_eq_true', Bool.not_eq_false', Bool.not_eq_eq_eq_not, Bool.not_true, Bool.not_false, Int.not_lt, Int.not_le, Decidable.not_not] at h4
    refine TC.exit ?_
    refine S.x ?_
    refine S.x ?_
    refine TC.exitHere ?_
    refine S.n ?_
    refine TC.seq ?_
    refine TC.region ?_
    refine TL.v rfl (OpVal.moveSl (.inl rfl) rfl) rfl rfl ?_
    refine TL.v rfl (OpVal.moveSl (.inr rfl) rfl) rfl rfl ?_
    refine TL.nil ?_
    refine S.n ?_
    refine TC.ret ?_
    -- leaf 2 ret [h4: False] H=['q3']
    obtain rfl : g1 = l.length := by omega
    simp only [Int.toNat_natCast, marksTo_all]
    exact ret1R' rfl rfl (marksL_len l m)

theorem shift_con (σ : Store) (a : Option Addr) (c : Nat) (l : List Int) (k : Int) (hl : RS σ 1 Go.E.encI (.slice a l.length c) l) (hk : 0 ≤ k ∧ k ≤ 1000000) (hs : ∀ x ∈ l, 0 ≤ x ∧ x ≤ 1000000) (hsz : l.length ≤ 1000000000000) :
    Con Try.prog 63 #[.slice a l.length c, .int .i64 k] σ [] (RowP 3 1 Go.E.encI (shiftL l k) σ) := by
  have hb := hl.rv.big
  refine Con.mk (n := 26) Try.func63 rfl rfl rfl (fun w0 => ?_)
  refine TC.seq ?_
  refine TC.region ?_
  refine TL.v rfl (OpVal.moveSl (.inr rfl) rfl) rfl rfl ?_
  refine TL.nil ?_
  refine S.n ?_
  refine TC.seq ?_
  refine TC.region ?_
  refine TL.v rfl (OpVal.moveSl (.inl rfl) rfl) rfl rfl ?_
  refine TL.v rfl (OpVal.lenC rfl Try.underlying22 rfl) rfl rfl ?_
  refine TL.op rfl (OpOk.makeS (enc := Go.E.encI) (0 : Int) rfl Try.underlying22 sz3 by3 ze3 rfl rfl rfl rfl (by omega) (by decide) encI_len (by decide) rfl encI_one (fun a1 c2 => ?_))
  refine TL.v rfl (OpVal.moveSl (.inr rfl) rfl) rfl rfl ?_
  refine TL.nil ?_
  refine S.n ?_
  refine TC.seq ?_
  refine TC.seq ?_
  refine TC.region ?_
  refine TL.v rfl (OpVal.moveSl (.inl rfl) rfl) rfl rfl ?_
  refine TL.v rfl (OpVal.lenC rfl Try.underlying22 rfl) rfl rfl ?_
  refine TL.v rfl (OpVal.moveI (.inl rfl) rfl) rfl rfl ?_
  refine TL.nil ?_
  refine S.n ?_
  refine TC.block ?_
  refine TC.loopF (α := Nat) [6, 7, 13, 14, 15, 16, 17, 18, 19, 20, 21, 22, 23, 24] (fun i => [(13, .int .i64 (i : Nat))]) (fun i => [Res.rowS 3 1 Go.E.encI (.slice a1 l.length c2) (shiftTo l i k)]) (fun _ => _) (fun i => i ≤ l.length) (fun i => l.length - i) (0) (by first | exact True.intro | omega | (dsimp only; omega) | (simp; done) | (simp; omega)) (by repeat (first | exact trivial | refine ⟨rfl, ?_⟩)) (by simp [shiftTo, shiftL]) (by rfl) (fun g1 j1 hg1 => ?_)
  have hx : g1 < l.length → 0 ≤ nth l g1 0 ∧ nth l g1 0 ≤ 1000000 := fun h => hs _ (nth_mem h 0)
  have hml := fun h => shiftTo_len l g1 k h
  refine TC.seq ?_
  refine TC.region ?_
  refine TL.v rfl (OpVal.lss rfl rfl rfl) rfl rfl ?_
  refine TL.nil ?_
  refine S.n ?_
  refine TC.seq ?_
  refine TC.condD rfl (fun h4 => ?_) (fun h4 => ?_)
  · try simp only [decide_eq_true_eq, decide_eq_false_iff_not, Bool.not_eq_true', Bool.not_eq_false', Bool.not_eq_eq_eq_not, Bool.not_true, Bool.not_false, Int.not_lt, Int.not_le, Decidable.not_not] at h4
    refine TC.skip ?_
    refine S.n ?_
    refine TC.seq ?_
    refine TC.block ?_
    refine TC.seq ?_
    refine TC.region ?_
    refine TL.v rfl (OpVal.moveI (.inl rfl) rfl) rfl rfl ?_
    refine TL.v rfl (OpVal.indexN rfl Try.underlying22 sz3 rfl rfl (by first | assumption | exact (RS.rv (by assumption)).sl) (by omega)) rfl rfl ?_
    refine TL.v rfl (OpVal.loadS1 (0 : Int) rfl ag3 rfl (by assumption) (by omega) rfl) rfl rfl ?_
    refine TL.v rfl (OpVal.moveI (.inr rfl) rfl) rfl rfl ?_
    refine TL.v rfl (OpVal.moveI (.inr rfl) rfl) rfl rfl ?_
    refine TL.nil ?_
    refine S.n ?_
    refine TC.region ?_
    refine TL.v rfl (OpVal.moveSl (.inl rfl) rfl) rfl rfl ?_
    refine TL.v rfl (OpVal.moveI (.inl rfl) rfl) rfl rfl ?_
    refine TL.v rfl (OpVal.moveI (.inl rfl) rfl) rfl rfl ?_
    refine TL.v rfl (OpVal.moveI (.inl rfl) rfl) rfl rfl ?_
    refine TL.v rfl (OpVal.add rfl rfl rfl (by omega) (by omega)) rfl rfl ?_
    refine TL.isSl (i := 0) rfl (fun hs5 _ _ => ?_)
    refine TL.v rfl (OpVal.indexN rfl Try.underlying22 sz3 rfl rfl (by first | assumption | exact (RS.rv (by assumption)).sl) (by omega)) rfl rfl ?_
    refine TL.op rfl (OpOk.storeS _ rfl sz3 rfl rfl rfl rfl encI_len encI_one (by omega) (by omega) ?_)
    refine TL.nil ?_
    refine B.n ?_
    refine S.n ?_
    refine TC.region ?_
    refine TL.v rfl (OpVal.succ rfl rfl rfl (by omega)) rfl rfl ?_
    refine TL.v rfl (OpVal.moveI (.inl rfl) rfl) rfl rfl ?_
    refine TL.nil ?_
    refine S.n ?_
    -- leaf 1 next [h4: True] H=['q3']
    refine ⟨by repeat (first | exact Agr.mask | refine Agr.upd rfl ?_ | refine Agr.maskIn rfl ?_), g1 + 1, ?_, ?_, ?_, ?_, ?_⟩
    · omega
    · first | exact True.intro | omega | (dsimp only; omega) | (simp; done) | (simp; omega)
    · repeat (first | exact trivial | refine ⟨rfl, ?_⟩)
    · rw [shiftTo_succ (by omega)]
    · rfl
  · try simp only [decide_eq_true_eq, decide_eq_false_iff_not, Bool.not_eq_true', Bool.not_eq_false', Bool.not_eq_eq_eq_not, Bool.not_true, Bool.not_false, Int.not_lt, Int.not_le, Decidable.not_not] at h4
    refine TC.exit ?_
    refine S.x ?_
    refine S.x ?_
    refine TC.exitHere ?_
    refine S.n ?_
    refine TC.seq ?_
    refine TC.region ?_
    refine TL.v rfl (OpVal.moveSl (.inl rfl) rfl) rfl rfl ?_
    refine TL.v rfl (OpVal.moveSl (.inr rfl) rfl) rfl rfl ?_
    refine TL.nil ?_
    refine S.n ?_
    refine TC.ret ?_
    -- leaf 2 ret [h4: False] H=['q3']
    obtain rfl : g1 = l.length := by omega
    simp only [shiftTo_all]
    exact ret1R' rfl rfl (shiftL_len l k)

theorem clone_con (σ : Store) (a : Option Addr) (c : Nat) (l : List Int) (hl : RS σ 1 Go.E.encI (.slice a l.length c) l) (hsz : l.length ≤ 1000000000000) :
    Con Try.prog 64 #[.slice a l.length c] σ [] (RowP 3 1 Go.E.encI l σ) := by
  have hb := hl.rv.big
  refine Con.mk (n := 8) Try.func64 rfl rfl rfl (fun w0 => ?_)
  refine TC.seq ?_
  refine TC.region ?_
  refine TL.v rfl (OpVal.moveSl (.inr rfl) rfl) rfl rfl ?_
  refine TL.nilS 3 1 Go.E.encI ?_
  refine TL.nil ?_
  refine S.n ?_
  refine TC.seq ?_
  refine TC.seq ?_
  refine TC.region ?_
  refine TL.v rfl (OpVal.moveSl (.inl rfl) rfl) rfl rfl ?_
  refine TL.v rfl (OpVal.eqlNilSl rfl Try.underlying22 rfl rfl) rfl rfl ?_
  refine TL.nil ?_
  refine S.n ?_
  refine TC.cond rfl (fun h2 => ?_) (fun h2 => ?_)
  · try simp only [decide_eq_true_eq, decide_eq_false_iff_not, Bool.not_eq_true', Bool.not_eq_false', Bool.not_eq_eq_eq_not, Bool.not_true, Bool.not_false, Int.not_lt, Int.not_le, Decidable.not_not] at h2
    refine TC.seq ?_
    refine TC.region ?_
    refine TL.v rfl (OpVal.moveSl (.inr rfl) rfl) rfl rfl ?_
    refine TL.nilS 3 1 Go.E.encI ?_
    refine TL.nil ?_
    refine S.n ?_
    refine TC.ret ?_
    refine S.r ?_
    -- leaf 1 ret [h2: True] H=['q3', 'q1']
    cases a with
    | some _ => simp at h2
    | none =>
      obtain rfl := hl.none_nil
      exact ret1R rfl rfl
  · try simp only [decide_eq_true_eq, decide_eq_false_iff_not, Bool.not_eq_true', Bool.not_eq_false', Bool.not_eq_eq_eq_not, Bool.not_true, Bool.not_false, Int.not_lt, Int.not_le, Decidable.not_not] at h2
    refine TC.skip ?_
    refine S.n ?_
    refine TC.seq ?_
    refine TC.region ?_
    refine TL.op rfl (OpOk.lit0 (enc := Go.E.encI) rfl rfl Try.underlying22 sz3 rfl rfl (fun a4 c5 => ?_))
    refine TL.v rfl (OpVal.moveSl (.inl rfl) rfl) rfl rfl ?_
    refine TL.op rfl (OpOk.appendS rfl rfl Try.underlying22 sz3 by3 ze3 rfl rfl (by decide) rfl rfl rfl (.inl (by assumption)) (by (try simp only [List.length_cons, List.length_nil, List.length_append]); omega) (by decide) (fun a7 c8 => ?_))
    refine TL.v rfl (OpVal.moveSl (.inr rfl) rfl) rfl rfl ?_
    refine TL.nil ?_
    refine S.n ?_
    refine TC.ret ?_
    -- leaf 2 ret [h2: False] H=['q6', 'q1']
    exact ret1R rfl rfl

theorem clonee_con (σ : Store) (a : Option Addr) (c : Nat) (l : List Arrow) (hl : RS σ 6 encE (.slice a l.length c) l) (hsz : l.length ≤ 1000000000000) :
    Con Try.prog 72 #[.slice a l.length c] σ [] (RowP 80 6 encE l σ) := by
  have hb := hl.rv.big
  refine Con.mk (n := 8) Try.func72 rfl rfl rfl (fun w0 => ?_)
  refine TC.seq ?_
  refine TC.region ?_
  refine TL.v rfl (OpVal.moveSl (.inr rfl) rfl) rfl rfl ?_
  refine TL.nilS 80 6 encE ?_
  refine TL.nil ?_
  refine S.n ?_
  refine TC.seq ?_
  refine TC.seq ?_
  refine TC.region ?_
  refine TL.v rfl (OpVal.moveSl (.inl rfl) rfl) rfl rfl ?_
  refine TL.v rfl (OpVal.eqlNilSl rfl Try.underlying23 rfl rfl) rfl rfl ?_
  refine TL.nil ?_
  refine S.n ?_
  refine TC.cond rfl (fun h2 => ?_) (fun h2 => ?_)
  · try simp only [decide_eq_true_eq, decide_eq_false_iff_not, Bool.not_eq_true', Bool.not_eq_false', Bool.not_eq_eq_eq_not, Bool.not_true, Bool.not_false, Int.not_lt, Int.not_le, Decidable.not_not] at h2
    refine TC.seq ?_
    refine TC.region ?_
    refine TL.v rfl (OpVal.moveSl (.inr rfl) rfl) rfl rfl ?_
    refine TL.nilS 80 6 encE ?_
    refine TL.nil ?_
    refine S.n ?_
    refine TC.ret ?_
    refine S.r ?_
    -- leaf 1 ret [h2: True] H=['q3', 'q1']
    cases a with
    | some _ => simp at h2
    | none =>
      obtain rfl := hl.none_nil
      exact ret1R rfl rfl
  · try simp only [decide_eq_true_eq, decide_eq_false_iff_not, Bool.not_eq_true', Bool.not_eq_false', Bool.not_eq_eq_eq_not, Bool.not_true, Bool.not_false, Int.not_lt, Int.not_le, Decidable.not_not] at h2
    refine TC.skip ?_
    refine S.n ?_
    refine TC.seq ?_
    refine TC.region ?_
    refine TL.op rfl (OpOk.lit0 (enc := encE) rfl rfl Try.underlying23 sz80 rfl rfl (fun a4 c5 => ?_))
    refine TL.v rfl (OpVal.moveSl (.inl rfl) rfl) rfl rfl ?_
    refine TL.op rfl (OpOk.appendS rfl rfl Try.underlying23 sz80 by80 ze80 rfl rfl (by decide) rfl rfl rfl (.inl (by assumption)) (by (try simp only [List.length_cons, List.length_nil, List.length_append]); omega) (by decide) (fun a7 c8 => ?_))
    refine TL.v rfl (OpVal.moveSl (.inr rfl) rfl) rfl rfl ?_
    refine TL.nil ?_
    refine S.n ?_
    refine TC.ret ?_
    -- leaf 2 ret [h2: False] H=['q6', 'q1']
    exact ret1R rfl rfl

end Go.Proofs.Ytcidppnlhhkhhaa
end

/- Sets -/
section
/- Contracts of sets of bytes that are made. -/
set_option linter.unusedVariables false
set_option linter.unusedSimpArgs false
namespace Go.Proofs.Ytcidppnlhhkhhaa
open Go Go.E
set_option maxRecDepth 100000

def inTo (l : List UInt8) (k : Nat) : Nat → Bool := fun i => (l.take k).any fun u => decide (i = u.toNat)
theorem inTo_zero (l : List UInt8) : BSet.make (inTo l 0) = BSet.zero := by
  rw [show inTo l 0 = fun _ => false from by funext i; simp [inTo]]; exact BSet.make_zero
theorem inTo_succ {l : List UInt8} {k : Nat} (h : k < l.length) : (fun i => inTo l k i || decide (i = (nth l k 0).toNat)) = inTo l (k + 1) := by
  funext i; simp [inTo, take_succ_nth l h 0]
theorem inTo_all (l : List UInt8) : BSet.make (inTo l l.length) = BSet.ofL l := by
  unfold inTo BSet.ofL; rw [List.take_length]
theorem two_pow_lt {a : Nat} (h : a < 64) : 2 ^ a < 18446744073709551616 := Nat.lt_of_le_of_lt (Nat.pow_le_pow_right (by omega) (show a ≤ 63 by omega)) (by decide)

theorem of_con (σ : Store) (a : Option Addr) (c : Nat) (l : List UInt8) (hsz : l.length ≤ 1000000000000) :
    Con Try.prog 53 #[.slice a l.length c] σ [Res.rowS 5 1 encU8 (.slice a l.length c) l] (PureP (setV (BSet.ofL l)) σ) := by
  refine Con.mk (n := 23) Try.func53 rfl rfl rfl (fun w0 => ?_)
  refine TC.seq ?_
  refine TC.region ?_
  refine TL.op rfl (OpOk.alloc rfl ze28 rfl rfl (fun b1 => ?_))
  refine TL.nil ?_
  refine S.n ?_
  refine TC.seq ?_
  refine TC.region ?_
  refine TL.op rfl (OpOk.alloc rfl ze28 rfl rfl (fun b3 => ?_))
  refine TL.nil ?_
  refine S.n ?_
  refine TC.seq ?_
  refine TC.seq ?_
  refine TC.region ?_
  refine TL.v rfl (OpVal.moveSl (.inl rfl) rfl) rfl rfl ?_
  refine TL.v rfl (OpVal.lenC rfl Try.underlying78 rfl) rfl rfl ?_
  refine TL.v rfl (OpVal.moveI (.inl rfl) rfl) rfl rfl ?_
  refine TL.nil ?_
  refine S.n ?_
  refine TC.block ?_
  refine TC.loopF (α := Nat) [5, 8, 9, 10, 11, 12, 13, 14, 15, 16, 17, 18, 19, 20, 21] (fun k => [(8, .int .i64 (k : Nat))]) (fun k => [Res.cells b3 (setA (BSet.make (inTo l k))) 28, Res.cells b1 (setA BSet.zero) 28, Res.rowS 5 1 encU8 (.slice a l.length c) l]) (fun _ => _) (fun k => k ≤ l.length) (fun k => l.length - k) (0) (by first | exact True.intro | omega | (dsimp only; omega) | (simp; done) | (simp; omega)) (by repeat (first | exact trivial | refine ⟨rfl, ?_⟩)) (by rw [inTo_zero]; rfl) (by rfl) (fun g1 j1 hg1 => ?_)
  have hu : (nth l g1 (0 : UInt8)).toNat < 256 := UInt8.toNat_lt _
  have hp := two_pow_lt (Nat.mod_lt (nth l g1 (0 : UInt8)).toNat (show 0 < 64 by omega))
  have hw := BSet.word_lt (BSet.make_ok (inTo l g1)) ((nth l g1 (0 : UInt8)).toNat / 64)
  refine TC.seq ?_
  refine TC.region ?_
  refine TL.v rfl (OpVal.lss rfl rfl rfl) rfl rfl ?_
  refine TL.nil ?_
  refine S.n ?_
  refine TC.seq ?_
  refine TC.condD rfl (fun h5 => ?_) (fun h5 => ?_)
  · try simp only [decide_eq_true_eq, decide_eq_false_iff_not, Bool.not_eq_true', Bool.not_eq_false', Bool.not_eq_eq_eq_not, Bool.not_true, Bool.not_false, Int.not_lt, Int.not_le, Decidable.not_not] at h5
    refine TC.skip ?_
    refine S.n ?_
    refine TC.seq ?_
    refine TC.block ?_
    refine TC.seq ?_
    refine TC.region ?_
    refine TL.isSl (i := 2) rfl (fun hs6 _ _ => ?_)
    refine TL.v rfl (OpVal.indexN rfl Try.underlying78 sz5 rfl rfl (by first | assumption | exact (RS.rv (by assumption)).sl) (by omega)) rfl rfl ?_
    refine TL.v rfl (OpVal.loadO1 (0 : UInt8) rfl ag5 rfl (q := 2) rfl encU8_len (by omega) rfl) rfl rfl ?_
    refine TL.v rfl (OpVal.moveI (.inr rfl) rfl) rfl rfl ?_
    refine TL.nil ?_
    refine S.n ?_
    refine TC.region ?_
    refine TL.v rfl (OpVal.moveI (.inl rfl) rfl) rfl rfl ?_
    refine TL.v rfl (OpVal.quoN (b := 64) rfl rfl rfl (by omega) (by simp only [kmax]; omega)) rfl rfl ?_
    refine TL.v rfl (OpVal.indexArrN rfl Try.underlying28 sz26 rfl rfl (by omega)) rfl rfl ?_
    refine TL.v rfl (OpVal.loadWord rfl ag26 rfl (j := 0) rfl (by omega)) rfl rfl ?_
    refine TL.v rfl (OpVal.moveI (.inl rfl) rfl) rfl rfl ?_
    refine TL.v rfl (OpVal.remN (b := 64) rfl rfl rfl (by omega)) rfl rfl ?_
    refine TL.v rfl (OpVal.shlN (a := 1) rfl rfl rfl (by show _ < 64; omega) (by simp only [kmax]; omega)) rfl rfl ?_
    refine TL.v rfl (OpVal.orN rfl rfl rfl (by omega) (by omega)) rfl rfl ?_
    refine TL.v rfl (OpVal.indexArrN rfl Try.underlying28 sz26 rfl rfl (by omega)) rfl rfl ?_
    refine TL.op rfl (OpOk.storeWord rfl sz26 rfl rfl rfl (by omega) (Nat.or_lt_two_pow (n := 64) hw (by omega)) ?_)
    refine TL.nil ?_
    refine B.n ?_
    refine S.n ?_
    refine TC.region ?_
    refine TL.v rfl (OpVal.succ rfl rfl rfl (by omega)) rfl rfl ?_
    refine TL.v rfl (OpVal.moveI (.inl rfl) rfl) rfl rfl ?_
    refine TL.nil ?_
    refine S.n ?_
    -- leaf 1 next [h5: True] H=['q4', 'q2', 'r0']
    refine ⟨by repeat (first | exact Agr.mask | refine Agr.upd rfl ?_ | refine Agr.maskIn rfl ?_), g1 + 1, ?_, ?_, ?_, ?_, ?_⟩
    · omega
    · first | exact True.intro | omega | (dsimp only; omega) | (simp; done) | (simp; omega)
    · repeat (first | exact trivial | refine ⟨rfl, ?_⟩)
    · rw [BSet.make_or _ hu, inTo_succ (by omega)]
    · rfl
  · try simp only [decide_eq_true_eq, decide_eq_false_iff_not, Bool.not_eq_true', Bool.not_eq_false', Bool.not_eq_eq_eq_not, Bool.not_true, Bool.not_false, Int.not_lt, Int.not_le, Decidable.not_not] at h5
    refine TC.exit ?_
    refine S.x ?_
    refine S.x ?_
    refine TC.exitHere ?_
    refine S.n ?_
    refine TC.seq ?_
    refine TC.region ?_
    refine TL.v rfl (OpVal.loadAll rfl ag28 sz28 rfl (i := 0) rfl rfl) rfl rfl ?_
    refine TL.front 1 rfl rfl ?_
    refine TL.op rfl (OpOk.storeAll rfl sz28 rfl rfl rfl rfl rfl rfl ?_)
    refine TL.nil ?_
    refine S.n ?_
    refine TC.ret ?_
    -- leaf 2 ret [h5: False] H=['q2', 'q4', 'r0']
    obtain rfl : g1 = l.length := by omega
    rw [inTo_all]
    exact retCellP 0 rfl ag28 sz28 rfl rfl rfl rfl

end Go.Proofs.Ytcidppnlhhkhhaa
end

/- Nfa3 -/
section
/- Contracts of package nfa, part three: automatons of texts and sets. -/
set_option linter.unusedVariables false
set_option linter.unusedSimpArgs false
namespace Go.Proofs.Ytcidppnlhhkhhaa
open Go Go.E
set_option maxRecDepth 100000

theorem edge_con (σ : Store) (b c : Nat) (a : Option Addr) (l : List Arrow) (f t : Int) (s : BSet) (hsz : l.length ≤ 1000000000) :
    Con Try.prog 52 #[loc b 0, .int .i64 f, .int .i64 t, setV s] σ [Res.cells b #[.slice a l.length c] 74, Res.rowS 80 6 encE (.slice a l.length c) l] (EdgeP 74 80 b l ⟨f, t, s⟩ σ) := by
  refine Con.mk (n := 21) Try.func52 rfl rfl rfl (fun w0 => ?_)
  refine TC.seq ?_
  refine TC.region ?_
  refine TL.op rfl (OpOk.boxA rfl rfl rfl rfl (fun b1 => ?_))
  refine TL.nil ?_
  refine S.n ?_
  refine TC.draw [10, 11, 12, 13] (by kernel_rfl) ?_
  refine TA.takeP 0 rfl (by kernel_rfl) (by kernel_rfl) (by kernel_rfl) rfl (OpVal.moveLoc (.inl rfl) rfl) rfl rfl ?_
  refine TA.takeP 1 rfl (by kernel_rfl) (by kernel_rfl) (by kernel_rfl) rfl (OpVal.moveLoc (.inl rfl) rfl) rfl rfl ?_
  refine TA.takeP 2 rfl (by kernel_rfl) (by kernel_rfl) (by kernel_rfl) rfl (OpVal.nilCheckLoc rfl rfl) rfl rfl ?_
  refine TA.takeP 3 rfl (by kernel_rfl) (by kernel_rfl) (by kernel_rfl) rfl (OpVal.fieldLoc rfl fo74_0 rfl) rfl rfl ?_
  refine TA.take 4 rfl (by kernel_rfl) (by kernel_rfl) (by kernel_rfl) (by kernel_rfl) rfl (OpVal.loadLoc rfl ag23 rfl (i := 1) rfl rfl) rfl rfl ?_
  refine TA.takeP 5 rfl (by kernel_rfl) (by kernel_rfl) (by kernel_rfl) rfl (OpVal.moveI (.inl rfl) rfl) rfl rfl ?_
  refine TA.takeP 6 rfl (by kernel_rfl) (by kernel_rfl) (by kernel_rfl) rfl (OpVal.moveI (.inl rfl) rfl) rfl rfl ?_
  refine TA.take 7 rfl (by kernel_rfl) (by kernel_rfl) (by kernel_rfl) (by kernel_rfl) rfl (OpVal.loadAll rfl ag28 sz28 rfl (i := 0) rfl rfl) rfl rfl ?_
  refine TA.takeP 8 rfl (by kernel_rfl) (by kernel_rfl) (by kernel_rfl) rfl (OpVal.buildL rfl pl80 ze80 rfl) rfl rfl ?_
  refine TA.act 9 (by kernel_rfl) rfl rfl (OpOk.lit (enc := encE) [⟨f, t, s⟩] rfl Try.underlying23 sz80 ze80 rfl rfl rfl encE_len (by decide) (by decide) Arrow.zero rfl (by decide) rfl (by decide) encE_one (fun a3 c4 => ⟨(fun w h => sees_of (by first | exact Store.le.refl _ | assumption) (fun r hr => (List.mem_cons_of_mem _ hr)) w h), ?_⟩))
  refine TA.front 3 rfl rfl ?_
  refine TA.last 10 (by kernel_rfl) rfl rfl rfl (OpOk.appendS rfl rfl Try.underlying23 sz80 by80 ze80 rfl rfl (by decide) rfl rfl rfl (.inr ⟨_, 0, rfl⟩) (by (try simp only [List.length_cons, List.length_nil, List.length_append]); omega) (by decide) (fun a6 c7 => ?_))
  refine TZ.v 11 (by kernel_rfl) rfl rfl rfl (OpVal.nilCheckLoc rfl rfl) rfl rfl ?_
  refine TZ.v 12 (by kernel_rfl) rfl rfl rfl (OpVal.fieldLoc rfl fo74_0 rfl) rfl rfl ?_
  refine TZ.front 3 rfl rfl ?_
  refine TZ.last 13 (by kernel_rfl) rfl rfl rfl (OpOk.storeSl rfl sz23 rfl rfl rfl rfl rfl ?_)
  refine TZ.done (by kernel_rfl) ?_
  -- leaf 1 end [] H=['q0', 'r0', 'q5', 'q2']
  exact retE (by simp) rfl

def setE (s : BSet) : List Arrow := if s = BSet.zero then [] else [⟨0, 1, s⟩]
def setN (s : BSet) : Nfa := ⟨2, [0], [1], setE s⟩
theorem setE_ok {s : BSet} (h : s.ok) : ∀ x ∈ setE s, x.set.ok := by
  intro x hx
  unfold setE at hx
  split at hx
  · simp at hx
  · simp at hx; subst hx; exact h

theorem set_con (σ : Store) (s : BSet) (hs : s.ok) : Con Try.prog 21 #[setV s] σ [] (NfaR1 (setN s)) := by
  refine Con.mk (n := 19) Try.func21 rfl rfl rfl (fun w0 => ?_)
  refine TC.seq ?_
  refine TC.region ?_
  refine TL.op rfl (OpOk.boxA rfl rfl rfl rfl (fun b1 => ?_))
  refine TL.op rfl (OpOk.alloc rfl ze25 rfl rfl (fun b3 => ?_))
  refine TL.nil ?_
  refine S.n ?_
  refine TC.seq ?_
  refine TC.region ?_
  refine TL.v rfl (OpVal.buildL rfl pl74 ze74 rfl) rfl rfl ?_
  refine TL.op rfl (OpOk.boxA rfl rfl rfl rfl (fun b5 => ?_))
  refine TL.nilS 80 6 encE ?_
  refine TL.v rfl (OpVal.moveLoc (.inr rfl) rfl) rfl rfl ?_
  refine TL.nil ?_
  refine S.n ?_
  refine TC.seq ?_
  refine TC.seq ?_
  refine TC.region ?_
  refine TL.v rfl (OpVal.loadAll rfl ag28 sz28 rfl (i := 3) rfl rfl) rfl rfl ?_
  refine TL.v rfl (OpVal.buildArrL rfl Try.underlying28 sz26 ze28 rfl) rfl rfl ?_
  refine TL.v rfl (OpVal.neqArr4 rfl Try.underlying28 Try.underlying26 ag26 sz26 eg28 rfl rfl rfl rfl) rfl rfl ?_
  refine TL.nil ?_
  refine S.n ?_
  refine TC.cond rfl (fun h8 => ?_) (fun h8 => ?_)
  · try simp only [decide_eq_true_eq, decide_eq_false_iff_not, Bool.not_eq_true', Bool.not_eq_false', Bool.not_eq_eq_eq_not, Bool.not_true, Bool.not_false, Int.not_lt, Int.not_le, Decidable.not_not] at h8
    refine TC.region ?_
    refine TL.v rfl (OpVal.moveLoc (.inl rfl) rfl) rfl rfl ?_
    refine TL.v rfl (OpVal.loadAll rfl ag28 sz28 rfl (i := 3) rfl rfl) rfl rfl ?_
    refine TL.front 1 rfl rfl ?_
    refine TL.op rfl (OpOk.callE (edge_con _ _ _ _ [] 0 1 s (by decide)) rfl rfl pf52 rfl rfl rfl rfl (fun a9 c10 => ?_))
    refine TL.nil ?_
    refine S.n ?_
    refine TC.seq ?_
    refine TC.region ?_
    refine TL.op rfl (OpOk.lit (enc := Go.E.encI) [_] rfl Try.underlying22 sz3 ze3 rfl rfl rfl encI_len (by decide) (by decide) (0 : Int) rfl (by decide) rfl (by decide) encI_one (fun a11 c12 => ?_))
    refine TL.op rfl (OpOk.lit (enc := Go.E.encI) [_] rfl Try.underlying22 sz3 ze3 rfl rfl rfl encI_len (by decide) (by decide) (0 : Int) rfl (by decide) rfl (by decide) encI_one (fun a14 c15 => ?_))
    refine TL.v rfl (OpVal.moveLoc (.inl rfl) rfl) rfl rfl ?_
    refine TL.v rfl (OpVal.nilCheckLoc rfl rfl) rfl rfl ?_
    refine TL.v rfl (OpVal.fieldLoc rfl fo74_0 rfl) rfl rfl ?_
    refine TL.v rfl (OpVal.loadLoc rfl ag23 rfl (i := 2) rfl rfl) rfl rfl ?_
    refine TL.v rfl (OpVal.buildL rfl pl25 ze25 rfl) rfl rfl ?_
    refine TL.front 4 rfl rfl ?_
    refine TL.op rfl (OpOk.storeAll rfl sz25 rfl rfl rfl rfl rfl rfl ?_)
    refine TL.nil ?_
    refine S.n ?_
    refine TC.front 1 rfl rfl ?_
    refine TC.sealS encI_len (fun τ19 hle18 hr17 => ?_)
    refine TC.front 1 rfl rfl ?_
    refine TC.sealS encI_len (fun τ22 hle21 hr20 => ?_)
    replace hr17 := hr17.mono hle21
    refine TC.front 2 rfl rfl ?_
    refine TC.sealS encE_len (fun τ25 hle24 hr23 => ?_)
    replace hr17 := hr17.mono hle24
    replace hr20 := hr20.mono hle24
    refine TC.ret ?_
    -- leaf 1 ret [h8: True] H=['q4', 'q6', 'q2']
    have h0 : ¬ s = BSet.zero := fun hx => h8 ((BSet.zero_iff s).2 hx)
    have hE : setE s = [⟨0, 1, s⟩] := if_neg h0
    exact retNfa1 (p := ⟨a11, c12, a14, c15, a9, c10⟩) 0 rfl ag25 sz25 rfl rfl (by unfold nfaA setN; rw [hE]; rfl) ⟨hr20, hr17, by unfold setN; rw [hE]; exact hr23, setE_ok hs⟩
  · try simp only [decide_eq_true_eq, decide_eq_false_iff_not, Bool.not_eq_true', Bool.not_eq_false', Bool.not_eq_eq_eq_not, Bool.not_true, Bool.not_false, Int.not_lt, Int.not_le, Decidable.not_not] at h8
    refine TC.skip ?_
    refine S.n ?_
    refine TC.seq ?_
    refine TC.region ?_
    refine TL.op rfl (OpOk.lit (enc := Go.E.encI) [_] rfl Try.underlying22 sz3 ze3 rfl rfl rfl encI_len (by decide) (by decide) (0 : Int) rfl (by decide) rfl (by decide) encI_one (fun a26 c27 => ?_))
    refine TL.op rfl (OpOk.lit (enc := Go.E.encI) [_] rfl Try.underlying22 sz3 ze3 rfl rfl rfl encI_len (by decide) (by decide) (0 : Int) rfl (by decide) rfl (by decide) encI_one (fun a29 c30 => ?_))
    refine TL.v rfl (OpVal.moveLoc (.inl rfl) rfl) rfl rfl ?_
    refine TL.v rfl (OpVal.nilCheckLoc rfl rfl) rfl rfl ?_
    refine TL.v rfl (OpVal.fieldLoc rfl fo74_0 rfl) rfl rfl ?_
    refine TL.v rfl (OpVal.loadLoc rfl ag23 rfl (i := 3) rfl rfl) rfl rfl ?_
    refine TL.v rfl (OpVal.buildL rfl pl25 ze25 rfl) rfl rfl ?_
    refine TL.front 4 rfl rfl ?_
    refine TL.op rfl (OpOk.storeAll rfl sz25 rfl rfl rfl rfl rfl rfl ?_)
    refine TL.nil ?_
    refine S.n ?_
    refine TC.front 1 rfl rfl ?_
    refine TC.sealS encI_len (fun τ34 hle33 hr32 => ?_)
    refine TC.front 1 rfl rfl ?_
    refine TC.sealS encI_len (fun τ37 hle36 hr35 => ?_)
    replace hr32 := hr32.mono hle36
    refine TC.front 1 rfl rfl ?_
    refine TC.sealS encE_len (fun τ40 hle39 hr38 => ?_)
    replace hr32 := hr32.mono hle39
    replace hr35 := hr35.mono hle39
    refine TC.ret ?_
    -- leaf 2 ret [h8: False] H=['q4', 'q6', 'q2']
    have h0 : s = BSet.zero := (BSet.zero_iff s).1 h8
    have hE : setE s = [] := if_pos h0
    exact retNfa1 (p := ⟨a26, c27, a29, c30, none, 0⟩) 0 rfl ag25 sz25 rfl rfl (by unfold nfaA setN; rw [hE]; rfl) ⟨hr35, hr32, by unfold setN; rw [hE]; exact hr38, setE_ok hs⟩

/-- The automaton of a text, its first k bytes laid. -/
def textE (t : List UInt8) (k : Nat) : List Arrow := (List.range k).map fun i : Nat => ⟨(i : Int), ((i + 1 : Nat) : Int), BSet.ofL [nth t i 0]⟩
theorem textE_succ (t : List UInt8) (k : Nat) : textE t (k + 1) = textE t k ++ [⟨(k : Int), ((k + 1 : Nat) : Int), BSet.ofL [nth t k 0]⟩] := by
  simp [textE, List.range_succ]
theorem textE_len (t : List UInt8) (k : Nat) : (textE t k).length = k := by simp [textE]
def textN (t : List UInt8) : Nfa := ⟨((t.length + 1 : Nat) : Int), [0], [(t.length : Int)], textE t t.length⟩
def textR (t : List UInt8) : Nfa := if t.length ≤ 256 then textN t else Nfa.zero
def textX (t : List UInt8) : Int := if t.length ≤ 256 then 0 else 2
theorem ofL_ok (l : List UInt8) : (BSet.ofL l).ok := BSet.make_ok _
theorem textE_ok (t : List UInt8) (k : Nat) : ∀ x ∈ textE t k, x.set.ok := by
  intro x hx
  simp only [textE, List.mem_map] at hx
  obtain ⟨i, _, rfl⟩ := hx
  exact ofL_ok _

theorem text_con (σ : Store) (s : ByteArray) (hsz : s.size ≤ 1000000000000) :
    Con Try.prog 15 #[.string s] σ [] (NfaR (textR s.data.toList) (textX s.data.toList)) := by
  have hsl : s.data.toList.length = s.size := rfl
  refine Con.mk (n := 43) Try.func15 rfl rfl rfl (fun w0 => ?_)
  refine TC.seq ?_
  refine TC.region ?_
  refine TL.op rfl (OpOk.alloc rfl ze25 rfl rfl (fun b1 => ?_))
  refine TL.v rfl (OpVal.moveI (.inr rfl) rfl) rfl rfl ?_
  refine TL.nil ?_
  refine S.n ?_
  refine TC.seq ?_
  refine TC.seq ?_
  refine TC.region ?_
  refine TL.v rfl (OpVal.moveStr (.inl rfl) rfl) rfl rfl ?_
  refine TL.v rfl (OpVal.lenStr rfl Try.underlying9 rfl) rfl rfl ?_
  refine TL.v rfl (OpVal.gtr rfl rfl rfl) rfl rfl ?_
  refine TL.nil ?_
  refine S.n ?_
  refine TC.condD rfl (fun h3 => ?_) (fun h3 => ?_)
  · try simp only [decide_eq_true_eq, decide_eq_false_iff_not, Bool.not_eq_true', Bool.not_eq_false', Bool.not_eq_eq_eq_not, Bool.not_true, Bool.not_false, Int.not_lt, Int.not_le, Decidable.not_not] at h3
    refine TC.seq ?_
    refine TC.region ?_
    refine TL.v rfl (OpVal.buildL rfl pl25 ze25 rfl) rfl rfl ?_
    refine TL.op rfl (OpOk.storeAll rfl sz25 rfl rfl rfl rfl rfl rfl ?_)
    refine TL.v rfl (OpVal.moveI (.inr rfl) rfl) rfl rfl ?_
    refine TL.nil ?_
    refine S.n ?_
    refine TC.ret ?_
    refine S.r ?_
    -- leaf 1 ret [h3: True] H=['q2']
    have h0 : ¬ s.data.toList.length ≤ 256 := by omega
    simp only [textR, textX, if_neg h0]
    exact retNfa (p := NfaP.zero) 0 rfl ag25 sz25 rfl rfl rfl rfl (RNfa.zero _)
  · try simp only [decide_eq_true_eq, decide_eq_false_iff_not, Bool.not_eq_true', Bool.not_eq_false', Bool.not_eq_eq_eq_not, Bool.not_true, Bool.not_false, Int.not_lt, Int.not_le, Decidable.not_not] at h3
    refine TC.skip ?_
    refine S.n ?_
    refine TC.seq ?_
    refine TC.region ?_
    refine TL.v rfl (OpVal.buildL rfl pl74 ze74 rfl) rfl rfl ?_
    refine TL.op rfl (OpOk.boxA rfl rfl rfl rfl (fun b4 => ?_))
    refine TL.nilS 80 6 encE ?_
    refine TL.v rfl (OpVal.moveLoc (.inr rfl) rfl) rfl rfl ?_
    refine TL.nil ?_
    refine S.n ?_
    refine TC.seq ?_
    refine TC.region ?_
    refine TL.v rfl (OpVal.moveLoc (.inl rfl) rfl) rfl rfl ?_
    refine TL.v rfl (OpVal.makeFn rfl) rfl rfl ?_
    refine TL.v rfl (OpVal.moveFn (.inr rfl) rfl) rfl rfl ?_
    refine TL.nil ?_
    refine S.n ?_
    refine TC.seq ?_
    refine TC.seq ?_
    refine TC.region ?_
    refine TL.v rfl (OpVal.moveStr (.inl rfl) rfl) rfl rfl ?_
    refine TL.v rfl (OpVal.lenStr rfl Try.underlying9 rfl) rfl rfl ?_
    refine TL.v rfl (OpVal.moveI (.inl rfl) rfl) rfl rfl ?_
    refine TL.nil ?_
    refine S.n ?_
    refine TC.block ?_
    refine TC.loopF (α := Nat × Option Addr × Nat) [6, 17, 18, 19, 20, 21, 22, 23, 24, 25, 26, 27, 28, 29, 30] (fun g => [(17, .int .i64 (g.1 : Nat))]) (fun g => [Res.rowS 80 6 encE (.slice g.2.1 (textE s.data.toList g.1).length g.2.2) (textE s.data.toList g.1), Res.cells b4 #[.slice g.2.1 (textE s.data.toList g.1).length g.2.2] 74, Res.cells b1 (nfaA Nfa.zero NfaP.zero) 25]) (fun _ => _) (fun g => g.1 ≤ s.size) (fun g => s.size - g.1) ((0, none, 0)) (by first | exact True.intro | omega | (dsimp only; omega) | (simp; done) | (simp; omega)) (by repeat (first | exact trivial | refine ⟨rfl, ?_⟩)) (by rfl) (by rfl) (fun g1 j1 hg1 => ?_)
    obtain ⟨g1, ga, gc⟩ := g1
    dsimp only
    have hg1 : g1 ≤ s.size := hg1
    refine TC.seq ?_
    refine TC.region ?_
    refine TL.v rfl (OpVal.lss rfl rfl rfl) rfl rfl ?_
    refine TL.nil ?_
    refine S.n ?_
    refine TC.seq ?_
    refine TC.condD rfl (fun h7 => ?_) (fun h7 => ?_)
    · try simp only [decide_eq_true_eq, decide_eq_false_iff_not, Bool.not_eq_true', Bool.not_eq_false', Bool.not_eq_eq_eq_not, Bool.not_true, Bool.not_false, Int.not_lt, Int.not_le, Decidable.not_not] at h7
      refine TC.skip ?_
      refine S.n ?_
      refine TC.seq ?_
      refine TC.block ?_
      refine TC.seq ?_
      refine TC.region ?_
      refine TL.v rfl (OpVal.moveI (.inl rfl) rfl) rfl rfl ?_
      refine TL.v rfl (OpVal.moveI (.inr rfl) rfl) rfl rfl ?_
      refine TL.nil ?_
      refine S.n ?_
      refine TC.region ?_
      refine TL.v rfl (OpVal.moveFn (.inl rfl) rfl) rfl rfl ?_
      refine TL.v rfl (OpVal.moveI (.inl rfl) rfl) rfl rfl ?_
      refine TL.v rfl (OpVal.moveI (.inl rfl) rfl) rfl rfl ?_
      refine TL.v rfl (OpVal.succ rfl rfl rfl (by omega)) rfl rfl ?_
      refine TL.v rfl (OpVal.moveStr (.inl rfl) rfl) rfl rfl ?_
      refine TL.v rfl (OpVal.moveI (.inl rfl) rfl) rfl rfl ?_
      refine TL.v rfl (OpVal.indexStrN rfl Try.underlying9 rfl rfl (getD_some s.data.toList (by omega) 0)) rfl rfl ?_
      refine TL.op rfl (OpOk.lit (enc := encU8) [_] rfl Try.underlying78 sz5 ze5 rfl rfl rfl encU8_len (by decide) (by decide) (0 : UInt8) rfl (by decide) rfl (by decide) encU8_one (fun a8 c9 => ?_))
      refine TL.op rfl (OpOk.callT (of_con _ _ _ [nth s.data.toList g1 0] (by simp)) rfl rfl pf53 rfl rfl rfl rfl ?_)
      refine TL.front 1 rfl rfl ?_
      refine TL.op rfl (OpOk.callE (edge_con _ _ _ _ _ _ _ (BSet.ofL [nth s.data.toList g1 0]) (by rw [textE_len]; omega)) rfl rfl pf52 rfl rfl rfl rfl (fun a11 c12 => ?_))
      refine TL.nil ?_
      refine B.n ?_
      refine S.n ?_
      refine TC.region ?_
      refine TL.v rfl (OpVal.succ rfl rfl rfl (by omega)) rfl rfl ?_
      refine TL.v rfl (OpVal.moveI (.inl rfl) rfl) rfl rfl ?_
      refine TL.front 2 rfl rfl ?_
      refine TL.front 1 rfl rfl ?_
      refine TL.front 2 rfl rfl ?_
      refine TL.nil ?_
      refine S.n ?_
      -- leaf 2 next [h3: False; h7: True] H=['q6', 'q5', 'q2']
      refine ⟨by repeat (first | exact Agr.mask | refine Agr.upd rfl ?_ | refine Agr.maskIn rfl ?_), (g1 + 1, a11, c12), ?_, ?_, ?_, ?_, ?_⟩
      · show s.size - (g1 + 1) < s.size - g1; omega
      · show g1 + 1 ≤ s.size; omega
      · repeat (first | exact trivial | refine ⟨rfl, ?_⟩)
      · show _ = [Res.rowS _ _ _ (.slice _ (textE s.data.toList (g1 + 1)).length _) (textE s.data.toList (g1 + 1)), Res.cells _ #[.slice _ (textE s.data.toList (g1 + 1)).length _] _, _]
        rw [textE_succ]; rfl
      · rfl
    · try simp only [decide_eq_true_eq, decide_eq_false_iff_not, Bool.not_eq_true', Bool.not_eq_false', Bool.not_eq_eq_eq_not, Bool.not_true, Bool.not_false, Int.not_lt, Int.not_le, Decidable.not_not] at h7
      refine TC.exit ?_
      refine S.x ?_
      refine S.x ?_
      refine TC.exitHere ?_
      refine S.n ?_
      refine TC.seq ?_
      refine TC.region ?_
      refine TL.v rfl (OpVal.moveStr (.inl rfl) rfl) rfl rfl ?_
      refine TL.v rfl (OpVal.lenStr rfl Try.underlying9 rfl) rfl rfl ?_
      refine TL.v rfl (OpVal.succ rfl rfl rfl (by omega)) rfl rfl ?_
      refine TL.op rfl (OpOk.lit (enc := Go.E.encI) [_] rfl Try.underlying22 sz3 ze3 rfl rfl rfl encI_len (by decide) (by decide) (0 : Int) rfl (by decide) rfl (by decide) encI_one (fun a13 c14 => ?_))
      refine TL.v rfl (OpVal.moveStr (.inl rfl) rfl) rfl rfl ?_
      refine TL.v rfl (OpVal.lenStr rfl Try.underlying9 rfl) rfl rfl ?_
      refine TL.op rfl (OpOk.lit (enc := Go.E.encI) [_] rfl Try.underlying22 sz3 ze3 rfl rfl rfl encI_len (by decide) (by decide) (0 : Int) rfl (by decide) rfl (by decide) encI_one (fun a16 c17 => ?_))
      refine TL.v rfl (OpVal.moveLoc (.inl rfl) rfl) rfl rfl ?_
      refine TL.v rfl (OpVal.nilCheckLoc rfl rfl) rfl rfl ?_
      refine TL.v rfl (OpVal.fieldLoc rfl fo74_0 rfl) rfl rfl ?_
      refine TL.v rfl (OpVal.loadLoc rfl ag23 rfl (i := 3) rfl rfl) rfl rfl ?_
      refine TL.v rfl (OpVal.buildL rfl pl25 ze25 rfl) rfl rfl ?_
      refine TL.front 4 rfl rfl ?_
      refine TL.op rfl (OpOk.storeAll rfl sz25 rfl rfl rfl rfl rfl rfl ?_)
      refine TL.v rfl (OpVal.moveI (.inr rfl) rfl) rfl rfl ?_
      refine TL.nil ?_
      refine S.n ?_
      refine TC.front 1 rfl rfl ?_
      refine TC.sealS encI_len (fun τ21 hle20 hr19 => ?_)
      refine TC.front 1 rfl rfl ?_
      refine TC.sealS encI_len (fun τ24 hle23 hr22 => ?_)
      replace hr19 := hr19.mono hle23
      refine TC.front 1 rfl rfl ?_
      refine TC.sealS encE_len (fun τ27 hle26 hr25 => ?_)
      replace hr19 := hr19.mono hle26
      replace hr22 := hr22.mono hle26
      refine TC.ret ?_
      -- leaf 3 ret [h3: False; h7: False] H=['q2', 'q5']
      obtain rfl : g1 = s.size := by omega
      have h0 : s.data.toList.length ≤ 256 := by omega
      simp only [textR, textX, if_pos h0]
      exact retNfa (p := ⟨a13, c14, a16, c17, ga, gc⟩) 0 rfl ag25 sz25 rfl rfl rfl rfl ⟨hr22, hr19, hr25, textE_ok _ _⟩

end Go.Proofs.Ytcidppnlhhkhhaa
end

/- Nfa4 -/
section
/- Contracts of package nfa, part four: joined and repeated. -/
set_option linter.unusedVariables false
set_option linter.unusedSimpArgs false
namespace Go.Proofs.Ytcidppnlhhkhhaa
open Go Go.E
set_option maxRecDepth 100000

theorem indexf_con (σ : Store) (a : Option Addr) (c : Nat) (l : List Int) (hl : RS σ 1 Go.E.encI (.slice a l.length c) l) (H1 : List Res) (g : Nat) (hg : plainF Try.prog g = true) (cap : List Value) (p : Int → Bool)
    (hc : ∀ x ∈ l, Con Try.prog g ([Value.int .i64 x] ++ cap).toArray σ H1 (KeepP (.bool (p x)) σ H1)) :
    Con Try.prog 92 #[.slice a l.length c, .func (.func g) #[] cap.toArray] σ H1 (KeepP (.int .i64 (if l.any p then ((l.findIdx p : Nat) : Int) else -1)) σ H1) := by
  have hb := hl.rv.big
  refine Con.mk (n := 19) Try.func92 rfl rfl rfl (fun w0 => ?_)
  refine TC.seq ?_
  refine TC.region ?_
  refine TL.v rfl (OpVal.moveI (.inr rfl) rfl) rfl rfl ?_
  refine TL.nil ?_
  refine S.n ?_
  refine TC.seq ?_
  refine TC.seq ?_
  refine TC.region ?_
  refine TL.v rfl (OpVal.moveSl (.inl rfl) rfl) rfl rfl ?_
  refine TL.v rfl (OpVal.lenC rfl Try.underlying22 rfl) rfl rfl ?_
  refine TL.v rfl (OpVal.moveI (.inl rfl) rfl) rfl rfl ?_
  refine TL.nil ?_
  refine S.n ?_
  refine TC.block ?_
  refine TC.loopF (α := Nat) [4, 5, 8, 9, 10, 11, 12, 13, 14, 15, 16, 17, 18] (fun k => [(8, .int .i64 (k : Nat))]) (fun _ => _) (fun _ => _) (fun k => k ≤ l.length ∧ ∀ i, i < k → p (nth l i 0) = false) (fun k => l.length - k) (0) (by first | exact True.intro | omega | (dsimp only; omega) | (simp; done) | (simp; omega)) (by repeat (first | exact trivial | refine ⟨rfl, ?_⟩)) (by rfl) (by rfl) (fun g1 j1 hg1 => ?_)
  obtain ⟨hk, hi⟩ := hg1
  refine TC.seq ?_
  refine TC.region ?_
  refine TL.v rfl (OpVal.lss rfl rfl rfl) rfl rfl ?_
  refine TL.nil ?_
  refine S.n ?_
  refine TC.seq ?_
  refine TC.condD rfl (fun h1 => ?_) (fun h1 => ?_)
  · try simp only [decide_eq_true_eq, decide_eq_false_iff_not, Bool.not_eq_true', Bool.not_eq_false', Bool.not_eq_eq_eq_not, Bool.not_true, Bool.not_false, Int.not_lt, Int.not_le, Decidable.not_not] at h1
    refine TC.skip ?_
    refine S.n ?_
    refine TC.seq ?_
    refine TC.block ?_
    refine TC.seq ?_
    refine TC.region ?_
    refine TL.v rfl (OpVal.moveI (.inl rfl) rfl) rfl rfl ?_
    refine TL.v rfl (OpVal.moveI (.inr rfl) rfl) rfl rfl ?_
    refine TL.nil ?_
    refine S.n ?_
    refine TC.seq ?_
    refine TC.region ?_
    refine TL.v rfl (OpVal.moveFn (.inl rfl) rfl) rfl rfl ?_
    refine TL.v rfl (OpVal.moveSl (.inl rfl) rfl) rfl rfl ?_
    refine TL.v rfl (OpVal.moveI (.inl rfl) rfl) rfl rfl ?_
    refine TL.v rfl (OpVal.indexN rfl Try.underlying22 sz3 rfl rfl (by first | assumption | exact (RS.rv (by assumption)).sl) (by omega)) rfl rfl ?_
    refine TL.v rfl (OpVal.loadS1 (0 : Int) rfl ag3 rfl (by assumption) (by omega) rfl) rfl rfl ?_
    refine TL.op rfl (OpOk.callK0 (hc (nth l g1 0) (nth_mem (by omega) 0)) rfl rfl hg rfl rfl rfl ?_)
    refine TL.nil ?_
    refine S.n ?_
    refine TC.cond rfl (fun h2 => ?_) (fun h2 => ?_)
    · try simp only [decide_eq_true_eq, decide_eq_false_iff_not, Bool.not_eq_true', Bool.not_eq_false', Bool.not_eq_eq_eq_not, Bool.not_true, Bool.not_false, Int.not_lt, Int.not_le, Decidable.not_not] at h2
      refine TC.seq ?_
      refine TC.region ?_
      refine TL.v rfl (OpVal.moveI (.inl rfl) rfl) rfl rfl ?_
      refine TL.v rfl (OpVal.moveI (.inr rfl) rfl) rfl rfl ?_
      refine TL.nil ?_
      refine S.n ?_
      refine TC.ret ?_
      refine B.r ?_
      refine S.r ?_
      refine S.r ?_
      refine B.r ?_
      refine S.r ?_
      -- leaf 1 ret [h1: True; h2: True] H=[]
      refine ret1K rfl (congrArg (Value.int _) ?_)
      exact (findI_yes (k := g1) (by omega) hi h2).symm
    · try simp only [decide_eq_true_eq, decide_eq_false_iff_not, Bool.not_eq_true', Bool.not_eq_false', Bool.not_eq_eq_eq_not, Bool.not_true, Bool.not_false, Int.not_lt, Int.not_le, Decidable.not_not] at h2
      refine TC.skip ?_
      refine B.n ?_
      refine S.n ?_
      refine TC.region ?_
      refine TL.v rfl (OpVal.succ rfl rfl rfl (by omega)) rfl rfl ?_
      refine TL.v rfl (OpVal.moveI (.inl rfl) rfl) rfl rfl ?_
      refine TL.nil ?_
      refine S.n ?_
      -- leaf 2 next [h1: True; h2: False] H=[]
      refine ⟨by repeat (first | exact Agr.mask | refine Agr.upd rfl ?_ | refine Agr.maskIn rfl ?_), g1 + 1, ?_, ?_, ?_, ?_, ?_⟩
      · omega
      · exact ⟨by omega, fun j hj => by rcases Nat.lt_succ_iff_lt_or_eq.1 hj with h | rfl; exact hi j h; exact h2⟩
      · repeat (first | exact trivial | refine ⟨rfl, ?_⟩)
      · rfl
      · rfl
  · try simp only [decide_eq_true_eq, decide_eq_false_iff_not, Bool.not_eq_true', Bool.not_eq_false', Bool.not_eq_eq_eq_not, Bool.not_true, Bool.not_false, Int.not_lt, Int.not_le, Decidable.not_not] at h1
    refine TC.exit ?_
    refine S.x ?_
    refine S.x ?_
    refine TC.exitHere ?_
    refine S.n ?_
    refine TC.seq ?_
    refine TC.region ?_
    refine TL.v rfl (OpVal.moveI (.inr rfl) rfl) rfl rfl ?_
    refine TL.nil ?_
    refine S.n ?_
    refine TC.ret ?_
    -- leaf 3 ret [h1: False] H=[]
    refine ret1K rfl (congrArg (Value.int _) ?_)
    exact (findI_no (fun j hj => hi j (by omega))).symm

theorem containsf_con (σ : Store) (a : Option Addr) (c : Nat) (l : List Int) (hl : RS σ 1 Go.E.encI (.slice a l.length c) l) (H1 : List Res) (g : Nat) (hg : plainF Try.prog g = true) (cap : List Value) (p : Int → Bool)
    (hc : ∀ x ∈ l, Con Try.prog g ([Value.int .i64 x] ++ cap).toArray σ H1 (KeepP (.bool (p x)) σ H1)) :
    Con Try.prog 85 #[.slice a l.length c, .func (.func g) #[] cap.toArray] σ H1 (KeepP (.bool (l.any p)) σ H1) := by
  refine Con.mk (n := 9) Try.func85 rfl rfl rfl (fun w0 => ?_)
  refine TC.seq ?_
  refine TC.region ?_
  refine TL.v rfl (OpVal.moveB (.inr rfl) rfl) rfl rfl ?_
  refine TL.nil ?_
  refine S.n ?_
  refine TC.seq ?_
  refine TC.region ?_
  refine TL.v rfl (OpVal.moveSl (.inl rfl) rfl) rfl rfl ?_
  refine TL.v rfl (OpVal.moveFn (.inl rfl) rfl) rfl rfl ?_
  refine TL.op rfl (OpOk.callK0 (indexf_con _ _ _ l hl _ g hg cap p hc) rfl rfl pf92 rfl rfl rfl ?_)
  refine TL.v rfl (OpVal.geq rfl rfl rfl) rfl rfl ?_
  refine TL.v rfl (OpVal.moveB (.inr rfl) rfl) rfl rfl ?_
  refine TL.nil ?_
  refine S.n ?_
  refine TC.ret ?_
  -- leaf 1 ret [] H=[]
  refine ret1K rfl (congrArg Value.bool ?_)
  by_cases h : l.any p = true
  · simp [h] <;> omega
  · simp [h]

theorem lam_con (σ : Store) (b n c : Nat) (a : Option Addr) (m : List Bool) (s : Int) (h0 : 0 ≤ s) (h1 : s < m.length) (hn : m.length = n) :
    Con Try.prog 86 #[.int .i64 s, loc b 0] σ [Res.cells b #[.slice a n c] 47, Res.rowS 4 1 encB (.slice a n c) m] (KeepP (.bool (nth m s.toNat false)) σ [Res.cells b #[.slice a n c] 47, Res.rowS 4 1 encB (.slice a n c) m]) := by
  refine Con.mk (n := 8) Try.func86 rfl rfl rfl (fun w0 => ?_)
  refine TC.seq ?_
  refine TC.region ?_
  refine TL.v rfl (OpVal.moveB (.inr rfl) rfl) rfl rfl ?_
  refine TL.nil ?_
  refine S.n ?_
  refine TC.seq ?_
  refine TC.region ?_
  refine TL.v rfl (OpVal.loadLoc rfl ag47 rfl (i := 0) rfl rfl) rfl rfl ?_
  refine TL.v rfl (OpVal.moveI (.inl rfl) rfl) rfl rfl ?_
  refine TL.isSl (i := 1) rfl (fun hs1 _ _ => ?_)
  refine TL.v rfl (OpVal.index rfl Try.underlying47 sz4 rfl rfl (by first | assumption | exact (RS.rv (by assumption)).sl) (by omega) (by omega)) rfl rfl ?_
  refine TL.v rfl (OpVal.loadO1 false rfl ag4 rfl (q := 1) rfl encB_len (by omega) rfl) rfl rfl ?_
  refine TL.v rfl (OpVal.moveB (.inr rfl) rfl) rfl rfl ?_
  refine TL.nil ?_
  refine S.n ?_
  refine TC.ret ?_
  -- leaf 1 ret [] H=['q0', 'r0']
  exact ret1K rfl rfl

def lamH (b c : Nat) (a : Option Addr) (n : Nfa) : List Res := [Res.cells b #[.slice a (marksL n.ends n.states.toNat).length c] 47, Res.rowS 4 1 encB (.slice a (marksL n.ends n.states.toNat).length c) (marksL n.ends n.states.toNat)]
theorem lam_any (σ : Store) (b c : Nat) (a : Option Addr) (n : Nfa) (x : Int) (h0 : 0 ≤ x) (h1 : x < n.states) :
    Con Try.prog 86 ([Value.int .i64 x] ++ [loc b 0]).toArray σ (lamH b c a n) (KeepP (.bool (n.ends.contains x)) σ (lamH b c a n)) := by
  have := lam_con σ b _ c a (marksL n.ends n.states.toNat) x h0 (by rw [marksL_len]; omega) rfl
  rw [marksL_get (by omega), Int.toNat_of_nonneg h0] at this
  exact this

theorem nempty_con (σ : Store) (n : Nfa) (p : NfaP) (hn : RNfa σ n p) (hc : checkB n = true) : Con Try.prog 65 #[nfaV n p] σ [] (PureP (.bool (emptyB n)) σ) := by
  obtain ⟨k1, k2, k3, k4, k5, k6⟩ := checkB_spec hc
  refine Con.mk (n := 13) Try.func65 rfl rfl rfl (fun w0 => ?_)
  refine TC.seq ?_
  refine TC.region ?_
  refine TL.op rfl (OpOk.boxA rfl rfl rfl rfl (fun b1 => ?_))
  refine TL.v rfl (OpVal.moveB (.inr rfl) rfl) rfl rfl ?_
  refine TL.nil ?_
  refine S.n ?_
  refine TC.seq ?_
  refine TC.region ?_
  refine TL.v rfl (OpVal.fieldLoc rfl fo25_2 rfl) rfl rfl ?_
  refine TL.v rfl (OpVal.loadLoc rfl ag22 rfl (i := 0) rfl rfl) rfl rfl ?_
  refine TL.v rfl (OpVal.fieldLoc rfl fo25_0 rfl) rfl rfl ?_
  refine TL.v rfl (OpVal.loadLoc rfl ag3 rfl (i := 0) rfl rfl) rfl rfl ?_
  refine TL.op rfl (OpOk.callR (marks_con _ _ _ _ _ hn.e k1 k2 k5) rfl rfl pf60 rfl rfl rfl (fun a3 c4 => ?_))
  refine TL.op rfl (OpOk.alloc rfl ze47 rfl rfl (fun b6 => ?_))
  refine TL.op rfl (OpOk.storeSl rfl sz47 rfl rfl rfl rfl rfl ?_)
  refine TL.nil ?_
  refine S.n ?_
  refine TC.seq ?_
  refine TC.region ?_
  refine TL.v rfl (OpVal.fieldLoc rfl fo25_1 rfl) rfl rfl ?_
  refine TL.v rfl (OpVal.loadLoc rfl ag22 rfl (i := 2) rfl rfl) rfl rfl ?_
  refine TL.v rfl (OpVal.makeFn rfl) rfl rfl ?_
  refine TL.front 1 rfl rfl ?_
  refine TL.front 1 rfl rfl ?_
  refine TL.op rfl (OpOk.callK (containsf_con _ _ _ _ hn.s (lamH b6 c4 a3 n) 86 pf86 [loc b6 0] (fun s => n.ends.contains s) (fun x hx => lam_any _ _ _ _ n x (k4 x hx).1 (k4 x hx).2)) rfl rfl pf85 rfl rfl rfl rfl ?_)
  refine TL.v rfl (OpVal.moveB (.inr rfl) rfl) rfl rfl ?_
  refine TL.nil ?_
  refine S.n ?_
  refine TC.ret ?_
  -- leaf 1 ret [] H=['q7', 'q5', 'q2']
  refine ret1P rfl (congrArg Value.bool ?_)
  rfl

theorem both_con (σ : Store) (x y : Nfa) (p q : NfaP) (hx : RNfa σ x p) (hy : RNfa σ y q) (hst : 0 ≤ x.states ∧ x.states ≤ 1000000) (hs : ∀ u ∈ y.edges, 0 ≤ u.frm ∧ u.frm ≤ 1000000 ∧ 0 ≤ u.to ∧ u.to ≤ 1000000) (hl1 : x.edges.length ≤ 100000000) (hl2 : y.edges.length ≤ 100000000) :
    Con Try.prog 62 #[nfaV x p, nfaV y q] σ [] (MakerP 74 80 (x.edges ++ shiftE y.edges x.states) σ) := by
  have hd := hy.d
  refine Con.mk (n := 36) Try.func62 rfl rfl rfl (fun w0 => ?_)
  refine TC.seq ?_
  refine TC.region ?_
  refine TL.op rfl (OpOk.boxA rfl rfl rfl rfl (fun b1 => ?_))
  refine TL.op rfl (OpOk.boxA rfl rfl rfl rfl (fun b3 => ?_))
  refine TL.v rfl (OpVal.movePtr (.inr rfl) rfl) rfl rfl ?_
  refine TL.nil ?_
  refine S.n ?_
  refine TC.seq ?_
  refine TC.region ?_
  refine TL.v rfl (OpVal.fieldLoc rfl fo25_3 rfl) rfl rfl ?_
  refine TL.v rfl (OpVal.loadLoc rfl ag23 rfl (i := 1) rfl rfl) rfl rfl ?_
  refine TL.op rfl (OpOk.callR (clonee_con _ _ _ _ hx.d (by omega)) rfl rfl pf72 rfl rfl rfl (fun a5 c6 => ?_))
  refine TL.v rfl (OpVal.buildL rfl pl74 ze74 rfl) rfl rfl ?_
  refine TL.op rfl (OpOk.boxA rfl rfl rfl rfl (fun b8 => ?_))
  refine TL.v rfl (OpVal.moveLoc (.inr rfl) rfl) rfl rfl ?_
  refine TL.nil ?_
  refine S.n ?_
  refine TC.seq ?_
  refine TC.seq ?_
  refine TC.region ?_
  refine TL.v rfl (OpVal.fieldLoc rfl fo25_3 rfl) rfl rfl ?_
  refine TL.v rfl (OpVal.loadLoc rfl ag23 rfl (i := 2) rfl rfl) rfl rfl ?_
  refine TL.v rfl (OpVal.lenC rfl Try.underlying23 rfl) rfl rfl ?_
  refine TL.v rfl (OpVal.moveI (.inl rfl) rfl) rfl rfl ?_
  refine TL.nil ?_
  refine S.n ?_
  refine TC.block ?_
  refine TC.loopF (α := Nat × Option Addr × Nat) [7, 16, 17, 18, 19, 20, 21, 22, 23, 24, 25, 26, 27, 28, 29, 30, 31, 32, 33, 34] (fun g => [(16, .int .i64 (g.1 : Nat))]) (fun g => [Res.cells b8 #[.slice g.2.1 (x.edges ++ shiftE (y.edges.take g.1) x.states).length g.2.2] 74, Res.rowS 80 6 encE (.slice g.2.1 (x.edges ++ shiftE (y.edges.take g.1) x.states).length g.2.2) (x.edges ++ shiftE (y.edges.take g.1) x.states), Res.cells b3 (nfaA y q) 25, Res.cells b1 (nfaA x p) 25]) (fun _ => _) (fun g => g.1 ≤ y.edges.length) (fun g => y.edges.length - g.1) ((0, a5, c6)) (by first | exact True.intro | omega | (dsimp only; omega) | (simp; done) | (simp; omega)) (by repeat (first | exact trivial | refine ⟨rfl, ?_⟩)) (by simp only [List.take_zero, shiftE, List.map_nil, List.append_nil]; rfl) (by rfl) (fun g1 j1 hg1 => ?_)
  obtain ⟨g1, ga, gc⟩ := g1
  dsimp only
  have hg1 : g1 ≤ y.edges.length := hg1
  have hu : g1 < y.edges.length → _ := fun h => hs _ (nth_mem h Arrow.zero)
  refine TC.seq ?_
  refine TC.region ?_
  refine TL.v rfl (OpVal.lss rfl rfl rfl) rfl rfl ?_
  refine TL.nil ?_
  refine S.n ?_
  refine TC.seq ?_
  refine TC.condD rfl (fun h10 => ?_) (fun h10 => ?_)
  · try simp only [decide_eq_true_eq, decide_eq_false_iff_not, Bool.not_eq_true', Bool.not_eq_false', Bool.not_eq_eq_eq_not, Bool.not_true, Bool.not_false, Int.not_lt, Int.not_le, Decidable.not_not] at h10
    refine TC.skip ?_
    refine S.n ?_
    refine TC.seq ?_
    refine TC.block ?_
    refine TC.seq ?_
    refine TC.region ?_
    refine TL.v rfl (OpVal.indexN rfl Try.underlying23 sz80 rfl rfl (by first | assumption | exact (RS.rv (by assumption)).sl) (by omega)) rfl rfl ?_
    refine TL.v rfl (OpVal.loadSA Arrow.zero rfl ag80 sz80 rfl (by assumption) (by omega) (by omega)) rfl rfl ?_
    refine TL.op rfl (OpOk.alloc rfl ze80 rfl rfl (fun b11 => ?_))
    refine TL.op rfl (OpOk.storeAll rfl sz80 rfl rfl rfl rfl rfl rfl ?_)
    refine TL.nil ?_
    refine S.n ?_
    refine TC.region ?_
    refine TL.v rfl (OpVal.moveLoc (.inl rfl) rfl) rfl rfl ?_
    refine TL.v rfl (OpVal.fieldLoc rfl fo80_0 rfl) rfl rfl ?_
    refine TL.v rfl (OpVal.loadLoc rfl ag3 rfl (i := 0) rfl rfl) rfl rfl ?_
    refine TL.v rfl (OpVal.fieldLoc rfl fo25_0 rfl) rfl rfl ?_
    refine TL.v rfl (OpVal.loadLoc rfl ag3 rfl (i := 4) rfl rfl) rfl rfl ?_
    refine TL.v rfl (OpVal.add rfl rfl rfl (by omega) (by omega)) rfl rfl ?_
    refine TL.v rfl (OpVal.fieldLoc rfl fo80_1 rfl) rfl rfl ?_
    refine TL.v rfl (OpVal.loadLoc rfl ag3 rfl (i := 0) rfl rfl) rfl rfl ?_
    refine TL.v rfl (OpVal.fieldLoc rfl fo25_0 rfl) rfl rfl ?_
    refine TL.v rfl (OpVal.loadLoc rfl ag3 rfl (i := 4) rfl rfl) rfl rfl ?_
    refine TL.v rfl (OpVal.add rfl rfl rfl (by omega) (by omega)) rfl rfl ?_
    refine TL.v rfl (OpVal.fieldLoc rfl fo80_2 rfl) rfl rfl ?_
    refine TL.v rfl (OpVal.loadLocA rfl ag28 sz28 rfl (i := 0) rfl rfl rfl) rfl rfl ?_
    refine TL.front 2 rfl rfl ?_
    refine TL.front 2 rfl rfl ?_
    refine TL.op rfl (OpOk.callE (edge_con _ _ _ _ _ _ _ (nth y.edges g1 Arrow.zero).set (by rw [List.length_append, shiftE_len, List.length_take]; omega)) rfl rfl pf52 rfl rfl rfl rfl (fun a13 c14 => ?_))
    refine TL.nil ?_
    refine B.n ?_
    refine S.n ?_
    refine TC.region ?_
    refine TL.v rfl (OpVal.succ rfl rfl rfl (by omega)) rfl rfl ?_
    refine TL.v rfl (OpVal.moveI (.inl rfl) rfl) rfl rfl ?_
    refine TL.front 4 rfl rfl ?_
    refine TL.front 4 rfl rfl ?_
    refine TL.front 3 rfl rfl ?_
    refine TL.front 3 rfl rfl ?_
    refine TL.takeN 4 rfl ?_
    refine TL.nil ?_
    refine S.n ?_
    -- leaf 1 next [h10: True] H=['q9', 'q7', 'q4', 'q2']
    refine ⟨by repeat (first | exact Agr.mask | refine Agr.upd rfl ?_ | refine Agr.maskIn rfl ?_), (g1 + 1, a13, c14), ?_, ?_, ?_, ?_, ?_⟩
    · show y.edges.length - (g1 + 1) < y.edges.length - g1; omega
    · show g1 + 1 ≤ y.edges.length; omega
    · repeat (first | exact trivial | refine ⟨rfl, ?_⟩)
    · show _ = [Res.cells _ #[.slice _ (x.edges ++ shiftE (y.edges.take (g1 + 1)) x.states).length _] _, Res.rowS _ _ _ (.slice _ (x.edges ++ shiftE (y.edges.take (g1 + 1)) x.states).length _) (x.edges ++ shiftE (y.edges.take (g1 + 1)) x.states), _, _]
      rw [shiftE_snoc (by omega), ← List.append_assoc]; rfl
    · rfl
  · try simp only [decide_eq_true_eq, decide_eq_false_iff_not, Bool.not_eq_true', Bool.not_eq_false', Bool.not_eq_eq_eq_not, Bool.not_true, Bool.not_false, Int.not_lt, Int.not_le, Decidable.not_not] at h10
    refine TC.exit ?_
    refine S.x ?_
    refine S.x ?_
    refine TC.exitHere ?_
    refine S.n ?_
    refine TC.seq ?_
    refine TC.region ?_
    refine TL.v rfl (OpVal.moveLoc (.inl rfl) rfl) rfl rfl ?_
    refine TL.v rfl (OpVal.moveLoc (.inr rfl) rfl) rfl rfl ?_
    refine TL.nil ?_
    refine S.n ?_
    refine TC.front 1 rfl rfl ?_
    refine TC.front 1 rfl rfl ?_
    refine TC.takeN 2 rfl ?_
    refine TC.ret ?_
    -- leaf 2 ret [h10: False] H=['q9', 'q7']
    obtain rfl : g1 = y.edges.length := by omega
    rw [List.take_length]
    exact retM rfl rfl

end Go.Proofs.Ytcidppnlhhkhhaa
end

/- Nfa5 -/
section
/- Contracts of package nfa, part five: again and again. -/
set_option linter.unusedVariables false
set_option linter.unusedSimpArgs false
namespace Go.Proofs.Ytcidppnlhhkhhaa
open Go Go.E
set_option maxRecDepth 100000

theorem errB_no {b : Bool} (h : errB b ≠ 0) : b = false := by
  cases b
  · rfl
  · exact absurd rfl h
theorem errB_yes {b : Bool} (h : errB b = 0) : b = true := by
  cases b
  · exact absurd h (by decide)
  · rfl
/-- May an automaton be so big? -/
def fitB (s d : Int) : Bool := decide (s ≤ 4096) && decide (d ≤ 65536)

def starOf (a : Nfa) (x : Arrow) : List Arrow :=
  (if a.starts.contains x.frm = true then [⟨a.states, x.to, x.set⟩] else []) ++ ((if a.ends.contains x.to = true then [⟨x.frm, a.states, x.set⟩] else []) ++
    (if a.starts.contains x.frm = true ∧ a.ends.contains x.to = true then [⟨a.states, a.states, x.set⟩] else []))
def starTo (a : Nfa) (k : Nat) : List Arrow := a.edges ++ (a.edges.take k).flatMap (starOf a)
theorem starTo_zero (a : Nfa) : starTo a 0 = a.edges := by simp [starTo]
theorem starTo_succ {a : Nfa} {k : Nat} (h : k < a.edges.length) : starTo a (k + 1) = starTo a k ++ starOf a (nth a.edges k Arrow.zero) := by
  simp [starTo, take_succ_nth a.edges h Arrow.zero]
theorem starOf_len (a : Nfa) (x : Arrow) : (starOf a x).length ≤ 3 := by
  unfold starOf
  repeat' split
  all_goals simp
theorem starTo_len (a : Nfa) (k : Nat) (h : k ≤ a.edges.length) : (starTo a k).length ≤ a.edges.length + 3 * k := by
  induction k with
  | zero => simp [starTo]
  | succ k ih =>
    rw [starTo_succ (by omega), List.length_append]
    have := starOf_len a (nth a.edges k Arrow.zero)
    have := ih (by omega)
    omega
theorem starOf_ok {a : Nfa} {x : Arrow} (h : x.set.ok) : ∀ y ∈ starOf a x, y.set.ok := by
  intro y hy
  unfold starOf at hy
  simp only [List.mem_append] at hy
  rcases hy with hy | hy | hy <;> (split at hy <;> simp at hy <;> subst hy <;> exact h)
theorem starTo_ok {a : Nfa} (h : ∀ x ∈ a.edges, x.set.ok) (k : Nat) : ∀ y ∈ starTo a k, y.set.ok := by
  intro y hy
  simp only [starTo, List.mem_append, List.mem_flatMap] at hy
  rcases hy with hy | ⟨x, hx, hy⟩
  · exact h y hy
  · exact starOf_ok (h x (List.mem_of_mem_take hx)) y hy

theorem starTo_step {a : Nfa} {k : Nat} (h : k < a.edges.length) (k6 : ∀ x ∈ a.edges, 0 ≤ x.frm ∧ x.frm < a.states ∧ 0 ≤ x.to ∧ x.to < a.states) :
    nth (marksL a.starts a.states.toNat) (nth a.edges k Arrow.zero).frm.toNat false = a.starts.contains (nth a.edges k Arrow.zero).frm ∧
    nth (marksL a.ends a.states.toNat) (nth a.edges k Arrow.zero).to.toNat false = a.ends.contains (nth a.edges k Arrow.zero).to := by
  have hu := k6 _ (nth_mem h Arrow.zero)
  rw [marksL_get (by omega), marksL_get (by omega), Int.toNat_of_nonneg hu.1, Int.toNat_of_nonneg hu.2.2.1]
  exact ⟨rfl, rfl⟩
theorem starTo_tt {a : Nfa} {k : Nat} (h : k < a.edges.length) (k6 : ∀ x ∈ a.edges, 0 ≤ x.frm ∧ x.frm < a.states ∧ 0 ≤ x.to ∧ x.to < a.states)
    (h1 : nth (marksL a.starts a.states.toNat) (nth a.edges k Arrow.zero).frm.toNat false = true) (h2 : nth (marksL a.ends a.states.toNat) (nth a.edges k Arrow.zero).to.toNat false = true) :
    starTo a (k + 1) = starTo a k ++ [⟨a.states, (nth a.edges k Arrow.zero).to, (nth a.edges k Arrow.zero).set⟩] ++ [⟨(nth a.edges k Arrow.zero).frm, a.states, (nth a.edges k Arrow.zero).set⟩] ++ [⟨a.states, a.states, (nth a.edges k Arrow.zero).set⟩] := by
  rw [(starTo_step h k6).1] at h1
  rw [(starTo_step h k6).2] at h2
  rw [starTo_succ h, starOf, if_pos h1, if_pos h2, if_pos ⟨h1, h2⟩]; simp only [List.append_assoc]
theorem starTo_tf {a : Nfa} {k : Nat} (h : k < a.edges.length) (k6 : ∀ x ∈ a.edges, 0 ≤ x.frm ∧ x.frm < a.states ∧ 0 ≤ x.to ∧ x.to < a.states)
    (h1 : nth (marksL a.starts a.states.toNat) (nth a.edges k Arrow.zero).frm.toNat false = true) (h2 : nth (marksL a.ends a.states.toNat) (nth a.edges k Arrow.zero).to.toNat false = false) :
    starTo a (k + 1) = starTo a k ++ [⟨a.states, (nth a.edges k Arrow.zero).to, (nth a.edges k Arrow.zero).set⟩] := by
  rw [(starTo_step h k6).1] at h1
  rw [(starTo_step h k6).2, ← Bool.not_eq_true] at h2
  rw [starTo_succ h, starOf, if_pos h1, if_neg h2, if_neg (fun x => h2 x.2)]; rfl
theorem starTo_ft {a : Nfa} {k : Nat} (h : k < a.edges.length) (k6 : ∀ x ∈ a.edges, 0 ≤ x.frm ∧ x.frm < a.states ∧ 0 ≤ x.to ∧ x.to < a.states)
    (h1 : nth (marksL a.starts a.states.toNat) (nth a.edges k Arrow.zero).frm.toNat false = false) (h2 : nth (marksL a.ends a.states.toNat) (nth a.edges k Arrow.zero).to.toNat false = true) :
    starTo a (k + 1) = starTo a k ++ [⟨(nth a.edges k Arrow.zero).frm, a.states, (nth a.edges k Arrow.zero).set⟩] := by
  rw [(starTo_step h k6).1, ← Bool.not_eq_true] at h1
  rw [(starTo_step h k6).2] at h2
  rw [starTo_succ h, starOf, if_neg h1, if_pos h2, if_neg (fun x => h1 x.1)]; rfl
theorem starTo_ff {a : Nfa} {k : Nat} (h : k < a.edges.length) (k6 : ∀ x ∈ a.edges, 0 ≤ x.frm ∧ x.frm < a.states ∧ 0 ≤ x.to ∧ x.to < a.states)
    (h1 : nth (marksL a.starts a.states.toNat) (nth a.edges k Arrow.zero).frm.toNat false = false) (h2 : nth (marksL a.ends a.states.toNat) (nth a.edges k Arrow.zero).to.toNat false = false) :
    starTo a (k + 1) = starTo a k := by
  rw [(starTo_step h k6).1, ← Bool.not_eq_true] at h1
  rw [(starTo_step h k6).2, ← Bool.not_eq_true] at h2
  rw [starTo_succ h, starOf, if_neg h1, if_neg h2, if_neg (fun x => h1 x.1), List.append_nil, List.append_nil, List.append_nil]

def starE (a : Nfa) : List Arrow := starTo a a.edges.length
def starN (a : Nfa) : Nfa := ⟨a.states + 1, [a.states], [a.states], starE a⟩
def starF (a : Nfa) : Bool := fitB (a.states + 1) (starE a).length
def starR (a : Nfa) : Nfa := if checkB a = true then if starF a = true then starN a else Nfa.zero else Nfa.zero
def starX (a : Nfa) : Int := if checkB a = true then if starF a = true then 0 else 2 else 1

theorem star_con (σ : Store) (n : Nfa) (p : NfaP) (hn : RNfa σ n p) : Con Try.prog 31 #[nfaV n p] σ [] (NfaR (starR n) (starX n)) := by
  have hd := hn.d
  refine Con.mk (n := 105) Try.func31 rfl rfl rfl (fun w0 => ?_)
  refine TC.seq ?_
  refine TC.region ?_
  refine TL.op rfl (OpOk.boxA rfl rfl rfl rfl (fun b1 => ?_))
  refine TL.op rfl (OpOk.alloc rfl ze25 rfl rfl (fun b3 => ?_))
  refine TL.v rfl (OpVal.moveI (.inr rfl) rfl) rfl rfl ?_
  refine TL.nil ?_
  refine S.n ?_
  refine TC.seq ?_
  refine TC.seq ?_
  refine TC.region ?_
  refine TL.v rfl (OpVal.loadAll rfl ag25 sz25 rfl (i := 1) rfl rfl) rfl rfl ?_
  refine TL.op rfl (OpOk.callP (check_con _ _ _ hn) rfl rfl pf18 rfl rfl rfl ?_)
  refine TL.v rfl (OpVal.neq rfl rfl rfl) rfl rfl ?_
  refine TL.nil ?_
  refine S.n ?_
  refine TC.condD rfl (fun h5 => ?_) (fun h5 => ?_)
  · try simp only [decide_eq_true_eq, decide_eq_false_iff_not, Bool.not_eq_true', Bool.not_eq_false', Bool.not_eq_eq_eq_not, Bool.not_true, Bool.not_false, Int.not_lt, Int.not_le, Decidable.not_not] at h5
    refine TC.seq ?_
    refine TC.region ?_
    refine TL.v rfl (OpVal.buildL rfl pl25 ze25 rfl) rfl rfl ?_
    refine TL.op rfl (OpOk.storeAll rfl sz25 rfl rfl rfl rfl rfl rfl ?_)
    refine TL.v rfl (OpVal.moveI (.inr rfl) rfl) rfl rfl ?_
    refine TL.nil ?_
    refine S.n ?_
    refine TC.ret ?_
    refine S.r ?_
    -- leaf 1 ret [h5: True] H=['q4', 'q2']
    have hc := errB_no h5
    have hc : ¬ checkB n = true := by rw [hc]; exact Bool.false_ne_true
    simp only [starR, starX, if_neg hc]
    exact retNfa (p := NfaP.zero) 0 rfl ag25 sz25 rfl rfl rfl rfl (RNfa.zero _)
  · try simp only [decide_eq_true_eq, decide_eq_false_iff_not, Bool.not_eq_true', Bool.not_eq_false', Bool.not_eq_eq_eq_not, Bool.not_true, Bool.not_false, Int.not_lt, Int.not_le, Decidable.not_not] at h5
    refine TC.skip ?_
    refine S.n ?_
    refine TC.seq ?_
    have hc : checkB n = true := by first | exact errB_yes h2 | exact errB_yes h3 | exact errB_yes h5
    obtain ⟨k1, k2, k3, k4, k5, k6⟩ := checkB_spec hc
    have ms := marksL_len n.starts n.states.toNat
    have me := marksL_len n.ends n.states.toNat
    refine TC.region ?_
    refine TL.v rfl (OpVal.fieldLoc rfl fo25_1 rfl) rfl rfl ?_
    refine TL.v rfl (OpVal.loadLoc rfl ag22 rfl (i := 1) rfl rfl) rfl rfl ?_
    refine TL.v rfl (OpVal.fieldLoc rfl fo25_0 rfl) rfl rfl ?_
    refine TL.v rfl (OpVal.loadLoc rfl ag3 rfl (i := 1) rfl rfl) rfl rfl ?_
    refine TL.op rfl (OpOk.callR (marks_con _ _ _ _ _ (by first | exact hn.s | exact hn.e) k1 k2 (by first | exact k4 | exact k5)) rfl rfl pf60 rfl rfl rfl (fun a6 c7 => ?_))
    refine TL.v rfl (OpVal.moveSl (.inr rfl) rfl) rfl rfl ?_
    refine TL.nil ?_
    refine S.n ?_
    refine TC.seq ?_
    refine TC.region ?_
    refine TL.v rfl (OpVal.fieldLoc rfl fo25_2 rfl) rfl rfl ?_
    refine TL.v rfl (OpVal.loadLoc rfl ag22 rfl (i := 2) rfl rfl) rfl rfl ?_
    refine TL.v rfl (OpVal.fieldLoc rfl fo25_0 rfl) rfl rfl ?_
    refine TL.v rfl (OpVal.loadLoc rfl ag3 rfl (i := 2) rfl rfl) rfl rfl ?_
    refine TL.op rfl (OpOk.callR (marks_con _ _ _ _ _ (by first | exact hn.s | exact hn.e) k1 k2 (by first | exact k4 | exact k5)) rfl rfl pf60 rfl rfl rfl (fun a9 c10 => ?_))
    refine TL.v rfl (OpVal.moveSl (.inr rfl) rfl) rfl rfl ?_
    refine TL.nil ?_
    refine S.n ?_
    refine TC.seq ?_
    refine TC.region ?_
    refine TL.v rfl (OpVal.fieldLoc rfl fo25_0 rfl) rfl rfl ?_
    refine TL.v rfl (OpVal.loadLoc rfl ag3 rfl (i := 3) rfl rfl) rfl rfl ?_
    refine TL.v rfl (OpVal.moveI (.inr rfl) rfl) rfl rfl ?_
    refine TL.nil ?_
    refine S.n ?_
    refine TC.seq ?_
    refine TC.region ?_
    refine TL.v rfl (OpVal.fieldLoc rfl fo25_3 rfl) rfl rfl ?_
    refine TL.v rfl (OpVal.loadLoc rfl ag23 rfl (i := 3) rfl rfl) rfl rfl ?_
    refine TL.op rfl (OpOk.callR (clonee_con _ _ _ _ hn.d (by omega)) rfl rfl pf72 rfl rfl rfl (fun a12 c13 => ?_))
    refine TL.v rfl (OpVal.buildL rfl pl74 ze74 rfl) rfl rfl ?_
    refine TL.op rfl (OpOk.boxA rfl rfl rfl rfl (fun b15 => ?_))
    refine TL.v rfl (OpVal.moveLoc (.inr rfl) rfl) rfl rfl ?_
    refine TL.nil ?_
    refine S.n ?_
    refine TC.seq ?_
    refine TC.region ?_
    refine TL.v rfl (OpVal.moveLoc (.inl rfl) rfl) rfl rfl ?_
    refine TL.v rfl (OpVal.makeFn rfl) rfl rfl ?_
    refine TL.v rfl (OpVal.moveFn (.inr rfl) rfl) rfl rfl ?_
    refine TL.nil ?_
    refine S.n ?_
    refine TC.seq ?_
    refine TC.seq ?_
    refine TC.region ?_
    refine TL.v rfl (OpVal.fieldLoc rfl fo25_3 rfl) rfl rfl ?_
    refine TL.v rfl (OpVal.loadLoc rfl ag23 rfl (i := 5) rfl rfl) rfl rfl ?_
    refine TL.v rfl (OpVal.lenC rfl Try.underlying23 rfl) rfl rfl ?_
    refine TL.v rfl (OpVal.moveI (.inl rfl) rfl) rfl rfl ?_
    refine TL.nil ?_
    refine S.n ?_
    refine TC.block ?_
    refine TC.loopF (α := Nat × Option Addr × Nat) [10, 37, 38, 39, 40, 41, 42, 43, 44, 45, 46, 47, 48, 49, 50, 51, 52, 53, 54, 55, 56, 57, 58, 59, 60, 61, 62, 63, 64, 65, 66, 67, 68, 69, 70, 71, 72, 73, 74, 75, 76, 77, 78, 79, 80, 81, 82, 83] (fun g => [(37, .int .i64 (g.1 : Nat))]) (fun g => [Res.cells b15 #[.slice g.2.1 (starTo n g.1).length g.2.2] 74, Res.rowS 80 6 encE (.slice g.2.1 (starTo n g.1).length g.2.2) (starTo n g.1), Res.rowS 4 1 encB (.slice a9 (marksL n.ends n.states.toNat).length c10) (marksL n.ends n.states.toNat), Res.rowS 4 1 encB (.slice a6 (marksL n.starts n.states.toNat).length c7) (marksL n.starts n.states.toNat), Res.cells b3 (nfaA Nfa.zero NfaP.zero) 25, Res.cells b1 (nfaA n p) 25]) (fun _ => _) (fun g => g.1 ≤ n.edges.length) (fun g => n.edges.length - g.1) ((0, a12, c13)) (by first | exact True.intro | omega | (dsimp only; omega) | (simp; done) | (simp; omega)) (by repeat (first | exact trivial | refine ⟨rfl, ?_⟩)) (by simp only [starTo_zero]; rfl) (by rfl) (fun g1 j1 hg1 => ?_)
    obtain ⟨g1, ga, gc⟩ := g1
    dsimp only
    have hg1 : g1 ≤ n.edges.length := hg1
    have hu : g1 < n.edges.length → _ := fun h => k6 _ (nth_mem h Arrow.zero)
    have hl := starTo_len n g1 hg1
    refine TC.seq ?_
    refine TC.region ?_
    refine TL.v rfl (OpVal.lss rfl rfl rfl) rfl rfl ?_
    refine TL.nil ?_
    refine S.n ?_
    refine TC.seq ?_
    refine TC.condD rfl (fun h17 => ?_) (fun h17 => ?_)
    · try simp only [decide_eq_true_eq, decide_eq_false_iff_not, Bool.not_eq_true', Bool.not_eq_false', Bool.not_eq_eq_eq_not, Bool.not_true, Bool.not_false, Int.not_lt, Int.not_le, Decidable.not_not] at h17
      refine TC.skip ?_
      refine S.n ?_
      refine TC.seq ?_
      refine TC.block ?_
      refine TC.seq ?_
      refine TC.region ?_
      refine TL.v rfl (OpVal.indexN rfl Try.underlying23 sz80 rfl rfl (by first | assumption | exact (RS.rv (by assumption)).sl) (by omega)) rfl rfl ?_
      refine TL.v rfl (OpVal.loadSA Arrow.zero rfl ag80 sz80 rfl (by assumption) (by omega) (by omega)) rfl rfl ?_
      refine TL.op rfl (OpOk.alloc rfl ze80 rfl rfl (fun b18 => ?_))
      refine TL.op rfl (OpOk.storeAll rfl sz80 rfl rfl rfl rfl rfl rfl ?_)
      refine TL.nil ?_
      refine S.n ?_
      refine TC.seq ?_
      refine TC.seq ?_
      refine TC.region ?_
      refine TL.v rfl (OpVal.moveSl (.inl rfl) rfl) rfl rfl ?_
      refine TL.v rfl (OpVal.fieldLoc rfl fo80_0 rfl) rfl rfl ?_
      refine TL.v rfl (OpVal.loadLoc rfl ag3 rfl (i := 0) rfl rfl) rfl rfl ?_
      refine TL.isSl (i := 4) rfl (fun hs20 _ _ => ?_)
      refine TL.v rfl (OpVal.index rfl Try.underlying47 sz4 rfl rfl (by first | assumption | exact (RS.rv (by assumption)).sl) (by omega) (by omega)) rfl rfl ?_
      refine TL.v rfl (OpVal.loadO1 false rfl ag4 rfl (q := 4) rfl encB_len (by omega) rfl) rfl rfl ?_
      refine TL.nil ?_
      refine S.n ?_
      refine TC.cond rfl (fun h21 => ?_) (fun h21 => ?_)
      · try simp only [decide_eq_true_eq, decide_eq_false_iff_not, Bool.not_eq_true', Bool.not_eq_false', Bool.not_eq_eq_eq_not, Bool.not_true, Bool.not_false, Int.not_lt, Int.not_le, Decidable.not_not] at h21
        refine TC.region ?_
        refine TL.v rfl (OpVal.moveFn (.inl rfl) rfl) rfl rfl ?_
        refine TL.v rfl (OpVal.moveI (.inl rfl) rfl) rfl rfl ?_
        refine TL.v rfl (OpVal.fieldLoc rfl fo80_1 rfl) rfl rfl ?_
        refine TL.v rfl (OpVal.loadLoc rfl ag3 rfl (i := 0) rfl rfl) rfl rfl ?_
        refine TL.v rfl (OpVal.fieldLoc rfl fo80_2 rfl) rfl rfl ?_
        refine TL.v rfl (OpVal.loadLocA rfl ag28 sz28 rfl (i := 0) rfl rfl rfl) rfl rfl ?_
        refine TL.front 2 rfl rfl ?_
        refine TL.front 2 rfl rfl ?_
        refine TL.op rfl (OpOk.callE (edge_con _ _ _ _ _ _ _ (nth n.edges g1 Arrow.zero).set (by (try simp only [List.length_append, List.length_singleton, Nat.add_assoc]); omega)) rfl rfl pf52 rfl rfl rfl rfl (fun a22 c23 => ?_))
        refine TL.nil ?_
        refine S.n ?_
        refine TC.seq ?_
        refine TC.seq ?_
        refine TC.region ?_
        refine TL.v rfl (OpVal.moveSl (.inl rfl) rfl) rfl rfl ?_
        refine TL.v rfl (OpVal.fieldLoc rfl fo80_1 rfl) rfl rfl ?_
        refine TL.v rfl (OpVal.loadLoc rfl ag3 rfl (i := 2) rfl rfl) rfl rfl ?_
        refine TL.isSl (i := 3) rfl (fun hs24 _ _ => ?_)
        refine TL.v rfl (OpVal.index rfl Try.underlying47 sz4 rfl rfl (by first | assumption | exact (RS.rv (by assumption)).sl) (by omega) (by omega)) rfl rfl ?_
        refine TL.v rfl (OpVal.loadO1 false rfl ag4 rfl (q := 3) rfl encB_len (by omega) rfl) rfl rfl ?_
        refine TL.nil ?_
        refine S.n ?_
        refine TC.cond rfl (fun h25 => ?_) (fun h25 => ?_)
        · try simp only [decide_eq_true_eq, decide_eq_false_iff_not, Bool.not_eq_true', Bool.not_eq_false', Bool.not_eq_eq_eq_not, Bool.not_true, Bool.not_false, Int.not_lt, Int.not_le, Decidable.not_not] at h25
          refine TC.region ?_
          refine TL.v rfl (OpVal.moveFn (.inl rfl) rfl) rfl rfl ?_
          refine TL.v rfl (OpVal.fieldLoc rfl fo80_0 rfl) rfl rfl ?_
          refine TL.v rfl (OpVal.loadLoc rfl ag3 rfl (i := 2) rfl rfl) rfl rfl ?_
          refine TL.v rfl (OpVal.moveI (.inl rfl) rfl) rfl rfl ?_
          refine TL.v rfl (OpVal.fieldLoc rfl fo80_2 rfl) rfl rfl ?_
          refine TL.v rfl (OpVal.loadLocA rfl ag28 sz28 rfl (i := 2) rfl rfl rfl) rfl rfl ?_
          refine TL.front 1 rfl rfl ?_
          refine TL.front 1 rfl rfl ?_
          refine TL.op rfl (OpOk.callE (edge_con _ _ _ _ _ _ _ (nth n.edges g1 Arrow.zero).set (by (try simp only [List.length_append, List.length_singleton, Nat.add_assoc]); omega)) rfl rfl pf52 rfl rfl rfl rfl (fun a26 c27 => ?_))
          refine TL.nil ?_
          refine S.n ?_
          refine TC.seq ?_
          refine TC.region ?_
          refine TL.v rfl (OpVal.moveSl (.inl rfl) rfl) rfl rfl ?_
          refine TL.v rfl (OpVal.fieldLoc rfl fo80_0 rfl) rfl rfl ?_
          refine TL.v rfl (OpVal.loadLoc rfl ag3 rfl (i := 2) rfl rfl) rfl rfl ?_
          refine TL.isSl (i := 4) rfl (fun hs28 _ _ => ?_)
          refine TL.v rfl (OpVal.index rfl Try.underlying47 sz4 rfl rfl (by first | assumption | exact (RS.rv (by assumption)).sl) (by omega) (by omega)) rfl rfl ?_
          refine TL.v rfl (OpVal.loadO1 false rfl ag4 rfl (q := 4) rfl encB_len (by omega) rfl) rfl rfl ?_
          refine TL.v rfl (OpVal.moveB (.inl rfl) rfl) rfl rfl ?_
          refine TL.split 70 rfl (fun h29 => ?_) (fun h29 => ?_)
          · try simp only [decide_eq_true_eq, decide_eq_false_iff_not, Bool.not_eq_true', Bool.not_eq_false', Bool.not_eq_eq_eq_not, Bool.not_true, Bool.not_false, Int.not_lt, Int.not_le, Decidable.not_not] at h29
            refine TL.gv rfl rfl rfl rfl rfl (OpVal.moveSl (.inl rfl) rfl) rfl rfl ?_
            refine TL.gv rfl rfl rfl rfl rfl (OpVal.fieldLoc rfl fo80_1 rfl) rfl rfl ?_
            refine TL.gv rfl rfl rfl rfl rfl (OpVal.loadLoc rfl ag3 rfl (i := 2) rfl rfl) rfl rfl ?_
            refine TL.isSl (i := 3) rfl (fun hs30 _ _ => ?_)
            refine TL.gv rfl rfl rfl rfl rfl (OpVal.index rfl Try.underlying47 sz4 rfl rfl (by first | assumption | exact (RS.rv (by assumption)).sl) (by omega) (by omega)) rfl rfl ?_
            refine TL.gv rfl rfl rfl rfl rfl (OpVal.loadO1 false rfl ag4 rfl (q := 3) rfl encB_len (by omega) rfl) rfl rfl ?_
            refine TL.v rfl (OpVal.pickTB rfl rfl rfl) rfl rfl ?_
            refine TL.nil ?_
            refine S.n ?_
            refine TC.cond rfl (fun h31 => ?_) (fun h31 => ?_)
            · try simp only [decide_eq_true_eq, decide_eq_false_iff_not, Bool.not_eq_true', Bool.not_eq_false', Bool.not_eq_eq_eq_not, Bool.not_true, Bool.not_false, Int.not_lt, Int.not_le, Decidable.not_not] at h31
              refine TC.region ?_
              refine TL.v rfl (OpVal.moveFn (.inl rfl) rfl) rfl rfl ?_
              refine TL.v rfl (OpVal.moveI (.inl rfl) rfl) rfl rfl ?_
              refine TL.v rfl (OpVal.moveI (.inl rfl) rfl) rfl rfl ?_
              refine TL.v rfl (OpVal.fieldLoc rfl fo80_2 rfl) rfl rfl ?_
              refine TL.v rfl (OpVal.loadLocA rfl ag28 sz28 rfl (i := 2) rfl rfl rfl) rfl rfl ?_
              refine TL.front 1 rfl rfl ?_
              refine TL.front 1 rfl rfl ?_
              refine TL.op rfl (OpOk.callE (edge_con _ _ _ _ _ _ _ (nth n.edges g1 Arrow.zero).set (by (try simp only [List.length_append, List.length_singleton, Nat.add_assoc]); omega)) rfl rfl pf52 rfl rfl rfl rfl (fun a32 c33 => ?_))
              refine TL.nil ?_
              refine B.n ?_
              refine S.n ?_
              refine TC.region ?_
              refine TL.v rfl (OpVal.succ rfl rfl rfl (by omega)) rfl rfl ?_
              refine TL.v rfl (OpVal.moveI (.inl rfl) rfl) rfl rfl ?_
              refine TL.front 6 rfl rfl ?_
              refine TL.front 6 rfl rfl ?_
              refine TL.front 6 rfl rfl ?_
              refine TL.front 6 rfl rfl ?_
              refine TL.front 5 rfl rfl ?_
              refine TL.front 5 rfl rfl ?_
              refine TL.takeN 6 rfl ?_
              refine TL.nil ?_
              refine S.n ?_
              -- leaf 2 next [h5: False; h17: True; h21: True; h25: True; h29: t70=True; h31: True] H=['q16', 'q14', 'q11', 'q8', 'q4', 'q2']
              refine ⟨by repeat (first | exact Agr.mask | refine Agr.upd rfl ?_ | refine Agr.maskIn rfl ?_), (g1 + 1, a32, c33), ?_, ?_, ?_, ?_, ?_⟩
              · show n.edges.length - (g1 + 1) < n.edges.length - g1; omega
              · show g1 + 1 ≤ n.edges.length; omega
              · repeat (first | exact trivial | refine ⟨rfl, ?_⟩)
              · show _ = [Res.cells _ #[.slice _ (starTo n (g1 + 1)).length _] _, Res.rowS _ _ _ (.slice _ (starTo n (g1 + 1)).length _) (starTo n (g1 + 1)), _, _, _, _]
                rw [starTo_tt (by omega) k6 h21 h25]; rfl
              · rfl
            · try simp only [decide_eq_true_eq, decide_eq_false_iff_not, Bool.not_eq_true', Bool.not_eq_false', Bool.not_eq_eq_eq_not, Bool.not_true, Bool.not_false, Int.not_lt, Int.not_le, Decidable.not_not] at h31
              refine TC.skip ?_
              refine B.n ?_
              refine S.n ?_
              refine TC.region ?_
              refine TL.v rfl (OpVal.succ rfl rfl rfl (by omega)) rfl rfl ?_
              refine TL.v rfl (OpVal.moveI (.inl rfl) rfl) rfl rfl ?_
              refine TL.front 6 rfl rfl ?_
              refine TL.front 6 rfl rfl ?_
              refine TL.front 6 rfl rfl ?_
              refine TL.front 6 rfl rfl ?_
              refine TL.front 5 rfl rfl ?_
              refine TL.front 5 rfl rfl ?_
              refine TL.takeN 6 rfl ?_
              refine TL.nil ?_
              refine S.n ?_
              -- leaf 3 next [h5: False; h17: True; h21: True; h25: True; h29: t70=True; h31: False] H=['q16', 'q14', 'q11', 'q8', 'q4', 'q2']
              exact absurd (h31.symm.trans h25) Bool.false_ne_true
          · try simp only [decide_eq_true_eq, decide_eq_false_iff_not, Bool.not_eq_true', Bool.not_eq_false', Bool.not_eq_eq_eq_not, Bool.not_true, Bool.not_false, Int.not_lt, Int.not_le, Decidable.not_not] at h29
            refine TL.goff rfl rfl rfl rfl rfl rfl rfl rfl ?_
            refine TL.goff rfl rfl rfl rfl rfl rfl rfl rfl ?_
            refine TL.goff rfl rfl rfl rfl rfl rfl rfl rfl ?_
            refine TL.goff rfl rfl rfl rfl rfl rfl rfl rfl ?_
            refine TL.goff rfl rfl rfl rfl rfl rfl rfl rfl ?_
            refine TL.v rfl (OpVal.pickFB rfl rfl rfl) rfl rfl ?_
            refine TL.nil ?_
            refine S.n ?_
            refine TC.cond rfl (fun h => Bool.noConfusion h) (fun _ => ?_)
            refine TC.skip ?_
            refine B.n ?_
            refine S.n ?_
            refine TC.region ?_
            refine TL.v rfl (OpVal.succ rfl rfl rfl (by omega)) rfl rfl ?_
            refine TL.v rfl (OpVal.moveI (.inl rfl) rfl) rfl rfl ?_
            refine TL.front 6 rfl rfl ?_
            refine TL.front 6 rfl rfl ?_
            refine TL.front 6 rfl rfl ?_
            refine TL.front 6 rfl rfl ?_
            refine TL.front 5 rfl rfl ?_
            refine TL.front 5 rfl rfl ?_
            refine TL.takeN 6 rfl ?_
            refine TL.nil ?_
            refine S.n ?_
            -- leaf 4 next [h5: False; h17: True; h21: True; h25: True; h29: t70=False] H=['q16', 'q14', 'q11', 'q8', 'q4', 'q2']
            exact absurd (h29.symm.trans h21) Bool.false_ne_true
        · try simp only [decide_eq_true_eq, decide_eq_false_iff_not, Bool.not_eq_true', Bool.not_eq_false', Bool.not_eq_eq_eq_not, Bool.not_true, Bool.not_false, Int.not_lt, Int.not_le, Decidable.not_not] at h25
          refine TC.skip ?_
          refine S.n ?_
          refine TC.seq ?_
          refine TC.region ?_
          refine TL.v rfl (OpVal.moveSl (.inl rfl) rfl) rfl rfl ?_
          refine TL.v rfl (OpVal.fieldLoc rfl fo80_0 rfl) rfl rfl ?_
          refine TL.v rfl (OpVal.loadLoc rfl ag3 rfl (i := 2) rfl rfl) rfl rfl ?_
          refine TL.isSl (i := 4) rfl (fun hs34 _ _ => ?_)
          refine TL.v rfl (OpVal.index rfl Try.underlying47 sz4 rfl rfl (by first | assumption | exact (RS.rv (by assumption)).sl) (by omega) (by omega)) rfl rfl ?_
          refine TL.v rfl (OpVal.loadO1 false rfl ag4 rfl (q := 4) rfl encB_len (by omega) rfl) rfl rfl ?_
          refine TL.v rfl (OpVal.moveB (.inl rfl) rfl) rfl rfl ?_
          refine TL.split 70 rfl (fun h35 => ?_) (fun h35 => ?_)
          · try simp only [decide_eq_true_eq, decide_eq_false_iff_not, Bool.not_eq_true', Bool.not_eq_false', Bool.not_eq_eq_eq_not, Bool.not_true, Bool.not_false, Int.not_lt, Int.not_le, Decidable.not_not] at h35
            refine TL.gv rfl rfl rfl rfl rfl (OpVal.moveSl (.inl rfl) rfl) rfl rfl ?_
            refine TL.gv rfl rfl rfl rfl rfl (OpVal.fieldLoc rfl fo80_1 rfl) rfl rfl ?_
            refine TL.gv rfl rfl rfl rfl rfl (OpVal.loadLoc rfl ag3 rfl (i := 2) rfl rfl) rfl rfl ?_
            refine TL.isSl (i := 3) rfl (fun hs36 _ _ => ?_)
            refine TL.gv rfl rfl rfl rfl rfl (OpVal.index rfl Try.underlying47 sz4 rfl rfl (by first | assumption | exact (RS.rv (by assumption)).sl) (by omega) (by omega)) rfl rfl ?_
            refine TL.gv rfl rfl rfl rfl rfl (OpVal.loadO1 false rfl ag4 rfl (q := 3) rfl encB_len (by omega) rfl) rfl rfl ?_
            refine TL.v rfl (OpVal.pickTB rfl rfl rfl) rfl rfl ?_
            refine TL.nil ?_
            refine S.n ?_
            refine TC.cond rfl (fun h37 => ?_) (fun h37 => ?_)
            · try simp only [decide_eq_true_eq, decide_eq_false_iff_not, Bool.not_eq_true', Bool.not_eq_false', Bool.not_eq_eq_eq_not, Bool.not_true, Bool.not_false, Int.not_lt, Int.not_le, Decidable.not_not] at h37
              refine TC.region ?_
              refine TL.v rfl (OpVal.moveFn (.inl rfl) rfl) rfl rfl ?_
              refine TL.v rfl (OpVal.moveI (.inl rfl) rfl) rfl rfl ?_
              refine TL.v rfl (OpVal.moveI (.inl rfl) rfl) rfl rfl ?_
              refine TL.v rfl (OpVal.fieldLoc rfl fo80_2 rfl) rfl rfl ?_
              refine TL.v rfl (OpVal.loadLocA rfl ag28 sz28 rfl (i := 2) rfl rfl rfl) rfl rfl ?_
              refine TL.front 1 rfl rfl ?_
              refine TL.front 1 rfl rfl ?_
              refine TL.op rfl (OpOk.callE (edge_con _ _ _ _ _ _ _ (nth n.edges g1 Arrow.zero).set (by (try simp only [List.length_append, List.length_singleton, Nat.add_assoc]); omega)) rfl rfl pf52 rfl rfl rfl rfl (fun a38 c39 => ?_))
              refine TL.nil ?_
              refine B.n ?_
              refine S.n ?_
              refine TC.region ?_
              refine TL.v rfl (OpVal.succ rfl rfl rfl (by omega)) rfl rfl ?_
              refine TL.v rfl (OpVal.moveI (.inl rfl) rfl) rfl rfl ?_
              refine TL.front 6 rfl rfl ?_
              refine TL.front 6 rfl rfl ?_
              refine TL.front 6 rfl rfl ?_
              refine TL.front 6 rfl rfl ?_
              refine TL.front 5 rfl rfl ?_
              refine TL.front 5 rfl rfl ?_
              refine TL.takeN 6 rfl ?_
              refine TL.nil ?_
              refine S.n ?_
              -- leaf 5 next [h5: False; h17: True; h21: True; h25: False; h35: t70=True; h37: True] H=['q16', 'q14', 'q11', 'q8', 'q4', 'q2']
              exact absurd (h25.symm.trans h37) Bool.false_ne_true
            · try simp only [decide_eq_true_eq, decide_eq_false_iff_not, Bool.not_eq_true', Bool.not_eq_false', Bool.not_eq_eq_eq_not, Bool.not_true, Bool.not_false, Int.not_lt, Int.not_le, Decidable.not_not] at h37
              refine TC.skip ?_
              refine B.n ?_
              refine S.n ?_
              refine TC.region ?_
              refine TL.v rfl (OpVal.succ rfl rfl rfl (by omega)) rfl rfl ?_
              refine TL.v rfl (OpVal.moveI (.inl rfl) rfl) rfl rfl ?_
              refine TL.front 6 rfl rfl ?_
              refine TL.front 6 rfl rfl ?_
              refine TL.front 6 rfl rfl ?_
              refine TL.front 6 rfl rfl ?_
              refine TL.front 5 rfl rfl ?_
              refine TL.front 5 rfl rfl ?_
              refine TL.takeN 6 rfl ?_
              refine TL.nil ?_
              refine S.n ?_
              -- leaf 6 next [h5: False; h17: True; h21: True; h25: False; h35: t70=True; h37: False] H=['q16', 'q14', 'q11', 'q8', 'q4', 'q2']
              refine ⟨by repeat (first | exact Agr.mask | refine Agr.upd rfl ?_ | refine Agr.maskIn rfl ?_), (g1 + 1, a22, c23), ?_, ?_, ?_, ?_, ?_⟩
              · show n.edges.length - (g1 + 1) < n.edges.length - g1; omega
              · show g1 + 1 ≤ n.edges.length; omega
              · repeat (first | exact trivial | refine ⟨rfl, ?_⟩)
              · show _ = [Res.cells _ #[.slice _ (starTo n (g1 + 1)).length _] _, Res.rowS _ _ _ (.slice _ (starTo n (g1 + 1)).length _) (starTo n (g1 + 1)), _, _, _, _]
                rw [starTo_tf (by omega) k6 h21 h25]; rfl
              · rfl
          · try simp only [decide_eq_true_eq, decide_eq_false_iff_not, Bool.not_eq_true', Bool.not_eq_false', Bool.not_eq_eq_eq_not, Bool.not_true, Bool.not_false, Int.not_lt, Int.not_le, Decidable.not_not] at h35
            refine TL.goff rfl rfl rfl rfl rfl rfl rfl rfl ?_
            refine TL.goff rfl rfl rfl rfl rfl rfl rfl rfl ?_
            refine TL.goff rfl rfl rfl rfl rfl rfl rfl rfl ?_
            refine TL.goff rfl rfl rfl rfl rfl rfl rfl rfl ?_
            refine TL.goff rfl rfl rfl rfl rfl rfl rfl rfl ?_
            refine TL.v rfl (OpVal.pickFB rfl rfl rfl) rfl rfl ?_
            refine TL.nil ?_
            refine S.n ?_
            refine TC.cond rfl (fun h => Bool.noConfusion h) (fun _ => ?_)
            refine TC.skip ?_
            refine B.n ?_
            refine S.n ?_
            refine TC.region ?_
            refine TL.v rfl (OpVal.succ rfl rfl rfl (by omega)) rfl rfl ?_
            refine TL.v rfl (OpVal.moveI (.inl rfl) rfl) rfl rfl ?_
            refine TL.front 6 rfl rfl ?_
            refine TL.front 6 rfl rfl ?_
            refine TL.front 6 rfl rfl ?_
            refine TL.front 6 rfl rfl ?_
            refine TL.front 5 rfl rfl ?_
            refine TL.front 5 rfl rfl ?_
            refine TL.takeN 6 rfl ?_
            refine TL.nil ?_
            refine S.n ?_
            -- leaf 7 next [h5: False; h17: True; h21: True; h25: False; h35: t70=False] H=['q16', 'q14', 'q11', 'q8', 'q4', 'q2']
            exact absurd (h35.symm.trans h21) Bool.false_ne_true
      · try simp only [decide_eq_true_eq, decide_eq_false_iff_not, Bool.not_eq_true', Bool.not_eq_false', Bool.not_eq_eq_eq_not, Bool.not_true, Bool.not_false, Int.not_lt, Int.not_le, Decidable.not_not] at h21
        refine TC.skip ?_
        refine S.n ?_
        refine TC.seq ?_
        refine TC.seq ?_
        refine TC.region ?_
        refine TL.v rfl (OpVal.moveSl (.inl rfl) rfl) rfl rfl ?_
        refine TL.v rfl (OpVal.fieldLoc rfl fo80_1 rfl) rfl rfl ?_
        refine TL.v rfl (OpVal.loadLoc rfl ag3 rfl (i := 0) rfl rfl) rfl rfl ?_
        refine TL.isSl (i := 3) rfl (fun hs40 _ _ => ?_)
        refine TL.v rfl (OpVal.index rfl Try.underlying47 sz4 rfl rfl (by first | assumption | exact (RS.rv (by assumption)).sl) (by omega) (by omega)) rfl rfl ?_
        refine TL.v rfl (OpVal.loadO1 false rfl ag4 rfl (q := 3) rfl encB_len (by omega) rfl) rfl rfl ?_
        refine TL.nil ?_
        refine S.n ?_
        refine TC.cond rfl (fun h41 => ?_) (fun h41 => ?_)
        · try simp only [decide_eq_true_eq, decide_eq_false_iff_not, Bool.not_eq_true', Bool.not_eq_false', Bool.not_eq_eq_eq_not, Bool.not_true, Bool.not_false, Int.not_lt, Int.not_le, Decidable.not_not] at h41
          refine TC.region ?_
          refine TL.v rfl (OpVal.moveFn (.inl rfl) rfl) rfl rfl ?_
          refine TL.v rfl (OpVal.fieldLoc rfl fo80_0 rfl) rfl rfl ?_
          refine TL.v rfl (OpVal.loadLoc rfl ag3 rfl (i := 0) rfl rfl) rfl rfl ?_
          refine TL.v rfl (OpVal.moveI (.inl rfl) rfl) rfl rfl ?_
          refine TL.v rfl (OpVal.fieldLoc rfl fo80_2 rfl) rfl rfl ?_
          refine TL.v rfl (OpVal.loadLocA rfl ag28 sz28 rfl (i := 0) rfl rfl rfl) rfl rfl ?_
          refine TL.front 2 rfl rfl ?_
          refine TL.front 2 rfl rfl ?_
          refine TL.op rfl (OpOk.callE (edge_con _ _ _ _ _ _ _ (nth n.edges g1 Arrow.zero).set (by (try simp only [List.length_append, List.length_singleton, Nat.add_assoc]); omega)) rfl rfl pf52 rfl rfl rfl rfl (fun a42 c43 => ?_))
          refine TL.nil ?_
          refine S.n ?_
          refine TC.seq ?_
          refine TC.region ?_
          refine TL.v rfl (OpVal.moveSl (.inl rfl) rfl) rfl rfl ?_
          refine TL.v rfl (OpVal.fieldLoc rfl fo80_0 rfl) rfl rfl ?_
          refine TL.v rfl (OpVal.loadLoc rfl ag3 rfl (i := 2) rfl rfl) rfl rfl ?_
          refine TL.isSl (i := 4) rfl (fun hs44 _ _ => ?_)
          refine TL.v rfl (OpVal.index rfl Try.underlying47 sz4 rfl rfl (by first | assumption | exact (RS.rv (by assumption)).sl) (by omega) (by omega)) rfl rfl ?_
          refine TL.v rfl (OpVal.loadO1 false rfl ag4 rfl (q := 4) rfl encB_len (by omega) rfl) rfl rfl ?_
          refine TL.v rfl (OpVal.moveB (.inl rfl) rfl) rfl rfl ?_
          refine TL.split 70 rfl (fun h45 => ?_) (fun h45 => ?_)
          · try simp only [decide_eq_true_eq, decide_eq_false_iff_not, Bool.not_eq_true', Bool.not_eq_false', Bool.not_eq_eq_eq_not, Bool.not_true, Bool.not_false, Int.not_lt, Int.not_le, Decidable.not_not] at h45
            refine TL.gv rfl rfl rfl rfl rfl (OpVal.moveSl (.inl rfl) rfl) rfl rfl ?_
            refine TL.gv rfl rfl rfl rfl rfl (OpVal.fieldLoc rfl fo80_1 rfl) rfl rfl ?_
            refine TL.gv rfl rfl rfl rfl rfl (OpVal.loadLoc rfl ag3 rfl (i := 2) rfl rfl) rfl rfl ?_
            refine TL.isSl (i := 3) rfl (fun hs46 _ _ => ?_)
            refine TL.gv rfl rfl rfl rfl rfl (OpVal.index rfl Try.underlying47 sz4 rfl rfl (by first | assumption | exact (RS.rv (by assumption)).sl) (by omega) (by omega)) rfl rfl ?_
            refine TL.gv rfl rfl rfl rfl rfl (OpVal.loadO1 false rfl ag4 rfl (q := 3) rfl encB_len (by omega) rfl) rfl rfl ?_
            refine TL.v rfl (OpVal.pickTB rfl rfl rfl) rfl rfl ?_
            refine TL.nil ?_
            refine S.n ?_
            refine TC.cond rfl (fun h47 => ?_) (fun h47 => ?_)
            · try simp only [decide_eq_true_eq, decide_eq_false_iff_not, Bool.not_eq_true', Bool.not_eq_false', Bool.not_eq_eq_eq_not, Bool.not_true, Bool.not_false, Int.not_lt, Int.not_le, Decidable.not_not] at h47
              refine TC.region ?_
              refine TL.v rfl (OpVal.moveFn (.inl rfl) rfl) rfl rfl ?_
              refine TL.v rfl (OpVal.moveI (.inl rfl) rfl) rfl rfl ?_
              refine TL.v rfl (OpVal.moveI (.inl rfl) rfl) rfl rfl ?_
              refine TL.v rfl (OpVal.fieldLoc rfl fo80_2 rfl) rfl rfl ?_
              refine TL.v rfl (OpVal.loadLocA rfl ag28 sz28 rfl (i := 2) rfl rfl rfl) rfl rfl ?_
              refine TL.front 1 rfl rfl ?_
              refine TL.front 1 rfl rfl ?_
              refine TL.op rfl (OpOk.callE (edge_con _ _ _ _ _ _ _ (nth n.edges g1 Arrow.zero).set (by (try simp only [List.length_append, List.length_singleton, Nat.add_assoc]); omega)) rfl rfl pf52 rfl rfl rfl rfl (fun a48 c49 => ?_))
              refine TL.nil ?_
              refine B.n ?_
              refine S.n ?_
              refine TC.region ?_
              refine TL.v rfl (OpVal.succ rfl rfl rfl (by omega)) rfl rfl ?_
              refine TL.v rfl (OpVal.moveI (.inl rfl) rfl) rfl rfl ?_
              refine TL.front 6 rfl rfl ?_
              refine TL.front 6 rfl rfl ?_
              refine TL.front 6 rfl rfl ?_
              refine TL.front 6 rfl rfl ?_
              refine TL.front 5 rfl rfl ?_
              refine TL.front 5 rfl rfl ?_
              refine TL.takeN 6 rfl ?_
              refine TL.nil ?_
              refine S.n ?_
              -- leaf 8 next [h5: False; h17: True; h21: False; h41: True; h45: t70=True; h47: True] H=['q16', 'q14', 'q11', 'q8', 'q4', 'q2']
              exact absurd (h21.symm.trans h45) Bool.false_ne_true
            · try simp only [decide_eq_true_eq, decide_eq_false_iff_not, Bool.not_eq_true', Bool.not_eq_false', Bool.not_eq_eq_eq_not, Bool.not_true, Bool.not_false, Int.not_lt, Int.not_le, Decidable.not_not] at h47
              refine TC.skip ?_
              refine B.n ?_
              refine S.n ?_
              refine TC.region ?_
              refine TL.v rfl (OpVal.succ rfl rfl rfl (by omega)) rfl rfl ?_
              refine TL.v rfl (OpVal.moveI (.inl rfl) rfl) rfl rfl ?_
              refine TL.front 6 rfl rfl ?_
              refine TL.front 6 rfl rfl ?_
              refine TL.front 6 rfl rfl ?_
              refine TL.front 6 rfl rfl ?_
              refine TL.front 5 rfl rfl ?_
              refine TL.front 5 rfl rfl ?_
              refine TL.takeN 6 rfl ?_
              refine TL.nil ?_
              refine S.n ?_
              -- leaf 9 next [h5: False; h17: True; h21: False; h41: True; h45: t70=True; h47: False] H=['q16', 'q14', 'q11', 'q8', 'q4', 'q2']
              exact absurd (h21.symm.trans h45) Bool.false_ne_true
          · try simp only [decide_eq_true_eq, decide_eq_false_iff_not, Bool.not_eq_true', Bool.not_eq_false', Bool.not_eq_eq_eq_not, Bool.not_true, Bool.not_false, Int.not_lt, Int.not_le, Decidable.not_not] at h45
            refine TL.goff rfl rfl rfl rfl rfl rfl rfl rfl ?_
            refine TL.goff rfl rfl rfl rfl rfl rfl rfl rfl ?_
            refine TL.goff rfl rfl rfl rfl rfl rfl rfl rfl ?_
            refine TL.goff rfl rfl rfl rfl rfl rfl rfl rfl ?_
            refine TL.goff rfl rfl rfl rfl rfl rfl rfl rfl ?_
            refine TL.v rfl (OpVal.pickFB rfl rfl rfl) rfl rfl ?_
            refine TL.nil ?_
            refine S.n ?_
            refine TC.cond rfl (fun h => Bool.noConfusion h) (fun _ => ?_)
            refine TC.skip ?_
            refine B.n ?_
            refine S.n ?_
            refine TC.region ?_
            refine TL.v rfl (OpVal.succ rfl rfl rfl (by omega)) rfl rfl ?_
            refine TL.v rfl (OpVal.moveI (.inl rfl) rfl) rfl rfl ?_
            refine TL.front 6 rfl rfl ?_
            refine TL.front 6 rfl rfl ?_
            refine TL.front 6 rfl rfl ?_
            refine TL.front 6 rfl rfl ?_
            refine TL.front 5 rfl rfl ?_
            refine TL.front 5 rfl rfl ?_
            refine TL.takeN 6 rfl ?_
            refine TL.nil ?_
            refine S.n ?_
            -- leaf 10 next [h5: False; h17: True; h21: False; h41: True; h45: t70=False] H=['q16', 'q14', 'q11', 'q8', 'q4', 'q2']
            refine ⟨by repeat (first | exact Agr.mask | refine Agr.upd rfl ?_ | refine Agr.maskIn rfl ?_), (g1 + 1, a42, c43), ?_, ?_, ?_, ?_, ?_⟩
            · show n.edges.length - (g1 + 1) < n.edges.length - g1; omega
            · show g1 + 1 ≤ n.edges.length; omega
            · repeat (first | exact trivial | refine ⟨rfl, ?_⟩)
            · show _ = [Res.cells _ #[.slice _ (starTo n (g1 + 1)).length _] _, Res.rowS _ _ _ (.slice _ (starTo n (g1 + 1)).length _) (starTo n (g1 + 1)), _, _, _, _]
              rw [starTo_ft (by omega) k6 h21 h41]; rfl
            · rfl
        · try simp only [decide_eq_true_eq, decide_eq_false_iff_not, Bool.not_eq_true', Bool.not_eq_false', Bool.not_eq_eq_eq_not, Bool.not_true, Bool.not_false, Int.not_lt, Int.not_le, Decidable.not_not] at h41
          refine TC.skip ?_
          refine S.n ?_
          refine TC.seq ?_
          refine TC.region ?_
          refine TL.v rfl (OpVal.moveSl (.inl rfl) rfl) rfl rfl ?_
          refine TL.v rfl (OpVal.fieldLoc rfl fo80_0 rfl) rfl rfl ?_
          refine TL.v rfl (OpVal.loadLoc rfl ag3 rfl (i := 0) rfl rfl) rfl rfl ?_
          refine TL.isSl (i := 4) rfl (fun hs50 _ _ => ?_)
          refine TL.v rfl (OpVal.index rfl Try.underlying47 sz4 rfl rfl (by first | assumption | exact (RS.rv (by assumption)).sl) (by omega) (by omega)) rfl rfl ?_
          refine TL.v rfl (OpVal.loadO1 false rfl ag4 rfl (q := 4) rfl encB_len (by omega) rfl) rfl rfl ?_
          refine TL.v rfl (OpVal.moveB (.inl rfl) rfl) rfl rfl ?_
          refine TL.split 70 rfl (fun h51 => ?_) (fun h51 => ?_)
          · try simp only [decide_eq_true_eq, decide_eq_false_iff_not, Bool.not_eq_true', Bool.not_eq_false', Bool.not_eq_eq_eq_not, Bool.not_true, Bool.not_false, Int.not_lt, Int.not_le, Decidable.not_not] at h51
            refine TL.gv rfl rfl rfl rfl rfl (OpVal.moveSl (.inl rfl) rfl) rfl rfl ?_
            refine TL.gv rfl rfl rfl rfl rfl (OpVal.fieldLoc rfl fo80_1 rfl) rfl rfl ?_
            refine TL.gv rfl rfl rfl rfl rfl (OpVal.loadLoc rfl ag3 rfl (i := 0) rfl rfl) rfl rfl ?_
            refine TL.isSl (i := 3) rfl (fun hs52 _ _ => ?_)
            refine TL.gv rfl rfl rfl rfl rfl (OpVal.index rfl Try.underlying47 sz4 rfl rfl (by first | assumption | exact (RS.rv (by assumption)).sl) (by omega) (by omega)) rfl rfl ?_
            refine TL.gv rfl rfl rfl rfl rfl (OpVal.loadO1 false rfl ag4 rfl (q := 3) rfl encB_len (by omega) rfl) rfl rfl ?_
            refine TL.v rfl (OpVal.pickTB rfl rfl rfl) rfl rfl ?_
            refine TL.nil ?_
            refine S.n ?_
            refine TC.cond rfl (fun h53 => ?_) (fun h53 => ?_)
            · try simp only [decide_eq_true_eq, decide_eq_false_iff_not, Bool.not_eq_true', Bool.not_eq_false', Bool.not_eq_eq_eq_not, Bool.not_true, Bool.not_false, Int.not_lt, Int.not_le, Decidable.not_not] at h53
              refine TC.region ?_
              refine TL.v rfl (OpVal.moveFn (.inl rfl) rfl) rfl rfl ?_
              refine TL.v rfl (OpVal.moveI (.inl rfl) rfl) rfl rfl ?_
              refine TL.v rfl (OpVal.moveI (.inl rfl) rfl) rfl rfl ?_
              refine TL.v rfl (OpVal.fieldLoc rfl fo80_2 rfl) rfl rfl ?_
              refine TL.v rfl (OpVal.loadLocA rfl ag28 sz28 rfl (i := 0) rfl rfl rfl) rfl rfl ?_
              refine TL.front 2 rfl rfl ?_
              refine TL.front 2 rfl rfl ?_
              refine TL.op rfl (OpOk.callE (edge_con _ _ _ _ _ _ _ (nth n.edges g1 Arrow.zero).set (by (try simp only [List.length_append, List.length_singleton, Nat.add_assoc]); omega)) rfl rfl pf52 rfl rfl rfl rfl (fun a54 c55 => ?_))
              refine TL.nil ?_
              refine B.n ?_
              refine S.n ?_
              refine TC.region ?_
              refine TL.v rfl (OpVal.succ rfl rfl rfl (by omega)) rfl rfl ?_
              refine TL.v rfl (OpVal.moveI (.inl rfl) rfl) rfl rfl ?_
              refine TL.front 6 rfl rfl ?_
              refine TL.front 6 rfl rfl ?_
              refine TL.front 6 rfl rfl ?_
              refine TL.front 6 rfl rfl ?_
              refine TL.front 5 rfl rfl ?_
              refine TL.front 5 rfl rfl ?_
              refine TL.takeN 6 rfl ?_
              refine TL.nil ?_
              refine S.n ?_
              -- leaf 11 next [h5: False; h17: True; h21: False; h41: False; h51: t70=True; h53: True] H=['q16', 'q14', 'q11', 'q8', 'q4', 'q2']
              exact absurd (h21.symm.trans h51) Bool.false_ne_true
            · try simp only [decide_eq_true_eq, decide_eq_false_iff_not, Bool.not_eq_true', Bool.not_eq_false', Bool.not_eq_eq_eq_not, Bool.not_true, Bool.not_false, Int.not_lt, Int.not_le, Decidable.not_not] at h53
              refine TC.skip ?_
              refine B.n ?_
              refine S.n ?_
              refine TC.region ?_
              refine TL.v rfl (OpVal.succ rfl rfl rfl (by omega)) rfl rfl ?_
              refine TL.v rfl (OpVal.moveI (.inl rfl) rfl) rfl rfl ?_
              refine TL.dropN 1 rfl ?_
              refine TL.nil ?_
              refine S.n ?_
              -- leaf 12 next [h5: False; h17: True; h21: False; h41: False; h51: t70=True; h53: False] H=['q16', 'q14', 'q11', 'q8', 'q4', 'q2']
              exact absurd (h21.symm.trans h51) Bool.false_ne_true
          · try simp only [decide_eq_true_eq, decide_eq_false_iff_not, Bool.not_eq_true', Bool.not_eq_false', Bool.not_eq_eq_eq_not, Bool.not_true, Bool.not_false, Int.not_lt, Int.not_le, Decidable.not_not] at h51
            refine TL.goff rfl rfl rfl rfl rfl rfl rfl rfl ?_
            refine TL.goff rfl rfl rfl rfl rfl rfl rfl rfl ?_
            refine TL.goff rfl rfl rfl rfl rfl rfl rfl rfl ?_
            refine TL.goff rfl rfl rfl rfl rfl rfl rfl rfl ?_
            refine TL.goff rfl rfl rfl rfl rfl rfl rfl rfl ?_
            refine TL.v rfl (OpVal.pickFB rfl rfl rfl) rfl rfl ?_
            refine TL.nil ?_
            refine S.n ?_
            refine TC.cond rfl (fun h => Bool.noConfusion h) (fun _ => ?_)
            refine TC.skip ?_
            refine B.n ?_
            refine S.n ?_
            refine TC.region ?_
            refine TL.v rfl (OpVal.succ rfl rfl rfl (by omega)) rfl rfl ?_
            refine TL.v rfl (OpVal.moveI (.inl rfl) rfl) rfl rfl ?_
            refine TL.dropN 1 rfl ?_
            refine TL.nil ?_
            refine S.n ?_
            -- leaf 13 next [h5: False; h17: True; h21: False; h41: False; h51: t70=False] H=['q16', 'q14', 'q11', 'q8', 'q4', 'q2']
            refine ⟨by repeat (first | exact Agr.mask | refine Agr.upd rfl ?_ | refine Agr.maskIn rfl ?_), (g1 + 1, ga, gc), ?_, ?_, ?_, ?_, ?_⟩
            · show n.edges.length - (g1 + 1) < n.edges.length - g1; omega
            · show g1 + 1 ≤ n.edges.length; omega
            · repeat (first | exact trivial | refine ⟨rfl, ?_⟩)
            · show _ = [Res.cells _ #[.slice _ (starTo n (g1 + 1)).length _] _, Res.rowS _ _ _ (.slice _ (starTo n (g1 + 1)).length _) (starTo n (g1 + 1)), _, _, _, _]
              rw [starTo_ff (by omega) k6 h21 h41]; rfl
            · rfl
    · try simp only [decide_eq_true_eq, decide_eq_false_iff_not, Bool.not_eq_true', Bool.not_eq_false', Bool.not_eq_eq_eq_not, Bool.not_true, Bool.not_false, Int.not_lt, Int.not_le, Decidable.not_not] at h17
      refine TC.exit ?_
      refine S.x ?_
      refine S.x ?_
      refine TC.exitHere ?_
      refine S.n ?_
      refine TC.seq ?_
      refine TC.seq ?_
      refine TC.region ?_
      refine TL.v rfl (OpVal.moveI (.inl rfl) rfl) rfl rfl ?_
      refine TL.v rfl (OpVal.add rfl rfl rfl (by omega) (by omega)) rfl rfl ?_
      refine TL.v rfl (OpVal.moveLoc (.inl rfl) rfl) rfl rfl ?_
      refine TL.v rfl (OpVal.nilCheckLoc rfl rfl) rfl rfl ?_
      refine TL.v rfl (OpVal.fieldLoc rfl fo74_0 rfl) rfl rfl ?_
      refine TL.v rfl (OpVal.loadLoc rfl ag23 rfl (i := 0) rfl rfl) rfl rfl ?_
      refine TL.v rfl (OpVal.lenC rfl Try.underlying23 rfl) rfl rfl ?_
      refine TL.op rfl (OpOk.callP (fits_con _ _ _) rfl rfl pf61 rfl rfl rfl ?_)
      refine TL.v rfl (OpVal.not rfl rfl) rfl rfl ?_
      refine TL.nil ?_
      refine S.n ?_
      refine TC.cond rfl (fun h56 => ?_) (fun h56 => ?_)
      · try simp only [decide_eq_true_eq, decide_eq_false_iff_not, Bool.not_eq_true', Bool.not_eq_false', Bool.not_eq_eq_eq_not, Bool.not_true, Bool.not_false, Int.not_lt, Int.not_le, Decidable.not_not] at h56
        refine TC.seq ?_
        refine TC.region ?_
        refine TL.v rfl (OpVal.buildL rfl pl25 ze25 rfl) rfl rfl ?_
        refine TL.front 4 rfl rfl ?_
        refine TL.op rfl (OpOk.storeAll rfl sz25 rfl rfl rfl rfl rfl rfl ?_)
        refine TL.v rfl (OpVal.moveI (.inr rfl) rfl) rfl rfl ?_
        refine TL.nil ?_
        refine S.n ?_
        refine TC.front 2 rfl rfl ?_
        refine TC.sealS encE_len (fun τ59 hle58 hr57 => ?_)
        refine TC.front 2 rfl rfl ?_
        refine TC.sealS encB_len (fun τ62 hle61 hr60 => ?_)
        replace hr57 := hr57.mono hle61
        refine TC.front 2 rfl rfl ?_
        refine TC.sealS encB_len (fun τ65 hle64 hr63 => ?_)
        replace hr57 := hr57.mono hle64
        replace hr60 := hr60.mono hle64
        refine TC.ret ?_
        refine S.r ?_
        -- leaf 14 ret [h5: False; h17: False; h56: True] H=['q4', 'q16', 'q2']
        obtain rfl : g1 = n.edges.length := by omega
        have hf : ¬ starF n = true := by rw [show starF n = false from h56]; exact Bool.false_ne_true
        simp only [starR, starX, if_pos hc, if_neg hf]
        exact retNfa (p := NfaP.zero) 0 rfl ag25 sz25 rfl rfl rfl rfl (RNfa.zero _)
      · try simp only [decide_eq_true_eq, decide_eq_false_iff_not, Bool.not_eq_true', Bool.not_eq_false', Bool.not_eq_eq_eq_not, Bool.not_true, Bool.not_false, Int.not_lt, Int.not_le, Decidable.not_not] at h56
        refine TC.skip ?_
        refine S.n ?_
        refine TC.seq ?_
        refine TC.region ?_
        refine TL.v rfl (OpVal.moveI (.inl rfl) rfl) rfl rfl ?_
        refine TL.v rfl (OpVal.add rfl rfl rfl (by omega) (by omega)) rfl rfl ?_
        refine TL.v rfl (OpVal.moveI (.inl rfl) rfl) rfl rfl ?_
        refine TL.op rfl (OpOk.lit (enc := Go.E.encI) [_] rfl Try.underlying22 sz3 ze3 rfl rfl rfl encI_len (by decide) (by decide) (0 : Int) rfl (by decide) rfl (by decide) encI_one (fun a66 c67 => ?_))
        refine TL.v rfl (OpVal.moveI (.inl rfl) rfl) rfl rfl ?_
        refine TL.op rfl (OpOk.lit (enc := Go.E.encI) [_] rfl Try.underlying22 sz3 ze3 rfl rfl rfl encI_len (by decide) (by decide) (0 : Int) rfl (by decide) rfl (by decide) encI_one (fun a69 c70 => ?_))
        refine TL.v rfl (OpVal.moveLoc (.inl rfl) rfl) rfl rfl ?_
        refine TL.v rfl (OpVal.nilCheckLoc rfl rfl) rfl rfl ?_
        refine TL.v rfl (OpVal.fieldLoc rfl fo74_0 rfl) rfl rfl ?_
        refine TL.v rfl (OpVal.loadLoc rfl ag23 rfl (i := 2) rfl rfl) rfl rfl ?_
        refine TL.v rfl (OpVal.buildL rfl pl25 ze25 rfl) rfl rfl ?_
        refine TL.front 6 rfl rfl ?_
        refine TL.op rfl (OpOk.storeAll rfl sz25 rfl rfl rfl rfl rfl rfl ?_)
        refine TL.v rfl (OpVal.moveI (.inr rfl) rfl) rfl rfl ?_
        refine TL.nil ?_
        refine S.n ?_
        refine TC.front 1 rfl rfl ?_
        refine TC.sealS encI_len (fun τ74 hle73 hr72 => ?_)
        refine TC.front 1 rfl rfl ?_
        refine TC.sealS encI_len (fun τ77 hle76 hr75 => ?_)
        replace hr72 := hr72.mono hle76
        refine TC.front 2 rfl rfl ?_
        refine TC.sealS encE_len (fun τ80 hle79 hr78 => ?_)
        replace hr72 := hr72.mono hle79
        replace hr75 := hr75.mono hle79
        refine TC.front 2 rfl rfl ?_
        refine TC.sealS encB_len (fun τ83 hle82 hr81 => ?_)
        replace hr72 := hr72.mono hle82
        replace hr75 := hr75.mono hle82
        replace hr78 := hr78.mono hle82
        refine TC.front 2 rfl rfl ?_
        refine TC.sealS encB_len (fun τ86 hle85 hr84 => ?_)
        replace hr72 := hr72.mono hle85
        replace hr75 := hr75.mono hle85
        replace hr78 := hr78.mono hle85
        replace hr81 := hr81.mono hle85
        refine TC.ret ?_
        -- leaf 15 ret [h5: False; h17: False; h56: False] H=['q4', 'q16', 'q2']
        obtain rfl : g1 = n.edges.length := by omega
        have hf : starF n = true := h56
        simp only [starR, starX, if_pos hc, if_pos hf]
        exact retNfa (p := ⟨a66, c67, a69, c70, ga, gc⟩) 0 rfl ag25 sz25 rfl rfl rfl rfl ⟨hr75, hr72, hr78, starTo_ok hn.ok _⟩

end Go.Proofs.Ytcidppnlhhkhhaa
end

/- Nfa6 -/
section
/- Contracts of package nfa, part six: one behind another. -/
set_option linter.unusedVariables false
set_option linter.unusedSimpArgs false
namespace Go.Proofs.Ytcidppnlhhkhhaa
open Go Go.E
set_option maxRecDepth 100000

theorem riseB_at {l : List Int} {n : Int} (h : riseB l n = true) {i : Nat} (hi : i < l.length) : riseFrom n l i = true :=
  List.all_eq_true.1 h i (List.mem_range.2 hi)
theorem riseB_len {l : List Int} {n : Int} (h : riseB l n = true) (h0 : 0 ≤ n) : (l.length : Int) ≤ n := by
  have hi : ∀ i, i < l.length → (i : Int) ≤ nth l i 0 ∧ nth l i 0 < n := by
    intro i
    induction i with
    | zero =>
      intro hl
      have := riseB_at h hl
      simp only [riseFrom, stateB, Bool.and_eq_true, decide_eq_true_eq] at this
      omega
    | succ i ih =>
      intro hl
      have h1 := riseB_at h hl
      have h2 := ih (by omega)
      simp only [riseFrom, stateB, Bool.and_eq_true, decide_eq_true_eq, Bool.not_eq_true', Bool.and_eq_false_iff, decide_eq_false_iff_not, Nat.add_sub_cancel] at h1
      omega
  by_cases hl : l.length = 0
  · omega
  · have := hi (l.length - 1) (by omega)
    omega
theorem checkB_len {n : Nfa} (h : checkB n = true) : (n.starts.length : Int) ≤ n.states ∧ (n.ends.length : Int) ≤ n.states := by
  have h0 := (checkB_spec h).1
  simp only [checkB, Bool.and_eq_true, decide_eq_true_eq] at h
  exact ⟨riseB_len h.1.1.2 h0, riseB_len h.1.2 h0⟩

/-- The edges that reach an end. -/
def lastTo (x : Nfa) (k : Nat) : Nat := (x.edges.take k).countP fun u => x.ends.contains u.to
theorem lastTo_zero (x : Nfa) : lastTo x 0 = 0 := by simp [lastTo]
theorem lastTo_le (x : Nfa) (k : Nat) : lastTo x k ≤ x.edges.length := Nat.le_trans List.countP_le_length (by rw [List.length_take]; omega)
theorem endsAt {x : Nfa} {k : Nat} (h : k < x.edges.length) (k6 : ∀ u ∈ x.edges, 0 ≤ u.frm ∧ u.frm < x.states ∧ 0 ≤ u.to ∧ u.to < x.states) :
    nth (marksL x.ends x.states.toNat) (nth x.edges k Arrow.zero).to.toNat false = x.ends.contains (nth x.edges k Arrow.zero).to := (starTo_step h k6).2
theorem lastTo_t {x : Nfa} {k : Nat} (h : k < x.edges.length) (k6 : ∀ u ∈ x.edges, 0 ≤ u.frm ∧ u.frm < x.states ∧ 0 ≤ u.to ∧ u.to < x.states)
    (h1 : nth (marksL x.ends x.states.toNat) (nth x.edges k Arrow.zero).to.toNat false = true) : lastTo x (k + 1) = lastTo x k + 1 := by
  rw [endsAt h k6] at h1
  rw [lastTo, take_succ_nth x.edges h Arrow.zero, List.countP_append, List.countP_singleton, if_pos h1]; rfl
theorem lastTo_f {x : Nfa} {k : Nat} (h : k < x.edges.length) (k6 : ∀ u ∈ x.edges, 0 ≤ u.frm ∧ u.frm < x.states ∧ 0 ≤ u.to ∧ u.to < x.states)
    (h1 : nth (marksL x.ends x.states.toNat) (nth x.edges k Arrow.zero).to.toNat false = false) : lastTo x (k + 1) = lastTo x k := by
  rw [endsAt h k6, ← Bool.not_eq_true] at h1
  rw [lastTo, take_succ_nth x.edges h Arrow.zero, List.countP_append, List.countP_singleton, if_neg h1]; rfl

def catPut (u : Arrow) (l : List Int) : List Arrow := l.map fun s => ⟨u.frm, s, u.set⟩
def catOf (x y : Nfa) (u : Arrow) : List Arrow := if x.ends.contains u.to = true then catPut u (shiftL y.starts x.states) else []
def catTo (x y : Nfa) (k : Nat) : List Arrow := (x.edges ++ shiftE y.edges x.states) ++ (x.edges.take k).flatMap (catOf x y)
theorem catPut_snoc {u : Arrow} {l : List Int} {j : Nat} (h : j < l.length) : catPut u (l.take (j + 1)) = catPut u (l.take j) ++ [⟨u.frm, nth l j 0, u.set⟩] := by
  rw [take_succ_nth l h 0]; simp [catPut]
theorem catPut_len (u : Arrow) (l : List Int) : (catPut u l).length = l.length := by simp [catPut]
theorem catTo_zero (x y : Nfa) : catTo x y 0 = x.edges ++ shiftE y.edges x.states := by simp [catTo]
theorem catTo_t {x y : Nfa} {k : Nat} (h : k < x.edges.length) (k6 : ∀ u ∈ x.edges, 0 ≤ u.frm ∧ u.frm < x.states ∧ 0 ≤ u.to ∧ u.to < x.states)
    (h1 : nth (marksL x.ends x.states.toNat) (nth x.edges k Arrow.zero).to.toNat false = true) : catTo x y (k + 1) = catTo x y k ++ catPut (nth x.edges k Arrow.zero) (shiftL y.starts x.states) := by
  rw [endsAt h k6] at h1
  rw [catTo, take_succ_nth x.edges h Arrow.zero, List.flatMap_append, ← List.append_assoc, List.flatMap_singleton, catOf, if_pos h1]; rfl
theorem catTo_f {x y : Nfa} {k : Nat} (h : k < x.edges.length) (k6 : ∀ u ∈ x.edges, 0 ≤ u.frm ∧ u.frm < x.states ∧ 0 ≤ u.to ∧ u.to < x.states)
    (h1 : nth (marksL x.ends x.states.toNat) (nth x.edges k Arrow.zero).to.toNat false = false) : catTo x y (k + 1) = catTo x y k := by
  rw [endsAt h k6, ← Bool.not_eq_true] at h1
  rw [catTo, take_succ_nth x.edges h Arrow.zero, List.flatMap_append, ← List.append_assoc, List.flatMap_singleton, catOf, if_neg h1, List.append_nil]; rfl
theorem catOf_len (x y : Nfa) (u : Arrow) : (catOf x y u).length ≤ y.starts.length := by
  unfold catOf
  split
  · rw [catPut_len, shiftL_len]; exact Nat.le_refl _
  · exact Nat.zero_le _
theorem catTo_len (x y : Nfa) (k : Nat) (h : k ≤ x.edges.length) (h1 : x.edges.length ≤ 65536) (h2 : y.edges.length ≤ 65536) (h3 : y.starts.length ≤ 4096) : (catTo x y k).length ≤ 131072 + k * 4096 := by
  induction k with
  | zero => rw [catTo_zero, List.length_append, shiftE_len]; omega
  | succ k ih =>
    have hk := ih (by omega)
    have ho := catOf_len x y (nth x.edges k Arrow.zero)
    rw [catTo, take_succ_nth x.edges (by omega) Arrow.zero, List.flatMap_append, ← List.append_assoc, List.flatMap_singleton, List.length_append]
    change (catTo x y k).length + _ ≤ _
    omega
theorem shiftE_ok {l : List Arrow} (h : ∀ u ∈ l, u.set.ok) (k : Int) : ∀ u ∈ shiftE l k, u.set.ok := by
  intro u hu
  simp only [shiftE, List.mem_map] at hu
  obtain ⟨v, hv, rfl⟩ := hu
  exact h v hv
theorem catOf_ok {x y : Nfa} {u : Arrow} (h : u.set.ok) : ∀ v ∈ catOf x y u, v.set.ok := by
  intro v hv
  unfold catOf at hv
  split at hv
  · simp only [catPut, List.mem_map] at hv
    obtain ⟨s, _, rfl⟩ := hv
    exact h
  · simp at hv
theorem catTo_ok {x y : Nfa} (h : ∀ u ∈ x.edges, u.set.ok) (h' : ∀ u ∈ y.edges, u.set.ok) (k : Nat) : ∀ u ∈ catTo x y k, u.set.ok := by
  intro u hu
  simp only [catTo, List.mem_append, List.mem_flatMap] at hu
  rcases hu with (hu | hu) | ⟨v, hv, hu⟩
  · exact h u hu
  · exact shiftE_ok h' _ u hu
  · exact catOf_ok (h v (List.mem_of_mem_take hv)) u hu

def catF (x y : Nfa) : Bool := fitB (x.states + y.states) ((x.edges.length : Int) + (y.edges.length : Int) + ((lastTo x x.edges.length : Nat) : Int) * (y.starts.length : Int))
def catS (x y : Nfa) : List Int := if emptyB x = true then x.starts ++ shiftL y.starts x.states else x.starts
def catD (x y : Nfa) : List Int := if emptyB y = true then x.ends ++ shiftL y.ends x.states else [] ++ shiftL y.ends x.states
def catN (x y : Nfa) : Nfa := ⟨x.states + y.states, catS x y, catD x y, catTo x y x.edges.length⟩
def catR (x y : Nfa) : Nfa := if checkB x = true ∧ checkB y = true then if catF x y = true then catN x y else Nfa.zero else Nfa.zero
def catX (x y : Nfa) : Int := if checkB x = true ∧ checkB y = true then if catF x y = true then 0 else 2 else 1

set_option maxHeartbeats 4000000 in
theorem cat_con (σ : Store) (x y : Nfa) (p q : NfaP) (hx : RNfa σ x p) (hy : RNfa σ y q) : Con Try.prog 27 #[nfaV x p, nfaV y q] σ [] (NfaR (catR x y) (catX x y)) := by
  have hd := hx.d
  refine Con.mk (n := 140) Try.func27 rfl rfl rfl (fun w0 => ?_)
  refine TC.seq ?_
  refine TC.region ?_
  refine TL.op rfl (OpOk.boxA rfl rfl rfl rfl (fun b1 => ?_))
  refine TL.op rfl (OpOk.boxA rfl rfl rfl rfl (fun b3 => ?_))
  refine TL.op rfl (OpOk.alloc rfl ze25 rfl rfl (fun b5 => ?_))
  refine TL.v rfl (OpVal.moveI (.inr rfl) rfl) rfl rfl ?_
  refine TL.nil ?_
  refine S.n ?_
  refine TC.seq ?_
  refine TC.seq ?_
  refine TC.region ?_
  refine TL.v rfl (OpVal.loadAll rfl ag25 sz25 rfl (i := 2) rfl rfl) rfl rfl ?_
  refine TL.op rfl (OpOk.callP (check_con _ _ _ (by first | exact hx | exact hy)) rfl rfl pf18 rfl rfl rfl ?_)
  refine TL.v rfl (OpVal.neq rfl rfl rfl) rfl rfl ?_
  refine TL.v rfl (OpVal.moveB (.inl rfl) rfl) rfl rfl ?_
  refine TL.split 22 rfl (fun h7 => ?_) (fun h7 => ?_)
  · try simp only [decide_eq_true_eq, decide_eq_false_iff_not, Bool.not_eq_true', Bool.not_eq_false', Bool.not_eq_eq_eq_not, Bool.not_true, Bool.not_false, Int.not_lt, Int.not_le, Decidable.not_not] at h7
    refine TL.goff rfl rfl rfl rfl rfl rfl rfl rfl ?_
    refine TL.goff rfl rfl rfl rfl rfl rfl rfl rfl ?_
    refine TL.goff rfl rfl rfl rfl rfl rfl rfl rfl ?_
    refine TL.v rfl (OpVal.pickTB rfl rfl rfl) rfl rfl ?_
    refine TL.nil ?_
    refine S.n ?_
    refine TC.cond rfl (fun _ => ?_) (fun h => Bool.noConfusion h)
    refine TC.seq ?_
    refine TC.region ?_
    refine TL.v rfl (OpVal.buildL rfl pl25 ze25 rfl) rfl rfl ?_
    refine TL.op rfl (OpOk.storeAll rfl sz25 rfl rfl rfl rfl rfl rfl ?_)
    refine TL.v rfl (OpVal.moveI (.inr rfl) rfl) rfl rfl ?_
    refine TL.nil ?_
    refine S.n ?_
    refine TC.ret ?_
    refine S.r ?_
    -- leaf 1 ret [h7: t22=True] H=['q6', 'q4', 'q2']
    have hc := errB_no h7
    have hc : ¬ (checkB x = true ∧ checkB y = true) := fun h => by rw [h.1] at hc; cases hc
    simp only [catR, catX, if_neg hc]
    exact retNfa (p := NfaP.zero) 0 rfl ag25 sz25 rfl rfl rfl rfl (RNfa.zero _)
  · try simp only [decide_eq_true_eq, decide_eq_false_iff_not, Bool.not_eq_true', Bool.not_eq_false', Bool.not_eq_eq_eq_not, Bool.not_true, Bool.not_false, Int.not_lt, Int.not_le, Decidable.not_not] at h7
    refine TL.gv rfl rfl rfl rfl rfl (OpVal.loadAll rfl ag25 sz25 rfl (i := 1) rfl rfl) rfl rfl ?_
    refine TL.gon rfl rfl rfl rfl rfl (OpOk.callP (check_con _ _ _ (by first | exact hx | exact hy)) rfl rfl pf18 rfl rfl rfl ?_)
    refine TL.gv rfl rfl rfl rfl rfl (OpVal.neq rfl rfl rfl) rfl rfl ?_
    refine TL.v rfl (OpVal.pickFB rfl rfl rfl) rfl rfl ?_
    refine TL.nil ?_
    refine S.n ?_
    refine TC.condD rfl (fun h8 => ?_) (fun h8 => ?_)
    · try simp only [decide_eq_true_eq, decide_eq_false_iff_not, Bool.not_eq_true', Bool.not_eq_false', Bool.not_eq_eq_eq_not, Bool.not_true, Bool.not_false, Int.not_lt, Int.not_le, Decidable.not_not] at h8
      refine TC.seq ?_
      refine TC.region ?_
      refine TL.v rfl (OpVal.buildL rfl pl25 ze25 rfl) rfl rfl ?_
      refine TL.op rfl (OpOk.storeAll rfl sz25 rfl rfl rfl rfl rfl rfl ?_)
      refine TL.v rfl (OpVal.moveI (.inr rfl) rfl) rfl rfl ?_
      refine TL.nil ?_
      refine S.n ?_
      refine TC.ret ?_
      refine S.r ?_
      -- leaf 2 ret [h7: t22=False; h8: True] H=['q6', 'q4', 'q2']
      have hc := errB_no h8
      have hc : ¬ (checkB x = true ∧ checkB y = true) := fun h => by rw [h.2] at hc; cases hc
      simp only [catR, catX, if_neg hc]
      exact retNfa (p := NfaP.zero) 0 rfl ag25 sz25 rfl rfl rfl rfl (RNfa.zero _)
    · try simp only [decide_eq_true_eq, decide_eq_false_iff_not, Bool.not_eq_true', Bool.not_eq_false', Bool.not_eq_eq_eq_not, Bool.not_true, Bool.not_false, Int.not_lt, Int.not_le, Decidable.not_not] at h8
      refine TC.skip ?_
      refine S.n ?_
      refine TC.seq ?_
      have hcx : checkB x = true := errB_yes h7
      have hcy : checkB y = true := errB_yes h8
      obtain ⟨k1, k2, k3, k4, k5, k6⟩ := checkB_spec hcx
      obtain ⟨l1, l2, l3, l4, l5, l6⟩ := checkB_spec hcy
      have lx := checkB_len hcx
      have ly := checkB_len hcy
      have me := marksL_len x.ends x.states.toNat
      refine TC.region ?_
      refine TL.v rfl (OpVal.fieldLoc rfl fo25_2 rfl) rfl rfl ?_
      refine TL.v rfl (OpVal.loadLoc rfl ag22 rfl (i := 2) rfl rfl) rfl rfl ?_
      refine TL.v rfl (OpVal.fieldLoc rfl fo25_0 rfl) rfl rfl ?_
      refine TL.v rfl (OpVal.loadLoc rfl ag3 rfl (i := 2) rfl rfl) rfl rfl ?_
      refine TL.op rfl (OpOk.callR (marks_con _ _ _ _ _ hx.e k1 k2 k5) rfl rfl pf60 rfl rfl rfl (fun a9 c10 => ?_))
      refine TL.v rfl (OpVal.moveSl (.inr rfl) rfl) rfl rfl ?_
      refine TL.nil ?_
      refine S.n ?_
      refine TC.seq ?_
      refine TC.region ?_
      refine TL.v rfl (OpVal.moveI (.inr rfl) rfl) rfl rfl ?_
      refine TL.nil ?_
      refine S.n ?_
      refine TC.seq ?_
      refine TC.seq ?_
      refine TC.region ?_
      refine TL.v rfl (OpVal.fieldLoc rfl fo25_3 rfl) rfl rfl ?_
      refine TL.v rfl (OpVal.loadLoc rfl ag23 rfl (i := 3) rfl rfl) rfl rfl ?_
      refine TL.v rfl (OpVal.lenC rfl Try.underlying23 rfl) rfl rfl ?_
      refine TL.v rfl (OpVal.moveI (.inl rfl) rfl) rfl rfl ?_
      refine TL.nil ?_
      refine S.n ?_
      refine TC.block ?_
      refine TC.loopF (α := Nat) [7, 9, 36, 37, 38, 39, 40, 41, 42, 43, 44, 45, 46, 47] (fun g => [(36, .int .i64 (g : Nat)), (7, .int .i64 (lastTo x g : Nat))]) (fun g => [Res.rowS 4 1 encB (.slice a9 (marksL x.ends x.states.toNat).length c10) (marksL x.ends x.states.toNat), Res.cells b5 (nfaA Nfa.zero NfaP.zero) 25, Res.cells b3 (nfaA y q) 25, Res.cells b1 (nfaA x p) 25]) (fun _ => _) (fun g => g ≤ x.edges.length) (fun g => x.edges.length - g) (0) (by first | exact True.intro | omega | (dsimp only; omega) | (simp; done) | (simp; omega)) (by rw [lastTo_zero]; exact ⟨rfl, rfl, trivial⟩) (by rfl) (by rfl) (fun g1 j1 hg1 => ?_)
      have hu1 : g1 < x.edges.length → _ := fun h => k6 _ (nth_mem h Arrow.zero)
      have hl1 := lastTo_le x g1
      refine TC.seq ?_
      refine TC.region ?_
      refine TL.v rfl (OpVal.lss rfl rfl rfl) rfl rfl ?_
      refine TL.nil ?_
      refine S.n ?_
      refine TC.seq ?_
      refine TC.condD rfl (fun h12 => ?_) (fun h12 => ?_)
      · try simp only [decide_eq_true_eq, decide_eq_false_iff_not, Bool.not_eq_true', Bool.not_eq_false', Bool.not_eq_eq_eq_not, Bool.not_true, Bool.not_false, Int.not_lt, Int.not_le, Decidable.not_not] at h12
        refine TC.skip ?_
        refine S.n ?_
        refine TC.seq ?_
        refine TC.block ?_
        refine TC.seq ?_
        refine TC.region ?_
        refine TL.v rfl (OpVal.indexN rfl Try.underlying23 sz80 rfl rfl (by first | assumption | exact (RS.rv (by assumption)).sl) (by omega)) rfl rfl ?_
        refine TL.v rfl (OpVal.loadSA Arrow.zero rfl ag80 sz80 rfl (by assumption) (by omega) (by omega)) rfl rfl ?_
        refine TL.op rfl (OpOk.alloc rfl ze80 rfl rfl (fun b13 => ?_))
        refine TL.op rfl (OpOk.storeAll rfl sz80 rfl rfl rfl rfl rfl rfl ?_)
        refine TL.nil ?_
        refine S.n ?_
        refine TC.seq ?_
        refine TC.region ?_
        refine TL.v rfl (OpVal.moveSl (.inl rfl) rfl) rfl rfl ?_
        refine TL.v rfl (OpVal.fieldLoc rfl fo80_1 rfl) rfl rfl ?_
        refine TL.v rfl (OpVal.loadLoc rfl ag3 rfl (i := 0) rfl rfl) rfl rfl ?_
        refine TL.isSl (i := 1) rfl (fun hs15 _ _ => ?_)
        refine TL.v rfl (OpVal.index rfl Try.underlying47 sz4 rfl rfl (by first | assumption | exact (RS.rv (by assumption)).sl) (by omega) (by omega)) rfl rfl ?_
        refine TL.v rfl (OpVal.loadO1 false rfl ag4 rfl (q := 1) rfl encB_len (by omega) rfl) rfl rfl ?_
        refine TL.nil ?_
        refine S.n ?_
        refine TC.cond rfl (fun h16 => ?_) (fun h16 => ?_)
        · try simp only [decide_eq_true_eq, decide_eq_false_iff_not, Bool.not_eq_true', Bool.not_eq_false', Bool.not_eq_eq_eq_not, Bool.not_true, Bool.not_false, Int.not_lt, Int.not_le, Decidable.not_not] at h16
          refine TC.region ?_
          refine TL.v rfl (OpVal.moveI (.inl rfl) rfl) rfl rfl ?_
          refine TL.v rfl (OpVal.add rfl rfl rfl (by omega) (by omega)) rfl rfl ?_
          refine TL.v rfl (OpVal.moveI (.inr rfl) rfl) rfl rfl ?_
          refine TL.nil ?_
          refine B.n ?_
          refine S.n ?_
          refine TC.region ?_
          refine TL.v rfl (OpVal.succ rfl rfl rfl (by omega)) rfl rfl ?_
          refine TL.v rfl (OpVal.moveI (.inl rfl) rfl) rfl rfl ?_
          refine TL.dropN 1 rfl ?_
          refine TL.nil ?_
          refine S.n ?_
          -- leaf 3 next [h7: t22=False; h8: False; h12: True; h16: True] H=['q11', 'q6', 'q4', 'q2']
          refine ⟨by repeat (first | exact Agr.mask | refine Agr.upd rfl ?_ | refine Agr.maskIn rfl ?_), g1 + 1, ?_, ?_, ?_, ?_, ?_⟩
          · omega
          · first | exact True.intro | omega | (dsimp only; omega) | (simp; done) | (simp; omega)
          · show Has _ [(_, .int .i64 ((g1 + 1 : Nat) : Int)), (7, .int .i64 (lastTo x (g1 + 1) : Nat))]
            rw [lastTo_t (by omega) k6 h16]; exact ⟨rfl, rfl, trivial⟩
          · rfl
          · rfl
        · try simp only [decide_eq_true_eq, decide_eq_false_iff_not, Bool.not_eq_true', Bool.not_eq_false', Bool.not_eq_eq_eq_not, Bool.not_true, Bool.not_false, Int.not_lt, Int.not_le, Decidable.not_not] at h16
          refine TC.skip ?_
          refine B.n ?_
          refine S.n ?_
          refine TC.region ?_
          refine TL.v rfl (OpVal.succ rfl rfl rfl (by omega)) rfl rfl ?_
          refine TL.v rfl (OpVal.moveI (.inl rfl) rfl) rfl rfl ?_
          refine TL.dropN 1 rfl ?_
          refine TL.nil ?_
          refine S.n ?_
          -- leaf 4 next [h7: t22=False; h8: False; h12: True; h16: False] H=['q11', 'q6', 'q4', 'q2']
          refine ⟨by repeat (first | exact Agr.mask | refine Agr.upd rfl ?_ | refine Agr.maskIn rfl ?_), g1 + 1, ?_, ?_, ?_, ?_, ?_⟩
          · omega
          · first | exact True.intro | omega | (dsimp only; omega) | (simp; done) | (simp; omega)
          · show Has _ [(_, .int .i64 ((g1 + 1 : Nat) : Int)), (7, .int .i64 (lastTo x (g1 + 1) : Nat))]
            rw [lastTo_f (by omega) k6 h16]; exact ⟨rfl, rfl, trivial⟩
          · rfl
          · rfl
      · try simp only [decide_eq_true_eq, decide_eq_false_iff_not, Bool.not_eq_true', Bool.not_eq_false', Bool.not_eq_eq_eq_not, Bool.not_true, Bool.not_false, Int.not_lt, Int.not_le, Decidable.not_not] at h12
        refine TC.exit ?_
        refine S.x ?_
        refine S.x ?_
        refine TC.exitHere ?_
        refine S.n ?_
        refine TC.seq ?_
        obtain rfl : g1 = x.edges.length := by omega
        have hm : 0 ≤ ((lastTo x x.edges.length : Nat) : Int) * (y.starts.length : Int) ∧ ((lastTo x x.edges.length : Nat) : Int) * (y.starts.length : Int) ≤ 1000000000 := by
          have := Nat.mul_le_mul (show lastTo x x.edges.length ≤ 65536 by omega) (show y.starts.length ≤ 4096 by omega)
          omega
        refine TC.region ?_
        refine TL.v rfl (OpVal.fieldLoc rfl fo25_0 rfl) rfl rfl ?_
        refine TL.v rfl (OpVal.loadLoc rfl ag3 rfl (i := 3) rfl rfl) rfl rfl ?_
        refine TL.v rfl (OpVal.fieldLoc rfl fo25_0 rfl) rfl rfl ?_
        refine TL.v rfl (OpVal.loadLoc rfl ag3 rfl (i := 2) rfl rfl) rfl rfl ?_
        refine TL.v rfl (OpVal.add rfl rfl rfl (by omega) (by omega)) rfl rfl ?_
        refine TL.v rfl (OpVal.moveI (.inr rfl) rfl) rfl rfl ?_
        refine TL.nil ?_
        refine S.n ?_
        refine TC.seq ?_
        refine TC.seq ?_
        refine TC.region ?_
        refine TL.v rfl (OpVal.moveI (.inl rfl) rfl) rfl rfl ?_
        refine TL.v rfl (OpVal.fieldLoc rfl fo25_3 rfl) rfl rfl ?_
        refine TL.v rfl (OpVal.loadLoc rfl ag23 rfl (i := 3) rfl rfl) rfl rfl ?_
        refine TL.v rfl (OpVal.lenC rfl Try.underlying23 rfl) rfl rfl ?_
        refine TL.v rfl (OpVal.fieldLoc rfl fo25_3 rfl) rfl rfl ?_
        refine TL.v rfl (OpVal.loadLoc rfl ag23 rfl (i := 2) rfl rfl) rfl rfl ?_
        refine TL.v rfl (OpVal.lenC rfl Try.underlying23 rfl) rfl rfl ?_
        refine TL.v rfl (OpVal.add rfl rfl rfl (by omega) (by omega)) rfl rfl ?_
        refine TL.v rfl (OpVal.moveI (.inl rfl) rfl) rfl rfl ?_
        refine TL.v rfl (OpVal.fieldLoc rfl fo25_1 rfl) rfl rfl ?_
        refine TL.v rfl (OpVal.loadLoc rfl ag22 rfl (i := 2) rfl rfl) rfl rfl ?_
        refine TL.v rfl (OpVal.lenC rfl Try.underlying22 rfl) rfl rfl ?_
        refine TL.v rfl (OpVal.mul rfl rfl rfl (by omega) (by omega)) rfl rfl ?_
        refine TL.v rfl (OpVal.add rfl rfl rfl (by omega) (by omega)) rfl rfl ?_
        refine TL.op rfl (OpOk.callP (fits_con _ _ _) rfl rfl pf61 rfl rfl rfl ?_)
        refine TL.v rfl (OpVal.not rfl rfl) rfl rfl ?_
        refine TL.nil ?_
        refine S.n ?_
        refine TC.cond rfl (fun h17 => ?_) (fun h17 => ?_)
        · try simp only [decide_eq_true_eq, decide_eq_false_iff_not, Bool.not_eq_true', Bool.not_eq_false', Bool.not_eq_eq_eq_not, Bool.not_true, Bool.not_false, Int.not_lt, Int.not_le, Decidable.not_not] at h17
          refine TC.seq ?_
          refine TC.region ?_
          refine TL.v rfl (OpVal.buildL rfl pl25 ze25 rfl) rfl rfl ?_
          refine TL.front 1 rfl rfl ?_
          refine TL.op rfl (OpOk.storeAll rfl sz25 rfl rfl rfl rfl rfl rfl ?_)
          refine TL.v rfl (OpVal.moveI (.inr rfl) rfl) rfl rfl ?_
          refine TL.nil ?_
          refine S.n ?_
          refine TC.front 1 rfl rfl ?_
          refine TC.sealS encB_len (fun τ20 hle19 hr18 => ?_)
          refine TC.ret ?_
          refine S.r ?_
          -- leaf 5 ret [h7: t22=False; h8: False; h12: False; h17: True] H=['q6', 'q4', 'q2']
          have hf : ¬ catF x y = true := by rw [show catF x y = false from h17]; exact Bool.false_ne_true
          simp only [catR, catX, if_pos (And.intro hcx hcy), if_neg hf]
          exact retNfa (p := NfaP.zero) 0 rfl ag25 sz25 rfl rfl rfl rfl (RNfa.zero _)
        · try simp only [decide_eq_true_eq, decide_eq_false_iff_not, Bool.not_eq_true', Bool.not_eq_false', Bool.not_eq_eq_eq_not, Bool.not_true, Bool.not_false, Int.not_lt, Int.not_le, Decidable.not_not] at h17
          refine TC.skip ?_
          refine S.n ?_
          refine TC.seq ?_
          refine TC.region ?_
          refine TL.v rfl (OpVal.loadAll rfl ag25 sz25 rfl (i := 3) rfl rfl) rfl rfl ?_
          refine TL.v rfl (OpVal.loadAll rfl ag25 sz25 rfl (i := 2) rfl rfl) rfl rfl ?_
          refine TL.op rfl (OpOk.callM (both_con _ _ _ _ _ hx hy ⟨k1, by omega⟩ (fun u hu => by have := l6 u hu; omega) (by omega) (by omega)) rfl rfl pf62 rfl rfl rfl (fun b21 a22 c23 => ?_))
          refine TL.v rfl (OpVal.moveLoc (.inr rfl) rfl) rfl rfl ?_
          refine TL.nil ?_
          refine S.n ?_
          refine TC.seq ?_
          refine TC.region ?_
          refine TL.v rfl (OpVal.moveLoc (.inl rfl) rfl) rfl rfl ?_
          refine TL.v rfl (OpVal.makeFn rfl) rfl rfl ?_
          refine TL.v rfl (OpVal.moveFn (.inr rfl) rfl) rfl rfl ?_
          refine TL.nil ?_
          refine S.n ?_
          refine TC.seq ?_
          refine TC.region ?_
          refine TL.v rfl (OpVal.fieldLoc rfl fo25_1 rfl) rfl rfl ?_
          refine TL.v rfl (OpVal.loadLoc rfl ag22 rfl (i := 4) rfl rfl) rfl rfl ?_
          refine TL.v rfl (OpVal.fieldLoc rfl fo25_0 rfl) rfl rfl ?_
          refine TL.v rfl (OpVal.loadLoc rfl ag3 rfl (i := 5) rfl rfl) rfl rfl ?_
          refine TL.op rfl (OpOk.callR (shift_con _ _ _ _ _ (by first | exact hy.s | exact hy.e) ⟨k1, by omega⟩ (fun u hu => by first | (have := l4 u hu; omega) | (have := l5 u hu; omega)) (by omega)) rfl rfl pf63 rfl rfl rfl (fun a26 c27 => ?_))
          refine TL.v rfl (OpVal.moveSl (.inr rfl) rfl) rfl rfl ?_
          refine TL.nil ?_
          refine S.n ?_
          refine TC.seq ?_
          refine TC.seq ?_
          refine TC.region ?_
          refine TL.v rfl (OpVal.fieldLoc rfl fo25_3 rfl) rfl rfl ?_
          refine TL.v rfl (OpVal.loadLoc rfl ag23 rfl (i := 6) rfl rfl) rfl rfl ?_
          refine TL.v rfl (OpVal.lenC rfl Try.underlying23 rfl) rfl rfl ?_
          refine TL.v rfl (OpVal.moveI (.inl rfl) rfl) rfl rfl ?_
          refine TL.nil ?_
          refine S.n ?_
          refine TC.block ?_
          refine TC.loopF (α := Nat × Option Addr × Nat) [15, 17, 83, 84, 85, 86, 87, 88, 89, 90, 91, 92, 93, 94, 95, 96, 97, 98, 99, 100, 101, 102, 103, 104, 105, 106, 107] (fun g => [(83, .int .i64 (g.1 : Nat))]) (fun g => [Res.rowS 3 1 Go.E.encI (.slice a26 (shiftL y.starts x.states).length c27) (shiftL y.starts x.states), Res.cells b21 #[.slice g.2.1 (catTo x y g.1).length g.2.2] 74, Res.rowS 80 6 encE (.slice g.2.1 (catTo x y g.1).length g.2.2) (catTo x y g.1), Res.rowS 4 1 encB (.slice a9 (marksL x.ends x.states.toNat).length c10) (marksL x.ends x.states.toNat), Res.cells b5 (nfaA Nfa.zero NfaP.zero) 25, Res.cells b3 (nfaA y q) 25, Res.cells b1 (nfaA x p) 25]) (fun _ => _) (fun g => g.1 ≤ x.edges.length) (fun g => x.edges.length - g.1) ((0, a22, c23)) (by first | exact True.intro | omega | (dsimp only; omega) | (simp; done) | (simp; omega)) (by repeat (first | exact trivial | refine ⟨rfl, ?_⟩)) (by simp only [catTo_zero]) (by rfl) (fun g2 j2 hg2 => ?_)
          obtain ⟨g2, ga2, gc2⟩ := g2
          dsimp only
          have hg2 : g2 ≤ x.edges.length := hg2
          have hu2 : g2 < x.edges.length → _ := fun h => k6 _ (nth_mem h Arrow.zero)
          have hl2 := catTo_len x y g2 hg2 (by omega) (by omega) (by omega)
          have hl3 := shiftL_len y.starts x.states
          have hl4 := shiftL_len y.ends x.states
          refine TC.seq ?_
          refine TC.region ?_
          refine TL.v rfl (OpVal.lss rfl rfl rfl) rfl rfl ?_
          refine TL.nil ?_
          refine S.n ?_
          refine TC.seq ?_
          refine TC.condD rfl (fun h29 => ?_) (fun h29 => ?_)
          · try simp only [decide_eq_true_eq, decide_eq_false_iff_not, Bool.not_eq_true', Bool.not_eq_false', Bool.not_eq_eq_eq_not, Bool.not_true, Bool.not_false, Int.not_lt, Int.not_le, Decidable.not_not] at h29
            refine TC.skip ?_
            refine S.n ?_
            refine TC.seq ?_
            refine TC.block ?_
            refine TC.seq ?_
            refine TC.region ?_
            refine TL.v rfl (OpVal.indexN rfl Try.underlying23 sz80 rfl rfl (by first | assumption | exact (RS.rv (by assumption)).sl) (by omega)) rfl rfl ?_
            refine TL.v rfl (OpVal.loadSA Arrow.zero rfl ag80 sz80 rfl (by assumption) (by omega) (by omega)) rfl rfl ?_
            refine TL.op rfl (OpOk.alloc rfl ze80 rfl rfl (fun b30 => ?_))
            refine TL.op rfl (OpOk.storeAll rfl sz80 rfl rfl rfl rfl rfl rfl ?_)
            refine TL.nil ?_
            refine S.n ?_
            refine TC.seq ?_
            refine TC.seq ?_
            refine TC.region ?_
            refine TL.v rfl (OpVal.moveSl (.inl rfl) rfl) rfl rfl ?_
            refine TL.v rfl (OpVal.fieldLoc rfl fo80_1 rfl) rfl rfl ?_
            refine TL.v rfl (OpVal.loadLoc rfl ag3 rfl (i := 0) rfl rfl) rfl rfl ?_
            refine TL.isSl (i := 4) rfl (fun hs32 _ _ => ?_)
            refine TL.v rfl (OpVal.index rfl Try.underlying47 sz4 rfl rfl (by first | assumption | exact (RS.rv (by assumption)).sl) (by omega) (by omega)) rfl rfl ?_
            refine TL.v rfl (OpVal.loadO1 false rfl ag4 rfl (q := 4) rfl encB_len (by omega) rfl) rfl rfl ?_
            refine TL.v rfl (OpVal.not rfl rfl) rfl rfl ?_
            refine TL.nil ?_
            refine S.n ?_
            refine TC.cond rfl (fun h33 => ?_) (fun h33 => ?_)
            · try simp only [decide_eq_true_eq, decide_eq_false_iff_not, Bool.not_eq_true', Bool.not_eq_false', Bool.not_eq_eq_eq_not, Bool.not_true, Bool.not_false, Int.not_lt, Int.not_le, Decidable.not_not] at h33
              refine TC.exit ?_
              refine S.x ?_
              refine TC.exitHere ?_
              refine S.n ?_
              refine TC.region ?_
              refine TL.v rfl (OpVal.succ rfl rfl rfl (by omega)) rfl rfl ?_
              refine TL.v rfl (OpVal.moveI (.inl rfl) rfl) rfl rfl ?_
              refine TL.dropN 1 rfl ?_
              refine TL.nil ?_
              refine S.n ?_
              -- leaf 6 next [h7: t22=False; h8: False; h12: False; h17: False; h29: True; h33: True] H=['q28', 'q25', 'q24', 'q11', 'q6', 'q4', 'q2']
              refine ⟨by repeat (first | exact Agr.mask | refine Agr.upd rfl ?_ | refine Agr.maskIn rfl ?_), (g2 + 1, ga2, gc2), ?_, ?_, ?_, ?_, ?_⟩
              · show x.edges.length - (g2 + 1) < x.edges.length - g2; omega
              · show g2 + 1 ≤ x.edges.length; omega
              · repeat (first | exact trivial | refine ⟨rfl, ?_⟩)
              · show _ = [_, Res.cells _ #[.slice _ (catTo x y (g2 + 1)).length _] _, Res.rowS _ _ _ (.slice _ (catTo x y (g2 + 1)).length _) (catTo x y (g2 + 1)), _, _, _, _]
                rw [catTo_f (by omega) k6 h33]; rfl
              · rfl
            · try simp only [decide_eq_true_eq, decide_eq_false_iff_not, Bool.not_eq_true', Bool.not_eq_false', Bool.not_eq_eq_eq_not, Bool.not_true, Bool.not_false, Int.not_lt, Int.not_le, Decidable.not_not] at h33
              refine TC.skip ?_
              refine S.n ?_
              refine TC.seq ?_
              refine TC.region ?_
              refine TL.v rfl (OpVal.moveSl (.inl rfl) rfl) rfl rfl ?_
              refine TL.v rfl (OpVal.lenC rfl Try.underlying22 rfl) rfl rfl ?_
              refine TL.v rfl (OpVal.moveI (.inl rfl) rfl) rfl rfl ?_
              refine TL.nil ?_
              refine S.n ?_
              refine TC.block ?_
              refine TC.loopF (α := Nat × Option Addr × Nat) [17, 95, 96, 97, 98, 99, 100, 101, 102, 103, 104, 105, 106] (fun g => [(95, .int .i64 (g.1 : Nat))]) (fun g => [Res.cells b30 (encE (nth x.edges g2 Arrow.zero)).toArray 80, Res.rowS 3 1 Go.E.encI (.slice a26 (shiftL y.starts x.states).length c27) (shiftL y.starts x.states), Res.cells b21 #[.slice g.2.1 (catTo x y g2 ++ catPut (nth x.edges g2 Arrow.zero) ((shiftL y.starts x.states).take g.1)).length g.2.2] 74, Res.rowS 80 6 encE (.slice g.2.1 (catTo x y g2 ++ catPut (nth x.edges g2 Arrow.zero) ((shiftL y.starts x.states).take g.1)).length g.2.2) (catTo x y g2 ++ catPut (nth x.edges g2 Arrow.zero) ((shiftL y.starts x.states).take g.1)), Res.rowS 4 1 encB (.slice a9 (marksL x.ends x.states.toNat).length c10) (marksL x.ends x.states.toNat), Res.cells b5 (nfaA Nfa.zero NfaP.zero) 25, Res.cells b3 (nfaA y q) 25, Res.cells b1 (nfaA x p) 25]) (fun _ => _) (fun g => g.1 ≤ y.starts.length) (fun g => y.starts.length - g.1) ((0, ga2, gc2)) (by first | exact True.intro | omega | (dsimp only; omega) | (simp; done) | (simp; omega)) (by repeat (first | exact trivial | refine ⟨rfl, ?_⟩)) (by simp only [List.take_zero, catPut, List.map_nil, List.append_nil]) (by rfl) (fun g3 j3 hg3 => ?_)
              obtain ⟨g3, ga3, gc3⟩ := g3
              dsimp only
              have hg3 : g3 ≤ y.starts.length := hg3
              refine TC.seq ?_
              refine TC.region ?_
              refine TL.v rfl (OpVal.lss rfl rfl rfl) rfl rfl ?_
              refine TL.nil ?_
              refine S.n ?_
              refine TC.seq ?_
              refine TC.condD rfl (fun h34 => ?_) (fun h34 => ?_)
              · try simp only [decide_eq_true_eq, decide_eq_false_iff_not, Bool.not_eq_true', Bool.not_eq_false', Bool.not_eq_eq_eq_not, Bool.not_true, Bool.not_false, Int.not_lt, Int.not_le, Decidable.not_not] at h34
                refine TC.skip ?_
                refine S.n ?_
                refine TC.seq ?_
                refine TC.block ?_
                refine TC.seq ?_
                refine TC.region ?_
                refine TL.isSl (i := 1) rfl (fun hs35 _ _ => ?_)
                refine TL.v rfl (OpVal.indexN rfl Try.underlying22 sz3 rfl rfl (by first | assumption | exact (RS.rv (by assumption)).sl) (by omega)) rfl rfl ?_
                refine TL.v rfl (OpVal.loadO1 (0 : Int) rfl ag3 rfl (q := 1) rfl encI_len (by omega) rfl) rfl rfl ?_
                refine TL.v rfl (OpVal.moveI (.inr rfl) rfl) rfl rfl ?_
                refine TL.nil ?_
                refine S.n ?_
                refine TC.region ?_
                refine TL.v rfl (OpVal.moveFn (.inl rfl) rfl) rfl rfl ?_
                refine TL.v rfl (OpVal.fieldLoc rfl fo80_0 rfl) rfl rfl ?_
                refine TL.v rfl (OpVal.loadLoc rfl ag3 rfl (i := 0) rfl rfl) rfl rfl ?_
                refine TL.v rfl (OpVal.moveI (.inl rfl) rfl) rfl rfl ?_
                refine TL.v rfl (OpVal.fieldLoc rfl fo80_2 rfl) rfl rfl ?_
                refine TL.v rfl (OpVal.loadLocA rfl ag28 sz28 rfl (i := 0) rfl rfl rfl) rfl rfl ?_
                refine TL.front 3 rfl rfl ?_
                refine TL.front 3 rfl rfl ?_
                refine TL.op rfl (OpOk.callE (edge_con _ _ _ _ _ _ _ (nth x.edges g2 Arrow.zero).set (by rw [List.length_append, catPut_len, List.length_take]; omega)) rfl rfl pf52 rfl rfl rfl rfl (fun a36 c37 => ?_))
                refine TL.nil ?_
                refine B.n ?_
                refine S.n ?_
                refine TC.region ?_
                refine TL.v rfl (OpVal.succ rfl rfl rfl (by omega)) rfl rfl ?_
                refine TL.v rfl (OpVal.moveI (.inl rfl) rfl) rfl rfl ?_
                refine TL.front 7 rfl rfl ?_
                refine TL.front 7 rfl rfl ?_
                refine TL.front 7 rfl rfl ?_
                refine TL.front 7 rfl rfl ?_
                refine TL.front 5 rfl rfl ?_
                refine TL.front 5 rfl rfl ?_
                refine TL.front 7 rfl rfl ?_
                refine TL.front 7 rfl rfl ?_
                refine TL.nil ?_
                refine S.n ?_
                -- leaf 7 next [h7: t22=False; h8: False; h12: False; h17: False; h29: True; h33: False; h34: True] H=['q31', 'q28', 'q25', 'q24', 'q11', 'q6', 'q4', 'q2']
                refine ⟨by repeat (first | exact Agr.mask | refine Agr.upd rfl ?_ | refine Agr.maskIn rfl ?_), (g3 + 1, a36, c37), ?_, ?_, ?_, ?_, ?_⟩
                · show y.starts.length - (g3 + 1) < y.starts.length - g3; omega
                · show g3 + 1 ≤ y.starts.length; omega
                · repeat (first | exact trivial | refine ⟨rfl, ?_⟩)
                · show _ = [_, _, Res.cells _ #[.slice _ (catTo x y g2 ++ catPut (nth x.edges g2 Arrow.zero) ((shiftL y.starts x.states).take (g3 + 1))).length _] _, Res.rowS _ _ _ (.slice _ (catTo x y g2 ++ catPut (nth x.edges g2 Arrow.zero) ((shiftL y.starts x.states).take (g3 + 1))).length _) (catTo x y g2 ++ catPut (nth x.edges g2 Arrow.zero) ((shiftL y.starts x.states).take (g3 + 1))), _, _, _, _]
                  rw [catPut_snoc (by omega), ← List.append_assoc]; rfl
                · rfl
              · try simp only [decide_eq_true_eq, decide_eq_false_iff_not, Bool.not_eq_true', Bool.not_eq_false', Bool.not_eq_eq_eq_not, Bool.not_true, Bool.not_false, Int.not_lt, Int.not_le, Decidable.not_not] at h34
                refine TC.exit ?_
                refine S.x ?_
                refine S.x ?_
                refine TC.exitHere ?_
                refine B.n ?_
                refine S.n ?_
                refine TC.region ?_
                refine TL.v rfl (OpVal.succ rfl rfl rfl (by omega)) rfl rfl ?_
                refine TL.v rfl (OpVal.moveI (.inl rfl) rfl) rfl rfl ?_
                refine TL.dropN 1 rfl ?_
                refine TL.nil ?_
                refine S.n ?_
                -- leaf 8 next [h7: t22=False; h8: False; h12: False; h17: False; h29: True; h33: False; h34: False] H=['q28', 'q25', 'q24', 'q11', 'q6', 'q4', 'q2']
                have ht : (shiftL y.starts x.states).take g3 = shiftL y.starts x.states := List.take_of_length_le (by omega)
                refine ⟨by repeat (first | exact Agr.mask | refine Agr.upd rfl ?_ | refine Agr.maskIn rfl ?_), (g2 + 1, ga3, gc3), ?_, ?_, ?_, ?_, ?_⟩
                · show x.edges.length - (g2 + 1) < x.edges.length - g2; omega
                · show g2 + 1 ≤ x.edges.length; omega
                · repeat (first | exact trivial | refine ⟨rfl, ?_⟩)
                · show _ = [_, Res.cells _ #[.slice _ (catTo x y (g2 + 1)).length _] _, Res.rowS _ _ _ (.slice _ (catTo x y (g2 + 1)).length _) (catTo x y (g2 + 1)), _, _, _, _]
                  rw [catTo_t (by omega) k6 h33, ht]; rfl
                · rfl
          · try simp only [decide_eq_true_eq, decide_eq_false_iff_not, Bool.not_eq_true', Bool.not_eq_false', Bool.not_eq_eq_eq_not, Bool.not_true, Bool.not_false, Int.not_lt, Int.not_le, Decidable.not_not] at h29
            refine TC.exit ?_
            refine S.x ?_
            refine S.x ?_
            refine TC.exitHere ?_
            refine S.n ?_
            refine TC.seq ?_
            refine TC.draw [10] (by kernel_rfl) ?_
            refine TA.takeP 0 rfl (by kernel_rfl) (by kernel_rfl) (by kernel_rfl) rfl (OpVal.moveI (.inl rfl) rfl) rfl rfl ?_
            refine TA.takeP 1 rfl (by kernel_rfl) (by kernel_rfl) (by kernel_rfl) rfl (OpVal.fieldLoc rfl fo25_1 rfl) rfl rfl ?_
            refine TA.take 2 rfl (by kernel_rfl) (by kernel_rfl) (by kernel_rfl) (by kernel_rfl) rfl (OpVal.loadLoc rfl ag22 rfl (i := 6) rfl rfl) rfl rfl ?_
            refine TA.takeP 4 rfl (by kernel_rfl) (by kernel_rfl) (by kernel_rfl) rfl (OpVal.moveLoc (.inl rfl) rfl) rfl rfl ?_
            refine TA.takeP 5 rfl (by kernel_rfl) (by kernel_rfl) (by kernel_rfl) rfl (OpVal.nilCheckLoc rfl rfl) rfl rfl ?_
            refine TA.takeP 6 rfl (by kernel_rfl) (by kernel_rfl) (by kernel_rfl) rfl (OpVal.fieldLoc rfl fo74_0 rfl) rfl rfl ?_
            refine TA.take 7 rfl (by kernel_rfl) (by kernel_rfl) (by kernel_rfl) (by kernel_rfl) rfl (OpVal.loadLoc rfl ag23 rfl (i := 1) rfl rfl) rfl rfl ?_
            refine TA.act2 3 9 (by kernel_rfl) rfl rfl rfl rfl (OpOk.callR (clone_con _ _ _ _ (by first | exact hx.s | exact hx.e) (by omega)) rfl rfl pf64 rfl rfl rfl (fun a38 c39 => ⟨(fun w h => sees_of (by first | exact Store.le.refl _ | assumption) (fun r hr => (List.mem_cons_of_mem _ hr)) w h), ?_⟩)) (OpOk.alloc rfl ze25 rfl rfl (fun b41 => ⟨(fun w h => sees_of (by first | exact Store.le.refl _ | assumption) (fun r hr => (List.mem_cons_of_mem _ hr)) w h), ?_⟩))
            · skip
              refine TA.takeP 8 rfl (by kernel_rfl) (by kernel_rfl) (by kernel_rfl) rfl (OpVal.buildL rfl pl25 ze25 rfl) rfl rfl ?_
              refine TA.act 9 (by kernel_rfl) rfl rfl (OpOk.alloc rfl ze25 rfl rfl (fun b43 => ⟨(fun w h => sees_of (by first | exact Store.le.refl _ | assumption) (fun r hr => (List.mem_cons_of_mem _ (List.mem_cons_of_mem _ hr))) w h), ?_⟩))
              refine TA.last 10 (by kernel_rfl) rfl rfl rfl (OpOk.storeAll rfl sz25 rfl rfl rfl rfl rfl rfl ?_)
              refine TZ.done (by kernel_rfl) ?_
              refine S.n ?_
              refine TC.seq ?_
              refine TC.seq ?_
              refine TC.region ?_
              refine TL.v rfl (OpVal.loadAll rfl ag25 sz25 rfl (i := 8) rfl rfl) rfl rfl ?_
              refine TL.op rfl (OpOk.callP (nempty_con _ _ _ (by first | exact hx | exact hy) (by first | exact hcx | exact hcy)) rfl rfl pf65 rfl rfl rfl ?_)
              refine TL.nilS 3 1 Go.E.encI ?_
              refine TL.nil ?_
              refine S.n ?_
              refine TC.cond rfl (fun h46 => ?_) (fun h46 => ?_)
              · try simp only [decide_eq_true_eq, decide_eq_false_iff_not, Bool.not_eq_true', Bool.not_eq_false', Bool.not_eq_eq_eq_not, Bool.not_true, Bool.not_false, Int.not_lt, Int.not_le, Decidable.not_not] at h46
                refine TC.region ?_
                refine TL.v rfl (OpVal.fieldLoc rfl fo25_1 rfl) rfl rfl ?_
                refine TL.v rfl (OpVal.loadLoc rfl ag22 rfl (i := 1) rfl rfl) rfl rfl ?_
                refine TL.v rfl (OpVal.moveSl (.inl rfl) rfl) rfl rfl ?_
                refine TL.front 2 rfl rfl ?_
                refine TL.op rfl (OpOk.appendS rfl rfl Try.underlying22 sz3 by3 ze3 rfl rfl (by decide) rfl rfl rfl (.inr ⟨_, 2, rfl⟩) (by (try simp only [List.length_cons, List.length_nil, List.length_append]); omega) (by decide) (fun a47 c48 => ?_))
                refine TL.v rfl (OpVal.fieldLoc rfl fo25_1 rfl) rfl rfl ?_
                refine TL.front 2 rfl rfl ?_
                refine TL.op rfl (OpOk.storeSl rfl sz22 rfl rfl rfl rfl rfl ?_)
                refine TL.nil ?_
                refine S.n ?_
                refine TC.seq ?_
                refine TC.seq ?_
                refine TC.region ?_
                refine TL.v rfl (OpVal.loadAll rfl ag25 sz25 rfl (i := 8) rfl rfl) rfl rfl ?_
                refine TL.op rfl (OpOk.callP (nempty_con _ _ _ (by first | exact hx | exact hy) (by first | exact hcx | exact hcy)) rfl rfl pf65 rfl rfl rfl ?_)
                refine TL.nil ?_
                refine S.n ?_
                refine TC.cond rfl (fun h49 => ?_) (fun h49 => ?_)
                · try simp only [decide_eq_true_eq, decide_eq_false_iff_not, Bool.not_eq_true', Bool.not_eq_false', Bool.not_eq_eq_eq_not, Bool.not_true, Bool.not_false, Int.not_lt, Int.not_le, Decidable.not_not] at h49
                  refine TC.region ?_
                  refine TL.v rfl (OpVal.fieldLoc rfl fo25_2 rfl) rfl rfl ?_
                  refine TL.v rfl (OpVal.loadLoc rfl ag22 rfl (i := 9) rfl rfl) rfl rfl ?_
                  refine TL.op rfl (OpOk.callR (clone_con _ _ _ _ (by first | exact hx.s | exact hx.e) (by omega)) rfl rfl pf64 rfl rfl rfl (fun a50 c51 => ?_))
                  refine TL.v rfl (OpVal.fieldLoc rfl fo25_2 rfl) rfl rfl ?_
                  refine TL.front 1 rfl rfl ?_
                  refine TL.op rfl (OpOk.storeSl rfl sz22 rfl rfl rfl rfl rfl ?_)
                  refine TL.nil ?_
                  refine S.n ?_
                  refine TC.seq ?_
                  refine TC.draw [7, 8, 9] (by kernel_rfl) ?_
                  refine TA.takeP 0 rfl (by kernel_rfl) (by kernel_rfl) (by kernel_rfl) rfl (OpVal.fieldLoc rfl fo25_2 rfl) rfl rfl ?_
                  refine TA.take 1 rfl (by kernel_rfl) (by kernel_rfl) (by kernel_rfl) (by kernel_rfl) rfl (OpVal.loadLoc rfl ag22 rfl (i := 0) rfl rfl) rfl rfl ?_
                  refine TA.takeP 2 rfl (by kernel_rfl) (by kernel_rfl) (by kernel_rfl) rfl (OpVal.fieldLoc rfl fo25_2 rfl) rfl rfl ?_
                  refine TA.take 3 rfl (by kernel_rfl) (by kernel_rfl) (by kernel_rfl) (by kernel_rfl) rfl (OpVal.loadLoc rfl ag22 rfl (i := 9) rfl rfl) rfl rfl ?_
                  refine TA.takeP 4 rfl (by kernel_rfl) (by kernel_rfl) (by kernel_rfl) rfl (OpVal.fieldLoc rfl fo25_0 rfl) rfl rfl ?_
                  refine TA.take 5 rfl (by kernel_rfl) (by kernel_rfl) (by kernel_rfl) (by kernel_rfl) rfl (OpVal.loadLoc rfl ag3 rfl (i := 10) rfl rfl) rfl rfl ?_
                  refine TA.act 6 (by kernel_rfl) rfl rfl (OpOk.callR (shift_con _ _ _ _ _ (by first | exact hy.s | exact hy.e) ⟨k1, by omega⟩ (fun u hu => by first | (have := l4 u hu; omega) | (have := l5 u hu; omega)) (by omega)) rfl rfl pf63 rfl rfl rfl (fun a53 c54 => ⟨(fun w h => sees_of (by first | exact Store.le.refl _ | assumption) (fun r hr => (List.mem_cons_of_mem _ hr)) w h), ?_⟩))
                  refine TA.front 2 rfl rfl ?_
                  refine TA.last 7 (by kernel_rfl) rfl rfl rfl (OpOk.appendS rfl rfl Try.underlying22 sz3 by3 ze3 rfl rfl (by decide) rfl rfl rfl (.inr ⟨_, 0, rfl⟩) (by (try simp only [List.length_cons, List.length_nil, List.length_append]); omega) (by decide) (fun a56 c57 => ?_))
                  refine TZ.v 8 (by kernel_rfl) rfl rfl rfl (OpVal.fieldLoc rfl fo25_2 rfl) rfl rfl ?_
                  refine TZ.front 2 rfl rfl ?_
                  refine TZ.last 9 (by kernel_rfl) rfl rfl rfl (OpOk.storeSl rfl sz22 rfl rfl rfl rfl rfl ?_)
                  refine TZ.done (by kernel_rfl) ?_
                  refine S.n ?_
                  refine TC.seq ?_
                  refine TC.region ?_
                  refine TL.v rfl (OpVal.loadAll rfl ag25 sz25 rfl (i := 0) rfl rfl) rfl rfl ?_
                  refine TL.front 9 rfl rfl ?_
                  refine TL.op rfl (OpOk.storeAll rfl sz25 rfl rfl rfl rfl rfl rfl ?_)
                  refine TL.v rfl (OpVal.moveI (.inr rfl) rfl) rfl rfl ?_
                  refine TL.nil ?_
                  refine S.n ?_
                  refine TC.front 2 rfl rfl ?_
                  refine TC.sealS encI_len (fun τ60 hle59 hr58 => ?_)
                  refine TC.front 2 rfl rfl ?_
                  refine TC.sealS encI_len (fun τ63 hle62 hr61 => ?_)
                  replace hr58 := hr58.mono hle62
                  refine TC.front 2 rfl rfl ?_
                  refine TC.sealS encI_len (fun τ66 hle65 hr64 => ?_)
                  replace hr58 := hr58.mono hle65
                  replace hr61 := hr61.mono hle65
                  refine TC.front 2 rfl rfl ?_
                  refine TC.sealS encI_len (fun τ69 hle68 hr67 => ?_)
                  replace hr58 := hr58.mono hle68
                  replace hr61 := hr61.mono hle68
                  replace hr64 := hr64.mono hle68
                  refine TC.front 2 rfl rfl ?_
                  refine TC.sealS encI_len (fun τ72 hle71 hr70 => ?_)
                  replace hr58 := hr58.mono hle71
                  replace hr61 := hr61.mono hle71
                  replace hr64 := hr64.mono hle71
                  replace hr67 := hr67.mono hle71
                  refine TC.front 3 rfl rfl ?_
                  refine TC.sealS encE_len (fun τ75 hle74 hr73 => ?_)
                  replace hr58 := hr58.mono hle74
                  replace hr61 := hr61.mono hle74
                  replace hr64 := hr64.mono hle74
                  replace hr67 := hr67.mono hle74
                  replace hr70 := hr70.mono hle74
                  refine TC.front 3 rfl rfl ?_
                  refine TC.sealS encB_len (fun τ78 hle77 hr76 => ?_)
                  replace hr58 := hr58.mono hle77
                  replace hr61 := hr61.mono hle77
                  replace hr64 := hr64.mono hle77
                  replace hr67 := hr67.mono hle77
                  replace hr70 := hr70.mono hle77
                  replace hr73 := hr73.mono hle77
                  refine TC.ret ?_
                  -- leaf 9 ret [h7: t22=False; h8: False; h12: False; h17: False; h29: False; h46: True; h49: True] H=['q6', 'q44', 'q25', 'q4', 'q2']
                  obtain rfl : g2 = x.edges.length := by omega
                  have hf : catF x y = true := h17
                  have hN : catR x y = ⟨x.states + y.states, x.starts ++ shiftL y.starts x.states, x.ends ++ shiftL y.ends x.states, catTo x y x.edges.length⟩ := by
                    rw [catR, if_pos (And.intro hcx hcy), if_pos hf, catN, catS, catD, if_pos h46, if_pos h49]
                  have hX : catX x y = 0 := by rw [catX, if_pos (And.intro hcx hcy), if_pos hf]
                  rw [hN, hX]
                  exact retNfa (p := ⟨a47, c48, a56, c57, ga2, gc2⟩) 0 rfl ag25 sz25 rfl rfl rfl rfl ⟨hr64, hr58, hr73, catTo_ok hx.ok hy.ok _⟩
                · try simp only [decide_eq_true_eq, decide_eq_false_iff_not, Bool.not_eq_true', Bool.not_eq_false', Bool.not_eq_eq_eq_not, Bool.not_true, Bool.not_false, Int.not_lt, Int.not_le, Decidable.not_not] at h49
                  refine TC.skip ?_
                  refine S.n ?_
                  refine TC.seq ?_
                  refine TC.draw [7, 8, 9] (by kernel_rfl) ?_
                  refine TA.takeP 0 rfl (by kernel_rfl) (by kernel_rfl) (by kernel_rfl) rfl (OpVal.fieldLoc rfl fo25_2 rfl) rfl rfl ?_
                  refine TA.take 1 rfl (by kernel_rfl) (by kernel_rfl) (by kernel_rfl) (by kernel_rfl) rfl (OpVal.loadLoc rfl ag22 rfl (i := 0) rfl rfl) rfl rfl ?_
                  refine TA.takeP 2 rfl (by kernel_rfl) (by kernel_rfl) (by kernel_rfl) rfl (OpVal.fieldLoc rfl fo25_2 rfl) rfl rfl ?_
                  refine TA.take 3 rfl (by kernel_rfl) (by kernel_rfl) (by kernel_rfl) (by kernel_rfl) rfl (OpVal.loadLoc rfl ag22 rfl (i := 8) rfl rfl) rfl rfl ?_
                  refine TA.takeP 4 rfl (by kernel_rfl) (by kernel_rfl) (by kernel_rfl) rfl (OpVal.fieldLoc rfl fo25_0 rfl) rfl rfl ?_
                  refine TA.take 5 rfl (by kernel_rfl) (by kernel_rfl) (by kernel_rfl) (by kernel_rfl) rfl (OpVal.loadLoc rfl ag3 rfl (i := 9) rfl rfl) rfl rfl ?_
                  refine TA.act 6 (by kernel_rfl) rfl rfl (OpOk.callR (shift_con _ _ _ _ _ (by first | exact hy.s | exact hy.e) ⟨k1, by omega⟩ (fun u hu => by first | (have := l4 u hu; omega) | (have := l5 u hu; omega)) (by omega)) rfl rfl pf63 rfl rfl rfl (fun a79 c80 => ⟨(fun w h => sees_of (by first | exact Store.le.refl _ | assumption) (fun r hr => (List.mem_cons_of_mem _ hr)) w h), ?_⟩))
                  refine TA.front 3 rfl rfl ?_
                  refine TA.last 7 (by kernel_rfl) rfl rfl rfl (OpOk.appendS rfl rfl Try.underlying22 sz3 by3 ze3 rfl rfl (by decide) rfl rfl rfl (.inr ⟨_, 0, rfl⟩) (by (try simp only [List.length_cons, List.length_nil, List.length_append]); omega) (by decide) (fun a82 c83 => ?_))
                  refine TZ.v 8 (by kernel_rfl) rfl rfl rfl (OpVal.fieldLoc rfl fo25_2 rfl) rfl rfl ?_
                  refine TZ.front 2 rfl rfl ?_
                  refine TZ.last 9 (by kernel_rfl) rfl rfl rfl (OpOk.storeSl rfl sz22 rfl rfl rfl rfl rfl ?_)
                  refine TZ.done (by kernel_rfl) ?_
                  refine S.n ?_
                  refine TC.seq ?_
                  refine TC.region ?_
                  refine TL.v rfl (OpVal.loadAll rfl ag25 sz25 rfl (i := 0) rfl rfl) rfl rfl ?_
                  refine TL.front 8 rfl rfl ?_
                  refine TL.op rfl (OpOk.storeAll rfl sz25 rfl rfl rfl rfl rfl rfl ?_)
                  refine TL.v rfl (OpVal.moveI (.inr rfl) rfl) rfl rfl ?_
                  refine TL.nil ?_
                  refine S.n ?_
                  refine TC.front 2 rfl rfl ?_
                  refine TC.sealS encI_len (fun τ86 hle85 hr84 => ?_)
                  refine TC.front 2 rfl rfl ?_
                  refine TC.sealS encI_len (fun τ89 hle88 hr87 => ?_)
                  replace hr84 := hr84.mono hle88
                  refine TC.front 2 rfl rfl ?_
                  refine TC.sealS encI_len (fun τ92 hle91 hr90 => ?_)
                  replace hr84 := hr84.mono hle91
                  replace hr87 := hr87.mono hle91
                  refine TC.front 2 rfl rfl ?_
                  refine TC.sealS encI_len (fun τ95 hle94 hr93 => ?_)
                  replace hr84 := hr84.mono hle94
                  replace hr87 := hr87.mono hle94
                  replace hr90 := hr90.mono hle94
                  refine TC.front 3 rfl rfl ?_
                  refine TC.sealS encE_len (fun τ98 hle97 hr96 => ?_)
                  replace hr84 := hr84.mono hle97
                  replace hr87 := hr87.mono hle97
                  replace hr90 := hr90.mono hle97
                  replace hr93 := hr93.mono hle97
                  refine TC.front 3 rfl rfl ?_
                  refine TC.sealS encB_len (fun τ101 hle100 hr99 => ?_)
                  replace hr84 := hr84.mono hle100
                  replace hr87 := hr87.mono hle100
                  replace hr90 := hr90.mono hle100
                  replace hr93 := hr93.mono hle100
                  replace hr96 := hr96.mono hle100
                  refine TC.ret ?_
                  -- leaf 10 ret [h7: t22=False; h8: False; h12: False; h17: False; h29: False; h46: True; h49: False] H=['q6', 'q44', 'q25', 'q4', 'q2']
                  obtain rfl : g2 = x.edges.length := by omega
                  have hf : catF x y = true := h17
                  have hN : catR x y = ⟨x.states + y.states, x.starts ++ shiftL y.starts x.states, [] ++ shiftL y.ends x.states, catTo x y x.edges.length⟩ := by
                    rw [catR, if_pos (And.intro hcx hcy), if_pos hf, catN, catS, catD, if_pos h46, if_neg (by rw [h49]; exact Bool.false_ne_true)]
                  have hX : catX x y = 0 := by rw [catX, if_pos (And.intro hcx hcy), if_pos hf]
                  rw [hN, hX]
                  exact retNfa (p := ⟨a47, c48, a82, c83, ga2, gc2⟩) 0 rfl ag25 sz25 rfl rfl rfl rfl ⟨hr90, hr84, hr96, catTo_ok hx.ok hy.ok _⟩
              · try simp only [decide_eq_true_eq, decide_eq_false_iff_not, Bool.not_eq_true', Bool.not_eq_false', Bool.not_eq_eq_eq_not, Bool.not_true, Bool.not_false, Int.not_lt, Int.not_le, Decidable.not_not] at h46
                refine TC.skip ?_
                refine S.n ?_
                refine TC.seq ?_
                refine TC.seq ?_
                refine TC.region ?_
                refine TL.v rfl (OpVal.loadAll rfl ag25 sz25 rfl (i := 8) rfl rfl) rfl rfl ?_
                refine TL.op rfl (OpOk.callP (nempty_con _ _ _ (by first | exact hx | exact hy) (by first | exact hcx | exact hcy)) rfl rfl pf65 rfl rfl rfl ?_)
                refine TL.nil ?_
                refine S.n ?_
                refine TC.cond rfl (fun h102 => ?_) (fun h102 => ?_)
                · try simp only [decide_eq_true_eq, decide_eq_false_iff_not, Bool.not_eq_true', Bool.not_eq_false', Bool.not_eq_eq_eq_not, Bool.not_true, Bool.not_false, Int.not_lt, Int.not_le, Decidable.not_not] at h102
                  refine TC.region ?_
                  refine TL.v rfl (OpVal.fieldLoc rfl fo25_2 rfl) rfl rfl ?_
                  refine TL.v rfl (OpVal.loadLoc rfl ag22 rfl (i := 9) rfl rfl) rfl rfl ?_
                  refine TL.op rfl (OpOk.callR (clone_con _ _ _ _ (by first | exact hx.s | exact hx.e) (by omega)) rfl rfl pf64 rfl rfl rfl (fun a103 c104 => ?_))
                  refine TL.v rfl (OpVal.fieldLoc rfl fo25_2 rfl) rfl rfl ?_
                  refine TL.front 2 rfl rfl ?_
                  refine TL.op rfl (OpOk.storeSl rfl sz22 rfl rfl rfl rfl rfl ?_)
                  refine TL.nil ?_
                  refine S.n ?_
                  refine TC.seq ?_
                  refine TC.draw [7, 8, 9] (by kernel_rfl) ?_
                  refine TA.takeP 0 rfl (by kernel_rfl) (by kernel_rfl) (by kernel_rfl) rfl (OpVal.fieldLoc rfl fo25_2 rfl) rfl rfl ?_
                  refine TA.take 1 rfl (by kernel_rfl) (by kernel_rfl) (by kernel_rfl) (by kernel_rfl) rfl (OpVal.loadLoc rfl ag22 rfl (i := 0) rfl rfl) rfl rfl ?_
                  refine TA.takeP 2 rfl (by kernel_rfl) (by kernel_rfl) (by kernel_rfl) rfl (OpVal.fieldLoc rfl fo25_2 rfl) rfl rfl ?_
                  refine TA.take 3 rfl (by kernel_rfl) (by kernel_rfl) (by kernel_rfl) (by kernel_rfl) rfl (OpVal.loadLoc rfl ag22 rfl (i := 9) rfl rfl) rfl rfl ?_
                  refine TA.takeP 4 rfl (by kernel_rfl) (by kernel_rfl) (by kernel_rfl) rfl (OpVal.fieldLoc rfl fo25_0 rfl) rfl rfl ?_
                  refine TA.take 5 rfl (by kernel_rfl) (by kernel_rfl) (by kernel_rfl) (by kernel_rfl) rfl (OpVal.loadLoc rfl ag3 rfl (i := 10) rfl rfl) rfl rfl ?_
                  refine TA.act 6 (by kernel_rfl) rfl rfl (OpOk.callR (shift_con _ _ _ _ _ (by first | exact hy.s | exact hy.e) ⟨k1, by omega⟩ (fun u hu => by first | (have := l4 u hu; omega) | (have := l5 u hu; omega)) (by omega)) rfl rfl pf63 rfl rfl rfl (fun a106 c107 => ⟨(fun w h => sees_of (by first | exact Store.le.refl _ | assumption) (fun r hr => (List.mem_cons_of_mem _ hr)) w h), ?_⟩))
                  refine TA.front 2 rfl rfl ?_
                  refine TA.last 7 (by kernel_rfl) rfl rfl rfl (OpOk.appendS rfl rfl Try.underlying22 sz3 by3 ze3 rfl rfl (by decide) rfl rfl rfl (.inr ⟨_, 0, rfl⟩) (by (try simp only [List.length_cons, List.length_nil, List.length_append]); omega) (by decide) (fun a109 c110 => ?_))
                  refine TZ.v 8 (by kernel_rfl) rfl rfl rfl (OpVal.fieldLoc rfl fo25_2 rfl) rfl rfl ?_
                  refine TZ.front 2 rfl rfl ?_
                  refine TZ.last 9 (by kernel_rfl) rfl rfl rfl (OpOk.storeSl rfl sz22 rfl rfl rfl rfl rfl ?_)
                  refine TZ.done (by kernel_rfl) ?_
                  refine S.n ?_
                  refine TC.seq ?_
                  refine TC.region ?_
                  refine TL.v rfl (OpVal.loadAll rfl ag25 sz25 rfl (i := 0) rfl rfl) rfl rfl ?_
                  refine TL.front 9 rfl rfl ?_
                  refine TL.op rfl (OpOk.storeAll rfl sz25 rfl rfl rfl rfl rfl rfl ?_)
                  refine TL.v rfl (OpVal.moveI (.inr rfl) rfl) rfl rfl ?_
                  refine TL.nil ?_
                  refine S.n ?_
                  refine TC.front 2 rfl rfl ?_
                  refine TC.sealS encI_len (fun τ113 hle112 hr111 => ?_)
                  refine TC.front 2 rfl rfl ?_
                  refine TC.sealS encI_len (fun τ116 hle115 hr114 => ?_)
                  replace hr111 := hr111.mono hle115
                  refine TC.front 2 rfl rfl ?_
                  refine TC.sealS encI_len (fun τ119 hle118 hr117 => ?_)
                  replace hr111 := hr111.mono hle118
                  replace hr114 := hr114.mono hle118
                  refine TC.front 2 rfl rfl ?_
                  refine TC.sealS encI_len (fun τ122 hle121 hr120 => ?_)
                  replace hr111 := hr111.mono hle121
                  replace hr114 := hr114.mono hle121
                  replace hr117 := hr117.mono hle121
                  refine TC.front 2 rfl rfl ?_
                  refine TC.sealS encI_len (fun τ125 hle124 hr123 => ?_)
                  replace hr111 := hr111.mono hle124
                  replace hr114 := hr114.mono hle124
                  replace hr117 := hr117.mono hle124
                  replace hr120 := hr120.mono hle124
                  refine TC.front 3 rfl rfl ?_
                  refine TC.sealS encE_len (fun τ128 hle127 hr126 => ?_)
                  replace hr111 := hr111.mono hle127
                  replace hr114 := hr114.mono hle127
                  replace hr117 := hr117.mono hle127
                  replace hr120 := hr120.mono hle127
                  replace hr123 := hr123.mono hle127
                  refine TC.front 3 rfl rfl ?_
                  refine TC.sealS encB_len (fun τ131 hle130 hr129 => ?_)
                  replace hr111 := hr111.mono hle130
                  replace hr114 := hr114.mono hle130
                  replace hr117 := hr117.mono hle130
                  replace hr120 := hr120.mono hle130
                  replace hr123 := hr123.mono hle130
                  replace hr126 := hr126.mono hle130
                  refine TC.ret ?_
                  -- leaf 11 ret [h7: t22=False; h8: False; h12: False; h17: False; h29: False; h46: False; h102: True] H=['q6', 'q44', 'q25', 'q4', 'q2']
                  obtain rfl : g2 = x.edges.length := by omega
                  have hf : catF x y = true := h17
                  have hN : catR x y = ⟨x.states + y.states, x.starts, x.ends ++ shiftL y.ends x.states, catTo x y x.edges.length⟩ := by
                    rw [catR, if_pos (And.intro hcx hcy), if_pos hf, catN, catS, catD, if_neg (by rw [h46]; exact Bool.false_ne_true), if_pos h102]
                  have hX : catX x y = 0 := by rw [catX, if_pos (And.intro hcx hcy), if_pos hf]
                  rw [hN, hX]
                  exact retNfa (p := ⟨a38, c39, a109, c110, ga2, gc2⟩) 0 rfl ag25 sz25 rfl rfl rfl rfl ⟨hr120, hr111, hr126, catTo_ok hx.ok hy.ok _⟩
                · try simp only [decide_eq_true_eq, decide_eq_false_iff_not, Bool.not_eq_true', Bool.not_eq_false', Bool.not_eq_eq_eq_not, Bool.not_true, Bool.not_false, Int.not_lt, Int.not_le, Decidable.not_not] at h102
                  refine TC.skip ?_
                  refine S.n ?_
                  refine TC.seq ?_
                  refine TC.draw [7, 8, 9] (by kernel_rfl) ?_
                  refine TA.takeP 0 rfl (by kernel_rfl) (by kernel_rfl) (by kernel_rfl) rfl (OpVal.fieldLoc rfl fo25_2 rfl) rfl rfl ?_
                  refine TA.take 1 rfl (by kernel_rfl) (by kernel_rfl) (by kernel_rfl) (by kernel_rfl) rfl (OpVal.loadLoc rfl ag22 rfl (i := 1) rfl rfl) rfl rfl ?_
                  refine TA.takeP 2 rfl (by kernel_rfl) (by kernel_rfl) (by kernel_rfl) rfl (OpVal.fieldLoc rfl fo25_2 rfl) rfl rfl ?_
                  refine TA.take 3 rfl (by kernel_rfl) (by kernel_rfl) (by kernel_rfl) (by kernel_rfl) rfl (OpVal.loadLoc rfl ag22 rfl (i := 8) rfl rfl) rfl rfl ?_
                  refine TA.takeP 4 rfl (by kernel_rfl) (by kernel_rfl) (by kernel_rfl) rfl (OpVal.fieldLoc rfl fo25_0 rfl) rfl rfl ?_
                  refine TA.take 5 rfl (by kernel_rfl) (by kernel_rfl) (by kernel_rfl) (by kernel_rfl) rfl (OpVal.loadLoc rfl ag3 rfl (i := 9) rfl rfl) rfl rfl ?_
                  refine TA.act 6 (by kernel_rfl) rfl rfl (OpOk.callR (shift_con _ _ _ _ _ (by first | exact hy.s | exact hy.e) ⟨k1, by omega⟩ (fun u hu => by first | (have := l4 u hu; omega) | (have := l5 u hu; omega)) (by omega)) rfl rfl pf63 rfl rfl rfl (fun a132 c133 => ⟨(fun w h => sees_of (by first | exact Store.le.refl _ | assumption) (fun r hr => (List.mem_cons_of_mem _ hr)) w h), ?_⟩))
                  refine TA.front 1 rfl rfl ?_
                  refine TA.last 7 (by kernel_rfl) rfl rfl rfl (OpOk.appendS rfl rfl Try.underlying22 sz3 by3 ze3 rfl rfl (by decide) rfl rfl rfl (.inr ⟨_, 0, rfl⟩) (by (try simp only [List.length_cons, List.length_nil, List.length_append]); omega) (by decide) (fun a135 c136 => ?_))
                  refine TZ.v 8 (by kernel_rfl) rfl rfl rfl (OpVal.fieldLoc rfl fo25_2 rfl) rfl rfl ?_
                  refine TZ.front 2 rfl rfl ?_
                  refine TZ.last 9 (by kernel_rfl) rfl rfl rfl (OpOk.storeSl rfl sz22 rfl rfl rfl rfl rfl ?_)
                  refine TZ.done (by kernel_rfl) ?_
                  refine S.n ?_
                  refine TC.seq ?_
                  refine TC.region ?_
                  refine TL.v rfl (OpVal.loadAll rfl ag25 sz25 rfl (i := 0) rfl rfl) rfl rfl ?_
                  refine TL.front 8 rfl rfl ?_
                  refine TL.op rfl (OpOk.storeAll rfl sz25 rfl rfl rfl rfl rfl rfl ?_)
                  refine TL.v rfl (OpVal.moveI (.inr rfl) rfl) rfl rfl ?_
                  refine TL.nil ?_
                  refine S.n ?_
                  refine TC.front 2 rfl rfl ?_
                  refine TC.sealS encI_len (fun τ139 hle138 hr137 => ?_)
                  refine TC.front 2 rfl rfl ?_
                  refine TC.sealS encI_len (fun τ142 hle141 hr140 => ?_)
                  replace hr137 := hr137.mono hle141
                  refine TC.front 2 rfl rfl ?_
                  refine TC.sealS encI_len (fun τ145 hle144 hr143 => ?_)
                  replace hr137 := hr137.mono hle144
                  replace hr140 := hr140.mono hle144
                  refine TC.front 2 rfl rfl ?_
                  refine TC.sealS encI_len (fun τ148 hle147 hr146 => ?_)
                  replace hr137 := hr137.mono hle147
                  replace hr140 := hr140.mono hle147
                  replace hr143 := hr143.mono hle147
                  refine TC.front 3 rfl rfl ?_
                  refine TC.sealS encE_len (fun τ151 hle150 hr149 => ?_)
                  replace hr137 := hr137.mono hle150
                  replace hr140 := hr140.mono hle150
                  replace hr143 := hr143.mono hle150
                  replace hr146 := hr146.mono hle150
                  refine TC.front 3 rfl rfl ?_
                  refine TC.sealS encB_len (fun τ154 hle153 hr152 => ?_)
                  replace hr137 := hr137.mono hle153
                  replace hr140 := hr140.mono hle153
                  replace hr143 := hr143.mono hle153
                  replace hr146 := hr146.mono hle153
                  replace hr149 := hr149.mono hle153
                  refine TC.ret ?_
                  -- leaf 12 ret [h7: t22=False; h8: False; h12: False; h17: False; h29: False; h46: False; h102: False] H=['q6', 'q44', 'q25', 'q4', 'q2']
                  obtain rfl : g2 = x.edges.length := by omega
                  have hf : catF x y = true := h17
                  have hN : catR x y = ⟨x.states + y.states, x.starts, [] ++ shiftL y.ends x.states, catTo x y x.edges.length⟩ := by
                    rw [catR, if_pos (And.intro hcx hcy), if_pos hf, catN, catS, catD, if_neg (by rw [h46]; exact Bool.false_ne_true), if_neg (by rw [h102]; exact Bool.false_ne_true)]
                  have hX : catX x y = 0 := by rw [catX, if_pos (And.intro hcx hcy), if_pos hf]
                  rw [hN, hX]
                  exact retNfa (p := ⟨a38, c39, a135, c136, ga2, gc2⟩) 0 rfl ag25 sz25 rfl rfl rfl rfl ⟨hr143, hr137, hr149, catTo_ok hx.ok hy.ok _⟩
            · skip
              refine TA.act 3 (by kernel_rfl) rfl rfl (OpOk.callR (clone_con _ _ _ _ (by first | exact hx.s | exact hx.e) (by omega)) rfl rfl pf64 rfl rfl rfl (fun a155 c156 => ⟨(fun w h => sees_of (by first | exact Store.le.refl _ | assumption) (fun r hr => (List.mem_cons_of_mem _ (List.mem_cons_of_mem _ hr))) w h), ?_⟩))
              refine TA.takeP 8 rfl (by kernel_rfl) (by kernel_rfl) (by kernel_rfl) rfl (OpVal.buildL rfl pl25 ze25 rfl) rfl rfl ?_
              refine TA.front 1 rfl rfl ?_
              refine TA.last 10 (by kernel_rfl) rfl rfl rfl (OpOk.storeAll rfl sz25 rfl rfl rfl rfl rfl rfl ?_)
              refine TZ.done (by kernel_rfl) ?_
              refine S.n ?_
              refine TC.seq ?_
              refine TC.seq ?_
              refine TC.region ?_
              refine TL.v rfl (OpVal.loadAll rfl ag25 sz25 rfl (i := 8) rfl rfl) rfl rfl ?_
              refine TL.op rfl (OpOk.callP (nempty_con _ _ _ (by first | exact hx | exact hy) (by first | exact hcx | exact hcy)) rfl rfl pf65 rfl rfl rfl ?_)
              refine TL.nilS 3 1 Go.E.encI ?_
              refine TL.nil ?_
              refine S.n ?_
              refine TC.cond rfl (fun h159 => ?_) (fun h159 => ?_)
              · try simp only [decide_eq_true_eq, decide_eq_false_iff_not, Bool.not_eq_true', Bool.not_eq_false', Bool.not_eq_eq_eq_not, Bool.not_true, Bool.not_false, Int.not_lt, Int.not_le, Decidable.not_not] at h159
                refine TC.region ?_
                refine TL.v rfl (OpVal.fieldLoc rfl fo25_1 rfl) rfl rfl ?_
                refine TL.v rfl (OpVal.loadLoc rfl ag22 rfl (i := 1) rfl rfl) rfl rfl ?_
                refine TL.v rfl (OpVal.moveSl (.inl rfl) rfl) rfl rfl ?_
                refine TL.front 2 rfl rfl ?_
                refine TL.op rfl (OpOk.appendS rfl rfl Try.underlying22 sz3 by3 ze3 rfl rfl (by decide) rfl rfl rfl (.inr ⟨_, 2, rfl⟩) (by (try simp only [List.length_cons, List.length_nil, List.length_append]); omega) (by decide) (fun a160 c161 => ?_))
                refine TL.v rfl (OpVal.fieldLoc rfl fo25_1 rfl) rfl rfl ?_
                refine TL.front 2 rfl rfl ?_
                refine TL.op rfl (OpOk.storeSl rfl sz22 rfl rfl rfl rfl rfl ?_)
                refine TL.nil ?_
                refine S.n ?_
                refine TC.seq ?_
                refine TC.seq ?_
                refine TC.region ?_
                refine TL.v rfl (OpVal.loadAll rfl ag25 sz25 rfl (i := 8) rfl rfl) rfl rfl ?_
                refine TL.op rfl (OpOk.callP (nempty_con _ _ _ (by first | exact hx | exact hy) (by first | exact hcx | exact hcy)) rfl rfl pf65 rfl rfl rfl ?_)
                refine TL.nil ?_
                refine S.n ?_
                refine TC.cond rfl (fun h162 => ?_) (fun h162 => ?_)
                · try simp only [decide_eq_true_eq, decide_eq_false_iff_not, Bool.not_eq_true', Bool.not_eq_false', Bool.not_eq_eq_eq_not, Bool.not_true, Bool.not_false, Int.not_lt, Int.not_le, Decidable.not_not] at h162
                  refine TC.region ?_
                  refine TL.v rfl (OpVal.fieldLoc rfl fo25_2 rfl) rfl rfl ?_
                  refine TL.v rfl (OpVal.loadLoc rfl ag22 rfl (i := 9) rfl rfl) rfl rfl ?_
                  refine TL.op rfl (OpOk.callR (clone_con _ _ _ _ (by first | exact hx.s | exact hx.e) (by omega)) rfl rfl pf64 rfl rfl rfl (fun a163 c164 => ?_))
                  refine TL.v rfl (OpVal.fieldLoc rfl fo25_2 rfl) rfl rfl ?_
                  refine TL.front 1 rfl rfl ?_
                  refine TL.op rfl (OpOk.storeSl rfl sz22 rfl rfl rfl rfl rfl ?_)
                  refine TL.nil ?_
                  refine S.n ?_
                  refine TC.seq ?_
                  refine TC.draw [7, 8, 9] (by kernel_rfl) ?_
                  refine TA.takeP 0 rfl (by kernel_rfl) (by kernel_rfl) (by kernel_rfl) rfl (OpVal.fieldLoc rfl fo25_2 rfl) rfl rfl ?_
                  refine TA.take 1 rfl (by kernel_rfl) (by kernel_rfl) (by kernel_rfl) (by kernel_rfl) rfl (OpVal.loadLoc rfl ag22 rfl (i := 0) rfl rfl) rfl rfl ?_
                  refine TA.takeP 2 rfl (by kernel_rfl) (by kernel_rfl) (by kernel_rfl) rfl (OpVal.fieldLoc rfl fo25_2 rfl) rfl rfl ?_
                  refine TA.take 3 rfl (by kernel_rfl) (by kernel_rfl) (by kernel_rfl) (by kernel_rfl) rfl (OpVal.loadLoc rfl ag22 rfl (i := 9) rfl rfl) rfl rfl ?_
                  refine TA.takeP 4 rfl (by kernel_rfl) (by kernel_rfl) (by kernel_rfl) rfl (OpVal.fieldLoc rfl fo25_0 rfl) rfl rfl ?_
                  refine TA.take 5 rfl (by kernel_rfl) (by kernel_rfl) (by kernel_rfl) (by kernel_rfl) rfl (OpVal.loadLoc rfl ag3 rfl (i := 10) rfl rfl) rfl rfl ?_
                  refine TA.act 6 (by kernel_rfl) rfl rfl (OpOk.callR (shift_con _ _ _ _ _ (by first | exact hy.s | exact hy.e) ⟨k1, by omega⟩ (fun u hu => by first | (have := l4 u hu; omega) | (have := l5 u hu; omega)) (by omega)) rfl rfl pf63 rfl rfl rfl (fun a166 c167 => ⟨(fun w h => sees_of (by first | exact Store.le.refl _ | assumption) (fun r hr => (List.mem_cons_of_mem _ hr)) w h), ?_⟩))
                  refine TA.front 2 rfl rfl ?_
                  refine TA.last 7 (by kernel_rfl) rfl rfl rfl (OpOk.appendS rfl rfl Try.underlying22 sz3 by3 ze3 rfl rfl (by decide) rfl rfl rfl (.inr ⟨_, 0, rfl⟩) (by (try simp only [List.length_cons, List.length_nil, List.length_append]); omega) (by decide) (fun a169 c170 => ?_))
                  refine TZ.v 8 (by kernel_rfl) rfl rfl rfl (OpVal.fieldLoc rfl fo25_2 rfl) rfl rfl ?_
                  refine TZ.front 2 rfl rfl ?_
                  refine TZ.last 9 (by kernel_rfl) rfl rfl rfl (OpOk.storeSl rfl sz22 rfl rfl rfl rfl rfl ?_)
                  refine TZ.done (by kernel_rfl) ?_
                  refine S.n ?_
                  refine TC.seq ?_
                  refine TC.region ?_
                  refine TL.v rfl (OpVal.loadAll rfl ag25 sz25 rfl (i := 0) rfl rfl) rfl rfl ?_
                  refine TL.front 9 rfl rfl ?_
                  refine TL.op rfl (OpOk.storeAll rfl sz25 rfl rfl rfl rfl rfl rfl ?_)
                  refine TL.v rfl (OpVal.moveI (.inr rfl) rfl) rfl rfl ?_
                  refine TL.nil ?_
                  refine S.n ?_
                  refine TC.front 2 rfl rfl ?_
                  refine TC.sealS encI_len (fun τ173 hle172 hr171 => ?_)
                  refine TC.front 2 rfl rfl ?_
                  refine TC.sealS encI_len (fun τ176 hle175 hr174 => ?_)
                  replace hr171 := hr171.mono hle175
                  refine TC.front 2 rfl rfl ?_
                  refine TC.sealS encI_len (fun τ179 hle178 hr177 => ?_)
                  replace hr171 := hr171.mono hle178
                  replace hr174 := hr174.mono hle178
                  refine TC.front 2 rfl rfl ?_
                  refine TC.sealS encI_len (fun τ182 hle181 hr180 => ?_)
                  replace hr171 := hr171.mono hle181
                  replace hr174 := hr174.mono hle181
                  replace hr177 := hr177.mono hle181
                  refine TC.front 2 rfl rfl ?_
                  refine TC.sealS encI_len (fun τ185 hle184 hr183 => ?_)
                  replace hr171 := hr171.mono hle184
                  replace hr174 := hr174.mono hle184
                  replace hr177 := hr177.mono hle184
                  replace hr180 := hr180.mono hle184
                  refine TC.front 3 rfl rfl ?_
                  refine TC.sealS encE_len (fun τ188 hle187 hr186 => ?_)
                  replace hr171 := hr171.mono hle187
                  replace hr174 := hr174.mono hle187
                  replace hr177 := hr177.mono hle187
                  replace hr180 := hr180.mono hle187
                  replace hr183 := hr183.mono hle187
                  refine TC.front 3 rfl rfl ?_
                  refine TC.sealS encB_len (fun τ191 hle190 hr189 => ?_)
                  replace hr171 := hr171.mono hle190
                  replace hr174 := hr174.mono hle190
                  replace hr177 := hr177.mono hle190
                  replace hr180 := hr180.mono hle190
                  replace hr183 := hr183.mono hle190
                  replace hr186 := hr186.mono hle190
                  refine TC.ret ?_
                  -- leaf 13 ret [h7: t22=False; h8: False; h12: False; h17: False; h29: False; h159: True; h162: True] H=['q6', 'q42', 'q25', 'q4', 'q2']
                  obtain rfl : g2 = x.edges.length := by omega
                  have hf : catF x y = true := h17
                  have hN : catR x y = ⟨x.states + y.states, x.starts ++ shiftL y.starts x.states, x.ends ++ shiftL y.ends x.states, catTo x y x.edges.length⟩ := by
                    rw [catR, if_pos (And.intro hcx hcy), if_pos hf, catN, catS, catD, if_pos h159, if_pos h162]
                  have hX : catX x y = 0 := by rw [catX, if_pos (And.intro hcx hcy), if_pos hf]
                  rw [hN, hX]
                  exact retNfa (p := ⟨a160, c161, a169, c170, ga2, gc2⟩) 0 rfl ag25 sz25 rfl rfl rfl rfl ⟨hr177, hr171, hr186, catTo_ok hx.ok hy.ok _⟩
                · try simp only [decide_eq_true_eq, decide_eq_false_iff_not, Bool.not_eq_true', Bool.not_eq_false', Bool.not_eq_eq_eq_not, Bool.not_true, Bool.not_false, Int.not_lt, Int.not_le, Decidable.not_not] at h162
                  refine TC.skip ?_
                  refine S.n ?_
                  refine TC.seq ?_
                  refine TC.draw [7, 8, 9] (by kernel_rfl) ?_
                  refine TA.takeP 0 rfl (by kernel_rfl) (by kernel_rfl) (by kernel_rfl) rfl (OpVal.fieldLoc rfl fo25_2 rfl) rfl rfl ?_
                  refine TA.take 1 rfl (by kernel_rfl) (by kernel_rfl) (by kernel_rfl) (by kernel_rfl) rfl (OpVal.loadLoc rfl ag22 rfl (i := 0) rfl rfl) rfl rfl ?_
                  refine TA.takeP 2 rfl (by kernel_rfl) (by kernel_rfl) (by kernel_rfl) rfl (OpVal.fieldLoc rfl fo25_2 rfl) rfl rfl ?_
                  refine TA.take 3 rfl (by kernel_rfl) (by kernel_rfl) (by kernel_rfl) (by kernel_rfl) rfl (OpVal.loadLoc rfl ag22 rfl (i := 8) rfl rfl) rfl rfl ?_
                  refine TA.takeP 4 rfl (by kernel_rfl) (by kernel_rfl) (by kernel_rfl) rfl (OpVal.fieldLoc rfl fo25_0 rfl) rfl rfl ?_
                  refine TA.take 5 rfl (by kernel_rfl) (by kernel_rfl) (by kernel_rfl) (by kernel_rfl) rfl (OpVal.loadLoc rfl ag3 rfl (i := 9) rfl rfl) rfl rfl ?_
                  refine TA.act 6 (by kernel_rfl) rfl rfl (OpOk.callR (shift_con _ _ _ _ _ (by first | exact hy.s | exact hy.e) ⟨k1, by omega⟩ (fun u hu => by first | (have := l4 u hu; omega) | (have := l5 u hu; omega)) (by omega)) rfl rfl pf63 rfl rfl rfl (fun a192 c193 => ⟨(fun w h => sees_of (by first | exact Store.le.refl _ | assumption) (fun r hr => (List.mem_cons_of_mem _ hr)) w h), ?_⟩))
                  refine TA.front 3 rfl rfl ?_
                  refine TA.last 7 (by kernel_rfl) rfl rfl rfl (OpOk.appendS rfl rfl Try.underlying22 sz3 by3 ze3 rfl rfl (by decide) rfl rfl rfl (.inr ⟨_, 0, rfl⟩) (by (try simp only [List.length_cons, List.length_nil, List.length_append]); omega) (by decide) (fun a195 c196 => ?_))
                  refine TZ.v 8 (by kernel_rfl) rfl rfl rfl (OpVal.fieldLoc rfl fo25_2 rfl) rfl rfl ?_
                  refine TZ.front 2 rfl rfl ?_
                  refine TZ.last 9 (by kernel_rfl) rfl rfl rfl (OpOk.storeSl rfl sz22 rfl rfl rfl rfl rfl ?_)
                  refine TZ.done (by kernel_rfl) ?_
                  refine S.n ?_
                  refine TC.seq ?_
                  refine TC.region ?_
                  refine TL.v rfl (OpVal.loadAll rfl ag25 sz25 rfl (i := 0) rfl rfl) rfl rfl ?_
                  refine TL.front 8 rfl rfl ?_
                  refine TL.op rfl (OpOk.storeAll rfl sz25 rfl rfl rfl rfl rfl rfl ?_)
                  refine TL.v rfl (OpVal.moveI (.inr rfl) rfl) rfl rfl ?_
                  refine TL.nil ?_
                  refine S.n ?_
                  refine TC.front 2 rfl rfl ?_
                  refine TC.sealS encI_len (fun τ199 hle198 hr197 => ?_)
                  refine TC.front 2 rfl rfl ?_
                  refine TC.sealS encI_len (fun τ202 hle201 hr200 => ?_)
                  replace hr197 := hr197.mono hle201
                  refine TC.front 2 rfl rfl ?_
                  refine TC.sealS encI_len (fun τ205 hle204 hr203 => ?_)
                  replace hr197 := hr197.mono hle204
                  replace hr200 := hr200.mono hle204
                  refine TC.front 2 rfl rfl ?_
                  refine TC.sealS encI_len (fun τ208 hle207 hr206 => ?_)
                  replace hr197 := hr197.mono hle207
                  replace hr200 := hr200.mono hle207
                  replace hr203 := hr203.mono hle207
                  refine TC.front 3 rfl rfl ?_
                  refine TC.sealS encE_len (fun τ211 hle210 hr209 => ?_)
                  replace hr197 := hr197.mono hle210
                  replace hr200 := hr200.mono hle210
                  replace hr203 := hr203.mono hle210
                  replace hr206 := hr206.mono hle210
                  refine TC.front 3 rfl rfl ?_
                  refine TC.sealS encB_len (fun τ214 hle213 hr212 => ?_)
                  replace hr197 := hr197.mono hle213
                  replace hr200 := hr200.mono hle213
                  replace hr203 := hr203.mono hle213
                  replace hr206 := hr206.mono hle213
                  replace hr209 := hr209.mono hle213
                  refine TC.ret ?_
                  -- leaf 14 ret [h7: t22=False; h8: False; h12: False; h17: False; h29: False; h159: True; h162: False] H=['q6', 'q42', 'q25', 'q4', 'q2']
                  obtain rfl : g2 = x.edges.length := by omega
                  have hf : catF x y = true := h17
                  have hN : catR x y = ⟨x.states + y.states, x.starts ++ shiftL y.starts x.states, [] ++ shiftL y.ends x.states, catTo x y x.edges.length⟩ := by
                    rw [catR, if_pos (And.intro hcx hcy), if_pos hf, catN, catS, catD, if_pos h159, if_neg (by rw [h162]; exact Bool.false_ne_true)]
                  have hX : catX x y = 0 := by rw [catX, if_pos (And.intro hcx hcy), if_pos hf]
                  rw [hN, hX]
                  exact retNfa (p := ⟨a160, c161, a195, c196, ga2, gc2⟩) 0 rfl ag25 sz25 rfl rfl rfl rfl ⟨hr203, hr197, hr209, catTo_ok hx.ok hy.ok _⟩
              · try simp only [decide_eq_true_eq, decide_eq_false_iff_not, Bool.not_eq_true', Bool.not_eq_false', Bool.not_eq_eq_eq_not, Bool.not_true, Bool.not_false, Int.not_lt, Int.not_le, Decidable.not_not] at h159
                refine TC.skip ?_
                refine S.n ?_
                refine TC.seq ?_
                refine TC.seq ?_
                refine TC.region ?_
                refine TL.v rfl (OpVal.loadAll rfl ag25 sz25 rfl (i := 8) rfl rfl) rfl rfl ?_
                refine TL.op rfl (OpOk.callP (nempty_con _ _ _ (by first | exact hx | exact hy) (by first | exact hcx | exact hcy)) rfl rfl pf65 rfl rfl rfl ?_)
                refine TL.nil ?_
                refine S.n ?_
                refine TC.cond rfl (fun h215 => ?_) (fun h215 => ?_)
                · try simp only [decide_eq_true_eq, decide_eq_false_iff_not, Bool.not_eq_true', Bool.not_eq_false', Bool.not_eq_eq_eq_not, Bool.not_true, Bool.not_false, Int.not_lt, Int.not_le, Decidable.not_not] at h215
                  refine TC.region ?_
                  refine TL.v rfl (OpVal.fieldLoc rfl fo25_2 rfl) rfl rfl ?_
                  refine TL.v rfl (OpVal.loadLoc rfl ag22 rfl (i := 9) rfl rfl) rfl rfl ?_
                  refine TL.op rfl (OpOk.callR (clone_con _ _ _ _ (by first | exact hx.s | exact hx.e) (by omega)) rfl rfl pf64 rfl rfl rfl (fun a216 c217 => ?_))
                  refine TL.v rfl (OpVal.fieldLoc rfl fo25_2 rfl) rfl rfl ?_
                  refine TL.front 2 rfl rfl ?_
                  refine TL.op rfl (OpOk.storeSl rfl sz22 rfl rfl rfl rfl rfl ?_)
                  refine TL.nil ?_
                  refine S.n ?_
                  refine TC.seq ?_
                  refine TC.draw [7, 8, 9] (by kernel_rfl) ?_
                  refine TA.takeP 0 rfl (by kernel_rfl) (by kernel_rfl) (by kernel_rfl) rfl (OpVal.fieldLoc rfl fo25_2 rfl) rfl rfl ?_
                  refine TA.take 1 rfl (by kernel_rfl) (by kernel_rfl) (by kernel_rfl) (by kernel_rfl) rfl (OpVal.loadLoc rfl ag22 rfl (i := 0) rfl rfl) rfl rfl ?_
                  refine TA.takeP 2 rfl (by kernel_rfl) (by kernel_rfl) (by kernel_rfl) rfl (OpVal.fieldLoc rfl fo25_2 rfl) rfl rfl ?_
                  refine TA.take 3 rfl (by kernel_rfl) (by kernel_rfl) (by kernel_rfl) (by kernel_rfl) rfl (OpVal.loadLoc rfl ag22 rfl (i := 9) rfl rfl) rfl rfl ?_
                  refine TA.takeP 4 rfl (by kernel_rfl) (by kernel_rfl) (by kernel_rfl) rfl (OpVal.fieldLoc rfl fo25_0 rfl) rfl rfl ?_
                  refine TA.take 5 rfl (by kernel_rfl) (by kernel_rfl) (by kernel_rfl) (by kernel_rfl) rfl (OpVal.loadLoc rfl ag3 rfl (i := 10) rfl rfl) rfl rfl ?_
                  refine TA.act 6 (by kernel_rfl) rfl rfl (OpOk.callR (shift_con _ _ _ _ _ (by first | exact hy.s | exact hy.e) ⟨k1, by omega⟩ (fun u hu => by first | (have := l4 u hu; omega) | (have := l5 u hu; omega)) (by omega)) rfl rfl pf63 rfl rfl rfl (fun a219 c220 => ⟨(fun w h => sees_of (by first | exact Store.le.refl _ | assumption) (fun r hr => (List.mem_cons_of_mem _ hr)) w h), ?_⟩))
                  refine TA.front 2 rfl rfl ?_
                  refine TA.last 7 (by kernel_rfl) rfl rfl rfl (OpOk.appendS rfl rfl Try.underlying22 sz3 by3 ze3 rfl rfl (by decide) rfl rfl rfl (.inr ⟨_, 0, rfl⟩) (by (try simp only [List.length_cons, List.length_nil, List.length_append]); omega) (by decide) (fun a222 c223 => ?_))
                  refine TZ.v 8 (by kernel_rfl) rfl rfl rfl (OpVal.fieldLoc rfl fo25_2 rfl) rfl rfl ?_
                  refine TZ.front 2 rfl rfl ?_
                  refine TZ.last 9 (by kernel_rfl) rfl rfl rfl (OpOk.storeSl rfl sz22 rfl rfl rfl rfl rfl ?_)
                  refine TZ.done (by kernel_rfl) ?_
                  refine S.n ?_
                  refine TC.seq ?_
                  refine TC.region ?_
                  refine TL.v rfl (OpVal.loadAll rfl ag25 sz25 rfl (i := 0) rfl rfl) rfl rfl ?_
                  refine TL.front 9 rfl rfl ?_
                  refine TL.op rfl (OpOk.storeAll rfl sz25 rfl rfl rfl rfl rfl rfl ?_)
                  refine TL.v rfl (OpVal.moveI (.inr rfl) rfl) rfl rfl ?_
                  refine TL.nil ?_
                  refine S.n ?_
                  refine TC.front 2 rfl rfl ?_
                  refine TC.sealS encI_len (fun τ226 hle225 hr224 => ?_)
                  refine TC.front 2 rfl rfl ?_
                  refine TC.sealS encI_len (fun τ229 hle228 hr227 => ?_)
                  replace hr224 := hr224.mono hle228
                  refine TC.front 2 rfl rfl ?_
                  refine TC.sealS encI_len (fun τ232 hle231 hr230 => ?_)
                  replace hr224 := hr224.mono hle231
                  replace hr227 := hr227.mono hle231
                  refine TC.front 2 rfl rfl ?_
                  refine TC.sealS encI_len (fun τ235 hle234 hr233 => ?_)
                  replace hr224 := hr224.mono hle234
                  replace hr227 := hr227.mono hle234
                  replace hr230 := hr230.mono hle234
                  refine TC.front 2 rfl rfl ?_
                  refine TC.sealS encI_len (fun τ238 hle237 hr236 => ?_)
                  replace hr224 := hr224.mono hle237
                  replace hr227 := hr227.mono hle237
                  replace hr230 := hr230.mono hle237
                  replace hr233 := hr233.mono hle237
                  refine TC.front 3 rfl rfl ?_
                  refine TC.sealS encE_len (fun τ241 hle240 hr239 => ?_)
                  replace hr224 := hr224.mono hle240
                  replace hr227 := hr227.mono hle240
                  replace hr230 := hr230.mono hle240
                  replace hr233 := hr233.mono hle240
                  replace hr236 := hr236.mono hle240
                  refine TC.front 3 rfl rfl ?_
                  refine TC.sealS encB_len (fun τ244 hle243 hr242 => ?_)
                  replace hr224 := hr224.mono hle243
                  replace hr227 := hr227.mono hle243
                  replace hr230 := hr230.mono hle243
                  replace hr233 := hr233.mono hle243
                  replace hr236 := hr236.mono hle243
                  replace hr239 := hr239.mono hle243
                  refine TC.ret ?_
                  -- leaf 15 ret [h7: t22=False; h8: False; h12: False; h17: False; h29: False; h159: False; h215: True] H=['q6', 'q42', 'q25', 'q4', 'q2']
                  obtain rfl : g2 = x.edges.length := by omega
                  have hf : catF x y = true := h17
                  have hN : catR x y = ⟨x.states + y.states, x.starts, x.ends ++ shiftL y.ends x.states, catTo x y x.edges.length⟩ := by
                    rw [catR, if_pos (And.intro hcx hcy), if_pos hf, catN, catS, catD, if_neg (by rw [h159]; exact Bool.false_ne_true), if_pos h215]
                  have hX : catX x y = 0 := by rw [catX, if_pos (And.intro hcx hcy), if_pos hf]
                  rw [hN, hX]
                  exact retNfa (p := ⟨a155, c156, a222, c223, ga2, gc2⟩) 0 rfl ag25 sz25 rfl rfl rfl rfl ⟨hr233, hr224, hr239, catTo_ok hx.ok hy.ok _⟩
                · try simp only [decide_eq_true_eq, decide_eq_false_iff_not, Bool.not_eq_true', Bool.not_eq_false', Bool.not_eq_eq_eq_not, Bool.not_true, Bool.not_false, Int.not_lt, Int.not_le, Decidable.not_not] at h215
                  refine TC.skip ?_
                  refine S.n ?_
                  refine TC.seq ?_
                  refine TC.draw [7, 8, 9] (by kernel_rfl) ?_
                  refine TA.takeP 0 rfl (by kernel_rfl) (by kernel_rfl) (by kernel_rfl) rfl (OpVal.fieldLoc rfl fo25_2 rfl) rfl rfl ?_
                  refine TA.take 1 rfl (by kernel_rfl) (by kernel_rfl) (by kernel_rfl) (by kernel_rfl) rfl (OpVal.loadLoc rfl ag22 rfl (i := 1) rfl rfl) rfl rfl ?_
                  refine TA.takeP 2 rfl (by kernel_rfl) (by kernel_rfl) (by kernel_rfl) rfl (OpVal.fieldLoc rfl fo25_2 rfl) rfl rfl ?_
                  refine TA.take 3 rfl (by kernel_rfl) (by kernel_rfl) (by kernel_rfl) (by kernel_rfl) rfl (OpVal.loadLoc rfl ag22 rfl (i := 8) rfl rfl) rfl rfl ?_
                  refine TA.takeP 4 rfl (by kernel_rfl) (by kernel_rfl) (by kernel_rfl) rfl (OpVal.fieldLoc rfl fo25_0 rfl) rfl rfl ?_
                  refine TA.take 5 rfl (by kernel_rfl) (by kernel_rfl) (by kernel_rfl) (by kernel_rfl) rfl (OpVal.loadLoc rfl ag3 rfl (i := 9) rfl rfl) rfl rfl ?_
                  refine TA.act 6 (by kernel_rfl) rfl rfl (OpOk.callR (shift_con _ _ _ _ _ (by first | exact hy.s | exact hy.e) ⟨k1, by omega⟩ (fun u hu => by first | (have := l4 u hu; omega) | (have := l5 u hu; omega)) (by omega)) rfl rfl pf63 rfl rfl rfl (fun a245 c246 => ⟨(fun w h => sees_of (by first | exact Store.le.refl _ | assumption) (fun r hr => (List.mem_cons_of_mem _ hr)) w h), ?_⟩))
                  refine TA.front 1 rfl rfl ?_
                  refine TA.last 7 (by kernel_rfl) rfl rfl rfl (OpOk.appendS rfl rfl Try.underlying22 sz3 by3 ze3 rfl rfl (by decide) rfl rfl rfl (.inr ⟨_, 0, rfl⟩) (by (try simp only [List.length_cons, List.length_nil, List.length_append]); omega) (by decide) (fun a248 c249 => ?_))
                  refine TZ.v 8 (by kernel_rfl) rfl rfl rfl (OpVal.fieldLoc rfl fo25_2 rfl) rfl rfl ?_
                  refine TZ.front 2 rfl rfl ?_
                  refine TZ.last 9 (by kernel_rfl) rfl rfl rfl (OpOk.storeSl rfl sz22 rfl rfl rfl rfl rfl ?_)
                  refine TZ.done (by kernel_rfl) ?_
                  refine S.n ?_
                  refine TC.seq ?_
                  refine TC.region ?_
                  refine TL.v rfl (OpVal.loadAll rfl ag25 sz25 rfl (i := 0) rfl rfl) rfl rfl ?_
                  refine TL.front 8 rfl rfl ?_
                  refine TL.op rfl (OpOk.storeAll rfl sz25 rfl rfl rfl rfl rfl rfl ?_)
                  refine TL.v rfl (OpVal.moveI (.inr rfl) rfl) rfl rfl ?_
                  refine TL.nil ?_
                  refine S.n ?_
                  refine TC.front 2 rfl rfl ?_
                  refine TC.sealS encI_len (fun τ252 hle251 hr250 => ?_)
                  refine TC.front 2 rfl rfl ?_
                  refine TC.sealS encI_len (fun τ255 hle254 hr253 => ?_)
                  replace hr250 := hr250.mono hle254
                  refine TC.front 2 rfl rfl ?_
                  refine TC.sealS encI_len (fun τ258 hle257 hr256 => ?_)
                  replace hr250 := hr250.mono hle257
                  replace hr253 := hr253.mono hle257
                  refine TC.front 2 rfl rfl ?_
                  refine TC.sealS encI_len (fun τ261 hle260 hr259 => ?_)
                  replace hr250 := hr250.mono hle260
                  replace hr253 := hr253.mono hle260
                  replace hr256 := hr256.mono hle260
                  refine TC.front 3 rfl rfl ?_
                  refine TC.sealS encE_len (fun τ264 hle263 hr262 => ?_)
                  replace hr250 := hr250.mono hle263
                  replace hr253 := hr253.mono hle263
                  replace hr256 := hr256.mono hle263
                  replace hr259 := hr259.mono hle263
                  refine TC.front 3 rfl rfl ?_
                  refine TC.sealS encB_len (fun τ267 hle266 hr265 => ?_)
                  replace hr250 := hr250.mono hle266
                  replace hr253 := hr253.mono hle266
                  replace hr256 := hr256.mono hle266
                  replace hr259 := hr259.mono hle266
                  replace hr262 := hr262.mono hle266
                  refine TC.ret ?_
                  -- leaf 16 ret [h7: t22=False; h8: False; h12: False; h17: False; h29: False; h159: False; h215: False] H=['q6', 'q42', 'q25', 'q4', 'q2']
                  obtain rfl : g2 = x.edges.length := by omega
                  have hf : catF x y = true := h17
                  have hN : catR x y = ⟨x.states + y.states, x.starts, [] ++ shiftL y.ends x.states, catTo x y x.edges.length⟩ := by
                    rw [catR, if_pos (And.intro hcx hcy), if_pos hf, catN, catS, catD, if_neg (by rw [h159]; exact Bool.false_ne_true), if_neg (by rw [h215]; exact Bool.false_ne_true)]
                  have hX : catX x y = 0 := by rw [catX, if_pos (And.intro hcx hcy), if_pos hf]
                  rw [hN, hX]
                  exact retNfa (p := ⟨a155, c156, a248, c249, ga2, gc2⟩) 0 rfl ag25 sz25 rfl rfl rfl rfl ⟨hr256, hr250, hr262, catTo_ok hx.ok hy.ok _⟩

end Go.Proofs.Ytcidppnlhhkhhaa
end

/- Ref1 -/
section
/- Contracts of the reference of nfa, part one: text, set, star. -/
set_option linter.unusedVariables false
set_option linter.unusedSimpArgs false
namespace Go.E
open Go
end Go.E
namespace Go.Proofs.Ytcidppnlhhkhhaa
open Go Go.E
set_option maxRecDepth 100000

end Go.Proofs.Ytcidppnlhhkhhaa
end

/- Ref2 -/
section
/- Contracts of the reference of nfa, part two: numbers alike, how often. -/
set_option linter.unusedVariables false
set_option linter.unusedSimpArgs false
namespace Go.Proofs.Ytcidppnlhhkhhaa
open Go Go.E
set_option maxRecDepth 100000

def oftB (least most : Int) : Bool := if most = -1 then decide (least = 0 ∨ least = 1) else decide (0 ≤ least ∧ least ≤ most ∧ most ≤ 64)

theorem often_con (σ : Store) (a b : Int) : Con Try.prog 73 #[.int .i64 a, .int .i64 b] σ [] (PureP (.bool (oftB a b)) σ) := by
  refine Con.mk (n := 24) Try.func73 rfl rfl rfl (fun w0 => ?_)
  refine TC.seq ?_
  refine TC.region ?_
  refine TL.v rfl (OpVal.moveB (.inr rfl) rfl) rfl rfl ?_
  refine TL.nil ?_
  refine S.n ?_
  refine TC.seq ?_
  refine TC.seq ?_
  refine TC.region ?_
  refine TL.v rfl (OpVal.moveI (.inl rfl) rfl) rfl rfl ?_
  refine TL.v rfl (OpVal.eql rfl rfl rfl) rfl rfl ?_
  refine TL.nil ?_
  refine S.n ?_
  refine TC.condD rfl (fun h1 => ?_) (fun h1 => ?_)
  · try simp only [decide_eq_true_eq, decide_eq_false_iff_not, Bool.not_eq_true', Bool.not_eq_false', Bool.not_eq_eq_eq_not, Bool.not_true, Bool.not_false, Int.not_lt, Int.not_le, Decidable.not_not] at h1
    refine TC.seq ?_
    refine TC.region ?_
    refine TL.v rfl (OpVal.moveI (.inl rfl) rfl) rfl rfl ?_
    refine TL.v rfl (OpVal.eql rfl rfl rfl) rfl rfl ?_
    refine TL.v rfl (OpVal.moveB (.inl rfl) rfl) rfl rfl ?_
    refine TL.split 9 rfl (fun h2 => ?_) (fun h2 => ?_)
    · try simp only [decide_eq_true_eq, decide_eq_false_iff_not, Bool.not_eq_true', Bool.not_eq_false', Bool.not_eq_eq_eq_not, Bool.not_true, Bool.not_false, Int.not_lt, Int.not_le, Decidable.not_not] at h2
      refine TL.goff rfl rfl rfl rfl rfl rfl rfl rfl ?_
      refine TL.goff rfl rfl rfl rfl rfl rfl rfl rfl ?_
      refine TL.v rfl (OpVal.pickTB rfl rfl rfl) rfl rfl ?_
      refine TL.v rfl (OpVal.moveB (.inr rfl) rfl) rfl rfl ?_
      refine TL.nil ?_
      refine S.n ?_
      refine TC.ret ?_
      refine S.r ?_
      -- leaf 1 ret [h1: True; h2: t9=True] H=[]
      refine ret1P rfl (congrArg Value.bool ?_)
      unfold oftB
      split <;> first | exact decide_eq_decide.2 (by omega) | (simp <;> omega)
    · try simp only [decide_eq_true_eq, decide_eq_false_iff_not, Bool.not_eq_true', Bool.not_eq_false', Bool.not_eq_eq_eq_not, Bool.not_true, Bool.not_false, Int.not_lt, Int.not_le, Decidable.not_not] at h2
      refine TL.gv rfl rfl rfl rfl rfl (OpVal.moveI (.inl rfl) rfl) rfl rfl ?_
      refine TL.gv rfl rfl rfl rfl rfl (OpVal.eql rfl rfl rfl) rfl rfl ?_
      refine TL.v rfl (OpVal.pickFB rfl rfl rfl) rfl rfl ?_
      refine TL.v rfl (OpVal.moveB (.inr rfl) rfl) rfl rfl ?_
      refine TL.nil ?_
      refine S.n ?_
      refine TC.ret ?_
      refine S.r ?_
      -- leaf 2 ret [h1: True; h2: t9=False] H=[]
      refine ret1P rfl (congrArg Value.bool ?_)
      unfold oftB
      split <;> first | exact decide_eq_decide.2 (by omega) | (simp <;> omega)
  · try simp only [decide_eq_true_eq, decide_eq_false_iff_not, Bool.not_eq_true', Bool.not_eq_false', Bool.not_eq_eq_eq_not, Bool.not_true, Bool.not_false, Int.not_lt, Int.not_le, Decidable.not_not] at h1
    refine TC.skip ?_
    refine S.n ?_
    refine TC.seq ?_
    refine TC.region ?_
    refine TL.v rfl (OpVal.moveI (.inl rfl) rfl) rfl rfl ?_
    refine TL.v rfl (OpVal.leq rfl rfl rfl) rfl rfl ?_
    refine TL.v rfl (OpVal.moveB (.inl rfl) rfl) rfl rfl ?_
    refine TL.split 15 rfl (fun h3 => ?_) (fun h3 => ?_)
    · try simp only [decide_eq_true_eq, decide_eq_false_iff_not, Bool.not_eq_true', Bool.not_eq_false', Bool.not_eq_eq_eq_not, Bool.not_true, Bool.not_false, Int.not_lt, Int.not_le, Decidable.not_not] at h3
      refine TL.gv rfl rfl rfl rfl rfl (OpVal.moveI (.inl rfl) rfl) rfl rfl ?_
      refine TL.gv rfl rfl rfl rfl rfl (OpVal.moveI (.inl rfl) rfl) rfl rfl ?_
      refine TL.gv rfl rfl rfl rfl rfl (OpVal.leq rfl rfl rfl) rfl rfl ?_
      refine TL.v rfl (OpVal.pickTB rfl rfl rfl) rfl rfl ?_
      refine TL.v rfl (OpVal.moveB (.inl rfl) rfl) rfl rfl ?_
      refine TL.split 20 rfl (fun h4 => ?_) (fun h4 => ?_)
      · try simp only [decide_eq_true_eq, decide_eq_false_iff_not, Bool.not_eq_true', Bool.not_eq_false', Bool.not_eq_eq_eq_not, Bool.not_true, Bool.not_false, Int.not_lt, Int.not_le, Decidable.not_not] at h4
        refine TL.gv rfl rfl rfl rfl rfl (OpVal.moveI (.inl rfl) rfl) rfl rfl ?_
        refine TL.gv rfl rfl rfl rfl rfl (OpVal.leq rfl rfl rfl) rfl rfl ?_
        refine TL.v rfl (OpVal.pickTB rfl rfl rfl) rfl rfl ?_
        refine TL.v rfl (OpVal.moveB (.inr rfl) rfl) rfl rfl ?_
        refine TL.nil ?_
        refine S.n ?_
        refine TC.ret ?_
        -- leaf 3 ret [h1: False; h3: t15=True; h4: t20=True] H=[]
        refine ret1P rfl (congrArg Value.bool ?_)
        unfold oftB
        split <;> first | exact decide_eq_decide.2 (by omega) | (simp <;> omega)
      · try simp only [decide_eq_true_eq, decide_eq_false_iff_not, Bool.not_eq_true', Bool.not_eq_false', Bool.not_eq_eq_eq_not, Bool.not_true, Bool.not_false, Int.not_lt, Int.not_le, Decidable.not_not] at h4
        refine TL.goff rfl rfl rfl rfl rfl rfl rfl rfl ?_
        refine TL.goff rfl rfl rfl rfl rfl rfl rfl rfl ?_
        refine TL.v rfl (OpVal.pickFB rfl rfl rfl) rfl rfl ?_
        refine TL.v rfl (OpVal.moveB (.inr rfl) rfl) rfl rfl ?_
        refine TL.nil ?_
        refine S.n ?_
        refine TC.ret ?_
        -- leaf 4 ret [h1: False; h3: t15=True; h4: t20=False] H=[]
        refine ret1P rfl (congrArg Value.bool ?_)
        unfold oftB
        split <;> first | exact decide_eq_decide.2 (by omega) | (simp <;> omega)
    · try simp only [decide_eq_true_eq, decide_eq_false_iff_not, Bool.not_eq_true', Bool.not_eq_false', Bool.not_eq_eq_eq_not, Bool.not_true, Bool.not_false, Int.not_lt, Int.not_le, Decidable.not_not] at h3
      refine TL.goff rfl rfl rfl rfl rfl rfl rfl rfl ?_
      refine TL.goff rfl rfl rfl rfl rfl rfl rfl rfl ?_
      refine TL.goff rfl rfl rfl rfl rfl rfl rfl rfl ?_
      refine TL.v rfl (OpVal.pickFB rfl rfl rfl) rfl rfl ?_
      refine TL.v rfl (OpVal.moveB (.inl rfl) rfl) rfl rfl ?_
      refine TL.goff rfl rfl rfl rfl rfl rfl rfl rfl ?_
      refine TL.goff rfl rfl rfl rfl rfl rfl rfl rfl ?_
      refine TL.v rfl (OpVal.pickFB rfl rfl rfl) rfl rfl ?_
      refine TL.v rfl (OpVal.moveB (.inr rfl) rfl) rfl rfl ?_
      refine TL.nil ?_
      refine S.n ?_
      refine TC.ret ?_
      -- leaf 5 ret [h1: False; h3: t15=False] H=[]
      refine ret1P rfl (congrArg Value.bool ?_)
      unfold oftB
      split <;> first | exact decide_eq_decide.2 (by omega) | (simp <;> omega)

end Go.Proofs.Ytcidppnlhhkhhaa
end

/- Ref3 -/
section
/- Contracts of the reference of nfa, part three: two automatons alike. -/
set_option linter.unusedVariables false
set_option linter.unusedSimpArgs false
namespace Go.E
open Go
instance : DecidableEq Arrow := fun a b => decidable_of_iff (a.frm = b.frm ∧ a.to = b.to ∧ a.set = b.set) (by cases a; cases b; simp)
theorem Arrow.eq_iff (u v : Arrow) : u = v ↔ u.frm = v.frm ∧ u.to = v.to ∧ u.set = v.set := by cases u; cases v; simp
section
variable {P : Program}
variable {n : Nat} {e : Env} {σ : Store} {H : List Res} {o : Oper} {x y : Operand}
end
end Go.E
namespace Go.Proofs.Ytcidppnlhhkhhaa
open Go Go.E
set_option maxRecDepth 100000

end Go.Proofs.Ytcidppnlhhkhhaa
end

/- Ref4 -/
section
/- Contracts of the reference of nfa, part four: one behind another. -/
set_option linter.unusedVariables false
set_option linter.unusedSimpArgs false
namespace Go.Proofs.Ytcidppnlhhkhhaa
open Go Go.E
set_option maxRecDepth 100000

end Go.Proofs.Ytcidppnlhhkhhaa
end

/- Ref5 -/
section
/- Contracts of the reference of nfa, part five: one or the other. -/
set_option linter.unusedVariables false
set_option linter.unusedSimpArgs false
namespace Go.Proofs.Ytcidppnlhhkhhaa
open Go Go.E
set_option maxRecDepth 100000

def altE (x y : Nfa) : List Arrow := x.edges ++ shiftE y.edges x.states
def altN (x y : Nfa) : Nfa := ⟨x.states + y.states, x.starts ++ shiftL y.starts x.states, x.ends ++ shiftL y.ends x.states, altE x y⟩
def altF (x y : Nfa) : Bool := fitB (x.states + y.states) ((x.edges.length : Int) + (y.edges.length : Int))
def altR (x y : Nfa) : Nfa := if checkB x = true ∧ checkB y = true then if altF x y = true then altN x y else Nfa.zero else Nfa.zero
def altX (x y : Nfa) : Int := if checkB x = true ∧ checkB y = true then if altF x y = true then 0 else 2 else 1
end Go.Proofs.Ytcidppnlhhkhhaa
end

/- Ref6 -/
section
/- Contracts of the reference of nfa, part six: text. -/
set_option linter.unusedVariables false
set_option linter.unusedSimpArgs false
namespace Go.Proofs.Ytcidppnlhhkhhaa
open Go Go.E
set_option maxRecDepth 100000

end Go.Proofs.Ytcidppnlhhkhhaa
end

/- Dec3 -/
section
/- Slices whose elements hold slices: read only, and of one's own. Plain lemmas over any program; no condition. -/
set_option linter.unusedVariables false
set_option linter.unusedSimpArgs false
namespace Go.E
open Go

/-- How something that holds addresses lies in cells. -/
structure Pk (α : Type) where
  P : Type
  d : α
  dp : P
  size : Nat
  enc : α → P → List Value
  ok : Store → α → P → Prop
  len : ∀ x p, (enc x p).length = size
  one : ∀ x p, ∀ u ∈ enc x p, u.oneCell' = true
  mono : ∀ {σ τ x p}, Store.le σ τ → ok σ x p → ok τ x p
  zok : ∀ σ, ok σ d dp

section
variable {α : Type}
def Pk.en (K : Pk α) (m : α × K.P) : List Value := K.enc m.1 m.2
theorem Pk.en_len (K : Pk α) (m : α × K.P) : (K.en m).length = K.size := K.len _ _
theorem Pk.en_one (K : Pk α) : ∀ m, ∀ u ∈ K.en m, u.oneCell' = true := fun m => K.one _ _

/-- A list with its addresses. -/
structure ZOk (σ : Store) (K : Pk α) (z : List (α × K.P)) (l : List α) : Prop where
  eq : z.map Prod.fst = l
  ok : ∀ m ∈ z, K.ok σ m.1 m.2
theorem ZOk.mono {σ τ : Store} {K : Pk α} {z : List (α × K.P)} {l : List α} (h : ZOk σ K z l) (hle : σ.le τ) : ZOk τ K z l := ⟨h.eq, fun m hm => K.mono hle (h.ok m hm)⟩
theorem ZOk.nil (σ : Store) (K : Pk α) : ZOk σ K [] [] := ⟨rfl, by simp⟩
theorem ZOk.cons {σ : Store} {K : Pk α} {x : α} {p : K.P} {z : List (α × K.P)} {l : List α} (h : K.ok σ x p) (k : ZOk σ K z l) : ZOk σ K ((x, p) :: z) (x :: l) := ⟨by simp [k.eq], fun m hm => by
  rcases List.mem_cons.1 hm with rfl | hm
  · exact h
  · exact k.ok m hm⟩
theorem ZOk.app {σ : Store} {K : Pk α} {z y : List (α × K.P)} {l m : List α} (h : ZOk σ K z l) (k : ZOk σ K y m) : ZOk σ K (z ++ y) (l ++ m) := ⟨by rw [List.map_append, h.eq, k.eq], fun u hu => by
  rcases List.mem_append.1 hu with hu | hu
  · exact h.ok u hu
  · exact k.ok u hu⟩
theorem ZOk.set {σ : Store} {K : Pk α} {z : List (α × K.P)} {l : List α} {i : Nat} {x : α} {p : K.P} (h : ZOk σ K z l) (k : K.ok σ x p) : ZOk σ K (z.set i (x, p)) (l.set i x) := ⟨by rw [List.map_set, h.eq], fun u hu => by
  rcases List.mem_or_eq_of_mem_set hu with hu | rfl
  · exact h.ok u hu
  · exact k⟩
theorem ZOk.rep (σ : Store) (K : Pk α) (n : Nat) : ZOk σ K (List.replicate n (K.d, K.dp)) (List.replicate n K.d) := ⟨by simp, fun u hu => by
  rw [List.mem_replicate] at hu; rw [hu.2]; exact K.zok σ⟩
theorem ZOk.length {σ : Store} {K : Pk α} {z : List (α × K.P)} {l : List α} (h : ZOk σ K z l) : z.length = l.length := by rw [← h.eq, List.length_map]
theorem ZOk.at {σ : Store} {K : Pk α} {z : List (α × K.P)} {l : List α} (h : ZOk σ K z l) {i : Nat} (hi : i < l.length) : nth z i (K.d, K.dp) = (nth l i K.d, (nth z i (K.d, K.dp)).2) ∧ K.ok σ (nth l i K.d) (nth z i (K.d, K.dp)).2 := by
  have hz : i < z.length := by rw [h.length]; exact hi
  have h1 := getD_some z hz (K.d, K.dp)
  have h2 : (nth z i (K.d, K.dp)).1 = nth l i K.d := by
    have h3 := getD_some l hi K.d
    rw [← h.eq, List.getElem?_map, h1] at h3
    simp only [Option.map_some, Option.some.injEq] at h3
    rw [h3, h.eq]
  refine ⟨by rw [← h2], ?_⟩
  rw [← h2]
  exact h.ok _ (List.mem_of_getElem? h1)

/-- A sealed slice of such. -/
def RZ (σ : Store) (K : Pk α) (v : Value) (l : List α) : Prop := ∃ z : List (α × K.P), ZOk σ K z l ∧ RS σ K.size K.en v z
theorem RZ.mono {σ τ : Store} {K : Pk α} {v : Value} {l : List α} (h : RZ σ K v l) (hle : σ.le τ) : RZ τ K v l := let ⟨z, h1, h2⟩ := h; ⟨z, h1.mono hle, h2.mono hle⟩
theorem RZ.isSl {σ : Store} {K : Pk α} {v : Value} {l : List α} (h : RZ σ K v l) : IsSl v l.length := by
  obtain ⟨z, h1, h2⟩ := h; rw [← h1.length]; exact h2.rv.sl
theorem RZ.big {σ : Store} {K : Pk α} {v : Value} {l : List α} (h : RZ σ K v l) : l.length ≤ 281474976710656 := by
  obtain ⟨z, h1, h2⟩ := h; rw [← h1.length]; exact h2.rv.big
/-- Some cells of a sealed slice. -/
def Seg (σ : Store) (v : Value) (k : Nat) (cs : List Value) : Prop := ∃ a m c, v = .slice (some a) m c ∧ ∀ j u, cs[j]? = some u → σ.cell (a.add (k + j)) = some u
theorem RZ.seg {σ : Store} {K : Pk α} {v : Value} {l : List α} (h : RZ σ K v l) (i : Nat) (hi : i < l.length) : ∃ p : K.P, K.ok σ (nth l i K.d) p ∧ Seg σ v (i * K.size) (K.enc (nth l i K.d) p) := by
  obtain ⟨z, h1, h2⟩ := h
  obtain ⟨e, hok⟩ := h1.at hi
  refine ⟨_, hok, ?_⟩
  have hz : i < z.length := by rw [h1.length]; exact hi
  obtain ⟨a, c, rfl, _⟩ := h2.rv.sl.some hz
  refine ⟨a, _, c, rfl, fun j u hj => ?_⟩
  have hj2 : j < K.size := by have := (List.getElem?_eq_some_iff.1 hj).1; rwa [K.len] at this
  refine h2.rv.cell a _ c rfl _ u ?_
  rw [flatMap_get K.en_len z i j _ (getD_some z hz (K.d, K.dp)) hj2, Pk.en, e]
  exact hj
end

section
variable {P : Program} {n : Nat} {e : Env} {σ : Store} {H : List Res} {o : Oper} {x y : Operand} {α : Type}
theorem OpVal.loadSeg {T k j : Nat} {v u : Value} {cs : List Value} (ho : o.op = .load T x) (hA : aggOf P T = some false) (hx : ev e x = elem v (k + j)) (hS : Seg σ v k cs) (hu : cs[j]? = some u) : OpVal P n o e σ H u := fun w hw => by
  obtain ⟨a, m, c, rfl, h⟩ := hS
  have hc := hw.cell (h j u hu)
  simp [execOp, ho, hx, Instr.loadAt, Instr.sureAddr, elem, run_loadVar_one hA hc]
theorem OpVal.loadSeg0 {T k : Nat} {v u : Value} {cs : List Value} (ho : o.op = .load T x) (hA : aggOf P T = some false) (hx : ev e x = elem v k) (hS : Seg σ v k cs) (hu : cs[0]? = some u) : OpVal P n o e σ H u :=
  OpVal.loadSeg (j := 0) ho hA hx hS hu
theorem OpVal.loadOZA {T E i q s : Nat} {K : Pk α} {v : Value} {z : List (α × K.P)} {l : List α} (hZ : ZOk σ K z l) (ho : o.op = .load T x) (hA : aggOf P T = some true) (hs : szOf P T = some s) (hK : K.size = s) (h0 : 0 < s) (hx : ev e x = elem v (i * K.size)) (hq : H[q]? = some (Res.rowS E K.size K.en v z)) (hi : i < l.length) :
    OpVal P n o e σ H (.agg (K.enc (nth l i K.d) (nth z i (K.d, K.dp)).2).toArray) := by
  subst hK
  have hz : i < z.length := by rw [hZ.length]; exact hi
  obtain ⟨e1, _⟩ := hZ.at hi
  have := OpVal.loadOA (P := P) (n := n) (σ := σ) (K.d, K.dp) ho hA hs hx hq K.en_len hz h0
  rw [Pk.en, e1] at this; exact this
end

/-! ### Slices in a slice -/
def pkSl {α : Type} (size : Nat) (enc : α → List Value) (hl : ∀ x, (enc x).length = size) : Pk (List α) where
  P := Option Addr × Nat
  d := []
  dp := (none, 0)
  size := 1
  enc l p := [.slice p.1 l.length p.2]
  ok σ l p := RS σ size enc (.slice p.1 l.length p.2) l
  len _ _ := rfl
  one _ _ u hu := by simp at hu; subst hu; rfl
  mono hle h := h.mono hle
  zok σ := RS.nilF σ enc hl
def pkNfa : Pk Nfa where
  P := NfaP
  d := Nfa.zero
  dp := NfaP.zero
  size := 4
  enc n p := (nfaA n p).toList
  ok σ n p := RNfa σ n p
  len _ _ := rfl
  one n p u hu := nfaA_one n p u hu
  mono hle h := h.mono hle
  zok σ := RNfa.zero σ

/-! ### Concatenation's steps -/
section
variable {X : Ctx} {e : Env} {σ : Store} {H F : List Res} {o : Oper} {x y : Operand} {K : Env → Store → List Res → Prop} {α : Type}
theorem TL.sealZ {Q : QP} {ops : Array Oper} {ol : List Oper} {E : Nat} {k : Pk α} {v : Value} {z : List (α × k.P)} {l : List α} (hZ : ZOk σ k z l) (h : ∀ σ', σ.le σ' → RZ σ' k v l → TL X ops Q ol e σ' F) : TL X ops Q ol e σ (Res.rowS E k.size k.en v z :: F) :=
  TL.sealS k.en_len fun σ' h1 h2 => h σ' h1 ⟨z, hZ.mono h1, h2⟩
theorem TA.sealZ {Q : QP} {ops : Array Oper} {σr : Store} {Hr : List Res} {late : List Nat} {fuel : Nat} {listed : Array Bool} {E : Nat} {k : Pk α} {v : Value} {z : List (α × k.P)} {l : List α} (hZ : ZOk σ k z l) (h : ∀ σ', σ.le σ' → RZ σ' k v l → TA X ops Q σr Hr late fuel listed e σ' F) : TA X ops Q σr Hr late fuel listed e σ (Res.rowS E k.size k.en v z :: F) :=
  TA.sealS k.en_len fun σ' h1 h2 => h σ' h1 ⟨z, hZ.mono h1, h2⟩
end
end Go.E
namespace Go.E
open Go
section
variable {X : Ctx} {e : Env} {σ : Store} {H F : List Res} {o : Oper} {x y : Operand} {K : Env → Store → List Res → Prop} {α : Type} {k : Pk α} {z w : List (α × k.P)} {l m : List α}
theorem OpOk.appendZ {T E by_ d : Nat} {zv v u : Value} {ty : TypeId} (hZ : ZOk σ k z l) (hY : ZOk σ k w m) (ho : o.op = .call { callee := .builtin .append, args := #[x, y], argTypes := #[T, ty] }) (hty : ty = T) (ht : X.P.underlying T = some (.slice E)) (hs : szOf X.P E = some k.size) (hby : byOf X.P E = some by_) (hz : zeroOf X.P E = some zv)
    (hd : o.dst = some d) (hn : Nat.blt d X.n = true) (hsz : 0 < k.size) (hzs : zv.cells.size = k.size) (hx : ev e x = v) (hy : ev e y = u) (hsrc : SourceS σ F k.size k.en u w) (hb0 : (l.length + m.length) * by_ ≤ 140737488355328) (hby0 : 0 < by_)
    (kk : ∀ a c, ZOk σ k (z ++ w) (l ++ m) → K (upd e d (.slice a (l ++ m).length c)) σ (Res.rowS E k.size k.en (.slice a (l ++ m).length c) (z ++ w) :: F)) : OpOk X o e σ (Res.rowS E k.size k.en v z :: F) K := by
  have hA := hZ.app hY
  refine OpOk.appendS ho hty ht hs hby hz hd hn hsz hzs hx hy hsrc (by rw [hZ.length, hY.length]; exact hb0) hby0 fun a c => ?_
  have := kk a c hA
  rw [← hA.length] at this; exact this
theorem OpOk.litZ {T E size d q : Nat} {parts : Array (Nat × Operand)} {zv : Value} (hZ : ZOk σ k z l) (ho : o.op = .buildSlice T q parts) (ht : X.P.underlying T = some (.slice E)) (hs : szOf X.P E = some size) (hk : k.size = size) (hz : zeroOf X.P E = some zv)
    (hd : o.dst = some d) (hn : Nat.blt d X.n = true) (hm : z.length = q) (h0 : q * size ≠ 0) (hbig : q * size ≤ 16777216)
    (hx0 : zv.cells.toList = k.en (k.d, k.dp)) (h00 : 0 < size)
    (hf : fillL (fun i => some (i * size, size)) ((List.replicate q (k.d, k.dp)).flatMap k.en) (parts.toList.map fun x => (x.1, ev e x.2)) = some (z.flatMap k.en)) (hmax : q ≤ 281474976710656)
    (kk : ∀ a c, K (upd e d (.slice a l.length c)) σ (Res.rowS E k.size k.en (.slice a l.length c) z :: H)) : OpOk X o e σ H K := by
  subst hk
  refine OpOk.lit (enc := k.en) z ho ht hs hz hd hn hm k.en_len h0 hbig (k.d, k.dp) hx0 h00 hf hmax k.en_one fun a c => ?_
  have := kk a c
  rw [← hZ.length] at this; exact this
theorem OpOk.makeZ {T E size by_ d q : Nat} {kl kc : IntKind} {zv : Value} (ho : o.op = .makeSlice T x y) (ht : X.P.underlying T = some (.slice E)) (hs : szOf X.P E = some size) (hk : k.size = size) (hby : byOf X.P E = some by_) (hz : zeroOf X.P E = some zv)
    (hd : o.dst = some d) (hn : Nat.blt d X.n = true) (hx : ev e x = .int kl (q : Nat)) (hy : ev e y = .int kc (q : Nat)) (hb : by_ * q ≤ 281474976710656) (hby0 : 0 < by_) (h0 : 0 < size)
    (hz0 : zv.cells.toList = k.en (k.d, k.dp)) (kk : ∀ a c, ZOk σ k (List.replicate q (k.d, k.dp)) (List.replicate q k.d) → K (upd e d (.slice a (List.replicate q k.d).length c)) σ (Res.rowS E k.size k.en (.slice a (List.replicate q k.d).length c) (List.replicate q (k.d, k.dp)) :: H)) : OpOk X o e σ H K := by
  subst hk
  have hZ := ZOk.rep σ k q
  refine OpOk.makeS2 (enc := k.en) (k.d, k.dp) ho ht hs hby hz hd hn hx hy hb hby0 k.en_len h0 hz0 k.en_one fun a c => ?_
  have := kk a c hZ
  rw [← hZ.length] at this; exact this
end
theorem ZOk.isSl {α : Type} {σ : Store} {k : Pk α} {z : List (α × k.P)} {l : List α} {v : Value} (h : ZOk σ k z l) (hs : IsSl v z.length) : IsSl v l.length := h.length ▸ hs
end Go.E
end
