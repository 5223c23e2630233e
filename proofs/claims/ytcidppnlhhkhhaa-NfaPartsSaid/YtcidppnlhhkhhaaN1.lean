/- Decompiled: what an automaton takes; the reference's text. -/
import Derived.Test.YtcidppnlhhkhhaaNfa6
import Derived.Test.YtcidppnlhhkhhaaRef6
import Derived.Test.YtcidppnlhhkhhaaDec2
set_option linter.unusedVariables false
set_option linter.unusedSimpArgs false
namespace Go.Proofs.Ytcidppnlhhkhhaa
open Go Go.E
set_option maxRecDepth 100000
private theorem pf26 : Go.E.plainF Try.prog 26 = true := by kernel_rfl
private theorem pf54 : Go.E.plainF Try.prog 54 = true := by kernel_rfl
private theorem pf58 : Go.E.plainF Try.prog 58 = true := by kernel_rfl
private theorem pl83 : Go.E.plOf Try.prog 83 = some #[] := by kernel_rfl
private theorem sz83 : Go.E.szOf Try.prog 83 = some 0 := by kernel_rfl
private theorem ze83 : Go.E.zeroOf Try.prog 83 = some (.agg #[]) := by kernel_rfl

noncomputable def nfa_Takes_j2 (k137 : Nat) (m139 : List Int) : Option (((List Int) × Nat) ⊕ (((List Int) × Nat) ⊕ (Bool × Int))) :=
  nxt (m139, (k137 + 1))
noncomputable def nfa_Takes_b3 (x0 : Nfa) (m125 : List Int) (x1 : List UInt8) (k127 : Nat) (m136 : List Int) (k137 : Nat) : Option (((List Int) × Nat) ⊕ (((List Int) × Nat) ⊕ (Bool × Int))) :=
  iteO (decide (((k137 : Nat) : Int) < ((x0.edges.length : Nat) : Int))) (iteO (!(m125.contains ((nth x0.edges k137 Arrow.zero).frm))) (nfa_Takes_j2 k137 m136) (iteO (((nth x0.edges k137 Arrow.zero).set).has (nth x1 k127 (0 : UInt8)).toNat) (nfa_Takes_j2 k137 (insK m136 ((nth x0.edges k137 Arrow.zero).to))) (nfa_Takes_j2 k137 m136))) (fin (nxt (m136, (k127 + 1))))
noncomputable def nfa_Takes_b4 (x0 : Nfa) (m114 : List Int) (k150 : Nat) : Option ((Nat) ⊕ (Bool × Int)) :=
  iteO (decide (((k150 : Nat) : Int) < ((x0.ends.length : Nat) : Int))) (iteO (m114.contains (nth x0.ends k150 (0 : Int))) (fin (some (true, 0))) (nxt (k150 + 1))) (fin (some (false, 0)))
noncomputable def nfa_Takes_j1 (x0 : Nfa) (m114 : List Int) : Option (Bool × Int) :=
  iter (fun q : Nat => nfa_Takes_b4 x0 m114 q) 0
noncomputable def nfa_Takes_b2 (x1 : List UInt8) (x0 : Nfa) (m125 : List Int) (k127 : Nat) : Option (((List Int) × Nat) ⊕ (Bool × Int)) :=
  iteO (decide (((k127 : Nat) : Int) < ((x1.length : Nat) : Int))) (iteO (decide (0 < ((m125.length : Nat) : Int))) (iter (fun q : (List Int) × Nat => nfa_Takes_b3 x0 m125 x1 k127 q.1 q.2) (([] : List Int), 0)) (fin (nfa_Takes_j1 x0 m125))) (fin (nfa_Takes_j1 x0 m125))
noncomputable def nfa_Takes_b1 (x0 : Nfa) (x1 : List UInt8) (m110 : List Int) (k111 : Nat) : Option (((List Int) × Nat) ⊕ (Bool × Int)) :=
  iteO (decide (((k111 : Nat) : Int) < ((x0.starts.length : Nat) : Int))) (nxt ((insK m110 (nth x0.starts k111 (0 : Int))), (k111 + 1))) (fin (iter (fun q : (List Int) × Nat => nfa_Takes_b2 x1 x0 q.1 q.2) (m110, 0)))
noncomputable def nfa_Takes (x0 : Nfa) (x1 : List UInt8) : Option (Bool × Int) :=
  grd (x1.length ≤ 281474976710656) (iteO (decide ((errB (checkB x0)) ≠ 0)) (some (false, 1)) (iter (fun q : (List Int) × Nat => nfa_Takes_b1 x0 x1 q.1 q.2) (([] : List Int), 0)))
theorem nfa_Takes_con {σ : Store} {x0 : Nfa} {a0_0 : Option Addr} {c0_0 : Nat} {a0_1 : Option Addr} {c0_1 : Nat} {a0_2 : Option Addr} {c0_2 : Nat} {x1 : List UInt8} (f0_0 : RS σ 1 encI (.slice a0_0 x0.starts.length c0_0) x0.starts) (f0_1 : RS σ 1 encI (.slice a0_1 x0.ends.length c0_1) x0.ends) (f0_2 : RS σ 6 encE (.slice a0_2 x0.edges.length c0_2) x0.edges) {r : Bool × Int} (hh : nfa_Takes x0 x1 = some r) :
    Con Try.prog 23 #[.agg #[.int .i64 x0.states, .slice a0_0 x0.starts.length c0_0, .slice a0_1 x0.ends.length c0_1, .slice a0_2 x0.edges.length c0_2], .string (bs x1)] σ [] (PureP (.tuple #[.bool r.1, .int .i64 r.2]) σ) := by
  dsimp only [nfa_Takes] at hh
  have f0_0b := f0_0.rv.big
  have f0_1b := f0_1.rv.big
  have f0_2b := f0_2.rv.big
  refine Con.mk (n := 89) Try.func23 rfl rfl rfl (fun w0 => ?_)
  have x1b := grd_c hh
  replace hh := grd_t hh
  refine TC.seq ?_
  refine TC.region ?_
  refine TL.op rfl (OpOk.boxA rfl rfl rfl rfl (fun b101 => ?_))
  refine TL.v rfl (OpVal.moveB (.inr rfl) rfl) rfl rfl ?_
  refine TL.v rfl (OpVal.moveI (.inr rfl) rfl) rfl rfl ?_
  refine TL.nil ?_
  refine S.n ?_
  refine TC.seq ?_
  refine TC.seq ?_
  refine TC.region ?_
  refine TL.v rfl (OpVal.loadAll rfl ag25 sz25 rfl (i := 0) rfl rfl) rfl rfl ?_
  refine TL.op rfl (OpOk.callP (check_con _ x0 ⟨a0_0, c0_0, a0_1, c0_1, a0_2, c0_2⟩ ⟨f0_0, f0_1, f0_2, fun x _ => x.set.isOk⟩) rfl rfl pf18 rfl rfl rfl ?_)
  refine TL.v rfl (OpVal.neq rfl rfl rfl) rfl rfl ?_
  refine TL.nil ?_
  refine S.n ?_
  refine TC.cond rfl (fun h103 => ?_) (fun h103 => ?_)
  · replace hh := iteO_t h103 hh
    replace h103 := of_decide_eq_true h103
    refine TC.seq ?_
    refine TC.region ?_
    refine TL.v rfl (OpVal.moveB (.inr rfl) rfl) rfl rfl ?_
    refine TL.v rfl (OpVal.moveI (.inr rfl) rfl) rfl rfl ?_
    refine TL.nil ?_
    refine S.n ?_
    refine TC.ofSub (Sub.pre 0 rfl) ?_
    refine TC.ret ?_
    refine S.r ?_
    obtain rfl := Option.some.inj hh
    exact RetOk.mk' (rs := [.tmp 4, .tmp 5]) [] rfl (.inl rfl) (RVs.tmp rfl (RVs.tmp rfl RVs.nil)) (List.sublist_append_left _ _) ⟨rfl, rfl, rfl⟩
  · replace hh := iteO_f h103 hh
    replace h103 := of_decide_eq_false h103
    refine TC.skip ?_
    refine S.n ?_
    refine TC.seq ?_
    refine TC.region ?_
    refine TL.op rfl (OpOk.makeMapS (enc := keyI) rfl rfl rfl (fun b104 => ?_))
    refine TL.v rfl (OpVal.moveMap (.inr rfl) rfl) rfl rfl ?_
    refine TL.nil ?_
    refine S.n ?_
    refine TC.seq ?_
    refine TC.seq ?_
    refine TC.region ?_
    refine TL.v rfl (OpVal.fieldLoc rfl fo25_1 rfl) rfl rfl ?_
    refine TL.v rfl (OpVal.loadLoc rfl ag22 rfl (i := 1) rfl rfl) rfl rfl ?_
    refine TL.v rfl (OpVal.lenC rfl Try.underlying22 rfl) rfl rfl ?_
    refine TL.v rfl (OpVal.moveI (.inl rfl) rfl) rfl rfl ?_
    refine TL.nil ?_
    refine S.n ?_
    refine TC.block ?_
    refine TC.loopG (α := ((List Int) × Nat) × (Unit)) [8, 26, 27, 28, 29, 30, 31, 32, 33] (fun g => [(26, .int .i64 ((g.1.2 : Nat) : Int))]) (fun g => [Res.cells b101 #[.int .i64 x0.states, .slice a0_0 x0.starts.length c0_0, .slice a0_1 x0.ends.length c0_1, .slice a0_2 x0.edges.length c0_2] 25, Res.setS keyI b104 g.1.1]) (fun g => σ) (fun g => iter (fun q : (List Int) × Nat => nfa_Takes_b1 x0 x1 q.1 q.2) g.1 = some r) (fun g => rounds (fun q : (List Int) × Nat => nfa_Takes_b1 x0 x1 q.1 q.2) g.1) ((([] : List Int), 0), ()) (Sub.front 1 rfl rfl (Sub.pre 2 rfl)) rfl (by repeat (first | exact trivial | refine ⟨rfl, ?_⟩)) hh (fun g1 j1 hg1 => ?_)
    obtain ⟨⟨m110, k111⟩, _⟩ := g1
    have hh := hg1; clear hg1
    show TC _ _ _ (upds (mask _ j1 _) [(26, .int .i64 ((k111 : Nat) : Int))]) _ [Res.cells b101 #[.int .i64 x0.states, .slice a0_0 x0.starts.length c0_0, .slice a0_1 x0.ends.length c0_1, .slice a0_2 x0.edges.length c0_2] 25, Res.setS keyI b104 m110]
    obtain ⟨z1, hh, hR1⟩ := iter_e hh
    dsimp only [nfa_Takes_b1] at hh
    refine TC.seq ?_
    refine TC.region ?_
    refine TL.v rfl (OpVal.lss rfl rfl rfl) rfl rfl ?_
    refine TL.nil ?_
    refine S.n ?_
    refine TC.seq ?_
    refine TC.cond rfl (fun h112 => ?_) (fun h112 => ?_)
    · replace hh := iteO_t h112 hh
      replace h112 := of_decide_eq_true h112
      refine TC.skip ?_
      refine S.n ?_
      refine TC.seq ?_
      refine TC.block ?_
      refine TC.seq ?_
      refine TC.region ?_
      refine TL.v rfl (OpVal.indexN rfl Try.underlying22 sz3 rfl rfl f0_0.rv.sl (by omega)) rfl rfl ?_
      refine TL.v rfl (OpVal.loadS1 (0 : Int) rfl ag3 rfl f0_0 (by omega) rfl) rfl rfl ?_
      refine TL.v rfl (OpVal.moveI (.inr rfl) rfl) rfl rfl ?_
      refine TL.nil ?_
      refine S.n ?_
      refine TC.region ?_
      refine TL.v rfl (OpVal.moveMap (.inl rfl) rfl) rfl rfl ?_
      refine TL.v rfl (OpVal.moveI (.inl rfl) rfl) rfl rfl ?_
      refine TL.v rfl (OpVal.buildL rfl pl83 ze83 rfl) rfl rfl ?_
      refine TL.front 1 rfl rfl ?_
      refine TL.op rfl (OpOk.updSet (nth x0.starts k111 (0 : Int)) rfl Try.underlying82 rfl rfl rfl rfl (keyI_law Try.underlying3) ?_)
      refine TL.nil ?_
      refine B.n ?_
      refine S.n ?_
      refine TC.region ?_
      refine TL.v rfl (OpVal.succ rfl rfl rfl (by omega)) rfl rfl ?_
      refine TL.v rfl (OpVal.moveI (.inl rfl) rfl) rfl rfl ?_
      refine TL.nil ?_
      refine S.n ?_
      obtain ⟨hh, hlt113⟩ := nxt_x hR1 hh
      refine ⟨by repeat (first | exact Agr.refl _ _ | exact Agr.mask | refine Agr.upd rfl ?_ | refine Agr.maskIn rfl ?_ | refine Agr.upds rfl ?_), (((insK m110 (nth x0.starts k111 (0 : Int))), (k111 + 1)), ()), hlt113, hh, by repeat (first | exact trivial | refine ⟨rfl, ?_⟩), Sub.front 1 rfl rfl (Sub.pre 2 rfl), rfl⟩
    · replace hh := iteO_f h112 hh
      replace h112 := of_decide_eq_false h112
      refine TC.exit ?_
      refine S.x ?_
      refine S.x ?_
      replace hh := fin_x hR1 hh
      refine TC.exitHere ?_
      refine S.n ?_
      refine TC.cutG (α := ((List Int)) × (Nat)) [6, 9, 10, 12, 13, 14, 34, 35, 36, 37, 38, 39, 40, 41, 42, 43, 44, 45, 46, 47, 48, 49, 50, 51, 52, 53, 54, 55, 56, 57, 58, 59, 60, 61, 62, 63, 64, 65, 66, 67, 68, 69, 70, 71, 72, 73] (fun g => [(6, .map (some g.2))]) (fun g => [Res.cells b101 #[.int .i64 x0.states, .slice a0_0 x0.starts.length c0_0, .slice a0_1 x0.ends.length c0_1, .slice a0_2 x0.edges.length c0_2] 25, Res.setS keyI g.2 g.1]) (fun g => σ) (fun g => nfa_Takes_j1 x0 g.1 = some r) ?_ (fun g j hg => ?_)
      · skip
        refine TC.seq ?_
        refine TC.region ?_
        refine TL.v rfl (OpVal.moveI (.inr rfl) rfl) rfl rfl ?_
        refine TL.nil ?_
        refine S.n ?_
        refine TC.block ?_
        refine TC.loopG (α := ((List Int) × Nat) × (Nat)) [6, 9, 10, 12, 13, 14, 34, 35, 36, 37, 38, 39, 40, 41, 42, 43, 44, 45, 46, 47, 48, 49, 50, 51, 52, 53, 54, 55, 56, 57, 58, 59, 60, 61, 62, 63, 64, 65, 66, 67, 68, 69, 70, 71, 72, 73] (fun g => [(6, .map (some g.2)), (9, .int .i64 ((g.1.2 : Nat) : Int))]) (fun g => [Res.cells b101 #[.int .i64 x0.states, .slice a0_0 x0.starts.length c0_0, .slice a0_1 x0.ends.length c0_1, .slice a0_2 x0.edges.length c0_2] 25, Res.setS keyI g.2 g.1.1]) (fun g => σ) (fun g => iter (fun q : (List Int) × Nat => nfa_Takes_b2 x1 x0 q.1 q.2) g.1 = some r) (fun g => rounds (fun q : (List Int) × Nat => nfa_Takes_b2 x1 x0 q.1 q.2) g.1) ((m110, 0), b104) (Sub.front 1 rfl rfl (Sub.front 1 rfl rfl (Sub.pre 2 rfl))) rfl (by repeat (first | exact trivial | refine ⟨rfl, ?_⟩)) hh (fun g2 j2 hg2 => ?_)
        obtain ⟨⟨m125, k127⟩, b126⟩ := g2
        have hh := hg2; clear hg2
        show TC _ _ _ (upds (mask _ j2 _) [(6, .map (some b126)), (9, .int .i64 ((k127 : Nat) : Int))]) _ [Res.cells b101 #[.int .i64 x0.states, .slice a0_0 x0.starts.length c0_0, .slice a0_1 x0.ends.length c0_1, .slice a0_2 x0.edges.length c0_2] 25, Res.setS keyI b126 m125]
        obtain ⟨z1, hh, hR1⟩ := iter_e hh
        dsimp only [nfa_Takes_b2] at hh
        refine TC.seq ?_
        refine TC.seq ?_
        refine TC.region ?_
        refine TL.v rfl (OpVal.moveI (.inl rfl) rfl) rfl rfl ?_
        refine TL.v rfl (OpVal.moveStr (.inl rfl) rfl) rfl rfl ?_
        refine TL.v rfl (OpVal.lenBs rfl Try.underlying9 rfl) rfl rfl ?_
        refine TL.v rfl (OpVal.lss rfl rfl rfl) rfl rfl ?_
        refine TL.v rfl (OpVal.moveB (.inl rfl) rfl) rfl rfl ?_
        refine TL.split 38 rfl (fun h128 => ?_) (fun h128 => ?_)
        · replace hh := iteO_t h128 hh
          replace h128 := of_decide_eq_true h128
          refine TL.gv rfl rfl rfl rfl rfl (OpVal.moveMap (.inl rfl) rfl) rfl rfl ?_
          refine TL.gv rfl rfl rfl rfl rfl (OpVal.lenSet rfl Try.underlying82 rfl (i := 1) rfl) rfl rfl ?_
          refine TL.gv rfl rfl rfl rfl rfl (OpVal.gtr rfl rfl rfl) rfl rfl ?_
          refine TL.v rfl (OpVal.pickTB rfl rfl rfl) rfl rfl ?_
          refine TL.nil ?_
          refine S.n ?_
          refine TC.cond rfl (fun h129 => ?_) (fun h129 => ?_)
          · replace hh := iteO_t h129 hh
            replace h129 := of_decide_eq_true h129
            refine TC.skip ?_
            refine S.n ?_
            refine TC.seq ?_
            refine TC.block ?_
            refine TC.scope ?_
            refine TC.seq ?_
            refine TC.region ?_
            refine TL.op rfl (OpOk.makeMapS (enc := keyI) rfl rfl rfl (fun b130 => ?_))
            refine TL.v rfl (OpVal.moveMap (.inr rfl) rfl) rfl rfl ?_
            refine TL.nil ?_
            refine S.n ?_
            refine TC.seq ?_
            refine TC.label ?_
            refine S.n ?_
            refine TC.seq ?_
            refine TC.seq ?_
            refine TC.region ?_
            refine TL.v rfl (OpVal.fieldLoc rfl fo25_3 rfl) rfl rfl ?_
            refine TL.v rfl (OpVal.loadLoc rfl ag23 rfl (i := 1) rfl rfl) rfl rfl ?_
            refine TL.v rfl (OpVal.lenC rfl Try.underlying23 rfl) rfl rfl ?_
            refine TL.v rfl (OpVal.moveI (.inl rfl) rfl) rfl rfl ?_
            refine TL.nil ?_
            refine S.n ?_
            refine TC.block ?_
            refine TC.loopG (α := ((List Int) × Nat) × (Unit)) [12, 13, 14, 49, 50, 51, 52, 53, 54, 55, 56, 57, 58, 59, 60, 61, 62, 63, 64, 65, 66, 67, 68, 69, 70, 71, 72] (fun g => [(49, .int .i64 ((g.1.2 : Nat) : Int))]) (fun g => [Res.cells b101 #[.int .i64 x0.states, .slice a0_0 x0.starts.length c0_0, .slice a0_1 x0.ends.length c0_1, .slice a0_2 x0.edges.length c0_2] 25, Res.setS keyI b126 m125, Res.setS keyI b130 g.1.1]) (fun g => σ) (fun g => iter (fun q : (List Int) × Nat => nfa_Takes_b3 x0 m125 x1 k127 q.1 q.2) g.1 = some z1) (fun g => rounds (fun q : (List Int) × Nat => nfa_Takes_b3 x0 m125 x1 k127 q.1 q.2) g.1) ((([] : List Int), 0), ()) (Sub.front 2 rfl rfl (Sub.front 2 rfl rfl (Sub.pre 3 rfl))) rfl (by repeat (first | exact trivial | refine ⟨rfl, ?_⟩)) hh (fun g3 j3 hg3 => ?_)
            obtain ⟨⟨m136, k137⟩, _⟩ := g3
            have hh := hg3; clear hg3
            show TC _ _ _ (upds (mask _ j3 _) [(49, .int .i64 ((k137 : Nat) : Int))]) _ [Res.cells b101 #[.int .i64 x0.states, .slice a0_0 x0.starts.length c0_0, .slice a0_1 x0.ends.length c0_1, .slice a0_2 x0.edges.length c0_2] 25, Res.setS keyI b126 m125, Res.setS keyI b130 m136]
            obtain ⟨z2, hh, hR2⟩ := iter_e hh
            dsimp only [nfa_Takes_b3] at hh
            refine TC.seq ?_
            refine TC.region ?_
            refine TL.v rfl (OpVal.lss rfl rfl rfl) rfl rfl ?_
            refine TL.nil ?_
            refine S.n ?_
            refine TC.seq ?_
            refine TC.cond rfl (fun h138 => ?_) (fun h138 => ?_)
            · replace hh := iteO_t h138 hh
              replace h138 := of_decide_eq_true h138
              refine TC.skip ?_
              refine S.n ?_
              refine TC.cutG (α := ((List Int)) × (Unit)) [12, 13, 14, 51, 52, 53, 54, 55, 56, 57, 58, 59, 60, 61, 62, 63, 64, 65, 66, 67, 68, 69, 70, 71] (fun g => []) (fun g => [Res.cells b101 #[.int .i64 x0.states, .slice a0_0 x0.starts.length c0_0, .slice a0_1 x0.ends.length c0_1, .slice a0_2 x0.edges.length c0_2] 25, Res.setS keyI b126 m125, Res.setS keyI b130 g.1]) (fun g => σ) (fun g => nfa_Takes_j2 k137 g.1 = some z2) ?_ (fun g j hg => ?_)
              · skip
                refine TC.block ?_
                refine TC.seq ?_
                refine TC.region ?_
                refine TL.v rfl (OpVal.indexN rfl Try.underlying23 sz80 rfl rfl f0_2.rv.sl (by omega)) rfl rfl ?_
                refine TL.v rfl (OpVal.loadSA Arrow.zero rfl ag80 sz80 rfl f0_2 (by omega) (by omega)) rfl rfl ?_
                refine TL.op rfl (OpOk.alloc rfl ze80 rfl rfl (fun b140 => ?_))
                refine TL.op rfl (OpOk.storeAll rfl sz80 rfl rfl rfl rfl rfl rfl ?_)
                refine TL.nil ?_
                refine S.n ?_
                refine TC.seq ?_
                refine TC.seq ?_
                refine TC.region ?_
                refine TL.v rfl (OpVal.moveMap (.inl rfl) rfl) rfl rfl ?_
                refine TL.v rfl (OpVal.fieldLoc rfl fo80_0 rfl) rfl rfl ?_
                refine TL.v rfl (OpVal.loadLoc rfl ag3 rfl (i := 0) rfl rfl) rfl rfl ?_
                refine TL.v rfl (OpVal.lookSet rfl Try.underlying82 ze83 rfl (i := 2) rfl rfl (keyI_law Try.underlying3)) rfl rfl ?_
                refine TL.v rfl (OpVal.moveT (.inl rfl) rfl) rfl rfl ?_
                refine TL.v rfl (OpVal.extract rfl rfl rfl) rfl rfl ?_
                refine TL.v rfl (OpVal.extract rfl rfl rfl) rfl rfl ?_
                refine TL.op rfl (OpOk.alloc rfl ze83 rfl rfl (fun b142 => ?_))
                refine TL.op rfl (OpOk.storeAll rfl sz83 rfl rfl rfl rfl rfl rfl ?_)
                refine TL.v rfl (OpVal.moveB (.inr rfl) rfl) rfl rfl ?_
                refine TL.nil ?_
                refine S.n ?_
                refine TC.seq ?_
                refine TC.region ?_
                refine TL.v rfl (OpVal.moveB (.inl rfl) rfl) rfl rfl ?_
                refine TL.v rfl (OpVal.not rfl rfl) rfl rfl ?_
                refine TL.nil ?_
                refine S.n ?_
                refine TC.cond rfl (fun h144 => ?_) (fun h144 => ?_)
                · replace hh := iteO_t h144 hh
                  refine TC.exit ?_
                  refine S.x ?_
                  refine TC.exitHere ?_
                  refine S.n ?_
                  refine ⟨by repeat (first | exact Agr.refl _ _ | exact Agr.mask | refine Agr.upd rfl ?_ | refine Agr.maskIn rfl ?_ | refine Agr.upds rfl ?_), (m136, ()), hh, by repeat (first | exact trivial | refine ⟨rfl, ?_⟩), Sub.front 4 rfl rfl (Sub.front 4 rfl rfl (Sub.front 4 rfl rfl (Sub.pre 3 rfl))), rfl⟩
                · replace hh := iteO_f h144 hh
                  refine TC.skip ?_
                  refine S.n ?_
                  refine TC.seq ?_
                  refine TC.draw [] (by kernel_rfl) ?_
                  refine TA.takeP 0 rfl (by kernel_rfl) (by kernel_rfl) (by kernel_rfl) rfl (OpVal.fieldLoc rfl fo80_2 rfl) rfl rfl ?_
                  refine TA.take 1 rfl (by kernel_rfl) (by kernel_rfl) (by kernel_rfl) (by kernel_rfl) rfl (OpVal.loadLocA rfl ag28 sz28 rfl (i := 1) rfl rfl rfl) rfl rfl ?_
                  refine TA.takeP 2 rfl (by kernel_rfl) (by kernel_rfl) (by kernel_rfl) rfl (OpVal.moveStr (.inl rfl) rfl) rfl rfl ?_
                  refine TA.takeP 3 rfl (by kernel_rfl) (by kernel_rfl) (by kernel_rfl) rfl (OpVal.moveI (.inl rfl) rfl) rfl rfl ?_
                  refine TA.takeP 4 rfl (by kernel_rfl) (by kernel_rfl) (by kernel_rfl) rfl (OpVal.indexBs rfl Try.underlying9 rfl rfl (by omega)) rfl rfl ?_
                  refine TA.act 5 (by kernel_rfl) rfl rfl (OpOk.callP (has_con _ ((nth x0.edges k137 Arrow.zero).set) (nth x1 k127 (0 : UInt8)).toNat (BSet.isOk _) (UInt8.toNat_lt _)) rfl rfl pf26 rfl rfl rfl ⟨(fun w h => sees_of (Store.le.refl _) (fun r hr => hr) w h), ?_⟩)
                  refine TA.done (by kernel_rfl) ?_
                  refine S.n ?_
                  refine TC.cond rfl (fun h145 => ?_) (fun h145 => ?_)
                  · replace hh := iteO_t h145 hh
                    refine TC.region ?_
                    refine TL.v rfl (OpVal.moveMap (.inl rfl) rfl) rfl rfl ?_
                    refine TL.v rfl (OpVal.fieldLoc rfl fo80_1 rfl) rfl rfl ?_
                    refine TL.v rfl (OpVal.loadLoc rfl ag3 rfl (i := 1) rfl rfl) rfl rfl ?_
                    refine TL.v rfl (OpVal.buildL rfl pl83 ze83 rfl) rfl rfl ?_
                    refine TL.front 4 rfl rfl ?_
                    refine TL.op rfl (OpOk.updSet ((nth x0.edges k137 Arrow.zero).to) rfl Try.underlying82 rfl rfl rfl rfl (keyI_law Try.underlying3) ?_)
                    refine TL.nil ?_
                    refine B.n ?_
                    refine S.n ?_
                    refine ⟨by repeat (first | exact Agr.refl _ _ | exact Agr.mask | refine Agr.upd rfl ?_ | refine Agr.maskIn rfl ?_ | refine Agr.upds rfl ?_), ((insK m136 ((nth x0.edges k137 Arrow.zero).to)), ()), hh, by repeat (first | exact trivial | refine ⟨rfl, ?_⟩), Sub.front 4 rfl rfl (Sub.front 4 rfl rfl (Sub.pre 3 rfl)), rfl⟩
                  · replace hh := iteO_f h145 hh
                    refine TC.skip ?_
                    refine B.n ?_
                    refine S.n ?_
                    refine ⟨by repeat (first | exact Agr.refl _ _ | exact Agr.mask | refine Agr.upd rfl ?_ | refine Agr.maskIn rfl ?_ | refine Agr.upds rfl ?_), (m136, ()), hh, by repeat (first | exact trivial | refine ⟨rfl, ?_⟩), Sub.front 4 rfl rfl (Sub.front 4 rfl rfl (Sub.front 4 rfl rfl (Sub.pre 3 rfl))), rfl⟩
              · skip
                obtain ⟨m139, _⟩ := g
                have hh := hg; clear hg
                show TC _ _ _ (upds (mask _ j _) []) _ [Res.cells b101 #[.int .i64 x0.states, .slice a0_0 x0.starts.length c0_0, .slice a0_1 x0.ends.length c0_1, .slice a0_2 x0.edges.length c0_2] 25, Res.setS keyI b126 m125, Res.setS keyI b130 m139]
                dsimp only [nfa_Takes_j2] at hh
                refine TC.region ?_
                refine TL.v rfl (OpVal.succ rfl rfl rfl (by omega)) rfl rfl ?_
                refine TL.v rfl (OpVal.moveI (.inl rfl) rfl) rfl rfl ?_
                refine TL.nil ?_
                refine S.n ?_
                obtain ⟨hh, hlt146⟩ := nxt_x hR2 hh
                refine ⟨by repeat (first | exact Agr.refl _ _ | exact Agr.mask | refine Agr.upd rfl ?_ | refine Agr.maskIn rfl ?_ | refine Agr.upds rfl ?_), ((m139, (k137 + 1)), ()), hlt146, hh, by repeat (first | exact trivial | refine ⟨rfl, ?_⟩), Sub.front 2 rfl rfl (Sub.front 2 rfl rfl (Sub.front 2 rfl rfl (Sub.pre 3 rfl))), rfl⟩
            · replace hh := iteO_f h138 hh
              replace h138 := of_decide_eq_false h138
              refine TC.exit ?_
              refine S.x ?_
              refine S.x ?_
              replace hh := fin_x hR2 hh
              refine TC.exitHere ?_
              refine S.n ?_
              refine TC.region ?_
              refine TL.v rfl (OpVal.moveMap (.inl rfl) rfl) rfl rfl ?_
              refine TL.v rfl (OpVal.moveMap (.inr rfl) rfl) rfl rfl ?_
              refine TL.nil ?_
              refine P.n ?_
              refine B.n ?_
              refine S.n ?_
              refine TC.region ?_
              refine TL.v rfl (OpVal.moveI (.inl rfl) rfl) rfl rfl ?_
              refine TL.v rfl (OpVal.succ rfl rfl rfl (by omega)) rfl rfl ?_
              refine TL.v rfl (OpVal.moveI (.inr rfl) rfl) rfl rfl ?_
              refine TL.nil ?_
              refine S.n ?_
              obtain ⟨hh, hlt147⟩ := nxt_x hR1 hh
              refine ⟨by repeat (first | exact Agr.refl _ _ | exact Agr.mask | refine Agr.upd rfl ?_ | refine Agr.maskIn rfl ?_ | refine Agr.upds rfl ?_), ((m136, (k127 + 1)), b130), hlt147, hh, by repeat (first | exact trivial | refine ⟨rfl, ?_⟩), Sub.front 2 rfl rfl (Sub.front 1 rfl rfl (Sub.pre 2 rfl)), rfl⟩
          · replace hh := iteO_f h129 hh
            replace h129 := of_decide_eq_false h129
            refine TC.exit ?_
            refine S.x ?_
            refine S.x ?_
            replace hh := fin_x hR1 hh
            refine TC.exitHere ?_
            refine S.n ?_
            refine ⟨by repeat (first | exact Agr.refl _ _ | exact Agr.mask | refine Agr.upd rfl ?_ | refine Agr.maskIn rfl ?_ | refine Agr.upds rfl ?_), (m125, b126), hh, by repeat (first | exact trivial | refine ⟨rfl, ?_⟩), Sub.front 1 rfl rfl (Sub.front 1 rfl rfl (Sub.pre 2 rfl)), rfl⟩
        · replace hh := iteO_f h128 hh
          replace h128 := of_decide_eq_false h128
          refine TL.goff rfl rfl rfl rfl rfl rfl rfl rfl ?_
          refine TL.goff rfl rfl rfl rfl rfl rfl rfl rfl ?_
          refine TL.goff rfl rfl rfl rfl rfl rfl rfl rfl ?_
          refine TL.v rfl (OpVal.pickFB rfl rfl rfl) rfl rfl ?_
          refine TL.nil ?_
          refine S.n ?_
          refine TC.cond rfl (fun h => Bool.noConfusion h) (fun _ => ?_)
          refine TC.exit ?_
          refine S.x ?_
          refine S.x ?_
          replace hh := fin_x hR1 hh
          refine TC.exitHere ?_
          refine S.n ?_
          refine ⟨by repeat (first | exact Agr.refl _ _ | exact Agr.mask | refine Agr.upd rfl ?_ | refine Agr.maskIn rfl ?_ | refine Agr.upds rfl ?_), (m125, b126), hh, by repeat (first | exact trivial | refine ⟨rfl, ?_⟩), Sub.front 1 rfl rfl (Sub.front 1 rfl rfl (Sub.pre 2 rfl)), rfl⟩
      · skip
        obtain ⟨m114, b115⟩ := g
        have hh := hg; clear hg
        show TC _ _ _ (upds (mask _ j _) [(6, .map (some b115))]) _ [Res.cells b101 #[.int .i64 x0.states, .slice a0_0 x0.starts.length c0_0, .slice a0_1 x0.ends.length c0_1, .slice a0_2 x0.edges.length c0_2] 25, Res.setS keyI b115 m114]
        dsimp only [nfa_Takes_j1] at hh
        refine TC.seq ?_
        refine TC.seq ?_
        refine TC.region ?_
        refine TL.v rfl (OpVal.fieldLoc rfl fo25_2 rfl) rfl rfl ?_
        refine TL.v rfl (OpVal.loadLoc rfl ag22 rfl (i := 0) rfl rfl) rfl rfl ?_
        refine TL.v rfl (OpVal.lenC rfl Try.underlying22 rfl) rfl rfl ?_
        refine TL.v rfl (OpVal.moveI (.inl rfl) rfl) rfl rfl ?_
        refine TL.nil ?_
        refine S.n ?_
        refine TC.block ?_
        refine TC.loopG (α := (Nat) × (Unit)) [4, 5, 16, 17, 18, 77, 78, 79, 80, 81, 82, 83, 84, 85, 86, 87, 88] (fun g => [(77, .int .i64 ((g.1 : Nat) : Int))]) (fun g => [Res.setS keyI b115 m114]) (fun g => σ) (fun g => iter (fun q : Nat => nfa_Takes_b4 x0 m114 q) g.1 = some r) (fun g => rounds (fun q : Nat => nfa_Takes_b4 x0 m114 q) g.1) (0, ()) (Sub.front 1 rfl rfl (Sub.pre 1 rfl)) rfl (by repeat (first | exact trivial | refine ⟨rfl, ?_⟩)) hh (fun g4 j4 hg4 => ?_)
        obtain ⟨k150, _⟩ := g4
        have hh := hg4; clear hg4
        show TC _ _ _ (upds (mask _ j4 _) [(77, .int .i64 ((k150 : Nat) : Int))]) _ [Res.setS keyI b115 m114]
        obtain ⟨z1, hh, hR1⟩ := iter_e hh
        dsimp only [nfa_Takes_b4] at hh
        refine TC.seq ?_
        refine TC.region ?_
        refine TL.v rfl (OpVal.lss rfl rfl rfl) rfl rfl ?_
        refine TL.nil ?_
        refine S.n ?_
        refine TC.seq ?_
        refine TC.cond rfl (fun h151 => ?_) (fun h151 => ?_)
        · replace hh := iteO_t h151 hh
          replace h151 := of_decide_eq_true h151
          refine TC.skip ?_
          refine S.n ?_
          refine TC.seq ?_
          refine TC.block ?_
          refine TC.seq ?_
          refine TC.region ?_
          refine TL.v rfl (OpVal.indexN rfl Try.underlying22 sz3 rfl rfl f0_1.rv.sl (by omega)) rfl rfl ?_
          refine TL.v rfl (OpVal.loadS1 (0 : Int) rfl ag3 rfl f0_1 (by omega) rfl) rfl rfl ?_
          refine TL.v rfl (OpVal.moveI (.inr rfl) rfl) rfl rfl ?_
          refine TL.nil ?_
          refine S.n ?_
          refine TC.seq ?_
          refine TC.region ?_
          refine TL.v rfl (OpVal.moveMap (.inl rfl) rfl) rfl rfl ?_
          refine TL.v rfl (OpVal.moveI (.inl rfl) rfl) rfl rfl ?_
          refine TL.v rfl (OpVal.lookSet rfl Try.underlying82 ze83 rfl (i := 0) rfl rfl (keyI_law Try.underlying3)) rfl rfl ?_
          refine TL.v rfl (OpVal.moveT (.inl rfl) rfl) rfl rfl ?_
          refine TL.v rfl (OpVal.extract rfl rfl rfl) rfl rfl ?_
          refine TL.v rfl (OpVal.extract rfl rfl rfl) rfl rfl ?_
          refine TL.op rfl (OpOk.alloc rfl ze83 rfl rfl (fun b152 => ?_))
          refine TL.op rfl (OpOk.storeAll rfl sz83 rfl rfl rfl rfl rfl rfl ?_)
          refine TL.v rfl (OpVal.moveB (.inr rfl) rfl) rfl rfl ?_
          refine TL.nil ?_
          refine S.n ?_
          refine TC.seq ?_
          refine TC.region ?_
          refine TL.v rfl (OpVal.moveB (.inl rfl) rfl) rfl rfl ?_
          refine TL.nil ?_
          refine S.n ?_
          refine TC.cond rfl (fun h154 => ?_) (fun h154 => ?_)
          · replace hh := iteO_t h154 hh
            refine TC.seq ?_
            refine TC.region ?_
            refine TL.v rfl (OpVal.moveB (.inr rfl) rfl) rfl rfl ?_
            refine TL.v rfl (OpVal.moveI (.inr rfl) rfl) rfl rfl ?_
            refine TL.nil ?_
            refine S.n ?_
            refine TC.ofSub (Sub.pre 0 rfl) ?_
            refine TC.ret ?_
            refine B.r ?_
            refine S.r ?_
            refine S.r ?_
            replace hh := fin_x hR1 hh
            refine B.r ?_
            refine S.r ?_
            obtain rfl := Option.some.inj hh
            exact RetOk.mk' (rs := [.tmp 4, .tmp 5]) [] rfl (.inl rfl) (RVs.tmp rfl (RVs.tmp rfl RVs.nil)) (List.sublist_append_left _ _) ⟨rfl, rfl, rfl⟩
          · replace hh := iteO_f h154 hh
            refine TC.skip ?_
            refine B.n ?_
            refine S.n ?_
            refine TC.region ?_
            refine TL.v rfl (OpVal.succ rfl rfl rfl (by omega)) rfl rfl ?_
            refine TL.v rfl (OpVal.moveI (.inl rfl) rfl) rfl rfl ?_
            refine TL.nil ?_
            refine S.n ?_
            obtain ⟨hh, hlt155⟩ := nxt_x hR1 hh
            refine ⟨by repeat (first | exact Agr.refl _ _ | exact Agr.mask | refine Agr.upd rfl ?_ | refine Agr.maskIn rfl ?_ | refine Agr.upds rfl ?_), ((k150 + 1), ()), hlt155, hh, by repeat (first | exact trivial | refine ⟨rfl, ?_⟩), Sub.front 1 rfl rfl (Sub.pre 1 rfl), rfl⟩
        · replace hh := iteO_f h151 hh
          replace h151 := of_decide_eq_false h151
          refine TC.exit ?_
          refine S.x ?_
          refine S.x ?_
          replace hh := fin_x hR1 hh
          refine TC.exitHere ?_
          refine S.n ?_
          refine TC.seq ?_
          refine TC.region ?_
          refine TL.v rfl (OpVal.moveB (.inr rfl) rfl) rfl rfl ?_
          refine TL.v rfl (OpVal.moveI (.inr rfl) rfl) rfl rfl ?_
          refine TL.nil ?_
          refine S.n ?_
          refine TC.ofSub (Sub.pre 0 rfl) ?_
          refine TC.ret ?_
          obtain rfl := Option.some.inj hh
          exact RetOk.mk' (rs := [.tmp 4, .tmp 5]) [] rfl (.inl rfl) (RVs.tmp rfl (RVs.tmp rfl RVs.nil)) (List.sublist_append_left _ _) ⟨rfl, rfl, rfl⟩

noncomputable def whittleref10_Takes_j1 (k136 : Nat) (l140 : List Int) : Option (((List Int) × Nat) ⊕ (((List Int) × Nat) ⊕ (Bool × Int))) :=
  nxt (l140, (k136 + 1))
noncomputable def whittleref10_Takes_b2 (x0 : Nfa) (x1 : List UInt8) (k118 : Nat) (l114 : List Int) (l133 : List Int) (k136 : Nat) : Option (((List Int) × Nat) ⊕ (((List Int) × Nat) ⊕ (Bool × Int))) :=
  iteO (decide (((k136 : Nat) : Int) < ((x0.edges.length : Nat) : Int))) (iteO (((nth x0.edges k136 Arrow.zero).set).has ((nth x1 k118 (0 : UInt8)).toNat)) (iteO (l114.contains ((nth x0.edges k136 Arrow.zero).frm)) (iteO (!(l133.contains ((nth x0.edges k136 Arrow.zero).to))) (grd ((l133.length + [(nth x0.edges k136 Arrow.zero).to].length) * 8 ≤ 140737488355328) (whittleref10_Takes_j1 k136 (l133 ++ [(nth x0.edges k136 Arrow.zero).to]))) (whittleref10_Takes_j1 k136 l133)) (whittleref10_Takes_j1 k136 l133)) (whittleref10_Takes_j1 k136 l133)) (fin (nxt (l133, (k118 + 1))))
noncomputable def whittleref10_Takes_b3 (l114 : List Int) (x0 : Nfa) (k163 : Nat) : Option ((Nat) ⊕ (Bool × Int)) :=
  iteO (decide (((k163 : Nat) : Int) < ((l114.length : Nat) : Int))) (iteO (x0.ends.contains (nth l114 k163 (0 : Int))) (fin (some (true, 0))) (nxt (k163 + 1))) (fin (some (false, 0)))
noncomputable def whittleref10_Takes_b1 (x1 : List UInt8) (x0 : Nfa) (l114 : List Int) (k118 : Nat) : Option (((List Int) × Nat) ⊕ (Bool × Int)) :=
  iteO (decide (((k118 : Nat) : Int) < ((x1.length : Nat) : Int))) (iter (fun q : (List Int) × Nat => whittleref10_Takes_b2 x0 x1 k118 l114 q.1 q.2) (([] : List Int), 0)) (fin (iter (fun q : Nat => whittleref10_Takes_b3 l114 x0 q) 0))
noncomputable def whittleref10_Takes (x0 : Nfa) (x1 : List UInt8) : Option (Bool × Int) :=
  grd (x1.length ≤ 281474976710656) (iteO (!(checkB x0)) (some (false, 1)) (iter (fun q : (List Int) × Nat => whittleref10_Takes_b1 x1 x0 q.1 q.2) (x0.starts, 0)))
theorem whittleref10_Takes_con {σ : Store} {x0 : Nfa} {a0_0 : Option Addr} {c0_0 : Nat} {a0_1 : Option Addr} {c0_1 : Nat} {a0_2 : Option Addr} {c0_2 : Nat} {x1 : List UInt8} (f0_0 : RS σ 1 encI (.slice a0_0 x0.starts.length c0_0) x0.starts) (f0_1 : RS σ 1 encI (.slice a0_1 x0.ends.length c0_1) x0.ends) (f0_2 : RS σ 6 encE (.slice a0_2 x0.edges.length c0_2) x0.edges) {r : Bool × Int} (hh : whittleref10_Takes x0 x1 = some r) :
    Con Try.prog 24 #[.agg #[.int .i64 x0.states, .slice a0_0 x0.starts.length c0_0, .slice a0_1 x0.ends.length c0_1, .slice a0_2 x0.edges.length c0_2], .string (bs x1)] σ [] (PureP (.tuple #[.bool r.1, .int .i64 r.2]) σ) := by
  dsimp only [whittleref10_Takes] at hh
  have f0_0b := f0_0.rv.big
  have f0_1b := f0_1.rv.big
  have f0_2b := f0_2.rv.big
  refine Con.mk (n := 74) Try.func24 rfl rfl rfl (fun w0 => ?_)
  have x1b := grd_c hh
  replace hh := grd_t hh
  refine TC.seq ?_
  refine TC.region ?_
  refine TL.op rfl (OpOk.boxA rfl rfl rfl rfl (fun b101 => ?_))
  refine TL.v rfl (OpVal.moveB (.inr rfl) rfl) rfl rfl ?_
  refine TL.v rfl (OpVal.moveI (.inr rfl) rfl) rfl rfl ?_
  refine TL.nil ?_
  refine S.n ?_
  refine TC.seq ?_
  refine TC.seq ?_
  refine TC.region ?_
  refine TL.v rfl (OpVal.loadAll rfl ag25 sz25 rfl (i := 0) rfl rfl) rfl rfl ?_
  refine TL.op rfl (OpOk.callP (right_con _ x0 ⟨a0_0, c0_0, a0_1, c0_1, a0_2, c0_2⟩ ⟨f0_0, f0_1, f0_2, fun x _ => x.set.isOk⟩) rfl rfl pf57 rfl rfl rfl ?_)
  refine TL.v rfl (OpVal.not rfl rfl) rfl rfl ?_
  refine TL.nil ?_
  refine S.n ?_
  refine TC.cond rfl (fun h103 => ?_) (fun h103 => ?_)
  · replace hh := iteO_t h103 hh
    refine TC.seq ?_
    refine TC.region ?_
    refine TL.v rfl (OpVal.moveB (.inr rfl) rfl) rfl rfl ?_
    refine TL.v rfl (OpVal.moveI (.inr rfl) rfl) rfl rfl ?_
    refine TL.nil ?_
    refine S.n ?_
    refine TC.ofSub (Sub.pre 0 rfl) ?_
    refine TC.ret ?_
    refine S.r ?_
    obtain rfl := Option.some.inj hh
    exact RetOk.mk' (rs := [.tmp 4, .tmp 5]) [] rfl (.inl rfl) (RVs.tmp rfl (RVs.tmp rfl RVs.nil)) (List.sublist_append_left _ _) ⟨rfl, rfl, rfl⟩
  · replace hh := iteO_f h103 hh
    refine TC.skip ?_
    refine S.n ?_
    refine TC.seq ?_
    refine TC.region ?_
    refine TL.v rfl (OpVal.fieldLoc rfl fo25_1 rfl) rfl rfl ?_
    refine TL.v rfl (OpVal.loadLoc rfl ag22 rfl (i := 0) rfl rfl) rfl rfl ?_
    refine TL.v rfl (OpVal.moveSl (.inr rfl) rfl) rfl rfl ?_
    refine TL.nil ?_
    refine S.n ?_
    refine TC.seq ?_
    refine TC.seq ?_
    refine TC.region ?_
    refine TL.v rfl (OpVal.moveI (.inr rfl) rfl) rfl rfl ?_
    refine TL.nil ?_
    refine S.n ?_
    refine TC.block ?_
    refine TC.loopG (α := ((List Int) × Nat) × ((Option Addr) × Nat × Store)) [6, 7, 8, 9, 10, 17, 18, 19, 20, 21, 22, 23, 24, 25, 26, 27, 28, 29, 30, 31, 32, 33, 34, 35, 36, 37, 38, 39, 40, 41, 42, 43, 44, 45, 46, 47, 48, 49, 50, 51, 52, 53, 54, 55, 56, 57, 58, 59, 60] (fun g => [(6, .slice g.2.1 g.1.1.length g.2.2.1), (7, .int .i64 ((g.1.2 : Nat) : Int))]) (fun g => [Res.cells b101 #[.int .i64 x0.states, .slice a0_0 x0.starts.length c0_0, .slice a0_1 x0.ends.length c0_1, .slice a0_2 x0.edges.length c0_2] 25]) (fun g => g.2.2.2) (fun g => iter (fun q : (List Int) × Nat => whittleref10_Takes_b1 x1 x0 q.1 q.2) g.1 = some r ∧ RS g.2.2.2 1 encI (.slice g.2.1 g.1.1.length g.2.2.1) g.1.1 ∧ Store.le σ g.2.2.2) (fun g => rounds (fun q : (List Int) × Nat => whittleref10_Takes_b1 x1 x0 q.1 q.2) g.1) ((x0.starts, 0), (a0_0, c0_0, σ)) (Sub.pre 1 rfl) rfl (by repeat (first | exact trivial | refine ⟨rfl, ?_⟩)) ⟨hh, f0_0, (Store.le.refl _)⟩ (fun g1 j1 hg1 => ?_)
    obtain ⟨⟨l114, k118⟩, ⟨a115, c116, τ119⟩⟩ := g1
    obtain ⟨hh, hr117, hle120⟩ := hg1
    dsimp only at hr117
    dsimp only at hle120
    replace f0_0 := f0_0.mono hle120
    replace f0_1 := f0_1.mono hle120
    replace f0_2 := f0_2.mono hle120
    show TC _ _ _ (upds (mask _ j1 _) [(6, .slice a115 l114.length c116), (7, .int .i64 ((k118 : Nat) : Int))]) τ119 [Res.cells b101 #[.int .i64 x0.states, .slice a0_0 x0.starts.length c0_0, .slice a0_1 x0.ends.length c0_1, .slice a0_2 x0.edges.length c0_2] 25]
    obtain ⟨z1, hh, hR1⟩ := iter_e hh
    dsimp only [whittleref10_Takes_b1] at hh
    have hr117b := hr117.rv.big
    refine TC.seq ?_
    refine TC.seq ?_
    refine TC.region ?_
    refine TL.v rfl (OpVal.moveI (.inl rfl) rfl) rfl rfl ?_
    refine TL.v rfl (OpVal.moveStr (.inl rfl) rfl) rfl rfl ?_
    refine TL.v rfl (OpVal.lenBs rfl Try.underlying9 rfl) rfl rfl ?_
    refine TL.v rfl (OpVal.lss rfl rfl rfl) rfl rfl ?_
    refine TL.nil ?_
    refine S.n ?_
    refine TC.cond rfl (fun h121 => ?_) (fun h121 => ?_)
    · replace hh := iteO_t h121 hh
      replace h121 := of_decide_eq_true h121
      refine TC.skip ?_
      refine S.n ?_
      refine TC.seq ?_
      refine TC.block ?_
      refine TC.seq ?_
      refine TC.region ?_
      refine TL.v rfl (OpVal.moveSl (.inr rfl) rfl) rfl rfl ?_
      refine TL.nil ?_
      refine S.n ?_
      refine TC.seq ?_
      refine TC.seq ?_
      refine TC.region ?_
      refine TL.v rfl (OpVal.moveI (.inr rfl) rfl) rfl rfl ?_
      refine TL.nil ?_
      refine S.n ?_
      refine TC.block ?_
      refine TC.nilS 3 1 encI ?_
      refine TC.loopG (α := ((List Int) × Nat) × ((Option Addr) × Nat)) [8, 9, 10, 23, 24, 25, 26, 27, 28, 29, 30, 31, 32, 33, 34, 35, 36, 37, 38, 39, 40, 41, 42, 43, 44, 45, 46, 47, 48, 49, 50, 51, 52, 53, 54, 55, 56, 57, 58, 59] (fun g => [(8, .slice g.2.1 g.1.1.length g.2.2), (9, .int .i64 ((g.1.2 : Nat) : Int))]) (fun g => [Res.cells b101 #[.int .i64 x0.states, .slice a0_0 x0.starts.length c0_0, .slice a0_1 x0.ends.length c0_1, .slice a0_2 x0.edges.length c0_2] 25, Res.rowS 3 1 encI (.slice g.2.1 g.1.1.length g.2.2) g.1.1]) (fun g => τ119) (fun g => iter (fun q : (List Int) × Nat => whittleref10_Takes_b2 x0 x1 k118 l114 q.1 q.2) g.1 = some z1) (fun g => rounds (fun q : (List Int) × Nat => whittleref10_Takes_b2 x0 x1 k118 l114 q.1 q.2) g.1) ((([] : List Int), 0), (none, 0)) (Sub.front 1 rfl rfl (Sub.pre 2 rfl)) rfl (by repeat (first | exact trivial | refine ⟨rfl, ?_⟩)) hh (fun g2 j2 hg2 => ?_)
      obtain ⟨⟨l133, k136⟩, ⟨a134, c135⟩⟩ := g2
      have hh := hg2; clear hg2
      show TC _ _ _ (upds (mask _ j2 _) [(8, .slice a134 l133.length c135), (9, .int .i64 ((k136 : Nat) : Int))]) _ [Res.cells b101 #[.int .i64 x0.states, .slice a0_0 x0.starts.length c0_0, .slice a0_1 x0.ends.length c0_1, .slice a0_2 x0.edges.length c0_2] 25, Res.rowS 3 1 encI (.slice a134 l133.length c135) l133]
      obtain ⟨z2, hh, hR2⟩ := iter_e hh
      dsimp only [whittleref10_Takes_b2] at hh
      refine TC.isSl (i := 1) rfl (fun _ hb138 _ => ?_)
      refine TC.seq ?_
      refine TC.seq ?_
      refine TC.region ?_
      refine TL.v rfl (OpVal.moveI (.inl rfl) rfl) rfl rfl ?_
      refine TL.v rfl (OpVal.fieldLoc rfl fo25_3 rfl) rfl rfl ?_
      refine TL.v rfl (OpVal.loadLoc rfl ag23 rfl (i := 0) rfl rfl) rfl rfl ?_
      refine TL.v rfl (OpVal.lenC rfl Try.underlying23 rfl) rfl rfl ?_
      refine TL.v rfl (OpVal.lss rfl rfl rfl) rfl rfl ?_
      refine TL.nil ?_
      refine S.n ?_
      refine TC.cond rfl (fun h139 => ?_) (fun h139 => ?_)
      · replace hh := iteO_t h139 hh
        replace h139 := of_decide_eq_true h139
        refine TC.skip ?_
        refine S.n ?_
        refine TC.cutG (α := ((List Int)) × ((Option Addr) × Nat)) [8, 10, 30, 31, 32, 33, 34, 35, 36, 37, 38, 39, 40, 41, 42, 43, 44, 45, 46, 47, 48, 49, 50, 51, 52, 53, 54, 55, 56, 57, 58, 59] (fun g => [(8, .slice g.2.1 g.1.length g.2.2)]) (fun g => [Res.cells b101 #[.int .i64 x0.states, .slice a0_0 x0.starts.length c0_0, .slice a0_1 x0.ends.length c0_1, .slice a0_2 x0.edges.length c0_2] 25, Res.rowS 3 1 encI (.slice g.2.1 g.1.length g.2.2) g.1]) (fun g => τ119) (fun g => whittleref10_Takes_j1 k136 g.1 = some z2) ?_ (fun g j hg => ?_)
        · skip
          refine TC.block ?_
          refine TC.seq ?_
          refine TC.region ?_
          refine TL.v rfl (OpVal.fieldLoc rfl fo25_3 rfl) rfl rfl ?_
          refine TL.v rfl (OpVal.loadLoc rfl ag23 rfl (i := 0) rfl rfl) rfl rfl ?_
          refine TL.v rfl (OpVal.moveI (.inl rfl) rfl) rfl rfl ?_
          refine TL.v rfl (OpVal.indexN rfl Try.underlying23 sz80 rfl rfl f0_2.rv.sl (by omega)) rfl rfl ?_
          refine TL.v rfl (OpVal.loadSA Arrow.zero rfl ag80 sz80 rfl f0_2 (by omega) (by omega)) rfl rfl ?_
          refine TL.op rfl (OpOk.alloc rfl ze80 rfl rfl (fun b143 => ?_))
          refine TL.op rfl (OpOk.storeAll rfl sz80 rfl rfl rfl rfl rfl rfl ?_)
          refine TL.nil ?_
          refine S.n ?_
          refine TC.seq ?_
          refine TC.draw [] (by kernel_rfl) ?_
          refine TA.takeP 0 rfl (by kernel_rfl) (by kernel_rfl) (by kernel_rfl) rfl (OpVal.fieldLoc rfl fo80_2 rfl) rfl rfl ?_
          refine TA.take 1 rfl (by kernel_rfl) (by kernel_rfl) (by kernel_rfl) (by kernel_rfl) rfl (OpVal.loadLocA rfl ag28 sz28 rfl (i := 0) rfl rfl rfl) rfl rfl ?_
          refine TA.takeP 2 rfl (by kernel_rfl) (by kernel_rfl) (by kernel_rfl) rfl (OpVal.moveStr (.inl rfl) rfl) rfl rfl ?_
          refine TA.takeP 3 rfl (by kernel_rfl) (by kernel_rfl) (by kernel_rfl) rfl (OpVal.moveI (.inl rfl) rfl) rfl rfl ?_
          refine TA.takeP 4 rfl (by kernel_rfl) (by kernel_rfl) (by kernel_rfl) rfl (OpVal.indexBs rfl Try.underlying9 rfl rfl (by omega)) rfl rfl ?_
          refine TA.takeP 5 rfl (by kernel_rfl) (by kernel_rfl) (by kernel_rfl) rfl (OpVal.convN rfl Try.underlying5 Try.underlying3 rfl (by have := UInt8.toNat_lt (nth x1 k118 (0 : UInt8)); simp only [kmax]; omega)) rfl rfl ?_
          refine TA.act 6 (by kernel_rfl) rfl rfl (OpOk.callP (rhas_con _ ((nth x0.edges k136 Arrow.zero).set) ((nth x1 k118 (0 : UInt8)).toNat) (BSet.isOk _) (UInt8.toNat_lt _)) rfl rfl pf58 rfl rfl rfl ⟨(fun w h => sees_of (Store.le.refl _) (fun r hr => hr) w h), ?_⟩)
          refine TA.takeP 7 rfl (by kernel_rfl) (by kernel_rfl) (by kernel_rfl) rfl (OpVal.moveB (.inl rfl) rfl) rfl rfl ?_
          refine TA.split 42 rfl (fun h145 => ?_) (fun h145 => ?_)
          · replace hh := iteO_t h145 hh
            refine TA.takeOn 8 rfl (by kernel_rfl) (by kernel_rfl) (by kernel_rfl) (by kernel_rfl) rfl rfl rfl rfl rfl (OpVal.fieldLoc rfl fo80_0 rfl) rfl rfl ?_
            refine TA.takeOn 9 rfl (by kernel_rfl) (by kernel_rfl) (by kernel_rfl) (by kernel_rfl) rfl rfl rfl rfl rfl (OpVal.loadLoc rfl ag3 rfl (i := 0) rfl rfl) rfl rfl ?_
            refine TA.takeOn 10 rfl (by kernel_rfl) (by kernel_rfl) (by kernel_rfl) (by kernel_rfl) rfl rfl rfl rfl rfl (OpVal.moveSl (.inl rfl) rfl) rfl rfl ?_
            refine TA.actOn 11 (by kernel_rfl) rfl rfl rfl rfl rfl rfl (OpOk.callP (in_con _ a115 c116 l114 ((nth x0.edges k136 Arrow.zero).frm) hr117) rfl rfl pf59 rfl rfl rfl ⟨(fun w h => sees_of (Store.le.refl _) (fun r hr => hr) w h), ?_⟩)
            refine TA.takeP 12 rfl (by kernel_rfl) (by kernel_rfl) (by kernel_rfl) rfl (OpVal.pickTB rfl rfl rfl) rfl rfl ?_
            refine TA.takeP 13 rfl (by kernel_rfl) (by kernel_rfl) (by kernel_rfl) rfl (OpVal.moveB (.inl rfl) rfl) rfl rfl ?_
            refine TA.split 48 rfl (fun h146 => ?_) (fun h146 => ?_)
            · replace hh := iteO_t h146 hh
              refine TA.takeOn 14 rfl (by kernel_rfl) (by kernel_rfl) (by kernel_rfl) (by kernel_rfl) rfl rfl rfl rfl rfl (OpVal.fieldLoc rfl fo80_1 rfl) rfl rfl ?_
              refine TA.takeOn 15 rfl (by kernel_rfl) (by kernel_rfl) (by kernel_rfl) (by kernel_rfl) rfl rfl rfl rfl rfl (OpVal.loadLoc rfl ag3 rfl (i := 0) rfl rfl) rfl rfl ?_
              refine TA.takeOn 16 rfl (by kernel_rfl) (by kernel_rfl) (by kernel_rfl) (by kernel_rfl) rfl rfl rfl rfl rfl (OpVal.moveSl (.inl rfl) rfl) rfl rfl ?_
              refine TA.front 2 rfl rfl ?_
              refine TA.actOn 17 (by kernel_rfl) rfl rfl rfl rfl rfl rfl (OpOk.callK (Con.lend encI_len (fun _ hle148 hr147 => in_con _ a134 c135 l133 ((nth x0.edges k136 Arrow.zero).to) hr147)) rfl rfl pf59 rfl rfl rfl rfl ⟨(fun w h => sees_of (Store.le.refl _) (fun r hr => by simp only [List.mem_cons, List.mem_append, List.not_mem_nil, or_false, false_or] at hr ⊢; grind) w h), ?_⟩)
              refine TA.takeOn 18 rfl (by kernel_rfl) (by kernel_rfl) (by kernel_rfl) (by kernel_rfl) rfl rfl rfl rfl rfl (OpVal.not rfl rfl) rfl rfl ?_
              refine TA.takeP 19 rfl (by kernel_rfl) (by kernel_rfl) (by kernel_rfl) rfl (OpVal.pickTB rfl rfl rfl) rfl rfl ?_
              refine TA.done (by kernel_rfl) ?_
              refine S.n ?_
              refine TC.cond rfl (fun h149 => ?_) (fun h149 => ?_)
              · replace hh := iteO_t h149 hh
                refine TC.region ?_
                refine TL.v rfl (OpVal.moveSl (.inl rfl) rfl) rfl rfl ?_
                refine TL.v rfl (OpVal.fieldLoc rfl fo80_1 rfl) rfl rfl ?_
                refine TL.v rfl (OpVal.loadLoc rfl ag3 rfl (i := 1) rfl rfl) rfl rfl ?_
                refine TL.op rfl (OpOk.lit (enc := encI) [(nth x0.edges k136 Arrow.zero).to] rfl Try.underlying22 sz3 ze3 rfl rfl rfl encI_len (by decide) (by decide) (0 : Int) rfl (by decide) rfl (by decide) encI_one (fun a150 c151 => ?_))
                refine TL.front 1 rfl rfl ?_
                have u55 := grd_c hh
                replace hh := grd_t hh
                refine TL.op rfl (OpOk.appendS rfl rfl Try.underlying22 sz3 by3 ze3 rfl rfl (by decide) rfl rfl rfl (.inr ⟨_, 0, rfl⟩) (by simpa using u55) (by decide) (fun a153 c154 => ?_))
                refine TL.v rfl (OpVal.moveSl (.inr rfl) rfl) rfl rfl ?_
                refine TL.nil ?_
                refine B.n ?_
                refine S.n ?_
                refine ⟨by repeat (first | exact Agr.refl _ _ | exact Agr.mask | refine Agr.upd rfl ?_ | refine Agr.maskIn rfl ?_ | refine Agr.upds rfl ?_), ((l133 ++ [(nth x0.edges k136 Arrow.zero).to]), (a153, c154)), hh, by repeat (first | exact trivial | refine ⟨rfl, ?_⟩), Sub.front 3 rfl rfl (Sub.pre 2 rfl), rfl⟩
              · replace hh := iteO_f h149 hh
                refine TC.skip ?_
                refine B.n ?_
                refine S.n ?_
                refine ⟨by repeat (first | exact Agr.refl _ _ | exact Agr.mask | refine Agr.upd rfl ?_ | refine Agr.maskIn rfl ?_ | refine Agr.upds rfl ?_), (l133, (a134, c135)), hh, by repeat (first | exact trivial | refine ⟨rfl, ?_⟩), Sub.front 2 rfl rfl (Sub.pre 2 rfl), rfl⟩
            · replace hh := iteO_f h146 hh
              refine TA.takeOff 14 rfl (by kernel_rfl) (by kernel_rfl) (by kernel_rfl) (by kernel_rfl) rfl rfl rfl rfl rfl rfl rfl rfl ?_
              refine TA.takeOff 15 rfl (by kernel_rfl) (by kernel_rfl) (by kernel_rfl) (by kernel_rfl) rfl rfl rfl rfl rfl rfl rfl rfl ?_
              refine TA.takeOff 16 rfl (by kernel_rfl) (by kernel_rfl) (by kernel_rfl) (by kernel_rfl) rfl rfl rfl rfl rfl rfl rfl rfl ?_
              refine TA.takeOff 17 rfl (by kernel_rfl) (by kernel_rfl) (by kernel_rfl) (by kernel_rfl) rfl rfl rfl rfl rfl rfl rfl rfl ?_
              refine TA.takeOff 18 rfl (by kernel_rfl) (by kernel_rfl) (by kernel_rfl) (by kernel_rfl) rfl rfl rfl rfl rfl rfl rfl rfl ?_
              refine TA.takeP 19 rfl (by kernel_rfl) (by kernel_rfl) (by kernel_rfl) rfl (OpVal.pickFB rfl rfl rfl) rfl rfl ?_
              refine TA.done (by kernel_rfl) ?_
              refine S.n ?_
              refine TC.cond rfl (fun h => Bool.noConfusion h) (fun _ => ?_)
              refine TC.skip ?_
              refine B.n ?_
              refine S.n ?_
              refine ⟨by repeat (first | exact Agr.refl _ _ | exact Agr.mask | refine Agr.upd rfl ?_ | refine Agr.maskIn rfl ?_ | refine Agr.upds rfl ?_), (l133, (a134, c135)), hh, by repeat (first | exact trivial | refine ⟨rfl, ?_⟩), Sub.front 2 rfl rfl (Sub.front 2 rfl rfl (Sub.pre 2 rfl)), rfl⟩
          · replace hh := iteO_f h145 hh
            refine TA.takeOff 8 rfl (by kernel_rfl) (by kernel_rfl) (by kernel_rfl) (by kernel_rfl) rfl rfl rfl rfl rfl rfl rfl rfl ?_
            refine TA.takeOff 9 rfl (by kernel_rfl) (by kernel_rfl) (by kernel_rfl) (by kernel_rfl) rfl rfl rfl rfl rfl rfl rfl rfl ?_
            refine TA.takeOff 10 rfl (by kernel_rfl) (by kernel_rfl) (by kernel_rfl) (by kernel_rfl) rfl rfl rfl rfl rfl rfl rfl rfl ?_
            refine TA.takeOff 11 rfl (by kernel_rfl) (by kernel_rfl) (by kernel_rfl) (by kernel_rfl) rfl rfl rfl rfl rfl rfl rfl rfl ?_
            refine TA.takeP 12 rfl (by kernel_rfl) (by kernel_rfl) (by kernel_rfl) rfl (OpVal.pickFB rfl rfl rfl) rfl rfl ?_
            refine TA.takeP 13 rfl (by kernel_rfl) (by kernel_rfl) (by kernel_rfl) rfl (OpVal.moveB (.inl rfl) rfl) rfl rfl ?_
            refine TA.takeOff 14 rfl (by kernel_rfl) (by kernel_rfl) (by kernel_rfl) (by kernel_rfl) rfl rfl rfl rfl rfl rfl rfl rfl ?_
            refine TA.takeOff 15 rfl (by kernel_rfl) (by kernel_rfl) (by kernel_rfl) (by kernel_rfl) rfl rfl rfl rfl rfl rfl rfl rfl ?_
            refine TA.takeOff 16 rfl (by kernel_rfl) (by kernel_rfl) (by kernel_rfl) (by kernel_rfl) rfl rfl rfl rfl rfl rfl rfl rfl ?_
            refine TA.takeOff 17 rfl (by kernel_rfl) (by kernel_rfl) (by kernel_rfl) (by kernel_rfl) rfl rfl rfl rfl rfl rfl rfl rfl ?_
            refine TA.takeOff 18 rfl (by kernel_rfl) (by kernel_rfl) (by kernel_rfl) (by kernel_rfl) rfl rfl rfl rfl rfl rfl rfl rfl ?_
            refine TA.takeP 19 rfl (by kernel_rfl) (by kernel_rfl) (by kernel_rfl) rfl (OpVal.pickFB rfl rfl rfl) rfl rfl ?_
            refine TA.done (by kernel_rfl) ?_
            refine S.n ?_
            refine TC.cond rfl (fun h => Bool.noConfusion h) (fun _ => ?_)
            refine TC.skip ?_
            refine B.n ?_
            refine S.n ?_
            refine ⟨by repeat (first | exact Agr.refl _ _ | exact Agr.mask | refine Agr.upd rfl ?_ | refine Agr.maskIn rfl ?_ | refine Agr.upds rfl ?_), (l133, (a134, c135)), hh, by repeat (first | exact trivial | refine ⟨rfl, ?_⟩), Sub.front 2 rfl rfl (Sub.front 2 rfl rfl (Sub.pre 2 rfl)), rfl⟩
        · skip
          obtain ⟨l140, ⟨a141, c142⟩⟩ := g
          have hh := hg; clear hg
          show TC _ _ _ (upds (mask _ j _) [(8, .slice a141 l140.length c142)]) _ [Res.cells b101 #[.int .i64 x0.states, .slice a0_0 x0.starts.length c0_0, .slice a0_1 x0.ends.length c0_1, .slice a0_2 x0.edges.length c0_2] 25, Res.rowS 3 1 encI (.slice a141 l140.length c142) l140]
          dsimp only [whittleref10_Takes_j1] at hh
          refine TC.isSl (i := 1) rfl (fun _ hb155 _ => ?_)
          refine TC.region ?_
          refine TL.v rfl (OpVal.moveI (.inl rfl) rfl) rfl rfl ?_
          refine TL.v rfl (OpVal.succ rfl rfl rfl (by omega)) rfl rfl ?_
          refine TL.v rfl (OpVal.moveI (.inr rfl) rfl) rfl rfl ?_
          refine TL.nil ?_
          refine S.n ?_
          obtain ⟨hh, hlt156⟩ := nxt_x hR2 hh
          refine ⟨by repeat (first | exact Agr.refl _ _ | exact Agr.mask | refine Agr.upd rfl ?_ | refine Agr.maskIn rfl ?_ | refine Agr.upds rfl ?_), ((l140, (k136 + 1)), (a141, c142)), hlt156, hh, by repeat (first | exact trivial | refine ⟨rfl, ?_⟩), Sub.front 1 rfl rfl (Sub.front 1 rfl rfl (Sub.pre 2 rfl)), rfl⟩
      · replace hh := iteO_f h139 hh
        replace h139 := of_decide_eq_false h139
        refine TC.exit ?_
        refine S.x ?_
        refine S.x ?_
        replace hh := fin_x hR2 hh
        refine TC.exitHere ?_
        refine S.n ?_
        refine TC.region ?_
        refine TL.v rfl (OpVal.moveSl (.inl rfl) rfl) rfl rfl ?_
        refine TL.v rfl (OpVal.moveSl (.inr rfl) rfl) rfl rfl ?_
        refine TL.nil ?_
        refine B.n ?_
        refine S.n ?_
        refine TC.region ?_
        refine TL.v rfl (OpVal.moveI (.inl rfl) rfl) rfl rfl ?_
        refine TL.v rfl (OpVal.succ rfl rfl rfl (by omega)) rfl rfl ?_
        refine TL.v rfl (OpVal.moveI (.inr rfl) rfl) rfl rfl ?_
        refine TL.front 1 rfl rfl ?_
        refine TL.sealS encI_len (fun τ159 hle158 hr157 => ?_)
        replace f0_0 := f0_0.mono hle158
        replace f0_1 := f0_1.mono hle158
        replace f0_2 := f0_2.mono hle158
        replace hr117 := hr117.mono hle158
        have hr157b := hr157.rv.big
        refine TL.nil ?_
        refine S.n ?_
        obtain ⟨hh, hlt160⟩ := nxt_x hR1 hh
        refine ⟨by repeat (first | exact Agr.refl _ _ | exact Agr.mask | refine Agr.upd rfl ?_ | refine Agr.maskIn rfl ?_ | refine Agr.upds rfl ?_), ((l133, (k118 + 1)), (a134, c135, τ159)), hlt160, ⟨hh, hr157, (hle120.trans hle158)⟩, by repeat (first | exact trivial | refine ⟨rfl, ?_⟩), Sub.pre 1 rfl, rfl⟩
    · replace hh := iteO_f h121 hh
      replace h121 := of_decide_eq_false h121
      refine TC.exit ?_
      refine S.x ?_
      refine S.x ?_
      replace hh := fin_x hR1 hh
      refine TC.exitHere ?_
      refine S.n ?_
      refine TC.seq ?_
      refine TC.seq ?_
      refine TC.region ?_
      refine TL.v rfl (OpVal.moveI (.inr rfl) rfl) rfl rfl ?_
      refine TL.nil ?_
      refine S.n ?_
      refine TC.block ?_
      refine TC.loopG (α := (Nat) × (Unit)) [4, 5, 11, 61, 62, 63, 64, 65, 66, 67, 68, 69, 70, 71, 72, 73] (fun g => [(11, .int .i64 ((g.1 : Nat) : Int))]) (fun g => [Res.cells b101 #[.int .i64 x0.states, .slice a0_0 x0.starts.length c0_0, .slice a0_1 x0.ends.length c0_1, .slice a0_2 x0.edges.length c0_2] 25]) (fun g => τ119) (fun g => iter (fun q : Nat => whittleref10_Takes_b3 l114 x0 q) g.1 = some r) (fun g => rounds (fun q : Nat => whittleref10_Takes_b3 l114 x0 q) g.1) (0, ()) (Sub.pre 1 rfl) rfl (by repeat (first | exact trivial | refine ⟨rfl, ?_⟩)) hh (fun g3 j3 hg3 => ?_)
      obtain ⟨k163, _⟩ := g3
      have hh := hg3; clear hg3
      show TC _ _ _ (upds (mask _ j3 _) [(11, .int .i64 ((k163 : Nat) : Int))]) _ [Res.cells b101 #[.int .i64 x0.states, .slice a0_0 x0.starts.length c0_0, .slice a0_1 x0.ends.length c0_1, .slice a0_2 x0.edges.length c0_2] 25]
      obtain ⟨z1, hh, hR1⟩ := iter_e hh
      dsimp only [whittleref10_Takes_b3] at hh
      refine TC.seq ?_
      refine TC.seq ?_
      refine TC.region ?_
      refine TL.v rfl (OpVal.moveI (.inl rfl) rfl) rfl rfl ?_
      refine TL.v rfl (OpVal.moveSl (.inl rfl) rfl) rfl rfl ?_
      refine TL.v rfl (OpVal.lenC rfl Try.underlying22 rfl) rfl rfl ?_
      refine TL.v rfl (OpVal.lss rfl rfl rfl) rfl rfl ?_
      refine TL.nil ?_
      refine S.n ?_
      refine TC.cond rfl (fun h164 => ?_) (fun h164 => ?_)
      · replace hh := iteO_t h164 hh
        replace h164 := of_decide_eq_true h164
        refine TC.skip ?_
        refine S.n ?_
        refine TC.seq ?_
        refine TC.block ?_
        refine TC.seq ?_
        refine TC.draw [] (by kernel_rfl) ?_
        refine TA.takeP 0 rfl (by kernel_rfl) (by kernel_rfl) (by kernel_rfl) rfl (OpVal.moveSl (.inl rfl) rfl) rfl rfl ?_
        refine TA.takeP 1 rfl (by kernel_rfl) (by kernel_rfl) (by kernel_rfl) rfl (OpVal.moveI (.inl rfl) rfl) rfl rfl ?_
        refine TA.take 2 rfl (by kernel_rfl) (by kernel_rfl) (by kernel_rfl) (by kernel_rfl) rfl (OpVal.indexN rfl Try.underlying22 sz3 rfl rfl hr117.rv.sl (by omega)) rfl rfl ?_
        refine TA.take 3 rfl (by kernel_rfl) (by kernel_rfl) (by kernel_rfl) (by kernel_rfl) rfl (OpVal.loadS1 (0 : Int) rfl ag3 rfl hr117 (by omega) rfl) rfl rfl ?_
        refine TA.takeP 4 rfl (by kernel_rfl) (by kernel_rfl) (by kernel_rfl) rfl (OpVal.fieldLoc rfl fo25_2 rfl) rfl rfl ?_
        refine TA.take 5 rfl (by kernel_rfl) (by kernel_rfl) (by kernel_rfl) (by kernel_rfl) rfl (OpVal.loadLoc rfl ag22 rfl (i := 0) rfl rfl) rfl rfl ?_
        refine TA.act 6 (by kernel_rfl) rfl rfl (OpOk.callP (in_con _ a0_1 c0_1 x0.ends (nth l114 k163 (0 : Int)) f0_1) rfl rfl pf59 rfl rfl rfl ⟨(fun w h => sees_of (Store.le.refl _) (fun r hr => hr) w h), ?_⟩)
        refine TA.done (by kernel_rfl) ?_
        refine S.n ?_
        refine TC.cond rfl (fun h165 => ?_) (fun h165 => ?_)
        · replace hh := iteO_t h165 hh
          refine TC.seq ?_
          refine TC.region ?_
          refine TL.v rfl (OpVal.moveB (.inr rfl) rfl) rfl rfl ?_
          refine TL.v rfl (OpVal.moveI (.inr rfl) rfl) rfl rfl ?_
          refine TL.nil ?_
          refine S.n ?_
          refine TC.ofSub (Sub.pre 0 rfl) ?_
          refine TC.back ?_
          refine TC.ret ?_
          refine B.r ?_
          refine S.r ?_
          refine S.r ?_
          replace hh := fin_x hR1 hh
          refine B.r ?_
          refine S.r ?_
          obtain rfl := Option.some.inj hh
          exact RetOk.mk' (rs := [.tmp 4, .tmp 5]) [] rfl (.inl rfl) (RVs.tmp rfl (RVs.tmp rfl RVs.nil)) (List.sublist_append_left _ _) ⟨rfl, rfl, rfl⟩
        · replace hh := iteO_f h165 hh
          refine TC.skip ?_
          refine B.n ?_
          refine S.n ?_
          refine TC.region ?_
          refine TL.v rfl (OpVal.moveI (.inl rfl) rfl) rfl rfl ?_
          refine TL.v rfl (OpVal.succ rfl rfl rfl (by omega)) rfl rfl ?_
          refine TL.v rfl (OpVal.moveI (.inr rfl) rfl) rfl rfl ?_
          refine TL.nil ?_
          refine S.n ?_
          obtain ⟨hh, hlt166⟩ := nxt_x hR1 hh
          refine ⟨by repeat (first | exact Agr.refl _ _ | exact Agr.mask | refine Agr.upd rfl ?_ | refine Agr.maskIn rfl ?_ | refine Agr.upds rfl ?_), ((k163 + 1), ()), hlt166, hh, by repeat (first | exact trivial | refine ⟨rfl, ?_⟩), Sub.pre 1 rfl, rfl⟩
      · replace hh := iteO_f h164 hh
        replace h164 := of_decide_eq_false h164
        refine TC.exit ?_
        refine S.x ?_
        refine S.x ?_
        replace hh := fin_x hR1 hh
        refine TC.exitHere ?_
        refine S.n ?_
        refine TC.seq ?_
        refine TC.region ?_
        refine TL.v rfl (OpVal.moveB (.inr rfl) rfl) rfl rfl ?_
        refine TL.v rfl (OpVal.moveI (.inr rfl) rfl) rfl rfl ?_
        refine TL.nil ?_
        refine S.n ?_
        refine TC.ofSub (Sub.pre 0 rfl) ?_
        refine TC.back ?_
        refine TC.ret ?_
        obtain rfl := Option.some.inj hh
        exact RetOk.mk' (rs := [.tmp 4, .tmp 5]) [] rfl (.inl rfl) (RVs.tmp rfl (RVs.tmp rfl RVs.nil)) (List.sublist_append_left _ _) ⟨rfl, rfl, rfl⟩

noncomputable def whittleref10_Text_b1 (x0 : List UInt8) (l123 : List Arrow) (k126 : Nat) : Option (((List Arrow) × Nat) ⊕ (Nfa × Int)) :=
  iteO (decide (((k126 : Nat) : Int) < ((x0.length : Nat) : Int))) (grd (k126 ≤ (k126 + 1) ∧ (k126 + 1) ≤ x0.length) (grd (((x0.take (k126 + 1)).drop k126).length ≤ 281474976710656) (grd (((x0.take (k126 + 1)).drop k126).length ≤ 1000000000000) (grd ((l123.length + [(⟨((k126 : Nat) : Int), (((k126 + 1) : Nat) : Int), (BSet.ofL ((x0.take (k126 + 1)).drop k126))⟩ : Arrow)].length) * 48 ≤ 140737488355328) (nxt ((l123 ++ [(⟨((k126 : Nat) : Int), (((k126 + 1) : Nat) : Int), (BSet.ofL ((x0.take (k126 + 1)).drop k126))⟩ : Arrow)]), (k126 + 1))))))) (fin (some ((⟨(((x0.length + 1) : Nat) : Int), [0], [((x0.length : Nat) : Int)], l123⟩ : Nfa), 0)))
noncomputable def whittleref10_Text (x0 : List UInt8) : Option (Nfa × Int) :=
  grd (x0.length ≤ 281474976710656) (iteO (decide (256 < ((x0.length : Nat) : Int))) (some ((⟨0, ([] : List Int), ([] : List Int), ([] : List Arrow)⟩ : Nfa), 2)) (iter (fun q : (List Arrow) × Nat => whittleref10_Text_b1 x0 q.1 q.2) (([] : List Arrow), 0)))
def whittleref10_Text_P (σ : Store) (r : Nfa × Int) : Value → Store → List Res → Prop := fun v σ' H' =>
  ∃ (a1 : Option Addr), ∃ (c1 : Nat), ∃ (a2 : Option Addr), ∃ (c2 : Nat), ∃ (a3 : Option Addr), ∃ (c3 : Nat),  v = .tuple #[.agg #[.int .i64 r.1.states, .slice a1 r.1.starts.length c1, .slice a2 r.1.ends.length c2, .slice a3 r.1.edges.length c3], .int .i64 r.2] ∧ RS σ' 1 encI (.slice a1 r.1.starts.length c1) r.1.starts ∧ RS σ' 1 encI (.slice a2 r.1.ends.length c2) r.1.ends ∧ RS σ' 6 encE (.slice a3 r.1.edges.length c3) r.1.edges ∧ H' = []
theorem whittleref10_Text_con {σ : Store} {x0 : List UInt8}  {r : Nfa × Int} (hh : whittleref10_Text x0 = some r) :
    Con Try.prog 16 #[.string (bs x0)] σ [] (whittleref10_Text_P σ r) := by
  dsimp only [whittleref10_Text] at hh
  refine Con.mk (n := 41) Try.func16 rfl rfl rfl (fun w0 => ?_)
  have x0b := grd_c hh
  replace hh := grd_t hh
  refine TC.seq ?_
  refine TC.region ?_
  refine TL.op rfl (OpOk.alloc rfl ze25 rfl rfl (fun b101 => ?_))
  refine TL.v rfl (OpVal.moveI (.inr rfl) rfl) rfl rfl ?_
  refine TL.nil ?_
  refine S.n ?_
  refine TC.seq ?_
  refine TC.seq ?_
  refine TC.region ?_
  refine TL.v rfl (OpVal.moveStr (.inl rfl) rfl) rfl rfl ?_
  refine TL.v rfl (OpVal.lenBs rfl Try.underlying9 rfl) rfl rfl ?_
  refine TL.v rfl (OpVal.gtr rfl rfl rfl) rfl rfl ?_
  refine TL.nil ?_
  refine S.n ?_
  refine TC.cond rfl (fun h103 => ?_) (fun h103 => ?_)
  · replace hh := iteO_t h103 hh
    replace h103 := of_decide_eq_true h103
    refine TC.seq ?_
    refine TC.region ?_
    refine TL.v rfl (OpVal.buildL rfl pl25 ze25 rfl) rfl rfl ?_
    refine TL.op rfl (OpOk.storeAll rfl sz25 rfl rfl rfl rfl rfl rfl ?_)
    refine TL.v rfl (OpVal.moveI (.inr rfl) rfl) rfl rfl ?_
    refine TL.nil ?_
    refine S.n ?_
    refine TC.ret ?_
    refine S.r ?_
    obtain rfl := Option.some.inj hh
    exact RetOk.mk' (rs := [.cell 2 25, .tmp 3]) [] rfl (.inl rfl) (RVs.agg ag25 sz25 rfl (i := 0) rfl rfl (RVs.tmp rfl RVs.nil)) (List.sublist_append_left _ _) ⟨none, 0, none, 0, none, 0, rfl, (RS.nilF _ encI encI_len), (RS.nilF _ encI encI_len), (RS.nilF _ encE encE_len), rfl⟩
  · replace hh := iteO_f h103 hh
    replace h103 := of_decide_eq_false h103
    refine TC.skip ?_
    refine S.n ?_
    refine TC.seq ?_
    refine TC.region ?_
    refine TL.v rfl (OpVal.moveStr (.inl rfl) rfl) rfl rfl ?_
    refine TL.v rfl (OpVal.lenBs rfl Try.underlying9 rfl) rfl rfl ?_
    refine TL.v rfl (OpVal.succ rfl rfl rfl (by omega)) rfl rfl ?_
    refine TL.op rfl (OpOk.lit (enc := encI) [0] rfl Try.underlying22 sz3 ze3 rfl rfl rfl encI_len (by decide) (by decide) (0 : Int) rfl (by decide) rfl (by decide) encI_one (fun a104 c105 => ?_))
    refine TL.v rfl (OpVal.moveStr (.inl rfl) rfl) rfl rfl ?_
    refine TL.v rfl (OpVal.lenBs rfl Try.underlying9 rfl) rfl rfl ?_
    refine TL.op rfl (OpOk.lit (enc := encI) [((x0.length : Nat) : Int)] rfl Try.underlying22 sz3 ze3 rfl rfl rfl encI_len (by decide) (by decide) (0 : Int) rfl (by decide) rfl (by decide) encI_one (fun a107 c108 => ?_))
    refine TL.v rfl (OpVal.buildL rfl pl25 ze25 rfl) rfl rfl ?_
    refine TL.op rfl (OpOk.alloc rfl ze25 rfl rfl (fun b110 => ?_))
    refine TL.op rfl (OpOk.storeAll rfl sz25 rfl rfl rfl rfl rfl rfl ?_)
    refine TL.nil ?_
    refine S.n ?_
    refine TC.seq ?_
    refine TC.seq ?_
    refine TC.region ?_
    refine TL.v rfl (OpVal.moveI (.inr rfl) rfl) rfl rfl ?_
    refine TL.nil ?_
    refine S.n ?_
    refine TC.block ?_
    refine TC.nilS 80 6 encE ?_
    refine TC.loopG (α := ((List Arrow) × Nat) × ((Option Addr) × Nat × Store)) [5, 18, 19, 20, 21, 22, 23, 24, 25, 26, 27, 28, 29, 30, 31, 32, 33, 34, 35, 36, 37, 38, 39] (fun g => [(5, .int .i64 ((g.1.2 : Nat) : Int))]) (fun g => [Res.cells b101 #[.int .i64 0, .slice none 0 0, .slice none 0 0, .slice none 0 0] 25, Res.cells b110 #[.int .i64 (((x0.length + 1) : Nat) : Int), .slice a104 [0].length c105, .slice a107 ([((x0.length : Nat) : Int)].length) c108, .slice g.2.1 g.1.1.length g.2.2.1] 25, Res.rowS 3 1 encI (.slice a104 [0].length c105) [0], Res.rowS 3 1 encI (.slice a107 [((x0.length : Nat) : Int)].length c108) [((x0.length : Nat) : Int)], Res.rowS 80 6 encE (.slice g.2.1 g.1.1.length g.2.2.1) g.1.1]) (fun g => g.2.2.2) (fun g => iter (fun q : (List Arrow) × Nat => whittleref10_Text_b1 x0 q.1 q.2) g.1 = some r ∧ Store.le σ g.2.2.2) (fun g => rounds (fun q : (List Arrow) × Nat => whittleref10_Text_b1 x0 q.1 q.2) g.1) ((([] : List Arrow), 0), (none, 0, σ)) (Sub.front 2 rfl rfl (Sub.front 3 rfl rfl (Sub.front 3 rfl rfl (Sub.front 4 rfl rfl (Sub.pre 5 rfl))))) rfl (by repeat (first | exact trivial | refine ⟨rfl, ?_⟩)) ⟨hh, (Store.le.refl _)⟩ (fun g1 j1 hg1 => ?_)
    obtain ⟨⟨l123, k126⟩, ⟨a124, c125, τ128⟩⟩ := g1
    obtain ⟨hh, hle129⟩ := hg1
    dsimp only at hle129
    show TC _ _ _ (upds (mask _ j1 _) [(5, .int .i64 ((k126 : Nat) : Int))]) τ128 [Res.cells b101 #[.int .i64 0, .slice none 0 0, .slice none 0 0, .slice none 0 0] 25, Res.cells b110 #[.int .i64 (((x0.length + 1) : Nat) : Int), .slice a104 [0].length c105, .slice a107 ([((x0.length : Nat) : Int)].length) c108, .slice a124 l123.length c125] 25, Res.rowS 3 1 encI (.slice a104 [0].length c105) [0], Res.rowS 3 1 encI (.slice a107 [((x0.length : Nat) : Int)].length c108) [((x0.length : Nat) : Int)], Res.rowS 80 6 encE (.slice a124 l123.length c125) l123]
    obtain ⟨z1, hh, hR1⟩ := iter_e hh
    dsimp only [whittleref10_Text_b1] at hh
    refine TC.isSl (i := 2) rfl (fun _ hb130 _ => ?_)
    refine TC.isSl (i := 3) rfl (fun _ hb131 _ => ?_)
    refine TC.isSl (i := 4) rfl (fun _ hb132 _ => ?_)
    refine TC.seq ?_
    refine TC.seq ?_
    refine TC.region ?_
    refine TL.v rfl (OpVal.moveI (.inl rfl) rfl) rfl rfl ?_
    refine TL.v rfl (OpVal.moveStr (.inl rfl) rfl) rfl rfl ?_
    refine TL.v rfl (OpVal.lenBs rfl Try.underlying9 rfl) rfl rfl ?_
    refine TL.v rfl (OpVal.lss rfl rfl rfl) rfl rfl ?_
    refine TL.nil ?_
    refine S.n ?_
    refine TC.cond rfl (fun h133 => ?_) (fun h133 => ?_)
    · replace hh := iteO_t h133 hh
      replace h133 := of_decide_eq_true h133
      refine TC.skip ?_
      refine S.n ?_
      refine TC.seq ?_
      refine TC.block ?_
      have u33 := grd_c hh
      replace hh := grd_t hh
      have u34 := grd_c hh
      replace hh := grd_t hh
      have u35 := grd_c hh
      replace hh := grd_t hh
      have u38 := grd_c hh
      replace hh := grd_t hh
      refine TC.draw [14, 15, 16] (by kernel_rfl) ?_
      refine TA.takeP 0 rfl (by kernel_rfl) (by kernel_rfl) (by kernel_rfl) rfl (OpVal.fieldLoc rfl fo25_3 rfl) rfl rfl ?_
      refine TA.take 1 rfl (by kernel_rfl) (by kernel_rfl) (by kernel_rfl) (by kernel_rfl) rfl (OpVal.loadLoc rfl ag23 rfl (i := 1) rfl rfl) rfl rfl ?_
      refine TA.takeP 2 rfl (by kernel_rfl) (by kernel_rfl) (by kernel_rfl) rfl (OpVal.moveI (.inl rfl) rfl) rfl rfl ?_
      refine TA.takeP 3 rfl (by kernel_rfl) (by kernel_rfl) (by kernel_rfl) rfl (OpVal.moveI (.inl rfl) rfl) rfl rfl ?_
      refine TA.takeP 4 rfl (by kernel_rfl) (by kernel_rfl) (by kernel_rfl) rfl (OpVal.succ rfl rfl rfl (by omega)) rfl rfl ?_
      refine TA.takeP 5 rfl (by kernel_rfl) (by kernel_rfl) (by kernel_rfl) rfl (OpVal.moveStr (.inl rfl) rfl) rfl rfl ?_
      refine TA.takeP 6 rfl (by kernel_rfl) (by kernel_rfl) (by kernel_rfl) rfl (OpVal.moveI (.inl rfl) rfl) rfl rfl ?_
      refine TA.takeP 7 rfl (by kernel_rfl) (by kernel_rfl) (by kernel_rfl) rfl (OpVal.moveI (.inl rfl) rfl) rfl rfl ?_
      refine TA.takeP 8 rfl (by kernel_rfl) (by kernel_rfl) (by kernel_rfl) rfl (OpVal.succ rfl rfl rfl (by omega)) rfl rfl ?_
      refine TA.take 9 rfl (by kernel_rfl) (by kernel_rfl) (by kernel_rfl) (by kernel_rfl) rfl (OpVal.sliceBs (l := x0) (i := k126) (j := (k126 + 1)) rfl Try.underlying9 rfl rfl rfl (by omega) (by omega)) rfl rfl ?_
      refine TA.act 10 (by kernel_rfl) rfl rfl (OpOk.convBs rfl Try.underlying9 Try.underlying78 Try.underlying5 rfl rfl rfl u34 ?_)
      intro a140 c140 τ140 hle140 hr140
      have hr140b := hr140.rv.big
      refine ⟨(fun w h => sees_of hle140 (fun r hr => hr) w h), ?_⟩
      refine TA.act 11 (by kernel_rfl) rfl rfl (OpOk.callP (rofs_con _ a140 c140 ((x0.take (k126 + 1)).drop k126) hr140 u35) rfl rfl pf54 rfl rfl rfl ⟨(fun w h => sees_of hle140 (fun r hr => hr) w h), ?_⟩)
      refine TA.takeP 12 rfl (by kernel_rfl) (by kernel_rfl) (by kernel_rfl) rfl (OpVal.buildL rfl pl80 ze80 rfl) rfl rfl ?_
      refine TA.act 13 (by kernel_rfl) rfl rfl (OpOk.lit (enc := encE) [(⟨((k126 : Nat) : Int), (((k126 + 1) : Nat) : Int), (BSet.ofL ((x0.take (k126 + 1)).drop k126))⟩ : Arrow)] rfl Try.underlying23 sz80 ze80 rfl rfl rfl encE_len (by decide) (by decide) Arrow.zero rfl (by decide) rfl (by decide) encE_one (fun a141 c142 => ⟨(fun w h => sees_of hle140 (fun r hr => (List.mem_cons_of_mem _ hr)) w h), ?_⟩))
      refine TA.front 5 rfl rfl ?_
      refine TA.last 14 (by kernel_rfl) rfl rfl rfl (OpOk.appendS rfl rfl Try.underlying23 sz80 by80 ze80 rfl rfl (by decide) rfl rfl rfl (.inr ⟨_, 0, rfl⟩) (by simpa using u38) (by decide) (fun a144 c145 => ?_))
      refine TZ.v 15 (by kernel_rfl) rfl rfl rfl (OpVal.fieldLoc rfl fo25_3 rfl) rfl rfl ?_
      refine TZ.front 3 rfl rfl ?_
      refine TZ.last 16 (by kernel_rfl) rfl rfl rfl (OpOk.storeSl rfl sz23 rfl rfl rfl rfl rfl ?_)
      refine TZ.done (by kernel_rfl) ?_
      refine B.n ?_
      refine S.n ?_
      refine TC.region ?_
      refine TL.v rfl (OpVal.moveI (.inl rfl) rfl) rfl rfl ?_
      refine TL.v rfl (OpVal.succ rfl rfl rfl (by omega)) rfl rfl ?_
      refine TL.v rfl (OpVal.moveI (.inr rfl) rfl) rfl rfl ?_
      refine TL.nil ?_
      refine S.n ?_
      obtain ⟨hh, hlt146⟩ := nxt_x hR1 hh
      refine ⟨by repeat (first | exact Agr.refl _ _ | exact Agr.mask | refine Agr.upd rfl ?_ | refine Agr.maskIn rfl ?_ | refine Agr.upds rfl ?_), (((l123 ++ [(⟨((k126 : Nat) : Int), (((k126 + 1) : Nat) : Int), (BSet.ofL ((x0.take (k126 + 1)).drop k126))⟩ : Arrow)]), (k126 + 1)), (a144, c145, τ140)), hlt146, ⟨hh, (hle129.trans hle140)⟩, by repeat (first | exact trivial | refine ⟨rfl, ?_⟩), Sub.front 1 rfl rfl (Sub.front 5 rfl rfl (Sub.front 5 rfl rfl (Sub.front 3 rfl rfl (Sub.front 5 rfl rfl (Sub.pre 5 rfl))))), rfl⟩
    · replace hh := iteO_f h133 hh
      replace h133 := of_decide_eq_false h133
      refine TC.exit ?_
      refine S.x ?_
      refine S.x ?_
      replace hh := fin_x hR1 hh
      refine TC.exitHere ?_
      refine S.n ?_
      refine TC.seq ?_
      refine TC.region ?_
      refine TL.v rfl (OpVal.loadAll rfl ag25 sz25 rfl (i := 1) rfl rfl) rfl rfl ?_
      refine TL.op rfl (OpOk.storeAll rfl sz25 rfl rfl rfl rfl rfl rfl ?_)
      refine TL.v rfl (OpVal.moveI (.inr rfl) rfl) rfl rfl ?_
      refine TL.nil ?_
      refine S.n ?_
      refine TC.front 2 rfl rfl ?_
      refine TC.sealS encI_len (fun τ149 hle148 hr147 => ?_)
      have hr147b := hr147.rv.big
      refine TC.front 2 rfl rfl ?_
      refine TC.sealS encI_len (fun τ152 hle151 hr150 => ?_)
      replace hr147 := hr147.mono hle151
      have hr150b := hr150.rv.big
      refine TC.front 2 rfl rfl ?_
      refine TC.sealS encE_len (fun τ155 hle154 hr153 => ?_)
      replace hr147 := hr147.mono hle154
      replace hr150 := hr150.mono hle154
      have hr153b := hr153.rv.big
      refine TC.ofSub (Sub.pre 1 rfl) ?_
      refine TC.ret ?_
      obtain rfl := Option.some.inj hh
      exact RetOk.mk' (rs := [.cell 2 25, .tmp 3]) [] rfl (.inl rfl) (RVs.agg ag25 sz25 rfl (i := 0) rfl rfl (RVs.tmp rfl RVs.nil)) (List.sublist_append_left _ _) ⟨a104, c105, a107, c108, a124, c125, rfl, hr147, hr150, hr153, rfl⟩

end Go.Proofs.Ytcidppnlhhkhhaa
