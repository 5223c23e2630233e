/- Decompiled: parted texts. -/
import Derived.Test.YtcidppnlhhkhhaaN2
import Derived.Test.YtcidppnlhhkhhaaN3
set_option linter.unusedVariables false
set_option linter.unusedSimpArgs false
namespace Go.Proofs.Ytcidppnlhhkhhaa
open Go Go.E
set_option maxRecDepth 100000
private theorem pf14 : Go.E.plainF Try.prog 14 = true := by kernel_rfl
private theorem pf15 : Go.E.plainF Try.prog 15 = true := by kernel_rfl
private theorem pf17 : Go.E.plainF Try.prog 17 = true := by kernel_rfl
private theorem pf21 : Go.E.plainF Try.prog 21 = true := by kernel_rfl
private theorem pf25 : Go.E.plainF Try.prog 25 = true := by kernel_rfl
private theorem pf26 : Go.E.plainF Try.prog 26 = true := by kernel_rfl
private theorem pf27 : Go.E.plainF Try.prog 27 = true := by kernel_rfl
private theorem pf28 : Go.E.plainF Try.prog 28 = true := by kernel_rfl

noncomputable def whittlelaw10_NfaParts_j2 (k136 : Nat) (t138 : Bool) : Option ((Bool × Nat) ⊕ (Bool)) :=
  nxt (t138, (k136 + 1))
noncomputable def whittlelaw10_NfaParts_b1 (x4 : List UInt8) (x0 : Nfa) (x1 : Nfa) (v77 : Nfa × Int) (t135 : Bool) (k136 : Nat) : Option ((Bool × Nat) ⊕ (Bool)) :=
  iteO (decide (((k136 : Nat) : Int) ≤ ((x4.length : Nat) : Int))) (iteO t135 (whittlelaw10_NfaParts_j2 k136 true) (grd (0 ≤ k136 ∧ k136 ≤ x4.length) (bnd (whittlelaw10_takes x0 (x4.take k136)) (fun v104 => iteO v104 (grd (k136 ≤ x4.length ∧ x4.length ≤ x4.length) (bnd (whittlelaw10_takes x1 (x4.drop k136)) (fun v110 => whittlelaw10_NfaParts_j2 k136 v110))) (whittlelaw10_NfaParts_j2 k136 false))))) (fin (bnd (whittlelaw10_awake) (fun v117 => iteO v117 (bnd (whittlelaw10_takes (catR x0 x1) x4) (fun v121 => iteO (v121 == t135) (bnd (whittlelaw10_takes v77.1 x4) (fun v128 => bnd (whittlelaw10_takes x0 x4) (fun v131 => iteO v131 (some (v128 == true)) (bnd (whittlelaw10_takes x1 x4) (fun v135 => some (v128 == v135)))))) (some false))) (some false))))
noncomputable def whittlelaw10_NfaParts_j1 (x0 : Nfa) (x1 : Nfa) (x4 : List UInt8) : Option (Bool) :=
  bnd (nfa_Alt x0 x1) (fun v77 => iteO (decide ((catX x0 x1) ≠ 0)) (bnd (whittlelaw10_awake) (fun v90 => some v90)) (iteO (decide (v77.2 ≠ 0)) (bnd (whittlelaw10_awake) (fun v90 => some v90)) (iter (fun q : Bool × Nat => whittlelaw10_NfaParts_b1 x4 x0 x1 v77 q.1 q.2) (false, 0))))
noncomputable def whittlelaw10_NfaParts (x0 : Nfa) (x1 : Nfa) (x2 : List UInt8) (x3 : BSet) (x4 : List UInt8) : Option (Bool) :=
  grd (x2.length ≤ 281474976710656) (grd (x4.length ≤ 281474976710656) (iteO (!(fewB x0)) (some true) (iteO (!(fewB x1)) (some true) (iteO (decide (100 < ((x2.length : Nat) : Int))) (some true) (iteO (decide (12 < ((x4.length : Nat) : Int))) (some true) (grd (x2.length ≤ 1000000000000) (iteO (decide ((textX x2) ≠ 0)) (some false) (bnd (whittlelaw10_takes (textR x2) x2) (fun v37 => iteO (!v37) (some false) (bnd (whittlelaw10_takes (textR x2) x4) (fun v43 => iteO (v43 != (decide (x2 = x4))) (some false) (bnd (whittlelaw10_takes (setN x3) x4) (fun v53 => iteO (decide (((x4.length : Nat) : Int) = 1)) (grd (0 < x4.length) (iteO (v53 != (x3.has (nth x4 0 (0 : UInt8)).toNat)) (some false) (whittlelaw10_NfaParts_j1 x0 x1 x4))) (iteO (v53 != false) (some false) (whittlelaw10_NfaParts_j1 x0 x1 x4)))))))))))))))
theorem whittlelaw10_NfaParts_con {σ : Store} {x0 : Nfa} {a0_0 : Option Addr} {c0_0 : Nat} {a0_1 : Option Addr} {c0_1 : Nat} {a0_2 : Option Addr} {c0_2 : Nat} {x1 : Nfa} {a1_0 : Option Addr} {c1_0 : Nat} {a1_1 : Option Addr} {c1_1 : Nat} {a1_2 : Option Addr} {c1_2 : Nat} {x2 : List UInt8} {x3 : BSet} {x4 : List UInt8} (f0_0 : RS σ 1 encI (.slice a0_0 x0.starts.length c0_0) x0.starts) (f0_1 : RS σ 1 encI (.slice a0_1 x0.ends.length c0_1) x0.ends) (f0_2 : RS σ 6 encE (.slice a0_2 x0.edges.length c0_2) x0.edges) (f1_0 : RS σ 1 encI (.slice a1_0 x1.starts.length c1_0) x1.starts) (f1_1 : RS σ 1 encI (.slice a1_1 x1.ends.length c1_1) x1.ends) (f1_2 : RS σ 6 encE (.slice a1_2 x1.edges.length c1_2) x1.edges) {r : Bool} (hh : whittlelaw10_NfaParts x0 x1 x2 x3 x4 = some r) :
    Con Try.prog 5 #[.agg #[.int .i64 x0.states, .slice a0_0 x0.starts.length c0_0, .slice a0_1 x0.ends.length c0_1, .slice a0_2 x0.edges.length c0_2], .agg #[.int .i64 x1.states, .slice a1_0 x1.starts.length c1_0, .slice a1_1 x1.ends.length c1_1, .slice a1_2 x1.edges.length c1_2], .string (bs x2), setV x3, .string (bs x4)] σ [] (PureP (.bool r) σ) := by
  dsimp only [whittlelaw10_NfaParts] at hh
  have f0_0b := f0_0.rv.big
  have f0_1b := f0_1.rv.big
  have f0_2b := f0_2.rv.big
  have f1_0b := f1_0.rv.big
  have f1_1b := f1_1.rv.big
  have f1_2b := f1_2.rv.big
  refine Con.mk (n := 137) Try.func5 rfl rfl rfl (fun w0 => ?_)
  have x2b := grd_c hh
  replace hh := grd_t hh
  have x4b := grd_c hh
  replace hh := grd_t hh
  refine TC.seq ?_
  refine TC.region ?_
  refine TL.op rfl (OpOk.boxA rfl rfl rfl rfl (fun b101 => ?_))
  refine TL.op rfl (OpOk.boxA rfl rfl rfl rfl (fun b103 => ?_))
  refine TL.op rfl (OpOk.boxA rfl rfl rfl rfl (fun b105 => ?_))
  refine TL.v rfl (OpVal.moveB (.inr rfl) rfl) rfl rfl ?_
  refine TL.nil ?_
  refine S.n ?_
  refine TC.seq ?_
  refine TC.seq ?_
  refine TC.region ?_
  refine TL.v rfl (OpVal.loadAll rfl ag25 sz25 rfl (i := 2) rfl rfl) rfl rfl ?_
  refine TL.op rfl (OpOk.callP (few_con _ x0 ⟨a0_0, c0_0, a0_1, c0_1, a0_2, c0_2⟩ ⟨f0_0, f0_1, f0_2, fun x _ => x.set.isOk⟩) rfl rfl pf14 rfl rfl rfl ?_)
  refine TL.v rfl (OpVal.not rfl rfl) rfl rfl ?_
  refine TL.v rfl (OpVal.moveB (.inl rfl) rfl) rfl rfl ?_
  refine TL.split 22 rfl (fun h107 => ?_) (fun h107 => ?_)
  · replace hh := iteO_t h107 hh
    refine TL.goff rfl rfl rfl rfl rfl rfl rfl rfl ?_
    refine TL.goff rfl rfl rfl rfl rfl rfl rfl rfl ?_
    refine TL.goff rfl rfl rfl rfl rfl rfl rfl rfl ?_
    refine TL.v rfl (OpVal.pickTB rfl rfl rfl) rfl rfl ?_
    refine TL.v rfl (OpVal.moveB (.inl rfl) rfl) rfl rfl ?_
    refine TL.goff rfl rfl rfl rfl rfl rfl rfl rfl ?_
    refine TL.goff rfl rfl rfl rfl rfl rfl rfl rfl ?_
    refine TL.goff rfl rfl rfl rfl rfl rfl rfl rfl ?_
    refine TL.v rfl (OpVal.pickTB rfl rfl rfl) rfl rfl ?_
    refine TL.v rfl (OpVal.moveB (.inl rfl) rfl) rfl rfl ?_
    refine TL.goff rfl rfl rfl rfl rfl rfl rfl rfl ?_
    refine TL.goff rfl rfl rfl rfl rfl rfl rfl rfl ?_
    refine TL.goff rfl rfl rfl rfl rfl rfl rfl rfl ?_
    refine TL.v rfl (OpVal.pickTB rfl rfl rfl) rfl rfl ?_
    refine TL.nil ?_
    refine S.n ?_
    refine TC.cond rfl (fun _ => ?_) (fun h => Bool.noConfusion h)
    refine TC.seq ?_
    refine TC.region ?_
    refine TL.v rfl (OpVal.moveB (.inr rfl) rfl) rfl rfl ?_
    refine TL.nil ?_
    refine S.n ?_
    refine TC.ofSub (Sub.pre 0 rfl) ?_
    refine TC.ret ?_
    refine S.r ?_
    obtain rfl := Option.some.inj hh
    exact RetOk.mk' (rs := [.tmp 10]) [] rfl (.inl rfl) (RVs.tmp rfl RVs.nil) (List.sublist_append_left _ _) ⟨rfl, rfl, rfl⟩
  · replace hh := iteO_f h107 hh
    refine TL.gv rfl rfl rfl rfl rfl (OpVal.loadAll rfl ag25 sz25 rfl (i := 1) rfl rfl) rfl rfl ?_
    refine TL.gon rfl rfl rfl rfl rfl (OpOk.callP (few_con _ x1 ⟨a1_0, c1_0, a1_1, c1_1, a1_2, c1_2⟩ ⟨f1_0, f1_1, f1_2, fun x _ => x.set.isOk⟩) rfl rfl pf14 rfl rfl rfl ?_)
    refine TL.gv rfl rfl rfl rfl rfl (OpVal.not rfl rfl) rfl rfl ?_
    refine TL.v rfl (OpVal.pickFB rfl rfl rfl) rfl rfl ?_
    refine TL.v rfl (OpVal.moveB (.inl rfl) rfl) rfl rfl ?_
    refine TL.split 27 rfl (fun h108 => ?_) (fun h108 => ?_)
    · replace hh := iteO_t h108 hh
      refine TL.goff rfl rfl rfl rfl rfl rfl rfl rfl ?_
      refine TL.goff rfl rfl rfl rfl rfl rfl rfl rfl ?_
      refine TL.goff rfl rfl rfl rfl rfl rfl rfl rfl ?_
      refine TL.v rfl (OpVal.pickTB rfl rfl rfl) rfl rfl ?_
      refine TL.v rfl (OpVal.moveB (.inl rfl) rfl) rfl rfl ?_
      refine TL.goff rfl rfl rfl rfl rfl rfl rfl rfl ?_
      refine TL.goff rfl rfl rfl rfl rfl rfl rfl rfl ?_
      refine TL.goff rfl rfl rfl rfl rfl rfl rfl rfl ?_
      refine TL.v rfl (OpVal.pickTB rfl rfl rfl) rfl rfl ?_
      refine TL.nil ?_
      refine S.n ?_
      refine TC.cond rfl (fun _ => ?_) (fun h => Bool.noConfusion h)
      refine TC.seq ?_
      refine TC.region ?_
      refine TL.v rfl (OpVal.moveB (.inr rfl) rfl) rfl rfl ?_
      refine TL.nil ?_
      refine S.n ?_
      refine TC.ofSub (Sub.pre 0 rfl) ?_
      refine TC.ret ?_
      refine S.r ?_
      obtain rfl := Option.some.inj hh
      exact RetOk.mk' (rs := [.tmp 10]) [] rfl (.inl rfl) (RVs.tmp rfl RVs.nil) (List.sublist_append_left _ _) ⟨rfl, rfl, rfl⟩
    · replace hh := iteO_f h108 hh
      refine TL.gv rfl rfl rfl rfl rfl (OpVal.moveStr (.inl rfl) rfl) rfl rfl ?_
      refine TL.gv rfl rfl rfl rfl rfl (OpVal.lenBs rfl Try.underlying9 rfl) rfl rfl ?_
      refine TL.gv rfl rfl rfl rfl rfl (OpVal.gtr rfl rfl rfl) rfl rfl ?_
      refine TL.v rfl (OpVal.pickFB rfl rfl rfl) rfl rfl ?_
      refine TL.v rfl (OpVal.moveB (.inl rfl) rfl) rfl rfl ?_
      refine TL.split 32 rfl (fun h109 => ?_) (fun h109 => ?_)
      · replace hh := iteO_t h109 hh
        replace h109 := of_decide_eq_true h109
        refine TL.goff rfl rfl rfl rfl rfl rfl rfl rfl ?_
        refine TL.goff rfl rfl rfl rfl rfl rfl rfl rfl ?_
        refine TL.goff rfl rfl rfl rfl rfl rfl rfl rfl ?_
        refine TL.v rfl (OpVal.pickTB rfl rfl rfl) rfl rfl ?_
        refine TL.nil ?_
        refine S.n ?_
        refine TC.cond rfl (fun _ => ?_) (fun h => Bool.noConfusion h)
        refine TC.seq ?_
        refine TC.region ?_
        refine TL.v rfl (OpVal.moveB (.inr rfl) rfl) rfl rfl ?_
        refine TL.nil ?_
        refine S.n ?_
        refine TC.ofSub (Sub.pre 0 rfl) ?_
        refine TC.ret ?_
        refine S.r ?_
        obtain rfl := Option.some.inj hh
        exact RetOk.mk' (rs := [.tmp 10]) [] rfl (.inl rfl) (RVs.tmp rfl RVs.nil) (List.sublist_append_left _ _) ⟨rfl, rfl, rfl⟩
      · replace hh := iteO_f h109 hh
        replace h109 := of_decide_eq_false h109
        refine TL.gv rfl rfl rfl rfl rfl (OpVal.moveStr (.inl rfl) rfl) rfl rfl ?_
        refine TL.gv rfl rfl rfl rfl rfl (OpVal.lenBs rfl Try.underlying9 rfl) rfl rfl ?_
        refine TL.gv rfl rfl rfl rfl rfl (OpVal.gtr rfl rfl rfl) rfl rfl ?_
        refine TL.v rfl (OpVal.pickFB rfl rfl rfl) rfl rfl ?_
        refine TL.nil ?_
        refine S.n ?_
        refine TC.cond rfl (fun h110 => ?_) (fun h110 => ?_)
        · replace hh := iteO_t h110 hh
          replace h110 := of_decide_eq_true h110
          refine TC.seq ?_
          refine TC.region ?_
          refine TL.v rfl (OpVal.moveB (.inr rfl) rfl) rfl rfl ?_
          refine TL.nil ?_
          refine S.n ?_
          refine TC.ofSub (Sub.pre 0 rfl) ?_
          refine TC.ret ?_
          refine S.r ?_
          obtain rfl := Option.some.inj hh
          exact RetOk.mk' (rs := [.tmp 10]) [] rfl (.inl rfl) (RVs.tmp rfl RVs.nil) (List.sublist_append_left _ _) ⟨rfl, rfl, rfl⟩
        · replace hh := iteO_f h110 hh
          replace h110 := of_decide_eq_false h110
          refine TC.skip ?_
          refine S.n ?_
          refine TC.seq ?_
          refine TC.region ?_
          refine TL.v rfl (OpVal.moveStr (.inl rfl) rfl) rfl rfl ?_
          have u25a := grd_c hh
          replace hh := grd_t hh
          refine TL.op rfl (OpOk.call (text_con _ (bs x2) u25a) rfl rfl pf15 rfl rfl rfl rfl ?_)
          rintro _ τ111 _ hle111 ⟨p111, rfl, hn111, rfl⟩
          replace f0_0 := f0_0.mono hle111
          replace f0_1 := f0_1.mono hle111
          replace f0_2 := f0_2.mono hle111
          replace f1_0 := f1_0.mono hle111
          replace f1_1 := f1_1.mono hle111
          replace f1_2 := f1_2.mono hle111
          have hn111sb := hn111.s.rv.big
          have hn111eb := hn111.e.rv.big
          have hn111db := hn111.d.rv.big
          refine TL.v rfl (OpVal.moveT (.inl rfl) rfl) rfl rfl ?_
          refine TL.v rfl (OpVal.extract rfl rfl rfl) rfl rfl ?_
          refine TL.v rfl (OpVal.extract rfl rfl rfl) rfl rfl ?_
          refine TL.op rfl (OpOk.alloc rfl ze25 rfl rfl (fun b112 => ?_))
          refine TL.op rfl (OpOk.storeAll rfl sz25 rfl rfl rfl rfl rfl rfl ?_)
          refine TL.v rfl (OpVal.moveI (.inr rfl) rfl) rfl rfl ?_
          refine TL.nil ?_
          refine S.n ?_
          refine TC.cutG (α := (Unit) × (Store)) [10, 42, 43, 44, 45, 46, 47, 48, 49, 50, 51, 52, 53, 54, 55, 56, 57, 58, 59, 60, 61, 62, 63, 64, 65, 66, 67, 68, 69, 70, 71, 72, 73, 74] (fun g => []) (fun g => [Res.cells b101 #[.int .i64 x0.states, .slice a0_0 x0.starts.length c0_0, .slice a0_1 x0.ends.length c0_1, .slice a0_2 x0.edges.length c0_2] 25, Res.cells b103 #[.int .i64 x1.states, .slice a1_0 x1.starts.length c1_0, .slice a1_1 x1.ends.length c1_1, .slice a1_2 x1.edges.length c1_2] 25]) (fun g => g.2) (fun g => whittlelaw10_NfaParts_j1 x0 x1 x4 = some r ∧ Store.le τ111 g.2) ?_ (fun g j hg => ?_)
          · skip
            refine TC.seq ?_
            refine TC.draw [] (by kernel_rfl) ?_
            refine TA.takeP 0 rfl (by kernel_rfl) (by kernel_rfl) (by kernel_rfl) rfl (OpVal.moveI (.inl rfl) rfl) rfl rfl ?_
            refine TA.takeP 1 rfl (by kernel_rfl) (by kernel_rfl) (by kernel_rfl) rfl (OpVal.neq rfl rfl rfl) rfl rfl ?_
            refine TA.takeP 2 rfl (by kernel_rfl) (by kernel_rfl) (by kernel_rfl) rfl (OpVal.moveB (.inl rfl) rfl) rfl rfl ?_
            refine TA.split 44 rfl (fun h114 => ?_) (fun h114 => ?_)
            · replace hh := iteO_t h114 hh
              replace h114 := of_decide_eq_true h114
              refine TA.takeOff 3 rfl (by kernel_rfl) (by kernel_rfl) (by kernel_rfl) (by kernel_rfl) rfl rfl rfl rfl rfl rfl rfl rfl ?_
              refine TA.takeOff 4 rfl (by kernel_rfl) (by kernel_rfl) (by kernel_rfl) (by kernel_rfl) rfl rfl rfl rfl rfl rfl rfl rfl ?_
              refine TA.takeOff 5 rfl (by kernel_rfl) (by kernel_rfl) (by kernel_rfl) (by kernel_rfl) rfl rfl rfl rfl rfl rfl rfl rfl ?_
              refine TA.takeOff 6 rfl (by kernel_rfl) (by kernel_rfl) (by kernel_rfl) (by kernel_rfl) rfl rfl rfl rfl rfl rfl rfl rfl ?_
              refine TA.takeP 7 rfl (by kernel_rfl) (by kernel_rfl) (by kernel_rfl) rfl (OpVal.pickTB rfl rfl rfl) rfl rfl ?_
              refine TA.takeP 8 rfl (by kernel_rfl) (by kernel_rfl) (by kernel_rfl) rfl (OpVal.moveB (.inl rfl) rfl) rfl rfl ?_
              refine TA.takeOff 9 rfl (by kernel_rfl) (by kernel_rfl) (by kernel_rfl) (by kernel_rfl) rfl rfl rfl rfl rfl rfl rfl rfl ?_
              refine TA.takeOff 10 rfl (by kernel_rfl) (by kernel_rfl) (by kernel_rfl) (by kernel_rfl) rfl rfl rfl rfl rfl rfl rfl rfl ?_
              refine TA.takeOff 11 rfl (by kernel_rfl) (by kernel_rfl) (by kernel_rfl) (by kernel_rfl) rfl rfl rfl rfl rfl rfl rfl rfl ?_
              refine TA.takeOff 12 rfl (by kernel_rfl) (by kernel_rfl) (by kernel_rfl) (by kernel_rfl) rfl rfl rfl rfl rfl rfl rfl rfl ?_
              refine TA.takeOff 13 rfl (by kernel_rfl) (by kernel_rfl) (by kernel_rfl) (by kernel_rfl) rfl rfl rfl rfl rfl rfl rfl rfl ?_
              refine TA.takeOff 14 rfl (by kernel_rfl) (by kernel_rfl) (by kernel_rfl) (by kernel_rfl) rfl rfl rfl rfl rfl rfl rfl rfl ?_
              refine TA.takeOff 15 rfl (by kernel_rfl) (by kernel_rfl) (by kernel_rfl) (by kernel_rfl) rfl rfl rfl rfl rfl rfl rfl rfl ?_
              refine TA.takeP 16 rfl (by kernel_rfl) (by kernel_rfl) (by kernel_rfl) rfl (OpVal.pickTB rfl rfl rfl) rfl rfl ?_
              refine TA.takeP 17 rfl (by kernel_rfl) (by kernel_rfl) (by kernel_rfl) rfl (OpVal.moveB (.inl rfl) rfl) rfl rfl ?_
              refine TA.takeOff 18 rfl (by kernel_rfl) (by kernel_rfl) (by kernel_rfl) (by kernel_rfl) rfl rfl rfl rfl rfl rfl rfl rfl ?_
              refine TA.takeOff 19 rfl (by kernel_rfl) (by kernel_rfl) (by kernel_rfl) (by kernel_rfl) rfl rfl rfl rfl rfl rfl rfl rfl ?_
              refine TA.takeOff 20 rfl (by kernel_rfl) (by kernel_rfl) (by kernel_rfl) (by kernel_rfl) rfl rfl rfl rfl rfl rfl rfl rfl ?_
              refine TA.takeOff 21 rfl (by kernel_rfl) (by kernel_rfl) (by kernel_rfl) (by kernel_rfl) rfl rfl rfl rfl rfl rfl rfl rfl ?_
              refine TA.takeOff 22 rfl (by kernel_rfl) (by kernel_rfl) (by kernel_rfl) (by kernel_rfl) rfl rfl rfl rfl rfl rfl rfl rfl ?_
              refine TA.takeOff 23 rfl (by kernel_rfl) (by kernel_rfl) (by kernel_rfl) (by kernel_rfl) rfl rfl rfl rfl rfl rfl rfl rfl ?_
              refine TA.takeOff 24 rfl (by kernel_rfl) (by kernel_rfl) (by kernel_rfl) (by kernel_rfl) rfl rfl rfl rfl rfl rfl rfl rfl ?_
              refine TA.takeOff 25 rfl (by kernel_rfl) (by kernel_rfl) (by kernel_rfl) (by kernel_rfl) rfl rfl rfl rfl rfl rfl rfl rfl ?_
              refine TA.takeOff' 26 rfl (by kernel_rfl) (by kernel_rfl) (by kernel_rfl) (by kernel_rfl) rfl rfl rfl rfl rfl rfl rfl ?_
              refine TA.takeOff' 27 rfl (by kernel_rfl) (by kernel_rfl) (by kernel_rfl) (by kernel_rfl) rfl rfl rfl rfl rfl rfl rfl ?_
              refine TA.takeOff' 28 rfl (by kernel_rfl) (by kernel_rfl) (by kernel_rfl) (by kernel_rfl) rfl rfl rfl rfl rfl rfl rfl ?_
              refine TA.takeOff' 29 rfl (by kernel_rfl) (by kernel_rfl) (by kernel_rfl) (by kernel_rfl) rfl rfl rfl rfl rfl rfl rfl ?_
              refine TA.takeOff 30 rfl (by kernel_rfl) (by kernel_rfl) (by kernel_rfl) (by kernel_rfl) rfl rfl rfl rfl rfl rfl rfl rfl ?_
              refine TA.takeOff 31 rfl (by kernel_rfl) (by kernel_rfl) (by kernel_rfl) (by kernel_rfl) rfl rfl rfl rfl rfl rfl rfl rfl ?_
              refine TA.takeP 32 rfl (by kernel_rfl) (by kernel_rfl) (by kernel_rfl) rfl (OpVal.pickTB rfl rfl rfl) rfl rfl ?_
              refine TA.done (by kernel_rfl) ?_
              refine S.n ?_
              refine TC.cond rfl (fun _ => ?_) (fun h => Bool.noConfusion h)
              refine TC.seq ?_
              refine TC.region ?_
              refine TL.v rfl (OpVal.moveB (.inr rfl) rfl) rfl rfl ?_
              refine TL.nil ?_
              refine S.n ?_
              refine TC.ofSub (Sub.pre 0 rfl) ?_
              refine TC.back ?_
              refine TC.ret ?_
              refine S.r ?_
              obtain rfl := Option.some.inj hh
              exact RetOk.mk' (rs := [.tmp 10]) [] rfl (.inl rfl) (RVs.tmp rfl RVs.nil) (List.sublist_append_left _ _) ⟨rfl, rfl, rfl⟩
            · replace hh := iteO_f h114 hh
              replace h114 := of_decide_eq_false h114
              refine TA.takeOn 3 rfl (by kernel_rfl) (by kernel_rfl) (by kernel_rfl) (by kernel_rfl) rfl rfl rfl rfl rfl (OpVal.loadAll rfl ag25 sz25 rfl (i := 0) rfl rfl) rfl rfl ?_
              refine TA.takeOn 4 rfl (by kernel_rfl) (by kernel_rfl) (by kernel_rfl) (by kernel_rfl) rfl rfl rfl rfl rfl (OpVal.moveStr (.inl rfl) rfl) rfl rfl ?_
              obtain ⟨v37, u37, hh⟩ := bnd_e hh
              refine TA.actOn 5 (by kernel_rfl) rfl rfl rfl rfl rfl rfl (OpOk.callP (whittlelaw10_takes_con hn111.s hn111.e hn111.d u37) rfl rfl pf25 rfl rfl rfl ⟨(fun w h => sees_of (Store.le.refl _) (fun r hr => hr) w h), ?_⟩)
              refine TA.takeOn 6 rfl (by kernel_rfl) (by kernel_rfl) (by kernel_rfl) (by kernel_rfl) rfl rfl rfl rfl rfl (OpVal.not rfl rfl) rfl rfl ?_
              refine TA.takeP 7 rfl (by kernel_rfl) (by kernel_rfl) (by kernel_rfl) rfl (OpVal.pickFB rfl rfl rfl) rfl rfl ?_
              refine TA.takeP 8 rfl (by kernel_rfl) (by kernel_rfl) (by kernel_rfl) rfl (OpVal.moveB (.inl rfl) rfl) rfl rfl ?_
              refine TA.split 50 rfl (fun h115 => ?_) (fun h115 => ?_)
              · replace hh := iteO_t h115 hh
                refine TA.takeOff 9 rfl (by kernel_rfl) (by kernel_rfl) (by kernel_rfl) (by kernel_rfl) rfl rfl rfl rfl rfl rfl rfl rfl ?_
                refine TA.takeOff 10 rfl (by kernel_rfl) (by kernel_rfl) (by kernel_rfl) (by kernel_rfl) rfl rfl rfl rfl rfl rfl rfl rfl ?_
                refine TA.takeOff 11 rfl (by kernel_rfl) (by kernel_rfl) (by kernel_rfl) (by kernel_rfl) rfl rfl rfl rfl rfl rfl rfl rfl ?_
                refine TA.takeOff 12 rfl (by kernel_rfl) (by kernel_rfl) (by kernel_rfl) (by kernel_rfl) rfl rfl rfl rfl rfl rfl rfl rfl ?_
                refine TA.takeOff 13 rfl (by kernel_rfl) (by kernel_rfl) (by kernel_rfl) (by kernel_rfl) rfl rfl rfl rfl rfl rfl rfl rfl ?_
                refine TA.takeOff 14 rfl (by kernel_rfl) (by kernel_rfl) (by kernel_rfl) (by kernel_rfl) rfl rfl rfl rfl rfl rfl rfl rfl ?_
                refine TA.takeOff 15 rfl (by kernel_rfl) (by kernel_rfl) (by kernel_rfl) (by kernel_rfl) rfl rfl rfl rfl rfl rfl rfl rfl ?_
                refine TA.takeP 16 rfl (by kernel_rfl) (by kernel_rfl) (by kernel_rfl) rfl (OpVal.pickTB rfl rfl rfl) rfl rfl ?_
                refine TA.takeP 17 rfl (by kernel_rfl) (by kernel_rfl) (by kernel_rfl) rfl (OpVal.moveB (.inl rfl) rfl) rfl rfl ?_
                refine TA.takeOff 18 rfl (by kernel_rfl) (by kernel_rfl) (by kernel_rfl) (by kernel_rfl) rfl rfl rfl rfl rfl rfl rfl rfl ?_
                refine TA.takeOff 19 rfl (by kernel_rfl) (by kernel_rfl) (by kernel_rfl) (by kernel_rfl) rfl rfl rfl rfl rfl rfl rfl rfl ?_
                refine TA.takeOff 20 rfl (by kernel_rfl) (by kernel_rfl) (by kernel_rfl) (by kernel_rfl) rfl rfl rfl rfl rfl rfl rfl rfl ?_
                refine TA.takeOff 21 rfl (by kernel_rfl) (by kernel_rfl) (by kernel_rfl) (by kernel_rfl) rfl rfl rfl rfl rfl rfl rfl rfl ?_
                refine TA.takeOff 22 rfl (by kernel_rfl) (by kernel_rfl) (by kernel_rfl) (by kernel_rfl) rfl rfl rfl rfl rfl rfl rfl rfl ?_
                refine TA.takeOff 23 rfl (by kernel_rfl) (by kernel_rfl) (by kernel_rfl) (by kernel_rfl) rfl rfl rfl rfl rfl rfl rfl rfl ?_
                refine TA.takeOff 24 rfl (by kernel_rfl) (by kernel_rfl) (by kernel_rfl) (by kernel_rfl) rfl rfl rfl rfl rfl rfl rfl rfl ?_
                refine TA.takeOff 25 rfl (by kernel_rfl) (by kernel_rfl) (by kernel_rfl) (by kernel_rfl) rfl rfl rfl rfl rfl rfl rfl rfl ?_
                refine TA.takeOff' 26 rfl (by kernel_rfl) (by kernel_rfl) (by kernel_rfl) (by kernel_rfl) rfl rfl rfl rfl rfl rfl rfl ?_
                refine TA.takeOff' 27 rfl (by kernel_rfl) (by kernel_rfl) (by kernel_rfl) (by kernel_rfl) rfl rfl rfl rfl rfl rfl rfl ?_
                refine TA.takeOff' 28 rfl (by kernel_rfl) (by kernel_rfl) (by kernel_rfl) (by kernel_rfl) rfl rfl rfl rfl rfl rfl rfl ?_
                refine TA.takeOff' 29 rfl (by kernel_rfl) (by kernel_rfl) (by kernel_rfl) (by kernel_rfl) rfl rfl rfl rfl rfl rfl rfl ?_
                refine TA.takeOff 30 rfl (by kernel_rfl) (by kernel_rfl) (by kernel_rfl) (by kernel_rfl) rfl rfl rfl rfl rfl rfl rfl rfl ?_
                refine TA.takeOff 31 rfl (by kernel_rfl) (by kernel_rfl) (by kernel_rfl) (by kernel_rfl) rfl rfl rfl rfl rfl rfl rfl rfl ?_
                refine TA.takeP 32 rfl (by kernel_rfl) (by kernel_rfl) (by kernel_rfl) rfl (OpVal.pickTB rfl rfl rfl) rfl rfl ?_
                refine TA.done (by kernel_rfl) ?_
                refine S.n ?_
                refine TC.cond rfl (fun _ => ?_) (fun h => Bool.noConfusion h)
                refine TC.seq ?_
                refine TC.region ?_
                refine TL.v rfl (OpVal.moveB (.inr rfl) rfl) rfl rfl ?_
                refine TL.nil ?_
                refine S.n ?_
                refine TC.ofSub (Sub.pre 0 rfl) ?_
                refine TC.back ?_
                refine TC.ret ?_
                refine S.r ?_
                obtain rfl := Option.some.inj hh
                exact RetOk.mk' (rs := [.tmp 10]) [] rfl (.inl rfl) (RVs.tmp rfl RVs.nil) (List.sublist_append_left _ _) ⟨rfl, rfl, rfl⟩
              · replace hh := iteO_f h115 hh
                refine TA.takeOn 9 rfl (by kernel_rfl) (by kernel_rfl) (by kernel_rfl) (by kernel_rfl) rfl rfl rfl rfl rfl (OpVal.loadAll rfl ag25 sz25 rfl (i := 0) rfl rfl) rfl rfl ?_
                refine TA.takeOn 10 rfl (by kernel_rfl) (by kernel_rfl) (by kernel_rfl) (by kernel_rfl) rfl rfl rfl rfl rfl (OpVal.moveStr (.inl rfl) rfl) rfl rfl ?_
                refine TA.takeOn 12 rfl (by kernel_rfl) (by kernel_rfl) (by kernel_rfl) (by kernel_rfl) rfl rfl rfl rfl rfl (OpVal.moveStr (.inl rfl) rfl) rfl rfl ?_
                refine TA.takeOn 13 rfl (by kernel_rfl) (by kernel_rfl) (by kernel_rfl) (by kernel_rfl) rfl rfl rfl rfl rfl (OpVal.moveStr (.inl rfl) rfl) rfl rfl ?_
                refine TA.takeOn 14 rfl (by kernel_rfl) (by kernel_rfl) (by kernel_rfl) (by kernel_rfl) rfl rfl rfl rfl rfl (OpVal.eqlBs rfl rfl rfl) rfl rfl ?_
                obtain ⟨v43, u43, hh⟩ := bnd_e hh
                refine TA.actOn 11 (by kernel_rfl) rfl rfl rfl rfl rfl rfl (OpOk.callP (whittlelaw10_takes_con hn111.s hn111.e hn111.d u43) rfl rfl pf25 rfl rfl rfl ⟨(fun w h => sees_of (Store.le.refl _) (fun r hr => hr) w h), ?_⟩)
                refine TA.takeOn 15 rfl (by kernel_rfl) (by kernel_rfl) (by kernel_rfl) (by kernel_rfl) rfl rfl rfl rfl rfl (OpVal.neqB rfl rfl rfl Try.underlying4) rfl rfl ?_
                refine TA.takeP 16 rfl (by kernel_rfl) (by kernel_rfl) (by kernel_rfl) rfl (OpVal.pickFB rfl rfl rfl) rfl rfl ?_
                refine TA.takeP 17 rfl (by kernel_rfl) (by kernel_rfl) (by kernel_rfl) rfl (OpVal.moveB (.inl rfl) rfl) rfl rfl ?_
                refine TA.split 59 rfl (fun h116 => ?_) (fun h116 => ?_)
                · replace hh := iteO_t h116 hh
                  refine TA.takeOff 18 rfl (by kernel_rfl) (by kernel_rfl) (by kernel_rfl) (by kernel_rfl) rfl rfl rfl rfl rfl rfl rfl rfl ?_
                  refine TA.takeOff 19 rfl (by kernel_rfl) (by kernel_rfl) (by kernel_rfl) (by kernel_rfl) rfl rfl rfl rfl rfl rfl rfl rfl ?_
                  refine TA.takeOff 20 rfl (by kernel_rfl) (by kernel_rfl) (by kernel_rfl) (by kernel_rfl) rfl rfl rfl rfl rfl rfl rfl rfl ?_
                  refine TA.takeOff 21 rfl (by kernel_rfl) (by kernel_rfl) (by kernel_rfl) (by kernel_rfl) rfl rfl rfl rfl rfl rfl rfl rfl ?_
                  refine TA.takeOff 22 rfl (by kernel_rfl) (by kernel_rfl) (by kernel_rfl) (by kernel_rfl) rfl rfl rfl rfl rfl rfl rfl rfl ?_
                  refine TA.takeOff 23 rfl (by kernel_rfl) (by kernel_rfl) (by kernel_rfl) (by kernel_rfl) rfl rfl rfl rfl rfl rfl rfl rfl ?_
                  refine TA.takeOff 24 rfl (by kernel_rfl) (by kernel_rfl) (by kernel_rfl) (by kernel_rfl) rfl rfl rfl rfl rfl rfl rfl rfl ?_
                  refine TA.takeOff 25 rfl (by kernel_rfl) (by kernel_rfl) (by kernel_rfl) (by kernel_rfl) rfl rfl rfl rfl rfl rfl rfl rfl ?_
                  refine TA.takeOff' 26 rfl (by kernel_rfl) (by kernel_rfl) (by kernel_rfl) (by kernel_rfl) rfl rfl rfl rfl rfl rfl rfl ?_
                  refine TA.takeOff' 27 rfl (by kernel_rfl) (by kernel_rfl) (by kernel_rfl) (by kernel_rfl) rfl rfl rfl rfl rfl rfl rfl ?_
                  refine TA.takeOff' 28 rfl (by kernel_rfl) (by kernel_rfl) (by kernel_rfl) (by kernel_rfl) rfl rfl rfl rfl rfl rfl rfl ?_
                  refine TA.takeOff' 29 rfl (by kernel_rfl) (by kernel_rfl) (by kernel_rfl) (by kernel_rfl) rfl rfl rfl rfl rfl rfl rfl ?_
                  refine TA.takeOff 30 rfl (by kernel_rfl) (by kernel_rfl) (by kernel_rfl) (by kernel_rfl) rfl rfl rfl rfl rfl rfl rfl rfl ?_
                  refine TA.takeOff 31 rfl (by kernel_rfl) (by kernel_rfl) (by kernel_rfl) (by kernel_rfl) rfl rfl rfl rfl rfl rfl rfl rfl ?_
                  refine TA.takeP 32 rfl (by kernel_rfl) (by kernel_rfl) (by kernel_rfl) rfl (OpVal.pickTB rfl rfl rfl) rfl rfl ?_
                  refine TA.done (by kernel_rfl) ?_
                  refine S.n ?_
                  refine TC.cond rfl (fun _ => ?_) (fun h => Bool.noConfusion h)
                  refine TC.seq ?_
                  refine TC.region ?_
                  refine TL.v rfl (OpVal.moveB (.inr rfl) rfl) rfl rfl ?_
                  refine TL.nil ?_
                  refine S.n ?_
                  refine TC.ofSub (Sub.pre 0 rfl) ?_
                  refine TC.back ?_
                  refine TC.ret ?_
                  refine S.r ?_
                  obtain rfl := Option.some.inj hh
                  exact RetOk.mk' (rs := [.tmp 10]) [] rfl (.inl rfl) (RVs.tmp rfl RVs.nil) (List.sublist_append_left _ _) ⟨rfl, rfl, rfl⟩
                · replace hh := iteO_f h116 hh
                  refine TA.takeOn 18 rfl (by kernel_rfl) (by kernel_rfl) (by kernel_rfl) (by kernel_rfl) rfl rfl rfl rfl rfl (OpVal.loadAll rfl ag28 sz28 rfl (i := 1) rfl rfl) rfl rfl ?_
                  refine TA.takeOn 20 rfl (by kernel_rfl) (by kernel_rfl) (by kernel_rfl) (by kernel_rfl) rfl rfl rfl rfl rfl (OpVal.moveStr (.inl rfl) rfl) rfl rfl ?_
                  refine TA.takeOn 22 rfl (by kernel_rfl) (by kernel_rfl) (by kernel_rfl) (by kernel_rfl) rfl rfl rfl rfl rfl (OpVal.moveStr (.inl rfl) rfl) rfl rfl ?_
                  refine TA.takeOn 23 rfl (by kernel_rfl) (by kernel_rfl) (by kernel_rfl) (by kernel_rfl) rfl rfl rfl rfl rfl (OpVal.lenBs rfl Try.underlying9 rfl) rfl rfl ?_
                  refine TA.takeOn 24 rfl (by kernel_rfl) (by kernel_rfl) (by kernel_rfl) (by kernel_rfl) rfl rfl rfl rfl rfl (OpVal.eql rfl rfl rfl) rfl rfl ?_
                  refine TA.actOn 19 (by kernel_rfl) rfl rfl rfl rfl rfl rfl (OpOk.call (set_con _ x3 (BSet.isOk _)) rfl rfl pf21 rfl rfl rfl rfl ?_)
                  rintro _ τ117 _ hle117 ⟨p117, rfl, hn117, rfl⟩
                  replace f0_0 := f0_0.mono hle117
                  replace f0_1 := f0_1.mono hle117
                  replace f0_2 := f0_2.mono hle117
                  replace f1_0 := f1_0.mono hle117
                  replace f1_1 := f1_1.mono hle117
                  replace f1_2 := f1_2.mono hle117
                  replace hn111 := hn111.mono hle117
                  have hn117sb := hn117.s.rv.big
                  have hn117eb := hn117.e.rv.big
                  have hn117db := hn117.d.rv.big
                  refine ⟨(fun w h => sees_of hle117 (fun r hr => hr) w h), ?_⟩
                  obtain ⟨v53, u53, hh⟩ := bnd_e hh
                  refine TA.actOn 21 (by kernel_rfl) rfl rfl rfl rfl rfl rfl (OpOk.callP (whittlelaw10_takes_con hn117.s hn117.e hn117.d u53) rfl rfl pf25 rfl rfl rfl ⟨(fun w h => sees_of hle117 (fun r hr => hr) w h), ?_⟩)
                  refine TA.takeOn 25 rfl (by kernel_rfl) (by kernel_rfl) (by kernel_rfl) (by kernel_rfl) rfl rfl rfl rfl rfl (OpVal.moveB (.inl rfl) rfl) rfl rfl ?_
                  refine TA.split 67 rfl (fun h118 => ?_) (fun h118 => ?_)
                  · replace hh := iteO_t h118 hh
                    replace h118 := of_decide_eq_true h118
                    refine TA.takeOn 26 rfl (by kernel_rfl) (by kernel_rfl) (by kernel_rfl) (by kernel_rfl) rfl rfl rfl rfl rfl (OpVal.loadAll rfl ag28 sz28 rfl (i := 1) rfl rfl) rfl rfl ?_
                    refine TA.takeOn 27 rfl (by kernel_rfl) (by kernel_rfl) (by kernel_rfl) (by kernel_rfl) rfl rfl rfl rfl rfl (OpVal.moveStr (.inl rfl) rfl) rfl rfl ?_
                    have u60 := grd_c hh
                    replace hh := grd_t hh
                    refine TA.takeOn 28 rfl (by kernel_rfl) (by kernel_rfl) (by kernel_rfl) (by kernel_rfl) rfl rfl rfl rfl rfl (OpVal.indexBs (i := 0) rfl Try.underlying9 rfl rfl (by omega)) rfl rfl ?_
                    refine TA.actOn 29 (by kernel_rfl) rfl rfl rfl rfl rfl rfl (OpOk.callP (has_con _ x3 (nth x4 0 (0 : UInt8)).toNat (BSet.isOk _) (UInt8.toNat_lt _)) rfl rfl pf26 rfl rfl rfl ⟨(fun w h => sees_of hle117 (fun r hr => hr) w h), ?_⟩)
                    refine TA.takeOn 30 rfl (by kernel_rfl) (by kernel_rfl) (by kernel_rfl) (by kernel_rfl) rfl rfl rfl rfl rfl (OpVal.pickTB rfl rfl rfl) rfl rfl ?_
                    refine TA.takeOn 31 rfl (by kernel_rfl) (by kernel_rfl) (by kernel_rfl) (by kernel_rfl) rfl rfl rfl rfl rfl (OpVal.neqB rfl rfl rfl Try.underlying4) rfl rfl ?_
                    refine TA.takeP 32 rfl (by kernel_rfl) (by kernel_rfl) (by kernel_rfl) rfl (OpVal.pickFB rfl rfl rfl) rfl rfl ?_
                    refine TA.done (by kernel_rfl) ?_
                    refine S.n ?_
                    refine TC.cond rfl (fun h119 => ?_) (fun h119 => ?_)
                    · replace hh := iteO_t h119 hh
                      refine TC.seq ?_
                      refine TC.region ?_
                      refine TL.v rfl (OpVal.moveB (.inr rfl) rfl) rfl rfl ?_
                      refine TL.nil ?_
                      refine S.n ?_
                      refine TC.ofSub (Sub.pre 0 rfl) ?_
                      refine TC.back ?_
                      refine TC.ret ?_
                      refine S.r ?_
                      obtain rfl := Option.some.inj hh
                      exact RetOk.mk' (rs := [.tmp 10]) [] rfl (.inl rfl) (RVs.tmp rfl RVs.nil) (List.sublist_append_left _ _) ⟨rfl, rfl, rfl⟩
                    · replace hh := iteO_f h119 hh
                      refine TC.skip ?_
                      refine S.n ?_
                      refine ⟨by repeat (first | exact Agr.refl _ _ | exact Agr.mask | refine Agr.upd rfl ?_ | refine Agr.maskIn rfl ?_ | refine Agr.upds rfl ?_), ((), τ117), ⟨hh, hle117⟩, by repeat (first | exact trivial | refine ⟨rfl, ?_⟩), Sub.front 2 rfl rfl (Sub.front 3 rfl rfl (Sub.pre 2 rfl)), rfl⟩
                  · replace hh := iteO_f h118 hh
                    replace h118 := of_decide_eq_false h118
                    refine TA.takeOff 26 rfl (by kernel_rfl) (by kernel_rfl) (by kernel_rfl) (by kernel_rfl) rfl rfl rfl rfl rfl rfl rfl rfl ?_
                    refine TA.takeOff 27 rfl (by kernel_rfl) (by kernel_rfl) (by kernel_rfl) (by kernel_rfl) rfl rfl rfl rfl rfl rfl rfl rfl ?_
                    refine TA.takeOff 28 rfl (by kernel_rfl) (by kernel_rfl) (by kernel_rfl) (by kernel_rfl) rfl rfl rfl rfl rfl rfl rfl rfl ?_
                    refine TA.takeOff 29 rfl (by kernel_rfl) (by kernel_rfl) (by kernel_rfl) (by kernel_rfl) rfl rfl rfl rfl rfl rfl rfl rfl ?_
                    refine TA.takeOn 30 rfl (by kernel_rfl) (by kernel_rfl) (by kernel_rfl) (by kernel_rfl) rfl rfl rfl rfl rfl (OpVal.pickFB rfl rfl rfl) rfl rfl ?_
                    refine TA.takeOn 31 rfl (by kernel_rfl) (by kernel_rfl) (by kernel_rfl) (by kernel_rfl) rfl rfl rfl rfl rfl (OpVal.neqB rfl rfl rfl Try.underlying4) rfl rfl ?_
                    refine TA.takeP 32 rfl (by kernel_rfl) (by kernel_rfl) (by kernel_rfl) rfl (OpVal.pickFB rfl rfl rfl) rfl rfl ?_
                    refine TA.done (by kernel_rfl) ?_
                    refine S.n ?_
                    refine TC.cond rfl (fun h120 => ?_) (fun h120 => ?_)
                    · replace hh := iteO_t h120 hh
                      refine TC.seq ?_
                      refine TC.region ?_
                      refine TL.v rfl (OpVal.moveB (.inr rfl) rfl) rfl rfl ?_
                      refine TL.nil ?_
                      refine S.n ?_
                      refine TC.ofSub (Sub.pre 0 rfl) ?_
                      refine TC.back ?_
                      refine TC.ret ?_
                      refine S.r ?_
                      obtain rfl := Option.some.inj hh
                      exact RetOk.mk' (rs := [.tmp 10]) [] rfl (.inl rfl) (RVs.tmp rfl RVs.nil) (List.sublist_append_left _ _) ⟨rfl, rfl, rfl⟩
                    · replace hh := iteO_f h120 hh
                      refine TC.skip ?_
                      refine S.n ?_
                      refine ⟨by repeat (first | exact Agr.refl _ _ | exact Agr.mask | refine Agr.upd rfl ?_ | refine Agr.maskIn rfl ?_ | refine Agr.upds rfl ?_), ((), τ117), ⟨hh, hle117⟩, by repeat (first | exact trivial | refine ⟨rfl, ?_⟩), Sub.front 2 rfl rfl (Sub.front 3 rfl rfl (Sub.pre 2 rfl)), rfl⟩
          · skip
            obtain ⟨_, τ121⟩ := g
            obtain ⟨hh, hle122⟩ := hg
            dsimp only at hle122
            replace f0_0 := f0_0.mono hle122
            replace f0_1 := f0_1.mono hle122
            replace f0_2 := f0_2.mono hle122
            replace f1_0 := f1_0.mono hle122
            replace f1_1 := f1_1.mono hle122
            replace f1_2 := f1_2.mono hle122
            replace hn111 := hn111.mono hle122
            show TC _ _ _ (upds (mask _ j _) []) τ121 [Res.cells b101 #[.int .i64 x0.states, .slice a0_0 x0.starts.length c0_0, .slice a0_1 x0.ends.length c0_1, .slice a0_2 x0.edges.length c0_2] 25, Res.cells b103 #[.int .i64 x1.states, .slice a1_0 x1.starts.length c1_0, .slice a1_1 x1.ends.length c1_1, .slice a1_2 x1.edges.length c1_2] 25]
            dsimp only [whittlelaw10_NfaParts_j1] at hh
            refine TC.seq ?_
            refine TC.region ?_
            refine TL.v rfl (OpVal.loadAll rfl ag25 sz25 rfl (i := 0) rfl rfl) rfl rfl ?_
            refine TL.v rfl (OpVal.loadAll rfl ag25 sz25 rfl (i := 1) rfl rfl) rfl rfl ?_
            refine TL.op rfl (OpOk.call (cat_con _ x0 x1 ⟨a0_0, c0_0, a0_1, c0_1, a0_2, c0_2⟩ ⟨a1_0, c1_0, a1_1, c1_1, a1_2, c1_2⟩ ⟨f0_0, f0_1, f0_2, fun x _ => x.set.isOk⟩ ⟨f1_0, f1_1, f1_2, fun x _ => x.set.isOk⟩) rfl rfl pf27 rfl rfl rfl rfl ?_)
            rintro _ τ123 _ hle123 ⟨p123, rfl, hn123, rfl⟩
            replace f0_0 := f0_0.mono hle123
            replace f0_1 := f0_1.mono hle123
            replace f0_2 := f0_2.mono hle123
            replace f1_0 := f1_0.mono hle123
            replace f1_1 := f1_1.mono hle123
            replace f1_2 := f1_2.mono hle123
            replace hn111 := hn111.mono hle123
            have hn123sb := hn123.s.rv.big
            have hn123eb := hn123.e.rv.big
            have hn123db := hn123.d.rv.big
            refine TL.v rfl (OpVal.moveT (.inl rfl) rfl) rfl rfl ?_
            refine TL.v rfl (OpVal.extract rfl rfl rfl) rfl rfl ?_
            refine TL.v rfl (OpVal.extract rfl rfl rfl) rfl rfl ?_
            refine TL.op rfl (OpOk.alloc rfl ze25 rfl rfl (fun b124 => ?_))
            refine TL.op rfl (OpOk.storeAll rfl sz25 rfl rfl rfl rfl rfl rfl ?_)
            refine TL.v rfl (OpVal.moveI (.inr rfl) rfl) rfl rfl ?_
            refine TL.nil ?_
            refine S.n ?_
            refine TC.seq ?_
            refine TC.region ?_
            refine TL.v rfl (OpVal.loadAll rfl ag25 sz25 rfl (i := 1) rfl rfl) rfl rfl ?_
            refine TL.v rfl (OpVal.loadAll rfl ag25 sz25 rfl (i := 2) rfl rfl) rfl rfl ?_
            obtain ⟨v77, u77, hh⟩ := bnd_e hh
            refine TL.op rfl (OpOk.call (nfa_Alt_con f0_0 f0_1 f0_2 f1_0 f1_1 f1_2 u77) rfl rfl pf28 rfl rfl rfl rfl ?_)
            rintro _ τ126 _ hle126 ⟨a126_1, c126_1, a126_2, c126_2, a126_3, c126_3, rfl, hr126_0, hr126_1, hr126_2, rfl⟩
            replace f0_0 := f0_0.mono hle126
            replace f0_1 := f0_1.mono hle126
            replace f0_2 := f0_2.mono hle126
            replace f1_0 := f1_0.mono hle126
            replace f1_1 := f1_1.mono hle126
            replace f1_2 := f1_2.mono hle126
            replace hn111 := hn111.mono hle126
            replace hn123 := hn123.mono hle126
            have hr126_0b := hr126_0.rv.big
            have hr126_1b := hr126_1.rv.big
            have hr126_2b := hr126_2.rv.big
            refine TL.v rfl (OpVal.moveT (.inl rfl) rfl) rfl rfl ?_
            refine TL.v rfl (OpVal.extract rfl rfl rfl) rfl rfl ?_
            refine TL.v rfl (OpVal.extract rfl rfl rfl) rfl rfl ?_
            refine TL.op rfl (OpOk.alloc rfl ze25 rfl rfl (fun b127 => ?_))
            refine TL.op rfl (OpOk.storeAll rfl sz25 rfl rfl rfl rfl rfl rfl ?_)
            refine TL.v rfl (OpVal.moveI (.inr rfl) rfl) rfl rfl ?_
            refine TL.nil ?_
            refine S.n ?_
            refine TC.seq ?_
            refine TC.seq ?_
            refine TC.region ?_
            refine TL.v rfl (OpVal.moveI (.inl rfl) rfl) rfl rfl ?_
            refine TL.v rfl (OpVal.neq rfl rfl rfl) rfl rfl ?_
            refine TL.v rfl (OpVal.moveB (.inl rfl) rfl) rfl rfl ?_
            refine TL.split 89 rfl (fun h129 => ?_) (fun h129 => ?_)
            · replace hh := iteO_t h129 hh
              replace h129 := of_decide_eq_true h129
              refine TL.goff rfl rfl rfl rfl rfl rfl rfl rfl ?_
              refine TL.goff rfl rfl rfl rfl rfl rfl rfl rfl ?_
              refine TL.v rfl (OpVal.pickTB rfl rfl rfl) rfl rfl ?_
              refine TL.nil ?_
              refine S.n ?_
              refine TC.cond rfl (fun _ => ?_) (fun h => Bool.noConfusion h)
              refine TC.seq ?_
              refine TC.region ?_
              obtain ⟨v90, u90, hh⟩ := bnd_e hh
              refine TL.op rfl (OpOk.callP (whittlelaw10_awake_con u90) rfl rfl pf17 rfl rfl rfl ?_)
              refine TL.v rfl (OpVal.moveB (.inr rfl) rfl) rfl rfl ?_
              refine TL.nil ?_
              refine S.n ?_
              refine TC.ofSub (Sub.pre 0 rfl) ?_
              refine TC.back ?_
              refine TC.ret ?_
              refine S.r ?_
              obtain rfl := Option.some.inj hh
              exact RetOk.mk' (rs := [.tmp 10]) [] rfl (.inl rfl) (RVs.tmp rfl RVs.nil) (List.sublist_append_left _ _) ⟨rfl, rfl, rfl⟩
            · replace hh := iteO_f h129 hh
              replace h129 := of_decide_eq_false h129
              refine TL.gv rfl rfl rfl rfl rfl (OpVal.moveI (.inl rfl) rfl) rfl rfl ?_
              refine TL.gv rfl rfl rfl rfl rfl (OpVal.neq rfl rfl rfl) rfl rfl ?_
              refine TL.v rfl (OpVal.pickFB rfl rfl rfl) rfl rfl ?_
              refine TL.nil ?_
              refine S.n ?_
              refine TC.cond rfl (fun h130 => ?_) (fun h130 => ?_)
              · replace hh := iteO_t h130 hh
                replace h130 := of_decide_eq_true h130
                refine TC.seq ?_
                refine TC.region ?_
                obtain ⟨v90, u90, hh⟩ := bnd_e hh
                refine TL.op rfl (OpOk.callP (whittlelaw10_awake_con u90) rfl rfl pf17 rfl rfl rfl ?_)
                refine TL.v rfl (OpVal.moveB (.inr rfl) rfl) rfl rfl ?_
                refine TL.nil ?_
                refine S.n ?_
                refine TC.ofSub (Sub.pre 0 rfl) ?_
                refine TC.back ?_
                refine TC.ret ?_
                refine S.r ?_
                obtain rfl := Option.some.inj hh
                exact RetOk.mk' (rs := [.tmp 10]) [] rfl (.inl rfl) (RVs.tmp rfl RVs.nil) (List.sublist_append_left _ _) ⟨rfl, rfl, rfl⟩
              · replace hh := iteO_f h130 hh
                replace h130 := of_decide_eq_false h130
                refine TC.skip ?_
                refine S.n ?_
                refine TC.seq ?_
                refine TC.region ?_
                refine TL.v rfl (OpVal.moveB (.inr rfl) rfl) rfl rfl ?_
                refine TL.nil ?_
                refine S.n ?_
                refine TC.seq ?_
                refine TC.seq ?_
                refine TC.region ?_
                refine TL.v rfl (OpVal.moveI (.inr rfl) rfl) rfl rfl ?_
                refine TL.nil ?_
                refine S.n ?_
                refine TC.block ?_
                refine TC.loopG (α := (Bool × Nat) × (Unit)) [17, 18, 94, 95, 96, 97, 98, 99, 100, 101, 102, 103, 104, 105, 106, 107, 108, 109, 110, 111, 112, 113, 114] (fun g => [(17, .bool g.1.1), (18, .int .i64 ((g.1.2 : Nat) : Int))]) (fun g => [Res.cells b101 #[.int .i64 x0.states, .slice a0_0 x0.starts.length c0_0, .slice a0_1 x0.ends.length c0_1, .slice a0_2 x0.edges.length c0_2] 25, Res.cells b103 #[.int .i64 x1.states, .slice a1_0 x1.starts.length c1_0, .slice a1_1 x1.ends.length c1_1, .slice a1_2 x1.edges.length c1_2] 25, Res.cells b124 #[.int .i64 ((catR x0 x1).states), .slice p123.a1 (((catR x0 x1).starts).length) p123.c1, .slice p123.a2 (((catR x0 x1).ends).length) p123.c2, .slice p123.a3 (((catR x0 x1).edges).length) p123.c3] 25, Res.cells b127 #[.int .i64 v77.1.states, .slice a126_1 v77.1.starts.length c126_1, .slice a126_2 v77.1.ends.length c126_2, .slice a126_3 v77.1.edges.length c126_3] 25]) (fun g => τ126) (fun g => iter (fun q : Bool × Nat => whittlelaw10_NfaParts_b1 x4 x0 x1 v77 q.1 q.2) g.1 = some r) (fun g => rounds (fun q : Bool × Nat => whittlelaw10_NfaParts_b1 x4 x0 x1 v77 q.1 q.2) g.1) ((false, 0), ()) (Sub.front 1 rfl rfl (Sub.front 3 rfl rfl (Sub.front 3 rfl rfl (Sub.pre 4 rfl)))) rfl (by repeat (first | exact trivial | refine ⟨rfl, ?_⟩)) hh (fun g1 j1 hg1 => ?_)
                obtain ⟨⟨t135, k136⟩, _⟩ := g1
                have hh := hg1; clear hg1
                show TC _ _ _ (upds (mask _ j1 _) [(17, .bool t135), (18, .int .i64 ((k136 : Nat) : Int))]) _ [Res.cells b101 #[.int .i64 x0.states, .slice a0_0 x0.starts.length c0_0, .slice a0_1 x0.ends.length c0_1, .slice a0_2 x0.edges.length c0_2] 25, Res.cells b103 #[.int .i64 x1.states, .slice a1_0 x1.starts.length c1_0, .slice a1_1 x1.ends.length c1_1, .slice a1_2 x1.edges.length c1_2] 25, Res.cells b124 #[.int .i64 ((catR x0 x1).states), .slice p123.a1 (((catR x0 x1).starts).length) p123.c1, .slice p123.a2 (((catR x0 x1).ends).length) p123.c2, .slice p123.a3 (((catR x0 x1).edges).length) p123.c3] 25, Res.cells b127 #[.int .i64 v77.1.states, .slice a126_1 v77.1.starts.length c126_1, .slice a126_2 v77.1.ends.length c126_2, .slice a126_3 v77.1.edges.length c126_3] 25]
                obtain ⟨z1, hh, hR1⟩ := iter_e hh
                dsimp only [whittlelaw10_NfaParts_b1] at hh
                refine TC.seq ?_
                refine TC.seq ?_
                refine TC.region ?_
                refine TL.v rfl (OpVal.moveI (.inl rfl) rfl) rfl rfl ?_
                refine TL.v rfl (OpVal.moveStr (.inl rfl) rfl) rfl rfl ?_
                refine TL.v rfl (OpVal.lenBs rfl Try.underlying9 rfl) rfl rfl ?_
                refine TL.v rfl (OpVal.leq rfl rfl rfl) rfl rfl ?_
                refine TL.nil ?_
                refine S.n ?_
                refine TC.cond rfl (fun h137 => ?_) (fun h137 => ?_)
                · replace hh := iteO_t h137 hh
                  replace h137 := of_decide_eq_true h137
                  refine TC.skip ?_
                  refine S.n ?_
                  refine TC.cutG (α := (Bool) × (Unit)) [17, 100, 101, 102, 103, 104, 105, 106, 107, 108, 109, 110, 111, 112, 113, 114] (fun g => [(17, .bool g.1)]) (fun g => [Res.cells b101 #[.int .i64 x0.states, .slice a0_0 x0.starts.length c0_0, .slice a0_1 x0.ends.length c0_1, .slice a0_2 x0.edges.length c0_2] 25, Res.cells b103 #[.int .i64 x1.states, .slice a1_0 x1.starts.length c1_0, .slice a1_1 x1.ends.length c1_1, .slice a1_2 x1.edges.length c1_2] 25, Res.cells b124 #[.int .i64 ((catR x0 x1).states), .slice p123.a1 (((catR x0 x1).starts).length) p123.c1, .slice p123.a2 (((catR x0 x1).ends).length) p123.c2, .slice p123.a3 (((catR x0 x1).edges).length) p123.c3] 25, Res.cells b127 #[.int .i64 v77.1.states, .slice a126_1 v77.1.starts.length c126_1, .slice a126_2 v77.1.ends.length c126_2, .slice a126_3 v77.1.edges.length c126_3] 25]) (fun g => τ126) (fun g => whittlelaw10_NfaParts_j2 k136 g.1 = some z1) ?_ (fun g j hg => ?_)
                  · skip
                    refine TC.block ?_
                    refine TC.draw [] (by kernel_rfl) ?_
                    refine TA.takeP 0 rfl (by kernel_rfl) (by kernel_rfl) (by kernel_rfl) rfl (OpVal.moveB (.inl rfl) rfl) rfl rfl ?_
                    refine TA.takeP 1 rfl (by kernel_rfl) (by kernel_rfl) (by kernel_rfl) rfl (OpVal.moveB (.inl rfl) rfl) rfl rfl ?_
                    refine TA.split 101 rfl (fun h139 => ?_) (fun h139 => ?_)
                    · replace hh := iteO_t h139 hh
                      refine TA.takeOff 2 rfl (by kernel_rfl) (by kernel_rfl) (by kernel_rfl) (by kernel_rfl) rfl rfl rfl rfl rfl rfl rfl rfl ?_
                      refine TA.takeOff 3 rfl (by kernel_rfl) (by kernel_rfl) (by kernel_rfl) (by kernel_rfl) rfl rfl rfl rfl rfl rfl rfl rfl ?_
                      refine TA.takeOff 4 rfl (by kernel_rfl) (by kernel_rfl) (by kernel_rfl) (by kernel_rfl) rfl rfl rfl rfl rfl rfl rfl rfl ?_
                      refine TA.takeOff 5 rfl (by kernel_rfl) (by kernel_rfl) (by kernel_rfl) (by kernel_rfl) rfl rfl rfl rfl rfl rfl rfl rfl ?_
                      refine TA.takeOff 6 rfl (by kernel_rfl) (by kernel_rfl) (by kernel_rfl) (by kernel_rfl) rfl rfl rfl rfl rfl rfl rfl rfl ?_
                      refine TA.takeOff 7 rfl (by kernel_rfl) (by kernel_rfl) (by kernel_rfl) (by kernel_rfl) rfl rfl rfl rfl rfl rfl rfl rfl ?_
                      refine TA.takeOff' 8 rfl (by kernel_rfl) (by kernel_rfl) (by kernel_rfl) (by kernel_rfl) rfl rfl rfl rfl rfl rfl rfl ?_
                      refine TA.takeOff' 9 rfl (by kernel_rfl) (by kernel_rfl) (by kernel_rfl) (by kernel_rfl) rfl rfl rfl rfl rfl rfl rfl ?_
                      refine TA.takeOff' 10 rfl (by kernel_rfl) (by kernel_rfl) (by kernel_rfl) (by kernel_rfl) rfl rfl rfl rfl rfl rfl rfl ?_
                      refine TA.takeOff' 11 rfl (by kernel_rfl) (by kernel_rfl) (by kernel_rfl) (by kernel_rfl) rfl rfl rfl rfl rfl rfl rfl ?_
                      refine TA.takeOff' 12 rfl (by kernel_rfl) (by kernel_rfl) (by kernel_rfl) (by kernel_rfl) rfl rfl rfl rfl rfl rfl rfl ?_
                      refine TA.takeOff 13 rfl (by kernel_rfl) (by kernel_rfl) (by kernel_rfl) (by kernel_rfl) rfl rfl rfl rfl rfl rfl rfl rfl ?_
                      refine TA.takeP 14 rfl (by kernel_rfl) (by kernel_rfl) (by kernel_rfl) rfl (OpVal.pickTB rfl rfl rfl) rfl rfl ?_
                      refine TA.takeP 15 rfl (by kernel_rfl) (by kernel_rfl) (by kernel_rfl) rfl (OpVal.moveB (.inr rfl) rfl) rfl rfl ?_
                      refine TA.done (by kernel_rfl) ?_
                      refine B.n ?_
                      refine S.n ?_
                      refine ⟨by repeat (first | exact Agr.refl _ _ | exact Agr.mask | refine Agr.upd rfl ?_ | refine Agr.maskIn rfl ?_ | refine Agr.upds rfl ?_), (true, ()), hh, by repeat (first | exact trivial | refine ⟨rfl, ?_⟩), Sub.front 3 rfl rfl (Sub.front 3 rfl rfl (Sub.front 3 rfl rfl (Sub.front 3 rfl rfl (Sub.pre 4 rfl)))), rfl⟩
                    · replace hh := iteO_f h139 hh
                      refine TA.takeOn 2 rfl (by kernel_rfl) (by kernel_rfl) (by kernel_rfl) (by kernel_rfl) rfl rfl rfl rfl rfl (OpVal.loadAll rfl ag25 sz25 rfl (i := 0) rfl rfl) rfl rfl ?_
                      refine TA.takeOn 3 rfl (by kernel_rfl) (by kernel_rfl) (by kernel_rfl) (by kernel_rfl) rfl rfl rfl rfl rfl (OpVal.moveStr (.inl rfl) rfl) rfl rfl ?_
                      refine TA.takeOn 4 rfl (by kernel_rfl) (by kernel_rfl) (by kernel_rfl) (by kernel_rfl) rfl rfl rfl rfl rfl (OpVal.moveI (.inl rfl) rfl) rfl rfl ?_
                      have u103 := grd_c hh
                      replace hh := grd_t hh
                      refine TA.takeOn 5 rfl (by kernel_rfl) (by kernel_rfl) (by kernel_rfl) (by kernel_rfl) rfl rfl rfl rfl rfl (OpVal.sliceBsH (l := x4) (j := k136) rfl Try.underlying9 rfl rfl (by omega) (by omega)) rfl rfl ?_
                      obtain ⟨v104, u104, hh⟩ := bnd_e hh
                      refine TA.actOn 6 (by kernel_rfl) rfl rfl rfl rfl rfl rfl (OpOk.callP (whittlelaw10_takes_con f0_0 f0_1 f0_2 u104) rfl rfl pf25 rfl rfl rfl ⟨(fun w h => sees_of (Store.le.refl _) (fun r hr => hr) w h), ?_⟩)
                      refine TA.takeOn 7 rfl (by kernel_rfl) (by kernel_rfl) (by kernel_rfl) (by kernel_rfl) rfl rfl rfl rfl rfl (OpVal.moveB (.inl rfl) rfl) rfl rfl ?_
                      refine TA.split 107 rfl (fun h140 => ?_) (fun h140 => ?_)
                      · replace hh := iteO_t h140 hh
                        refine TA.takeOn 8 rfl (by kernel_rfl) (by kernel_rfl) (by kernel_rfl) (by kernel_rfl) rfl rfl rfl rfl rfl (OpVal.loadAll rfl ag25 sz25 rfl (i := 1) rfl rfl) rfl rfl ?_
                        refine TA.takeOn 9 rfl (by kernel_rfl) (by kernel_rfl) (by kernel_rfl) (by kernel_rfl) rfl rfl rfl rfl rfl (OpVal.moveStr (.inl rfl) rfl) rfl rfl ?_
                        refine TA.takeOn 10 rfl (by kernel_rfl) (by kernel_rfl) (by kernel_rfl) (by kernel_rfl) rfl rfl rfl rfl rfl (OpVal.moveI (.inl rfl) rfl) rfl rfl ?_
                        have u109 := grd_c hh
                        replace hh := grd_t hh
                        refine TA.takeOn 11 rfl (by kernel_rfl) (by kernel_rfl) (by kernel_rfl) (by kernel_rfl) rfl rfl rfl rfl rfl (OpVal.sliceBsL (l := x4) (i := k136) rfl Try.underlying9 rfl rfl (by omega) (by omega)) rfl rfl ?_
                        obtain ⟨v110, u110, hh⟩ := bnd_e hh
                        refine TA.actOn 12 (by kernel_rfl) rfl rfl rfl rfl rfl rfl (OpOk.callP (whittlelaw10_takes_con f1_0 f1_1 f1_2 u110) rfl rfl pf25 rfl rfl rfl ⟨(fun w h => sees_of (Store.le.refl _) (fun r hr => hr) w h), ?_⟩)
                        refine TA.takeOn 13 rfl (by kernel_rfl) (by kernel_rfl) (by kernel_rfl) (by kernel_rfl) rfl rfl rfl rfl rfl (OpVal.pickTB rfl rfl rfl) rfl rfl ?_
                        refine TA.takeP 14 rfl (by kernel_rfl) (by kernel_rfl) (by kernel_rfl) rfl (OpVal.pickFB rfl rfl rfl) rfl rfl ?_
                        refine TA.takeP 15 rfl (by kernel_rfl) (by kernel_rfl) (by kernel_rfl) rfl (OpVal.moveB (.inr rfl) rfl) rfl rfl ?_
                        refine TA.done (by kernel_rfl) ?_
                        refine B.n ?_
                        refine S.n ?_
                        refine ⟨by repeat (first | exact Agr.refl _ _ | exact Agr.mask | refine Agr.upd rfl ?_ | refine Agr.maskIn rfl ?_ | refine Agr.upds rfl ?_), (v110, ()), hh, by repeat (first | exact trivial | refine ⟨rfl, ?_⟩), Sub.front 3 rfl rfl (Sub.front 3 rfl rfl (Sub.front 3 rfl rfl (Sub.front 3 rfl rfl (Sub.pre 4 rfl)))), rfl⟩
                      · replace hh := iteO_f h140 hh
                        refine TA.takeOff 8 rfl (by kernel_rfl) (by kernel_rfl) (by kernel_rfl) (by kernel_rfl) rfl rfl rfl rfl rfl rfl rfl rfl ?_
                        refine TA.takeOff 9 rfl (by kernel_rfl) (by kernel_rfl) (by kernel_rfl) (by kernel_rfl) rfl rfl rfl rfl rfl rfl rfl rfl ?_
                        refine TA.takeOff 10 rfl (by kernel_rfl) (by kernel_rfl) (by kernel_rfl) (by kernel_rfl) rfl rfl rfl rfl rfl rfl rfl rfl ?_
                        refine TA.takeOff 11 rfl (by kernel_rfl) (by kernel_rfl) (by kernel_rfl) (by kernel_rfl) rfl rfl rfl rfl rfl rfl rfl rfl ?_
                        refine TA.takeOff 12 rfl (by kernel_rfl) (by kernel_rfl) (by kernel_rfl) (by kernel_rfl) rfl rfl rfl rfl rfl rfl rfl rfl ?_
                        refine TA.takeOn 13 rfl (by kernel_rfl) (by kernel_rfl) (by kernel_rfl) (by kernel_rfl) rfl rfl rfl rfl rfl (OpVal.pickFB rfl rfl rfl) rfl rfl ?_
                        refine TA.takeP 14 rfl (by kernel_rfl) (by kernel_rfl) (by kernel_rfl) rfl (OpVal.pickFB rfl rfl rfl) rfl rfl ?_
                        refine TA.takeP 15 rfl (by kernel_rfl) (by kernel_rfl) (by kernel_rfl) rfl (OpVal.moveB (.inr rfl) rfl) rfl rfl ?_
                        refine TA.done (by kernel_rfl) ?_
                        refine B.n ?_
                        refine S.n ?_
                        refine ⟨by repeat (first | exact Agr.refl _ _ | exact Agr.mask | refine Agr.upd rfl ?_ | refine Agr.maskIn rfl ?_ | refine Agr.upds rfl ?_), (false, ()), hh, by repeat (first | exact trivial | refine ⟨rfl, ?_⟩), Sub.front 3 rfl rfl (Sub.front 3 rfl rfl (Sub.front 3 rfl rfl (Sub.front 3 rfl rfl (Sub.pre 4 rfl)))), rfl⟩
                  · skip
                    obtain ⟨t138, _⟩ := g
                    have hh := hg; clear hg
                    show TC _ _ _ (upds (mask _ j _) [(17, .bool t138)]) _ [Res.cells b101 #[.int .i64 x0.states, .slice a0_0 x0.starts.length c0_0, .slice a0_1 x0.ends.length c0_1, .slice a0_2 x0.edges.length c0_2] 25, Res.cells b103 #[.int .i64 x1.states, .slice a1_0 x1.starts.length c1_0, .slice a1_1 x1.ends.length c1_1, .slice a1_2 x1.edges.length c1_2] 25, Res.cells b124 #[.int .i64 ((catR x0 x1).states), .slice p123.a1 (((catR x0 x1).starts).length) p123.c1, .slice p123.a2 (((catR x0 x1).ends).length) p123.c2, .slice p123.a3 (((catR x0 x1).edges).length) p123.c3] 25, Res.cells b127 #[.int .i64 v77.1.states, .slice a126_1 v77.1.starts.length c126_1, .slice a126_2 v77.1.ends.length c126_2, .slice a126_3 v77.1.edges.length c126_3] 25]
                    dsimp only [whittlelaw10_NfaParts_j2] at hh
                    refine TC.region ?_
                    refine TL.v rfl (OpVal.moveI (.inl rfl) rfl) rfl rfl ?_
                    refine TL.v rfl (OpVal.succ rfl rfl rfl (by omega)) rfl rfl ?_
                    refine TL.v rfl (OpVal.moveI (.inr rfl) rfl) rfl rfl ?_
                    refine TL.nil ?_
                    refine S.n ?_
                    obtain ⟨hh, hlt141⟩ := nxt_x hR1 hh
                    refine ⟨by repeat (first | exact Agr.refl _ _ | exact Agr.mask | refine Agr.upd rfl ?_ | refine Agr.maskIn rfl ?_ | refine Agr.upds rfl ?_), ((t138, (k136 + 1)), ()), hlt141, hh, by repeat (first | exact trivial | refine ⟨rfl, ?_⟩), Sub.front 3 rfl rfl (Sub.front 3 rfl rfl (Sub.front 3 rfl rfl (Sub.front 3 rfl rfl (Sub.pre 4 rfl)))), rfl⟩
                · replace hh := iteO_f h137 hh
                  replace h137 := of_decide_eq_false h137
                  refine TC.exit ?_
                  refine S.x ?_
                  refine S.x ?_
                  replace hh := fin_x hR1 hh
                  refine TC.exitHere ?_
                  refine S.n ?_
                  refine TC.seq ?_
                  refine TC.draw [] (by kernel_rfl) ?_
                  obtain ⟨v117, u117, hh⟩ := bnd_e hh
                  refine TA.act 0 (by kernel_rfl) rfl rfl (OpOk.callP (whittlelaw10_awake_con u117) rfl rfl pf17 rfl rfl rfl ⟨(fun w h => sees_of (Store.le.refl _) (fun r hr => hr) w h), ?_⟩)
                  refine TA.takeP 1 rfl (by kernel_rfl) (by kernel_rfl) (by kernel_rfl) rfl (OpVal.moveB (.inl rfl) rfl) rfl rfl ?_
                  refine TA.split 116 rfl (fun h142 => ?_) (fun h142 => ?_)
                  · replace hh := iteO_t h142 hh
                    refine TA.takeOn 2 rfl (by kernel_rfl) (by kernel_rfl) (by kernel_rfl) (by kernel_rfl) rfl rfl rfl rfl rfl (OpVal.loadAll rfl ag25 sz25 rfl (i := 2) rfl rfl) rfl rfl ?_
                    refine TA.takeOn 3 rfl (by kernel_rfl) (by kernel_rfl) (by kernel_rfl) (by kernel_rfl) rfl rfl rfl rfl rfl (OpVal.moveStr (.inl rfl) rfl) rfl rfl ?_
                    refine TA.takeOn 5 rfl (by kernel_rfl) (by kernel_rfl) (by kernel_rfl) (by kernel_rfl) rfl rfl rfl rfl rfl (OpVal.moveB (.inl rfl) rfl) rfl rfl ?_
                    obtain ⟨v121, u121, hh⟩ := bnd_e hh
                    refine TA.actOn 4 (by kernel_rfl) rfl rfl rfl rfl rfl rfl (OpOk.callP (whittlelaw10_takes_con hn123.s hn123.e hn123.d u121) rfl rfl pf25 rfl rfl rfl ⟨(fun w h => sees_of (Store.le.refl _) (fun r hr => hr) w h), ?_⟩)
                    refine TA.takeOn 6 rfl (by kernel_rfl) (by kernel_rfl) (by kernel_rfl) (by kernel_rfl) rfl rfl rfl rfl rfl (OpVal.eqlB rfl rfl rfl Try.underlying4) rfl rfl ?_
                    refine TA.takeP 7 rfl (by kernel_rfl) (by kernel_rfl) (by kernel_rfl) rfl (OpVal.pickTB rfl rfl rfl) rfl rfl ?_
                    refine TA.takeP 8 rfl (by kernel_rfl) (by kernel_rfl) (by kernel_rfl) rfl (OpVal.moveB (.inl rfl) rfl) rfl rfl ?_
                    refine TA.split 123 rfl (fun h143 => ?_) (fun h143 => ?_)
                    · replace hh := iteO_t h143 hh
                      refine TA.takeOn 9 rfl (by kernel_rfl) (by kernel_rfl) (by kernel_rfl) (by kernel_rfl) rfl rfl rfl rfl rfl (OpVal.loadAll rfl ag25 sz25 rfl (i := 3) rfl rfl) rfl rfl ?_
                      refine TA.takeOn 10 rfl (by kernel_rfl) (by kernel_rfl) (by kernel_rfl) (by kernel_rfl) rfl rfl rfl rfl rfl (OpVal.moveStr (.inl rfl) rfl) rfl rfl ?_
                      refine TA.takeOn 12 rfl (by kernel_rfl) (by kernel_rfl) (by kernel_rfl) (by kernel_rfl) rfl rfl rfl rfl rfl (OpVal.loadAll rfl ag25 sz25 rfl (i := 0) rfl rfl) rfl rfl ?_
                      refine TA.takeOn 13 rfl (by kernel_rfl) (by kernel_rfl) (by kernel_rfl) (by kernel_rfl) rfl rfl rfl rfl rfl (OpVal.moveStr (.inl rfl) rfl) rfl rfl ?_
                      obtain ⟨v128, u128, hh⟩ := bnd_e hh
                      refine TA.actOn 11 (by kernel_rfl) rfl rfl rfl rfl rfl rfl (OpOk.callP (whittlelaw10_takes_con hr126_0 hr126_1 hr126_2 u128) rfl rfl pf25 rfl rfl rfl ⟨(fun w h => sees_of (Store.le.refl _) (fun r hr => hr) w h), ?_⟩)
                      obtain ⟨v131, u131, hh⟩ := bnd_e hh
                      refine TA.actOn 14 (by kernel_rfl) rfl rfl rfl rfl rfl rfl (OpOk.callP (whittlelaw10_takes_con f0_0 f0_1 f0_2 u131) rfl rfl pf25 rfl rfl rfl ⟨(fun w h => sees_of (Store.le.refl _) (fun r hr => hr) w h), ?_⟩)
                      refine TA.takeOn 15 rfl (by kernel_rfl) (by kernel_rfl) (by kernel_rfl) (by kernel_rfl) rfl rfl rfl rfl rfl (OpVal.moveB (.inl rfl) rfl) rfl rfl ?_
                      refine TA.split 130 rfl (fun h144 => ?_) (fun h144 => ?_)
                      · replace hh := iteO_t h144 hh
                        refine TA.takeOff 16 rfl (by kernel_rfl) (by kernel_rfl) (by kernel_rfl) (by kernel_rfl) rfl rfl rfl rfl rfl rfl rfl rfl ?_
                        refine TA.takeOff 17 rfl (by kernel_rfl) (by kernel_rfl) (by kernel_rfl) (by kernel_rfl) rfl rfl rfl rfl rfl rfl rfl rfl ?_
                        refine TA.takeOff 18 rfl (by kernel_rfl) (by kernel_rfl) (by kernel_rfl) (by kernel_rfl) rfl rfl rfl rfl rfl rfl rfl rfl ?_
                        refine TA.takeOn 19 rfl (by kernel_rfl) (by kernel_rfl) (by kernel_rfl) (by kernel_rfl) rfl rfl rfl rfl rfl (OpVal.pickTB rfl rfl rfl) rfl rfl ?_
                        refine TA.takeOn 20 rfl (by kernel_rfl) (by kernel_rfl) (by kernel_rfl) (by kernel_rfl) rfl rfl rfl rfl rfl (OpVal.eqlB rfl rfl rfl Try.underlying4) rfl rfl ?_
                        refine TA.takeP 21 rfl (by kernel_rfl) (by kernel_rfl) (by kernel_rfl) rfl (OpVal.pickTB rfl rfl rfl) rfl rfl ?_
                        refine TA.takeP 22 rfl (by kernel_rfl) (by kernel_rfl) (by kernel_rfl) rfl (OpVal.moveB (.inr rfl) rfl) rfl rfl ?_
                        refine TA.done (by kernel_rfl) ?_
                        refine S.n ?_
                        refine TC.ofSub (Sub.pre 0 rfl) ?_
                        refine TC.back ?_
                        refine TC.ret ?_
                        obtain rfl := Option.some.inj hh
                        exact RetOk.mk' (rs := [.tmp 10]) [] rfl (.inl rfl) (RVs.tmp rfl RVs.nil) (List.sublist_append_left _ _) ⟨rfl, rfl, rfl⟩
                      · replace hh := iteO_f h144 hh
                        refine TA.takeOn 16 rfl (by kernel_rfl) (by kernel_rfl) (by kernel_rfl) (by kernel_rfl) rfl rfl rfl rfl rfl (OpVal.loadAll rfl ag25 sz25 rfl (i := 1) rfl rfl) rfl rfl ?_
                        refine TA.takeOn 17 rfl (by kernel_rfl) (by kernel_rfl) (by kernel_rfl) (by kernel_rfl) rfl rfl rfl rfl rfl (OpVal.moveStr (.inl rfl) rfl) rfl rfl ?_
                        obtain ⟨v135, u135, hh⟩ := bnd_e hh
                        refine TA.actOn 18 (by kernel_rfl) rfl rfl rfl rfl rfl rfl (OpOk.callP (whittlelaw10_takes_con f1_0 f1_1 f1_2 u135) rfl rfl pf25 rfl rfl rfl ⟨(fun w h => sees_of (Store.le.refl _) (fun r hr => hr) w h), ?_⟩)
                        refine TA.takeOn 19 rfl (by kernel_rfl) (by kernel_rfl) (by kernel_rfl) (by kernel_rfl) rfl rfl rfl rfl rfl (OpVal.pickFB rfl rfl rfl) rfl rfl ?_
                        refine TA.takeOn 20 rfl (by kernel_rfl) (by kernel_rfl) (by kernel_rfl) (by kernel_rfl) rfl rfl rfl rfl rfl (OpVal.eqlB rfl rfl rfl Try.underlying4) rfl rfl ?_
                        refine TA.takeP 21 rfl (by kernel_rfl) (by kernel_rfl) (by kernel_rfl) rfl (OpVal.pickTB rfl rfl rfl) rfl rfl ?_
                        refine TA.takeP 22 rfl (by kernel_rfl) (by kernel_rfl) (by kernel_rfl) rfl (OpVal.moveB (.inr rfl) rfl) rfl rfl ?_
                        refine TA.done (by kernel_rfl) ?_
                        refine S.n ?_
                        refine TC.ofSub (Sub.pre 0 rfl) ?_
                        refine TC.back ?_
                        refine TC.ret ?_
                        obtain rfl := Option.some.inj hh
                        exact RetOk.mk' (rs := [.tmp 10]) [] rfl (.inl rfl) (RVs.tmp rfl RVs.nil) (List.sublist_append_left _ _) ⟨rfl, rfl, rfl⟩
                    · replace hh := iteO_f h143 hh
                      refine TA.takeOff 9 rfl (by kernel_rfl) (by kernel_rfl) (by kernel_rfl) (by kernel_rfl) rfl rfl rfl rfl rfl rfl rfl rfl ?_
                      refine TA.takeOff 10 rfl (by kernel_rfl) (by kernel_rfl) (by kernel_rfl) (by kernel_rfl) rfl rfl rfl rfl rfl rfl rfl rfl ?_
                      refine TA.takeOff 11 rfl (by kernel_rfl) (by kernel_rfl) (by kernel_rfl) (by kernel_rfl) rfl rfl rfl rfl rfl rfl rfl rfl ?_
                      refine TA.takeOff 12 rfl (by kernel_rfl) (by kernel_rfl) (by kernel_rfl) (by kernel_rfl) rfl rfl rfl rfl rfl rfl rfl rfl ?_
                      refine TA.takeOff 13 rfl (by kernel_rfl) (by kernel_rfl) (by kernel_rfl) (by kernel_rfl) rfl rfl rfl rfl rfl rfl rfl rfl ?_
                      refine TA.takeOff 14 rfl (by kernel_rfl) (by kernel_rfl) (by kernel_rfl) (by kernel_rfl) rfl rfl rfl rfl rfl rfl rfl rfl ?_
                      refine TA.takeOff 15 rfl (by kernel_rfl) (by kernel_rfl) (by kernel_rfl) (by kernel_rfl) rfl rfl rfl rfl rfl rfl rfl rfl ?_
                      refine TA.takeOff' 16 rfl (by kernel_rfl) (by kernel_rfl) (by kernel_rfl) (by kernel_rfl) rfl rfl rfl rfl rfl rfl rfl ?_
                      refine TA.takeOff' 17 rfl (by kernel_rfl) (by kernel_rfl) (by kernel_rfl) (by kernel_rfl) rfl rfl rfl rfl rfl rfl rfl ?_
                      refine TA.takeOff' 18 rfl (by kernel_rfl) (by kernel_rfl) (by kernel_rfl) (by kernel_rfl) rfl rfl rfl rfl rfl rfl rfl ?_
                      refine TA.takeOff 19 rfl (by kernel_rfl) (by kernel_rfl) (by kernel_rfl) (by kernel_rfl) rfl rfl rfl rfl rfl rfl rfl rfl ?_
                      refine TA.takeOff 20 rfl (by kernel_rfl) (by kernel_rfl) (by kernel_rfl) (by kernel_rfl) rfl rfl rfl rfl rfl rfl rfl rfl ?_
                      refine TA.takeP 21 rfl (by kernel_rfl) (by kernel_rfl) (by kernel_rfl) rfl (OpVal.pickFB rfl rfl rfl) rfl rfl ?_
                      refine TA.takeP 22 rfl (by kernel_rfl) (by kernel_rfl) (by kernel_rfl) rfl (OpVal.moveB (.inr rfl) rfl) rfl rfl ?_
                      refine TA.done (by kernel_rfl) ?_
                      refine S.n ?_
                      refine TC.ofSub (Sub.pre 0 rfl) ?_
                      refine TC.back ?_
                      refine TC.ret ?_
                      obtain rfl := Option.some.inj hh
                      exact RetOk.mk' (rs := [.tmp 10]) [] rfl (.inl rfl) (RVs.tmp rfl RVs.nil) (List.sublist_append_left _ _) ⟨rfl, rfl, rfl⟩
                  · replace hh := iteO_f h142 hh
                    refine TA.takeOff 2 rfl (by kernel_rfl) (by kernel_rfl) (by kernel_rfl) (by kernel_rfl) rfl rfl rfl rfl rfl rfl rfl rfl ?_
                    refine TA.takeOff 3 rfl (by kernel_rfl) (by kernel_rfl) (by kernel_rfl) (by kernel_rfl) rfl rfl rfl rfl rfl rfl rfl rfl ?_
                    refine TA.takeOff 4 rfl (by kernel_rfl) (by kernel_rfl) (by kernel_rfl) (by kernel_rfl) rfl rfl rfl rfl rfl rfl rfl rfl ?_
                    refine TA.takeOff 5 rfl (by kernel_rfl) (by kernel_rfl) (by kernel_rfl) (by kernel_rfl) rfl rfl rfl rfl rfl rfl rfl rfl ?_
                    refine TA.takeOff 6 rfl (by kernel_rfl) (by kernel_rfl) (by kernel_rfl) (by kernel_rfl) rfl rfl rfl rfl rfl rfl rfl rfl ?_
                    refine TA.takeP 7 rfl (by kernel_rfl) (by kernel_rfl) (by kernel_rfl) rfl (OpVal.pickFB rfl rfl rfl) rfl rfl ?_
                    refine TA.takeP 8 rfl (by kernel_rfl) (by kernel_rfl) (by kernel_rfl) rfl (OpVal.moveB (.inl rfl) rfl) rfl rfl ?_
                    refine TA.takeOff 9 rfl (by kernel_rfl) (by kernel_rfl) (by kernel_rfl) (by kernel_rfl) rfl rfl rfl rfl rfl rfl rfl rfl ?_
                    refine TA.takeOff 10 rfl (by kernel_rfl) (by kernel_rfl) (by kernel_rfl) (by kernel_rfl) rfl rfl rfl rfl rfl rfl rfl rfl ?_
                    refine TA.takeOff 11 rfl (by kernel_rfl) (by kernel_rfl) (by kernel_rfl) (by kernel_rfl) rfl rfl rfl rfl rfl rfl rfl rfl ?_
                    refine TA.takeOff 12 rfl (by kernel_rfl) (by kernel_rfl) (by kernel_rfl) (by kernel_rfl) rfl rfl rfl rfl rfl rfl rfl rfl ?_
                    refine TA.takeOff 13 rfl (by kernel_rfl) (by kernel_rfl) (by kernel_rfl) (by kernel_rfl) rfl rfl rfl rfl rfl rfl rfl rfl ?_
                    refine TA.takeOff 14 rfl (by kernel_rfl) (by kernel_rfl) (by kernel_rfl) (by kernel_rfl) rfl rfl rfl rfl rfl rfl rfl rfl ?_
                    refine TA.takeOff 15 rfl (by kernel_rfl) (by kernel_rfl) (by kernel_rfl) (by kernel_rfl) rfl rfl rfl rfl rfl rfl rfl rfl ?_
                    refine TA.takeOff' 16 rfl (by kernel_rfl) (by kernel_rfl) (by kernel_rfl) (by kernel_rfl) rfl rfl rfl rfl rfl rfl rfl ?_
                    refine TA.takeOff' 17 rfl (by kernel_rfl) (by kernel_rfl) (by kernel_rfl) (by kernel_rfl) rfl rfl rfl rfl rfl rfl rfl ?_
                    refine TA.takeOff' 18 rfl (by kernel_rfl) (by kernel_rfl) (by kernel_rfl) (by kernel_rfl) rfl rfl rfl rfl rfl rfl rfl ?_
                    refine TA.takeOff 19 rfl (by kernel_rfl) (by kernel_rfl) (by kernel_rfl) (by kernel_rfl) rfl rfl rfl rfl rfl rfl rfl rfl ?_
                    refine TA.takeOff 20 rfl (by kernel_rfl) (by kernel_rfl) (by kernel_rfl) (by kernel_rfl) rfl rfl rfl rfl rfl rfl rfl rfl ?_
                    refine TA.takeP 21 rfl (by kernel_rfl) (by kernel_rfl) (by kernel_rfl) rfl (OpVal.pickFB rfl rfl rfl) rfl rfl ?_
                    refine TA.takeP 22 rfl (by kernel_rfl) (by kernel_rfl) (by kernel_rfl) rfl (OpVal.moveB (.inr rfl) rfl) rfl rfl ?_
                    refine TA.done (by kernel_rfl) ?_
                    refine S.n ?_
                    refine TC.ofSub (Sub.pre 0 rfl) ?_
                    refine TC.back ?_
                    refine TC.ret ?_
                    obtain rfl := Option.some.inj hh
                    exact RetOk.mk' (rs := [.tmp 10]) [] rfl (.inl rfl) (RVs.tmp rfl RVs.nil) (List.sublist_append_left _ _) ⟨rfl, rfl, rfl⟩

end Go.Proofs.Ytcidppnlhhkhhaa
