/- Decompiled: the law on what a text is related to. -/
import Derived.Test.YtpijipnmfkehcaaF6
set_option linter.unusedVariables false
set_option linter.unusedSimpArgs false
namespace Go.Proofs.Ytpijipnmfkehcaa
open Go Go.E
set_option maxRecDepth 100000
private theorem ag25 : Go.E.aggOf Try.prog 25 = some true := by kernel_rfl
private theorem ag9 : Go.E.aggOf Try.prog 9 = some false := by kernel_rfl
private theorem pf10 : Go.E.plainF Try.prog 10 = true := by kernel_rfl
private theorem pf11 : Go.E.plainF Try.prog 11 = true := by kernel_rfl
private theorem pf12 : Go.E.plainF Try.prog 12 = true := by kernel_rfl
private theorem pf13 : Go.E.plainF Try.prog 13 = true := by kernel_rfl
private theorem pf14 : Go.E.plainF Try.prog 14 = true := by kernel_rfl
private theorem pf15 : Go.E.plainF Try.prog 15 = true := by kernel_rfl
private theorem pf7 : Go.E.plainF Try.prog 7 = true := by kernel_rfl
private theorem pf8 : Go.E.plainF Try.prog 8 = true := by kernel_rfl
private theorem pf9 : Go.E.plainF Try.prog 9 = true := by kernel_rfl
private theorem sz25 : Go.E.szOf Try.prog 25 = some 4 := by kernel_rfl
private theorem sz9 : Go.E.szOf Try.prog 9 = some 1 := by kernel_rfl

noncomputable def whittleref15_Has_b1 (v6 : (List (List UInt8)) × Int) (x2 : List UInt8) (k107 : Nat) : Option ((Nat) ⊕ (Bool × Int)) :=
  iteO (decide (((k107 : Nat) : Int) < ((v6.1.length : Nat) : Int))) (iteO (decide ((nth v6.1 k107 ([] : List UInt8)) = x2)) (fin (some (true, 0))) (nxt (k107 + 1))) (fin (some (false, 0)))
noncomputable def whittleref15_Has (x0 : Fst) (x1 : List UInt8) (x2 : List UInt8) : Option (Bool × Int) :=
  grd (x1.length ≤ 281474976710656) (grd (x2.length ≤ 281474976710656) (bnd (whittleref15_Outs x0 x1) (fun v6 => iteO (decide (v6.2 ≠ 0)) (some (false, v6.2)) (iter (fun q : Nat => whittleref15_Has_b1 v6 x2 q) 0))))
theorem whittleref15_Has_con {σ : Store} {x0 : Fst} {a0_0 : Option Addr} {c0_0 : Nat} {a0_1 : Option Addr} {c0_1 : Nat} {a0_2 : Option Addr} {c0_2 : Nat} {x1 : List UInt8} {x2 : List UInt8} (f0_0 : RS σ 2 encTip (.slice a0_0 x0.starts.length c0_0) x0.starts) (f0_1 : RS σ 2 encTip (.slice a0_1 x0.ends.length c0_1) x0.ends) (f0_2 : RS σ 8 encArc (.slice a0_2 x0.arcs.length c0_2) x0.arcs) {r : Bool × Int} (hh : whittleref15_Has x0 x1 x2 = some r) :
    Con Try.prog 11 #[.agg #[.int .i64 x0.states, .slice a0_0 x0.starts.length c0_0, .slice a0_1 x0.ends.length c0_1, .slice a0_2 x0.arcs.length c0_2], .string (bs x1), .string (bs x2)] σ [] (PureP (.tuple #[.bool r.1, .int .i64 r.2]) σ) := by
  dsimp only [whittleref15_Has] at hh
  have f0_0b := f0_0.rv.big
  have f0_1b := f0_1.rv.big
  have f0_2b := f0_2.rv.big
  refine Con.mk (n := 32) Try.func11 rfl rfl rfl (fun w0 => ?_)
  have x1b := grd_c hh
  replace hh := grd_t hh
  have x2b := grd_c hh
  replace hh := grd_t hh
  refine TC.seq ?_
  refine TC.region ?_
  refine TL.op rfl (OpOk.boxA rfl rfl rfl rfl (fun b101 => ?_))
  refine TL.v rfl (OpVal.moveB (.inr rfl) rfl) rfl rfl ?_
  refine TL.v rfl (OpVal.moveI (.inr rfl) rfl) rfl rfl ?_
  refine TL.nil ?_
  refine S.n ?_
  refine TC.seq ?_
  refine TC.region ?_
  refine TL.v rfl (OpVal.loadAll rfl ag25 sz25 rfl (i := 0) rfl rfl) rfl rfl ?_
  refine TL.v rfl (OpVal.moveStr (.inl rfl) rfl) rfl rfl ?_
  obtain ⟨v6, u6, hh⟩ := bnd_e hh
  refine TL.op rfl (OpOk.call (whittleref15_Outs_con (x0 := x0) f0_0 f0_1 f0_2 u6) rfl rfl pf9 rfl rfl rfl rfl ?_)
  rintro _ τ103 _ hle103 ⟨a103_1, c103_1, rfl, hr103_0, rfl⟩
  replace f0_0 := f0_0.mono hle103
  replace f0_1 := f0_1.mono hle103
  replace f0_2 := f0_2.mono hle103
  have hr103_0b := hr103_0.rv.big
  refine TL.v rfl (OpVal.moveT (.inl rfl) rfl) rfl rfl ?_
  refine TL.v rfl (OpVal.extract rfl rfl rfl) rfl rfl ?_
  refine TL.v rfl (OpVal.extract rfl rfl rfl) rfl rfl ?_
  refine TL.v rfl (OpVal.moveSl (.inr rfl) rfl) rfl rfl ?_
  refine TL.v rfl (OpVal.moveI (.inr rfl) rfl) rfl rfl ?_
  refine TL.nil ?_
  refine S.n ?_
  refine TC.seq ?_
  refine TC.seq ?_
  refine TC.region ?_
  refine TL.v rfl (OpVal.moveI (.inl rfl) rfl) rfl rfl ?_
  refine TL.v rfl (OpVal.neq rfl rfl rfl) rfl rfl ?_
  refine TL.nil ?_
  refine S.n ?_
  refine TC.cond rfl (fun h104 => ?_) (fun h104 => ?_)
  · replace hh := iteO_t h104 hh
    replace h104 := of_decide_eq_true h104
    refine TC.seq ?_
    refine TC.region ?_
    refine TL.v rfl (OpVal.moveI (.inl rfl) rfl) rfl rfl ?_
    refine TL.v rfl (OpVal.moveB (.inr rfl) rfl) rfl rfl ?_
    refine TL.v rfl (OpVal.moveI (.inr rfl) rfl) rfl rfl ?_
    refine TL.nil ?_
    refine S.n ?_
    refine TC.ofSub (Sub.pre 0 rfl) ?_
    refine TC.back ?_
    refine TC.ret ?_
    refine S.r ?_
    obtain rfl := Option.some.inj hh
    exact RetOk.mk' (rs := [.tmp 6, .tmp 7]) [] rfl (.inl rfl) (RVs.tmp rfl (RVs.tmp rfl RVs.nil)) (List.sublist_append_left _ _) ⟨rfl, rfl, rfl⟩
  · replace hh := iteO_f h104 hh
    replace h104 := of_decide_eq_false h104
    refine TC.skip ?_
    refine S.n ?_
    refine TC.seq ?_
    refine TC.seq ?_
    refine TC.region ?_
    refine TL.v rfl (OpVal.moveI (.inr rfl) rfl) rfl rfl ?_
    refine TL.nil ?_
    refine S.n ?_
    refine TC.block ?_
    refine TC.loopG (α := (Nat) × (Unit)) [6, 7, 10, 20, 21, 22, 23, 24, 25, 26, 27, 28, 29, 30, 31] (fun g => [(10, .int .i64 ((g.1 : Nat) : Int))]) (fun g => []) (fun g => τ103) (fun g => iter (fun q : Nat => whittleref15_Has_b1 v6 x2 q) g.1 = some r) (fun g => rounds (fun q : Nat => whittleref15_Has_b1 v6 x2 q) g.1) (0, ()) (Sub.pre 0 rfl) rfl (by repeat (first | exact trivial | refine ⟨rfl, ?_⟩)) hh (fun g1 j1 hg1 => ?_)
    obtain ⟨k107, _⟩ := g1
    have hh := hg1; clear hg1
    show TC _ _ _ (upds (mask _ j1 _) [(10, .int .i64 ((k107 : Nat) : Int))]) _ []
    obtain ⟨z1, hh, hR1⟩ := iter_e hh
    dsimp only [whittleref15_Has_b1] at hh
    refine TC.seq ?_
    refine TC.seq ?_
    refine TC.region ?_
    refine TL.v rfl (OpVal.moveI (.inl rfl) rfl) rfl rfl ?_
    refine TL.v rfl (OpVal.moveSl (.inl rfl) rfl) rfl rfl ?_
    refine TL.v rfl (OpVal.lenC rfl Try.underlying27 rfl) rfl rfl ?_
    refine TL.v rfl (OpVal.lss rfl rfl rfl) rfl rfl ?_
    refine TL.nil ?_
    refine S.n ?_
    refine TC.cond rfl (fun h108 => ?_) (fun h108 => ?_)
    · replace hh := iteO_t h108 hh
      replace h108 := of_decide_eq_true h108
      refine TC.skip ?_
      refine S.n ?_
      refine TC.seq ?_
      refine TC.block ?_
      refine TC.seq ?_
      refine TC.region ?_
      refine TL.v rfl (OpVal.moveSl (.inl rfl) rfl) rfl rfl ?_
      refine TL.v rfl (OpVal.moveI (.inl rfl) rfl) rfl rfl ?_
      refine TL.v rfl (OpVal.indexN rfl Try.underlying27 sz9 rfl rfl hr103_0.rv.sl (by omega)) rfl rfl ?_
      refine TL.v rfl (OpVal.loadS1 ([] : List UInt8) rfl ag9 rfl hr103_0 (by omega) rfl) rfl rfl ?_
      refine TL.v rfl (OpVal.moveStr (.inl rfl) rfl) rfl rfl ?_
      refine TL.v rfl (OpVal.eqlBs rfl rfl rfl) rfl rfl ?_
      refine TL.nil ?_
      refine S.n ?_
      refine TC.cond rfl (fun h109 => ?_) (fun h109 => ?_)
      · replace hh := iteO_t h109 hh
        replace h109 := of_decide_eq_true h109
        refine TC.seq ?_
        refine TC.region ?_
        refine TL.v rfl (OpVal.moveB (.inr rfl) rfl) rfl rfl ?_
        refine TL.v rfl (OpVal.moveI (.inr rfl) rfl) rfl rfl ?_
        refine TL.nil ?_
        refine S.n ?_
        refine TC.back ?_
        refine TC.ret ?_
        refine B.r ?_
        refine S.r ?_
        refine S.r ?_
        replace hh := fin_x hR1 hh
        refine B.r ?_
        refine S.r ?_
        obtain rfl := Option.some.inj hh
        exact RetOk.mk' (rs := [.tmp 6, .tmp 7]) [] rfl (.inl rfl) (RVs.tmp rfl (RVs.tmp rfl RVs.nil)) (List.sublist_append_left _ _) ⟨rfl, rfl, rfl⟩
      · replace hh := iteO_f h109 hh
        replace h109 := of_decide_eq_false h109
        refine TC.skip ?_
        refine B.n ?_
        refine S.n ?_
        refine TC.region ?_
        refine TL.v rfl (OpVal.moveI (.inl rfl) rfl) rfl rfl ?_
        refine TL.v rfl (OpVal.succ rfl rfl rfl (by omega)) rfl rfl ?_
        refine TL.v rfl (OpVal.moveI (.inr rfl) rfl) rfl rfl ?_
        refine TL.nil ?_
        refine S.n ?_
        obtain ⟨hh, hlt110⟩ := nxt_x hR1 hh
        refine ⟨by repeat (first | exact Agr.refl _ _ | exact Agr.mask | refine Agr.upd rfl ?_ | refine Agr.maskIn rfl ?_ | refine Agr.upds rfl ?_), ((k107 + 1), ()), hlt110, hh, by repeat (first | exact trivial | refine ⟨rfl, ?_⟩), Sub.pre 0 rfl, rfl⟩
    · replace hh := iteO_f h108 hh
      replace h108 := of_decide_eq_false h108
      refine TC.exit ?_
      refine S.x ?_
      refine S.x ?_
      replace hh := fin_x hR1 hh
      refine TC.exitHere ?_
      refine S.n ?_
      refine TC.seq ?_
      refine TC.region ?_
      refine TL.v rfl (OpVal.moveB (.inr rfl) rfl) rfl rfl ?_
      refine TL.v rfl (OpVal.moveI (.inr rfl) rfl) rfl rfl ?_
      refine TL.nil ?_
      refine S.n ?_
      refine TC.back ?_
      refine TC.ret ?_
      obtain rfl := Option.some.inj hh
      exact RetOk.mk' (rs := [.tmp 6, .tmp 7]) [] rfl (.inl rfl) (RVs.tmp rfl (RVs.tmp rfl RVs.nil)) (List.sublist_append_left _ _) ⟨rfl, rfl, rfl⟩

noncomputable def whittlelaw15_FstOuts_j1 (x0 : Fst) (x1 : List UInt8) (x2 : List UInt8) : Option (Bool) :=
  bnd (fst_Outs x0 x1) (fun v29 => bnd (whittleref15_Outs x0 x1) (fun v37 => bnd (fst_Has x0 x1 x2) (fun v46 => bnd (whittleref15_Has x0 x1 x2) (fun v55 => bnd (whittlelaw15_awake) (fun v61 => iteO v61 (bnd (fst_Check x0) (fun v64 => bnd (whittleref15_Check x0) (fun v66 => iteO (decide (v64 = v66)) (bnd (whittleref03_Texts v29.1 v37.1) (fun v72 => iteO v72 (iteO (decide (v29.2 = v37.2)) (iteO (v46.1 == v55.1) (some (decide (v46.2 = v55.2))) (some false)) (some false)) (some false))) (some false)))) (some false))))))
noncomputable def whittlelaw15_FstOuts (x0 : Fst) (x1 : List UInt8) (x2 : List UInt8) : Option (Bool) :=
  grd (x1.length ≤ 281474976710656) (grd (x2.length ≤ 281474976710656) (bnd (whittleref15_Few x0) (fun v4 => iteO (!v4) (some true) (iteO (decide (5 < ((x1.length : Nat) : Int))) (iteO (decide (((x1.length : Nat) : Int) ≤ 256)) (some true) (iteO (decide (300 < ((x1.length : Nat) : Int))) (some true) (iteO (decide (600 < ((x2.length : Nat) : Int))) (some true) (whittlelaw15_FstOuts_j1 x0 x1 x2)))) (iteO (decide (300 < ((x1.length : Nat) : Int))) (some true) (iteO (decide (600 < ((x2.length : Nat) : Int))) (some true) (whittlelaw15_FstOuts_j1 x0 x1 x2)))))))
theorem whittlelaw15_FstOuts_con {σ : Store} {x0 : Fst} {a0_0 : Option Addr} {c0_0 : Nat} {a0_1 : Option Addr} {c0_1 : Nat} {a0_2 : Option Addr} {c0_2 : Nat} {x1 : List UInt8} {x2 : List UInt8} (f0_0 : RS σ 2 encTip (.slice a0_0 x0.starts.length c0_0) x0.starts) (f0_1 : RS σ 2 encTip (.slice a0_1 x0.ends.length c0_1) x0.ends) (f0_2 : RS σ 8 encArc (.slice a0_2 x0.arcs.length c0_2) x0.arcs) {r : Bool} (hh : whittlelaw15_FstOuts x0 x1 x2 = some r) :
    Con Try.prog 3 #[.agg #[.int .i64 x0.states, .slice a0_0 x0.starts.length c0_0, .slice a0_1 x0.ends.length c0_1, .slice a0_2 x0.arcs.length c0_2], .string (bs x1), .string (bs x2)] σ [] (PureP (.bool r) σ) := by
  dsimp only [whittlelaw15_FstOuts] at hh
  have f0_0b := f0_0.rv.big
  have f0_1b := f0_1.rv.big
  have f0_2b := f0_2.rv.big
  refine Con.mk (n := 92) Try.func3 rfl rfl rfl (fun w0 => ?_)
  have x1b := grd_c hh
  replace hh := grd_t hh
  have x2b := grd_c hh
  replace hh := grd_t hh
  refine TC.seq ?_
  refine TC.region ?_
  refine TL.op rfl (OpOk.boxA rfl rfl rfl rfl (fun b101 => ?_))
  refine TL.v rfl (OpVal.moveB (.inr rfl) rfl) rfl rfl ?_
  refine TL.nil ?_
  refine S.n ?_
  refine TC.cutG (α := (Unit) × (Unit)) [6, 15, 16, 17, 18, 19, 20, 21, 22, 23, 24, 25, 26, 27, 28, 29, 30, 31, 32, 33, 34, 35, 36, 37] (fun g => []) (fun g => [Res.cells b101 #[.int .i64 x0.states, .slice a0_0 x0.starts.length c0_0, .slice a0_1 x0.ends.length c0_1, .slice a0_2 x0.arcs.length c0_2] 25]) (fun g => σ) (fun g => whittlelaw15_FstOuts_j1 x0 x1 x2 = some r) ?_ (fun g j hg => ?_)
  · skip
    refine TC.seq ?_
    refine TC.region ?_
    refine TL.v rfl (OpVal.loadAll rfl ag25 sz25 rfl (i := 0) rfl rfl) rfl rfl ?_
    obtain ⟨v4, u4, hh⟩ := bnd_e hh
    refine TL.op rfl (OpOk.callP (whittleref15_Few_con (x0 := x0) f0_0 f0_1 f0_2 u4) rfl rfl pf7 rfl rfl rfl ?_)
    refine TL.v rfl (OpVal.not rfl rfl) rfl rfl ?_
    refine TL.v rfl (OpVal.moveB (.inl rfl) rfl) rfl rfl ?_
    refine TL.split 18 rfl (fun h103 => ?_) (fun h103 => ?_)
    · replace hh := iteO_t h103 hh
      refine TL.goff rfl rfl rfl rfl rfl rfl rfl rfl ?_
      refine TL.goff rfl rfl rfl rfl rfl rfl rfl rfl ?_
      refine TL.goff rfl rfl rfl rfl rfl rfl rfl rfl ?_
      refine TL.goff rfl rfl rfl rfl rfl rfl rfl rfl ?_
      refine TL.goff' rfl rfl rfl rfl rfl rfl rfl ?_
      refine TL.goff' rfl rfl rfl rfl rfl rfl rfl ?_
      refine TL.goff' rfl rfl rfl rfl rfl rfl rfl ?_
      refine TL.goff rfl rfl rfl rfl rfl rfl rfl rfl ?_
      refine TL.v rfl (OpVal.pickTB rfl rfl rfl) rfl rfl ?_
      refine TL.v rfl (OpVal.moveB (.inl rfl) rfl) rfl rfl ?_
      refine TL.goff rfl rfl rfl rfl rfl rfl rfl rfl ?_
      refine TL.goff rfl rfl rfl rfl rfl rfl rfl rfl ?_
      refine TL.goff rfl rfl rfl rfl rfl rfl rfl rfl ?_
      refine TL.v rfl (OpVal.pickTB rfl rfl rfl) rfl rfl ?_
      refine TL.v rfl (OpVal.moveB (.inl rfl) rfl) rfl rfl ?_
      refine TL.goff rfl rfl rfl rfl rfl rfl rfl rfl ?_
      refine TL.goff rfl rfl rfl rfl rfl rfl rfl rfl ?_
      refine TL.goff rfl rfl rfl rfl rfl rfl rfl rfl ?_
      refine TL.v rfl (OpVal.pickTB rfl rfl rfl) rfl rfl ?_
      refine TL.nil ?_
      refine S.n ?_
      refine TC.cond rfl (fun _ => ?_) (fun h => Bool.noConfusion h)
      refine TC.seq ?_
      refine TC.region ?_
      refine TL.v rfl (OpVal.moveB (.inr rfl) rfl) rfl rfl ?_
      refine TL.nil ?_
      refine S.n ?_
      refine TC.ofSub (Sub.pre 0 rfl) ?_
      refine TC.ret ?_
      refine S.r ?_
      obtain rfl := Option.some.inj hh
      exact RetOk.mk' (rs := [.tmp 6]) [] rfl (.inl rfl) (RVs.tmp rfl RVs.nil) (List.sublist_append_left _ _) ⟨rfl, rfl, rfl⟩
    · replace hh := iteO_f h103 hh
      refine TL.gv rfl rfl rfl rfl rfl (OpVal.moveStr (.inl rfl) rfl) rfl rfl ?_
      refine TL.gv rfl rfl rfl rfl rfl (OpVal.lenBs rfl Try.underlying9 rfl) rfl rfl ?_
      refine TL.gv rfl rfl rfl rfl rfl (OpVal.gtr rfl rfl rfl) rfl rfl ?_
      refine TL.gv rfl rfl rfl rfl rfl (OpVal.moveB (.inl rfl) rfl) rfl rfl ?_
      refine TL.split 22 rfl (fun h104 => ?_) (fun h104 => ?_)
      · replace hh := iteO_t h104 hh
        replace h104 := of_decide_eq_true h104
        refine TL.gv rfl rfl rfl rfl rfl (OpVal.moveStr (.inl rfl) rfl) rfl rfl ?_
        refine TL.gv rfl rfl rfl rfl rfl (OpVal.lenBs rfl Try.underlying9 rfl) rfl rfl ?_
        refine TL.gv rfl rfl rfl rfl rfl (OpVal.leq rfl rfl rfl) rfl rfl ?_
        refine TL.gv rfl rfl rfl rfl rfl (OpVal.pickTB rfl rfl rfl) rfl rfl ?_
        refine TL.v rfl (OpVal.pickFB rfl rfl rfl) rfl rfl ?_
        refine TL.v rfl (OpVal.moveB (.inl rfl) rfl) rfl rfl ?_
        refine TL.split 28 rfl (fun h105 => ?_) (fun h105 => ?_)
        · replace hh := iteO_t h105 hh
          replace h105 := of_decide_eq_true h105
          refine TL.goff rfl rfl rfl rfl rfl rfl rfl rfl ?_
          refine TL.goff rfl rfl rfl rfl rfl rfl rfl rfl ?_
          refine TL.goff rfl rfl rfl rfl rfl rfl rfl rfl ?_
          refine TL.v rfl (OpVal.pickTB rfl rfl rfl) rfl rfl ?_
          refine TL.v rfl (OpVal.moveB (.inl rfl) rfl) rfl rfl ?_
          refine TL.goff rfl rfl rfl rfl rfl rfl rfl rfl ?_
          refine TL.goff rfl rfl rfl rfl rfl rfl rfl rfl ?_
          refine TL.goff rfl rfl rfl rfl rfl rfl rfl rfl ?_
          refine TL.v rfl (OpVal.pickTB rfl rfl rfl) rfl rfl ?_
          refine TL.nil ?_
          refine S.n ?_
          refine TC.cond rfl (fun _ => ?_) (fun h => Bool.noConfusion h)
          refine TC.seq ?_
          refine TC.region ?_
          refine TL.v rfl (OpVal.moveB (.inr rfl) rfl) rfl rfl ?_
          refine TL.nil ?_
          refine S.n ?_
          refine TC.ofSub (Sub.pre 0 rfl) ?_
          refine TC.ret ?_
          refine S.r ?_
          obtain rfl := Option.some.inj hh
          exact RetOk.mk' (rs := [.tmp 6]) [] rfl (.inl rfl) (RVs.tmp rfl RVs.nil) (List.sublist_append_left _ _) ⟨rfl, rfl, rfl⟩
        · replace hh := iteO_f h105 hh
          replace h105 := of_decide_eq_false h105
          refine TL.gv rfl rfl rfl rfl rfl (OpVal.moveStr (.inl rfl) rfl) rfl rfl ?_
          refine TL.gv rfl rfl rfl rfl rfl (OpVal.lenBs rfl Try.underlying9 rfl) rfl rfl ?_
          refine TL.gv rfl rfl rfl rfl rfl (OpVal.gtr rfl rfl rfl) rfl rfl ?_
          refine TL.v rfl (OpVal.pickFB rfl rfl rfl) rfl rfl ?_
          refine TL.v rfl (OpVal.moveB (.inl rfl) rfl) rfl rfl ?_
          refine TL.split 33 rfl (fun h106 => ?_) (fun h106 => ?_)
          · replace hh := iteO_t h106 hh
            replace h106 := of_decide_eq_true h106
            refine TL.goff rfl rfl rfl rfl rfl rfl rfl rfl ?_
            refine TL.goff rfl rfl rfl rfl rfl rfl rfl rfl ?_
            refine TL.goff rfl rfl rfl rfl rfl rfl rfl rfl ?_
            refine TL.v rfl (OpVal.pickTB rfl rfl rfl) rfl rfl ?_
            refine TL.nil ?_
            refine S.n ?_
            refine TC.cond rfl (fun _ => ?_) (fun h => Bool.noConfusion h)
            refine TC.seq ?_
            refine TC.region ?_
            refine TL.v rfl (OpVal.moveB (.inr rfl) rfl) rfl rfl ?_
            refine TL.nil ?_
            refine S.n ?_
            refine TC.ofSub (Sub.pre 0 rfl) ?_
            refine TC.ret ?_
            refine S.r ?_
            obtain rfl := Option.some.inj hh
            exact RetOk.mk' (rs := [.tmp 6]) [] rfl (.inl rfl) (RVs.tmp rfl RVs.nil) (List.sublist_append_left _ _) ⟨rfl, rfl, rfl⟩
          · replace hh := iteO_f h106 hh
            replace h106 := of_decide_eq_false h106
            refine TL.gv rfl rfl rfl rfl rfl (OpVal.moveStr (.inl rfl) rfl) rfl rfl ?_
            refine TL.gv rfl rfl rfl rfl rfl (OpVal.lenBs rfl Try.underlying9 rfl) rfl rfl ?_
            refine TL.gv rfl rfl rfl rfl rfl (OpVal.gtr rfl rfl rfl) rfl rfl ?_
            refine TL.v rfl (OpVal.pickFB rfl rfl rfl) rfl rfl ?_
            refine TL.nil ?_
            refine S.n ?_
            refine TC.cond rfl (fun h107 => ?_) (fun h107 => ?_)
            · replace hh := iteO_t h107 hh
              replace h107 := of_decide_eq_true h107
              refine TC.seq ?_
              refine TC.region ?_
              refine TL.v rfl (OpVal.moveB (.inr rfl) rfl) rfl rfl ?_
              refine TL.nil ?_
              refine S.n ?_
              refine TC.ofSub (Sub.pre 0 rfl) ?_
              refine TC.ret ?_
              refine S.r ?_
              obtain rfl := Option.some.inj hh
              exact RetOk.mk' (rs := [.tmp 6]) [] rfl (.inl rfl) (RVs.tmp rfl RVs.nil) (List.sublist_append_left _ _) ⟨rfl, rfl, rfl⟩
            · replace hh := iteO_f h107 hh
              replace h107 := of_decide_eq_false h107
              refine TC.skip ?_
              refine S.n ?_
              refine ⟨by repeat (first | exact Agr.refl _ _ | exact Agr.mask | refine Agr.upd rfl ?_ | refine Agr.maskIn rfl ?_ | refine Agr.upds rfl ?_), ((), ()), hh, by repeat (first | exact trivial | refine ⟨rfl, ?_⟩), Sub.pre 1 rfl, rfl⟩
      · replace hh := iteO_f h104 hh
        replace h104 := of_decide_eq_false h104
        refine TL.goff rfl rfl rfl rfl rfl rfl rfl rfl ?_
        refine TL.goff rfl rfl rfl rfl rfl rfl rfl rfl ?_
        refine TL.goff rfl rfl rfl rfl rfl rfl rfl rfl ?_
        refine TL.gv rfl rfl rfl rfl rfl (OpVal.pickFB rfl rfl rfl) rfl rfl ?_
        refine TL.v rfl (OpVal.pickFB rfl rfl rfl) rfl rfl ?_
        refine TL.v rfl (OpVal.moveB (.inl rfl) rfl) rfl rfl ?_
        refine TL.gv rfl rfl rfl rfl rfl (OpVal.moveStr (.inl rfl) rfl) rfl rfl ?_
        refine TL.gv rfl rfl rfl rfl rfl (OpVal.lenBs rfl Try.underlying9 rfl) rfl rfl ?_
        refine TL.gv rfl rfl rfl rfl rfl (OpVal.gtr rfl rfl rfl) rfl rfl ?_
        refine TL.v rfl (OpVal.pickFB rfl rfl rfl) rfl rfl ?_
        refine TL.v rfl (OpVal.moveB (.inl rfl) rfl) rfl rfl ?_
        refine TL.split 33 rfl (fun h108 => ?_) (fun h108 => ?_)
        · replace hh := iteO_t h108 hh
          replace h108 := of_decide_eq_true h108
          refine TL.goff rfl rfl rfl rfl rfl rfl rfl rfl ?_
          refine TL.goff rfl rfl rfl rfl rfl rfl rfl rfl ?_
          refine TL.goff rfl rfl rfl rfl rfl rfl rfl rfl ?_
          refine TL.v rfl (OpVal.pickTB rfl rfl rfl) rfl rfl ?_
          refine TL.nil ?_
          refine S.n ?_
          refine TC.cond rfl (fun _ => ?_) (fun h => Bool.noConfusion h)
          refine TC.seq ?_
          refine TC.region ?_
          refine TL.v rfl (OpVal.moveB (.inr rfl) rfl) rfl rfl ?_
          refine TL.nil ?_
          refine S.n ?_
          refine TC.ofSub (Sub.pre 0 rfl) ?_
          refine TC.ret ?_
          refine S.r ?_
          obtain rfl := Option.some.inj hh
          exact RetOk.mk' (rs := [.tmp 6]) [] rfl (.inl rfl) (RVs.tmp rfl RVs.nil) (List.sublist_append_left _ _) ⟨rfl, rfl, rfl⟩
        · replace hh := iteO_f h108 hh
          replace h108 := of_decide_eq_false h108
          refine TL.gv rfl rfl rfl rfl rfl (OpVal.moveStr (.inl rfl) rfl) rfl rfl ?_
          refine TL.gv rfl rfl rfl rfl rfl (OpVal.lenBs rfl Try.underlying9 rfl) rfl rfl ?_
          refine TL.gv rfl rfl rfl rfl rfl (OpVal.gtr rfl rfl rfl) rfl rfl ?_
          refine TL.v rfl (OpVal.pickFB rfl rfl rfl) rfl rfl ?_
          refine TL.nil ?_
          refine S.n ?_
          refine TC.cond rfl (fun h109 => ?_) (fun h109 => ?_)
          · replace hh := iteO_t h109 hh
            replace h109 := of_decide_eq_true h109
            refine TC.seq ?_
            refine TC.region ?_
            refine TL.v rfl (OpVal.moveB (.inr rfl) rfl) rfl rfl ?_
            refine TL.nil ?_
            refine S.n ?_
            refine TC.ofSub (Sub.pre 0 rfl) ?_
            refine TC.ret ?_
            refine S.r ?_
            obtain rfl := Option.some.inj hh
            exact RetOk.mk' (rs := [.tmp 6]) [] rfl (.inl rfl) (RVs.tmp rfl RVs.nil) (List.sublist_append_left _ _) ⟨rfl, rfl, rfl⟩
          · replace hh := iteO_f h109 hh
            replace h109 := of_decide_eq_false h109
            refine TC.skip ?_
            refine S.n ?_
            refine ⟨by repeat (first | exact Agr.refl _ _ | exact Agr.mask | refine Agr.upd rfl ?_ | refine Agr.maskIn rfl ?_ | refine Agr.upds rfl ?_), ((), ()), hh, by repeat (first | exact trivial | refine ⟨rfl, ?_⟩), Sub.pre 1 rfl, rfl⟩
  · skip
    obtain ⟨_, _⟩ := g
    have hh := hg; clear hg
    show TC _ _ _ (upds (mask _ j _) []) _ [Res.cells b101 #[.int .i64 x0.states, .slice a0_0 x0.starts.length c0_0, .slice a0_1 x0.ends.length c0_1, .slice a0_2 x0.arcs.length c0_2] 25]
    dsimp only [whittlelaw15_FstOuts_j1] at hh
    refine TC.seq ?_
    refine TC.region ?_
    refine TL.v rfl (OpVal.loadAll rfl ag25 sz25 rfl (i := 0) rfl rfl) rfl rfl ?_
    refine TL.v rfl (OpVal.moveStr (.inl rfl) rfl) rfl rfl ?_
    obtain ⟨v29, u29, hh⟩ := bnd_e hh
    refine TL.op rfl (OpOk.call (fst_Outs_con (x0 := x0) f0_0 f0_1 f0_2 u29) rfl rfl pf8 rfl rfl rfl rfl ?_)
    rintro _ τ110 _ hle110 ⟨a110_1, c110_1, rfl, hr110_0, rfl⟩
    replace f0_0 := f0_0.mono hle110
    replace f0_1 := f0_1.mono hle110
    replace f0_2 := f0_2.mono hle110
    have hr110_0b := hr110_0.rv.big
    refine TL.v rfl (OpVal.moveT (.inl rfl) rfl) rfl rfl ?_
    refine TL.v rfl (OpVal.extract rfl rfl rfl) rfl rfl ?_
    refine TL.v rfl (OpVal.extract rfl rfl rfl) rfl rfl ?_
    refine TL.v rfl (OpVal.moveSl (.inr rfl) rfl) rfl rfl ?_
    refine TL.v rfl (OpVal.moveI (.inr rfl) rfl) rfl rfl ?_
    refine TL.nil ?_
    refine S.n ?_
    refine TC.seq ?_
    refine TC.region ?_
    refine TL.v rfl (OpVal.loadAll rfl ag25 sz25 rfl (i := 0) rfl rfl) rfl rfl ?_
    refine TL.v rfl (OpVal.moveStr (.inl rfl) rfl) rfl rfl ?_
    obtain ⟨v37, u37, hh⟩ := bnd_e hh
    refine TL.op rfl (OpOk.call (whittleref15_Outs_con (x0 := x0) f0_0 f0_1 f0_2 u37) rfl rfl pf9 rfl rfl rfl rfl ?_)
    rintro _ τ111 _ hle111 ⟨a111_1, c111_1, rfl, hr111_0, rfl⟩
    replace f0_0 := f0_0.mono hle111
    replace f0_1 := f0_1.mono hle111
    replace f0_2 := f0_2.mono hle111
    replace hr110_0 := hr110_0.mono hle111
    have hr111_0b := hr111_0.rv.big
    refine TL.v rfl (OpVal.moveT (.inl rfl) rfl) rfl rfl ?_
    refine TL.v rfl (OpVal.extract rfl rfl rfl) rfl rfl ?_
    refine TL.v rfl (OpVal.extract rfl rfl rfl) rfl rfl ?_
    refine TL.v rfl (OpVal.moveSl (.inr rfl) rfl) rfl rfl ?_
    refine TL.v rfl (OpVal.moveI (.inr rfl) rfl) rfl rfl ?_
    refine TL.nil ?_
    refine S.n ?_
    refine TC.seq ?_
    refine TC.region ?_
    refine TL.v rfl (OpVal.loadAll rfl ag25 sz25 rfl (i := 0) rfl rfl) rfl rfl ?_
    refine TL.v rfl (OpVal.moveStr (.inl rfl) rfl) rfl rfl ?_
    refine TL.v rfl (OpVal.moveStr (.inl rfl) rfl) rfl rfl ?_
    obtain ⟨v46, u46, hh⟩ := bnd_e hh
    refine TL.op rfl (OpOk.callP (fst_Has_con (x0 := x0) f0_0 f0_1 f0_2 u46) rfl rfl pf10 rfl rfl rfl ?_)
    refine TL.v rfl (OpVal.moveT (.inl rfl) rfl) rfl rfl ?_
    refine TL.v rfl (OpVal.extract rfl rfl rfl) rfl rfl ?_
    refine TL.v rfl (OpVal.extract rfl rfl rfl) rfl rfl ?_
    refine TL.v rfl (OpVal.moveB (.inr rfl) rfl) rfl rfl ?_
    refine TL.v rfl (OpVal.moveI (.inr rfl) rfl) rfl rfl ?_
    refine TL.nil ?_
    refine S.n ?_
    refine TC.seq ?_
    refine TC.region ?_
    refine TL.v rfl (OpVal.loadAll rfl ag25 sz25 rfl (i := 0) rfl rfl) rfl rfl ?_
    refine TL.v rfl (OpVal.moveStr (.inl rfl) rfl) rfl rfl ?_
    refine TL.v rfl (OpVal.moveStr (.inl rfl) rfl) rfl rfl ?_
    obtain ⟨v55, u55, hh⟩ := bnd_e hh
    refine TL.op rfl (OpOk.callP (whittleref15_Has_con (x0 := x0) f0_0 f0_1 f0_2 u55) rfl rfl pf11 rfl rfl rfl ?_)
    refine TL.v rfl (OpVal.moveT (.inl rfl) rfl) rfl rfl ?_
    refine TL.v rfl (OpVal.extract rfl rfl rfl) rfl rfl ?_
    refine TL.v rfl (OpVal.extract rfl rfl rfl) rfl rfl ?_
    refine TL.v rfl (OpVal.moveB (.inr rfl) rfl) rfl rfl ?_
    refine TL.v rfl (OpVal.moveI (.inr rfl) rfl) rfl rfl ?_
    refine TL.nil ?_
    refine S.n ?_
    refine TC.seq ?_
    refine TC.draw [] (by kernel_rfl) ?_
    obtain ⟨v61, u61, hh⟩ := bnd_e hh
    refine TA.act 0 (by kernel_rfl) rfl rfl (OpOk.callP (whittlelaw15_awake_con u61) rfl rfl pf12 rfl rfl rfl ⟨(fun w h => sees_of (Store.le.refl _) (fun r hr => hr) w h), ?_⟩)
    refine TA.takeP 1 rfl (by kernel_rfl) (by kernel_rfl) (by kernel_rfl) rfl (OpVal.moveB (.inl rfl) rfl) rfl rfl ?_
    refine TA.split 65 rfl (fun h112 => ?_) (fun h112 => ?_)
    · replace hh := iteO_t h112 hh
      refine TA.takeOn 2 rfl (by kernel_rfl) (by kernel_rfl) (by kernel_rfl) (by kernel_rfl) rfl rfl rfl rfl rfl (OpVal.loadAll rfl ag25 sz25 rfl (i := 0) rfl rfl) rfl rfl ?_
      refine TA.takeOn 4 rfl (by kernel_rfl) (by kernel_rfl) (by kernel_rfl) (by kernel_rfl) rfl rfl rfl rfl rfl (OpVal.loadAll rfl ag25 sz25 rfl (i := 0) rfl rfl) rfl rfl ?_
      obtain ⟨v64, u64, hh⟩ := bnd_e hh
      refine TA.actOn 3 (by kernel_rfl) rfl rfl rfl rfl rfl rfl (OpOk.callP (fst_Check_con (x0 := x0) f0_0 f0_1 f0_2 u64) rfl rfl pf13 rfl rfl rfl ⟨(fun w h => sees_of (Store.le.refl _) (fun r hr => hr) w h), ?_⟩)
      obtain ⟨v66, u66, hh⟩ := bnd_e hh
      refine TA.actOn 5 (by kernel_rfl) rfl rfl rfl rfl rfl rfl (OpOk.callP (whittleref15_Check_con (x0 := x0) f0_0 f0_1 f0_2 u66) rfl rfl pf14 rfl rfl rfl ⟨(fun w h => sees_of (Store.le.refl _) (fun r hr => hr) w h), ?_⟩)
      refine TA.takeOn 6 rfl (by kernel_rfl) (by kernel_rfl) (by kernel_rfl) (by kernel_rfl) rfl rfl rfl rfl rfl (OpVal.eql rfl rfl rfl) rfl rfl ?_
      refine TA.takeP 7 rfl (by kernel_rfl) (by kernel_rfl) (by kernel_rfl) rfl (OpVal.pickTB rfl rfl rfl) rfl rfl ?_
      refine TA.takeP 8 rfl (by kernel_rfl) (by kernel_rfl) (by kernel_rfl) rfl (OpVal.moveB (.inl rfl) rfl) rfl rfl ?_
      refine TA.split 72 rfl (fun h113 => ?_) (fun h113 => ?_)
      · replace hh := iteO_t h113 hh
        replace h113 := of_decide_eq_true h113
        refine TA.takeOn 9 rfl (by kernel_rfl) (by kernel_rfl) (by kernel_rfl) (by kernel_rfl) rfl rfl rfl rfl rfl (OpVal.moveSl (.inl rfl) rfl) rfl rfl ?_
        refine TA.takeOn 10 rfl (by kernel_rfl) (by kernel_rfl) (by kernel_rfl) (by kernel_rfl) rfl rfl rfl rfl rfl (OpVal.moveSl (.inl rfl) rfl) rfl rfl ?_
        obtain ⟨v72, u72, hh⟩ := bnd_e hh
        refine TA.actOn 11 (by kernel_rfl) rfl rfl rfl rfl rfl rfl (OpOk.callP (whittleref03_Texts_con hr110_0 hr111_0 u72) rfl rfl pf15 rfl rfl rfl ⟨(fun w h => sees_of (Store.le.refl _) (fun r hr => hr) w h), ?_⟩)
        refine TA.takeP 12 rfl (by kernel_rfl) (by kernel_rfl) (by kernel_rfl) rfl (OpVal.pickTB rfl rfl rfl) rfl rfl ?_
        refine TA.takeP 13 rfl (by kernel_rfl) (by kernel_rfl) (by kernel_rfl) rfl (OpVal.moveB (.inl rfl) rfl) rfl rfl ?_
        refine TA.split 77 rfl (fun h114 => ?_) (fun h114 => ?_)
        · replace hh := iteO_t h114 hh
          refine TA.takeOn 14 rfl (by kernel_rfl) (by kernel_rfl) (by kernel_rfl) (by kernel_rfl) rfl rfl rfl rfl rfl (OpVal.moveI (.inl rfl) rfl) rfl rfl ?_
          refine TA.takeOn 15 rfl (by kernel_rfl) (by kernel_rfl) (by kernel_rfl) (by kernel_rfl) rfl rfl rfl rfl rfl (OpVal.moveI (.inl rfl) rfl) rfl rfl ?_
          refine TA.takeOn 16 rfl (by kernel_rfl) (by kernel_rfl) (by kernel_rfl) (by kernel_rfl) rfl rfl rfl rfl rfl (OpVal.eql rfl rfl rfl) rfl rfl ?_
          refine TA.takeP 17 rfl (by kernel_rfl) (by kernel_rfl) (by kernel_rfl) rfl (OpVal.pickTB rfl rfl rfl) rfl rfl ?_
          refine TA.takeP 18 rfl (by kernel_rfl) (by kernel_rfl) (by kernel_rfl) rfl (OpVal.moveB (.inl rfl) rfl) rfl rfl ?_
          refine TA.split 82 rfl (fun h115 => ?_) (fun h115 => ?_)
          · replace hh := iteO_t h115 hh
            replace h115 := of_decide_eq_true h115
            refine TA.takeOn 19 rfl (by kernel_rfl) (by kernel_rfl) (by kernel_rfl) (by kernel_rfl) rfl rfl rfl rfl rfl (OpVal.moveB (.inl rfl) rfl) rfl rfl ?_
            refine TA.takeOn 20 rfl (by kernel_rfl) (by kernel_rfl) (by kernel_rfl) (by kernel_rfl) rfl rfl rfl rfl rfl (OpVal.moveB (.inl rfl) rfl) rfl rfl ?_
            refine TA.takeOn 21 rfl (by kernel_rfl) (by kernel_rfl) (by kernel_rfl) (by kernel_rfl) rfl rfl rfl rfl rfl (OpVal.eqlB rfl rfl rfl Try.underlying4) rfl rfl ?_
            refine TA.takeP 22 rfl (by kernel_rfl) (by kernel_rfl) (by kernel_rfl) rfl (OpVal.pickTB rfl rfl rfl) rfl rfl ?_
            refine TA.takeP 23 rfl (by kernel_rfl) (by kernel_rfl) (by kernel_rfl) rfl (OpVal.moveB (.inl rfl) rfl) rfl rfl ?_
            refine TA.split 87 rfl (fun h116 => ?_) (fun h116 => ?_)
            · replace hh := iteO_t h116 hh
              refine TA.takeOn 24 rfl (by kernel_rfl) (by kernel_rfl) (by kernel_rfl) (by kernel_rfl) rfl rfl rfl rfl rfl (OpVal.moveI (.inl rfl) rfl) rfl rfl ?_
              refine TA.takeOn 25 rfl (by kernel_rfl) (by kernel_rfl) (by kernel_rfl) (by kernel_rfl) rfl rfl rfl rfl rfl (OpVal.moveI (.inl rfl) rfl) rfl rfl ?_
              refine TA.takeOn 26 rfl (by kernel_rfl) (by kernel_rfl) (by kernel_rfl) (by kernel_rfl) rfl rfl rfl rfl rfl (OpVal.eql rfl rfl rfl) rfl rfl ?_
              refine TA.takeP 27 rfl (by kernel_rfl) (by kernel_rfl) (by kernel_rfl) rfl (OpVal.pickTB rfl rfl rfl) rfl rfl ?_
              refine TA.takeP 28 rfl (by kernel_rfl) (by kernel_rfl) (by kernel_rfl) rfl (OpVal.moveB (.inr rfl) rfl) rfl rfl ?_
              refine TA.done (by kernel_rfl) ?_
              refine S.n ?_
              refine TC.ofSub (Sub.pre 0 rfl) ?_
              refine TC.back ?_
              refine TC.ret ?_
              obtain rfl := Option.some.inj hh
              exact RetOk.mk' (rs := [.tmp 6]) [] rfl (.inl rfl) (RVs.tmp rfl RVs.nil) (List.sublist_append_left _ _) ⟨rfl, rfl, rfl⟩
            · replace hh := iteO_f h116 hh
              refine TA.takeOff 24 rfl (by kernel_rfl) (by kernel_rfl) (by kernel_rfl) (by kernel_rfl) rfl rfl rfl rfl rfl rfl rfl rfl ?_
              refine TA.takeOff 25 rfl (by kernel_rfl) (by kernel_rfl) (by kernel_rfl) (by kernel_rfl) rfl rfl rfl rfl rfl rfl rfl rfl ?_
              refine TA.takeOff 26 rfl (by kernel_rfl) (by kernel_rfl) (by kernel_rfl) (by kernel_rfl) rfl rfl rfl rfl rfl rfl rfl rfl ?_
              refine TA.takeP 27 rfl (by kernel_rfl) (by kernel_rfl) (by kernel_rfl) rfl (OpVal.pickFB rfl rfl rfl) rfl rfl ?_
              refine TA.takeP 28 rfl (by kernel_rfl) (by kernel_rfl) (by kernel_rfl) rfl (OpVal.moveB (.inr rfl) rfl) rfl rfl ?_
              refine TA.done (by kernel_rfl) ?_
              refine S.n ?_
              refine TC.ofSub (Sub.pre 0 rfl) ?_
              refine TC.back ?_
              refine TC.ret ?_
              obtain rfl := Option.some.inj hh
              exact RetOk.mk' (rs := [.tmp 6]) [] rfl (.inl rfl) (RVs.tmp rfl RVs.nil) (List.sublist_append_left _ _) ⟨rfl, rfl, rfl⟩
          · replace hh := iteO_f h115 hh
            replace h115 := of_decide_eq_false h115
            refine TA.takeOff 19 rfl (by kernel_rfl) (by kernel_rfl) (by kernel_rfl) (by kernel_rfl) rfl rfl rfl rfl rfl rfl rfl rfl ?_
            refine TA.takeOff 20 rfl (by kernel_rfl) (by kernel_rfl) (by kernel_rfl) (by kernel_rfl) rfl rfl rfl rfl rfl rfl rfl rfl ?_
            refine TA.takeOff 21 rfl (by kernel_rfl) (by kernel_rfl) (by kernel_rfl) (by kernel_rfl) rfl rfl rfl rfl rfl rfl rfl rfl ?_
            refine TA.takeP 22 rfl (by kernel_rfl) (by kernel_rfl) (by kernel_rfl) rfl (OpVal.pickFB rfl rfl rfl) rfl rfl ?_
            refine TA.takeP 23 rfl (by kernel_rfl) (by kernel_rfl) (by kernel_rfl) rfl (OpVal.moveB (.inl rfl) rfl) rfl rfl ?_
            refine TA.takeOff 24 rfl (by kernel_rfl) (by kernel_rfl) (by kernel_rfl) (by kernel_rfl) rfl rfl rfl rfl rfl rfl rfl rfl ?_
            refine TA.takeOff 25 rfl (by kernel_rfl) (by kernel_rfl) (by kernel_rfl) (by kernel_rfl) rfl rfl rfl rfl rfl rfl rfl rfl ?_
            refine TA.takeOff 26 rfl (by kernel_rfl) (by kernel_rfl) (by kernel_rfl) (by kernel_rfl) rfl rfl rfl rfl rfl rfl rfl rfl ?_
            refine TA.takeP 27 rfl (by kernel_rfl) (by kernel_rfl) (by kernel_rfl) rfl (OpVal.pickFB rfl rfl rfl) rfl rfl ?_
            refine TA.takeP 28 rfl (by kernel_rfl) (by kernel_rfl) (by kernel_rfl) rfl (OpVal.moveB (.inr rfl) rfl) rfl rfl ?_
            refine TA.done (by kernel_rfl) ?_
            refine S.n ?_
            refine TC.ofSub (Sub.pre 0 rfl) ?_
            refine TC.back ?_
            refine TC.ret ?_
            obtain rfl := Option.some.inj hh
            exact RetOk.mk' (rs := [.tmp 6]) [] rfl (.inl rfl) (RVs.tmp rfl RVs.nil) (List.sublist_append_left _ _) ⟨rfl, rfl, rfl⟩
        · replace hh := iteO_f h114 hh
          refine TA.takeOff 14 rfl (by kernel_rfl) (by kernel_rfl) (by kernel_rfl) (by kernel_rfl) rfl rfl rfl rfl rfl rfl rfl rfl ?_
          refine TA.takeOff 15 rfl (by kernel_rfl) (by kernel_rfl) (by kernel_rfl) (by kernel_rfl) rfl rfl rfl rfl rfl rfl rfl rfl ?_
          refine TA.takeOff 16 rfl (by kernel_rfl) (by kernel_rfl) (by kernel_rfl) (by kernel_rfl) rfl rfl rfl rfl rfl rfl rfl rfl ?_
          refine TA.takeP 17 rfl (by kernel_rfl) (by kernel_rfl) (by kernel_rfl) rfl (OpVal.pickFB rfl rfl rfl) rfl rfl ?_
          refine TA.takeP 18 rfl (by kernel_rfl) (by kernel_rfl) (by kernel_rfl) rfl (OpVal.moveB (.inl rfl) rfl) rfl rfl ?_
          refine TA.takeOff 19 rfl (by kernel_rfl) (by kernel_rfl) (by kernel_rfl) (by kernel_rfl) rfl rfl rfl rfl rfl rfl rfl rfl ?_
          refine TA.takeOff 20 rfl (by kernel_rfl) (by kernel_rfl) (by kernel_rfl) (by kernel_rfl) rfl rfl rfl rfl rfl rfl rfl rfl ?_
          refine TA.takeOff 21 rfl (by kernel_rfl) (by kernel_rfl) (by kernel_rfl) (by kernel_rfl) rfl rfl rfl rfl rfl rfl rfl rfl ?_
          refine TA.takeP 22 rfl (by kernel_rfl) (by kernel_rfl) (by kernel_rfl) rfl (OpVal.pickFB rfl rfl rfl) rfl rfl ?_
          refine TA.takeP 23 rfl (by kernel_rfl) (by kernel_rfl) (by kernel_rfl) rfl (OpVal.moveB (.inl rfl) rfl) rfl rfl ?_
          refine TA.takeOff 24 rfl (by kernel_rfl) (by kernel_rfl) (by kernel_rfl) (by kernel_rfl) rfl rfl rfl rfl rfl rfl rfl rfl ?_
          refine TA.takeOff 25 rfl (by kernel_rfl) (by kernel_rfl) (by kernel_rfl) (by kernel_rfl) rfl rfl rfl rfl rfl rfl rfl rfl ?_
          refine TA.takeOff 26 rfl (by kernel_rfl) (by kernel_rfl) (by kernel_rfl) (by kernel_rfl) rfl rfl rfl rfl rfl rfl rfl rfl ?_
          refine TA.takeP 27 rfl (by kernel_rfl) (by kernel_rfl) (by kernel_rfl) rfl (OpVal.pickFB rfl rfl rfl) rfl rfl ?_
          refine TA.takeP 28 rfl (by kernel_rfl) (by kernel_rfl) (by kernel_rfl) rfl (OpVal.moveB (.inr rfl) rfl) rfl rfl ?_
          refine TA.done (by kernel_rfl) ?_
          refine S.n ?_
          refine TC.ofSub (Sub.pre 0 rfl) ?_
          refine TC.back ?_
          refine TC.ret ?_
          obtain rfl := Option.some.inj hh
          exact RetOk.mk' (rs := [.tmp 6]) [] rfl (.inl rfl) (RVs.tmp rfl RVs.nil) (List.sublist_append_left _ _) ⟨rfl, rfl, rfl⟩
      · replace hh := iteO_f h113 hh
        replace h113 := of_decide_eq_false h113
        refine TA.takeOff 9 rfl (by kernel_rfl) (by kernel_rfl) (by kernel_rfl) (by kernel_rfl) rfl rfl rfl rfl rfl rfl rfl rfl ?_
        refine TA.takeOff 10 rfl (by kernel_rfl) (by kernel_rfl) (by kernel_rfl) (by kernel_rfl) rfl rfl rfl rfl rfl rfl rfl rfl ?_
        refine TA.takeOff 11 rfl (by kernel_rfl) (by kernel_rfl) (by kernel_rfl) (by kernel_rfl) rfl rfl rfl rfl rfl rfl rfl rfl ?_
        refine TA.takeP 12 rfl (by kernel_rfl) (by kernel_rfl) (by kernel_rfl) rfl (OpVal.pickFB rfl rfl rfl) rfl rfl ?_
        refine TA.takeP 13 rfl (by kernel_rfl) (by kernel_rfl) (by kernel_rfl) rfl (OpVal.moveB (.inl rfl) rfl) rfl rfl ?_
        refine TA.takeOff 14 rfl (by kernel_rfl) (by kernel_rfl) (by kernel_rfl) (by kernel_rfl) rfl rfl rfl rfl rfl rfl rfl rfl ?_
        refine TA.takeOff 15 rfl (by kernel_rfl) (by kernel_rfl) (by kernel_rfl) (by kernel_rfl) rfl rfl rfl rfl rfl rfl rfl rfl ?_
        refine TA.takeOff 16 rfl (by kernel_rfl) (by kernel_rfl) (by kernel_rfl) (by kernel_rfl) rfl rfl rfl rfl rfl rfl rfl rfl ?_
        refine TA.takeP 17 rfl (by kernel_rfl) (by kernel_rfl) (by kernel_rfl) rfl (OpVal.pickFB rfl rfl rfl) rfl rfl ?_
        refine TA.takeP 18 rfl (by kernel_rfl) (by kernel_rfl) (by kernel_rfl) rfl (OpVal.moveB (.inl rfl) rfl) rfl rfl ?_
        refine TA.takeOff 19 rfl (by kernel_rfl) (by kernel_rfl) (by kernel_rfl) (by kernel_rfl) rfl rfl rfl rfl rfl rfl rfl rfl ?_
        refine TA.takeOff 20 rfl (by kernel_rfl) (by kernel_rfl) (by kernel_rfl) (by kernel_rfl) rfl rfl rfl rfl rfl rfl rfl rfl ?_
        refine TA.takeOff 21 rfl (by kernel_rfl) (by kernel_rfl) (by kernel_rfl) (by kernel_rfl) rfl rfl rfl rfl rfl rfl rfl rfl ?_
        refine TA.takeP 22 rfl (by kernel_rfl) (by kernel_rfl) (by kernel_rfl) rfl (OpVal.pickFB rfl rfl rfl) rfl rfl ?_
        refine TA.takeP 23 rfl (by kernel_rfl) (by kernel_rfl) (by kernel_rfl) rfl (OpVal.moveB (.inl rfl) rfl) rfl rfl ?_
        refine TA.takeOff 24 rfl (by kernel_rfl) (by kernel_rfl) (by kernel_rfl) (by kernel_rfl) rfl rfl rfl rfl rfl rfl rfl rfl ?_
        refine TA.takeOff 25 rfl (by kernel_rfl) (by kernel_rfl) (by kernel_rfl) (by kernel_rfl) rfl rfl rfl rfl rfl rfl rfl rfl ?_
        refine TA.takeOff 26 rfl (by kernel_rfl) (by kernel_rfl) (by kernel_rfl) (by kernel_rfl) rfl rfl rfl rfl rfl rfl rfl rfl ?_
        refine TA.takeP 27 rfl (by kernel_rfl) (by kernel_rfl) (by kernel_rfl) rfl (OpVal.pickFB rfl rfl rfl) rfl rfl ?_
        refine TA.takeP 28 rfl (by kernel_rfl) (by kernel_rfl) (by kernel_rfl) rfl (OpVal.moveB (.inr rfl) rfl) rfl rfl ?_
        refine TA.done (by kernel_rfl) ?_
        refine S.n ?_
        refine TC.ofSub (Sub.pre 0 rfl) ?_
        refine TC.back ?_
        refine TC.ret ?_
        obtain rfl := Option.some.inj hh
        exact RetOk.mk' (rs := [.tmp 6]) [] rfl (.inl rfl) (RVs.tmp rfl RVs.nil) (List.sublist_append_left _ _) ⟨rfl, rfl, rfl⟩
    · replace hh := iteO_f h112 hh
      refine TA.takeOff 2 rfl (by kernel_rfl) (by kernel_rfl) (by kernel_rfl) (by kernel_rfl) rfl rfl rfl rfl rfl rfl rfl rfl ?_
      refine TA.takeOff 3 rfl (by kernel_rfl) (by kernel_rfl) (by kernel_rfl) (by kernel_rfl) rfl rfl rfl rfl rfl rfl rfl rfl ?_
      refine TA.takeOff 4 rfl (by kernel_rfl) (by kernel_rfl) (by kernel_rfl) (by kernel_rfl) rfl rfl rfl rfl rfl rfl rfl rfl ?_
      refine TA.takeOff 5 rfl (by kernel_rfl) (by kernel_rfl) (by kernel_rfl) (by kernel_rfl) rfl rfl rfl rfl rfl rfl rfl rfl ?_
      refine TA.takeOff 6 rfl (by kernel_rfl) (by kernel_rfl) (by kernel_rfl) (by kernel_rfl) rfl rfl rfl rfl rfl rfl rfl rfl ?_
      refine TA.takeP 7 rfl (by kernel_rfl) (by kernel_rfl) (by kernel_rfl) rfl (OpVal.pickFB rfl rfl rfl) rfl rfl ?_
      refine TA.takeP 8 rfl (by kernel_rfl) (by kernel_rfl) (by kernel_rfl) rfl (OpVal.moveB (.inl rfl) rfl) rfl rfl ?_
      refine TA.takeOff 9 rfl (by kernel_rfl) (by kernel_rfl) (by kernel_rfl) (by kernel_rfl) rfl rfl rfl rfl rfl rfl rfl rfl ?_
      refine TA.takeOff 10 rfl (by kernel_rfl) (by kernel_rfl) (by kernel_rfl) (by kernel_rfl) rfl rfl rfl rfl rfl rfl rfl rfl ?_
      refine TA.takeOff 11 rfl (by kernel_rfl) (by kernel_rfl) (by kernel_rfl) (by kernel_rfl) rfl rfl rfl rfl rfl rfl rfl rfl ?_
      refine TA.takeP 12 rfl (by kernel_rfl) (by kernel_rfl) (by kernel_rfl) rfl (OpVal.pickFB rfl rfl rfl) rfl rfl ?_
      refine TA.takeP 13 rfl (by kernel_rfl) (by kernel_rfl) (by kernel_rfl) rfl (OpVal.moveB (.inl rfl) rfl) rfl rfl ?_
      refine TA.takeOff 14 rfl (by kernel_rfl) (by kernel_rfl) (by kernel_rfl) (by kernel_rfl) rfl rfl rfl rfl rfl rfl rfl rfl ?_
      refine TA.takeOff 15 rfl (by kernel_rfl) (by kernel_rfl) (by kernel_rfl) (by kernel_rfl) rfl rfl rfl rfl rfl rfl rfl rfl ?_
      refine TA.takeOff 16 rfl (by kernel_rfl) (by kernel_rfl) (by kernel_rfl) (by kernel_rfl) rfl rfl rfl rfl rfl rfl rfl rfl ?_
      refine TA.takeP 17 rfl (by kernel_rfl) (by kernel_rfl) (by kernel_rfl) rfl (OpVal.pickFB rfl rfl rfl) rfl rfl ?_
      refine TA.takeP 18 rfl (by kernel_rfl) (by kernel_rfl) (by kernel_rfl) rfl (OpVal.moveB (.inl rfl) rfl) rfl rfl ?_
      refine TA.takeOff 19 rfl (by kernel_rfl) (by kernel_rfl) (by kernel_rfl) (by kernel_rfl) rfl rfl rfl rfl rfl rfl rfl rfl ?_
      refine TA.takeOff 20 rfl (by kernel_rfl) (by kernel_rfl) (by kernel_rfl) (by kernel_rfl) rfl rfl rfl rfl rfl rfl rfl rfl ?_
      refine TA.takeOff 21 rfl (by kernel_rfl) (by kernel_rfl) (by kernel_rfl) (by kernel_rfl) rfl rfl rfl rfl rfl rfl rfl rfl ?_
      refine TA.takeP 22 rfl (by kernel_rfl) (by kernel_rfl) (by kernel_rfl) rfl (OpVal.pickFB rfl rfl rfl) rfl rfl ?_
      refine TA.takeP 23 rfl (by kernel_rfl) (by kernel_rfl) (by kernel_rfl) rfl (OpVal.moveB (.inl rfl) rfl) rfl rfl ?_
      refine TA.takeOff 24 rfl (by kernel_rfl) (by kernel_rfl) (by kernel_rfl) (by kernel_rfl) rfl rfl rfl rfl rfl rfl rfl rfl ?_
      refine TA.takeOff 25 rfl (by kernel_rfl) (by kernel_rfl) (by kernel_rfl) (by kernel_rfl) rfl rfl rfl rfl rfl rfl rfl rfl ?_
      refine TA.takeOff 26 rfl (by kernel_rfl) (by kernel_rfl) (by kernel_rfl) (by kernel_rfl) rfl rfl rfl rfl rfl rfl rfl rfl ?_
      refine TA.takeP 27 rfl (by kernel_rfl) (by kernel_rfl) (by kernel_rfl) rfl (OpVal.pickFB rfl rfl rfl) rfl rfl ?_
      refine TA.takeP 28 rfl (by kernel_rfl) (by kernel_rfl) (by kernel_rfl) rfl (OpVal.moveB (.inr rfl) rfl) rfl rfl ?_
      refine TA.done (by kernel_rfl) ?_
      refine S.n ?_
      refine TC.ofSub (Sub.pre 0 rfl) ?_
      refine TC.back ?_
      refine TC.ret ?_
      obtain rfl := Option.some.inj hh
      exact RetOk.mk' (rs := [.tmp 6]) [] rfl (.inl rfl) (RVs.tmp rfl RVs.nil) (List.sublist_append_left _ _) ⟨rfl, rfl, rfl⟩

end Go.Proofs.Ytpijipnmfkehcaa
