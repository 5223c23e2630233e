/- Decompiled: what goes in, by what is taken. -/
import Derived.Test.YtpijipnmfkehcaaF4
import Derived.Test.YtpijipnmfkehcaaN1a
set_option linter.unusedVariables false
set_option linter.unusedSimpArgs false
namespace Go.Proofs.Ytpijipnmfkehcaa
open Go Go.E
set_option maxRecDepth 100000
private theorem ag25 : Go.E.aggOf Try.prog 25 = some true := by kernel_rfl
private theorem ag50 : Go.E.aggOf Try.prog 50 = some true := by kernel_rfl
private theorem pf12 : Go.E.plainF Try.prog 12 = true := by kernel_rfl
private theorem pf18 : Go.E.plainF Try.prog 18 = true := by kernel_rfl
private theorem pf19 : Go.E.plainF Try.prog 19 = true := by kernel_rfl
private theorem pf20 : Go.E.plainF Try.prog 20 = true := by kernel_rfl
private theorem pf7 : Go.E.plainF Try.prog 7 = true := by kernel_rfl
private theorem pf8 : Go.E.plainF Try.prog 8 = true := by kernel_rfl
private theorem sz25 : Go.E.szOf Try.prog 25 = some 4 := by kernel_rfl
private theorem sz50 : Go.E.szOf Try.prog 50 = some 4 := by kernel_rfl
private theorem ze50 : Go.E.zeroOf Try.prog 50 = some (.agg #[.int .i64 0, .slice none 0 0, .slice none 0 0, .slice none 0 0]) := by kernel_rfl

noncomputable def whittlelaw15_FstIn (x0 : Fst) (x1 : List UInt8) : Option (Bool) :=
  grd (x1.length ≤ 281474976710656) (bnd (whittleref15_Few x0) (fun v4 => iteO (!v4) (some true) (iteO (decide (5 < ((x1.length : Nat) : Int))) (some true) (bnd (fst_Outs x0 x1) (fun v14 => bnd (fst_In x0) (fun v21 => iteO (decide (v14.2 ≠ 0)) (bnd (whittlelaw15_awake) (fun v34 => iteO v34 (iteO (decide (((v14.1.length : Nat) : Int) = 0)) (iteO (decide (v14.2 = v21.2)) (some true) (some (decide (v14.2 = 2)))) (some false)) (some false))) (iteO (decide (v21.2 ≠ 0)) (bnd (whittlelaw15_awake) (fun v34 => iteO v34 (iteO (decide (((v14.1.length : Nat) : Int) = 0)) (iteO (decide (v14.2 = v21.2)) (some true) (some (decide (v14.2 = 2)))) (some false)) (some false))) (bnd (nfa_Takes v21.1 x1) (fun v52 => bnd (whittlelaw15_awake) (fun v58 => iteO v58 (iteO (decide ((errB (checkB v21.1)) = 0)) (iteO (decide (v52.2 = 0)) (some (v52.1 == (decide (0 < ((v14.1.length : Nat) : Int))))) (some false)) (some false)) (some false)))))))))))
theorem whittlelaw15_FstIn_con {σ : Store} {x0 : Fst} {a0_0 : Option Addr} {c0_0 : Nat} {a0_1 : Option Addr} {c0_1 : Nat} {a0_2 : Option Addr} {c0_2 : Nat} {x1 : List UInt8} (f0_0 : RS σ 2 encTip (.slice a0_0 x0.starts.length c0_0) x0.starts) (f0_1 : RS σ 2 encTip (.slice a0_1 x0.ends.length c0_1) x0.ends) (f0_2 : RS σ 8 encArc (.slice a0_2 x0.arcs.length c0_2) x0.arcs) {r : Bool} (hh : whittlelaw15_FstIn x0 x1 = some r) :
    Con Try.prog 6 #[.agg #[.int .i64 x0.states, .slice a0_0 x0.starts.length c0_0, .slice a0_1 x0.ends.length c0_1, .slice a0_2 x0.arcs.length c0_2], .string (bs x1)] σ [] (PureP (.bool r) σ) := by
  dsimp only [whittlelaw15_FstIn] at hh
  have f0_0b := f0_0.rv.big
  have f0_1b := f0_1.rv.big
  have f0_2b := f0_2.rv.big
  refine Con.mk (n := 74) Try.func6 rfl rfl rfl (fun w0 => ?_)
  have x1b := grd_c hh
  replace hh := grd_t hh
  refine TC.seq ?_
  refine TC.region ?_
  refine TL.op rfl (OpOk.boxA rfl rfl rfl rfl (fun b101 => ?_))
  refine TL.v rfl (OpVal.moveB (.inr rfl) rfl) rfl rfl ?_
  refine TL.nil ?_
  refine S.n ?_
  refine TC.seq ?_
  refine TC.seq ?_
  refine TC.region ?_
  refine TL.v rfl (OpVal.loadAll rfl ag25 sz25 rfl (i := 0) rfl rfl) rfl rfl ?_
  obtain ⟨v4, u4, hh⟩ := bnd_e hh
  refine TL.op rfl (OpOk.callP (whittleref15_Few_con (x0 := x0) f0_0 f0_1 f0_2 u4) rfl rfl pf7 rfl rfl rfl ?_)
  refine TL.v rfl (OpVal.not rfl rfl) rfl rfl ?_
  refine TL.v rfl (OpVal.moveB (.inl rfl) rfl) rfl rfl ?_
  refine TL.split 14 rfl (fun h103 => ?_) (fun h103 => ?_)
  · replace hh := iteO_t h103 hh
    refine TL.goff rfl rfl rfl rfl rfl rfl rfl rfl ?_
    refine TL.goff rfl rfl rfl rfl rfl rfl rfl rfl ?_
    refine TL.goff rfl rfl rfl rfl rfl rfl rfl rfl ?_
    refine TL.v rfl (OpVal.pickTB rfl rfl rfl) rfl rfl ?_
    refine TL.nil ?_
    refine S.n ?_
    refine TC.cond rfl (fun _ => ?_) (fun h => Bool.noConfusion h)
    refine TC.seq ?_
    refine TC.region ?_
    refine TL.v rfl (OpVal.moveB (.inr rfl) rfl) rfl rfl ?_
    refine TL.nil ?_
    refine S.n ?_
    refine TC.ofSub (Sub.pre 0 rfl) ?_
    refine TC.ret ?_
    refine S.r ?_
    obtain rfl := Option.some.inj hh
    exact RetOk.mk' (rs := [.tmp 4]) [] rfl (.inl rfl) (RVs.tmp rfl RVs.nil) (List.sublist_append_left _ _) ⟨rfl, rfl, rfl⟩
  · replace hh := iteO_f h103 hh
    refine TL.gv rfl rfl rfl rfl rfl (OpVal.moveStr (.inl rfl) rfl) rfl rfl ?_
    refine TL.gv rfl rfl rfl rfl rfl (OpVal.lenBs rfl Try.underlying9 rfl) rfl rfl ?_
    refine TL.gv rfl rfl rfl rfl rfl (OpVal.gtr rfl rfl rfl) rfl rfl ?_
    refine TL.v rfl (OpVal.pickFB rfl rfl rfl) rfl rfl ?_
    refine TL.nil ?_
    refine S.n ?_
    refine TC.cond rfl (fun h104 => ?_) (fun h104 => ?_)
    · replace hh := iteO_t h104 hh
      replace h104 := of_decide_eq_true h104
      refine TC.seq ?_
      refine TC.region ?_
      refine TL.v rfl (OpVal.moveB (.inr rfl) rfl) rfl rfl ?_
      refine TL.nil ?_
      refine S.n ?_
      refine TC.ofSub (Sub.pre 0 rfl) ?_
      refine TC.ret ?_
      refine S.r ?_
      obtain rfl := Option.some.inj hh
      exact RetOk.mk' (rs := [.tmp 4]) [] rfl (.inl rfl) (RVs.tmp rfl RVs.nil) (List.sublist_append_left _ _) ⟨rfl, rfl, rfl⟩
    · replace hh := iteO_f h104 hh
      replace h104 := of_decide_eq_false h104
      refine TC.skip ?_
      refine S.n ?_
      refine TC.seq ?_
      refine TC.region ?_
      refine TL.v rfl (OpVal.loadAll rfl ag25 sz25 rfl (i := 0) rfl rfl) rfl rfl ?_
      refine TL.v rfl (OpVal.moveStr (.inl rfl) rfl) rfl rfl ?_
      obtain ⟨v14, u14, hh⟩ := bnd_e hh
      refine TL.op rfl (OpOk.call (fst_Outs_con (x0 := x0) f0_0 f0_1 f0_2 u14) rfl rfl pf8 rfl rfl rfl rfl ?_)
      rintro _ τ105 _ hle105 ⟨a105_1, c105_1, rfl, hr105_0, rfl⟩
      replace f0_0 := f0_0.mono hle105
      replace f0_1 := f0_1.mono hle105
      replace f0_2 := f0_2.mono hle105
      have hr105_0b := hr105_0.rv.big
      refine TL.v rfl (OpVal.moveT (.inl rfl) rfl) rfl rfl ?_
      refine TL.v rfl (OpVal.extract rfl rfl rfl) rfl rfl ?_
      refine TL.v rfl (OpVal.extract rfl rfl rfl) rfl rfl ?_
      refine TL.v rfl (OpVal.moveSl (.inr rfl) rfl) rfl rfl ?_
      refine TL.v rfl (OpVal.moveI (.inr rfl) rfl) rfl rfl ?_
      refine TL.nil ?_
      refine S.n ?_
      refine TC.seq ?_
      refine TC.region ?_
      refine TL.v rfl (OpVal.loadAll rfl ag25 sz25 rfl (i := 0) rfl rfl) rfl rfl ?_
      obtain ⟨v21, u21, hh⟩ := bnd_e hh
      refine TL.op rfl (OpOk.call (fst_In_con (x0 := x0) f0_0 f0_1 f0_2 u21) rfl rfl pf18 rfl rfl rfl rfl ?_)
      rintro _ τ106 _ hle106 ⟨a106_1, c106_1, a106_2, c106_2, a106_3, c106_3, rfl, hr106_0, hr106_1, hr106_2, rfl⟩
      replace f0_0 := f0_0.mono hle106
      replace f0_1 := f0_1.mono hle106
      replace f0_2 := f0_2.mono hle106
      replace hr105_0 := hr105_0.mono hle106
      have hr106_0b := hr106_0.rv.big
      have hr106_1b := hr106_1.rv.big
      have hr106_2b := hr106_2.rv.big
      refine TL.v rfl (OpVal.moveT (.inl rfl) rfl) rfl rfl ?_
      refine TL.v rfl (OpVal.extract rfl rfl rfl) rfl rfl ?_
      refine TL.v rfl (OpVal.extract rfl rfl rfl) rfl rfl ?_
      refine TL.op rfl (OpOk.alloc rfl ze50 rfl rfl (fun b107 => ?_))
      refine TL.op rfl (OpOk.storeAll rfl sz50 rfl rfl rfl rfl rfl rfl ?_)
      refine TL.v rfl (OpVal.moveI (.inr rfl) rfl) rfl rfl ?_
      refine TL.nil ?_
      refine S.n ?_
      refine TC.seq ?_
      refine TC.seq ?_
      refine TC.region ?_
      refine TL.v rfl (OpVal.moveI (.inl rfl) rfl) rfl rfl ?_
      refine TL.v rfl (OpVal.neq rfl rfl rfl) rfl rfl ?_
      refine TL.v rfl (OpVal.moveB (.inl rfl) rfl) rfl rfl ?_
      refine TL.split 32 rfl (fun h109 => ?_) (fun h109 => ?_)
      · replace hh := iteO_t h109 hh
        replace h109 := of_decide_eq_true h109
        refine TL.goff rfl rfl rfl rfl rfl rfl rfl rfl ?_
        refine TL.goff rfl rfl rfl rfl rfl rfl rfl rfl ?_
        refine TL.v rfl (OpVal.pickTB rfl rfl rfl) rfl rfl ?_
        refine TL.nil ?_
        refine S.n ?_
        refine TC.cond rfl (fun _ => ?_) (fun h => Bool.noConfusion h)
        refine TC.seq ?_
        refine TC.region ?_
        obtain ⟨v34, u34, hh⟩ := bnd_e hh
        refine TL.op rfl (OpOk.callP (whittlelaw15_awake_con u34) rfl rfl pf12 rfl rfl rfl ?_)
        refine TL.v rfl (OpVal.moveB (.inl rfl) rfl) rfl rfl ?_
        refine TL.split 37 rfl (fun h110 => ?_) (fun h110 => ?_)
        · replace hh := iteO_t h110 hh
          refine TL.gv rfl rfl rfl rfl rfl (OpVal.moveSl (.inl rfl) rfl) rfl rfl ?_
          refine TL.gv rfl rfl rfl rfl rfl (OpVal.lenC rfl Try.underlying27 rfl) rfl rfl ?_
          refine TL.gv rfl rfl rfl rfl rfl (OpVal.eql rfl rfl rfl) rfl rfl ?_
          refine TL.v rfl (OpVal.pickTB rfl rfl rfl) rfl rfl ?_
          refine TL.v rfl (OpVal.moveB (.inl rfl) rfl) rfl rfl ?_
          refine TL.split 42 rfl (fun h111 => ?_) (fun h111 => ?_)
          · replace hh := iteO_t h111 hh
            replace h111 := of_decide_eq_true h111
            refine TL.gv rfl rfl rfl rfl rfl (OpVal.moveI (.inl rfl) rfl) rfl rfl ?_
            refine TL.gv rfl rfl rfl rfl rfl (OpVal.moveI (.inl rfl) rfl) rfl rfl ?_
            refine TL.gv rfl rfl rfl rfl rfl (OpVal.eql rfl rfl rfl) rfl rfl ?_
            refine TL.gv rfl rfl rfl rfl rfl (OpVal.moveB (.inl rfl) rfl) rfl rfl ?_
            refine TL.split 46 rfl (fun h112 => ?_) (fun h112 => ?_)
            · replace hh := iteO_t h112 hh
              replace h112 := of_decide_eq_true h112
              refine TL.goff rfl rfl rfl rfl rfl rfl rfl rfl ?_
              refine TL.goff rfl rfl rfl rfl rfl rfl rfl rfl ?_
              refine TL.gv rfl rfl rfl rfl rfl (OpVal.pickTB rfl rfl rfl) rfl rfl ?_
              refine TL.v rfl (OpVal.pickTB rfl rfl rfl) rfl rfl ?_
              refine TL.v rfl (OpVal.moveB (.inr rfl) rfl) rfl rfl ?_
              refine TL.nil ?_
              refine S.n ?_
              refine TC.ofSub (Sub.pre 0 rfl) ?_
              refine TC.back ?_
              refine TC.ret ?_
              refine S.r ?_
              obtain rfl := Option.some.inj hh
              exact RetOk.mk' (rs := [.tmp 4]) [] rfl (.inl rfl) (RVs.tmp rfl RVs.nil) (List.sublist_append_left _ _) ⟨rfl, rfl, rfl⟩
            · replace hh := iteO_f h112 hh
              replace h112 := of_decide_eq_false h112
              refine TL.gv rfl rfl rfl rfl rfl (OpVal.moveI (.inl rfl) rfl) rfl rfl ?_
              refine TL.gv rfl rfl rfl rfl rfl (OpVal.eql rfl rfl rfl) rfl rfl ?_
              refine TL.gv rfl rfl rfl rfl rfl (OpVal.pickFB rfl rfl rfl) rfl rfl ?_
              refine TL.v rfl (OpVal.pickTB rfl rfl rfl) rfl rfl ?_
              refine TL.v rfl (OpVal.moveB (.inr rfl) rfl) rfl rfl ?_
              refine TL.nil ?_
              refine S.n ?_
              refine TC.ofSub (Sub.pre 0 rfl) ?_
              refine TC.back ?_
              refine TC.ret ?_
              refine S.r ?_
              obtain rfl := Option.some.inj hh
              exact RetOk.mk' (rs := [.tmp 4]) [] rfl (.inl rfl) (RVs.tmp rfl RVs.nil) (List.sublist_append_left _ _) ⟨rfl, rfl, rfl⟩
          · replace hh := iteO_f h111 hh
            replace h111 := of_decide_eq_false h111
            refine TL.goff rfl rfl rfl rfl rfl rfl rfl rfl ?_
            refine TL.goff rfl rfl rfl rfl rfl rfl rfl rfl ?_
            refine TL.goff rfl rfl rfl rfl rfl rfl rfl rfl ?_
            refine TL.goff rfl rfl rfl rfl rfl rfl rfl rfl ?_
            refine TL.goff' rfl rfl rfl rfl rfl rfl rfl ?_
            refine TL.goff' rfl rfl rfl rfl rfl rfl rfl ?_
            refine TL.goff rfl rfl rfl rfl rfl rfl rfl rfl ?_
            refine TL.v rfl (OpVal.pickFB rfl rfl rfl) rfl rfl ?_
            refine TL.v rfl (OpVal.moveB (.inr rfl) rfl) rfl rfl ?_
            refine TL.nil ?_
            refine S.n ?_
            refine TC.ofSub (Sub.pre 0 rfl) ?_
            refine TC.back ?_
            refine TC.ret ?_
            refine S.r ?_
            obtain rfl := Option.some.inj hh
            exact RetOk.mk' (rs := [.tmp 4]) [] rfl (.inl rfl) (RVs.tmp rfl RVs.nil) (List.sublist_append_left _ _) ⟨rfl, rfl, rfl⟩
        · replace hh := iteO_f h110 hh
          refine TL.goff rfl rfl rfl rfl rfl rfl rfl rfl ?_
          refine TL.goff rfl rfl rfl rfl rfl rfl rfl rfl ?_
          refine TL.goff rfl rfl rfl rfl rfl rfl rfl rfl ?_
          refine TL.v rfl (OpVal.pickFB rfl rfl rfl) rfl rfl ?_
          refine TL.v rfl (OpVal.moveB (.inl rfl) rfl) rfl rfl ?_
          refine TL.goff rfl rfl rfl rfl rfl rfl rfl rfl ?_
          refine TL.goff rfl rfl rfl rfl rfl rfl rfl rfl ?_
          refine TL.goff rfl rfl rfl rfl rfl rfl rfl rfl ?_
          refine TL.goff rfl rfl rfl rfl rfl rfl rfl rfl ?_
          refine TL.goff' rfl rfl rfl rfl rfl rfl rfl ?_
          refine TL.goff' rfl rfl rfl rfl rfl rfl rfl ?_
          refine TL.goff rfl rfl rfl rfl rfl rfl rfl rfl ?_
          refine TL.v rfl (OpVal.pickFB rfl rfl rfl) rfl rfl ?_
          refine TL.v rfl (OpVal.moveB (.inr rfl) rfl) rfl rfl ?_
          refine TL.nil ?_
          refine S.n ?_
          refine TC.ofSub (Sub.pre 0 rfl) ?_
          refine TC.back ?_
          refine TC.ret ?_
          refine S.r ?_
          obtain rfl := Option.some.inj hh
          exact RetOk.mk' (rs := [.tmp 4]) [] rfl (.inl rfl) (RVs.tmp rfl RVs.nil) (List.sublist_append_left _ _) ⟨rfl, rfl, rfl⟩
      · replace hh := iteO_f h109 hh
        replace h109 := of_decide_eq_false h109
        refine TL.gv rfl rfl rfl rfl rfl (OpVal.moveI (.inl rfl) rfl) rfl rfl ?_
        refine TL.gv rfl rfl rfl rfl rfl (OpVal.neq rfl rfl rfl) rfl rfl ?_
        refine TL.v rfl (OpVal.pickFB rfl rfl rfl) rfl rfl ?_
        refine TL.nil ?_
        refine S.n ?_
        refine TC.cond rfl (fun h113 => ?_) (fun h113 => ?_)
        · replace hh := iteO_t h113 hh
          replace h113 := of_decide_eq_true h113
          refine TC.seq ?_
          refine TC.region ?_
          obtain ⟨v34, u34, hh⟩ := bnd_e hh
          refine TL.op rfl (OpOk.callP (whittlelaw15_awake_con u34) rfl rfl pf12 rfl rfl rfl ?_)
          refine TL.v rfl (OpVal.moveB (.inl rfl) rfl) rfl rfl ?_
          refine TL.split 37 rfl (fun h114 => ?_) (fun h114 => ?_)
          · replace hh := iteO_t h114 hh
            refine TL.gv rfl rfl rfl rfl rfl (OpVal.moveSl (.inl rfl) rfl) rfl rfl ?_
            refine TL.gv rfl rfl rfl rfl rfl (OpVal.lenC rfl Try.underlying27 rfl) rfl rfl ?_
            refine TL.gv rfl rfl rfl rfl rfl (OpVal.eql rfl rfl rfl) rfl rfl ?_
            refine TL.v rfl (OpVal.pickTB rfl rfl rfl) rfl rfl ?_
            refine TL.v rfl (OpVal.moveB (.inl rfl) rfl) rfl rfl ?_
            refine TL.split 42 rfl (fun h115 => ?_) (fun h115 => ?_)
            · replace hh := iteO_t h115 hh
              replace h115 := of_decide_eq_true h115
              refine TL.gv rfl rfl rfl rfl rfl (OpVal.moveI (.inl rfl) rfl) rfl rfl ?_
              refine TL.gv rfl rfl rfl rfl rfl (OpVal.moveI (.inl rfl) rfl) rfl rfl ?_
              refine TL.gv rfl rfl rfl rfl rfl (OpVal.eql rfl rfl rfl) rfl rfl ?_
              refine TL.gv rfl rfl rfl rfl rfl (OpVal.moveB (.inl rfl) rfl) rfl rfl ?_
              refine TL.split 46 rfl (fun h116 => ?_) (fun h116 => ?_)
              · replace hh := iteO_t h116 hh
                replace h116 := of_decide_eq_true h116
                refine TL.goff rfl rfl rfl rfl rfl rfl rfl rfl ?_
                refine TL.goff rfl rfl rfl rfl rfl rfl rfl rfl ?_
                refine TL.gv rfl rfl rfl rfl rfl (OpVal.pickTB rfl rfl rfl) rfl rfl ?_
                refine TL.v rfl (OpVal.pickTB rfl rfl rfl) rfl rfl ?_
                refine TL.v rfl (OpVal.moveB (.inr rfl) rfl) rfl rfl ?_
                refine TL.nil ?_
                refine S.n ?_
                refine TC.ofSub (Sub.pre 0 rfl) ?_
                refine TC.back ?_
                refine TC.ret ?_
                refine S.r ?_
                obtain rfl := Option.some.inj hh
                exact RetOk.mk' (rs := [.tmp 4]) [] rfl (.inl rfl) (RVs.tmp rfl RVs.nil) (List.sublist_append_left _ _) ⟨rfl, rfl, rfl⟩
              · replace hh := iteO_f h116 hh
                replace h116 := of_decide_eq_false h116
                refine TL.gv rfl rfl rfl rfl rfl (OpVal.moveI (.inl rfl) rfl) rfl rfl ?_
                refine TL.gv rfl rfl rfl rfl rfl (OpVal.eql rfl rfl rfl) rfl rfl ?_
                refine TL.gv rfl rfl rfl rfl rfl (OpVal.pickFB rfl rfl rfl) rfl rfl ?_
                refine TL.v rfl (OpVal.pickTB rfl rfl rfl) rfl rfl ?_
                refine TL.v rfl (OpVal.moveB (.inr rfl) rfl) rfl rfl ?_
                refine TL.nil ?_
                refine S.n ?_
                refine TC.ofSub (Sub.pre 0 rfl) ?_
                refine TC.back ?_
                refine TC.ret ?_
                refine S.r ?_
                obtain rfl := Option.some.inj hh
                exact RetOk.mk' (rs := [.tmp 4]) [] rfl (.inl rfl) (RVs.tmp rfl RVs.nil) (List.sublist_append_left _ _) ⟨rfl, rfl, rfl⟩
            · replace hh := iteO_f h115 hh
              replace h115 := of_decide_eq_false h115
              refine TL.goff rfl rfl rfl rfl rfl rfl rfl rfl ?_
              refine TL.goff rfl rfl rfl rfl rfl rfl rfl rfl ?_
              refine TL.goff rfl rfl rfl rfl rfl rfl rfl rfl ?_
              refine TL.goff rfl rfl rfl rfl rfl rfl rfl rfl ?_
              refine TL.goff' rfl rfl rfl rfl rfl rfl rfl ?_
              refine TL.goff' rfl rfl rfl rfl rfl rfl rfl ?_
              refine TL.goff rfl rfl rfl rfl rfl rfl rfl rfl ?_
              refine TL.v rfl (OpVal.pickFB rfl rfl rfl) rfl rfl ?_
              refine TL.v rfl (OpVal.moveB (.inr rfl) rfl) rfl rfl ?_
              refine TL.nil ?_
              refine S.n ?_
              refine TC.ofSub (Sub.pre 0 rfl) ?_
              refine TC.back ?_
              refine TC.ret ?_
              refine S.r ?_
              obtain rfl := Option.some.inj hh
              exact RetOk.mk' (rs := [.tmp 4]) [] rfl (.inl rfl) (RVs.tmp rfl RVs.nil) (List.sublist_append_left _ _) ⟨rfl, rfl, rfl⟩
          · replace hh := iteO_f h114 hh
            refine TL.goff rfl rfl rfl rfl rfl rfl rfl rfl ?_
            refine TL.goff rfl rfl rfl rfl rfl rfl rfl rfl ?_
            refine TL.goff rfl rfl rfl rfl rfl rfl rfl rfl ?_
            refine TL.v rfl (OpVal.pickFB rfl rfl rfl) rfl rfl ?_
            refine TL.v rfl (OpVal.moveB (.inl rfl) rfl) rfl rfl ?_
            refine TL.goff rfl rfl rfl rfl rfl rfl rfl rfl ?_
            refine TL.goff rfl rfl rfl rfl rfl rfl rfl rfl ?_
            refine TL.goff rfl rfl rfl rfl rfl rfl rfl rfl ?_
            refine TL.goff rfl rfl rfl rfl rfl rfl rfl rfl ?_
            refine TL.goff' rfl rfl rfl rfl rfl rfl rfl ?_
            refine TL.goff' rfl rfl rfl rfl rfl rfl rfl ?_
            refine TL.goff rfl rfl rfl rfl rfl rfl rfl rfl ?_
            refine TL.v rfl (OpVal.pickFB rfl rfl rfl) rfl rfl ?_
            refine TL.v rfl (OpVal.moveB (.inr rfl) rfl) rfl rfl ?_
            refine TL.nil ?_
            refine S.n ?_
            refine TC.ofSub (Sub.pre 0 rfl) ?_
            refine TC.back ?_
            refine TC.ret ?_
            refine S.r ?_
            obtain rfl := Option.some.inj hh
            exact RetOk.mk' (rs := [.tmp 4]) [] rfl (.inl rfl) (RVs.tmp rfl RVs.nil) (List.sublist_append_left _ _) ⟨rfl, rfl, rfl⟩
        · replace hh := iteO_f h113 hh
          replace h113 := of_decide_eq_false h113
          refine TC.skip ?_
          refine S.n ?_
          refine TC.seq ?_
          refine TC.region ?_
          refine TL.v rfl (OpVal.loadAll rfl ag50 sz50 rfl (i := 0) rfl rfl) rfl rfl ?_
          refine TL.v rfl (OpVal.moveStr (.inl rfl) rfl) rfl rfl ?_
          obtain ⟨v52, u52, hh⟩ := bnd_e hh
          refine TL.op rfl (OpOk.callP (nfa_Takes_con (x0 := v21.1) hr106_0 hr106_1 hr106_2 u52) rfl rfl pf19 rfl rfl rfl ?_)
          refine TL.v rfl (OpVal.moveT (.inl rfl) rfl) rfl rfl ?_
          refine TL.v rfl (OpVal.extract rfl rfl rfl) rfl rfl ?_
          refine TL.v rfl (OpVal.extract rfl rfl rfl) rfl rfl ?_
          refine TL.v rfl (OpVal.moveB (.inr rfl) rfl) rfl rfl ?_
          refine TL.v rfl (OpVal.moveI (.inr rfl) rfl) rfl rfl ?_
          refine TL.nil ?_
          refine S.n ?_
          refine TC.seq ?_
          refine TC.region ?_
          obtain ⟨v58, u58, hh⟩ := bnd_e hh
          refine TL.op rfl (OpOk.callP (whittlelaw15_awake_con u58) rfl rfl pf12 rfl rfl rfl ?_)
          refine TL.v rfl (OpVal.moveB (.inl rfl) rfl) rfl rfl ?_
          refine TL.split 58 rfl (fun h117 => ?_) (fun h117 => ?_)
          · replace hh := iteO_t h117 hh
            refine TL.gv rfl rfl rfl rfl rfl (OpVal.loadAll rfl ag50 sz50 rfl (i := 0) rfl rfl) rfl rfl ?_
            refine TL.gon rfl rfl rfl rfl rfl (OpOk.callP (check_con _ v21.1 ⟨a106_1, c106_1, a106_2, c106_2, a106_3, c106_3⟩ ⟨hr106_0, hr106_1, hr106_2, fun x _ => x.set.isOk⟩) rfl rfl pf20 rfl rfl rfl ?_)
            refine TL.gv rfl rfl rfl rfl rfl (OpVal.eql rfl rfl rfl) rfl rfl ?_
            refine TL.v rfl (OpVal.pickTB rfl rfl rfl) rfl rfl ?_
            refine TL.v rfl (OpVal.moveB (.inl rfl) rfl) rfl rfl ?_
            refine TL.split 63 rfl (fun h118 => ?_) (fun h118 => ?_)
            · replace hh := iteO_t h118 hh
              replace h118 := of_decide_eq_true h118
              refine TL.gv rfl rfl rfl rfl rfl (OpVal.moveI (.inl rfl) rfl) rfl rfl ?_
              refine TL.gv rfl rfl rfl rfl rfl (OpVal.eql rfl rfl rfl) rfl rfl ?_
              refine TL.v rfl (OpVal.pickTB rfl rfl rfl) rfl rfl ?_
              refine TL.v rfl (OpVal.moveB (.inl rfl) rfl) rfl rfl ?_
              refine TL.split 67 rfl (fun h119 => ?_) (fun h119 => ?_)
              · replace hh := iteO_t h119 hh
                replace h119 := of_decide_eq_true h119
                refine TL.gv rfl rfl rfl rfl rfl (OpVal.moveB (.inl rfl) rfl) rfl rfl ?_
                refine TL.gv rfl rfl rfl rfl rfl (OpVal.moveSl (.inl rfl) rfl) rfl rfl ?_
                refine TL.gv rfl rfl rfl rfl rfl (OpVal.lenC rfl Try.underlying27 rfl) rfl rfl ?_
                refine TL.gv rfl rfl rfl rfl rfl (OpVal.gtr rfl rfl rfl) rfl rfl ?_
                refine TL.gv rfl rfl rfl rfl rfl (OpVal.eqlB rfl rfl rfl Try.underlying4) rfl rfl ?_
                refine TL.v rfl (OpVal.pickTB rfl rfl rfl) rfl rfl ?_
                refine TL.v rfl (OpVal.moveB (.inr rfl) rfl) rfl rfl ?_
                refine TL.nil ?_
                refine S.n ?_
                refine TC.ofSub (Sub.pre 0 rfl) ?_
                refine TC.back ?_
                refine TC.ret ?_
                obtain rfl := Option.some.inj hh
                exact RetOk.mk' (rs := [.tmp 4]) [] rfl (.inl rfl) (RVs.tmp rfl RVs.nil) (List.sublist_append_left _ _) ⟨rfl, rfl, rfl⟩
              · replace hh := iteO_f h119 hh
                replace h119 := of_decide_eq_false h119
                refine TL.goff rfl rfl rfl rfl rfl rfl rfl rfl ?_
                refine TL.goff rfl rfl rfl rfl rfl rfl rfl rfl ?_
                refine TL.goff rfl rfl rfl rfl rfl rfl rfl rfl ?_
                refine TL.goff rfl rfl rfl rfl rfl rfl rfl rfl ?_
                refine TL.goff rfl rfl rfl rfl rfl rfl rfl rfl ?_
                refine TL.v rfl (OpVal.pickFB rfl rfl rfl) rfl rfl ?_
                refine TL.v rfl (OpVal.moveB (.inr rfl) rfl) rfl rfl ?_
                refine TL.nil ?_
                refine S.n ?_
                refine TC.ofSub (Sub.pre 0 rfl) ?_
                refine TC.back ?_
                refine TC.ret ?_
                obtain rfl := Option.some.inj hh
                exact RetOk.mk' (rs := [.tmp 4]) [] rfl (.inl rfl) (RVs.tmp rfl RVs.nil) (List.sublist_append_left _ _) ⟨rfl, rfl, rfl⟩
            · replace hh := iteO_f h118 hh
              replace h118 := of_decide_eq_false h118
              refine TL.goff rfl rfl rfl rfl rfl rfl rfl rfl ?_
              refine TL.goff rfl rfl rfl rfl rfl rfl rfl rfl ?_
              refine TL.v rfl (OpVal.pickFB rfl rfl rfl) rfl rfl ?_
              refine TL.v rfl (OpVal.moveB (.inl rfl) rfl) rfl rfl ?_
              refine TL.goff rfl rfl rfl rfl rfl rfl rfl rfl ?_
              refine TL.goff rfl rfl rfl rfl rfl rfl rfl rfl ?_
              refine TL.goff rfl rfl rfl rfl rfl rfl rfl rfl ?_
              refine TL.goff rfl rfl rfl rfl rfl rfl rfl rfl ?_
              refine TL.goff rfl rfl rfl rfl rfl rfl rfl rfl ?_
              refine TL.v rfl (OpVal.pickFB rfl rfl rfl) rfl rfl ?_
              refine TL.v rfl (OpVal.moveB (.inr rfl) rfl) rfl rfl ?_
              refine TL.nil ?_
              refine S.n ?_
              refine TC.ofSub (Sub.pre 0 rfl) ?_
              refine TC.back ?_
              refine TC.ret ?_
              obtain rfl := Option.some.inj hh
              exact RetOk.mk' (rs := [.tmp 4]) [] rfl (.inl rfl) (RVs.tmp rfl RVs.nil) (List.sublist_append_left _ _) ⟨rfl, rfl, rfl⟩
          · replace hh := iteO_f h117 hh
            refine TL.goff rfl rfl rfl rfl rfl rfl rfl rfl ?_
            refine TL.goff rfl rfl rfl rfl rfl rfl rfl rfl ?_
            refine TL.goff rfl rfl rfl rfl rfl rfl rfl rfl ?_
            refine TL.v rfl (OpVal.pickFB rfl rfl rfl) rfl rfl ?_
            refine TL.v rfl (OpVal.moveB (.inl rfl) rfl) rfl rfl ?_
            refine TL.goff rfl rfl rfl rfl rfl rfl rfl rfl ?_
            refine TL.goff rfl rfl rfl rfl rfl rfl rfl rfl ?_
            refine TL.v rfl (OpVal.pickFB rfl rfl rfl) rfl rfl ?_
            refine TL.v rfl (OpVal.moveB (.inl rfl) rfl) rfl rfl ?_
            refine TL.goff rfl rfl rfl rfl rfl rfl rfl rfl ?_
            refine TL.goff rfl rfl rfl rfl rfl rfl rfl rfl ?_
            refine TL.goff rfl rfl rfl rfl rfl rfl rfl rfl ?_
            refine TL.goff rfl rfl rfl rfl rfl rfl rfl rfl ?_
            refine TL.goff rfl rfl rfl rfl rfl rfl rfl rfl ?_
            refine TL.v rfl (OpVal.pickFB rfl rfl rfl) rfl rfl ?_
            refine TL.v rfl (OpVal.moveB (.inr rfl) rfl) rfl rfl ?_
            refine TL.nil ?_
            refine S.n ?_
            refine TC.ofSub (Sub.pre 0 rfl) ?_
            refine TC.back ?_
            refine TC.ret ?_
            obtain rfl := Option.some.inj hh
            exact RetOk.mk' (rs := [.tmp 4]) [] rfl (.inl rfl) (RVs.tmp rfl RVs.nil) (List.sublist_append_left _ _) ⟨rfl, rfl, rfl⟩

end Go.Proofs.Ytpijipnmfkehcaa
