/- Decompiled: the laws on rows of numbers and their tables. -/
import Derived.Test.YtcidppnlhhkhhaaI1
set_option linter.unusedVariables false
set_option linter.unusedSimpArgs false
namespace Go.Proofs.Ytcidppnlhhkhhaa
open Go Go.E
set_option maxRecDepth 100000
private theorem ag56 : Go.E.aggOf Try.prog 56 = some false := by kernel_rfl
private theorem fo60_0 : Go.E.foOf Try.prog 60 0 = some 0 := by kernel_rfl
private theorem pf36 : Go.E.plainF Try.prog 36 = true := by kernel_rfl
private theorem pf37 : Go.E.plainF Try.prog 37 = true := by kernel_rfl
private theorem pf38 : Go.E.plainF Try.prog 38 = true := by kernel_rfl
private theorem pf39 : Go.E.plainF Try.prog 39 = true := by kernel_rfl
private theorem pf40 : Go.E.plainF Try.prog 40 = true := by kernel_rfl
private theorem pf41 : Go.E.plainF Try.prog 41 = true := by kernel_rfl
private theorem pf42 : Go.E.plainF Try.prog 42 = true := by kernel_rfl
private theorem pf43 : Go.E.plainF Try.prog 43 = true := by kernel_rfl
private theorem pf44 : Go.E.plainF Try.prog 44 = true := by kernel_rfl
private theorem pf45 : Go.E.plainF Try.prog 45 = true := by kernel_rfl
private theorem pf47 : Go.E.plainF Try.prog 47 = true := by kernel_rfl
private theorem pf48 : Go.E.plainF Try.prog 48 = true := by kernel_rfl
private theorem pf49 : Go.E.plainF Try.prog 49 = true := by kernel_rfl
private theorem pf50 : Go.E.plainF Try.prog 50 = true := by kernel_rfl
private theorem pf51 : Go.E.plainF Try.prog 51 = true := by kernel_rfl
private theorem pl60 : Go.E.plOf Try.prog 60 = some #[(0, 1)] := by kernel_rfl
private theorem ze60 : Go.E.zeroOf Try.prog 60 = some (.agg #[.slice none 0 0]) := by kernel_rfl

noncomputable def whittlelaw05_few_j1 (x0 : List (List Int)) : Option (Bool) :=
  some (decide (((x0.length : Nat) : Int) ≤ 80))
noncomputable def whittlelaw05_few_b1 (x0 : List (List Int)) (k103 : Nat) : Option ((Nat) ⊕ (Bool)) :=
  iteO (decide (((k103 : Nat) : Int) < ((x0.length : Nat) : Int))) (iteO (decide (((x0.length : Nat) : Int) ≤ 80)) (iteO (decide (60 < (((nth x0 k103 ([] : List Int)).length : Nat) : Int))) (fin (some false)) (nxt (k103 + 1))) (fin (whittlelaw05_few_j1 x0))) (fin (whittlelaw05_few_j1 x0))
noncomputable def whittlelaw05_few (x0 : List (List Int)) : Option (Bool) :=
  iter (fun q : Nat => whittlelaw05_few_b1 x0 q) 0
theorem whittlelaw05_few_con {σ : Store} {x0 : List (List Int)} {a0_0 : Option Addr} {c0_0 : Nat} (f0_0 : RZ σ (pkSl 1 Go.E.encI Go.E.encI_len) (.slice a0_0 x0.length c0_0) x0) {r : Bool} (hh : whittlelaw05_few x0 = some r) :
    Con Try.prog 40 #[.slice a0_0 x0.length c0_0] σ [] (PureP (.bool r) σ) := by
  dsimp only [whittlelaw05_few] at hh
  have f0_0b := f0_0.big
  refine Con.mk (n := 24) Try.func40 rfl rfl rfl (fun w0 => ?_)
  refine TC.seq ?_
  refine TC.region ?_
  refine TL.v rfl (OpVal.moveB (.inr rfl) rfl) rfl rfl ?_
  refine TL.nil ?_
  refine S.n ?_
  refine TC.cutG (α := (Unit) × (Unit)) [2, 3, 4, 5, 6, 7, 8, 9, 10, 11, 12, 13, 14, 15, 16, 17, 18, 19, 20] (fun g => []) (fun g => []) (fun g => σ) (fun g => whittlelaw05_few_j1 x0 = some r) ?_ (fun g j hg => ?_)
  · skip
    refine TC.seq ?_
    refine TC.region ?_
    refine TL.v rfl (OpVal.moveI (.inr rfl) rfl) rfl rfl ?_
    refine TL.nil ?_
    refine S.n ?_
    refine TC.block ?_
    refine TC.loopG (α := (Nat) × (Unit)) [2, 3, 4, 5, 6, 7, 8, 9, 10, 11, 12, 13, 14, 15, 16, 17, 18, 19, 20] (fun g => [(3, .int .i64 ((g.1 : Nat) : Int))]) (fun g => []) (fun g => σ) (fun g => iter (fun q : Nat => whittlelaw05_few_b1 x0 q) g.1 = some r) (fun g => rounds (fun q : Nat => whittlelaw05_few_b1 x0 q) g.1) (0, ()) (Sub.pre 0 rfl) rfl (by repeat (first | exact trivial | refine ⟨rfl, ?_⟩)) hh (fun g1 j1 hg1 => ?_)
    obtain ⟨k103, _⟩ := g1
    have hh := hg1; clear hg1
    show TC _ _ _ (upds (mask _ j1 _) [(3, .int .i64 ((k103 : Nat) : Int))]) _ []
    obtain ⟨z1, hh, hR1⟩ := iter_e hh
    dsimp only [whittlelaw05_few_b1] at hh
    refine TC.seq ?_
    refine TC.seq ?_
    refine TC.region ?_
    refine TL.v rfl (OpVal.moveI (.inl rfl) rfl) rfl rfl ?_
    refine TL.v rfl (OpVal.moveSl (.inl rfl) rfl) rfl rfl ?_
    refine TL.v rfl (OpVal.lenC rfl Try.underlying56 rfl) rfl rfl ?_
    refine TL.v rfl (OpVal.lss rfl rfl rfl) rfl rfl ?_
    refine TL.v rfl (OpVal.moveB (.inl rfl) rfl) rfl rfl ?_
    refine TL.split 8 rfl (fun h104 => ?_) (fun h104 => ?_)
    · replace hh := iteO_t h104 hh
      replace h104 := of_decide_eq_true h104
      refine TL.gv rfl rfl rfl rfl rfl (OpVal.moveSl (.inl rfl) rfl) rfl rfl ?_
      refine TL.gv rfl rfl rfl rfl rfl (OpVal.lenC rfl Try.underlying56 rfl) rfl rfl ?_
      refine TL.gv rfl rfl rfl rfl rfl (OpVal.leq rfl rfl rfl) rfl rfl ?_
      refine TL.v rfl (OpVal.pickTB rfl rfl rfl) rfl rfl ?_
      refine TL.nil ?_
      refine S.n ?_
      refine TC.cond rfl (fun h105 => ?_) (fun h105 => ?_)
      · replace hh := iteO_t h105 hh
        replace h105 := of_decide_eq_true h105
        refine TC.skip ?_
        refine S.n ?_
        refine TC.seq ?_
        refine TC.block ?_
        refine TC.seq ?_
        refine TC.region ?_
        refine TL.v rfl (OpVal.moveSl (.inl rfl) rfl) rfl rfl ?_
        refine TL.v rfl (OpVal.moveI (.inl rfl) rfl) rfl rfl ?_
        refine TL.v rfl (OpVal.indexN rfl Try.underlying56 sz22 rfl rfl f0_0.isSl (by omega)) rfl rfl ?_
        obtain ⟨p106, hk106, hg106⟩ := RZ.seg f0_0 k103 (by omega)
        replace hk106 : RS _ 1 Go.E.encI (.slice p106.1 (nth x0 k103 ([] : List Int)).length p106.2) (nth x0 k103 ([] : List Int)) := hk106
        have hk106b := hk106.rv.big
        refine TL.v rfl (OpVal.of (OpVal.loadSeg0 rfl ag22 rfl hg106 rfl) (v' := .slice p106.1 ((nth x0 k103 ([] : List Int)).length) p106.2) rfl) rfl rfl ?_
        refine TL.v rfl (OpVal.lenC rfl Try.underlying22 rfl) rfl rfl ?_
        refine TL.v rfl (OpVal.gtr rfl rfl rfl) rfl rfl ?_
        refine TL.nil ?_
        refine S.n ?_
        refine TC.cond rfl (fun h107 => ?_) (fun h107 => ?_)
        · replace hh := iteO_t h107 hh
          replace h107 := of_decide_eq_true h107
          refine TC.seq ?_
          refine TC.region ?_
          refine TL.v rfl (OpVal.moveB (.inr rfl) rfl) rfl rfl ?_
          refine TL.nil ?_
          refine S.n ?_
          refine TC.ret ?_
          refine B.r ?_
          refine S.r ?_
          refine S.r ?_
          replace hh := fin_x hR1 hh
          refine B.r ?_
          refine S.r ?_
          obtain rfl := Option.some.inj hh
          exact RetOk.mk' (rs := [.tmp 2]) [] rfl (.inl rfl) (RVs.tmp rfl RVs.nil) (List.sublist_append_left _ _) ⟨rfl, rfl, rfl⟩
        · replace hh := iteO_f h107 hh
          replace h107 := of_decide_eq_false h107
          refine TC.skip ?_
          refine B.n ?_
          refine S.n ?_
          refine TC.region ?_
          refine TL.v rfl (OpVal.moveI (.inl rfl) rfl) rfl rfl ?_
          refine TL.v rfl (OpVal.succ rfl rfl rfl (by omega)) rfl rfl ?_
          refine TL.v rfl (OpVal.moveI (.inr rfl) rfl) rfl rfl ?_
          refine TL.nil ?_
          refine S.n ?_
          obtain ⟨hh, hlt108⟩ := nxt_x hR1 hh
          refine ⟨by repeat (first | exact Agr.refl _ _ | exact Agr.mask | refine Agr.upd rfl ?_ | refine Agr.maskIn rfl ?_ | refine Agr.upds rfl ?_), ((k103 + 1), ()), hlt108, hh, by repeat (first | exact trivial | refine ⟨rfl, ?_⟩), Sub.pre 0 rfl, rfl⟩
      · replace hh := iteO_f h105 hh
        replace h105 := of_decide_eq_false h105
        refine TC.exit ?_
        refine S.x ?_
        refine S.x ?_
        replace hh := fin_x hR1 hh
        refine TC.exitHere ?_
        refine S.n ?_
        refine ⟨by repeat (first | exact Agr.refl _ _ | exact Agr.mask | refine Agr.upd rfl ?_ | refine Agr.maskIn rfl ?_ | refine Agr.upds rfl ?_), ((), ()), hh, by repeat (first | exact trivial | refine ⟨rfl, ?_⟩), Sub.pre 0 rfl, rfl⟩
    · replace hh := iteO_f h104 hh
      replace h104 := of_decide_eq_false h104
      refine TL.goff rfl rfl rfl rfl rfl rfl rfl rfl ?_
      refine TL.goff rfl rfl rfl rfl rfl rfl rfl rfl ?_
      refine TL.goff rfl rfl rfl rfl rfl rfl rfl rfl ?_
      refine TL.v rfl (OpVal.pickFB rfl rfl rfl) rfl rfl ?_
      refine TL.nil ?_
      refine S.n ?_
      refine TC.cond rfl (fun h => Bool.noConfusion h) (fun _ => ?_)
      refine TC.exit ?_
      refine S.x ?_
      refine S.x ?_
      replace hh := fin_x hR1 hh
      refine TC.exitHere ?_
      refine S.n ?_
      refine ⟨by repeat (first | exact Agr.refl _ _ | exact Agr.mask | refine Agr.upd rfl ?_ | refine Agr.maskIn rfl ?_ | refine Agr.upds rfl ?_), ((), ()), hh, by repeat (first | exact trivial | refine ⟨rfl, ?_⟩), Sub.pre 0 rfl, rfl⟩
  · skip
    obtain ⟨_, _⟩ := g
    have hh := hg; clear hg
    show TC _ _ _ (upds (mask _ j _) []) _ []
    dsimp only [whittlelaw05_few_j1] at hh
    refine TC.seq ?_
    refine TC.region ?_
    refine TL.v rfl (OpVal.moveSl (.inl rfl) rfl) rfl rfl ?_
    refine TL.v rfl (OpVal.lenC rfl Try.underlying56 rfl) rfl rfl ?_
    refine TL.v rfl (OpVal.leq rfl rfl rfl) rfl rfl ?_
    refine TL.v rfl (OpVal.moveB (.inr rfl) rfl) rfl rfl ?_
    refine TL.nil ?_
    refine S.n ?_
    refine TC.ret ?_
    obtain rfl := Option.some.inj hh
    exact RetOk.mk' (rs := [.tmp 2]) [] rfl (.inl rfl) (RVs.tmp rfl RVs.nil) (List.sublist_append_left _ _) ⟨rfl, rfl, rfl⟩

noncomputable def whittlelaw05_awake : Option (Bool) :=
  bnd (intern_New) (fun v2 => bnd (putKeep (⟨(⟨v2.of.rows, v2.of.places⟩ : IStore)⟩ : ITable) [2, 1, 2]) (fun v9 => bnd (putKeep (⟨(⟨v9.2.2.2.of.rows, v9.2.2.2.of.places⟩ : IStore)⟩ : ITable) [1, 2]) (fun v19 => bnd (putKeep (⟨(⟨v19.2.2.2.of.rows, v19.2.2.2.of.places⟩ : IStore)⟩ : ITable) ([] : List Int)) (fun v28 => iteO (decide (v9.1 = 0)) (iteO v9.2.1 (iteO (decide (v9.2.2.1 = 0)) (iteO (decide (v19.1 = 0)) (iteO (!v19.2.1) (iteO (decide (v19.2.2.1 = v9.2.2.1)) (iteO (decide (v28.1 = 1)) (iteO v28.2.1 (iteO (decide (v28.2.2.1 = v9.2.2.1)) (bnd (intern_Table_Size (⟨(⟨v28.2.2.2.of.rows, v28.2.2.2.of.places⟩ : IStore)⟩ : ITable)) (fun v72 => some (decide (v72 = 2)))) (some false)) (some false)) (some false)) (some false)) (some false)) (some false)) (some false)) (some false)) (some false)))))
theorem whittlelaw05_awake_con {σ : Store}   {r : Bool} (hh : whittlelaw05_awake = some r) :
    Con Try.prog 38 #[] σ [] (PureP (.bool r) σ) := by
  dsimp only [whittlelaw05_awake] at hh
  refine Con.mk (n := 73) Try.func38 rfl rfl rfl (fun w0 => ?_)
  refine TC.seq ?_
  refine TC.region ?_
  refine TL.v rfl (OpVal.moveB (.inr rfl) rfl) rfl rfl ?_
  refine TL.nil ?_
  refine S.n ?_
  refine TC.seq ?_
  refine TC.region ?_
  obtain ⟨v2, u2, hh⟩ := bnd_e hh
  refine TL.op rfl (OpOk.call (intern_New_con u2) rfl rfl pf36 rfl rfl rfl rfl ?_)
  rintro _ τ101 _ hle101 ⟨b101_1, a101_2, c101_3, z101_4, b101_6, rfl, zf101_5, rfl⟩
  have zf101_5b := zf101_5.length
  refine TL.v rfl (OpVal.moveLoc (.inr rfl) rfl) rfl rfl ?_
  refine TL.nil ?_
  refine S.n ?_
  refine TC.seq ?_
  refine TC.seq ?_
  refine TC.region ?_
  refine TL.v rfl (OpVal.moveLoc (.inl rfl) rfl) rfl rfl ?_
  refine TL.v rfl (OpVal.eqlNil rfl Try.underlying50 rfl rfl) rfl rfl ?_
  refine TL.nil ?_
  refine S.n ?_
  refine TC.cond rfl (fun h => Bool.noConfusion h) (fun _ => ?_)
  refine TC.skip ?_
  refine S.n ?_
  refine TC.seq ?_
  refine TC.region ?_
  refine TL.v rfl (OpVal.moveLoc (.inl rfl) rfl) rfl rfl ?_
  refine TL.op rfl (OpOk.lit (enc := Go.E.encI) [2, 1, 2] rfl Try.underlying22 sz3 ze3 rfl rfl rfl Go.E.encI_len (by decide) (by decide) (0 : Int) rfl (by decide) rfl (by decide) Go.E.encI_one (fun a105 c106 => ?_))
  refine TL.front 3 rfl rfl ?_
  refine TL.front 3 rfl rfl ?_
  refine TL.front 3 rfl rfl ?_
  obtain ⟨v9, u9, hh⟩ := bnd_e hh
  refine TL.op rfl (OpOk.call (putKeep_con zf101_5 u9) rfl rfl pf37 rfl rfl rfl rfl ?_)
  rintro _ τ108 _ hle108 ⟨a108_1, c108_2, z108_3, b108_5, rfl, zf108_4, rfl⟩
  replace zf101_5 := zf101_5.mono hle108
  have zf108_4b := zf108_4.length
  refine TL.v rfl (OpVal.moveT (.inl rfl) rfl) rfl rfl ?_
  refine TL.v rfl (OpVal.extract rfl rfl rfl) rfl rfl ?_
  refine TL.v rfl (OpVal.extract rfl rfl rfl) rfl rfl ?_
  refine TL.v rfl (OpVal.extract rfl rfl rfl) rfl rfl ?_
  refine TL.v rfl (OpVal.moveI (.inr rfl) rfl) rfl rfl ?_
  refine TL.v rfl (OpVal.moveB (.inr rfl) rfl) rfl rfl ?_
  refine TL.v rfl (OpVal.moveI (.inr rfl) rfl) rfl rfl ?_
  refine TL.nil ?_
  refine S.n ?_
  refine TC.seq ?_
  refine TC.region ?_
  refine TL.v rfl (OpVal.moveLoc (.inl rfl) rfl) rfl rfl ?_
  refine TL.op rfl (OpOk.lit (enc := Go.E.encI) [1, 2] rfl Try.underlying22 sz3 ze3 rfl rfl rfl Go.E.encI_len (by decide) (by decide) (0 : Int) rfl (by decide) rfl (by decide) Go.E.encI_one (fun a111 c112 => ?_))
  refine TL.front 3 rfl rfl ?_
  refine TL.front 3 rfl rfl ?_
  refine TL.front 3 rfl rfl ?_
  obtain ⟨v19, u19, hh⟩ := bnd_e hh
  refine TL.op rfl (OpOk.call (putKeep_con zf108_4 u19) rfl rfl pf37 rfl rfl rfl rfl ?_)
  rintro _ τ114 _ hle114 ⟨a114_1, c114_2, z114_3, b114_5, rfl, zf114_4, rfl⟩
  replace zf101_5 := zf101_5.mono hle114
  replace zf108_4 := zf108_4.mono hle114
  have zf114_4b := zf114_4.length
  refine TL.v rfl (OpVal.moveT (.inl rfl) rfl) rfl rfl ?_
  refine TL.v rfl (OpVal.extract rfl rfl rfl) rfl rfl ?_
  refine TL.v rfl (OpVal.extract rfl rfl rfl) rfl rfl ?_
  refine TL.v rfl (OpVal.extract rfl rfl rfl) rfl rfl ?_
  refine TL.v rfl (OpVal.moveI (.inr rfl) rfl) rfl rfl ?_
  refine TL.v rfl (OpVal.moveB (.inr rfl) rfl) rfl rfl ?_
  refine TL.v rfl (OpVal.moveI (.inr rfl) rfl) rfl rfl ?_
  refine TL.nil ?_
  refine S.n ?_
  refine TC.seq ?_
  refine TC.region ?_
  refine TL.v rfl (OpVal.moveLoc (.inl rfl) rfl) rfl rfl ?_
  refine TL.nilS 3 1 Go.E.encI ?_
  refine TL.front 3 rfl rfl ?_
  refine TL.front 3 rfl rfl ?_
  refine TL.front 3 rfl rfl ?_
  obtain ⟨v28, u28, hh⟩ := bnd_e hh
  refine TL.op rfl (OpOk.call (putKeep_con zf114_4 u28) rfl rfl pf37 rfl rfl rfl rfl ?_)
  rintro _ τ118 _ hle118 ⟨a118_1, c118_2, z118_3, b118_5, rfl, zf118_4, rfl⟩
  replace zf101_5 := zf101_5.mono hle118
  replace zf108_4 := zf108_4.mono hle118
  replace zf114_4 := zf114_4.mono hle118
  have zf118_4b := zf118_4.length
  refine TL.v rfl (OpVal.moveT (.inl rfl) rfl) rfl rfl ?_
  refine TL.v rfl (OpVal.extract rfl rfl rfl) rfl rfl ?_
  refine TL.v rfl (OpVal.extract rfl rfl rfl) rfl rfl ?_
  refine TL.v rfl (OpVal.extract rfl rfl rfl) rfl rfl ?_
  refine TL.v rfl (OpVal.moveI (.inr rfl) rfl) rfl rfl ?_
  refine TL.v rfl (OpVal.moveB (.inr rfl) rfl) rfl rfl ?_
  refine TL.v rfl (OpVal.moveI (.inr rfl) rfl) rfl rfl ?_
  refine TL.nil ?_
  refine S.n ?_
  refine TC.seq ?_
  refine TC.region ?_
  refine TL.v rfl (OpVal.moveI (.inl rfl) rfl) rfl rfl ?_
  refine TL.v rfl (OpVal.eql rfl rfl rfl) rfl rfl ?_
  refine TL.v rfl (OpVal.moveB (.inl rfl) rfl) rfl rfl ?_
  refine TL.split 36 rfl (fun h121 => ?_) (fun h121 => ?_)
  · replace hh := iteO_t h121 hh
    replace h121 := of_decide_eq_true h121
    refine TL.gv rfl rfl rfl rfl rfl (OpVal.moveB (.inl rfl) rfl) rfl rfl ?_
    refine TL.v rfl (OpVal.pickTB rfl rfl rfl) rfl rfl ?_
    refine TL.v rfl (OpVal.moveB (.inl rfl) rfl) rfl rfl ?_
    refine TL.split 39 rfl (fun h122 => ?_) (fun h122 => ?_)
    · replace hh := iteO_t h122 hh
      refine TL.gv rfl rfl rfl rfl rfl (OpVal.moveI (.inl rfl) rfl) rfl rfl ?_
      refine TL.gv rfl rfl rfl rfl rfl (OpVal.eql rfl rfl rfl) rfl rfl ?_
      refine TL.v rfl (OpVal.pickTB rfl rfl rfl) rfl rfl ?_
      refine TL.v rfl (OpVal.moveB (.inl rfl) rfl) rfl rfl ?_
      refine TL.split 43 rfl (fun h123 => ?_) (fun h123 => ?_)
      · replace hh := iteO_t h123 hh
        replace h123 := of_decide_eq_true h123
        refine TL.gv rfl rfl rfl rfl rfl (OpVal.moveI (.inl rfl) rfl) rfl rfl ?_
        refine TL.gv rfl rfl rfl rfl rfl (OpVal.eql rfl rfl rfl) rfl rfl ?_
        refine TL.v rfl (OpVal.pickTB rfl rfl rfl) rfl rfl ?_
        refine TL.v rfl (OpVal.moveB (.inl rfl) rfl) rfl rfl ?_
        refine TL.split 47 rfl (fun h124 => ?_) (fun h124 => ?_)
        · replace hh := iteO_t h124 hh
          replace h124 := of_decide_eq_true h124
          refine TL.gv rfl rfl rfl rfl rfl (OpVal.moveB (.inl rfl) rfl) rfl rfl ?_
          refine TL.gv rfl rfl rfl rfl rfl (OpVal.not rfl rfl) rfl rfl ?_
          refine TL.v rfl (OpVal.pickTB rfl rfl rfl) rfl rfl ?_
          refine TL.v rfl (OpVal.moveB (.inl rfl) rfl) rfl rfl ?_
          refine TL.split 51 rfl (fun h125 => ?_) (fun h125 => ?_)
          · replace hh := iteO_t h125 hh
            refine TL.gv rfl rfl rfl rfl rfl (OpVal.moveI (.inl rfl) rfl) rfl rfl ?_
            refine TL.gv rfl rfl rfl rfl rfl (OpVal.moveI (.inl rfl) rfl) rfl rfl ?_
            refine TL.gv rfl rfl rfl rfl rfl (OpVal.eql rfl rfl rfl) rfl rfl ?_
            refine TL.v rfl (OpVal.pickTB rfl rfl rfl) rfl rfl ?_
            refine TL.v rfl (OpVal.moveB (.inl rfl) rfl) rfl rfl ?_
            refine TL.split 56 rfl (fun h126 => ?_) (fun h126 => ?_)
            · replace hh := iteO_t h126 hh
              replace h126 := of_decide_eq_true h126
              refine TL.gv rfl rfl rfl rfl rfl (OpVal.moveI (.inl rfl) rfl) rfl rfl ?_
              refine TL.gv rfl rfl rfl rfl rfl (OpVal.eql rfl rfl rfl) rfl rfl ?_
              refine TL.v rfl (OpVal.pickTB rfl rfl rfl) rfl rfl ?_
              refine TL.v rfl (OpVal.moveB (.inl rfl) rfl) rfl rfl ?_
              refine TL.split 60 rfl (fun h127 => ?_) (fun h127 => ?_)
              · replace hh := iteO_t h127 hh
                replace h127 := of_decide_eq_true h127
                refine TL.gv rfl rfl rfl rfl rfl (OpVal.moveB (.inl rfl) rfl) rfl rfl ?_
                refine TL.v rfl (OpVal.pickTB rfl rfl rfl) rfl rfl ?_
                refine TL.v rfl (OpVal.moveB (.inl rfl) rfl) rfl rfl ?_
                refine TL.split 63 rfl (fun h128 => ?_) (fun h128 => ?_)
                · replace hh := iteO_t h128 hh
                  refine TL.gv rfl rfl rfl rfl rfl (OpVal.moveI (.inl rfl) rfl) rfl rfl ?_
                  refine TL.gv rfl rfl rfl rfl rfl (OpVal.moveI (.inl rfl) rfl) rfl rfl ?_
                  refine TL.gv rfl rfl rfl rfl rfl (OpVal.eql rfl rfl rfl) rfl rfl ?_
                  refine TL.v rfl (OpVal.pickTB rfl rfl rfl) rfl rfl ?_
                  refine TL.v rfl (OpVal.moveB (.inl rfl) rfl) rfl rfl ?_
                  refine TL.split 68 rfl (fun h129 => ?_) (fun h129 => ?_)
                  · replace hh := iteO_t h129 hh
                    replace h129 := of_decide_eq_true h129
                    refine TL.gv rfl rfl rfl rfl rfl (OpVal.moveLoc (.inl rfl) rfl) rfl rfl ?_
                    refine TL.front 2 rfl rfl ?_
                    refine TL.front 2 rfl rfl ?_
                    refine TL.front 2 rfl rfl ?_
                    obtain ⟨v72, u72, hh⟩ := bnd_e hh
                    refine TL.gon rfl rfl rfl rfl rfl (OpOk.call (intern_Table_Size_con zf118_4 u72) rfl rfl pf39 rfl rfl rfl rfl ?_)
                    rintro _ _ _ hle130 ⟨rfl, rfl, rfl⟩
                    refine TL.gv rfl rfl rfl rfl rfl (OpVal.eql rfl rfl rfl) rfl rfl ?_
                    refine TL.v rfl (OpVal.pickTB rfl rfl rfl) rfl rfl ?_
                    refine TL.v rfl (OpVal.moveB (.inr rfl) rfl) rfl rfl ?_
                    refine TL.nil ?_
                    refine S.n ?_
                    refine TC.ofSub (Sub.pre 0 rfl) ?_
                    refine TC.back ?_
                    refine TC.ret ?_
                    obtain rfl := Option.some.inj hh
                    exact RetOk.mk' (rs := [.tmp 0]) [] rfl (.inl rfl) (RVs.tmp rfl RVs.nil) (List.sublist_append_left _ _) ⟨rfl, rfl, rfl⟩
                  · replace hh := iteO_f h129 hh
                    replace h129 := of_decide_eq_false h129
                    refine TL.goff rfl rfl rfl rfl rfl rfl rfl rfl ?_
                    refine TL.goff rfl rfl rfl rfl rfl rfl rfl rfl ?_
                    refine TL.goff rfl rfl rfl rfl rfl rfl rfl rfl ?_
                    refine TL.v rfl (OpVal.pickFB rfl rfl rfl) rfl rfl ?_
                    refine TL.v rfl (OpVal.moveB (.inr rfl) rfl) rfl rfl ?_
                    refine TL.nil ?_
                    refine S.n ?_
                    refine TC.ofSub (Sub.pre 0 rfl) ?_
                    refine TC.back ?_
                    refine TC.ret ?_
                    obtain rfl := Option.some.inj hh
                    exact RetOk.mk' (rs := [.tmp 0]) [] rfl (.inl rfl) (RVs.tmp rfl RVs.nil) (List.sublist_append_left _ _) ⟨rfl, rfl, rfl⟩
                · replace hh := iteO_f h128 hh
                  refine TL.goff rfl rfl rfl rfl rfl rfl rfl rfl ?_
                  refine TL.goff rfl rfl rfl rfl rfl rfl rfl rfl ?_
                  refine TL.goff rfl rfl rfl rfl rfl rfl rfl rfl ?_
                  refine TL.v rfl (OpVal.pickFB rfl rfl rfl) rfl rfl ?_
                  refine TL.v rfl (OpVal.moveB (.inl rfl) rfl) rfl rfl ?_
                  refine TL.goff rfl rfl rfl rfl rfl rfl rfl rfl ?_
                  refine TL.goff rfl rfl rfl rfl rfl rfl rfl rfl ?_
                  refine TL.goff rfl rfl rfl rfl rfl rfl rfl rfl ?_
                  refine TL.v rfl (OpVal.pickFB rfl rfl rfl) rfl rfl ?_
                  refine TL.v rfl (OpVal.moveB (.inr rfl) rfl) rfl rfl ?_
                  refine TL.nil ?_
                  refine S.n ?_
                  refine TC.ofSub (Sub.pre 0 rfl) ?_
                  refine TC.back ?_
                  refine TC.ret ?_
                  obtain rfl := Option.some.inj hh
                  exact RetOk.mk' (rs := [.tmp 0]) [] rfl (.inl rfl) (RVs.tmp rfl RVs.nil) (List.sublist_append_left _ _) ⟨rfl, rfl, rfl⟩
              · replace hh := iteO_f h127 hh
                replace h127 := of_decide_eq_false h127
                refine TL.goff rfl rfl rfl rfl rfl rfl rfl rfl ?_
                refine TL.v rfl (OpVal.pickFB rfl rfl rfl) rfl rfl ?_
                refine TL.v rfl (OpVal.moveB (.inl rfl) rfl) rfl rfl ?_
                refine TL.goff rfl rfl rfl rfl rfl rfl rfl rfl ?_
                refine TL.goff rfl rfl rfl rfl rfl rfl rfl rfl ?_
                refine TL.goff rfl rfl rfl rfl rfl rfl rfl rfl ?_
                refine TL.v rfl (OpVal.pickFB rfl rfl rfl) rfl rfl ?_
                refine TL.v rfl (OpVal.moveB (.inl rfl) rfl) rfl rfl ?_
                refine TL.goff rfl rfl rfl rfl rfl rfl rfl rfl ?_
                refine TL.goff rfl rfl rfl rfl rfl rfl rfl rfl ?_
                refine TL.goff rfl rfl rfl rfl rfl rfl rfl rfl ?_
                refine TL.v rfl (OpVal.pickFB rfl rfl rfl) rfl rfl ?_
                refine TL.v rfl (OpVal.moveB (.inr rfl) rfl) rfl rfl ?_
                refine TL.nil ?_
                refine S.n ?_
                refine TC.ofSub (Sub.pre 0 rfl) ?_
                refine TC.back ?_
                refine TC.ret ?_
                obtain rfl := Option.some.inj hh
                exact RetOk.mk' (rs := [.tmp 0]) [] rfl (.inl rfl) (RVs.tmp rfl RVs.nil) (List.sublist_append_left _ _) ⟨rfl, rfl, rfl⟩
            · replace hh := iteO_f h126 hh
              replace h126 := of_decide_eq_false h126
              refine TL.goff rfl rfl rfl rfl rfl rfl rfl rfl ?_
              refine TL.goff rfl rfl rfl rfl rfl rfl rfl rfl ?_
              refine TL.v rfl (OpVal.pickFB rfl rfl rfl) rfl rfl ?_
              refine TL.v rfl (OpVal.moveB (.inl rfl) rfl) rfl rfl ?_
              refine TL.goff rfl rfl rfl rfl rfl rfl rfl rfl ?_
              refine TL.v rfl (OpVal.pickFB rfl rfl rfl) rfl rfl ?_
              refine TL.v rfl (OpVal.moveB (.inl rfl) rfl) rfl rfl ?_
              refine TL.goff rfl rfl rfl rfl rfl rfl rfl rfl ?_
              refine TL.goff rfl rfl rfl rfl rfl rfl rfl rfl ?_
              refine TL.goff rfl rfl rfl rfl rfl rfl rfl rfl ?_
              refine TL.v rfl (OpVal.pickFB rfl rfl rfl) rfl rfl ?_
              refine TL.v rfl (OpVal.moveB (.inl rfl) rfl) rfl rfl ?_
              refine TL.goff rfl rfl rfl rfl rfl rfl rfl rfl ?_
              refine TL.goff rfl rfl rfl rfl rfl rfl rfl rfl ?_
              refine TL.goff rfl rfl rfl rfl rfl rfl rfl rfl ?_
              refine TL.v rfl (OpVal.pickFB rfl rfl rfl) rfl rfl ?_
              refine TL.v rfl (OpVal.moveB (.inr rfl) rfl) rfl rfl ?_
              refine TL.nil ?_
              refine S.n ?_
              refine TC.ofSub (Sub.pre 0 rfl) ?_
              refine TC.back ?_
              refine TC.ret ?_
              obtain rfl := Option.some.inj hh
              exact RetOk.mk' (rs := [.tmp 0]) [] rfl (.inl rfl) (RVs.tmp rfl RVs.nil) (List.sublist_append_left _ _) ⟨rfl, rfl, rfl⟩
          · replace hh := iteO_f h125 hh
            refine TL.goff rfl rfl rfl rfl rfl rfl rfl rfl ?_
            refine TL.goff rfl rfl rfl rfl rfl rfl rfl rfl ?_
            refine TL.goff rfl rfl rfl rfl rfl rfl rfl rfl ?_
            refine TL.v rfl (OpVal.pickFB rfl rfl rfl) rfl rfl ?_
            refine TL.v rfl (OpVal.moveB (.inl rfl) rfl) rfl rfl ?_
            refine TL.goff rfl rfl rfl rfl rfl rfl rfl rfl ?_
            refine TL.goff rfl rfl rfl rfl rfl rfl rfl rfl ?_
            refine TL.v rfl (OpVal.pickFB rfl rfl rfl) rfl rfl ?_
            refine TL.v rfl (OpVal.moveB (.inl rfl) rfl) rfl rfl ?_
            refine TL.goff rfl rfl rfl rfl rfl rfl rfl rfl ?_
            refine TL.v rfl (OpVal.pickFB rfl rfl rfl) rfl rfl ?_
            refine TL.v rfl (OpVal.moveB (.inl rfl) rfl) rfl rfl ?_
            refine TL.goff rfl rfl rfl rfl rfl rfl rfl rfl ?_
            refine TL.goff rfl rfl rfl rfl rfl rfl rfl rfl ?_
            refine TL.goff rfl rfl rfl rfl rfl rfl rfl rfl ?_
            refine TL.v rfl (OpVal.pickFB rfl rfl rfl) rfl rfl ?_
            refine TL.v rfl (OpVal.moveB (.inl rfl) rfl) rfl rfl ?_
            refine TL.goff rfl rfl rfl rfl rfl rfl rfl rfl ?_
            refine TL.goff rfl rfl rfl rfl rfl rfl rfl rfl ?_
            refine TL.goff rfl rfl rfl rfl rfl rfl rfl rfl ?_
            refine TL.v rfl (OpVal.pickFB rfl rfl rfl) rfl rfl ?_
            refine TL.v rfl (OpVal.moveB (.inr rfl) rfl) rfl rfl ?_
            refine TL.nil ?_
            refine S.n ?_
            refine TC.ofSub (Sub.pre 0 rfl) ?_
            refine TC.back ?_
            refine TC.ret ?_
            obtain rfl := Option.some.inj hh
            exact RetOk.mk' (rs := [.tmp 0]) [] rfl (.inl rfl) (RVs.tmp rfl RVs.nil) (List.sublist_append_left _ _) ⟨rfl, rfl, rfl⟩
        · replace hh := iteO_f h124 hh
          replace h124 := of_decide_eq_false h124
          refine TL.goff rfl rfl rfl rfl rfl rfl rfl rfl ?_
          refine TL.goff rfl rfl rfl rfl rfl rfl rfl rfl ?_
          refine TL.v rfl (OpVal.pickFB rfl rfl rfl) rfl rfl ?_
          refine TL.v rfl (OpVal.moveB (.inl rfl) rfl) rfl rfl ?_
          refine TL.goff rfl rfl rfl rfl rfl rfl rfl rfl ?_
          refine TL.goff rfl rfl rfl rfl rfl rfl rfl rfl ?_
          refine TL.goff rfl rfl rfl rfl rfl rfl rfl rfl ?_
          refine TL.v rfl (OpVal.pickFB rfl rfl rfl) rfl rfl ?_
          refine TL.v rfl (OpVal.moveB (.inl rfl) rfl) rfl rfl ?_
          refine TL.goff rfl rfl rfl rfl rfl rfl rfl rfl ?_
          refine TL.goff rfl rfl rfl rfl rfl rfl rfl rfl ?_
          refine TL.v rfl (OpVal.pickFB rfl rfl rfl) rfl rfl ?_
          refine TL.v rfl (OpVal.moveB (.inl rfl) rfl) rfl rfl ?_
          refine TL.goff rfl rfl rfl rfl rfl rfl rfl rfl ?_
          refine TL.v rfl (OpVal.pickFB rfl rfl rfl) rfl rfl ?_
          refine TL.v rfl (OpVal.moveB (.inl rfl) rfl) rfl rfl ?_
          refine TL.goff rfl rfl rfl rfl rfl rfl rfl rfl ?_
          refine TL.goff rfl rfl rfl rfl rfl rfl rfl rfl ?_
          refine TL.goff rfl rfl rfl rfl rfl rfl rfl rfl ?_
          refine TL.v rfl (OpVal.pickFB rfl rfl rfl) rfl rfl ?_
          refine TL.v rfl (OpVal.moveB (.inl rfl) rfl) rfl rfl ?_
          refine TL.goff rfl rfl rfl rfl rfl rfl rfl rfl ?_
          refine TL.goff rfl rfl rfl rfl rfl rfl rfl rfl ?_
          refine TL.goff rfl rfl rfl rfl rfl rfl rfl rfl ?_
          refine TL.v rfl (OpVal.pickFB rfl rfl rfl) rfl rfl ?_
          refine TL.v rfl (OpVal.moveB (.inr rfl) rfl) rfl rfl ?_
          refine TL.nil ?_
          refine S.n ?_
          refine TC.ofSub (Sub.pre 0 rfl) ?_
          refine TC.back ?_
          refine TC.ret ?_
          obtain rfl := Option.some.inj hh
          exact RetOk.mk' (rs := [.tmp 0]) [] rfl (.inl rfl) (RVs.tmp rfl RVs.nil) (List.sublist_append_left _ _) ⟨rfl, rfl, rfl⟩
      · replace hh := iteO_f h123 hh
        replace h123 := of_decide_eq_false h123
        refine TL.goff rfl rfl rfl rfl rfl rfl rfl rfl ?_
        refine TL.goff rfl rfl rfl rfl rfl rfl rfl rfl ?_
        refine TL.v rfl (OpVal.pickFB rfl rfl rfl) rfl rfl ?_
        refine TL.v rfl (OpVal.moveB (.inl rfl) rfl) rfl rfl ?_
        refine TL.goff rfl rfl rfl rfl rfl rfl rfl rfl ?_
        refine TL.goff rfl rfl rfl rfl rfl rfl rfl rfl ?_
        refine TL.v rfl (OpVal.pickFB rfl rfl rfl) rfl rfl ?_
        refine TL.v rfl (OpVal.moveB (.inl rfl) rfl) rfl rfl ?_
        refine TL.goff rfl rfl rfl rfl rfl rfl rfl rfl ?_
        refine TL.goff rfl rfl rfl rfl rfl rfl rfl rfl ?_
        refine TL.goff rfl rfl rfl rfl rfl rfl rfl rfl ?_
        refine TL.v rfl (OpVal.pickFB rfl rfl rfl) rfl rfl ?_
        refine TL.v rfl (OpVal.moveB (.inl rfl) rfl) rfl rfl ?_
        refine TL.goff rfl rfl rfl rfl rfl rfl rfl rfl ?_
        refine TL.goff rfl rfl rfl rfl rfl rfl rfl rfl ?_
        refine TL.v rfl (OpVal.pickFB rfl rfl rfl) rfl rfl ?_
        refine TL.v rfl (OpVal.moveB (.inl rfl) rfl) rfl rfl ?_
        refine TL.goff rfl rfl rfl rfl rfl rfl rfl rfl ?_
        refine TL.v rfl (OpVal.pickFB rfl rfl rfl) rfl rfl ?_
        refine TL.v rfl (OpVal.moveB (.inl rfl) rfl) rfl rfl ?_
        refine TL.goff rfl rfl rfl rfl rfl rfl rfl rfl ?_
        refine TL.goff rfl rfl rfl rfl rfl rfl rfl rfl ?_
        refine TL.goff rfl rfl rfl rfl rfl rfl rfl rfl ?_
        refine TL.v rfl (OpVal.pickFB rfl rfl rfl) rfl rfl ?_
        refine TL.v rfl (OpVal.moveB (.inl rfl) rfl) rfl rfl ?_
        refine TL.goff rfl rfl rfl rfl rfl rfl rfl rfl ?_
        refine TL.goff rfl rfl rfl rfl rfl rfl rfl rfl ?_
        refine TL.goff rfl rfl rfl rfl rfl rfl rfl rfl ?_
        refine TL.v rfl (OpVal.pickFB rfl rfl rfl) rfl rfl ?_
        refine TL.v rfl (OpVal.moveB (.inr rfl) rfl) rfl rfl ?_
        refine TL.nil ?_
        refine S.n ?_
        refine TC.ofSub (Sub.pre 0 rfl) ?_
        refine TC.back ?_
        refine TC.ret ?_
        obtain rfl := Option.some.inj hh
        exact RetOk.mk' (rs := [.tmp 0]) [] rfl (.inl rfl) (RVs.tmp rfl RVs.nil) (List.sublist_append_left _ _) ⟨rfl, rfl, rfl⟩
    · replace hh := iteO_f h122 hh
      refine TL.goff rfl rfl rfl rfl rfl rfl rfl rfl ?_
      refine TL.goff rfl rfl rfl rfl rfl rfl rfl rfl ?_
      refine TL.v rfl (OpVal.pickFB rfl rfl rfl) rfl rfl ?_
      refine TL.v rfl (OpVal.moveB (.inl rfl) rfl) rfl rfl ?_
      refine TL.goff rfl rfl rfl rfl rfl rfl rfl rfl ?_
      refine TL.goff rfl rfl rfl rfl rfl rfl rfl rfl ?_
      refine TL.v rfl (OpVal.pickFB rfl rfl rfl) rfl rfl ?_
      refine TL.v rfl (OpVal.moveB (.inl rfl) rfl) rfl rfl ?_
      refine TL.goff rfl rfl rfl rfl rfl rfl rfl rfl ?_
      refine TL.goff rfl rfl rfl rfl rfl rfl rfl rfl ?_
      refine TL.v rfl (OpVal.pickFB rfl rfl rfl) rfl rfl ?_
      refine TL.v rfl (OpVal.moveB (.inl rfl) rfl) rfl rfl ?_
      refine TL.goff rfl rfl rfl rfl rfl rfl rfl rfl ?_
      refine TL.goff rfl rfl rfl rfl rfl rfl rfl rfl ?_
      refine TL.goff rfl rfl rfl rfl rfl rfl rfl rfl ?_
      refine TL.v rfl (OpVal.pickFB rfl rfl rfl) rfl rfl ?_
      refine TL.v rfl (OpVal.moveB (.inl rfl) rfl) rfl rfl ?_
      refine TL.goff rfl rfl rfl rfl rfl rfl rfl rfl ?_
      refine TL.goff rfl rfl rfl rfl rfl rfl rfl rfl ?_
      refine TL.v rfl (OpVal.pickFB rfl rfl rfl) rfl rfl ?_
      refine TL.v rfl (OpVal.moveB (.inl rfl) rfl) rfl rfl ?_
      refine TL.goff rfl rfl rfl rfl rfl rfl rfl rfl ?_
      refine TL.v rfl (OpVal.pickFB rfl rfl rfl) rfl rfl ?_
      refine TL.v rfl (OpVal.moveB (.inl rfl) rfl) rfl rfl ?_
      refine TL.goff rfl rfl rfl rfl rfl rfl rfl rfl ?_
      refine TL.goff rfl rfl rfl rfl rfl rfl rfl rfl ?_
      refine TL.goff rfl rfl rfl rfl rfl rfl rfl rfl ?_
      refine TL.v rfl (OpVal.pickFB rfl rfl rfl) rfl rfl ?_
      refine TL.v rfl (OpVal.moveB (.inl rfl) rfl) rfl rfl ?_
      refine TL.goff rfl rfl rfl rfl rfl rfl rfl rfl ?_
      refine TL.goff rfl rfl rfl rfl rfl rfl rfl rfl ?_
      refine TL.goff rfl rfl rfl rfl rfl rfl rfl rfl ?_
      refine TL.v rfl (OpVal.pickFB rfl rfl rfl) rfl rfl ?_
      refine TL.v rfl (OpVal.moveB (.inr rfl) rfl) rfl rfl ?_
      refine TL.nil ?_
      refine S.n ?_
      refine TC.ofSub (Sub.pre 0 rfl) ?_
      refine TC.back ?_
      refine TC.ret ?_
      obtain rfl := Option.some.inj hh
      exact RetOk.mk' (rs := [.tmp 0]) [] rfl (.inl rfl) (RVs.tmp rfl RVs.nil) (List.sublist_append_left _ _) ⟨rfl, rfl, rfl⟩
  · replace hh := iteO_f h121 hh
    replace h121 := of_decide_eq_false h121
    refine TL.goff rfl rfl rfl rfl rfl rfl rfl rfl ?_
    refine TL.v rfl (OpVal.pickFB rfl rfl rfl) rfl rfl ?_
    refine TL.v rfl (OpVal.moveB (.inl rfl) rfl) rfl rfl ?_
    refine TL.goff rfl rfl rfl rfl rfl rfl rfl rfl ?_
    refine TL.goff rfl rfl rfl rfl rfl rfl rfl rfl ?_
    refine TL.v rfl (OpVal.pickFB rfl rfl rfl) rfl rfl ?_
    refine TL.v rfl (OpVal.moveB (.inl rfl) rfl) rfl rfl ?_
    refine TL.goff rfl rfl rfl rfl rfl rfl rfl rfl ?_
    refine TL.goff rfl rfl rfl rfl rfl rfl rfl rfl ?_
    refine TL.v rfl (OpVal.pickFB rfl rfl rfl) rfl rfl ?_
    refine TL.v rfl (OpVal.moveB (.inl rfl) rfl) rfl rfl ?_
    refine TL.goff rfl rfl rfl rfl rfl rfl rfl rfl ?_
    refine TL.goff rfl rfl rfl rfl rfl rfl rfl rfl ?_
    refine TL.v rfl (OpVal.pickFB rfl rfl rfl) rfl rfl ?_
    refine TL.v rfl (OpVal.moveB (.inl rfl) rfl) rfl rfl ?_
    refine TL.goff rfl rfl rfl rfl rfl rfl rfl rfl ?_
    refine TL.goff rfl rfl rfl rfl rfl rfl rfl rfl ?_
    refine TL.goff rfl rfl rfl rfl rfl rfl rfl rfl ?_
    refine TL.v rfl (OpVal.pickFB rfl rfl rfl) rfl rfl ?_
    refine TL.v rfl (OpVal.moveB (.inl rfl) rfl) rfl rfl ?_
    refine TL.goff rfl rfl rfl rfl rfl rfl rfl rfl ?_
    refine TL.goff rfl rfl rfl rfl rfl rfl rfl rfl ?_
    refine TL.v rfl (OpVal.pickFB rfl rfl rfl) rfl rfl ?_
    refine TL.v rfl (OpVal.moveB (.inl rfl) rfl) rfl rfl ?_
    refine TL.goff rfl rfl rfl rfl rfl rfl rfl rfl ?_
    refine TL.v rfl (OpVal.pickFB rfl rfl rfl) rfl rfl ?_
    refine TL.v rfl (OpVal.moveB (.inl rfl) rfl) rfl rfl ?_
    refine TL.goff rfl rfl rfl rfl rfl rfl rfl rfl ?_
    refine TL.goff rfl rfl rfl rfl rfl rfl rfl rfl ?_
    refine TL.goff rfl rfl rfl rfl rfl rfl rfl rfl ?_
    refine TL.v rfl (OpVal.pickFB rfl rfl rfl) rfl rfl ?_
    refine TL.v rfl (OpVal.moveB (.inl rfl) rfl) rfl rfl ?_
    refine TL.goff rfl rfl rfl rfl rfl rfl rfl rfl ?_
    refine TL.goff rfl rfl rfl rfl rfl rfl rfl rfl ?_
    refine TL.goff rfl rfl rfl rfl rfl rfl rfl rfl ?_
    refine TL.v rfl (OpVal.pickFB rfl rfl rfl) rfl rfl ?_
    refine TL.v rfl (OpVal.moveB (.inr rfl) rfl) rfl rfl ?_
    refine TL.nil ?_
    refine S.n ?_
    refine TC.ofSub (Sub.pre 0 rfl) ?_
    refine TC.back ?_
    refine TC.ret ?_
    obtain rfl := Option.some.inj hh
    exact RetOk.mk' (rs := [.tmp 0]) [] rfl (.inl rfl) (RVs.tmp rfl RVs.nil) (List.sublist_append_left _ _) ⟨rfl, rfl, rfl⟩

noncomputable def whittlelaw05_InternSorts (x0 : List Int) (x1 : List Int) : Option (Bool) :=
  iteO (decide (200 < ((x0.length : Nat) : Int))) (some true) (iteO (decide (200 < ((x1.length : Nat) : Int))) (some true) (bnd (whittleref02_Own x0) (fun v12 => bnd (whittlelaw05_awake) (fun v14 => iteO v14 (bnd (intern_Sort v12) (fun v17 => bnd (whittleref05_Sort x0) (fun v19 => bnd (whittleref02_Ints v17 v19) (fun v20 => iteO v20 (bnd (whittleref02_Ints v12 x0) (fun v25 => iteO v25 (bnd (intern_Compare x0 x1) (fun v30 => bnd (whittleref05_Compare x0 x1) (fun v33 => some (decide (v30 = v33))))) (some false))) (some false))))) (some false)))))
theorem whittlelaw05_InternSorts_con {σ : Store} {x0 : List Int} {a0_0 : Option Addr} {c0_0 : Nat} {x1 : List Int} {a1_0 : Option Addr} {c1_0 : Nat} (f0_0 : RS σ 1 Go.E.encI (.slice a0_0 x0.length c0_0) x0) (f1_0 : RS σ 1 Go.E.encI (.slice a1_0 x1.length c1_0) x1) {r : Bool} (hh : whittlelaw05_InternSorts x0 x1 = some r) :
    Con Try.prog 12 #[.slice a0_0 x0.length c0_0, .slice a1_0 x1.length c1_0] σ [] (PureP (.bool r) σ) := by
  dsimp only [whittlelaw05_InternSorts] at hh
  have f0_0b := f0_0.rv.big
  have f1_0b := f1_0.rv.big
  refine Con.mk (n := 38) Try.func12 rfl rfl rfl (fun w0 => ?_)
  refine TC.seq ?_
  refine TC.region ?_
  refine TL.v rfl (OpVal.moveB (.inr rfl) rfl) rfl rfl ?_
  refine TL.nil ?_
  refine S.n ?_
  refine TC.seq ?_
  refine TC.seq ?_
  refine TC.region ?_
  refine TL.v rfl (OpVal.moveSl (.inl rfl) rfl) rfl rfl ?_
  refine TL.v rfl (OpVal.lenC rfl Try.underlying22 rfl) rfl rfl ?_
  refine TL.v rfl (OpVal.gtr rfl rfl rfl) rfl rfl ?_
  refine TL.v rfl (OpVal.moveB (.inl rfl) rfl) rfl rfl ?_
  refine TL.split 9 rfl (fun h101 => ?_) (fun h101 => ?_)
  · replace hh := iteO_t h101 hh
    replace h101 := of_decide_eq_true h101
    refine TL.goff rfl rfl rfl rfl rfl rfl rfl rfl ?_
    refine TL.goff rfl rfl rfl rfl rfl rfl rfl rfl ?_
    refine TL.goff rfl rfl rfl rfl rfl rfl rfl rfl ?_
    refine TL.v rfl (OpVal.pickTB rfl rfl rfl) rfl rfl ?_
    refine TL.nil ?_
    refine S.n ?_
    refine TC.cond rfl (fun _ => ?_) (fun h => Bool.noConfusion h)
    refine TC.seq ?_
    refine TC.region ?_
    refine TL.v rfl (OpVal.moveB (.inr rfl) rfl) rfl rfl ?_
    refine TL.nil ?_
    refine S.n ?_
    refine TC.ret ?_
    refine S.r ?_
    obtain rfl := Option.some.inj hh
    exact RetOk.mk' (rs := [.tmp 4]) [] rfl (.inl rfl) (RVs.tmp rfl RVs.nil) (List.sublist_append_left _ _) ⟨rfl, rfl, rfl⟩
  · replace hh := iteO_f h101 hh
    replace h101 := of_decide_eq_false h101
    refine TL.gv rfl rfl rfl rfl rfl (OpVal.moveSl (.inl rfl) rfl) rfl rfl ?_
    refine TL.gv rfl rfl rfl rfl rfl (OpVal.lenC rfl Try.underlying22 rfl) rfl rfl ?_
    refine TL.gv rfl rfl rfl rfl rfl (OpVal.gtr rfl rfl rfl) rfl rfl ?_
    refine TL.v rfl (OpVal.pickFB rfl rfl rfl) rfl rfl ?_
    refine TL.nil ?_
    refine S.n ?_
    refine TC.cond rfl (fun h102 => ?_) (fun h102 => ?_)
    · replace hh := iteO_t h102 hh
      replace h102 := of_decide_eq_true h102
      refine TC.seq ?_
      refine TC.region ?_
      refine TL.v rfl (OpVal.moveB (.inr rfl) rfl) rfl rfl ?_
      refine TL.nil ?_
      refine S.n ?_
      refine TC.ret ?_
      refine S.r ?_
      obtain rfl := Option.some.inj hh
      exact RetOk.mk' (rs := [.tmp 4]) [] rfl (.inl rfl) (RVs.tmp rfl RVs.nil) (List.sublist_append_left _ _) ⟨rfl, rfl, rfl⟩
    · replace hh := iteO_f h102 hh
      replace h102 := of_decide_eq_false h102
      refine TC.skip ?_
      refine S.n ?_
      refine TC.seq ?_
      refine TC.region ?_
      refine TL.v rfl (OpVal.moveSl (.inl rfl) rfl) rfl rfl ?_
      obtain ⟨v12, u12, hh⟩ := bnd_e hh
      refine TL.op rfl (OpOk.call (whittleref02_Own_con f0_0 u12) rfl rfl pf47 rfl rfl rfl rfl ?_)
      rintro _ _ _ hle103 ⟨a103_1, c103_1, rfl, rfl, rfl⟩
      refine TL.v rfl (OpVal.moveSl (.inr rfl) rfl) rfl rfl ?_
      refine TL.nil ?_
      refine S.n ?_
      refine TC.seq ?_
      refine TC.region ?_
      obtain ⟨v14, u14, hh⟩ := bnd_e hh
      refine TL.op rfl (OpOk.callP (whittlelaw05_awake_con u14) rfl rfl pf38 rfl rfl rfl ?_)
      refine TL.v rfl (OpVal.moveB (.inl rfl) rfl) rfl rfl ?_
      refine TL.split 17 rfl (fun h105 => ?_) (fun h105 => ?_)
      · replace hh := iteO_t h105 hh
        refine TL.gv rfl rfl rfl rfl rfl (OpVal.moveSl (.inl rfl) rfl) rfl rfl ?_
        refine TL.sealS Go.E.encI_len (fun τ108 hle107 hr106 => ?_)
        replace f0_0 := f0_0.mono hle107
        replace f1_0 := f1_0.mono hle107
        have hr106b := hr106.rv.big
        obtain ⟨v17, u17, hh⟩ := bnd_e hh
        refine TL.gon rfl rfl rfl rfl rfl (OpOk.call (intern_Sort_con hr106 u17) rfl rfl pf48 rfl rfl rfl rfl ?_)
        rintro _ _ _ hle109 ⟨a109_1, c109_1, rfl, rfl, rfl⟩
        refine TL.gv rfl rfl rfl rfl rfl (OpVal.moveSl (.inl rfl) rfl) rfl rfl ?_
        obtain ⟨v19, u19, hh⟩ := bnd_e hh
        refine TL.gon rfl rfl rfl rfl rfl (OpOk.call (whittleref05_Sort_con f0_0 u19) rfl rfl pf49 rfl rfl rfl rfl ?_)
        rintro _ τ111 _ hle111 ⟨a111_1, c111_1, rfl, hr111_0, rfl⟩
        replace f0_0 := f0_0.mono hle111
        replace f1_0 := f1_0.mono hle111
        replace hr106 := hr106.mono hle111
        have hr111_0b := hr111_0.rv.big
        obtain ⟨v20, u20, hh⟩ := bnd_e hh
        refine TL.gon rfl rfl rfl rfl rfl (OpOk.callK (Con.lend Go.E.encI_len (fun _ hle113 hr112 => whittleref02_Ints_con hr112 (hr111_0.mono hle113) u20)) rfl rfl pf46 rfl rfl rfl rfl ?_)
        refine TL.v rfl (OpVal.pickTB rfl rfl rfl) rfl rfl ?_
        refine TL.v rfl (OpVal.moveB (.inl rfl) rfl) rfl rfl ?_
        refine TL.split 24 rfl (fun h114 => ?_) (fun h114 => ?_)
        · replace hh := iteO_t h114 hh
          refine TL.gv rfl rfl rfl rfl rfl (OpVal.moveSl (.inl rfl) rfl) rfl rfl ?_
          refine TL.gv rfl rfl rfl rfl rfl (OpVal.moveSl (.inl rfl) rfl) rfl rfl ?_
          obtain ⟨v25, u25, hh⟩ := bnd_e hh
          refine TL.gon rfl rfl rfl rfl rfl (OpOk.callP (whittleref02_Ints_con hr106 f0_0 u25) rfl rfl pf46 rfl rfl rfl ?_)
          refine TL.v rfl (OpVal.pickTB rfl rfl rfl) rfl rfl ?_
          refine TL.v rfl (OpVal.moveB (.inl rfl) rfl) rfl rfl ?_
          refine TL.split 29 rfl (fun h115 => ?_) (fun h115 => ?_)
          · replace hh := iteO_t h115 hh
            refine TL.gv rfl rfl rfl rfl rfl (OpVal.moveSl (.inl rfl) rfl) rfl rfl ?_
            refine TL.gv rfl rfl rfl rfl rfl (OpVal.moveSl (.inl rfl) rfl) rfl rfl ?_
            obtain ⟨v30, u30, hh⟩ := bnd_e hh
            refine TL.gon rfl rfl rfl rfl rfl (OpOk.callP (intern_Compare_con f0_0 f1_0 u30) rfl rfl pf50 rfl rfl rfl ?_)
            refine TL.gv rfl rfl rfl rfl rfl (OpVal.moveSl (.inl rfl) rfl) rfl rfl ?_
            refine TL.gv rfl rfl rfl rfl rfl (OpVal.moveSl (.inl rfl) rfl) rfl rfl ?_
            obtain ⟨v33, u33, hh⟩ := bnd_e hh
            refine TL.gon rfl rfl rfl rfl rfl (OpOk.callP (whittleref05_Compare_con f0_0 f1_0 u33) rfl rfl pf51 rfl rfl rfl ?_)
            refine TL.gv rfl rfl rfl rfl rfl (OpVal.eql rfl rfl rfl) rfl rfl ?_
            refine TL.v rfl (OpVal.pickTB rfl rfl rfl) rfl rfl ?_
            refine TL.v rfl (OpVal.moveB (.inr rfl) rfl) rfl rfl ?_
            refine TL.nil ?_
            refine S.n ?_
            refine TC.ofSub (Sub.pre 0 rfl) ?_
            refine TC.back ?_
            refine TC.ret ?_
            obtain rfl := Option.some.inj hh
            exact RetOk.mk' (rs := [.tmp 4]) [] rfl (.inl rfl) (RVs.tmp rfl RVs.nil) (List.sublist_append_left _ _) ⟨rfl, rfl, rfl⟩
          · replace hh := iteO_f h115 hh
            refine TL.goff rfl rfl rfl rfl rfl rfl rfl rfl ?_
            refine TL.goff rfl rfl rfl rfl rfl rfl rfl rfl ?_
            refine TL.goff rfl rfl rfl rfl rfl rfl rfl rfl ?_
            refine TL.goff rfl rfl rfl rfl rfl rfl rfl rfl ?_
            refine TL.goff rfl rfl rfl rfl rfl rfl rfl rfl ?_
            refine TL.goff rfl rfl rfl rfl rfl rfl rfl rfl ?_
            refine TL.goff rfl rfl rfl rfl rfl rfl rfl rfl ?_
            refine TL.v rfl (OpVal.pickFB rfl rfl rfl) rfl rfl ?_
            refine TL.v rfl (OpVal.moveB (.inr rfl) rfl) rfl rfl ?_
            refine TL.nil ?_
            refine S.n ?_
            refine TC.ofSub (Sub.pre 0 rfl) ?_
            refine TC.back ?_
            refine TC.ret ?_
            obtain rfl := Option.some.inj hh
            exact RetOk.mk' (rs := [.tmp 4]) [] rfl (.inl rfl) (RVs.tmp rfl RVs.nil) (List.sublist_append_left _ _) ⟨rfl, rfl, rfl⟩
        · replace hh := iteO_f h114 hh
          refine TL.goff rfl rfl rfl rfl rfl rfl rfl rfl ?_
          refine TL.goff rfl rfl rfl rfl rfl rfl rfl rfl ?_
          refine TL.goff rfl rfl rfl rfl rfl rfl rfl rfl ?_
          refine TL.v rfl (OpVal.pickFB rfl rfl rfl) rfl rfl ?_
          refine TL.v rfl (OpVal.moveB (.inl rfl) rfl) rfl rfl ?_
          refine TL.goff rfl rfl rfl rfl rfl rfl rfl rfl ?_
          refine TL.goff rfl rfl rfl rfl rfl rfl rfl rfl ?_
          refine TL.goff rfl rfl rfl rfl rfl rfl rfl rfl ?_
          refine TL.goff rfl rfl rfl rfl rfl rfl rfl rfl ?_
          refine TL.goff rfl rfl rfl rfl rfl rfl rfl rfl ?_
          refine TL.goff rfl rfl rfl rfl rfl rfl rfl rfl ?_
          refine TL.goff rfl rfl rfl rfl rfl rfl rfl rfl ?_
          refine TL.v rfl (OpVal.pickFB rfl rfl rfl) rfl rfl ?_
          refine TL.v rfl (OpVal.moveB (.inr rfl) rfl) rfl rfl ?_
          refine TL.nil ?_
          refine S.n ?_
          refine TC.ofSub (Sub.pre 0 rfl) ?_
          refine TC.back ?_
          refine TC.ret ?_
          obtain rfl := Option.some.inj hh
          exact RetOk.mk' (rs := [.tmp 4]) [] rfl (.inl rfl) (RVs.tmp rfl RVs.nil) (List.sublist_append_left _ _) ⟨rfl, rfl, rfl⟩
      · replace hh := iteO_f h105 hh
        refine TL.goff rfl rfl rfl rfl rfl rfl rfl rfl ?_
        refine TL.goff rfl rfl rfl rfl rfl rfl rfl rfl ?_
        refine TL.goff rfl rfl rfl rfl rfl rfl rfl rfl ?_
        refine TL.goff rfl rfl rfl rfl rfl rfl rfl rfl ?_
        refine TL.goff rfl rfl rfl rfl rfl rfl rfl rfl ?_
        refine TL.v rfl (OpVal.pickFB rfl rfl rfl) rfl rfl ?_
        refine TL.v rfl (OpVal.moveB (.inl rfl) rfl) rfl rfl ?_
        refine TL.goff rfl rfl rfl rfl rfl rfl rfl rfl ?_
        refine TL.goff rfl rfl rfl rfl rfl rfl rfl rfl ?_
        refine TL.goff rfl rfl rfl rfl rfl rfl rfl rfl ?_
        refine TL.v rfl (OpVal.pickFB rfl rfl rfl) rfl rfl ?_
        refine TL.v rfl (OpVal.moveB (.inl rfl) rfl) rfl rfl ?_
        refine TL.goff rfl rfl rfl rfl rfl rfl rfl rfl ?_
        refine TL.goff rfl rfl rfl rfl rfl rfl rfl rfl ?_
        refine TL.goff rfl rfl rfl rfl rfl rfl rfl rfl ?_
        refine TL.goff rfl rfl rfl rfl rfl rfl rfl rfl ?_
        refine TL.goff rfl rfl rfl rfl rfl rfl rfl rfl ?_
        refine TL.goff rfl rfl rfl rfl rfl rfl rfl rfl ?_
        refine TL.goff rfl rfl rfl rfl rfl rfl rfl rfl ?_
        refine TL.v rfl (OpVal.pickFB rfl rfl rfl) rfl rfl ?_
        refine TL.v rfl (OpVal.moveB (.inr rfl) rfl) rfl rfl ?_
        refine TL.nil ?_
        refine S.n ?_
        refine TC.ofSub (Sub.pre 0 rfl) ?_
        refine TC.ret ?_
        obtain rfl := Option.some.inj hh
        exact RetOk.mk' (rs := [.tmp 4]) [] rfl (.inl rfl) (RVs.tmp rfl RVs.nil) (List.sublist_append_left _ _) ⟨rfl, rfl, rfl⟩

noncomputable def whittlelaw05_InternOrder (x0 : List Int) (x1 : List Int) (x2 : List Int) : Option (Bool) :=
  iteO (decide (300 < (IntKind.i64.wrap ((IntKind.i64.wrap (((x0.length : Nat) : Int) + ((x1.length : Nat) : Int))) + ((x2.length : Nat) : Int))))) (some true) (bnd (intern_Compare x0 x1) (fun v14 => bnd (intern_Compare x1 x2) (fun v18 => bnd (whittlelaw05_awake) (fun v20 => iteO v20 (bnd (whittleref02_Ints x0 x1) (fun v26 => iteO ((decide (v14 = 0)) == v26) (bnd (intern_Compare x1 x0) (fun v32 => iteO (decide (v32 = (IntKind.i64.wrap (0 - v14)))) (iteO (decide (0 < v14)) (some true) (iteO (decide (0 < v18)) (some true) (bnd (intern_Compare x0 x2) (fun v47 => some (decide (v47 = (min v14 v18))))))) (some false))) (some false))) (some false)))))
theorem whittlelaw05_InternOrder_con {σ : Store} {x0 : List Int} {a0_0 : Option Addr} {c0_0 : Nat} {x1 : List Int} {a1_0 : Option Addr} {c1_0 : Nat} {x2 : List Int} {a2_0 : Option Addr} {c2_0 : Nat} (f0_0 : RS σ 1 Go.E.encI (.slice a0_0 x0.length c0_0) x0) (f1_0 : RS σ 1 Go.E.encI (.slice a1_0 x1.length c1_0) x1) (f2_0 : RS σ 1 Go.E.encI (.slice a2_0 x2.length c2_0) x2) {r : Bool} (hh : whittlelaw05_InternOrder x0 x1 x2 = some r) :
    Con Try.prog 13 #[.slice a0_0 x0.length c0_0, .slice a1_0 x1.length c1_0, .slice a2_0 x2.length c2_0] σ [] (PureP (.bool r) σ) := by
  dsimp only [whittlelaw05_InternOrder] at hh
  have f0_0b := f0_0.rv.big
  have f1_0b := f1_0.rv.big
  have f2_0b := f2_0.rv.big
  refine Con.mk (n := 58) Try.func13 rfl rfl rfl (fun w0 => ?_)
  refine TC.seq ?_
  refine TC.region ?_
  refine TL.v rfl (OpVal.moveB (.inr rfl) rfl) rfl rfl ?_
  refine TL.nil ?_
  refine S.n ?_
  refine TC.seq ?_
  refine TC.seq ?_
  refine TC.region ?_
  refine TL.v rfl (OpVal.moveSl (.inl rfl) rfl) rfl rfl ?_
  refine TL.v rfl (OpVal.lenC rfl Try.underlying22 rfl) rfl rfl ?_
  refine TL.v rfl (OpVal.moveSl (.inl rfl) rfl) rfl rfl ?_
  refine TL.v rfl (OpVal.lenC rfl Try.underlying22 rfl) rfl rfl ?_
  refine TL.v rfl (OpVal.addW rfl rfl rfl) rfl rfl ?_
  refine TL.v rfl (OpVal.moveSl (.inl rfl) rfl) rfl rfl ?_
  refine TL.v rfl (OpVal.lenC rfl Try.underlying22 rfl) rfl rfl ?_
  refine TL.v rfl (OpVal.addW rfl rfl rfl) rfl rfl ?_
  refine TL.v rfl (OpVal.gtr rfl rfl rfl) rfl rfl ?_
  refine TL.nil ?_
  refine S.n ?_
  refine TC.cond rfl (fun h101 => ?_) (fun h101 => ?_)
  · replace hh := iteO_t h101 hh
    replace h101 := of_decide_eq_true h101
    refine TC.seq ?_
    refine TC.region ?_
    refine TL.v rfl (OpVal.moveB (.inr rfl) rfl) rfl rfl ?_
    refine TL.nil ?_
    refine S.n ?_
    refine TC.ret ?_
    refine S.r ?_
    obtain rfl := Option.some.inj hh
    exact RetOk.mk' (rs := [.tmp 6]) [] rfl (.inl rfl) (RVs.tmp rfl RVs.nil) (List.sublist_append_left _ _) ⟨rfl, rfl, rfl⟩
  · replace hh := iteO_f h101 hh
    replace h101 := of_decide_eq_false h101
    refine TC.skip ?_
    refine S.n ?_
    refine TC.seq ?_
    refine TC.region ?_
    refine TL.v rfl (OpVal.moveSl (.inl rfl) rfl) rfl rfl ?_
    refine TL.v rfl (OpVal.moveSl (.inl rfl) rfl) rfl rfl ?_
    obtain ⟨v14, u14, hh⟩ := bnd_e hh
    refine TL.op rfl (OpOk.callP (intern_Compare_con f0_0 f1_0 u14) rfl rfl pf50 rfl rfl rfl ?_)
    refine TL.v rfl (OpVal.moveI (.inr rfl) rfl) rfl rfl ?_
    refine TL.nil ?_
    refine S.n ?_
    refine TC.seq ?_
    refine TC.region ?_
    refine TL.v rfl (OpVal.moveSl (.inl rfl) rfl) rfl rfl ?_
    refine TL.v rfl (OpVal.moveSl (.inl rfl) rfl) rfl rfl ?_
    obtain ⟨v18, u18, hh⟩ := bnd_e hh
    refine TL.op rfl (OpOk.callP (intern_Compare_con f1_0 f2_0 u18) rfl rfl pf50 rfl rfl rfl ?_)
    refine TL.v rfl (OpVal.moveI (.inr rfl) rfl) rfl rfl ?_
    refine TL.nil ?_
    refine S.n ?_
    refine TC.seq ?_
    refine TC.region ?_
    obtain ⟨v20, u20, hh⟩ := bnd_e hh
    refine TL.op rfl (OpOk.callP (whittlelaw05_awake_con u20) rfl rfl pf38 rfl rfl rfl ?_)
    refine TL.v rfl (OpVal.moveB (.inl rfl) rfl) rfl rfl ?_
    refine TL.split 25 rfl (fun h102 => ?_) (fun h102 => ?_)
    · replace hh := iteO_t h102 hh
      refine TL.gv rfl rfl rfl rfl rfl (OpVal.moveI (.inl rfl) rfl) rfl rfl ?_
      refine TL.gv rfl rfl rfl rfl rfl (OpVal.eql rfl rfl rfl) rfl rfl ?_
      refine TL.gv rfl rfl rfl rfl rfl (OpVal.moveSl (.inl rfl) rfl) rfl rfl ?_
      refine TL.gv rfl rfl rfl rfl rfl (OpVal.moveSl (.inl rfl) rfl) rfl rfl ?_
      obtain ⟨v26, u26, hh⟩ := bnd_e hh
      refine TL.gon rfl rfl rfl rfl rfl (OpOk.callP (whittleref02_Ints_con f0_0 f1_0 u26) rfl rfl pf46 rfl rfl rfl ?_)
      refine TL.gv rfl rfl rfl rfl rfl (OpVal.eqlB rfl rfl rfl Try.underlying4) rfl rfl ?_
      refine TL.v rfl (OpVal.pickTB rfl rfl rfl) rfl rfl ?_
      refine TL.v rfl (OpVal.moveB (.inl rfl) rfl) rfl rfl ?_
      refine TL.split 33 rfl (fun h103 => ?_) (fun h103 => ?_)
      · replace hh := iteO_t h103 hh
        refine TL.gv rfl rfl rfl rfl rfl (OpVal.moveSl (.inl rfl) rfl) rfl rfl ?_
        refine TL.gv rfl rfl rfl rfl rfl (OpVal.moveSl (.inl rfl) rfl) rfl rfl ?_
        obtain ⟨v32, u32, hh⟩ := bnd_e hh
        refine TL.gon rfl rfl rfl rfl rfl (OpOk.callP (intern_Compare_con f1_0 f0_0 u32) rfl rfl pf50 rfl rfl rfl ?_)
        refine TL.gv rfl rfl rfl rfl rfl (OpVal.moveI (.inl rfl) rfl) rfl rfl ?_
        refine TL.gv rfl rfl rfl rfl rfl (OpVal.subW rfl rfl rfl) rfl rfl ?_
        refine TL.gv rfl rfl rfl rfl rfl (OpVal.eql rfl rfl rfl) rfl rfl ?_
        refine TL.v rfl (OpVal.pickTB rfl rfl rfl) rfl rfl ?_
        refine TL.v rfl (OpVal.moveB (.inl rfl) rfl) rfl rfl ?_
        refine TL.split 41 rfl (fun h104 => ?_) (fun h104 => ?_)
        · replace hh := iteO_t h104 hh
          replace h104 := of_decide_eq_true h104
          refine TL.gv rfl rfl rfl rfl rfl (OpVal.moveI (.inl rfl) rfl) rfl rfl ?_
          refine TL.gv rfl rfl rfl rfl rfl (OpVal.gtr rfl rfl rfl) rfl rfl ?_
          refine TL.gv rfl rfl rfl rfl rfl (OpVal.moveB (.inl rfl) rfl) rfl rfl ?_
          refine TL.split 44 rfl (fun h105 => ?_) (fun h105 => ?_)
          · replace hh := iteO_t h105 hh
            replace h105 := of_decide_eq_true h105
            refine TL.goff rfl rfl rfl rfl rfl rfl rfl rfl ?_
            refine TL.goff rfl rfl rfl rfl rfl rfl rfl rfl ?_
            refine TL.gv rfl rfl rfl rfl rfl (OpVal.pickTB rfl rfl rfl) rfl rfl ?_
            refine TL.gv rfl rfl rfl rfl rfl (OpVal.moveB (.inl rfl) rfl) rfl rfl ?_
            refine TL.goff rfl rfl rfl rfl rfl rfl rfl rfl ?_
            refine TL.goff rfl rfl rfl rfl rfl rfl rfl rfl ?_
            refine TL.goff rfl rfl rfl rfl rfl rfl rfl rfl ?_
            refine TL.goff rfl rfl rfl rfl rfl rfl rfl rfl ?_
            refine TL.goff rfl rfl rfl rfl rfl rfl rfl rfl ?_
            refine TL.goff rfl rfl rfl rfl rfl rfl rfl rfl ?_
            refine TL.goff rfl rfl rfl rfl rfl rfl rfl rfl ?_
            refine TL.gv rfl rfl rfl rfl rfl (OpVal.pickTB rfl rfl rfl) rfl rfl ?_
            refine TL.v rfl (OpVal.pickTB rfl rfl rfl) rfl rfl ?_
            refine TL.v rfl (OpVal.moveB (.inr rfl) rfl) rfl rfl ?_
            refine TL.nil ?_
            refine S.n ?_
            refine TC.ret ?_
            obtain rfl := Option.some.inj hh
            exact RetOk.mk' (rs := [.tmp 6]) [] rfl (.inl rfl) (RVs.tmp rfl RVs.nil) (List.sublist_append_left _ _) ⟨rfl, rfl, rfl⟩
          · replace hh := iteO_f h105 hh
            replace h105 := of_decide_eq_false h105
            refine TL.gv rfl rfl rfl rfl rfl (OpVal.moveI (.inl rfl) rfl) rfl rfl ?_
            refine TL.gv rfl rfl rfl rfl rfl (OpVal.gtr rfl rfl rfl) rfl rfl ?_
            refine TL.gv rfl rfl rfl rfl rfl (OpVal.pickFB rfl rfl rfl) rfl rfl ?_
            refine TL.gv rfl rfl rfl rfl rfl (OpVal.moveB (.inl rfl) rfl) rfl rfl ?_
            refine TL.split 48 rfl (fun h106 => ?_) (fun h106 => ?_)
            · replace hh := iteO_t h106 hh
              replace h106 := of_decide_eq_true h106
              refine TL.goff rfl rfl rfl rfl rfl rfl rfl rfl ?_
              refine TL.goff rfl rfl rfl rfl rfl rfl rfl rfl ?_
              refine TL.goff rfl rfl rfl rfl rfl rfl rfl rfl ?_
              refine TL.goff rfl rfl rfl rfl rfl rfl rfl rfl ?_
              refine TL.goff rfl rfl rfl rfl rfl rfl rfl rfl ?_
              refine TL.goff rfl rfl rfl rfl rfl rfl rfl rfl ?_
              refine TL.goff rfl rfl rfl rfl rfl rfl rfl rfl ?_
              refine TL.gv rfl rfl rfl rfl rfl (OpVal.pickTB rfl rfl rfl) rfl rfl ?_
              refine TL.v rfl (OpVal.pickTB rfl rfl rfl) rfl rfl ?_
              refine TL.v rfl (OpVal.moveB (.inr rfl) rfl) rfl rfl ?_
              refine TL.nil ?_
              refine S.n ?_
              refine TC.ret ?_
              obtain rfl := Option.some.inj hh
              exact RetOk.mk' (rs := [.tmp 6]) [] rfl (.inl rfl) (RVs.tmp rfl RVs.nil) (List.sublist_append_left _ _) ⟨rfl, rfl, rfl⟩
            · replace hh := iteO_f h106 hh
              replace h106 := of_decide_eq_false h106
              refine TL.gv rfl rfl rfl rfl rfl (OpVal.moveSl (.inl rfl) rfl) rfl rfl ?_
              refine TL.gv rfl rfl rfl rfl rfl (OpVal.moveSl (.inl rfl) rfl) rfl rfl ?_
              obtain ⟨v47, u47, hh⟩ := bnd_e hh
              refine TL.gon rfl rfl rfl rfl rfl (OpOk.callP (intern_Compare_con f0_0 f2_0 u47) rfl rfl pf50 rfl rfl rfl ?_)
              refine TL.gv rfl rfl rfl rfl rfl (OpVal.moveI (.inl rfl) rfl) rfl rfl ?_
              refine TL.gv rfl rfl rfl rfl rfl (OpVal.moveI (.inl rfl) rfl) rfl rfl ?_
              refine TL.gv rfl rfl rfl rfl rfl (OpVal.minI rfl rfl rfl) rfl rfl ?_
              refine TL.gv rfl rfl rfl rfl rfl (OpVal.eql rfl rfl rfl) rfl rfl ?_
              refine TL.gv rfl rfl rfl rfl rfl (OpVal.pickFB rfl rfl rfl) rfl rfl ?_
              refine TL.v rfl (OpVal.pickTB rfl rfl rfl) rfl rfl ?_
              refine TL.v rfl (OpVal.moveB (.inr rfl) rfl) rfl rfl ?_
              refine TL.nil ?_
              refine S.n ?_
              refine TC.ret ?_
              obtain rfl := Option.some.inj hh
              exact RetOk.mk' (rs := [.tmp 6]) [] rfl (.inl rfl) (RVs.tmp rfl RVs.nil) (List.sublist_append_left _ _) ⟨rfl, rfl, rfl⟩
        · replace hh := iteO_f h104 hh
          replace h104 := of_decide_eq_false h104
          refine TL.goff rfl rfl rfl rfl rfl rfl rfl rfl ?_
          refine TL.goff rfl rfl rfl rfl rfl rfl rfl rfl ?_
          refine TL.goff rfl rfl rfl rfl rfl rfl rfl rfl ?_
          refine TL.goff' rfl rfl rfl rfl rfl rfl rfl ?_
          refine TL.goff' rfl rfl rfl rfl rfl rfl rfl ?_
          refine TL.goff rfl rfl rfl rfl rfl rfl rfl rfl ?_
          refine TL.goff rfl rfl rfl rfl rfl rfl rfl rfl ?_
          refine TL.goff' rfl rfl rfl rfl rfl rfl rfl ?_
          refine TL.goff' rfl rfl rfl rfl rfl rfl rfl ?_
          refine TL.goff' rfl rfl rfl rfl rfl rfl rfl ?_
          refine TL.goff' rfl rfl rfl rfl rfl rfl rfl ?_
          refine TL.goff' rfl rfl rfl rfl rfl rfl rfl ?_
          refine TL.goff' rfl rfl rfl rfl rfl rfl rfl ?_
          refine TL.goff' rfl rfl rfl rfl rfl rfl rfl ?_
          refine TL.goff rfl rfl rfl rfl rfl rfl rfl rfl ?_
          refine TL.v rfl (OpVal.pickFB rfl rfl rfl) rfl rfl ?_
          refine TL.v rfl (OpVal.moveB (.inr rfl) rfl) rfl rfl ?_
          refine TL.nil ?_
          refine S.n ?_
          refine TC.ret ?_
          obtain rfl := Option.some.inj hh
          exact RetOk.mk' (rs := [.tmp 6]) [] rfl (.inl rfl) (RVs.tmp rfl RVs.nil) (List.sublist_append_left _ _) ⟨rfl, rfl, rfl⟩
      · replace hh := iteO_f h103 hh
        refine TL.goff rfl rfl rfl rfl rfl rfl rfl rfl ?_
        refine TL.goff rfl rfl rfl rfl rfl rfl rfl rfl ?_
        refine TL.goff rfl rfl rfl rfl rfl rfl rfl rfl ?_
        refine TL.goff rfl rfl rfl rfl rfl rfl rfl rfl ?_
        refine TL.goff rfl rfl rfl rfl rfl rfl rfl rfl ?_
        refine TL.goff rfl rfl rfl rfl rfl rfl rfl rfl ?_
        refine TL.v rfl (OpVal.pickFB rfl rfl rfl) rfl rfl ?_
        refine TL.v rfl (OpVal.moveB (.inl rfl) rfl) rfl rfl ?_
        refine TL.goff rfl rfl rfl rfl rfl rfl rfl rfl ?_
        refine TL.goff rfl rfl rfl rfl rfl rfl rfl rfl ?_
        refine TL.goff rfl rfl rfl rfl rfl rfl rfl rfl ?_
        refine TL.goff' rfl rfl rfl rfl rfl rfl rfl ?_
        refine TL.goff' rfl rfl rfl rfl rfl rfl rfl ?_
        refine TL.goff rfl rfl rfl rfl rfl rfl rfl rfl ?_
        refine TL.goff rfl rfl rfl rfl rfl rfl rfl rfl ?_
        refine TL.goff' rfl rfl rfl rfl rfl rfl rfl ?_
        refine TL.goff' rfl rfl rfl rfl rfl rfl rfl ?_
        refine TL.goff' rfl rfl rfl rfl rfl rfl rfl ?_
        refine TL.goff' rfl rfl rfl rfl rfl rfl rfl ?_
        refine TL.goff' rfl rfl rfl rfl rfl rfl rfl ?_
        refine TL.goff' rfl rfl rfl rfl rfl rfl rfl ?_
        refine TL.goff' rfl rfl rfl rfl rfl rfl rfl ?_
        refine TL.goff rfl rfl rfl rfl rfl rfl rfl rfl ?_
        refine TL.v rfl (OpVal.pickFB rfl rfl rfl) rfl rfl ?_
        refine TL.v rfl (OpVal.moveB (.inr rfl) rfl) rfl rfl ?_
        refine TL.nil ?_
        refine S.n ?_
        refine TC.ret ?_
        obtain rfl := Option.some.inj hh
        exact RetOk.mk' (rs := [.tmp 6]) [] rfl (.inl rfl) (RVs.tmp rfl RVs.nil) (List.sublist_append_left _ _) ⟨rfl, rfl, rfl⟩
    · replace hh := iteO_f h102 hh
      refine TL.goff rfl rfl rfl rfl rfl rfl rfl rfl ?_
      refine TL.goff rfl rfl rfl rfl rfl rfl rfl rfl ?_
      refine TL.goff rfl rfl rfl rfl rfl rfl rfl rfl ?_
      refine TL.goff rfl rfl rfl rfl rfl rfl rfl rfl ?_
      refine TL.goff rfl rfl rfl rfl rfl rfl rfl rfl ?_
      refine TL.goff rfl rfl rfl rfl rfl rfl rfl rfl ?_
      refine TL.v rfl (OpVal.pickFB rfl rfl rfl) rfl rfl ?_
      refine TL.v rfl (OpVal.moveB (.inl rfl) rfl) rfl rfl ?_
      refine TL.goff rfl rfl rfl rfl rfl rfl rfl rfl ?_
      refine TL.goff rfl rfl rfl rfl rfl rfl rfl rfl ?_
      refine TL.goff rfl rfl rfl rfl rfl rfl rfl rfl ?_
      refine TL.goff rfl rfl rfl rfl rfl rfl rfl rfl ?_
      refine TL.goff rfl rfl rfl rfl rfl rfl rfl rfl ?_
      refine TL.goff rfl rfl rfl rfl rfl rfl rfl rfl ?_
      refine TL.v rfl (OpVal.pickFB rfl rfl rfl) rfl rfl ?_
      refine TL.v rfl (OpVal.moveB (.inl rfl) rfl) rfl rfl ?_
      refine TL.goff rfl rfl rfl rfl rfl rfl rfl rfl ?_
      refine TL.goff rfl rfl rfl rfl rfl rfl rfl rfl ?_
      refine TL.goff rfl rfl rfl rfl rfl rfl rfl rfl ?_
      refine TL.goff' rfl rfl rfl rfl rfl rfl rfl ?_
      refine TL.goff' rfl rfl rfl rfl rfl rfl rfl ?_
      refine TL.goff rfl rfl rfl rfl rfl rfl rfl rfl ?_
      refine TL.goff rfl rfl rfl rfl rfl rfl rfl rfl ?_
      refine TL.goff' rfl rfl rfl rfl rfl rfl rfl ?_
      refine TL.goff' rfl rfl rfl rfl rfl rfl rfl ?_
      refine TL.goff' rfl rfl rfl rfl rfl rfl rfl ?_
      refine TL.goff' rfl rfl rfl rfl rfl rfl rfl ?_
      refine TL.goff' rfl rfl rfl rfl rfl rfl rfl ?_
      refine TL.goff' rfl rfl rfl rfl rfl rfl rfl ?_
      refine TL.goff' rfl rfl rfl rfl rfl rfl rfl ?_
      refine TL.goff rfl rfl rfl rfl rfl rfl rfl rfl ?_
      refine TL.v rfl (OpVal.pickFB rfl rfl rfl) rfl rfl ?_
      refine TL.v rfl (OpVal.moveB (.inr rfl) rfl) rfl rfl ?_
      refine TL.nil ?_
      refine S.n ?_
      refine TC.ret ?_
      obtain rfl := Option.some.inj hh
      exact RetOk.mk' (rs := [.tmp 6]) [] rfl (.inl rfl) (RVs.tmp rfl RVs.nil) (List.sublist_append_left _ _) ⟨rfl, rfl, rfl⟩

noncomputable def whittlelaw05_InternFull_b1 (x0 : Int) (l129 : List (List Int)) (m135 : FM (List UInt8) Int) (k137 : Nat) : Option (((List (List Int)) × (FM (List UInt8) Int) × Nat) ⊕ (Bool)) :=
  iteO (decide (((k137 : Nat) : Int) < 4096)) (bnd (putKeep (⟨(⟨l129, m135⟩ : IStore)⟩ : ITable) [((k137 : Nat) : Int), (-1)]) (fun v20 => iteO (decide (v20.1 ≠ ((k137 : Nat) : Int))) (fin (some false)) (iteO (!v20.2.1) (fin (some false)) (iteO (decide (v20.2.2.1 ≠ 0)) (fin (some false)) (nxt (v20.2.2.2.of.rows, v20.2.2.2.of.places, (k137 + 1))))))) (fin (bnd (putKeep (⟨(⟨l129, m135⟩ : IStore)⟩ : ITable) [x0]) (fun v46 => bnd (putKeep (⟨(⟨v46.2.2.2.of.rows, v46.2.2.2.of.places⟩ : IStore)⟩ : ITable) [(-1), x0]) (fun v57 => bnd (whittlelaw05_awake) (fun v65 => iteO v65 (iteO (decide (v46.2.2.1 = 2)) (iteO (decide (v57.1 = x0)) (iteO (!v57.2.1) (iteO (decide (v57.2.2.1 = 0)) (bnd (intern_Table_Size (⟨(⟨v57.2.2.2.of.rows, v57.2.2.2.of.places⟩ : IStore)⟩ : ITable)) (fun v85 => some (decide (v85 = 4096)))) (some false)) (some false)) (some false)) (some false)) (some false))))))
noncomputable def whittlelaw05_InternFull (x0 : Int) : Option (Bool) :=
  iteO (decide (x0 < 0)) (some true) (iteO (decide (100 < x0)) (some true) (bnd (intern_New) (fun v9 => iter (fun q : (List (List Int)) × (FM (List UInt8) Int) × Nat => whittlelaw05_InternFull_b1 x0 q.1 q.2.1 q.2.2) (v9.of.rows, v9.of.places, 0))))
theorem whittlelaw05_InternFull_con {σ : Store} {x0 : Int}  {r : Bool} (hh : whittlelaw05_InternFull x0 = some r) :
    Con Try.prog 8 #[.int .i64 x0] σ [] (PureP (.bool r) σ) := by
  dsimp only [whittlelaw05_InternFull] at hh
  refine Con.mk (n := 85) Try.func8 rfl rfl rfl (fun w0 => ?_)
  refine TC.seq ?_
  refine TC.region ?_
  refine TL.v rfl (OpVal.moveB (.inr rfl) rfl) rfl rfl ?_
  refine TL.nil ?_
  refine S.n ?_
  refine TC.seq ?_
  refine TC.seq ?_
  refine TC.region ?_
  refine TL.v rfl (OpVal.moveI (.inl rfl) rfl) rfl rfl ?_
  refine TL.v rfl (OpVal.lss rfl rfl rfl) rfl rfl ?_
  refine TL.v rfl (OpVal.moveB (.inl rfl) rfl) rfl rfl ?_
  refine TL.split 16 rfl (fun h101 => ?_) (fun h101 => ?_)
  · replace hh := iteO_t h101 hh
    replace h101 := of_decide_eq_true h101
    refine TL.goff rfl rfl rfl rfl rfl rfl rfl rfl ?_
    refine TL.goff rfl rfl rfl rfl rfl rfl rfl rfl ?_
    refine TL.v rfl (OpVal.pickTB rfl rfl rfl) rfl rfl ?_
    refine TL.nil ?_
    refine S.n ?_
    refine TC.cond rfl (fun _ => ?_) (fun h => Bool.noConfusion h)
    refine TC.seq ?_
    refine TC.region ?_
    refine TL.v rfl (OpVal.moveB (.inr rfl) rfl) rfl rfl ?_
    refine TL.nil ?_
    refine S.n ?_
    refine TC.ret ?_
    refine S.r ?_
    obtain rfl := Option.some.inj hh
    exact RetOk.mk' (rs := [.tmp 2]) [] rfl (.inl rfl) (RVs.tmp rfl RVs.nil) (List.sublist_append_left _ _) ⟨rfl, rfl, rfl⟩
  · replace hh := iteO_f h101 hh
    replace h101 := of_decide_eq_false h101
    refine TL.gv rfl rfl rfl rfl rfl (OpVal.moveI (.inl rfl) rfl) rfl rfl ?_
    refine TL.gv rfl rfl rfl rfl rfl (OpVal.gtr rfl rfl rfl) rfl rfl ?_
    refine TL.v rfl (OpVal.pickFB rfl rfl rfl) rfl rfl ?_
    refine TL.nil ?_
    refine S.n ?_
    refine TC.cond rfl (fun h102 => ?_) (fun h102 => ?_)
    · replace hh := iteO_t h102 hh
      replace h102 := of_decide_eq_true h102
      refine TC.seq ?_
      refine TC.region ?_
      refine TL.v rfl (OpVal.moveB (.inr rfl) rfl) rfl rfl ?_
      refine TL.nil ?_
      refine S.n ?_
      refine TC.ret ?_
      refine S.r ?_
      obtain rfl := Option.some.inj hh
      exact RetOk.mk' (rs := [.tmp 2]) [] rfl (.inl rfl) (RVs.tmp rfl RVs.nil) (List.sublist_append_left _ _) ⟨rfl, rfl, rfl⟩
    · replace hh := iteO_f h102 hh
      replace h102 := of_decide_eq_false h102
      refine TC.skip ?_
      refine S.n ?_
      refine TC.seq ?_
      refine TC.region ?_
      obtain ⟨v9, u9, hh⟩ := bnd_e hh
      refine TL.op rfl (OpOk.call (intern_New_con u9) rfl rfl pf36 rfl rfl rfl rfl ?_)
      rintro _ τ103 _ hle103 ⟨b103_1, a103_2, c103_3, z103_4, b103_6, rfl, zf103_5, rfl⟩
      have zf103_5b := zf103_5.length
      refine TL.v rfl (OpVal.moveLoc (.inr rfl) rfl) rfl rfl ?_
      refine TL.nil ?_
      refine S.n ?_
      refine TC.seq ?_
      refine TC.seq ?_
      refine TC.region ?_
      refine TL.v rfl (OpVal.moveLoc (.inl rfl) rfl) rfl rfl ?_
      refine TL.v rfl (OpVal.eqlNil rfl Try.underlying50 rfl rfl) rfl rfl ?_
      refine TL.nil ?_
      refine S.n ?_
      refine TC.cond rfl (fun h => Bool.noConfusion h) (fun _ => ?_)
      refine TC.skip ?_
      refine S.n ?_
      refine TC.seq ?_
      refine TC.seq ?_
      refine TC.region ?_
      refine TL.v rfl (OpVal.moveI (.inr rfl) rfl) rfl rfl ?_
      refine TL.nil ?_
      refine S.n ?_
      refine TC.block ?_
      refine TC.loopG (α := ((List (List Int)) × (FM (List UInt8) Int) × Nat) × ((Option Addr) × Nat × (List (List Int × (pkSl 1 Go.E.encI Go.E.encI_len).P)) × Nat × Store)) [2, 4, 5, 6, 7, 23, 24, 25, 26, 27, 28, 29, 30, 31, 32, 33, 34, 35, 36, 37, 38, 39, 40, 41, 42, 43, 44, 45] (fun g => [(4, .int .i64 ((g.1.2.2 : Nat) : Int))]) (fun g => [Res.cells b103_1 #[.slice g.2.1 g.1.1.length g.2.2.1, .map (some g.2.2.2.2.1)] 101, Res.rowS 22 1 (pkSl 1 Go.E.encI Go.E.encI_len).en (.slice g.2.1 g.1.1.length g.2.2.1) g.2.2.2.1, Res.mapB keyS keyI (some g.2.2.2.2.1) g.1.2.1]) (fun g => g.2.2.2.2.2) (fun g => iter (fun q : (List (List Int)) × (FM (List UInt8) Int) × Nat => whittlelaw05_InternFull_b1 x0 q.1 q.2.1 q.2.2) g.1 = some r ∧ ZOk g.2.2.2.2.2 (pkSl 1 Go.E.encI Go.E.encI_len) g.2.2.2.1 g.1.1 ∧ Store.le τ103 g.2.2.2.2.2) (fun g => rounds (fun q : (List (List Int)) × (FM (List UInt8) Int) × Nat => whittlelaw05_InternFull_b1 x0 q.1 q.2.1 q.2.2) g.1) ((v9.of.rows, v9.of.places, 0), (a103_2, c103_3, z103_4, b103_6, τ103)) (Sub.front 2 rfl rfl (Sub.front 2 rfl rfl (Sub.front 2 rfl rfl (Sub.pre 3 rfl)))) rfl (by repeat (first | exact trivial | refine ⟨rfl, ?_⟩)) ⟨hh, zf103_5, (Store.le.refl _)⟩ (fun g1 j1 hg1 => ?_)
      obtain ⟨⟨l129, m135, k137⟩, ⟨a130, c131, z132, b136, τ138⟩⟩ := g1
      obtain ⟨hh, zf133, hle139⟩ := hg1
      try dsimp only at zf133
      dsimp only at hle139
      replace zf103_5 := zf103_5.mono hle139
      show TC _ _ _ (upds (mask _ j1 _) [(4, .int .i64 ((k137 : Nat) : Int))]) τ138 [Res.cells b103_1 #[.slice a130 l129.length c131, .map (some b136)] 101, Res.rowS 22 1 (pkSl 1 Go.E.encI Go.E.encI_len).en (.slice a130 l129.length c131) z132, Res.mapB keyS keyI (some b136) m135]
      obtain ⟨z1, hh, hR1⟩ := iter_e hh
      dsimp only [whittlelaw05_InternFull_b1] at hh
      have zf133b := zf133.length
      refine TC.isSl (i := 1) rfl (fun _ hb140 _ => ?_)
      refine TC.seq ?_
      refine TC.seq ?_
      refine TC.region ?_
      refine TL.v rfl (OpVal.moveI (.inl rfl) rfl) rfl rfl ?_
      refine TL.v rfl (OpVal.lss rfl rfl rfl) rfl rfl ?_
      refine TL.nil ?_
      refine S.n ?_
      refine TC.cond rfl (fun h141 => ?_) (fun h141 => ?_)
      · replace hh := iteO_t h141 hh
        replace h141 := of_decide_eq_true h141
        refine TC.skip ?_
        refine S.n ?_
        refine TC.seq ?_
        refine TC.block ?_
        refine TC.seq ?_
        refine TC.region ?_
        refine TL.v rfl (OpVal.moveLoc (.inl rfl) rfl) rfl rfl ?_
        refine TL.v rfl (OpVal.moveI (.inl rfl) rfl) rfl rfl ?_
        refine TL.op rfl (OpOk.lit (enc := Go.E.encI) [((k137 : Nat) : Int), (-1)] rfl Try.underlying22 sz3 ze3 rfl rfl rfl Go.E.encI_len (by decide) (by decide) (0 : Int) rfl (by decide) rfl (by decide) Go.E.encI_one (fun a142 c143 => ?_))
        refine TL.front 3 rfl rfl ?_
        refine TL.front 3 rfl rfl ?_
        refine TL.front 3 rfl rfl ?_
        obtain ⟨v20, u20, hh⟩ := bnd_e hh
        refine TL.op rfl (OpOk.call (putKeep_con zf133 u20) rfl rfl pf37 rfl rfl rfl rfl ?_)
        rintro _ τ145 _ hle145 ⟨a145_1, c145_2, z145_3, b145_5, rfl, zf145_4, rfl⟩
        replace zf103_5 := zf103_5.mono hle145
        replace zf133 := zf133.mono hle145
        have zf145_4b := zf145_4.length
        refine TL.v rfl (OpVal.moveT (.inl rfl) rfl) rfl rfl ?_
        refine TL.v rfl (OpVal.extract rfl rfl rfl) rfl rfl ?_
        refine TL.v rfl (OpVal.extract rfl rfl rfl) rfl rfl ?_
        refine TL.v rfl (OpVal.extract rfl rfl rfl) rfl rfl ?_
        refine TL.v rfl (OpVal.moveI (.inr rfl) rfl) rfl rfl ?_
        refine TL.v rfl (OpVal.moveB (.inr rfl) rfl) rfl rfl ?_
        refine TL.v rfl (OpVal.moveI (.inr rfl) rfl) rfl rfl ?_
        refine TL.nil ?_
        refine S.n ?_
        refine TC.seq ?_
        refine TC.region ?_
        refine TL.v rfl (OpVal.moveI (.inl rfl) rfl) rfl rfl ?_
        refine TL.v rfl (OpVal.moveI (.inl rfl) rfl) rfl rfl ?_
        refine TL.v rfl (OpVal.neq rfl rfl rfl) rfl rfl ?_
        refine TL.v rfl (OpVal.moveB (.inl rfl) rfl) rfl rfl ?_
        refine TL.split 38 rfl (fun h148 => ?_) (fun h148 => ?_)
        · replace hh := iteO_t h148 hh
          replace h148 := of_decide_eq_true h148
          refine TL.goff rfl rfl rfl rfl rfl rfl rfl rfl ?_
          refine TL.goff rfl rfl rfl rfl rfl rfl rfl rfl ?_
          refine TL.v rfl (OpVal.pickTB rfl rfl rfl) rfl rfl ?_
          refine TL.v rfl (OpVal.moveB (.inl rfl) rfl) rfl rfl ?_
          refine TL.goff rfl rfl rfl rfl rfl rfl rfl rfl ?_
          refine TL.goff rfl rfl rfl rfl rfl rfl rfl rfl ?_
          refine TL.v rfl (OpVal.pickTB rfl rfl rfl) rfl rfl ?_
          refine TL.nil ?_
          refine S.n ?_
          refine TC.cond rfl (fun _ => ?_) (fun h => Bool.noConfusion h)
          refine TC.seq ?_
          refine TC.region ?_
          refine TL.v rfl (OpVal.moveB (.inr rfl) rfl) rfl rfl ?_
          refine TL.nil ?_
          refine S.n ?_
          refine TC.ofSub (Sub.pre 0 rfl) ?_
          refine TC.back ?_
          refine TC.ret ?_
          refine B.r ?_
          refine S.r ?_
          refine S.r ?_
          replace hh := fin_x hR1 hh
          refine B.r ?_
          refine S.r ?_
          obtain rfl := Option.some.inj hh
          exact RetOk.mk' (rs := [.tmp 2]) [] rfl (.inl rfl) (RVs.tmp rfl RVs.nil) (List.sublist_append_left _ _) ⟨rfl, rfl, rfl⟩
        · replace hh := iteO_f h148 hh
          replace h148 := of_decide_eq_false h148
          refine TL.gv rfl rfl rfl rfl rfl (OpVal.moveB (.inl rfl) rfl) rfl rfl ?_
          refine TL.gv rfl rfl rfl rfl rfl (OpVal.not rfl rfl) rfl rfl ?_
          refine TL.v rfl (OpVal.pickFB rfl rfl rfl) rfl rfl ?_
          refine TL.v rfl (OpVal.moveB (.inl rfl) rfl) rfl rfl ?_
          refine TL.split 42 rfl (fun h149 => ?_) (fun h149 => ?_)
          · replace hh := iteO_t h149 hh
            refine TL.goff rfl rfl rfl rfl rfl rfl rfl rfl ?_
            refine TL.goff rfl rfl rfl rfl rfl rfl rfl rfl ?_
            refine TL.v rfl (OpVal.pickTB rfl rfl rfl) rfl rfl ?_
            refine TL.nil ?_
            refine S.n ?_
            refine TC.cond rfl (fun _ => ?_) (fun h => Bool.noConfusion h)
            refine TC.seq ?_
            refine TC.region ?_
            refine TL.v rfl (OpVal.moveB (.inr rfl) rfl) rfl rfl ?_
            refine TL.nil ?_
            refine S.n ?_
            refine TC.ofSub (Sub.pre 0 rfl) ?_
            refine TC.back ?_
            refine TC.ret ?_
            refine B.r ?_
            refine S.r ?_
            refine S.r ?_
            replace hh := fin_x hR1 hh
            refine B.r ?_
            refine S.r ?_
            obtain rfl := Option.some.inj hh
            exact RetOk.mk' (rs := [.tmp 2]) [] rfl (.inl rfl) (RVs.tmp rfl RVs.nil) (List.sublist_append_left _ _) ⟨rfl, rfl, rfl⟩
          · replace hh := iteO_f h149 hh
            refine TL.gv rfl rfl rfl rfl rfl (OpVal.moveI (.inl rfl) rfl) rfl rfl ?_
            refine TL.gv rfl rfl rfl rfl rfl (OpVal.neq rfl rfl rfl) rfl rfl ?_
            refine TL.v rfl (OpVal.pickFB rfl rfl rfl) rfl rfl ?_
            refine TL.nil ?_
            refine S.n ?_
            refine TC.cond rfl (fun h150 => ?_) (fun h150 => ?_)
            · replace hh := iteO_t h150 hh
              replace h150 := of_decide_eq_true h150
              refine TC.seq ?_
              refine TC.region ?_
              refine TL.v rfl (OpVal.moveB (.inr rfl) rfl) rfl rfl ?_
              refine TL.nil ?_
              refine S.n ?_
              refine TC.ofSub (Sub.pre 0 rfl) ?_
              refine TC.back ?_
              refine TC.ret ?_
              refine B.r ?_
              refine S.r ?_
              refine S.r ?_
              replace hh := fin_x hR1 hh
              refine B.r ?_
              refine S.r ?_
              obtain rfl := Option.some.inj hh
              exact RetOk.mk' (rs := [.tmp 2]) [] rfl (.inl rfl) (RVs.tmp rfl RVs.nil) (List.sublist_append_left _ _) ⟨rfl, rfl, rfl⟩
            · replace hh := iteO_f h150 hh
              replace h150 := of_decide_eq_false h150
              refine TC.skip ?_
              refine B.n ?_
              refine S.n ?_
              refine TC.region ?_
              refine TL.v rfl (OpVal.moveI (.inl rfl) rfl) rfl rfl ?_
              refine TL.v rfl (OpVal.succ rfl rfl rfl (by omega)) rfl rfl ?_
              refine TL.v rfl (OpVal.moveI (.inr rfl) rfl) rfl rfl ?_
              refine TL.nil ?_
              refine S.n ?_
              obtain ⟨hh, hlt151⟩ := nxt_x hR1 hh
              refine ⟨by repeat (first | exact Agr.refl _ _ | exact Agr.mask | refine Agr.upd rfl ?_ | refine Agr.maskIn rfl ?_ | refine Agr.upds rfl ?_), ((v20.2.2.2.of.rows, v20.2.2.2.of.places, (k137 + 1)), (a145_1, c145_2, z145_3, b145_5, τ145)), hlt151, ⟨hh, zf145_4, (hle139.trans hle145)⟩, by repeat (first | exact trivial | refine ⟨rfl, ?_⟩), Sub.front 2 rfl rfl (Sub.front 2 rfl rfl (Sub.front 2 rfl rfl (Sub.pre 3 rfl))), rfl⟩
      · replace hh := iteO_f h141 hh
        replace h141 := of_decide_eq_false h141
        refine TC.exit ?_
        refine S.x ?_
        refine S.x ?_
        replace hh := fin_x hR1 hh
        refine TC.exitHere ?_
        refine S.n ?_
        refine TC.seq ?_
        refine TC.region ?_
        refine TL.v rfl (OpVal.moveLoc (.inl rfl) rfl) rfl rfl ?_
        refine TL.v rfl (OpVal.moveI (.inl rfl) rfl) rfl rfl ?_
        refine TL.op rfl (OpOk.lit (enc := Go.E.encI) [x0] rfl Try.underlying22 sz3 ze3 rfl rfl rfl Go.E.encI_len (by decide) (by decide) (0 : Int) rfl (by decide) rfl (by decide) Go.E.encI_one (fun a152 c153 => ?_))
        refine TL.front 3 rfl rfl ?_
        refine TL.front 3 rfl rfl ?_
        refine TL.front 3 rfl rfl ?_
        obtain ⟨v46, u46, hh⟩ := bnd_e hh
        refine TL.op rfl (OpOk.call (putKeep_con zf133 u46) rfl rfl pf37 rfl rfl rfl rfl ?_)
        rintro _ τ155 _ hle155 ⟨a155_1, c155_2, z155_3, b155_5, rfl, zf155_4, rfl⟩
        replace zf103_5 := zf103_5.mono hle155
        replace zf133 := zf133.mono hle155
        have zf155_4b := zf155_4.length
        refine TL.v rfl (OpVal.moveT (.inl rfl) rfl) rfl rfl ?_
        refine TL.v rfl (OpVal.extract rfl rfl rfl) rfl rfl ?_
        refine TL.v rfl (OpVal.extract rfl rfl rfl) rfl rfl ?_
        refine TL.v rfl (OpVal.extract rfl rfl rfl) rfl rfl ?_
        refine TL.v rfl (OpVal.moveI (.inr rfl) rfl) rfl rfl ?_
        refine TL.v rfl (OpVal.moveB (.inr rfl) rfl) rfl rfl ?_
        refine TL.v rfl (OpVal.moveI (.inr rfl) rfl) rfl rfl ?_
        refine TL.nil ?_
        refine S.n ?_
        refine TC.seq ?_
        refine TC.region ?_
        refine TL.v rfl (OpVal.moveLoc (.inl rfl) rfl) rfl rfl ?_
        refine TL.v rfl (OpVal.moveI (.inl rfl) rfl) rfl rfl ?_
        refine TL.op rfl (OpOk.lit (enc := Go.E.encI) [(-1), x0] rfl Try.underlying22 sz3 ze3 rfl rfl rfl Go.E.encI_len (by decide) (by decide) (0 : Int) rfl (by decide) rfl (by decide) Go.E.encI_one (fun a158 c159 => ?_))
        refine TL.front 3 rfl rfl ?_
        refine TL.front 3 rfl rfl ?_
        refine TL.front 3 rfl rfl ?_
        obtain ⟨v57, u57, hh⟩ := bnd_e hh
        refine TL.op rfl (OpOk.call (putKeep_con zf155_4 u57) rfl rfl pf37 rfl rfl rfl rfl ?_)
        rintro _ τ161 _ hle161 ⟨a161_1, c161_2, z161_3, b161_5, rfl, zf161_4, rfl⟩
        replace zf103_5 := zf103_5.mono hle161
        replace zf133 := zf133.mono hle161
        replace zf155_4 := zf155_4.mono hle161
        have zf161_4b := zf161_4.length
        refine TL.v rfl (OpVal.moveT (.inl rfl) rfl) rfl rfl ?_
        refine TL.v rfl (OpVal.extract rfl rfl rfl) rfl rfl ?_
        refine TL.v rfl (OpVal.extract rfl rfl rfl) rfl rfl ?_
        refine TL.v rfl (OpVal.extract rfl rfl rfl) rfl rfl ?_
        refine TL.v rfl (OpVal.moveI (.inr rfl) rfl) rfl rfl ?_
        refine TL.v rfl (OpVal.moveB (.inr rfl) rfl) rfl rfl ?_
        refine TL.v rfl (OpVal.moveI (.inr rfl) rfl) rfl rfl ?_
        refine TL.nil ?_
        refine S.n ?_
        refine TC.seq ?_
        refine TC.region ?_
        obtain ⟨v65, u65, hh⟩ := bnd_e hh
        refine TL.op rfl (OpOk.callP (whittlelaw05_awake_con u65) rfl rfl pf38 rfl rfl rfl ?_)
        refine TL.v rfl (OpVal.moveB (.inl rfl) rfl) rfl rfl ?_
        refine TL.split 63 rfl (fun h164 => ?_) (fun h164 => ?_)
        · replace hh := iteO_t h164 hh
          refine TL.gv rfl rfl rfl rfl rfl (OpVal.moveI (.inl rfl) rfl) rfl rfl ?_
          refine TL.gv rfl rfl rfl rfl rfl (OpVal.eql rfl rfl rfl) rfl rfl ?_
          refine TL.v rfl (OpVal.pickTB rfl rfl rfl) rfl rfl ?_
          refine TL.v rfl (OpVal.moveB (.inl rfl) rfl) rfl rfl ?_
          refine TL.split 67 rfl (fun h165 => ?_) (fun h165 => ?_)
          · replace hh := iteO_t h165 hh
            replace h165 := of_decide_eq_true h165
            refine TL.gv rfl rfl rfl rfl rfl (OpVal.moveI (.inl rfl) rfl) rfl rfl ?_
            refine TL.gv rfl rfl rfl rfl rfl (OpVal.moveI (.inl rfl) rfl) rfl rfl ?_
            refine TL.gv rfl rfl rfl rfl rfl (OpVal.eql rfl rfl rfl) rfl rfl ?_
            refine TL.v rfl (OpVal.pickTB rfl rfl rfl) rfl rfl ?_
            refine TL.v rfl (OpVal.moveB (.inl rfl) rfl) rfl rfl ?_
            refine TL.split 72 rfl (fun h166 => ?_) (fun h166 => ?_)
            · replace hh := iteO_t h166 hh
              replace h166 := of_decide_eq_true h166
              refine TL.gv rfl rfl rfl rfl rfl (OpVal.moveB (.inl rfl) rfl) rfl rfl ?_
              refine TL.gv rfl rfl rfl rfl rfl (OpVal.not rfl rfl) rfl rfl ?_
              refine TL.v rfl (OpVal.pickTB rfl rfl rfl) rfl rfl ?_
              refine TL.v rfl (OpVal.moveB (.inl rfl) rfl) rfl rfl ?_
              refine TL.split 76 rfl (fun h167 => ?_) (fun h167 => ?_)
              · replace hh := iteO_t h167 hh
                refine TL.gv rfl rfl rfl rfl rfl (OpVal.moveI (.inl rfl) rfl) rfl rfl ?_
                refine TL.gv rfl rfl rfl rfl rfl (OpVal.eql rfl rfl rfl) rfl rfl ?_
                refine TL.v rfl (OpVal.pickTB rfl rfl rfl) rfl rfl ?_
                refine TL.v rfl (OpVal.moveB (.inl rfl) rfl) rfl rfl ?_
                refine TL.split 80 rfl (fun h168 => ?_) (fun h168 => ?_)
                · replace hh := iteO_t h168 hh
                  replace h168 := of_decide_eq_true h168
                  refine TL.gv rfl rfl rfl rfl rfl (OpVal.moveLoc (.inl rfl) rfl) rfl rfl ?_
                  refine TL.front 2 rfl rfl ?_
                  refine TL.front 2 rfl rfl ?_
                  refine TL.front 2 rfl rfl ?_
                  obtain ⟨v85, u85, hh⟩ := bnd_e hh
                  refine TL.gon rfl rfl rfl rfl rfl (OpOk.call (intern_Table_Size_con zf161_4 u85) rfl rfl pf39 rfl rfl rfl rfl ?_)
                  rintro _ _ _ hle169 ⟨rfl, rfl, rfl⟩
                  refine TL.gv rfl rfl rfl rfl rfl (OpVal.eql rfl rfl rfl) rfl rfl ?_
                  refine TL.v rfl (OpVal.pickTB rfl rfl rfl) rfl rfl ?_
                  refine TL.v rfl (OpVal.moveB (.inr rfl) rfl) rfl rfl ?_
                  refine TL.nil ?_
                  refine S.n ?_
                  refine TC.ofSub (Sub.pre 0 rfl) ?_
                  refine TC.back ?_
                  refine TC.ret ?_
                  obtain rfl := Option.some.inj hh
                  exact RetOk.mk' (rs := [.tmp 2]) [] rfl (.inl rfl) (RVs.tmp rfl RVs.nil) (List.sublist_append_left _ _) ⟨rfl, rfl, rfl⟩
                · replace hh := iteO_f h168 hh
                  replace h168 := of_decide_eq_false h168
                  refine TL.goff rfl rfl rfl rfl rfl rfl rfl rfl ?_
                  refine TL.goff rfl rfl rfl rfl rfl rfl rfl rfl ?_
                  refine TL.goff rfl rfl rfl rfl rfl rfl rfl rfl ?_
                  refine TL.v rfl (OpVal.pickFB rfl rfl rfl) rfl rfl ?_
                  refine TL.v rfl (OpVal.moveB (.inr rfl) rfl) rfl rfl ?_
                  refine TL.nil ?_
                  refine S.n ?_
                  refine TC.ofSub (Sub.pre 0 rfl) ?_
                  refine TC.back ?_
                  refine TC.ret ?_
                  obtain rfl := Option.some.inj hh
                  exact RetOk.mk' (rs := [.tmp 2]) [] rfl (.inl rfl) (RVs.tmp rfl RVs.nil) (List.sublist_append_left _ _) ⟨rfl, rfl, rfl⟩
              · replace hh := iteO_f h167 hh
                refine TL.goff rfl rfl rfl rfl rfl rfl rfl rfl ?_
                refine TL.goff rfl rfl rfl rfl rfl rfl rfl rfl ?_
                refine TL.v rfl (OpVal.pickFB rfl rfl rfl) rfl rfl ?_
                refine TL.v rfl (OpVal.moveB (.inl rfl) rfl) rfl rfl ?_
                refine TL.goff rfl rfl rfl rfl rfl rfl rfl rfl ?_
                refine TL.goff rfl rfl rfl rfl rfl rfl rfl rfl ?_
                refine TL.goff rfl rfl rfl rfl rfl rfl rfl rfl ?_
                refine TL.v rfl (OpVal.pickFB rfl rfl rfl) rfl rfl ?_
                refine TL.v rfl (OpVal.moveB (.inr rfl) rfl) rfl rfl ?_
                refine TL.nil ?_
                refine S.n ?_
                refine TC.ofSub (Sub.pre 0 rfl) ?_
                refine TC.back ?_
                refine TC.ret ?_
                obtain rfl := Option.some.inj hh
                exact RetOk.mk' (rs := [.tmp 2]) [] rfl (.inl rfl) (RVs.tmp rfl RVs.nil) (List.sublist_append_left _ _) ⟨rfl, rfl, rfl⟩
            · replace hh := iteO_f h166 hh
              replace h166 := of_decide_eq_false h166
              refine TL.goff rfl rfl rfl rfl rfl rfl rfl rfl ?_
              refine TL.goff rfl rfl rfl rfl rfl rfl rfl rfl ?_
              refine TL.v rfl (OpVal.pickFB rfl rfl rfl) rfl rfl ?_
              refine TL.v rfl (OpVal.moveB (.inl rfl) rfl) rfl rfl ?_
              refine TL.goff rfl rfl rfl rfl rfl rfl rfl rfl ?_
              refine TL.goff rfl rfl rfl rfl rfl rfl rfl rfl ?_
              refine TL.v rfl (OpVal.pickFB rfl rfl rfl) rfl rfl ?_
              refine TL.v rfl (OpVal.moveB (.inl rfl) rfl) rfl rfl ?_
              refine TL.goff rfl rfl rfl rfl rfl rfl rfl rfl ?_
              refine TL.goff rfl rfl rfl rfl rfl rfl rfl rfl ?_
              refine TL.goff rfl rfl rfl rfl rfl rfl rfl rfl ?_
              refine TL.v rfl (OpVal.pickFB rfl rfl rfl) rfl rfl ?_
              refine TL.v rfl (OpVal.moveB (.inr rfl) rfl) rfl rfl ?_
              refine TL.nil ?_
              refine S.n ?_
              refine TC.ofSub (Sub.pre 0 rfl) ?_
              refine TC.back ?_
              refine TC.ret ?_
              obtain rfl := Option.some.inj hh
              exact RetOk.mk' (rs := [.tmp 2]) [] rfl (.inl rfl) (RVs.tmp rfl RVs.nil) (List.sublist_append_left _ _) ⟨rfl, rfl, rfl⟩
          · replace hh := iteO_f h165 hh
            replace h165 := of_decide_eq_false h165
            refine TL.goff rfl rfl rfl rfl rfl rfl rfl rfl ?_
            refine TL.goff rfl rfl rfl rfl rfl rfl rfl rfl ?_
            refine TL.goff rfl rfl rfl rfl rfl rfl rfl rfl ?_
            refine TL.v rfl (OpVal.pickFB rfl rfl rfl) rfl rfl ?_
            refine TL.v rfl (OpVal.moveB (.inl rfl) rfl) rfl rfl ?_
            refine TL.goff rfl rfl rfl rfl rfl rfl rfl rfl ?_
            refine TL.goff rfl rfl rfl rfl rfl rfl rfl rfl ?_
            refine TL.v rfl (OpVal.pickFB rfl rfl rfl) rfl rfl ?_
            refine TL.v rfl (OpVal.moveB (.inl rfl) rfl) rfl rfl ?_
            refine TL.goff rfl rfl rfl rfl rfl rfl rfl rfl ?_
            refine TL.goff rfl rfl rfl rfl rfl rfl rfl rfl ?_
            refine TL.v rfl (OpVal.pickFB rfl rfl rfl) rfl rfl ?_
            refine TL.v rfl (OpVal.moveB (.inl rfl) rfl) rfl rfl ?_
            refine TL.goff rfl rfl rfl rfl rfl rfl rfl rfl ?_
            refine TL.goff rfl rfl rfl rfl rfl rfl rfl rfl ?_
            refine TL.goff rfl rfl rfl rfl rfl rfl rfl rfl ?_
            refine TL.v rfl (OpVal.pickFB rfl rfl rfl) rfl rfl ?_
            refine TL.v rfl (OpVal.moveB (.inr rfl) rfl) rfl rfl ?_
            refine TL.nil ?_
            refine S.n ?_
            refine TC.ofSub (Sub.pre 0 rfl) ?_
            refine TC.back ?_
            refine TC.ret ?_
            obtain rfl := Option.some.inj hh
            exact RetOk.mk' (rs := [.tmp 2]) [] rfl (.inl rfl) (RVs.tmp rfl RVs.nil) (List.sublist_append_left _ _) ⟨rfl, rfl, rfl⟩
        · replace hh := iteO_f h164 hh
          refine TL.goff rfl rfl rfl rfl rfl rfl rfl rfl ?_
          refine TL.goff rfl rfl rfl rfl rfl rfl rfl rfl ?_
          refine TL.v rfl (OpVal.pickFB rfl rfl rfl) rfl rfl ?_
          refine TL.v rfl (OpVal.moveB (.inl rfl) rfl) rfl rfl ?_
          refine TL.goff rfl rfl rfl rfl rfl rfl rfl rfl ?_
          refine TL.goff rfl rfl rfl rfl rfl rfl rfl rfl ?_
          refine TL.goff rfl rfl rfl rfl rfl rfl rfl rfl ?_
          refine TL.v rfl (OpVal.pickFB rfl rfl rfl) rfl rfl ?_
          refine TL.v rfl (OpVal.moveB (.inl rfl) rfl) rfl rfl ?_
          refine TL.goff rfl rfl rfl rfl rfl rfl rfl rfl ?_
          refine TL.goff rfl rfl rfl rfl rfl rfl rfl rfl ?_
          refine TL.v rfl (OpVal.pickFB rfl rfl rfl) rfl rfl ?_
          refine TL.v rfl (OpVal.moveB (.inl rfl) rfl) rfl rfl ?_
          refine TL.goff rfl rfl rfl rfl rfl rfl rfl rfl ?_
          refine TL.goff rfl rfl rfl rfl rfl rfl rfl rfl ?_
          refine TL.v rfl (OpVal.pickFB rfl rfl rfl) rfl rfl ?_
          refine TL.v rfl (OpVal.moveB (.inl rfl) rfl) rfl rfl ?_
          refine TL.goff rfl rfl rfl rfl rfl rfl rfl rfl ?_
          refine TL.goff rfl rfl rfl rfl rfl rfl rfl rfl ?_
          refine TL.goff rfl rfl rfl rfl rfl rfl rfl rfl ?_
          refine TL.v rfl (OpVal.pickFB rfl rfl rfl) rfl rfl ?_
          refine TL.v rfl (OpVal.moveB (.inr rfl) rfl) rfl rfl ?_
          refine TL.nil ?_
          refine S.n ?_
          refine TC.ofSub (Sub.pre 0 rfl) ?_
          refine TC.back ?_
          refine TC.ret ?_
          obtain rfl := Option.some.inj hh
          exact RetOk.mk' (rs := [.tmp 2]) [] rfl (.inl rfl) (RVs.tmp rfl RVs.nil) (List.sublist_append_left _ _) ⟨rfl, rfl, rfl⟩

noncomputable def whittlelaw05_InternDoes_b2 (x1 : List (List Int)) (l143 : List (List Int)) (m149 : FM (List UInt8) Int) (l152 : List (List Int)) (x2 : Int) (k188 : Nat) : Option ((Nat) ⊕ (Bool)) :=
  iteO (decide (((k188 : Nat) : Int) < ((x1.length : Nat) : Int))) (bnd (intern_Table_Find (⟨(⟨l143, m149⟩ : IStore)⟩ : ITable) (nth x1 k188 ([] : List Int))) (fun v87 => bnd (whittleref05_Table_Find (⟨l152⟩ : RTable) (nth x1 k188 ([] : List Int))) (fun v98 => iteO (decide (v87.1 ≠ v98.1)) (fin (some false)) (iteO (v87.2 != v98.2) (fin (some false)) (bnd (intern_Table_Size (⟨(⟨l143, m149⟩ : IStore)⟩ : ITable)) (fun v114 => iteO (decide (v114 ≠ ((l152.length : Nat) : Int))) (fin (some false)) (nxt (k188 + 1)))))))) (fin (bnd (intern_Table_Row (⟨(⟨l143, m149⟩ : IStore)⟩ : ITable) x2) (fun v128 => bnd (whittleref05_Table_Row (⟨l152⟩ : RTable) x2) (fun v136 => bnd (whittlelaw05_awake) (fun v142 => iteO v142 (bnd (whittleref02_Ints v128.1 v136.1) (fun v146 => iteO v146 (some (decide (v128.2 = v136.2))) (some false))) (some false))))))
noncomputable def whittlelaw05_InternDoes_b1 (x0 : List (List Int)) (x1 : List (List Int)) (x2 : Int) (l143 : List (List Int)) (m149 : FM (List UInt8) Int) (l152 : List (List Int)) (k157 : Nat) : Option (((List (List Int)) × (FM (List UInt8) Int) × (List (List Int)) × Nat) ⊕ (Bool)) :=
  iteO (decide (((k157 : Nat) : Int) < ((x0.length : Nat) : Int))) (bnd (intern_Table_Put (⟨(⟨l143, m149⟩ : IStore)⟩ : ITable) (nth x0 k157 ([] : List Int))) (fun v29 => bnd (whittleref05_Table_Put (⟨l152⟩ : RTable) (nth x0 k157 ([] : List Int))) (fun v42 => iteO (decide (v29.1 ≠ v42.1)) (fin (some false)) (iteO (v29.2.1 != v42.2.1) (fin (some false)) (iteO (decide (v29.2.2.1 ≠ v42.2.2.1)) (fin (some false)) (bnd (intern_Table_Size (⟨(⟨v29.2.2.2.of.rows, v29.2.2.2.of.places⟩ : IStore)⟩ : ITable)) (fun v65 => iteO (decide (v65 ≠ ((v42.2.2.2.l.length : Nat) : Int))) (fin (some false)) (nxt (v29.2.2.2.of.rows, v29.2.2.2.of.places, v42.2.2.2.l, (k157 + 1)))))))))) (fin (iter (fun q : Nat => whittlelaw05_InternDoes_b2 x1 l143 m149 l152 x2 q) 0))
noncomputable def whittlelaw05_InternDoes (x0 : List (List Int)) (x1 : List (List Int)) (x2 : Int) : Option (Bool) :=
  bnd (whittlelaw05_few x0) (fun v3 => iteO (!v3) (some true) (bnd (whittlelaw05_few x1) (fun v7 => iteO (!v7) (some true) (bnd (intern_New) (fun v11 => iter (fun q : (List (List Int)) × (FM (List UInt8) Int) × (List (List Int)) × Nat => whittlelaw05_InternDoes_b1 x0 x1 x2 q.1 q.2.1 q.2.2.1 q.2.2.2) (v11.of.rows, v11.of.places, ([] : List (List Int)), 0))))))
theorem whittlelaw05_InternDoes_con {σ : Store} {x0 : List (List Int)} {a0_0 : Option Addr} {c0_0 : Nat} {x1 : List (List Int)} {a1_0 : Option Addr} {c1_0 : Nat} {x2 : Int} (f0_0 : RZ σ (pkSl 1 Go.E.encI Go.E.encI_len) (.slice a0_0 x0.length c0_0) x0) (f1_0 : RZ σ (pkSl 1 Go.E.encI Go.E.encI_len) (.slice a1_0 x1.length c1_0) x1) {r : Bool} (hh : whittlelaw05_InternDoes x0 x1 x2 = some r) :
    Con Try.prog 9 #[.slice a0_0 x0.length c0_0, .slice a1_0 x1.length c1_0, .int .i64 x2] σ [] (PureP (.bool r) σ) := by
  dsimp only [whittlelaw05_InternDoes] at hh
  have f0_0b := f0_0.big
  have f1_0b := f1_0.big
  refine Con.mk (n := 152) Try.func9 rfl rfl rfl (fun w0 => ?_)
  refine TC.seq ?_
  refine TC.region ?_
  refine TL.v rfl (OpVal.moveB (.inr rfl) rfl) rfl rfl ?_
  refine TL.nil ?_
  refine S.n ?_
  refine TC.seq ?_
  refine TC.seq ?_
  refine TC.region ?_
  refine TL.v rfl (OpVal.moveSl (.inl rfl) rfl) rfl rfl ?_
  obtain ⟨v3, u3, hh⟩ := bnd_e hh
  refine TL.op rfl (OpOk.callP (whittlelaw05_few_con f0_0 u3) rfl rfl pf40 rfl rfl rfl ?_)
  refine TL.v rfl (OpVal.not rfl rfl) rfl rfl ?_
  refine TL.v rfl (OpVal.moveB (.inl rfl) rfl) rfl rfl ?_
  refine TL.split 28 rfl (fun h101 => ?_) (fun h101 => ?_)
  · replace hh := iteO_t h101 hh
    refine TL.goff rfl rfl rfl rfl rfl rfl rfl rfl ?_
    refine TL.goff rfl rfl rfl rfl rfl rfl rfl rfl ?_
    refine TL.goff rfl rfl rfl rfl rfl rfl rfl rfl ?_
    refine TL.v rfl (OpVal.pickTB rfl rfl rfl) rfl rfl ?_
    refine TL.nil ?_
    refine S.n ?_
    refine TC.cond rfl (fun _ => ?_) (fun h => Bool.noConfusion h)
    refine TC.seq ?_
    refine TC.region ?_
    refine TL.v rfl (OpVal.moveB (.inr rfl) rfl) rfl rfl ?_
    refine TL.nil ?_
    refine S.n ?_
    refine TC.ret ?_
    refine S.r ?_
    obtain rfl := Option.some.inj hh
    exact RetOk.mk' (rs := [.tmp 6]) [] rfl (.inl rfl) (RVs.tmp rfl RVs.nil) (List.sublist_append_left _ _) ⟨rfl, rfl, rfl⟩
  · replace hh := iteO_f h101 hh
    refine TL.gv rfl rfl rfl rfl rfl (OpVal.moveSl (.inl rfl) rfl) rfl rfl ?_
    obtain ⟨v7, u7, hh⟩ := bnd_e hh
    refine TL.gon rfl rfl rfl rfl rfl (OpOk.callP (whittlelaw05_few_con f1_0 u7) rfl rfl pf40 rfl rfl rfl ?_)
    refine TL.gv rfl rfl rfl rfl rfl (OpVal.not rfl rfl) rfl rfl ?_
    refine TL.v rfl (OpVal.pickFB rfl rfl rfl) rfl rfl ?_
    refine TL.nil ?_
    refine S.n ?_
    refine TC.cond rfl (fun h102 => ?_) (fun h102 => ?_)
    · replace hh := iteO_t h102 hh
      refine TC.seq ?_
      refine TC.region ?_
      refine TL.v rfl (OpVal.moveB (.inr rfl) rfl) rfl rfl ?_
      refine TL.nil ?_
      refine S.n ?_
      refine TC.ret ?_
      refine S.r ?_
      obtain rfl := Option.some.inj hh
      exact RetOk.mk' (rs := [.tmp 6]) [] rfl (.inl rfl) (RVs.tmp rfl RVs.nil) (List.sublist_append_left _ _) ⟨rfl, rfl, rfl⟩
    · replace hh := iteO_f h102 hh
      refine TC.skip ?_
      refine S.n ?_
      refine TC.seq ?_
      refine TC.region ?_
      obtain ⟨v11, u11, hh⟩ := bnd_e hh
      refine TL.op rfl (OpOk.call (intern_New_con u11) rfl rfl pf36 rfl rfl rfl rfl ?_)
      rintro _ τ103 _ hle103 ⟨b103_1, a103_2, c103_3, z103_4, b103_6, rfl, zf103_5, rfl⟩
      replace f0_0 := f0_0.mono hle103
      replace f1_0 := f1_0.mono hle103
      have zf103_5b := zf103_5.length
      refine TL.v rfl (OpVal.moveLoc (.inr rfl) rfl) rfl rfl ?_
      refine TL.nil ?_
      refine S.n ?_
      refine TC.seq ?_
      refine TC.seq ?_
      refine TC.region ?_
      refine TL.v rfl (OpVal.moveLoc (.inl rfl) rfl) rfl rfl ?_
      refine TL.v rfl (OpVal.eqlNil rfl Try.underlying50 rfl rfl) rfl rfl ?_
      refine TL.nil ?_
      refine S.n ?_
      refine TC.cond rfl (fun h => Bool.noConfusion h) (fun _ => ?_)
      refine TC.skip ?_
      refine S.n ?_
      refine TC.seq ?_
      refine TC.region ?_
      refine TL.v rfl (OpVal.buildL rfl pl60 ze60 rfl) rfl rfl ?_
      refine TL.op rfl (OpOk.boxA rfl rfl rfl rfl (fun b107 => ?_))
      refine TL.v rfl (OpVal.moveLoc (.inr rfl) rfl) rfl rfl ?_
      refine TL.nil ?_
      refine S.n ?_
      refine TC.seq ?_
      refine TC.seq ?_
      refine TC.region ?_
      refine TL.v rfl (OpVal.moveI (.inr rfl) rfl) rfl rfl ?_
      refine TL.nil ?_
      refine S.n ?_
      refine TC.block ?_
      refine TC.nilS 22 1 (pkSl 1 Go.E.encI Go.E.encI_len).en ?_
      have zf158 := ZOk.nil τ103 (pkSl 1 Go.E.encI Go.E.encI_len)
      refine TC.loopG (α := ((List (List Int)) × (FM (List UInt8) Int) × (List (List Int)) × Nat) × ((Option Addr) × Nat × (List (List Int × (pkSl 1 Go.E.encI Go.E.encI_len).P)) × Nat × (Option Addr) × Nat × (List (List Int × (pkSl 1 Go.E.encI Go.E.encI_len).P)) × Store)) [6, 9, 10, 11, 12, 13, 14, 15, 38, 39, 40, 41, 42, 43, 44, 45, 46, 47, 48, 49, 50, 51, 52, 53, 54, 55, 56, 57, 58, 59, 60, 61, 62, 63, 64, 65, 66, 67, 68, 69, 70, 71, 72, 73, 74, 75, 76, 77, 78, 79, 80, 81, 82, 83, 84, 85, 86] (fun g => [(9, .int .i64 ((g.1.2.2.2 : Nat) : Int))]) (fun g => [Res.cells b103_1 #[.slice g.2.1 g.1.1.length g.2.2.1, .map (some g.2.2.2.2.1)] 101, Res.rowS 22 1 (pkSl 1 Go.E.encI Go.E.encI_len).en (.slice g.2.1 g.1.1.length g.2.2.1) g.2.2.2.1, Res.mapB keyS keyI (some g.2.2.2.2.1) g.1.2.1, Res.cells b107 #[.slice g.2.2.2.2.2.1 g.1.2.2.1.length g.2.2.2.2.2.2.1] 60, Res.rowS 22 1 (pkSl 1 Go.E.encI Go.E.encI_len).en (.slice g.2.2.2.2.2.1 g.1.2.2.1.length g.2.2.2.2.2.2.1) g.2.2.2.2.2.2.2.1]) (fun g => g.2.2.2.2.2.2.2.2) (fun g => iter (fun q : (List (List Int)) × (FM (List UInt8) Int) × (List (List Int)) × Nat => whittlelaw05_InternDoes_b1 x0 x1 x2 q.1 q.2.1 q.2.2.1 q.2.2.2) g.1 = some r ∧ ZOk g.2.2.2.2.2.2.2.2 (pkSl 1 Go.E.encI Go.E.encI_len) g.2.2.2.1 g.1.1 ∧ ZOk g.2.2.2.2.2.2.2.2 (pkSl 1 Go.E.encI Go.E.encI_len) g.2.2.2.2.2.2.2.1 g.1.2.2.1 ∧ Store.le τ103 g.2.2.2.2.2.2.2.2) (fun g => rounds (fun q : (List (List Int)) × (FM (List UInt8) Int) × (List (List Int)) × Nat => whittlelaw05_InternDoes_b1 x0 x1 x2 q.1 q.2.1 q.2.2.1 q.2.2.2) g.1) ((v11.of.rows, v11.of.places, ([] : List (List Int)), 0), (a103_2, c103_3, z103_4, b103_6, none, 0, [], τ103)) (Sub.front 1 rfl rfl (Sub.front 4 rfl rfl (Sub.front 4 rfl rfl (Sub.front 4 rfl rfl (Sub.pre 5 rfl))))) rfl (by repeat (first | exact trivial | refine ⟨rfl, ?_⟩)) ⟨hh, zf103_5, zf158, (Store.le.refl _)⟩ (fun g1 j1 hg1 => ?_)
      obtain ⟨⟨l143, m149, l152, k157⟩, ⟨a144, c145, z146, b150, a153, c154, z155, τ160⟩⟩ := g1
      obtain ⟨hh, zf147, zf156, hle161⟩ := hg1
      try dsimp only at zf147
      try dsimp only at zf156
      dsimp only at hle161
      replace f0_0 := f0_0.mono hle161
      replace f1_0 := f1_0.mono hle161
      replace zf103_5 := zf103_5.mono hle161
      replace zf158 := zf158.mono hle161
      show TC _ _ _ (upds (mask _ j1 _) [(9, .int .i64 ((k157 : Nat) : Int))]) τ160 [Res.cells b103_1 #[.slice a144 l143.length c145, .map (some b150)] 101, Res.rowS 22 1 (pkSl 1 Go.E.encI Go.E.encI_len).en (.slice a144 l143.length c145) z146, Res.mapB keyS keyI (some b150) m149, Res.cells b107 #[.slice a153 l152.length c154] 60, Res.rowS 22 1 (pkSl 1 Go.E.encI Go.E.encI_len).en (.slice a153 l152.length c154) z155]
      obtain ⟨z1, hh, hR1⟩ := iter_e hh
      dsimp only [whittlelaw05_InternDoes_b1] at hh
      have zf147b := zf147.length
      have zf156b := zf156.length
      refine TC.isSl (i := 1) rfl (fun _ hb162 _ => ?_)
      refine TC.isSl (i := 4) rfl (fun _ hb163 _ => ?_)
      refine TC.seq ?_
      refine TC.seq ?_
      refine TC.region ?_
      refine TL.v rfl (OpVal.moveI (.inl rfl) rfl) rfl rfl ?_
      refine TL.v rfl (OpVal.moveSl (.inl rfl) rfl) rfl rfl ?_
      refine TL.v rfl (OpVal.lenC rfl Try.underlying56 rfl) rfl rfl ?_
      refine TL.v rfl (OpVal.lss rfl rfl rfl) rfl rfl ?_
      refine TL.nil ?_
      refine S.n ?_
      refine TC.cond rfl (fun h164 => ?_) (fun h164 => ?_)
      · replace hh := iteO_t h164 hh
        replace h164 := of_decide_eq_true h164
        refine TC.skip ?_
        refine S.n ?_
        refine TC.seq ?_
        refine TC.block ?_
        refine TC.seq ?_
        refine TC.region ?_
        refine TL.v rfl (OpVal.moveLoc (.inl rfl) rfl) rfl rfl ?_
        refine TL.v rfl (OpVal.moveSl (.inl rfl) rfl) rfl rfl ?_
        refine TL.v rfl (OpVal.moveI (.inl rfl) rfl) rfl rfl ?_
        refine TL.v rfl (OpVal.indexN rfl Try.underlying56 sz22 rfl rfl f0_0.isSl (by omega)) rfl rfl ?_
        obtain ⟨p165, hk165, hg165⟩ := RZ.seg f0_0 k157 (by omega)
        replace hk165 : RS _ 1 Go.E.encI (.slice p165.1 (nth x0 k157 ([] : List Int)).length p165.2) (nth x0 k157 ([] : List Int)) := hk165
        have hk165b := hk165.rv.big
        refine TL.v rfl (OpVal.of (OpVal.loadSeg0 rfl ag22 rfl hg165 rfl) (v' := .slice p165.1 ((nth x0 k157 ([] : List Int)).length) p165.2) rfl) rfl rfl ?_
        refine TL.front 2 rfl rfl ?_
        refine TL.front 2 rfl rfl ?_
        refine TL.front 2 rfl rfl ?_
        obtain ⟨v29, u29, hh⟩ := bnd_e hh
        refine TL.op rfl (OpOk.call (intern_Table_Put_con zf147 hk165 u29) rfl rfl pf37 rfl rfl rfl rfl ?_)
        rintro _ τ166 _ hle166 ⟨a166_1, c166_2, z166_3, b166_5, rfl, zf166_4, rfl⟩
        replace f0_0 := f0_0.mono hle166
        replace f1_0 := f1_0.mono hle166
        replace zf103_5 := zf103_5.mono hle166
        replace zf158 := zf158.mono hle166
        replace zf147 := zf147.mono hle166
        replace zf156 := zf156.mono hle166
        replace hk165 := hk165.mono hle166
        replace hg165 := hg165.mono hle166
        have zf166_4b := zf166_4.length
        refine TL.v rfl (OpVal.moveT (.inl rfl) rfl) rfl rfl ?_
        refine TL.v rfl (OpVal.extract rfl rfl rfl) rfl rfl ?_
        refine TL.v rfl (OpVal.extract rfl rfl rfl) rfl rfl ?_
        refine TL.v rfl (OpVal.extract rfl rfl rfl) rfl rfl ?_
        refine TL.v rfl (OpVal.moveI (.inr rfl) rfl) rfl rfl ?_
        refine TL.v rfl (OpVal.moveB (.inr rfl) rfl) rfl rfl ?_
        refine TL.v rfl (OpVal.moveI (.inr rfl) rfl) rfl rfl ?_
        refine TL.nil ?_
        refine S.n ?_
        refine TC.seq ?_
        refine TC.region ?_
        refine TL.v rfl (OpVal.moveLoc (.inl rfl) rfl) rfl rfl ?_
        refine TL.v rfl (OpVal.moveSl (.inl rfl) rfl) rfl rfl ?_
        refine TL.v rfl (OpVal.moveI (.inl rfl) rfl) rfl rfl ?_
        refine TL.v rfl (OpVal.indexN rfl Try.underlying56 sz22 rfl rfl f0_0.isSl (by omega)) rfl rfl ?_
        obtain ⟨p169, hk169, hg169⟩ := RZ.seg f0_0 k157 (by omega)
        replace hk169 : RS _ 1 Go.E.encI (.slice p169.1 (nth x0 k157 ([] : List Int)).length p169.2) (nth x0 k157 ([] : List Int)) := hk169
        have hk169b := hk169.rv.big
        refine TL.v rfl (OpVal.of (OpVal.loadSeg0 rfl ag22 rfl hg169 rfl) (v' := .slice p169.1 ((nth x0 k157 ([] : List Int)).length) p169.2) rfl) rfl rfl ?_
        refine TL.front 4 rfl rfl ?_
        refine TL.front 4 rfl rfl ?_
        obtain ⟨v42, u42, hh⟩ := bnd_e hh
        refine TL.op rfl (OpOk.call (whittleref05_Table_Put_con zf156 hk169 u42) rfl rfl pf41 rfl rfl rfl rfl ?_)
        rintro _ τ170 _ hle170 ⟨a170_1, c170_2, z170_3, rfl, zf170_4, rfl⟩
        replace f0_0 := f0_0.mono hle170
        replace f1_0 := f1_0.mono hle170
        replace zf103_5 := zf103_5.mono hle170
        replace zf158 := zf158.mono hle170
        replace zf147 := zf147.mono hle170
        replace zf156 := zf156.mono hle170
        replace hk165 := hk165.mono hle170
        replace hg165 := hg165.mono hle170
        replace zf166_4 := zf166_4.mono hle170
        replace hk169 := hk169.mono hle170
        replace hg169 := hg169.mono hle170
        have zf170_4b := zf170_4.length
        refine TL.v rfl (OpVal.moveT (.inl rfl) rfl) rfl rfl ?_
        refine TL.v rfl (OpVal.extract rfl rfl rfl) rfl rfl ?_
        refine TL.v rfl (OpVal.extract rfl rfl rfl) rfl rfl ?_
        refine TL.v rfl (OpVal.extract rfl rfl rfl) rfl rfl ?_
        refine TL.v rfl (OpVal.moveI (.inr rfl) rfl) rfl rfl ?_
        refine TL.v rfl (OpVal.moveB (.inr rfl) rfl) rfl rfl ?_
        refine TL.v rfl (OpVal.moveI (.inr rfl) rfl) rfl rfl ?_
        refine TL.nil ?_
        refine S.n ?_
        refine TC.seq ?_
        refine TC.draw [] (by kernel_rfl) ?_
        refine TA.takeP 0 rfl (by kernel_rfl) (by kernel_rfl) (by kernel_rfl) rfl (OpVal.moveI (.inl rfl) rfl) rfl rfl ?_
        refine TA.takeP 1 rfl (by kernel_rfl) (by kernel_rfl) (by kernel_rfl) rfl (OpVal.moveI (.inl rfl) rfl) rfl rfl ?_
        refine TA.takeP 2 rfl (by kernel_rfl) (by kernel_rfl) (by kernel_rfl) rfl (OpVal.neq rfl rfl rfl) rfl rfl ?_
        refine TA.takeP 3 rfl (by kernel_rfl) (by kernel_rfl) (by kernel_rfl) rfl (OpVal.moveB (.inl rfl) rfl) rfl rfl ?_
        refine TA.split 67 rfl (fun h172 => ?_) (fun h172 => ?_)
        · replace hh := iteO_t h172 hh
          replace h172 := of_decide_eq_true h172
          refine TA.takeOff 4 rfl (by kernel_rfl) (by kernel_rfl) (by kernel_rfl) (by kernel_rfl) rfl rfl rfl rfl rfl rfl rfl rfl ?_
          refine TA.takeOff 5 rfl (by kernel_rfl) (by kernel_rfl) (by kernel_rfl) (by kernel_rfl) rfl rfl rfl rfl rfl rfl rfl rfl ?_
          refine TA.takeOff 6 rfl (by kernel_rfl) (by kernel_rfl) (by kernel_rfl) (by kernel_rfl) rfl rfl rfl rfl rfl rfl rfl rfl ?_
          refine TA.takeP 7 rfl (by kernel_rfl) (by kernel_rfl) (by kernel_rfl) rfl (OpVal.pickTB rfl rfl rfl) rfl rfl ?_
          refine TA.takeP 8 rfl (by kernel_rfl) (by kernel_rfl) (by kernel_rfl) rfl (OpVal.moveB (.inl rfl) rfl) rfl rfl ?_
          refine TA.takeOff 9 rfl (by kernel_rfl) (by kernel_rfl) (by kernel_rfl) (by kernel_rfl) rfl rfl rfl rfl rfl rfl rfl rfl ?_
          refine TA.takeOff 10 rfl (by kernel_rfl) (by kernel_rfl) (by kernel_rfl) (by kernel_rfl) rfl rfl rfl rfl rfl rfl rfl rfl ?_
          refine TA.takeOff 11 rfl (by kernel_rfl) (by kernel_rfl) (by kernel_rfl) (by kernel_rfl) rfl rfl rfl rfl rfl rfl rfl rfl ?_
          refine TA.takeP 12 rfl (by kernel_rfl) (by kernel_rfl) (by kernel_rfl) rfl (OpVal.pickTB rfl rfl rfl) rfl rfl ?_
          refine TA.takeP 13 rfl (by kernel_rfl) (by kernel_rfl) (by kernel_rfl) rfl (OpVal.moveB (.inl rfl) rfl) rfl rfl ?_
          refine TA.takeOff 14 rfl (by kernel_rfl) (by kernel_rfl) (by kernel_rfl) (by kernel_rfl) rfl rfl rfl rfl rfl rfl rfl rfl ?_
          refine TA.takeOff 15 rfl (by kernel_rfl) (by kernel_rfl) (by kernel_rfl) (by kernel_rfl) rfl rfl rfl rfl rfl rfl rfl rfl ?_
          refine TA.takeOff 16 rfl (by kernel_rfl) (by kernel_rfl) (by kernel_rfl) (by kernel_rfl) rfl rfl rfl rfl rfl rfl rfl rfl ?_
          refine TA.takeOff 17 rfl (by kernel_rfl) (by kernel_rfl) (by kernel_rfl) (by kernel_rfl) rfl rfl rfl rfl rfl rfl rfl rfl ?_
          refine TA.takeOff 18 rfl (by kernel_rfl) (by kernel_rfl) (by kernel_rfl) (by kernel_rfl) rfl rfl rfl rfl rfl rfl rfl rfl ?_
          refine TA.takeOff 19 rfl (by kernel_rfl) (by kernel_rfl) (by kernel_rfl) (by kernel_rfl) rfl rfl rfl rfl rfl rfl rfl rfl ?_
          refine TA.takeOff 20 rfl (by kernel_rfl) (by kernel_rfl) (by kernel_rfl) (by kernel_rfl) rfl rfl rfl rfl rfl rfl rfl rfl ?_
          refine TA.takeOff 21 rfl (by kernel_rfl) (by kernel_rfl) (by kernel_rfl) (by kernel_rfl) rfl rfl rfl rfl rfl rfl rfl rfl ?_
          refine TA.takeP 22 rfl (by kernel_rfl) (by kernel_rfl) (by kernel_rfl) rfl (OpVal.pickTB rfl rfl rfl) rfl rfl ?_
          refine TA.done (by kernel_rfl) ?_
          refine S.n ?_
          refine TC.cond rfl (fun _ => ?_) (fun h => Bool.noConfusion h)
          refine TC.seq ?_
          refine TC.region ?_
          refine TL.v rfl (OpVal.moveB (.inr rfl) rfl) rfl rfl ?_
          refine TL.nil ?_
          refine S.n ?_
          refine TC.ofSub (Sub.pre 0 rfl) ?_
          refine TC.back ?_
          refine TC.ret ?_
          refine B.r ?_
          refine S.r ?_
          refine S.r ?_
          replace hh := fin_x hR1 hh
          refine B.r ?_
          refine S.r ?_
          obtain rfl := Option.some.inj hh
          exact RetOk.mk' (rs := [.tmp 6]) [] rfl (.inl rfl) (RVs.tmp rfl RVs.nil) (List.sublist_append_left _ _) ⟨rfl, rfl, rfl⟩
        · replace hh := iteO_f h172 hh
          replace h172 := of_decide_eq_false h172
          refine TA.takeOn 4 rfl (by kernel_rfl) (by kernel_rfl) (by kernel_rfl) (by kernel_rfl) rfl rfl rfl rfl rfl (OpVal.moveB (.inl rfl) rfl) rfl rfl ?_
          refine TA.takeOn 5 rfl (by kernel_rfl) (by kernel_rfl) (by kernel_rfl) (by kernel_rfl) rfl rfl rfl rfl rfl (OpVal.moveB (.inl rfl) rfl) rfl rfl ?_
          refine TA.takeOn 6 rfl (by kernel_rfl) (by kernel_rfl) (by kernel_rfl) (by kernel_rfl) rfl rfl rfl rfl rfl (OpVal.neqB rfl rfl rfl Try.underlying4) rfl rfl ?_
          refine TA.takeP 7 rfl (by kernel_rfl) (by kernel_rfl) (by kernel_rfl) rfl (OpVal.pickFB rfl rfl rfl) rfl rfl ?_
          refine TA.takeP 8 rfl (by kernel_rfl) (by kernel_rfl) (by kernel_rfl) rfl (OpVal.moveB (.inl rfl) rfl) rfl rfl ?_
          refine TA.split 72 rfl (fun h173 => ?_) (fun h173 => ?_)
          · replace hh := iteO_t h173 hh
            refine TA.takeOff 9 rfl (by kernel_rfl) (by kernel_rfl) (by kernel_rfl) (by kernel_rfl) rfl rfl rfl rfl rfl rfl rfl rfl ?_
            refine TA.takeOff 10 rfl (by kernel_rfl) (by kernel_rfl) (by kernel_rfl) (by kernel_rfl) rfl rfl rfl rfl rfl rfl rfl rfl ?_
            refine TA.takeOff 11 rfl (by kernel_rfl) (by kernel_rfl) (by kernel_rfl) (by kernel_rfl) rfl rfl rfl rfl rfl rfl rfl rfl ?_
            refine TA.takeP 12 rfl (by kernel_rfl) (by kernel_rfl) (by kernel_rfl) rfl (OpVal.pickTB rfl rfl rfl) rfl rfl ?_
            refine TA.takeP 13 rfl (by kernel_rfl) (by kernel_rfl) (by kernel_rfl) rfl (OpVal.moveB (.inl rfl) rfl) rfl rfl ?_
            refine TA.takeOff 14 rfl (by kernel_rfl) (by kernel_rfl) (by kernel_rfl) (by kernel_rfl) rfl rfl rfl rfl rfl rfl rfl rfl ?_
            refine TA.takeOff 15 rfl (by kernel_rfl) (by kernel_rfl) (by kernel_rfl) (by kernel_rfl) rfl rfl rfl rfl rfl rfl rfl rfl ?_
            refine TA.takeOff 16 rfl (by kernel_rfl) (by kernel_rfl) (by kernel_rfl) (by kernel_rfl) rfl rfl rfl rfl rfl rfl rfl rfl ?_
            refine TA.takeOff 17 rfl (by kernel_rfl) (by kernel_rfl) (by kernel_rfl) (by kernel_rfl) rfl rfl rfl rfl rfl rfl rfl rfl ?_
            refine TA.takeOff 18 rfl (by kernel_rfl) (by kernel_rfl) (by kernel_rfl) (by kernel_rfl) rfl rfl rfl rfl rfl rfl rfl rfl ?_
            refine TA.takeOff 19 rfl (by kernel_rfl) (by kernel_rfl) (by kernel_rfl) (by kernel_rfl) rfl rfl rfl rfl rfl rfl rfl rfl ?_
            refine TA.takeOff 20 rfl (by kernel_rfl) (by kernel_rfl) (by kernel_rfl) (by kernel_rfl) rfl rfl rfl rfl rfl rfl rfl rfl ?_
            refine TA.takeOff 21 rfl (by kernel_rfl) (by kernel_rfl) (by kernel_rfl) (by kernel_rfl) rfl rfl rfl rfl rfl rfl rfl rfl ?_
            refine TA.takeP 22 rfl (by kernel_rfl) (by kernel_rfl) (by kernel_rfl) rfl (OpVal.pickTB rfl rfl rfl) rfl rfl ?_
            refine TA.done (by kernel_rfl) ?_
            refine S.n ?_
            refine TC.cond rfl (fun _ => ?_) (fun h => Bool.noConfusion h)
            refine TC.seq ?_
            refine TC.region ?_
            refine TL.v rfl (OpVal.moveB (.inr rfl) rfl) rfl rfl ?_
            refine TL.nil ?_
            refine S.n ?_
            refine TC.ofSub (Sub.pre 0 rfl) ?_
            refine TC.back ?_
            refine TC.ret ?_
            refine B.r ?_
            refine S.r ?_
            refine S.r ?_
            replace hh := fin_x hR1 hh
            refine B.r ?_
            refine S.r ?_
            obtain rfl := Option.some.inj hh
            exact RetOk.mk' (rs := [.tmp 6]) [] rfl (.inl rfl) (RVs.tmp rfl RVs.nil) (List.sublist_append_left _ _) ⟨rfl, rfl, rfl⟩
          · replace hh := iteO_f h173 hh
            refine TA.takeOn 9 rfl (by kernel_rfl) (by kernel_rfl) (by kernel_rfl) (by kernel_rfl) rfl rfl rfl rfl rfl (OpVal.moveI (.inl rfl) rfl) rfl rfl ?_
            refine TA.takeOn 10 rfl (by kernel_rfl) (by kernel_rfl) (by kernel_rfl) (by kernel_rfl) rfl rfl rfl rfl rfl (OpVal.moveI (.inl rfl) rfl) rfl rfl ?_
            refine TA.takeOn 11 rfl (by kernel_rfl) (by kernel_rfl) (by kernel_rfl) (by kernel_rfl) rfl rfl rfl rfl rfl (OpVal.neq rfl rfl rfl) rfl rfl ?_
            refine TA.takeP 12 rfl (by kernel_rfl) (by kernel_rfl) (by kernel_rfl) rfl (OpVal.pickFB rfl rfl rfl) rfl rfl ?_
            refine TA.takeP 13 rfl (by kernel_rfl) (by kernel_rfl) (by kernel_rfl) rfl (OpVal.moveB (.inl rfl) rfl) rfl rfl ?_
            refine TA.split 77 rfl (fun h174 => ?_) (fun h174 => ?_)
            · replace hh := iteO_t h174 hh
              replace h174 := of_decide_eq_true h174
              refine TA.takeOff 14 rfl (by kernel_rfl) (by kernel_rfl) (by kernel_rfl) (by kernel_rfl) rfl rfl rfl rfl rfl rfl rfl rfl ?_
              refine TA.takeOff 15 rfl (by kernel_rfl) (by kernel_rfl) (by kernel_rfl) (by kernel_rfl) rfl rfl rfl rfl rfl rfl rfl rfl ?_
              refine TA.takeOff 16 rfl (by kernel_rfl) (by kernel_rfl) (by kernel_rfl) (by kernel_rfl) rfl rfl rfl rfl rfl rfl rfl rfl ?_
              refine TA.takeOff 17 rfl (by kernel_rfl) (by kernel_rfl) (by kernel_rfl) (by kernel_rfl) rfl rfl rfl rfl rfl rfl rfl rfl ?_
              refine TA.takeOff 18 rfl (by kernel_rfl) (by kernel_rfl) (by kernel_rfl) (by kernel_rfl) rfl rfl rfl rfl rfl rfl rfl rfl ?_
              refine TA.takeOff 19 rfl (by kernel_rfl) (by kernel_rfl) (by kernel_rfl) (by kernel_rfl) rfl rfl rfl rfl rfl rfl rfl rfl ?_
              refine TA.takeOff 20 rfl (by kernel_rfl) (by kernel_rfl) (by kernel_rfl) (by kernel_rfl) rfl rfl rfl rfl rfl rfl rfl rfl ?_
              refine TA.takeOff 21 rfl (by kernel_rfl) (by kernel_rfl) (by kernel_rfl) (by kernel_rfl) rfl rfl rfl rfl rfl rfl rfl rfl ?_
              refine TA.takeP 22 rfl (by kernel_rfl) (by kernel_rfl) (by kernel_rfl) rfl (OpVal.pickTB rfl rfl rfl) rfl rfl ?_
              refine TA.done (by kernel_rfl) ?_
              refine S.n ?_
              refine TC.cond rfl (fun _ => ?_) (fun h => Bool.noConfusion h)
              refine TC.seq ?_
              refine TC.region ?_
              refine TL.v rfl (OpVal.moveB (.inr rfl) rfl) rfl rfl ?_
              refine TL.nil ?_
              refine S.n ?_
              refine TC.ofSub (Sub.pre 0 rfl) ?_
              refine TC.back ?_
              refine TC.ret ?_
              refine B.r ?_
              refine S.r ?_
              refine S.r ?_
              replace hh := fin_x hR1 hh
              refine B.r ?_
              refine S.r ?_
              obtain rfl := Option.some.inj hh
              exact RetOk.mk' (rs := [.tmp 6]) [] rfl (.inl rfl) (RVs.tmp rfl RVs.nil) (List.sublist_append_left _ _) ⟨rfl, rfl, rfl⟩
            · replace hh := iteO_f h174 hh
              replace h174 := of_decide_eq_false h174
              refine TA.takeOn 14 rfl (by kernel_rfl) (by kernel_rfl) (by kernel_rfl) (by kernel_rfl) rfl rfl rfl rfl rfl (OpVal.moveLoc (.inl rfl) rfl) rfl rfl ?_
              refine TA.takeOn 16 rfl (by kernel_rfl) (by kernel_rfl) (by kernel_rfl) (by kernel_rfl) rfl rfl rfl rfl rfl (OpVal.moveLoc (.inl rfl) rfl) rfl rfl ?_
              refine TA.takeOn 17 rfl (by kernel_rfl) (by kernel_rfl) (by kernel_rfl) (by kernel_rfl) rfl rfl rfl rfl rfl (OpVal.nilCheckLoc rfl rfl) rfl rfl ?_
              refine TA.takeOn 18 rfl (by kernel_rfl) (by kernel_rfl) (by kernel_rfl) (by kernel_rfl) rfl rfl rfl rfl rfl (OpVal.fieldLoc rfl fo60_0 rfl) rfl rfl ?_
              refine TA.takeOn 19 rfl (by kernel_rfl) (by kernel_rfl) (by kernel_rfl) (by kernel_rfl) rfl rfl rfl rfl rfl (OpVal.loadLoc rfl ag56 rfl (i := 0) rfl rfl) rfl rfl ?_
              refine TA.takeOn 20 rfl (by kernel_rfl) (by kernel_rfl) (by kernel_rfl) (by kernel_rfl) rfl rfl rfl rfl rfl (OpVal.lenC rfl Try.underlying56 rfl) rfl rfl ?_
              refine TA.front 4 rfl rfl ?_
              refine TA.front 4 rfl rfl ?_
              refine TA.front 4 rfl rfl ?_
              obtain ⟨v65, u65, hh⟩ := bnd_e hh
              refine TA.actOn 15 (by kernel_rfl) rfl rfl rfl rfl rfl rfl (OpOk.call (intern_Table_Size_con zf166_4 u65) rfl rfl pf39 rfl rfl rfl rfl ?_)
              rintro _ _ _ hle175 ⟨rfl, rfl, rfl⟩
              refine ⟨(fun w h => sees_of (Store.le.refl _) (fun r hr => mem_pick [3, 4, 0, 1, 2] rfl hr) w h), ?_⟩
              refine TA.takeOn 21 rfl (by kernel_rfl) (by kernel_rfl) (by kernel_rfl) (by kernel_rfl) rfl rfl rfl rfl rfl (OpVal.neq rfl rfl rfl) rfl rfl ?_
              refine TA.takeP 22 rfl (by kernel_rfl) (by kernel_rfl) (by kernel_rfl) rfl (OpVal.pickFB rfl rfl rfl) rfl rfl ?_
              refine TA.done (by kernel_rfl) ?_
              refine S.n ?_
              refine TC.cond rfl (fun h176 => ?_) (fun h176 => ?_)
              · replace hh := iteO_t h176 hh
                replace h176 := of_decide_eq_true h176
                refine TC.seq ?_
                refine TC.region ?_
                refine TL.v rfl (OpVal.moveB (.inr rfl) rfl) rfl rfl ?_
                refine TL.nil ?_
                refine S.n ?_
                refine TC.ofSub (Sub.pre 0 rfl) ?_
                refine TC.back ?_
                refine TC.ret ?_
                refine B.r ?_
                refine S.r ?_
                refine S.r ?_
                replace hh := fin_x hR1 hh
                refine B.r ?_
                refine S.r ?_
                obtain rfl := Option.some.inj hh
                exact RetOk.mk' (rs := [.tmp 6]) [] rfl (.inl rfl) (RVs.tmp rfl RVs.nil) (List.sublist_append_left _ _) ⟨rfl, rfl, rfl⟩
              · replace hh := iteO_f h176 hh
                replace h176 := of_decide_eq_false h176
                refine TC.skip ?_
                refine B.n ?_
                refine S.n ?_
                refine TC.region ?_
                refine TL.v rfl (OpVal.moveI (.inl rfl) rfl) rfl rfl ?_
                refine TL.v rfl (OpVal.succ rfl rfl rfl (by omega)) rfl rfl ?_
                refine TL.v rfl (OpVal.moveI (.inr rfl) rfl) rfl rfl ?_
                refine TL.nil ?_
                refine S.n ?_
                obtain ⟨hh, hlt177⟩ := nxt_x hR1 hh
                refine ⟨by repeat (first | exact Agr.refl _ _ | exact Agr.mask | refine Agr.upd rfl ?_ | refine Agr.maskIn rfl ?_ | refine Agr.upds rfl ?_), ((v29.2.2.2.of.rows, v29.2.2.2.of.places, v42.2.2.2.l, (k157 + 1)), (a166_1, c166_2, z166_3, b166_5, a170_1, c170_2, z170_3, τ170)), hlt177, ⟨hh, zf166_4, zf170_4, ((hle161.trans hle166).trans hle170)⟩, by repeat (first | exact trivial | refine ⟨rfl, ?_⟩), Sub.front 4 rfl rfl (Sub.front 4 rfl rfl (Sub.front 4 rfl rfl (Sub.front 4 rfl rfl (Sub.front 4 rfl rfl (Sub.pre 5 rfl))))), rfl⟩
      · replace hh := iteO_f h164 hh
        replace h164 := of_decide_eq_false h164
        refine TC.exit ?_
        refine S.x ?_
        refine S.x ?_
        replace hh := fin_x hR1 hh
        refine TC.exitHere ?_
        refine S.n ?_
        refine TC.seq ?_
        refine TC.seq ?_
        refine TC.region ?_
        refine TL.v rfl (OpVal.moveI (.inr rfl) rfl) rfl rfl ?_
        refine TL.nil ?_
        refine S.n ?_
        refine TC.block ?_
        refine TC.loopG (α := (Nat) × (Store)) [6, 16, 17, 18, 19, 20, 87, 88, 89, 90, 91, 92, 93, 94, 95, 96, 97, 98, 99, 100, 101, 102, 103, 104, 105, 106, 107, 108, 109, 110, 111, 112, 113, 114, 115, 116, 117, 118, 119, 120, 121, 122, 123, 124, 125, 126, 127, 128] (fun g => [(16, .int .i64 ((g.1 : Nat) : Int))]) (fun g => [Res.cells b103_1 #[.slice a144 l143.length c145, .map (some b150)] 101, Res.rowS 22 1 (pkSl 1 Go.E.encI Go.E.encI_len).en (.slice a144 l143.length c145) z146, Res.mapB keyS keyI (some b150) m149, Res.cells b107 #[.slice a153 l152.length c154] 60, Res.rowS 22 1 (pkSl 1 Go.E.encI Go.E.encI_len).en (.slice a153 l152.length c154) z155]) (fun g => g.2) (fun g => iter (fun q : Nat => whittlelaw05_InternDoes_b2 x1 l143 m149 l152 x2 q) g.1 = some r ∧ ZOk g.2 (pkSl 1 Go.E.encI Go.E.encI_len) z146 l143 ∧ ZOk g.2 (pkSl 1 Go.E.encI Go.E.encI_len) z155 l152 ∧ Store.le τ160 g.2) (fun g => rounds (fun q : Nat => whittlelaw05_InternDoes_b2 x1 l143 m149 l152 x2 q) g.1) (0, τ160) (Sub.front 4 rfl rfl (Sub.front 4 rfl rfl (Sub.front 4 rfl rfl (Sub.front 4 rfl rfl (Sub.front 4 rfl rfl (Sub.pre 5 rfl)))))) rfl (by repeat (first | exact trivial | refine ⟨rfl, ?_⟩)) ⟨hh, zf147, zf156, (Store.le.refl _)⟩ (fun g2 j2 hg2 => ?_)
        obtain ⟨k188, τ189⟩ := g2
        obtain ⟨hh, zf186, zf187, hle190⟩ := hg2
        try dsimp only at zf186
        try dsimp only at zf187
        dsimp only at hle190
        replace f0_0 := f0_0.mono hle190
        replace f1_0 := f1_0.mono hle190
        replace zf103_5 := zf103_5.mono hle190
        replace zf158 := zf158.mono hle190
        replace zf147 := zf147.mono hle190
        replace zf156 := zf156.mono hle190
        show TC _ _ _ (upds (mask _ j2 _) [(16, .int .i64 ((k188 : Nat) : Int))]) τ189 [Res.cells b103_1 #[.slice a144 l143.length c145, .map (some b150)] 101, Res.rowS 22 1 (pkSl 1 Go.E.encI Go.E.encI_len).en (.slice a144 l143.length c145) z146, Res.mapB keyS keyI (some b150) m149, Res.cells b107 #[.slice a153 l152.length c154] 60, Res.rowS 22 1 (pkSl 1 Go.E.encI Go.E.encI_len).en (.slice a153 l152.length c154) z155]
        obtain ⟨z1, hh, hR1⟩ := iter_e hh
        dsimp only [whittlelaw05_InternDoes_b2] at hh
        have zf186b := zf186.length
        have zf187b := zf187.length
        refine TC.isSl (i := 1) rfl (fun _ hb191 _ => ?_)
        refine TC.isSl (i := 4) rfl (fun _ hb192 _ => ?_)
        refine TC.seq ?_
        refine TC.seq ?_
        refine TC.region ?_
        refine TL.v rfl (OpVal.moveI (.inl rfl) rfl) rfl rfl ?_
        refine TL.v rfl (OpVal.moveSl (.inl rfl) rfl) rfl rfl ?_
        refine TL.v rfl (OpVal.lenC rfl Try.underlying56 rfl) rfl rfl ?_
        refine TL.v rfl (OpVal.lss rfl rfl rfl) rfl rfl ?_
        refine TL.nil ?_
        refine S.n ?_
        refine TC.cond rfl (fun h193 => ?_) (fun h193 => ?_)
        · replace hh := iteO_t h193 hh
          replace h193 := of_decide_eq_true h193
          refine TC.skip ?_
          refine S.n ?_
          refine TC.seq ?_
          refine TC.block ?_
          refine TC.seq ?_
          refine TC.region ?_
          refine TL.v rfl (OpVal.moveLoc (.inl rfl) rfl) rfl rfl ?_
          refine TL.v rfl (OpVal.moveSl (.inl rfl) rfl) rfl rfl ?_
          refine TL.v rfl (OpVal.moveI (.inl rfl) rfl) rfl rfl ?_
          refine TL.v rfl (OpVal.indexN rfl Try.underlying56 sz22 rfl rfl f1_0.isSl (by omega)) rfl rfl ?_
          obtain ⟨p194, hk194, hg194⟩ := RZ.seg f1_0 k188 (by omega)
          replace hk194 : RS _ 1 Go.E.encI (.slice p194.1 (nth x1 k188 ([] : List Int)).length p194.2) (nth x1 k188 ([] : List Int)) := hk194
          have hk194b := hk194.rv.big
          refine TL.v rfl (OpVal.of (OpVal.loadSeg0 rfl ag22 rfl hg194 rfl) (v' := .slice p194.1 ((nth x1 k188 ([] : List Int)).length) p194.2) rfl) rfl rfl ?_
          refine TL.front 2 rfl rfl ?_
          refine TL.front 2 rfl rfl ?_
          refine TL.front 2 rfl rfl ?_
          obtain ⟨v87, u87, hh⟩ := bnd_e hh
          refine TL.op rfl (OpOk.call (intern_Table_Find_con zf186 hk194 u87) rfl rfl pf42 rfl rfl rfl rfl ?_)
          rintro _ _ _ hle195 ⟨rfl, rfl, rfl⟩
          refine TL.v rfl (OpVal.moveT (.inl rfl) rfl) rfl rfl ?_
          refine TL.v rfl (OpVal.extract rfl rfl rfl) rfl rfl ?_
          refine TL.v rfl (OpVal.extract rfl rfl rfl) rfl rfl ?_
          refine TL.v rfl (OpVal.moveI (.inr rfl) rfl) rfl rfl ?_
          refine TL.v rfl (OpVal.moveB (.inr rfl) rfl) rfl rfl ?_
          refine TL.nil ?_
          refine S.n ?_
          refine TC.seq ?_
          refine TC.region ?_
          refine TL.v rfl (OpVal.moveLoc (.inl rfl) rfl) rfl rfl ?_
          refine TL.v rfl (OpVal.moveSl (.inl rfl) rfl) rfl rfl ?_
          refine TL.v rfl (OpVal.moveI (.inl rfl) rfl) rfl rfl ?_
          refine TL.v rfl (OpVal.indexN rfl Try.underlying56 sz22 rfl rfl f1_0.isSl (by omega)) rfl rfl ?_
          obtain ⟨p196, hk196, hg196⟩ := RZ.seg f1_0 k188 (by omega)
          replace hk196 : RS _ 1 Go.E.encI (.slice p196.1 (nth x1 k188 ([] : List Int)).length p196.2) (nth x1 k188 ([] : List Int)) := hk196
          have hk196b := hk196.rv.big
          refine TL.v rfl (OpVal.of (OpVal.loadSeg0 rfl ag22 rfl hg196 rfl) (v' := .slice p196.1 ((nth x1 k188 ([] : List Int)).length) p196.2) rfl) rfl rfl ?_
          refine TL.front 4 rfl rfl ?_
          refine TL.front 4 rfl rfl ?_
          obtain ⟨v98, u98, hh⟩ := bnd_e hh
          refine TL.op rfl (OpOk.call (whittleref05_Table_Find_con zf187 hk196 u98) rfl rfl pf43 rfl rfl rfl rfl ?_)
          rintro _ _ _ hle197 ⟨rfl, rfl, rfl⟩
          refine TL.v rfl (OpVal.moveT (.inl rfl) rfl) rfl rfl ?_
          refine TL.v rfl (OpVal.extract rfl rfl rfl) rfl rfl ?_
          refine TL.v rfl (OpVal.extract rfl rfl rfl) rfl rfl ?_
          refine TL.v rfl (OpVal.moveI (.inr rfl) rfl) rfl rfl ?_
          refine TL.v rfl (OpVal.moveB (.inr rfl) rfl) rfl rfl ?_
          refine TL.nil ?_
          refine S.n ?_
          refine TC.seq ?_
          refine TC.draw [] (by kernel_rfl) ?_
          refine TA.takeP 0 rfl (by kernel_rfl) (by kernel_rfl) (by kernel_rfl) rfl (OpVal.moveI (.inl rfl) rfl) rfl rfl ?_
          refine TA.takeP 1 rfl (by kernel_rfl) (by kernel_rfl) (by kernel_rfl) rfl (OpVal.moveI (.inl rfl) rfl) rfl rfl ?_
          refine TA.takeP 2 rfl (by kernel_rfl) (by kernel_rfl) (by kernel_rfl) rfl (OpVal.neq rfl rfl rfl) rfl rfl ?_
          refine TA.takeP 3 rfl (by kernel_rfl) (by kernel_rfl) (by kernel_rfl) rfl (OpVal.moveB (.inl rfl) rfl) rfl rfl ?_
          refine TA.split 114 rfl (fun h198 => ?_) (fun h198 => ?_)
          · replace hh := iteO_t h198 hh
            replace h198 := of_decide_eq_true h198
            refine TA.takeOff 4 rfl (by kernel_rfl) (by kernel_rfl) (by kernel_rfl) (by kernel_rfl) rfl rfl rfl rfl rfl rfl rfl rfl ?_
            refine TA.takeOff 5 rfl (by kernel_rfl) (by kernel_rfl) (by kernel_rfl) (by kernel_rfl) rfl rfl rfl rfl rfl rfl rfl rfl ?_
            refine TA.takeOff 6 rfl (by kernel_rfl) (by kernel_rfl) (by kernel_rfl) (by kernel_rfl) rfl rfl rfl rfl rfl rfl rfl rfl ?_
            refine TA.takeP 7 rfl (by kernel_rfl) (by kernel_rfl) (by kernel_rfl) rfl (OpVal.pickTB rfl rfl rfl) rfl rfl ?_
            refine TA.takeP 8 rfl (by kernel_rfl) (by kernel_rfl) (by kernel_rfl) rfl (OpVal.moveB (.inl rfl) rfl) rfl rfl ?_
            refine TA.takeOff 9 rfl (by kernel_rfl) (by kernel_rfl) (by kernel_rfl) (by kernel_rfl) rfl rfl rfl rfl rfl rfl rfl rfl ?_
            refine TA.takeOff 10 rfl (by kernel_rfl) (by kernel_rfl) (by kernel_rfl) (by kernel_rfl) rfl rfl rfl rfl rfl rfl rfl rfl ?_
            refine TA.takeOff 11 rfl (by kernel_rfl) (by kernel_rfl) (by kernel_rfl) (by kernel_rfl) rfl rfl rfl rfl rfl rfl rfl rfl ?_
            refine TA.takeOff 12 rfl (by kernel_rfl) (by kernel_rfl) (by kernel_rfl) (by kernel_rfl) rfl rfl rfl rfl rfl rfl rfl rfl ?_
            refine TA.takeOff 13 rfl (by kernel_rfl) (by kernel_rfl) (by kernel_rfl) (by kernel_rfl) rfl rfl rfl rfl rfl rfl rfl rfl ?_
            refine TA.takeOff 14 rfl (by kernel_rfl) (by kernel_rfl) (by kernel_rfl) (by kernel_rfl) rfl rfl rfl rfl rfl rfl rfl rfl ?_
            refine TA.takeOff 15 rfl (by kernel_rfl) (by kernel_rfl) (by kernel_rfl) (by kernel_rfl) rfl rfl rfl rfl rfl rfl rfl rfl ?_
            refine TA.takeOff 16 rfl (by kernel_rfl) (by kernel_rfl) (by kernel_rfl) (by kernel_rfl) rfl rfl rfl rfl rfl rfl rfl rfl ?_
            refine TA.takeP 17 rfl (by kernel_rfl) (by kernel_rfl) (by kernel_rfl) rfl (OpVal.pickTB rfl rfl rfl) rfl rfl ?_
            refine TA.done (by kernel_rfl) ?_
            refine S.n ?_
            refine TC.cond rfl (fun _ => ?_) (fun h => Bool.noConfusion h)
            refine TC.seq ?_
            refine TC.region ?_
            refine TL.v rfl (OpVal.moveB (.inr rfl) rfl) rfl rfl ?_
            refine TL.nil ?_
            refine S.n ?_
            refine TC.ofSub (Sub.pre 0 rfl) ?_
            refine TC.back ?_
            refine TC.ret ?_
            refine B.r ?_
            refine S.r ?_
            refine S.r ?_
            replace hh := fin_x hR1 hh
            refine B.r ?_
            refine S.r ?_
            obtain rfl := Option.some.inj hh
            exact RetOk.mk' (rs := [.tmp 6]) [] rfl (.inl rfl) (RVs.tmp rfl RVs.nil) (List.sublist_append_left _ _) ⟨rfl, rfl, rfl⟩
          · replace hh := iteO_f h198 hh
            replace h198 := of_decide_eq_false h198
            refine TA.takeOn 4 rfl (by kernel_rfl) (by kernel_rfl) (by kernel_rfl) (by kernel_rfl) rfl rfl rfl rfl rfl (OpVal.moveB (.inl rfl) rfl) rfl rfl ?_
            refine TA.takeOn 5 rfl (by kernel_rfl) (by kernel_rfl) (by kernel_rfl) (by kernel_rfl) rfl rfl rfl rfl rfl (OpVal.moveB (.inl rfl) rfl) rfl rfl ?_
            refine TA.takeOn 6 rfl (by kernel_rfl) (by kernel_rfl) (by kernel_rfl) (by kernel_rfl) rfl rfl rfl rfl rfl (OpVal.neqB rfl rfl rfl Try.underlying4) rfl rfl ?_
            refine TA.takeP 7 rfl (by kernel_rfl) (by kernel_rfl) (by kernel_rfl) rfl (OpVal.pickFB rfl rfl rfl) rfl rfl ?_
            refine TA.takeP 8 rfl (by kernel_rfl) (by kernel_rfl) (by kernel_rfl) rfl (OpVal.moveB (.inl rfl) rfl) rfl rfl ?_
            refine TA.split 119 rfl (fun h199 => ?_) (fun h199 => ?_)
            · replace hh := iteO_t h199 hh
              refine TA.takeOff 9 rfl (by kernel_rfl) (by kernel_rfl) (by kernel_rfl) (by kernel_rfl) rfl rfl rfl rfl rfl rfl rfl rfl ?_
              refine TA.takeOff 10 rfl (by kernel_rfl) (by kernel_rfl) (by kernel_rfl) (by kernel_rfl) rfl rfl rfl rfl rfl rfl rfl rfl ?_
              refine TA.takeOff 11 rfl (by kernel_rfl) (by kernel_rfl) (by kernel_rfl) (by kernel_rfl) rfl rfl rfl rfl rfl rfl rfl rfl ?_
              refine TA.takeOff 12 rfl (by kernel_rfl) (by kernel_rfl) (by kernel_rfl) (by kernel_rfl) rfl rfl rfl rfl rfl rfl rfl rfl ?_
              refine TA.takeOff 13 rfl (by kernel_rfl) (by kernel_rfl) (by kernel_rfl) (by kernel_rfl) rfl rfl rfl rfl rfl rfl rfl rfl ?_
              refine TA.takeOff 14 rfl (by kernel_rfl) (by kernel_rfl) (by kernel_rfl) (by kernel_rfl) rfl rfl rfl rfl rfl rfl rfl rfl ?_
              refine TA.takeOff 15 rfl (by kernel_rfl) (by kernel_rfl) (by kernel_rfl) (by kernel_rfl) rfl rfl rfl rfl rfl rfl rfl rfl ?_
              refine TA.takeOff 16 rfl (by kernel_rfl) (by kernel_rfl) (by kernel_rfl) (by kernel_rfl) rfl rfl rfl rfl rfl rfl rfl rfl ?_
              refine TA.takeP 17 rfl (by kernel_rfl) (by kernel_rfl) (by kernel_rfl) rfl (OpVal.pickTB rfl rfl rfl) rfl rfl ?_
              refine TA.done (by kernel_rfl) ?_
              refine S.n ?_
              refine TC.cond rfl (fun _ => ?_) (fun h => Bool.noConfusion h)
              refine TC.seq ?_
              refine TC.region ?_
              refine TL.v rfl (OpVal.moveB (.inr rfl) rfl) rfl rfl ?_
              refine TL.nil ?_
              refine S.n ?_
              refine TC.ofSub (Sub.pre 0 rfl) ?_
              refine TC.back ?_
              refine TC.ret ?_
              refine B.r ?_
              refine S.r ?_
              refine S.r ?_
              replace hh := fin_x hR1 hh
              refine B.r ?_
              refine S.r ?_
              obtain rfl := Option.some.inj hh
              exact RetOk.mk' (rs := [.tmp 6]) [] rfl (.inl rfl) (RVs.tmp rfl RVs.nil) (List.sublist_append_left _ _) ⟨rfl, rfl, rfl⟩
            · replace hh := iteO_f h199 hh
              refine TA.takeOn 9 rfl (by kernel_rfl) (by kernel_rfl) (by kernel_rfl) (by kernel_rfl) rfl rfl rfl rfl rfl (OpVal.moveLoc (.inl rfl) rfl) rfl rfl ?_
              refine TA.takeOn 11 rfl (by kernel_rfl) (by kernel_rfl) (by kernel_rfl) (by kernel_rfl) rfl rfl rfl rfl rfl (OpVal.moveLoc (.inl rfl) rfl) rfl rfl ?_
              refine TA.takeOn 12 rfl (by kernel_rfl) (by kernel_rfl) (by kernel_rfl) (by kernel_rfl) rfl rfl rfl rfl rfl (OpVal.nilCheckLoc rfl rfl) rfl rfl ?_
              refine TA.takeOn 13 rfl (by kernel_rfl) (by kernel_rfl) (by kernel_rfl) (by kernel_rfl) rfl rfl rfl rfl rfl (OpVal.fieldLoc rfl fo60_0 rfl) rfl rfl ?_
              refine TA.takeOn 14 rfl (by kernel_rfl) (by kernel_rfl) (by kernel_rfl) (by kernel_rfl) rfl rfl rfl rfl rfl (OpVal.loadLoc rfl ag56 rfl (i := 0) rfl rfl) rfl rfl ?_
              refine TA.takeOn 15 rfl (by kernel_rfl) (by kernel_rfl) (by kernel_rfl) (by kernel_rfl) rfl rfl rfl rfl rfl (OpVal.lenC rfl Try.underlying56 rfl) rfl rfl ?_
              refine TA.front 4 rfl rfl ?_
              refine TA.front 4 rfl rfl ?_
              refine TA.front 4 rfl rfl ?_
              obtain ⟨v114, u114, hh⟩ := bnd_e hh
              refine TA.actOn 10 (by kernel_rfl) rfl rfl rfl rfl rfl rfl (OpOk.call (intern_Table_Size_con zf186 u114) rfl rfl pf39 rfl rfl rfl rfl ?_)
              rintro _ _ _ hle200 ⟨rfl, rfl, rfl⟩
              refine ⟨(fun w h => sees_of (Store.le.refl _) (fun r hr => mem_pick [3, 4, 0, 1, 2] rfl hr) w h), ?_⟩
              refine TA.takeOn 16 rfl (by kernel_rfl) (by kernel_rfl) (by kernel_rfl) (by kernel_rfl) rfl rfl rfl rfl rfl (OpVal.neq rfl rfl rfl) rfl rfl ?_
              refine TA.takeP 17 rfl (by kernel_rfl) (by kernel_rfl) (by kernel_rfl) rfl (OpVal.pickFB rfl rfl rfl) rfl rfl ?_
              refine TA.done (by kernel_rfl) ?_
              refine S.n ?_
              refine TC.cond rfl (fun h201 => ?_) (fun h201 => ?_)
              · replace hh := iteO_t h201 hh
                replace h201 := of_decide_eq_true h201
                refine TC.seq ?_
                refine TC.region ?_
                refine TL.v rfl (OpVal.moveB (.inr rfl) rfl) rfl rfl ?_
                refine TL.nil ?_
                refine S.n ?_
                refine TC.ofSub (Sub.pre 0 rfl) ?_
                refine TC.back ?_
                refine TC.ret ?_
                refine B.r ?_
                refine S.r ?_
                refine S.r ?_
                replace hh := fin_x hR1 hh
                refine B.r ?_
                refine S.r ?_
                obtain rfl := Option.some.inj hh
                exact RetOk.mk' (rs := [.tmp 6]) [] rfl (.inl rfl) (RVs.tmp rfl RVs.nil) (List.sublist_append_left _ _) ⟨rfl, rfl, rfl⟩
              · replace hh := iteO_f h201 hh
                replace h201 := of_decide_eq_false h201
                refine TC.skip ?_
                refine B.n ?_
                refine S.n ?_
                refine TC.region ?_
                refine TL.v rfl (OpVal.moveI (.inl rfl) rfl) rfl rfl ?_
                refine TL.v rfl (OpVal.succ rfl rfl rfl (by omega)) rfl rfl ?_
                refine TL.v rfl (OpVal.moveI (.inr rfl) rfl) rfl rfl ?_
                refine TL.nil ?_
                refine S.n ?_
                obtain ⟨hh, hlt202⟩ := nxt_x hR1 hh
                refine ⟨by repeat (first | exact Agr.refl _ _ | exact Agr.mask | refine Agr.upd rfl ?_ | refine Agr.maskIn rfl ?_ | refine Agr.upds rfl ?_), ((k188 + 1), τ189), hlt202, ⟨hh, zf186, zf187, hle190⟩, by repeat (first | exact trivial | refine ⟨rfl, ?_⟩), Sub.front 4 rfl rfl (Sub.front 4 rfl rfl (Sub.front 4 rfl rfl (Sub.front 4 rfl rfl (Sub.front 4 rfl rfl (Sub.pre 5 rfl))))), rfl⟩
        · replace hh := iteO_f h193 hh
          replace h193 := of_decide_eq_false h193
          refine TC.exit ?_
          refine S.x ?_
          refine S.x ?_
          replace hh := fin_x hR1 hh
          refine TC.exitHere ?_
          refine S.n ?_
          refine TC.seq ?_
          refine TC.region ?_
          refine TL.v rfl (OpVal.moveLoc (.inl rfl) rfl) rfl rfl ?_
          refine TL.v rfl (OpVal.moveI (.inl rfl) rfl) rfl rfl ?_
          refine TL.front 2 rfl rfl ?_
          refine TL.front 2 rfl rfl ?_
          refine TL.front 2 rfl rfl ?_
          obtain ⟨v128, u128, hh⟩ := bnd_e hh
          refine TL.op rfl (OpOk.call (intern_Table_Row_con zf186 u128) rfl rfl pf44 rfl rfl rfl rfl ?_)
          rintro _ _ _ hle203 ⟨a203_1, c203_2, rfl, rfl, rfl⟩
          refine TL.v rfl (OpVal.moveT (.inl rfl) rfl) rfl rfl ?_
          refine TL.v rfl (OpVal.extract rfl rfl rfl) rfl rfl ?_
          refine TL.v rfl (OpVal.extract rfl rfl rfl) rfl rfl ?_
          refine TL.v rfl (OpVal.moveSl (.inr rfl) rfl) rfl rfl ?_
          refine TL.v rfl (OpVal.moveI (.inr rfl) rfl) rfl rfl ?_
          refine TL.nil ?_
          refine S.n ?_
          refine TC.seq ?_
          refine TC.region ?_
          refine TL.v rfl (OpVal.moveLoc (.inl rfl) rfl) rfl rfl ?_
          refine TL.v rfl (OpVal.moveI (.inl rfl) rfl) rfl rfl ?_
          refine TL.front 5 rfl rfl ?_
          refine TL.front 5 rfl rfl ?_
          obtain ⟨v136, u136, hh⟩ := bnd_e hh
          refine TL.op rfl (OpOk.call (whittleref05_Table_Row_con zf187 u136) rfl rfl pf45 rfl rfl rfl rfl ?_)
          rintro _ τ205 _ hle205 ⟨a205_1, c205_2, rfl, hr205_3, rfl⟩
          replace f0_0 := f0_0.mono hle205
          replace f1_0 := f1_0.mono hle205
          replace zf103_5 := zf103_5.mono hle205
          replace zf158 := zf158.mono hle205
          replace zf147 := zf147.mono hle205
          replace zf156 := zf156.mono hle205
          replace zf186 := zf186.mono hle205
          replace zf187 := zf187.mono hle205
          have hr205_3b := hr205_3.rv.big
          refine TL.v rfl (OpVal.moveT (.inl rfl) rfl) rfl rfl ?_
          refine TL.v rfl (OpVal.extract rfl rfl rfl) rfl rfl ?_
          refine TL.v rfl (OpVal.extract rfl rfl rfl) rfl rfl ?_
          refine TL.v rfl (OpVal.moveSl (.inr rfl) rfl) rfl rfl ?_
          refine TL.v rfl (OpVal.moveI (.inr rfl) rfl) rfl rfl ?_
          refine TL.nil ?_
          refine S.n ?_
          refine TC.seq ?_
          refine TC.region ?_
          obtain ⟨v142, u142, hh⟩ := bnd_e hh
          refine TL.op rfl (OpOk.callP (whittlelaw05_awake_con u142) rfl rfl pf38 rfl rfl rfl ?_)
          refine TL.v rfl (OpVal.moveB (.inl rfl) rfl) rfl rfl ?_
          refine TL.split 142 rfl (fun h206 => ?_) (fun h206 => ?_)
          · replace hh := iteO_t h206 hh
            refine TL.gv rfl rfl rfl rfl rfl (OpVal.moveSl (.inl rfl) rfl) rfl rfl ?_
            refine TL.gv rfl rfl rfl rfl rfl (OpVal.moveSl (.inl rfl) rfl) rfl rfl ?_
            obtain ⟨v146, u146, hh⟩ := bnd_e hh
            refine TL.front 2 rfl rfl ?_
            refine TL.gon rfl rfl rfl rfl rfl (OpOk.callK (Con.lend Go.E.encI_len (fun _ hle208 hr207 => whittleref02_Ints_con hr207 (hr205_3.mono hle208) u146)) rfl rfl pf46 rfl rfl rfl rfl ?_)
            refine TL.v rfl (OpVal.pickTB rfl rfl rfl) rfl rfl ?_
            refine TL.v rfl (OpVal.moveB (.inl rfl) rfl) rfl rfl ?_
            refine TL.split 147 rfl (fun h209 => ?_) (fun h209 => ?_)
            · replace hh := iteO_t h209 hh
              refine TL.gv rfl rfl rfl rfl rfl (OpVal.moveI (.inl rfl) rfl) rfl rfl ?_
              refine TL.gv rfl rfl rfl rfl rfl (OpVal.moveI (.inl rfl) rfl) rfl rfl ?_
              refine TL.gv rfl rfl rfl rfl rfl (OpVal.eql rfl rfl rfl) rfl rfl ?_
              refine TL.v rfl (OpVal.pickTB rfl rfl rfl) rfl rfl ?_
              refine TL.v rfl (OpVal.moveB (.inr rfl) rfl) rfl rfl ?_
              refine TL.nil ?_
              refine S.n ?_
              refine TC.ofSub (Sub.pre 0 rfl) ?_
              refine TC.back ?_
              refine TC.ret ?_
              obtain rfl := Option.some.inj hh
              exact RetOk.mk' (rs := [.tmp 6]) [] rfl (.inl rfl) (RVs.tmp rfl RVs.nil) (List.sublist_append_left _ _) ⟨rfl, rfl, rfl⟩
            · replace hh := iteO_f h209 hh
              refine TL.goff rfl rfl rfl rfl rfl rfl rfl rfl ?_
              refine TL.goff rfl rfl rfl rfl rfl rfl rfl rfl ?_
              refine TL.goff rfl rfl rfl rfl rfl rfl rfl rfl ?_
              refine TL.v rfl (OpVal.pickFB rfl rfl rfl) rfl rfl ?_
              refine TL.v rfl (OpVal.moveB (.inr rfl) rfl) rfl rfl ?_
              refine TL.nil ?_
              refine S.n ?_
              refine TC.ofSub (Sub.pre 0 rfl) ?_
              refine TC.back ?_
              refine TC.ret ?_
              obtain rfl := Option.some.inj hh
              exact RetOk.mk' (rs := [.tmp 6]) [] rfl (.inl rfl) (RVs.tmp rfl RVs.nil) (List.sublist_append_left _ _) ⟨rfl, rfl, rfl⟩
          · replace hh := iteO_f h206 hh
            refine TL.goff rfl rfl rfl rfl rfl rfl rfl rfl ?_
            refine TL.goff rfl rfl rfl rfl rfl rfl rfl rfl ?_
            refine TL.goff rfl rfl rfl rfl rfl rfl rfl rfl ?_
            refine TL.v rfl (OpVal.pickFB rfl rfl rfl) rfl rfl ?_
            refine TL.v rfl (OpVal.moveB (.inl rfl) rfl) rfl rfl ?_
            refine TL.goff rfl rfl rfl rfl rfl rfl rfl rfl ?_
            refine TL.goff rfl rfl rfl rfl rfl rfl rfl rfl ?_
            refine TL.goff rfl rfl rfl rfl rfl rfl rfl rfl ?_
            refine TL.v rfl (OpVal.pickFB rfl rfl rfl) rfl rfl ?_
            refine TL.v rfl (OpVal.moveB (.inr rfl) rfl) rfl rfl ?_
            refine TL.nil ?_
            refine S.n ?_
            refine TC.ofSub (Sub.pre 0 rfl) ?_
            refine TC.back ?_
            refine TC.ret ?_
            obtain rfl := Option.some.inj hh
            exact RetOk.mk' (rs := [.tmp 6]) [] rfl (.inl rfl) (RVs.tmp rfl RVs.nil) (List.sublist_append_left _ _) ⟨rfl, rfl, rfl⟩

noncomputable def whittlelaw05_InternSame_b3 (v76 : (List Int) × Int) (v46 : Int × Bool × Int × ITable) (l149 : List Int) (k152 : Nat) (l205 : List Int) (k207 : Nat) : Option (((List Int) × Nat) ⊕ (((List (List Int)) × (FM (List UInt8) Int) × (List Int) × Nat) ⊕ (Bool))) :=
  iteO (decide (((k207 : Nat) : Int) < ((v76.1.length : Nat) : Int))) (grd (k207 < l205.length) (nxt ((l205.set k207 (-7)), (k207 + 1)))) (fin (nxt (v46.2.2.2.of.rows, v46.2.2.2.of.places, (l149 ++ [v46.1]), (k152 + 1))))
noncomputable def whittlelaw05_InternSame_b2 (v42 : (List Int)) (v46 : Int × Bool × Int × ITable) (l149 : List Int) (k152 : Nat) (l181 : List Int) (k183 : Nat) : Option (((List Int) × Nat) ⊕ (((List (List Int)) × (FM (List UInt8) Int) × (List Int) × Nat) ⊕ (Bool))) :=
  iteO (decide (((k183 : Nat) : Int) < ((v42.length : Nat) : Int))) (grd (k183 < l181.length) (nxt ((l181.set k183 (-7)), (k183 + 1)))) (fin (bnd (intern_Table_Row (⟨(⟨v46.2.2.2.of.rows, v46.2.2.2.of.places⟩ : IStore)⟩ : ITable) v46.1) (fun v76 => iter (fun q : (List Int) × Nat => whittlelaw05_InternSame_b3 v76 v46 l149 k152 q.1 q.2) (v76.1, 0))))
noncomputable def whittlelaw05_InternSame_b1 (x0 : List (List Int)) (x1 : Int) (x2 : Int) (l140 : List (List Int)) (m146 : FM (List UInt8) Int) (l149 : List Int) (k152 : Nat) : Option (((List (List Int)) × (FM (List UInt8) Int) × (List Int) × Nat) ⊕ (Bool)) :=
  iteO (decide (((k152 : Nat) : Int) < ((x0.length : Nat) : Int))) (bnd (whittleref02_Own (nth x0 k152 ([] : List Int))) (fun v42 => bnd (putKeep (⟨(⟨l140, m146⟩ : IStore)⟩ : ITable) v42) (fun v46 => iteO (decide (v46.2.2.1 ≠ 0)) (fin (some false)) (grd ((l149.length + [v46.1].length) * 8 ≤ 140737488355328) (iter (fun q : (List Int) × Nat => whittlelaw05_InternSame_b2 v42 v46 l149 k152 q.1 q.2) (v42, 0)))))) (fin (grd (0 ≤ x1 ∧ x1 < (x0.length : Int)) (bnd (intern_Sort (nth x0 x1.toNat ([] : List Int))) (fun v101 => grd (0 ≤ x2 ∧ x2 < (x0.length : Int)) (bnd (intern_Sort (nth x0 x2.toNat ([] : List Int))) (fun v106 => bnd (whittleref02_Ints v101 v106) (fun v107 => grd (0 ≤ x1 ∧ x1 < (l149.length : Int)) (bnd (intern_Table_Row (⟨(⟨l140, m146⟩ : IStore)⟩ : ITable) (nth l149 x1.toNat (0 : Int))) (fun v114 => grd (0 ≤ x2 ∧ x2 < (x0.length : Int)) (bnd (intern_Table_Find (⟨(⟨l140, m146⟩ : IStore)⟩ : ITable) (nth x0 x2.toNat ([] : List Int))) (fun v125 => bnd (whittlelaw05_awake) (fun v131 => iteO v131 (grd (0 ≤ x1 ∧ x1 < (l149.length : Int)) (grd (0 ≤ x2 ∧ x2 < (l149.length : Int)) (iteO ((decide ((nth l149 x1.toNat (0 : Int)) = (nth l149 x2.toNat (0 : Int)))) == v107) (iteO (decide (v114.2 = 0)) (grd (0 ≤ x1 ∧ x1 < (x0.length : Int)) (bnd (intern_Sort (nth x0 x1.toNat ([] : List Int))) (fun v155 => bnd (whittleref02_Ints v114.1 v155) (fun v156 => iteO v156 (iteO v125.2 (grd (0 ≤ x2 ∧ x2 < (l149.length : Int)) (some (decide (v125.1 = (nth l149 x2.toNat (0 : Int)))))) (some false)) (some false))))) (some false)) (some false)))) (some false)))))))))))))
noncomputable def whittlelaw05_InternSame (x0 : List (List Int)) (x1 : Int) (x2 : Int) : Option (Bool) :=
  bnd (whittlelaw05_few x0) (fun v3 => iteO (!v3) (bnd (whittlelaw05_awake) (fun v25 => some v25)) (iteO (decide (x1 < 0)) (bnd (whittlelaw05_awake) (fun v25 => some v25)) (iteO (decide (((x0.length : Nat) : Int) ≤ x1)) (bnd (whittlelaw05_awake) (fun v25 => some v25)) (iteO (decide (x2 < 0)) (bnd (whittlelaw05_awake) (fun v25 => some v25)) (iteO (decide (((x0.length : Nat) : Int) ≤ x2)) (bnd (whittlelaw05_awake) (fun v25 => some v25)) (bnd (intern_New) (fun v27 => iter (fun q : (List (List Int)) × (FM (List UInt8) Int) × (List Int) × Nat => whittlelaw05_InternSame_b1 x0 x1 x2 q.1 q.2.1 q.2.2.1 q.2.2.2) (v27.of.rows, v27.of.places, ([] : List Int), 0))))))))
theorem whittlelaw05_InternSame_con {σ : Store} {x0 : List (List Int)} {a0_0 : Option Addr} {c0_0 : Nat} {x1 : Int} {x2 : Int} (f0_0 : RZ σ (pkSl 1 Go.E.encI Go.E.encI_len) (.slice a0_0 x0.length c0_0) x0) {r : Bool} (hh : whittlelaw05_InternSame x0 x1 x2 = some r) :
    Con Try.prog 10 #[.slice a0_0 x0.length c0_0, .int .i64 x1, .int .i64 x2] σ [] (PureP (.bool r) σ) := by
  dsimp only [whittlelaw05_InternSame] at hh
  have f0_0b := f0_0.big
  refine Con.mk (n := 165) Try.func10 rfl rfl rfl (fun w0 => ?_)
  refine TC.seq ?_
  refine TC.region ?_
  refine TL.v rfl (OpVal.moveB (.inr rfl) rfl) rfl rfl ?_
  refine TL.nil ?_
  refine S.n ?_
  refine TC.seq ?_
  refine TC.seq ?_
  refine TC.region ?_
  refine TL.v rfl (OpVal.moveSl (.inl rfl) rfl) rfl rfl ?_
  obtain ⟨v3, u3, hh⟩ := bnd_e hh
  refine TL.op rfl (OpOk.callP (whittlelaw05_few_con f0_0 u3) rfl rfl pf40 rfl rfl rfl ?_)
  refine TL.v rfl (OpVal.not rfl rfl) rfl rfl ?_
  refine TL.v rfl (OpVal.moveB (.inl rfl) rfl) rfl rfl ?_
  refine TL.split 26 rfl (fun h101 => ?_) (fun h101 => ?_)
  · replace hh := iteO_t h101 hh
    refine TL.goff rfl rfl rfl rfl rfl rfl rfl rfl ?_
    refine TL.goff rfl rfl rfl rfl rfl rfl rfl rfl ?_
    refine TL.v rfl (OpVal.pickTB rfl rfl rfl) rfl rfl ?_
    refine TL.v rfl (OpVal.moveB (.inl rfl) rfl) rfl rfl ?_
    refine TL.goff rfl rfl rfl rfl rfl rfl rfl rfl ?_
    refine TL.goff rfl rfl rfl rfl rfl rfl rfl rfl ?_
    refine TL.goff rfl rfl rfl rfl rfl rfl rfl rfl ?_
    refine TL.goff rfl rfl rfl rfl rfl rfl rfl rfl ?_
    refine TL.v rfl (OpVal.pickTB rfl rfl rfl) rfl rfl ?_
    refine TL.v rfl (OpVal.moveB (.inl rfl) rfl) rfl rfl ?_
    refine TL.goff rfl rfl rfl rfl rfl rfl rfl rfl ?_
    refine TL.goff rfl rfl rfl rfl rfl rfl rfl rfl ?_
    refine TL.v rfl (OpVal.pickTB rfl rfl rfl) rfl rfl ?_
    refine TL.v rfl (OpVal.moveB (.inl rfl) rfl) rfl rfl ?_
    refine TL.goff rfl rfl rfl rfl rfl rfl rfl rfl ?_
    refine TL.goff rfl rfl rfl rfl rfl rfl rfl rfl ?_
    refine TL.goff rfl rfl rfl rfl rfl rfl rfl rfl ?_
    refine TL.goff rfl rfl rfl rfl rfl rfl rfl rfl ?_
    refine TL.v rfl (OpVal.pickTB rfl rfl rfl) rfl rfl ?_
    refine TL.nil ?_
    refine S.n ?_
    refine TC.cond rfl (fun _ => ?_) (fun h => Bool.noConfusion h)
    refine TC.seq ?_
    refine TC.region ?_
    obtain ⟨v25, u25, hh⟩ := bnd_e hh
    refine TL.op rfl (OpOk.callP (whittlelaw05_awake_con u25) rfl rfl pf38 rfl rfl rfl ?_)
    refine TL.v rfl (OpVal.moveB (.inr rfl) rfl) rfl rfl ?_
    refine TL.nil ?_
    refine S.n ?_
    refine TC.ret ?_
    refine S.r ?_
    obtain rfl := Option.some.inj hh
    exact RetOk.mk' (rs := [.tmp 6]) [] rfl (.inl rfl) (RVs.tmp rfl RVs.nil) (List.sublist_append_left _ _) ⟨rfl, rfl, rfl⟩
  · replace hh := iteO_f h101 hh
    refine TL.gv rfl rfl rfl rfl rfl (OpVal.moveI (.inl rfl) rfl) rfl rfl ?_
    refine TL.gv rfl rfl rfl rfl rfl (OpVal.lss rfl rfl rfl) rfl rfl ?_
    refine TL.v rfl (OpVal.pickFB rfl rfl rfl) rfl rfl ?_
    refine TL.v rfl (OpVal.moveB (.inl rfl) rfl) rfl rfl ?_
    refine TL.split 30 rfl (fun h102 => ?_) (fun h102 => ?_)
    · replace hh := iteO_t h102 hh
      replace h102 := of_decide_eq_true h102
      refine TL.goff rfl rfl rfl rfl rfl rfl rfl rfl ?_
      refine TL.goff rfl rfl rfl rfl rfl rfl rfl rfl ?_
      refine TL.goff rfl rfl rfl rfl rfl rfl rfl rfl ?_
      refine TL.goff rfl rfl rfl rfl rfl rfl rfl rfl ?_
      refine TL.v rfl (OpVal.pickTB rfl rfl rfl) rfl rfl ?_
      refine TL.v rfl (OpVal.moveB (.inl rfl) rfl) rfl rfl ?_
      refine TL.goff rfl rfl rfl rfl rfl rfl rfl rfl ?_
      refine TL.goff rfl rfl rfl rfl rfl rfl rfl rfl ?_
      refine TL.v rfl (OpVal.pickTB rfl rfl rfl) rfl rfl ?_
      refine TL.v rfl (OpVal.moveB (.inl rfl) rfl) rfl rfl ?_
      refine TL.goff rfl rfl rfl rfl rfl rfl rfl rfl ?_
      refine TL.goff rfl rfl rfl rfl rfl rfl rfl rfl ?_
      refine TL.goff rfl rfl rfl rfl rfl rfl rfl rfl ?_
      refine TL.goff rfl rfl rfl rfl rfl rfl rfl rfl ?_
      refine TL.v rfl (OpVal.pickTB rfl rfl rfl) rfl rfl ?_
      refine TL.nil ?_
      refine S.n ?_
      refine TC.cond rfl (fun _ => ?_) (fun h => Bool.noConfusion h)
      refine TC.seq ?_
      refine TC.region ?_
      obtain ⟨v25, u25, hh⟩ := bnd_e hh
      refine TL.op rfl (OpOk.callP (whittlelaw05_awake_con u25) rfl rfl pf38 rfl rfl rfl ?_)
      refine TL.v rfl (OpVal.moveB (.inr rfl) rfl) rfl rfl ?_
      refine TL.nil ?_
      refine S.n ?_
      refine TC.ret ?_
      refine S.r ?_
      obtain rfl := Option.some.inj hh
      exact RetOk.mk' (rs := [.tmp 6]) [] rfl (.inl rfl) (RVs.tmp rfl RVs.nil) (List.sublist_append_left _ _) ⟨rfl, rfl, rfl⟩
    · replace hh := iteO_f h102 hh
      replace h102 := of_decide_eq_false h102
      refine TL.gv rfl rfl rfl rfl rfl (OpVal.moveI (.inl rfl) rfl) rfl rfl ?_
      refine TL.gv rfl rfl rfl rfl rfl (OpVal.moveSl (.inl rfl) rfl) rfl rfl ?_
      refine TL.gv rfl rfl rfl rfl rfl (OpVal.lenC rfl Try.underlying56 rfl) rfl rfl ?_
      refine TL.gv rfl rfl rfl rfl rfl (OpVal.geq rfl rfl rfl) rfl rfl ?_
      refine TL.v rfl (OpVal.pickFB rfl rfl rfl) rfl rfl ?_
      refine TL.v rfl (OpVal.moveB (.inl rfl) rfl) rfl rfl ?_
      refine TL.split 36 rfl (fun h103 => ?_) (fun h103 => ?_)
      · replace hh := iteO_t h103 hh
        replace h103 := of_decide_eq_true h103
        refine TL.goff rfl rfl rfl rfl rfl rfl rfl rfl ?_
        refine TL.goff rfl rfl rfl rfl rfl rfl rfl rfl ?_
        refine TL.v rfl (OpVal.pickTB rfl rfl rfl) rfl rfl ?_
        refine TL.v rfl (OpVal.moveB (.inl rfl) rfl) rfl rfl ?_
        refine TL.goff rfl rfl rfl rfl rfl rfl rfl rfl ?_
        refine TL.goff rfl rfl rfl rfl rfl rfl rfl rfl ?_
        refine TL.goff rfl rfl rfl rfl rfl rfl rfl rfl ?_
        refine TL.goff rfl rfl rfl rfl rfl rfl rfl rfl ?_
        refine TL.v rfl (OpVal.pickTB rfl rfl rfl) rfl rfl ?_
        refine TL.nil ?_
        refine S.n ?_
        refine TC.cond rfl (fun _ => ?_) (fun h => Bool.noConfusion h)
        refine TC.seq ?_
        refine TC.region ?_
        obtain ⟨v25, u25, hh⟩ := bnd_e hh
        refine TL.op rfl (OpOk.callP (whittlelaw05_awake_con u25) rfl rfl pf38 rfl rfl rfl ?_)
        refine TL.v rfl (OpVal.moveB (.inr rfl) rfl) rfl rfl ?_
        refine TL.nil ?_
        refine S.n ?_
        refine TC.ret ?_
        refine S.r ?_
        obtain rfl := Option.some.inj hh
        exact RetOk.mk' (rs := [.tmp 6]) [] rfl (.inl rfl) (RVs.tmp rfl RVs.nil) (List.sublist_append_left _ _) ⟨rfl, rfl, rfl⟩
      · replace hh := iteO_f h103 hh
        replace h103 := of_decide_eq_false h103
        refine TL.gv rfl rfl rfl rfl rfl (OpVal.moveI (.inl rfl) rfl) rfl rfl ?_
        refine TL.gv rfl rfl rfl rfl rfl (OpVal.lss rfl rfl rfl) rfl rfl ?_
        refine TL.v rfl (OpVal.pickFB rfl rfl rfl) rfl rfl ?_
        refine TL.v rfl (OpVal.moveB (.inl rfl) rfl) rfl rfl ?_
        refine TL.split 40 rfl (fun h104 => ?_) (fun h104 => ?_)
        · replace hh := iteO_t h104 hh
          replace h104 := of_decide_eq_true h104
          refine TL.goff rfl rfl rfl rfl rfl rfl rfl rfl ?_
          refine TL.goff rfl rfl rfl rfl rfl rfl rfl rfl ?_
          refine TL.goff rfl rfl rfl rfl rfl rfl rfl rfl ?_
          refine TL.goff rfl rfl rfl rfl rfl rfl rfl rfl ?_
          refine TL.v rfl (OpVal.pickTB rfl rfl rfl) rfl rfl ?_
          refine TL.nil ?_
          refine S.n ?_
          refine TC.cond rfl (fun _ => ?_) (fun h => Bool.noConfusion h)
          refine TC.seq ?_
          refine TC.region ?_
          obtain ⟨v25, u25, hh⟩ := bnd_e hh
          refine TL.op rfl (OpOk.callP (whittlelaw05_awake_con u25) rfl rfl pf38 rfl rfl rfl ?_)
          refine TL.v rfl (OpVal.moveB (.inr rfl) rfl) rfl rfl ?_
          refine TL.nil ?_
          refine S.n ?_
          refine TC.ret ?_
          refine S.r ?_
          obtain rfl := Option.some.inj hh
          exact RetOk.mk' (rs := [.tmp 6]) [] rfl (.inl rfl) (RVs.tmp rfl RVs.nil) (List.sublist_append_left _ _) ⟨rfl, rfl, rfl⟩
        · replace hh := iteO_f h104 hh
          replace h104 := of_decide_eq_false h104
          refine TL.gv rfl rfl rfl rfl rfl (OpVal.moveI (.inl rfl) rfl) rfl rfl ?_
          refine TL.gv rfl rfl rfl rfl rfl (OpVal.moveSl (.inl rfl) rfl) rfl rfl ?_
          refine TL.gv rfl rfl rfl rfl rfl (OpVal.lenC rfl Try.underlying56 rfl) rfl rfl ?_
          refine TL.gv rfl rfl rfl rfl rfl (OpVal.geq rfl rfl rfl) rfl rfl ?_
          refine TL.v rfl (OpVal.pickFB rfl rfl rfl) rfl rfl ?_
          refine TL.nil ?_
          refine S.n ?_
          refine TC.cond rfl (fun h105 => ?_) (fun h105 => ?_)
          · replace hh := iteO_t h105 hh
            replace h105 := of_decide_eq_true h105
            refine TC.seq ?_
            refine TC.region ?_
            obtain ⟨v25, u25, hh⟩ := bnd_e hh
            refine TL.op rfl (OpOk.callP (whittlelaw05_awake_con u25) rfl rfl pf38 rfl rfl rfl ?_)
            refine TL.v rfl (OpVal.moveB (.inr rfl) rfl) rfl rfl ?_
            refine TL.nil ?_
            refine S.n ?_
            refine TC.ret ?_
            refine S.r ?_
            obtain rfl := Option.some.inj hh
            exact RetOk.mk' (rs := [.tmp 6]) [] rfl (.inl rfl) (RVs.tmp rfl RVs.nil) (List.sublist_append_left _ _) ⟨rfl, rfl, rfl⟩
          · replace hh := iteO_f h105 hh
            replace h105 := of_decide_eq_false h105
            refine TC.skip ?_
            refine S.n ?_
            refine TC.seq ?_
            refine TC.region ?_
            obtain ⟨v27, u27, hh⟩ := bnd_e hh
            refine TL.op rfl (OpOk.call (intern_New_con u27) rfl rfl pf36 rfl rfl rfl rfl ?_)
            rintro _ τ106 _ hle106 ⟨b106_1, a106_2, c106_3, z106_4, b106_6, rfl, zf106_5, rfl⟩
            replace f0_0 := f0_0.mono hle106
            have zf106_5b := zf106_5.length
            refine TL.v rfl (OpVal.moveLoc (.inr rfl) rfl) rfl rfl ?_
            refine TL.nil ?_
            refine S.n ?_
            refine TC.seq ?_
            refine TC.seq ?_
            refine TC.region ?_
            refine TL.v rfl (OpVal.moveLoc (.inl rfl) rfl) rfl rfl ?_
            refine TL.v rfl (OpVal.eqlNil rfl Try.underlying50 rfl rfl) rfl rfl ?_
            refine TL.nil ?_
            refine S.n ?_
            refine TC.cond rfl (fun h => Bool.noConfusion h) (fun _ => ?_)
            refine TC.skip ?_
            refine S.n ?_
            refine TC.seq ?_
            refine TC.region ?_
            refine TL.v rfl (OpVal.moveSl (.inr rfl) rfl) rfl rfl ?_
            refine TL.nil ?_
            refine S.n ?_
            refine TC.seq ?_
            refine TC.seq ?_
            refine TC.region ?_
            refine TL.v rfl (OpVal.moveI (.inr rfl) rfl) rfl rfl ?_
            refine TL.nil ?_
            refine S.n ?_
            refine TC.block ?_
            refine TC.nilS 3 1 Go.E.encI ?_
            refine TC.loopG (α := ((List (List Int)) × (FM (List UInt8) Int) × (List Int) × Nat) × ((Option Addr) × Nat × (List (List Int × (pkSl 1 Go.E.encI Go.E.encI_len).P)) × Nat × (Option Addr) × Nat × Store)) [6, 8, 9, 10, 11, 12, 13, 14, 15, 16, 17, 50, 51, 52, 53, 54, 55, 56, 57, 58, 59, 60, 61, 62, 63, 64, 65, 66, 67, 68, 69, 70, 71, 72, 73, 74, 75, 76, 77, 78, 79, 80, 81, 82, 83, 84, 85, 86, 87, 88, 89, 90, 91, 92, 93, 94, 95, 96, 97] (fun g => [(8, .slice g.2.2.2.2.2.1 g.1.2.2.1.length g.2.2.2.2.2.2.1), (9, .int .i64 ((g.1.2.2.2 : Nat) : Int))]) (fun g => [Res.cells b106_1 #[.slice g.2.1 g.1.1.length g.2.2.1, .map (some g.2.2.2.2.1)] 101, Res.rowS 22 1 (pkSl 1 Go.E.encI Go.E.encI_len).en (.slice g.2.1 g.1.1.length g.2.2.1) g.2.2.2.1, Res.mapB keyS keyI (some g.2.2.2.2.1) g.1.2.1, Res.rowS 3 1 Go.E.encI (.slice g.2.2.2.2.2.1 g.1.2.2.1.length g.2.2.2.2.2.2.1) g.1.2.2.1]) (fun g => g.2.2.2.2.2.2.2) (fun g => iter (fun q : (List (List Int)) × (FM (List UInt8) Int) × (List Int) × Nat => whittlelaw05_InternSame_b1 x0 x1 x2 q.1 q.2.1 q.2.2.1 q.2.2.2) g.1 = some r ∧ ZOk g.2.2.2.2.2.2.2 (pkSl 1 Go.E.encI Go.E.encI_len) g.2.2.2.1 g.1.1 ∧ Store.le τ106 g.2.2.2.2.2.2.2) (fun g => rounds (fun q : (List (List Int)) × (FM (List UInt8) Int) × (List Int) × Nat => whittlelaw05_InternSame_b1 x0 x1 x2 q.1 q.2.1 q.2.2.1 q.2.2.2) g.1) ((v27.of.rows, v27.of.places, ([] : List Int), 0), (a106_2, c106_3, z106_4, b106_6, none, 0, τ106)) (Sub.front 3 rfl rfl (Sub.front 3 rfl rfl (Sub.front 3 rfl rfl (Sub.pre 4 rfl)))) rfl (by repeat (first | exact trivial | refine ⟨rfl, ?_⟩)) ⟨hh, zf106_5, (Store.le.refl _)⟩ (fun g1 j1 hg1 => ?_)
            obtain ⟨⟨l140, m146, l149, k152⟩, ⟨a141, c142, z143, b147, a150, c151, τ154⟩⟩ := g1
            obtain ⟨hh, zf144, hle155⟩ := hg1
            try dsimp only at zf144
            dsimp only at hle155
            replace f0_0 := f0_0.mono hle155
            replace zf106_5 := zf106_5.mono hle155
            show TC _ _ _ (upds (mask _ j1 _) [(8, .slice a150 l149.length c151), (9, .int .i64 ((k152 : Nat) : Int))]) τ154 [Res.cells b106_1 #[.slice a141 l140.length c142, .map (some b147)] 101, Res.rowS 22 1 (pkSl 1 Go.E.encI Go.E.encI_len).en (.slice a141 l140.length c142) z143, Res.mapB keyS keyI (some b147) m146, Res.rowS 3 1 Go.E.encI (.slice a150 l149.length c151) l149]
            obtain ⟨z1, hh, hR1⟩ := iter_e hh
            dsimp only [whittlelaw05_InternSame_b1] at hh
            have zf144b := zf144.length
            refine TC.isSl (i := 1) rfl (fun _ hb156 _ => ?_)
            refine TC.isSl (i := 3) rfl (fun _ hb157 _ => ?_)
            refine TC.seq ?_
            refine TC.seq ?_
            refine TC.region ?_
            refine TL.v rfl (OpVal.moveI (.inl rfl) rfl) rfl rfl ?_
            refine TL.v rfl (OpVal.moveSl (.inl rfl) rfl) rfl rfl ?_
            refine TL.v rfl (OpVal.lenC rfl Try.underlying56 rfl) rfl rfl ?_
            refine TL.v rfl (OpVal.lss rfl rfl rfl) rfl rfl ?_
            refine TL.nil ?_
            refine S.n ?_
            refine TC.cond rfl (fun h158 => ?_) (fun h158 => ?_)
            · replace hh := iteO_t h158 hh
              replace h158 := of_decide_eq_true h158
              refine TC.skip ?_
              refine S.n ?_
              refine TC.seq ?_
              refine TC.block ?_
              refine TC.seq ?_
              refine TC.region ?_
              refine TL.v rfl (OpVal.moveSl (.inl rfl) rfl) rfl rfl ?_
              refine TL.v rfl (OpVal.moveI (.inl rfl) rfl) rfl rfl ?_
              refine TL.v rfl (OpVal.indexN rfl Try.underlying56 sz22 rfl rfl f0_0.isSl (by omega)) rfl rfl ?_
              obtain ⟨p159, hk159, hg159⟩ := RZ.seg f0_0 k152 (by omega)
              replace hk159 : RS _ 1 Go.E.encI (.slice p159.1 (nth x0 k152 ([] : List Int)).length p159.2) (nth x0 k152 ([] : List Int)) := hk159
              have hk159b := hk159.rv.big
              refine TL.v rfl (OpVal.of (OpVal.loadSeg0 rfl ag22 rfl hg159 rfl) (v' := .slice p159.1 ((nth x0 k152 ([] : List Int)).length) p159.2) rfl) rfl rfl ?_
              obtain ⟨v42, u42, hh⟩ := bnd_e hh
              refine TL.op rfl (OpOk.call (whittleref02_Own_con hk159 u42) rfl rfl pf47 rfl rfl rfl rfl ?_)
              rintro _ _ _ hle160 ⟨a160_1, c160_1, rfl, rfl, rfl⟩
              refine TL.v rfl (OpVal.moveSl (.inr rfl) rfl) rfl rfl ?_
              refine TL.nil ?_
              refine S.n ?_
              refine TC.seq ?_
              refine TC.region ?_
              refine TL.v rfl (OpVal.moveLoc (.inl rfl) rfl) rfl rfl ?_
              refine TL.v rfl (OpVal.moveSl (.inl rfl) rfl) rfl rfl ?_
              refine TL.front 3 rfl rfl ?_
              refine TL.front 3 rfl rfl ?_
              refine TL.front 3 rfl rfl ?_
              obtain ⟨v46, u46, hh⟩ := bnd_e hh
              refine TL.op rfl (OpOk.call (putKeep_con zf144 u46) rfl rfl pf37 rfl rfl rfl rfl ?_)
              rintro _ τ162 _ hle162 ⟨a162_1, c162_2, z162_3, b162_5, rfl, zf162_4, rfl⟩
              replace f0_0 := f0_0.mono hle162
              replace zf106_5 := zf106_5.mono hle162
              replace zf144 := zf144.mono hle162
              replace hk159 := hk159.mono hle162
              replace hg159 := hg159.mono hle162
              have zf162_4b := zf162_4.length
              refine TL.v rfl (OpVal.moveT (.inl rfl) rfl) rfl rfl ?_
              refine TL.v rfl (OpVal.extract rfl rfl rfl) rfl rfl ?_
              refine TL.v rfl (OpVal.extract rfl rfl rfl) rfl rfl ?_
              refine TL.v rfl (OpVal.extract rfl rfl rfl) rfl rfl ?_
              refine TL.v rfl (OpVal.moveI (.inr rfl) rfl) rfl rfl ?_
              refine TL.v rfl (OpVal.moveB (.inr rfl) rfl) rfl rfl ?_
              refine TL.v rfl (OpVal.moveI (.inr rfl) rfl) rfl rfl ?_
              refine TL.nil ?_
              refine S.n ?_
              refine TC.seq ?_
              refine TC.seq ?_
              refine TC.region ?_
              refine TL.v rfl (OpVal.moveI (.inl rfl) rfl) rfl rfl ?_
              refine TL.v rfl (OpVal.neq rfl rfl rfl) rfl rfl ?_
              refine TL.nil ?_
              refine S.n ?_
              refine TC.cond rfl (fun h165 => ?_) (fun h165 => ?_)
              · replace hh := iteO_t h165 hh
                replace h165 := of_decide_eq_true h165
                refine TC.seq ?_
                refine TC.region ?_
                refine TL.v rfl (OpVal.moveB (.inr rfl) rfl) rfl rfl ?_
                refine TL.nil ?_
                refine S.n ?_
                refine TC.ofSub (Sub.pre 0 rfl) ?_
                refine TC.back ?_
                refine TC.ret ?_
                refine S.r ?_
                refine B.r ?_
                refine S.r ?_
                refine S.r ?_
                replace hh := fin_x hR1 hh
                refine B.r ?_
                refine S.r ?_
                obtain rfl := Option.some.inj hh
                exact RetOk.mk' (rs := [.tmp 6]) [] rfl (.inl rfl) (RVs.tmp rfl RVs.nil) (List.sublist_append_left _ _) ⟨rfl, rfl, rfl⟩
              · replace hh := iteO_f h165 hh
                replace h165 := of_decide_eq_false h165
                refine TC.skip ?_
                refine S.n ?_
                refine TC.seq ?_
                refine TC.region ?_
                refine TL.v rfl (OpVal.moveSl (.inl rfl) rfl) rfl rfl ?_
                refine TL.v rfl (OpVal.moveI (.inl rfl) rfl) rfl rfl ?_
                refine TL.op rfl (OpOk.lit (enc := Go.E.encI) [v46.1] rfl Try.underlying22 sz3 ze3 rfl rfl rfl Go.E.encI_len (by decide) (by decide) (0 : Int) rfl (by decide) rfl (by decide) Go.E.encI_one (fun a166 c167 => ?_))
                refine TL.front 5 rfl rfl ?_
                have u60 := grd_c hh
                replace hh := grd_t hh
                refine TL.op rfl (OpOk.appendS rfl rfl Try.underlying22 sz3 by3 ze3 rfl rfl (by decide) rfl rfl rfl (.inr ⟨_, 0, rfl⟩) (by simpa using u60) (by decide) (fun a169 c170 => ?_))
                refine TL.v rfl (OpVal.moveSl (.inr rfl) rfl) rfl rfl ?_
                refine TL.nil ?_
                refine S.n ?_
                refine TC.seq ?_
                refine TC.seq ?_
                refine TC.region ?_
                refine TL.v rfl (OpVal.moveI (.inr rfl) rfl) rfl rfl ?_
                refine TL.nil ?_
                refine S.n ?_
                refine TC.block ?_
                refine TC.loopG (α := ((List Int) × Nat) × (Store)) [14, 74, 75, 76, 77, 78, 79, 80, 81, 82] (fun g => [(14, .int .i64 ((g.1.2 : Nat) : Int))]) (fun g => [Res.cells b106_1 #[.slice a162_1 v46.2.2.2.of.rows.length c162_2, .map (some b162_5)] 101, Res.rowS 22 1 (pkSl 1 Go.E.encI Go.E.encI_len).en (.slice a162_1 v46.2.2.2.of.rows.length c162_2) z162_3, Res.mapB keyS keyI (some b162_5) v46.2.2.2.of.places, Res.rowS 3 1 Go.E.encI (.slice a169 (l149 ++ [v46.1]).length c170) (l149 ++ [v46.1]), Res.rowS 3 1 Go.E.encI (.slice a160_1 v42.length c160_1) g.1.1]) (fun g => g.2) (fun g => iter (fun q : (List Int) × Nat => whittlelaw05_InternSame_b2 v42 v46 l149 k152 q.1 q.2) g.1 = some z1 ∧ ZOk g.2 (pkSl 1 Go.E.encI Go.E.encI_len) z162_3 v46.2.2.2.of.rows ∧ g.1.1.length = v42.length ∧ Store.le τ162 g.2) (fun g => rounds (fun q : (List Int) × Nat => whittlelaw05_InternSame_b2 v42 v46 l149 k152 q.1 q.2) g.1) ((v42, 0), τ162) (Sub.front 5 rfl rfl (Sub.front 1 rfl rfl (Sub.front 5 rfl rfl (Sub.front 5 rfl rfl (Sub.front 5 rfl rfl (Sub.pre 5 rfl)))))) rfl (by repeat (first | exact trivial | refine ⟨rfl, ?_⟩)) ⟨hh, zf162_4, rfl, (Store.le.refl _)⟩ (fun g2 j2 hg2 => ?_)
                obtain ⟨⟨l181, k183⟩, τ184⟩ := g2
                obtain ⟨hh, zf180, hn182, hle185⟩ := hg2
                try dsimp only at zf180
                try dsimp only at hn182
                dsimp only at hle185
                replace f0_0 := f0_0.mono hle185
                replace zf106_5 := zf106_5.mono hle185
                replace zf144 := zf144.mono hle185
                replace hk159 := hk159.mono hle185
                replace hg159 := hg159.mono hle185
                replace zf162_4 := zf162_4.mono hle185
                show TC _ _ _ (upds (mask _ j2 _) [(14, .int .i64 ((k183 : Nat) : Int))]) τ184 [Res.cells b106_1 #[.slice a162_1 v46.2.2.2.of.rows.length c162_2, .map (some b162_5)] 101, Res.rowS 22 1 (pkSl 1 Go.E.encI Go.E.encI_len).en (.slice a162_1 v46.2.2.2.of.rows.length c162_2) z162_3, Res.mapB keyS keyI (some b162_5) v46.2.2.2.of.places, Res.rowS 3 1 Go.E.encI (.slice a169 (l149 ++ [v46.1]).length c170) (l149 ++ [v46.1]), Res.rowS 3 1 Go.E.encI (.slice a160_1 v42.length c160_1) l181]
                obtain ⟨z2, hh, hR2⟩ := iter_e hh
                dsimp only [whittlelaw05_InternSame_b2] at hh
                have zf180b := zf180.length
                have hn182b := hn182
                refine TC.isSl (i := 1) rfl (fun _ hb186 _ => ?_)
                refine TC.isSl (i := 3) rfl (fun _ hb187 _ => ?_)
                refine TC.isSl (i := 4) rfl (fun _ hb188 _ => ?_)
                refine TC.seq ?_
                refine TC.seq ?_
                refine TC.region ?_
                refine TL.v rfl (OpVal.moveI (.inl rfl) rfl) rfl rfl ?_
                refine TL.v rfl (OpVal.moveSl (.inl rfl) rfl) rfl rfl ?_
                refine TL.v rfl (OpVal.lenC rfl Try.underlying22 rfl) rfl rfl ?_
                refine TL.v rfl (OpVal.lss rfl rfl rfl) rfl rfl ?_
                refine TL.nil ?_
                refine S.n ?_
                refine TC.cond rfl (fun h189 => ?_) (fun h189 => ?_)
                · replace hh := iteO_t h189 hh
                  replace h189 := of_decide_eq_true h189
                  refine TC.skip ?_
                  refine S.n ?_
                  refine TC.seq ?_
                  refine TC.block ?_
                  refine TC.region ?_
                  refine TL.v rfl (OpVal.moveSl (.inl rfl) rfl) rfl rfl ?_
                  refine TL.v rfl (OpVal.moveI (.inl rfl) rfl) rfl rfl ?_
                  have u69 := grd_c hh
                  replace hh := grd_t hh
                  refine TL.isSl (i := 4) rfl (fun hs190 _ _ => ?_)
                  refine TL.v rfl (OpVal.indexN rfl Try.underlying22 sz3 rfl rfl hs190 (by omega)) rfl rfl ?_
                  refine TL.front 4 rfl rfl ?_
                  have hn191 : (l181.set k183 (-7)).length = v42.length := by rw [List.length_set]; exact hn182
                  refine TL.op rfl (OpOk.storeS (-7) rfl sz3 rfl rfl rfl rfl Go.E.encI_len Go.E.encI_one (by omega) (by omega) ?_)
                  refine TL.nil ?_
                  refine B.n ?_
                  refine S.n ?_
                  refine TC.region ?_
                  refine TL.v rfl (OpVal.moveI (.inl rfl) rfl) rfl rfl ?_
                  refine TL.v rfl (OpVal.succ rfl rfl rfl (by omega)) rfl rfl ?_
                  refine TL.v rfl (OpVal.moveI (.inr rfl) rfl) rfl rfl ?_
                  refine TL.nil ?_
                  refine S.n ?_
                  obtain ⟨hh, hlt192⟩ := nxt_x hR2 hh
                  refine ⟨by repeat (first | exact Agr.refl _ _ | exact Agr.mask | refine Agr.upd rfl ?_ | refine Agr.maskIn rfl ?_ | refine Agr.upds rfl ?_), (((l181.set k183 (-7)), (k183 + 1)), τ184), hlt192, ⟨hh, zf180, hn191, hle185⟩, by repeat (first | exact trivial | refine ⟨rfl, ?_⟩), Sub.front 4 rfl rfl (Sub.front 4 rfl rfl (Sub.front 4 rfl rfl (Sub.front 4 rfl rfl (Sub.pre 5 rfl)))), rfl⟩
                · replace hh := iteO_f h189 hh
                  replace h189 := of_decide_eq_false h189
                  refine TC.exit ?_
                  refine S.x ?_
                  refine S.x ?_
                  replace hh := fin_x hR2 hh
                  refine TC.exitHere ?_
                  refine S.n ?_
                  refine TC.seq ?_
                  refine TC.region ?_
                  refine TL.v rfl (OpVal.moveLoc (.inl rfl) rfl) rfl rfl ?_
                  refine TL.v rfl (OpVal.moveI (.inl rfl) rfl) rfl rfl ?_
                  refine TL.front 2 rfl rfl ?_
                  refine TL.front 2 rfl rfl ?_
                  refine TL.front 2 rfl rfl ?_
                  obtain ⟨v76, u76, hh⟩ := bnd_e hh
                  refine TL.op rfl (OpOk.call (intern_Table_Row_con zf180 u76) rfl rfl pf44 rfl rfl rfl rfl ?_)
                  rintro _ _ _ hle193 ⟨a193_1, c193_2, rfl, rfl, rfl⟩
                  refine TL.v rfl (OpVal.moveT (.inl rfl) rfl) rfl rfl ?_
                  refine TL.v rfl (OpVal.extract rfl rfl rfl) rfl rfl ?_
                  refine TL.v rfl (OpVal.extract rfl rfl rfl) rfl rfl ?_
                  refine TL.v rfl (OpVal.moveSl (.inr rfl) rfl) rfl rfl ?_
                  refine TL.v rfl (OpVal.moveI (.inr rfl) rfl) rfl rfl ?_
                  refine TL.nil ?_
                  refine S.n ?_
                  refine TC.seq ?_
                  refine TC.region ?_
                  refine TL.v rfl (OpVal.moveI (.inr rfl) rfl) rfl rfl ?_
                  refine TL.nil ?_
                  refine S.n ?_
                  refine TC.block ?_
                  refine TC.loopG (α := ((List Int) × Nat) × (Store)) [17, 89, 90, 91, 92, 93, 94, 95, 96, 97] (fun g => [(17, .int .i64 ((g.1.2 : Nat) : Int))]) (fun g => [Res.cells b106_1 #[.slice a162_1 v46.2.2.2.of.rows.length c162_2, .map (some b162_5)] 101, Res.rowS 22 1 (pkSl 1 Go.E.encI Go.E.encI_len).en (.slice a162_1 v46.2.2.2.of.rows.length c162_2) z162_3, Res.mapB keyS keyI (some b162_5) v46.2.2.2.of.places, Res.rowS 3 1 Go.E.encI (.slice a169 (l149 ++ [v46.1]).length c170) (l149 ++ [v46.1]), Res.rowS 3 1 Go.E.encI (.slice a193_1 v76.1.length c193_2) g.1.1]) (fun g => g.2) (fun g => iter (fun q : (List Int) × Nat => whittlelaw05_InternSame_b3 v76 v46 l149 k152 q.1 q.2) g.1 = some z1 ∧ ZOk g.2 (pkSl 1 Go.E.encI Go.E.encI_len) z162_3 v46.2.2.2.of.rows ∧ g.1.1.length = v76.1.length ∧ Store.le τ184 g.2) (fun g => rounds (fun q : (List Int) × Nat => whittlelaw05_InternSame_b3 v76 v46 l149 k152 q.1 q.2) g.1) ((v76.1, 0), τ184) (Sub.front 4 rfl rfl (Sub.front 4 rfl rfl (Sub.front 4 rfl rfl (Sub.front 4 rfl rfl (Sub.pre 5 rfl))))) rfl (by repeat (first | exact trivial | refine ⟨rfl, ?_⟩)) ⟨hh, zf180, rfl, (Store.le.refl _)⟩ (fun g3 j3 hg3 => ?_)
                  obtain ⟨⟨l205, k207⟩, τ208⟩ := g3
                  obtain ⟨hh, zf204, hn206, hle209⟩ := hg3
                  try dsimp only at zf204
                  try dsimp only at hn206
                  dsimp only at hle209
                  replace f0_0 := f0_0.mono hle209
                  replace zf106_5 := zf106_5.mono hle209
                  replace zf144 := zf144.mono hle209
                  replace hk159 := hk159.mono hle209
                  replace hg159 := hg159.mono hle209
                  replace zf162_4 := zf162_4.mono hle209
                  replace zf180 := zf180.mono hle209
                  show TC _ _ _ (upds (mask _ j3 _) [(17, .int .i64 ((k207 : Nat) : Int))]) τ208 [Res.cells b106_1 #[.slice a162_1 v46.2.2.2.of.rows.length c162_2, .map (some b162_5)] 101, Res.rowS 22 1 (pkSl 1 Go.E.encI Go.E.encI_len).en (.slice a162_1 v46.2.2.2.of.rows.length c162_2) z162_3, Res.mapB keyS keyI (some b162_5) v46.2.2.2.of.places, Res.rowS 3 1 Go.E.encI (.slice a169 (l149 ++ [v46.1]).length c170) (l149 ++ [v46.1]), Res.rowS 3 1 Go.E.encI (.slice a193_1 v76.1.length c193_2) l205]
                  obtain ⟨z2, hh, hR2⟩ := iter_e hh
                  dsimp only [whittlelaw05_InternSame_b3] at hh
                  have zf204b := zf204.length
                  have hn206b := hn206
                  refine TC.isSl (i := 1) rfl (fun _ hb210 _ => ?_)
                  refine TC.isSl (i := 3) rfl (fun _ hb211 _ => ?_)
                  refine TC.isSl (i := 4) rfl (fun _ hb212 _ => ?_)
                  refine TC.seq ?_
                  refine TC.seq ?_
                  refine TC.region ?_
                  refine TL.v rfl (OpVal.moveI (.inl rfl) rfl) rfl rfl ?_
                  refine TL.v rfl (OpVal.moveSl (.inl rfl) rfl) rfl rfl ?_
                  refine TL.v rfl (OpVal.lenC rfl Try.underlying22 rfl) rfl rfl ?_
                  refine TL.v rfl (OpVal.lss rfl rfl rfl) rfl rfl ?_
                  refine TL.nil ?_
                  refine S.n ?_
                  refine TC.cond rfl (fun h213 => ?_) (fun h213 => ?_)
                  · replace hh := iteO_t h213 hh
                    replace h213 := of_decide_eq_true h213
                    refine TC.skip ?_
                    refine S.n ?_
                    refine TC.seq ?_
                    refine TC.block ?_
                    refine TC.region ?_
                    refine TL.v rfl (OpVal.moveSl (.inl rfl) rfl) rfl rfl ?_
                    refine TL.v rfl (OpVal.moveI (.inl rfl) rfl) rfl rfl ?_
                    have u89 := grd_c hh
                    replace hh := grd_t hh
                    refine TL.isSl (i := 4) rfl (fun hs214 _ _ => ?_)
                    refine TL.v rfl (OpVal.indexN rfl Try.underlying22 sz3 rfl rfl hs214 (by omega)) rfl rfl ?_
                    refine TL.front 4 rfl rfl ?_
                    have hn215 : (l205.set k207 (-7)).length = v76.1.length := by rw [List.length_set]; exact hn206
                    refine TL.op rfl (OpOk.storeS (-7) rfl sz3 rfl rfl rfl rfl Go.E.encI_len Go.E.encI_one (by omega) (by omega) ?_)
                    refine TL.nil ?_
                    refine B.n ?_
                    refine S.n ?_
                    refine TC.region ?_
                    refine TL.v rfl (OpVal.moveI (.inl rfl) rfl) rfl rfl ?_
                    refine TL.v rfl (OpVal.succ rfl rfl rfl (by omega)) rfl rfl ?_
                    refine TL.v rfl (OpVal.moveI (.inr rfl) rfl) rfl rfl ?_
                    refine TL.nil ?_
                    refine S.n ?_
                    obtain ⟨hh, hlt216⟩ := nxt_x hR2 hh
                    refine ⟨by repeat (first | exact Agr.refl _ _ | exact Agr.mask | refine Agr.upd rfl ?_ | refine Agr.maskIn rfl ?_ | refine Agr.upds rfl ?_), (((l205.set k207 (-7)), (k207 + 1)), τ208), hlt216, ⟨hh, zf204, hn215, hle209⟩, by repeat (first | exact trivial | refine ⟨rfl, ?_⟩), Sub.front 4 rfl rfl (Sub.front 4 rfl rfl (Sub.front 4 rfl rfl (Sub.front 4 rfl rfl (Sub.pre 5 rfl)))), rfl⟩
                  · replace hh := iteO_f h213 hh
                    replace h213 := of_decide_eq_false h213
                    refine TC.exit ?_
                    refine S.x ?_
                    refine S.x ?_
                    replace hh := fin_x hR2 hh
                    refine TC.exitHere ?_
                    refine B.n ?_
                    refine S.n ?_
                    refine TC.region ?_
                    refine TL.v rfl (OpVal.moveI (.inl rfl) rfl) rfl rfl ?_
                    refine TL.v rfl (OpVal.succ rfl rfl rfl (by omega)) rfl rfl ?_
                    refine TL.v rfl (OpVal.moveI (.inr rfl) rfl) rfl rfl ?_
                    refine TL.nil ?_
                    refine S.n ?_
                    obtain ⟨hh, hlt217⟩ := nxt_x hR1 hh
                    refine ⟨by repeat (first | exact Agr.refl _ _ | exact Agr.mask | refine Agr.upd rfl ?_ | refine Agr.maskIn rfl ?_ | refine Agr.upds rfl ?_), ((v46.2.2.2.of.rows, v46.2.2.2.of.places, (l149 ++ [v46.1]), (k152 + 1)), (a162_1, c162_2, z162_3, b162_5, a169, c170, τ208)), hlt217, ⟨hh, zf204, (((hle155.trans hle162).trans hle185).trans hle209)⟩, by repeat (first | exact trivial | refine ⟨rfl, ?_⟩), Sub.front 3 rfl rfl (Sub.front 3 rfl rfl (Sub.front 3 rfl rfl (Sub.front 3 rfl rfl (Sub.pre 4 rfl)))), rfl⟩
            · replace hh := iteO_f h158 hh
              replace h158 := of_decide_eq_false h158
              refine TC.exit ?_
              refine S.x ?_
              refine S.x ?_
              replace hh := fin_x hR1 hh
              refine TC.exitHere ?_
              refine S.n ?_
              refine TC.seq ?_
              have u99 := grd_c hh
              replace hh := grd_t hh
              obtain ⟨v101, u101, hh⟩ := bnd_e hh
              have u104 := grd_c hh
              replace hh := grd_t hh
              obtain ⟨v106, u106, hh⟩ := bnd_e hh
              obtain ⟨v107, u107, hh⟩ := bnd_e hh
              refine TC.draw [] (by kernel_rfl) ?_
              refine TA.takeP 0 rfl (by kernel_rfl) (by kernel_rfl) (by kernel_rfl) rfl (OpVal.moveSl (.inl rfl) rfl) rfl rfl ?_
              refine TA.takeP 1 rfl (by kernel_rfl) (by kernel_rfl) (by kernel_rfl) rfl (OpVal.moveI (.inl rfl) rfl) rfl rfl ?_
              refine TA.take 2 rfl (by kernel_rfl) (by kernel_rfl) (by kernel_rfl) (by kernel_rfl) rfl (OpVal.index rfl Try.underlying56 sz22 rfl rfl f0_0.isSl u99.1 u99.2) rfl rfl ?_
              obtain ⟨p228, hk228, hg228⟩ := RZ.seg f0_0 x1.toNat (by omega)
              replace hk228 : RS _ 1 Go.E.encI (.slice p228.1 (nth x0 x1.toNat ([] : List Int)).length p228.2) (nth x0 x1.toNat ([] : List Int)) := hk228
              have hk228b := hk228.rv.big
              refine TA.take 3 rfl (by kernel_rfl) (by kernel_rfl) (by kernel_rfl) (by kernel_rfl) rfl (OpVal.of (OpVal.loadSeg0 rfl ag22 rfl hg228 rfl) (v' := .slice p228.1 ((nth x0 x1.toNat ([] : List Int)).length) p228.2) rfl) rfl rfl ?_
              refine TA.takeP 5 rfl (by kernel_rfl) (by kernel_rfl) (by kernel_rfl) rfl (OpVal.moveSl (.inl rfl) rfl) rfl rfl ?_
              refine TA.takeP 6 rfl (by kernel_rfl) (by kernel_rfl) (by kernel_rfl) rfl (OpVal.moveI (.inl rfl) rfl) rfl rfl ?_
              refine TA.take 7 rfl (by kernel_rfl) (by kernel_rfl) (by kernel_rfl) (by kernel_rfl) rfl (OpVal.index rfl Try.underlying56 sz22 rfl rfl f0_0.isSl u104.1 u104.2) rfl rfl ?_
              obtain ⟨p229, hk229, hg229⟩ := RZ.seg f0_0 x2.toNat (by omega)
              replace hk229 : RS _ 1 Go.E.encI (.slice p229.1 (nth x0 x2.toNat ([] : List Int)).length p229.2) (nth x0 x2.toNat ([] : List Int)) := hk229
              have hk229b := hk229.rv.big
              refine TA.take 8 rfl (by kernel_rfl) (by kernel_rfl) (by kernel_rfl) (by kernel_rfl) rfl (OpVal.of (OpVal.loadSeg0 rfl ag22 rfl hg229 rfl) (v' := .slice p229.1 ((nth x0 x2.toNat ([] : List Int)).length) p229.2) rfl) rfl rfl ?_
              refine TA.act 4 (by kernel_rfl) rfl rfl (OpOk.call (intern_Sort_con hk228 u101) rfl rfl pf48 rfl rfl rfl rfl ?_)
              rintro _ _ _ hle230 ⟨a230_1, c230_1, rfl, rfl, rfl⟩
              refine ⟨(fun w h => sees_of (Store.le.refl _) (fun r hr => (List.mem_cons_of_mem _ hr)) w h), ?_⟩
              refine TA.act 9 (by kernel_rfl) rfl rfl (OpOk.call (intern_Sort_con hk229 u106) rfl rfl pf48 rfl rfl rfl rfl ?_)
              rintro _ _ _ hle232 ⟨a232_1, c232_1, rfl, rfl, rfl⟩
              refine ⟨(fun w h => sees_of (Store.le.refl _) (fun r hr => (List.mem_cons_of_mem _ (List.mem_cons_of_mem _ hr))) w h), ?_⟩
              refine TA.front 1 rfl rfl ?_
              refine TA.act 10 (by kernel_rfl) rfl rfl (OpOk.callK (Con.lend Go.E.encI_len (fun _ hle236 hr234 => Con.lend Go.E.encI_len (fun _ hle237 hr235 => whittleref02_Ints_con (hr234.mono hle237) hr235 u107))) rfl rfl pf46 rfl rfl rfl rfl ⟨(fun w h => sees_of (Store.le.refl _) (fun r hr => (List.mem_cons_of_mem _ (List.mem_cons_of_mem _ hr))) w h), ?_⟩)
              refine TA.takeP 11 rfl (by kernel_rfl) (by kernel_rfl) (by kernel_rfl) rfl (OpVal.moveB (.inr rfl) rfl) rfl rfl ?_
              refine TA.done (by kernel_rfl) ?_
              refine S.n ?_
              refine TC.seq ?_
              refine TC.region ?_
              refine TL.v rfl (OpVal.moveLoc (.inl rfl) rfl) rfl rfl ?_
              refine TL.v rfl (OpVal.moveSl (.inl rfl) rfl) rfl rfl ?_
              refine TL.v rfl (OpVal.moveI (.inl rfl) rfl) rfl rfl ?_
              have u112 := grd_c hh
              replace hh := grd_t hh
              refine TL.isSl (i := 5) rfl (fun hs238 _ _ => ?_)
              refine TL.v rfl (OpVal.index rfl Try.underlying22 sz3 rfl rfl hs238 u112.1 u112.2) rfl rfl ?_
              refine TL.v rfl (OpVal.loadO1 (0 : Int) rfl ag3 rfl (q := 5) rfl Go.E.encI_len (by omega) rfl) rfl rfl ?_
              refine TL.front 4 rfl rfl ?_
              refine TL.front 4 rfl rfl ?_
              refine TL.front 4 rfl rfl ?_
              obtain ⟨v114, u114, hh⟩ := bnd_e hh
              refine TL.op rfl (OpOk.call (intern_Table_Row_con zf144 u114) rfl rfl pf44 rfl rfl rfl rfl ?_)
              rintro _ _ _ hle239 ⟨a239_1, c239_2, rfl, rfl, rfl⟩
              refine TL.v rfl (OpVal.moveT (.inl rfl) rfl) rfl rfl ?_
              refine TL.v rfl (OpVal.extract rfl rfl rfl) rfl rfl ?_
              refine TL.v rfl (OpVal.extract rfl rfl rfl) rfl rfl ?_
              refine TL.v rfl (OpVal.moveSl (.inr rfl) rfl) rfl rfl ?_
              refine TL.v rfl (OpVal.moveI (.inr rfl) rfl) rfl rfl ?_
              refine TL.nil ?_
              refine S.n ?_
              refine TC.seq ?_
              refine TC.region ?_
              refine TL.v rfl (OpVal.moveLoc (.inl rfl) rfl) rfl rfl ?_
              refine TL.v rfl (OpVal.moveSl (.inl rfl) rfl) rfl rfl ?_
              refine TL.v rfl (OpVal.moveI (.inl rfl) rfl) rfl rfl ?_
              have u123 := grd_c hh
              replace hh := grd_t hh
              refine TL.v rfl (OpVal.index rfl Try.underlying56 sz22 rfl rfl f0_0.isSl u123.1 u123.2) rfl rfl ?_
              obtain ⟨p241, hk241, hg241⟩ := RZ.seg f0_0 x2.toNat (by omega)
              replace hk241 : RS _ 1 Go.E.encI (.slice p241.1 (nth x0 x2.toNat ([] : List Int)).length p241.2) (nth x0 x2.toNat ([] : List Int)) := hk241
              have hk241b := hk241.rv.big
              refine TL.v rfl (OpVal.of (OpVal.loadSeg0 rfl ag22 rfl hg241 rfl) (v' := .slice p241.1 ((nth x0 x2.toNat ([] : List Int)).length) p241.2) rfl) rfl rfl ?_
              refine TL.front 3 rfl rfl ?_
              refine TL.front 3 rfl rfl ?_
              refine TL.front 3 rfl rfl ?_
              obtain ⟨v125, u125, hh⟩ := bnd_e hh
              refine TL.op rfl (OpOk.call (intern_Table_Find_con zf144 hk241 u125) rfl rfl pf42 rfl rfl rfl rfl ?_)
              rintro _ _ _ hle242 ⟨rfl, rfl, rfl⟩
              refine TL.v rfl (OpVal.moveT (.inl rfl) rfl) rfl rfl ?_
              refine TL.v rfl (OpVal.extract rfl rfl rfl) rfl rfl ?_
              refine TL.v rfl (OpVal.extract rfl rfl rfl) rfl rfl ?_
              refine TL.v rfl (OpVal.moveI (.inr rfl) rfl) rfl rfl ?_
              refine TL.v rfl (OpVal.moveB (.inr rfl) rfl) rfl rfl ?_
              refine TL.nil ?_
              refine S.n ?_
              refine TC.seq ?_
              refine TC.draw [] (by kernel_rfl) ?_
              obtain ⟨v131, u131, hh⟩ := bnd_e hh
              refine TA.act 0 (by kernel_rfl) rfl rfl (OpOk.callP (whittlelaw05_awake_con u131) rfl rfl pf38 rfl rfl rfl ⟨(fun w h => sees_of (Store.le.refl _) (fun r hr => hr) w h), ?_⟩)
              refine TA.takeP 1 rfl (by kernel_rfl) (by kernel_rfl) (by kernel_rfl) rfl (OpVal.moveB (.inl rfl) rfl) rfl rfl ?_
              refine TA.split 128 rfl (fun h243 => ?_) (fun h243 => ?_)
              · replace hh := iteO_t h243 hh
                refine TA.takeOn 2 rfl (by kernel_rfl) (by kernel_rfl) (by kernel_rfl) (by kernel_rfl) rfl rfl rfl rfl rfl (OpVal.moveSl (.inl rfl) rfl) rfl rfl ?_
                refine TA.takeOn 3 rfl (by kernel_rfl) (by kernel_rfl) (by kernel_rfl) (by kernel_rfl) rfl rfl rfl rfl rfl (OpVal.moveI (.inl rfl) rfl) rfl rfl ?_
                have u135 := grd_c hh
                replace hh := grd_t hh
                refine TA.isSl (i := 6) rfl (fun hs244 _ _ => ?_)
                refine TA.takeOn 4 rfl (by kernel_rfl) (by kernel_rfl) (by kernel_rfl) (by kernel_rfl) rfl rfl rfl rfl rfl (OpVal.index rfl Try.underlying22 sz3 rfl rfl hs244 u135.1 u135.2) rfl rfl ?_
                refine TA.takeOn 5 rfl (by kernel_rfl) (by kernel_rfl) (by kernel_rfl) (by kernel_rfl) rfl rfl rfl rfl rfl (OpVal.loadO1 (0 : Int) rfl ag3 rfl (q := 6) rfl Go.E.encI_len (by omega) rfl) rfl rfl ?_
                refine TA.takeOn 6 rfl (by kernel_rfl) (by kernel_rfl) (by kernel_rfl) (by kernel_rfl) rfl rfl rfl rfl rfl (OpVal.moveSl (.inl rfl) rfl) rfl rfl ?_
                refine TA.takeOn 7 rfl (by kernel_rfl) (by kernel_rfl) (by kernel_rfl) (by kernel_rfl) rfl rfl rfl rfl rfl (OpVal.moveI (.inl rfl) rfl) rfl rfl ?_
                have u139 := grd_c hh
                replace hh := grd_t hh
                refine TA.isSl (i := 6) rfl (fun hs245 _ _ => ?_)
                refine TA.takeOn 8 rfl (by kernel_rfl) (by kernel_rfl) (by kernel_rfl) (by kernel_rfl) rfl rfl rfl rfl rfl (OpVal.index rfl Try.underlying22 sz3 rfl rfl hs245 u139.1 u139.2) rfl rfl ?_
                refine TA.takeOn 9 rfl (by kernel_rfl) (by kernel_rfl) (by kernel_rfl) (by kernel_rfl) rfl rfl rfl rfl rfl (OpVal.loadO1 (0 : Int) rfl ag3 rfl (q := 6) rfl Go.E.encI_len (by omega) rfl) rfl rfl ?_
                refine TA.takeOn 10 rfl (by kernel_rfl) (by kernel_rfl) (by kernel_rfl) (by kernel_rfl) rfl rfl rfl rfl rfl (OpVal.eql rfl rfl rfl) rfl rfl ?_
                refine TA.takeOn 11 rfl (by kernel_rfl) (by kernel_rfl) (by kernel_rfl) (by kernel_rfl) rfl rfl rfl rfl rfl (OpVal.moveB (.inl rfl) rfl) rfl rfl ?_
                refine TA.takeOn 12 rfl (by kernel_rfl) (by kernel_rfl) (by kernel_rfl) (by kernel_rfl) rfl rfl rfl rfl rfl (OpVal.eqlB rfl rfl rfl Try.underlying4) rfl rfl ?_
                refine TA.takeP 13 rfl (by kernel_rfl) (by kernel_rfl) (by kernel_rfl) rfl (OpVal.pickTB rfl rfl rfl) rfl rfl ?_
                refine TA.takeP 14 rfl (by kernel_rfl) (by kernel_rfl) (by kernel_rfl) rfl (OpVal.moveB (.inl rfl) rfl) rfl rfl ?_
                refine TA.split 141 rfl (fun h246 => ?_) (fun h246 => ?_)
                · replace hh := iteO_t h246 hh
                  refine TA.takeOn 15 rfl (by kernel_rfl) (by kernel_rfl) (by kernel_rfl) (by kernel_rfl) rfl rfl rfl rfl rfl (OpVal.moveI (.inl rfl) rfl) rfl rfl ?_
                  refine TA.takeOn 16 rfl (by kernel_rfl) (by kernel_rfl) (by kernel_rfl) (by kernel_rfl) rfl rfl rfl rfl rfl (OpVal.eql rfl rfl rfl) rfl rfl ?_
                  refine TA.takeP 17 rfl (by kernel_rfl) (by kernel_rfl) (by kernel_rfl) rfl (OpVal.pickTB rfl rfl rfl) rfl rfl ?_
                  refine TA.takeP 18 rfl (by kernel_rfl) (by kernel_rfl) (by kernel_rfl) rfl (OpVal.moveB (.inl rfl) rfl) rfl rfl ?_
                  refine TA.split 145 rfl (fun h247 => ?_) (fun h247 => ?_)
                  · replace hh := iteO_t h247 hh
                    replace h247 := of_decide_eq_true h247
                    refine TA.takeOn 19 rfl (by kernel_rfl) (by kernel_rfl) (by kernel_rfl) (by kernel_rfl) rfl rfl rfl rfl rfl (OpVal.moveSl (.inl rfl) rfl) rfl rfl ?_
                    refine TA.takeOn 20 rfl (by kernel_rfl) (by kernel_rfl) (by kernel_rfl) (by kernel_rfl) rfl rfl rfl rfl rfl (OpVal.moveSl (.inl rfl) rfl) rfl rfl ?_
                    refine TA.takeOn 21 rfl (by kernel_rfl) (by kernel_rfl) (by kernel_rfl) (by kernel_rfl) rfl rfl rfl rfl rfl (OpVal.moveI (.inl rfl) rfl) rfl rfl ?_
                    have u153 := grd_c hh
                    replace hh := grd_t hh
                    refine TA.takeOn 22 rfl (by kernel_rfl) (by kernel_rfl) (by kernel_rfl) (by kernel_rfl) rfl rfl rfl rfl rfl (OpVal.index rfl Try.underlying56 sz22 rfl rfl f0_0.isSl u153.1 u153.2) rfl rfl ?_
                    obtain ⟨p248, hk248, hg248⟩ := RZ.seg f0_0 x1.toNat (by omega)
                    replace hk248 : RS _ 1 Go.E.encI (.slice p248.1 (nth x0 x1.toNat ([] : List Int)).length p248.2) (nth x0 x1.toNat ([] : List Int)) := hk248
                    have hk248b := hk248.rv.big
                    refine TA.takeOn 23 rfl (by kernel_rfl) (by kernel_rfl) (by kernel_rfl) (by kernel_rfl) rfl rfl rfl rfl rfl (OpVal.of (OpVal.loadSeg0 rfl ag22 rfl hg248 rfl) (v' := .slice p248.1 ((nth x0 x1.toNat ([] : List Int)).length) p248.2) rfl) rfl rfl ?_
                    obtain ⟨v155, u155, hh⟩ := bnd_e hh
                    refine TA.actOn 24 (by kernel_rfl) rfl rfl rfl rfl rfl rfl (OpOk.call (intern_Sort_con hk248 u155) rfl rfl pf48 rfl rfl rfl rfl ?_)
                    rintro _ _ _ hle249 ⟨a249_1, c249_1, rfl, rfl, rfl⟩
                    refine ⟨(fun w h => sees_of (Store.le.refl _) (fun r hr => (List.mem_cons_of_mem _ hr)) w h), ?_⟩
                    obtain ⟨v156, u156, hh⟩ := bnd_e hh
                    refine TA.front 4 rfl rfl ?_
                    refine TA.actOn 25 (by kernel_rfl) rfl rfl rfl rfl rfl rfl (OpOk.callK (Con.lend Go.E.encI_len (fun _ hle253 hr251 => Con.lend Go.E.encI_len (fun _ hle254 hr252 => whittleref02_Ints_con (hr251.mono hle254) hr252 u156))) rfl rfl pf46 rfl rfl rfl rfl ⟨(fun w h => sees_of (Store.le.refl _) (fun r hr => mem_pick [2, 3, 4, 0, 5, 6, 7] rfl hr) w h), ?_⟩)
                    refine TA.takeP 26 rfl (by kernel_rfl) (by kernel_rfl) (by kernel_rfl) rfl (OpVal.pickTB rfl rfl rfl) rfl rfl ?_
                    refine TA.takeP 27 rfl (by kernel_rfl) (by kernel_rfl) (by kernel_rfl) rfl (OpVal.moveB (.inl rfl) rfl) rfl rfl ?_
                    refine TA.split 154 rfl (fun h255 => ?_) (fun h255 => ?_)
                    · replace hh := iteO_t h255 hh
                      refine TA.takeOn 28 rfl (by kernel_rfl) (by kernel_rfl) (by kernel_rfl) (by kernel_rfl) rfl rfl rfl rfl rfl (OpVal.moveB (.inl rfl) rfl) rfl rfl ?_
                      refine TA.takeP 29 rfl (by kernel_rfl) (by kernel_rfl) (by kernel_rfl) rfl (OpVal.pickTB rfl rfl rfl) rfl rfl ?_
                      refine TA.takeP 30 rfl (by kernel_rfl) (by kernel_rfl) (by kernel_rfl) rfl (OpVal.moveB (.inl rfl) rfl) rfl rfl ?_
                      refine TA.split 157 rfl (fun h256 => ?_) (fun h256 => ?_)
                      · replace hh := iteO_t h256 hh
                        refine TA.takeOn 31 rfl (by kernel_rfl) (by kernel_rfl) (by kernel_rfl) (by kernel_rfl) rfl rfl rfl rfl rfl (OpVal.moveI (.inl rfl) rfl) rfl rfl ?_
                        refine TA.takeOn 32 rfl (by kernel_rfl) (by kernel_rfl) (by kernel_rfl) (by kernel_rfl) rfl rfl rfl rfl rfl (OpVal.moveSl (.inl rfl) rfl) rfl rfl ?_
                        refine TA.takeOn 33 rfl (by kernel_rfl) (by kernel_rfl) (by kernel_rfl) (by kernel_rfl) rfl rfl rfl rfl rfl (OpVal.moveI (.inl rfl) rfl) rfl rfl ?_
                        have u165 := grd_c hh
                        replace hh := grd_t hh
                        refine TA.isSl (i := 7) rfl (fun hs257 _ _ => ?_)
                        refine TA.takeOn 34 rfl (by kernel_rfl) (by kernel_rfl) (by kernel_rfl) (by kernel_rfl) rfl rfl rfl rfl rfl (OpVal.index rfl Try.underlying22 sz3 rfl rfl hs257 u165.1 u165.2) rfl rfl ?_
                        refine TA.takeOn 35 rfl (by kernel_rfl) (by kernel_rfl) (by kernel_rfl) (by kernel_rfl) rfl rfl rfl rfl rfl (OpVal.loadO1 (0 : Int) rfl ag3 rfl (q := 6) rfl Go.E.encI_len (by omega) rfl) rfl rfl ?_
                        refine TA.takeOn 36 rfl (by kernel_rfl) (by kernel_rfl) (by kernel_rfl) (by kernel_rfl) rfl rfl rfl rfl rfl (OpVal.eql rfl rfl rfl) rfl rfl ?_
                        refine TA.takeP 37 rfl (by kernel_rfl) (by kernel_rfl) (by kernel_rfl) rfl (OpVal.pickTB rfl rfl rfl) rfl rfl ?_
                        refine TA.takeP 38 rfl (by kernel_rfl) (by kernel_rfl) (by kernel_rfl) rfl (OpVal.moveB (.inr rfl) rfl) rfl rfl ?_
                        refine TA.done (by kernel_rfl) ?_
                        refine S.n ?_
                        refine TC.ofSub (Sub.pre 0 rfl) ?_
                        refine TC.back ?_
                        refine TC.ret ?_
                        obtain rfl := Option.some.inj hh
                        exact RetOk.mk' (rs := [.tmp 6]) [] rfl (.inl rfl) (RVs.tmp rfl RVs.nil) (List.sublist_append_left _ _) ⟨rfl, rfl, rfl⟩
                      · replace hh := iteO_f h256 hh
                        refine TA.takeOff 31 rfl (by kernel_rfl) (by kernel_rfl) (by kernel_rfl) (by kernel_rfl) rfl rfl rfl rfl rfl rfl rfl rfl ?_
                        refine TA.takeOff 32 rfl (by kernel_rfl) (by kernel_rfl) (by kernel_rfl) (by kernel_rfl) rfl rfl rfl rfl rfl rfl rfl rfl ?_
                        refine TA.takeOff 33 rfl (by kernel_rfl) (by kernel_rfl) (by kernel_rfl) (by kernel_rfl) rfl rfl rfl rfl rfl rfl rfl rfl ?_
                        refine TA.takeOff 34 rfl (by kernel_rfl) (by kernel_rfl) (by kernel_rfl) (by kernel_rfl) rfl rfl rfl rfl rfl rfl rfl rfl ?_
                        refine TA.takeOff 35 rfl (by kernel_rfl) (by kernel_rfl) (by kernel_rfl) (by kernel_rfl) rfl rfl rfl rfl rfl rfl rfl rfl ?_
                        refine TA.takeOff 36 rfl (by kernel_rfl) (by kernel_rfl) (by kernel_rfl) (by kernel_rfl) rfl rfl rfl rfl rfl rfl rfl rfl ?_
                        refine TA.takeP 37 rfl (by kernel_rfl) (by kernel_rfl) (by kernel_rfl) rfl (OpVal.pickFB rfl rfl rfl) rfl rfl ?_
                        refine TA.takeP 38 rfl (by kernel_rfl) (by kernel_rfl) (by kernel_rfl) rfl (OpVal.moveB (.inr rfl) rfl) rfl rfl ?_
                        refine TA.done (by kernel_rfl) ?_
                        refine S.n ?_
                        refine TC.ofSub (Sub.pre 0 rfl) ?_
                        refine TC.back ?_
                        refine TC.ret ?_
                        obtain rfl := Option.some.inj hh
                        exact RetOk.mk' (rs := [.tmp 6]) [] rfl (.inl rfl) (RVs.tmp rfl RVs.nil) (List.sublist_append_left _ _) ⟨rfl, rfl, rfl⟩
                    · replace hh := iteO_f h255 hh
                      refine TA.takeOff 28 rfl (by kernel_rfl) (by kernel_rfl) (by kernel_rfl) (by kernel_rfl) rfl rfl rfl rfl rfl rfl rfl rfl ?_
                      refine TA.takeP 29 rfl (by kernel_rfl) (by kernel_rfl) (by kernel_rfl) rfl (OpVal.pickFB rfl rfl rfl) rfl rfl ?_
                      refine TA.takeP 30 rfl (by kernel_rfl) (by kernel_rfl) (by kernel_rfl) rfl (OpVal.moveB (.inl rfl) rfl) rfl rfl ?_
                      refine TA.takeOff 31 rfl (by kernel_rfl) (by kernel_rfl) (by kernel_rfl) (by kernel_rfl) rfl rfl rfl rfl rfl rfl rfl rfl ?_
                      refine TA.takeOff 32 rfl (by kernel_rfl) (by kernel_rfl) (by kernel_rfl) (by kernel_rfl) rfl rfl rfl rfl rfl rfl rfl rfl ?_
                      refine TA.takeOff 33 rfl (by kernel_rfl) (by kernel_rfl) (by kernel_rfl) (by kernel_rfl) rfl rfl rfl rfl rfl rfl rfl rfl ?_
                      refine TA.takeOff 34 rfl (by kernel_rfl) (by kernel_rfl) (by kernel_rfl) (by kernel_rfl) rfl rfl rfl rfl rfl rfl rfl rfl ?_
                      refine TA.takeOff 35 rfl (by kernel_rfl) (by kernel_rfl) (by kernel_rfl) (by kernel_rfl) rfl rfl rfl rfl rfl rfl rfl rfl ?_
                      refine TA.takeOff 36 rfl (by kernel_rfl) (by kernel_rfl) (by kernel_rfl) (by kernel_rfl) rfl rfl rfl rfl rfl rfl rfl rfl ?_
                      refine TA.takeP 37 rfl (by kernel_rfl) (by kernel_rfl) (by kernel_rfl) rfl (OpVal.pickFB rfl rfl rfl) rfl rfl ?_
                      refine TA.takeP 38 rfl (by kernel_rfl) (by kernel_rfl) (by kernel_rfl) rfl (OpVal.moveB (.inr rfl) rfl) rfl rfl ?_
                      refine TA.done (by kernel_rfl) ?_
                      refine S.n ?_
                      refine TC.ofSub (Sub.pre 0 rfl) ?_
                      refine TC.back ?_
                      refine TC.ret ?_
                      obtain rfl := Option.some.inj hh
                      exact RetOk.mk' (rs := [.tmp 6]) [] rfl (.inl rfl) (RVs.tmp rfl RVs.nil) (List.sublist_append_left _ _) ⟨rfl, rfl, rfl⟩
                  · replace hh := iteO_f h247 hh
                    replace h247 := of_decide_eq_false h247
                    refine TA.takeOff 19 rfl (by kernel_rfl) (by kernel_rfl) (by kernel_rfl) (by kernel_rfl) rfl rfl rfl rfl rfl rfl rfl rfl ?_
                    refine TA.takeOff 20 rfl (by kernel_rfl) (by kernel_rfl) (by kernel_rfl) (by kernel_rfl) rfl rfl rfl rfl rfl rfl rfl rfl ?_
                    refine TA.takeOff 21 rfl (by kernel_rfl) (by kernel_rfl) (by kernel_rfl) (by kernel_rfl) rfl rfl rfl rfl rfl rfl rfl rfl ?_
                    refine TA.takeOff 22 rfl (by kernel_rfl) (by kernel_rfl) (by kernel_rfl) (by kernel_rfl) rfl rfl rfl rfl rfl rfl rfl rfl ?_
                    refine TA.takeOff 23 rfl (by kernel_rfl) (by kernel_rfl) (by kernel_rfl) (by kernel_rfl) rfl rfl rfl rfl rfl rfl rfl rfl ?_
                    refine TA.takeOff 24 rfl (by kernel_rfl) (by kernel_rfl) (by kernel_rfl) (by kernel_rfl) rfl rfl rfl rfl rfl rfl rfl rfl ?_
                    refine TA.takeOff 25 rfl (by kernel_rfl) (by kernel_rfl) (by kernel_rfl) (by kernel_rfl) rfl rfl rfl rfl rfl rfl rfl rfl ?_
                    refine TA.takeP 26 rfl (by kernel_rfl) (by kernel_rfl) (by kernel_rfl) rfl (OpVal.pickFB rfl rfl rfl) rfl rfl ?_
                    refine TA.takeP 27 rfl (by kernel_rfl) (by kernel_rfl) (by kernel_rfl) rfl (OpVal.moveB (.inl rfl) rfl) rfl rfl ?_
                    refine TA.takeOff 28 rfl (by kernel_rfl) (by kernel_rfl) (by kernel_rfl) (by kernel_rfl) rfl rfl rfl rfl rfl rfl rfl rfl ?_
                    refine TA.takeP 29 rfl (by kernel_rfl) (by kernel_rfl) (by kernel_rfl) rfl (OpVal.pickFB rfl rfl rfl) rfl rfl ?_
                    refine TA.takeP 30 rfl (by kernel_rfl) (by kernel_rfl) (by kernel_rfl) rfl (OpVal.moveB (.inl rfl) rfl) rfl rfl ?_
                    refine TA.takeOff 31 rfl (by kernel_rfl) (by kernel_rfl) (by kernel_rfl) (by kernel_rfl) rfl rfl rfl rfl rfl rfl rfl rfl ?_
                    refine TA.takeOff 32 rfl (by kernel_rfl) (by kernel_rfl) (by kernel_rfl) (by kernel_rfl) rfl rfl rfl rfl rfl rfl rfl rfl ?_
                    refine TA.takeOff 33 rfl (by kernel_rfl) (by kernel_rfl) (by kernel_rfl) (by kernel_rfl) rfl rfl rfl rfl rfl rfl rfl rfl ?_
                    refine TA.takeOff 34 rfl (by kernel_rfl) (by kernel_rfl) (by kernel_rfl) (by kernel_rfl) rfl rfl rfl rfl rfl rfl rfl rfl ?_
                    refine TA.takeOff 35 rfl (by kernel_rfl) (by kernel_rfl) (by kernel_rfl) (by kernel_rfl) rfl rfl rfl rfl rfl rfl rfl rfl ?_
                    refine TA.takeOff 36 rfl (by kernel_rfl) (by kernel_rfl) (by kernel_rfl) (by kernel_rfl) rfl rfl rfl rfl rfl rfl rfl rfl ?_
                    refine TA.takeP 37 rfl (by kernel_rfl) (by kernel_rfl) (by kernel_rfl) rfl (OpVal.pickFB rfl rfl rfl) rfl rfl ?_
                    refine TA.takeP 38 rfl (by kernel_rfl) (by kernel_rfl) (by kernel_rfl) rfl (OpVal.moveB (.inr rfl) rfl) rfl rfl ?_
                    refine TA.done (by kernel_rfl) ?_
                    refine S.n ?_
                    refine TC.ofSub (Sub.pre 0 rfl) ?_
                    refine TC.back ?_
                    refine TC.ret ?_
                    obtain rfl := Option.some.inj hh
                    exact RetOk.mk' (rs := [.tmp 6]) [] rfl (.inl rfl) (RVs.tmp rfl RVs.nil) (List.sublist_append_left _ _) ⟨rfl, rfl, rfl⟩
                · replace hh := iteO_f h246 hh
                  refine TA.takeOff 15 rfl (by kernel_rfl) (by kernel_rfl) (by kernel_rfl) (by kernel_rfl) rfl rfl rfl rfl rfl rfl rfl rfl ?_
                  refine TA.takeOff 16 rfl (by kernel_rfl) (by kernel_rfl) (by kernel_rfl) (by kernel_rfl) rfl rfl rfl rfl rfl rfl rfl rfl ?_
                  refine TA.takeP 17 rfl (by kernel_rfl) (by kernel_rfl) (by kernel_rfl) rfl (OpVal.pickFB rfl rfl rfl) rfl rfl ?_
                  refine TA.takeP 18 rfl (by kernel_rfl) (by kernel_rfl) (by kernel_rfl) rfl (OpVal.moveB (.inl rfl) rfl) rfl rfl ?_
                  refine TA.takeOff 19 rfl (by kernel_rfl) (by kernel_rfl) (by kernel_rfl) (by kernel_rfl) rfl rfl rfl rfl rfl rfl rfl rfl ?_
                  refine TA.takeOff 20 rfl (by kernel_rfl) (by kernel_rfl) (by kernel_rfl) (by kernel_rfl) rfl rfl rfl rfl rfl rfl rfl rfl ?_
                  refine TA.takeOff 21 rfl (by kernel_rfl) (by kernel_rfl) (by kernel_rfl) (by kernel_rfl) rfl rfl rfl rfl rfl rfl rfl rfl ?_
                  refine TA.takeOff 22 rfl (by kernel_rfl) (by kernel_rfl) (by kernel_rfl) (by kernel_rfl) rfl rfl rfl rfl rfl rfl rfl rfl ?_
                  refine TA.takeOff 23 rfl (by kernel_rfl) (by kernel_rfl) (by kernel_rfl) (by kernel_rfl) rfl rfl rfl rfl rfl rfl rfl rfl ?_
                  refine TA.takeOff 24 rfl (by kernel_rfl) (by kernel_rfl) (by kernel_rfl) (by kernel_rfl) rfl rfl rfl rfl rfl rfl rfl rfl ?_
                  refine TA.takeOff 25 rfl (by kernel_rfl) (by kernel_rfl) (by kernel_rfl) (by kernel_rfl) rfl rfl rfl rfl rfl rfl rfl rfl ?_
                  refine TA.takeP 26 rfl (by kernel_rfl) (by kernel_rfl) (by kernel_rfl) rfl (OpVal.pickFB rfl rfl rfl) rfl rfl ?_
                  refine TA.takeP 27 rfl (by kernel_rfl) (by kernel_rfl) (by kernel_rfl) rfl (OpVal.moveB (.inl rfl) rfl) rfl rfl ?_
                  refine TA.takeOff 28 rfl (by kernel_rfl) (by kernel_rfl) (by kernel_rfl) (by kernel_rfl) rfl rfl rfl rfl rfl rfl rfl rfl ?_
                  refine TA.takeP 29 rfl (by kernel_rfl) (by kernel_rfl) (by kernel_rfl) rfl (OpVal.pickFB rfl rfl rfl) rfl rfl ?_
                  refine TA.takeP 30 rfl (by kernel_rfl) (by kernel_rfl) (by kernel_rfl) rfl (OpVal.moveB (.inl rfl) rfl) rfl rfl ?_
                  refine TA.takeOff 31 rfl (by kernel_rfl) (by kernel_rfl) (by kernel_rfl) (by kernel_rfl) rfl rfl rfl rfl rfl rfl rfl rfl ?_
                  refine TA.takeOff 32 rfl (by kernel_rfl) (by kernel_rfl) (by kernel_rfl) (by kernel_rfl) rfl rfl rfl rfl rfl rfl rfl rfl ?_
                  refine TA.takeOff 33 rfl (by kernel_rfl) (by kernel_rfl) (by kernel_rfl) (by kernel_rfl) rfl rfl rfl rfl rfl rfl rfl rfl ?_
                  refine TA.takeOff 34 rfl (by kernel_rfl) (by kernel_rfl) (by kernel_rfl) (by kernel_rfl) rfl rfl rfl rfl rfl rfl rfl rfl ?_
                  refine TA.takeOff 35 rfl (by kernel_rfl) (by kernel_rfl) (by kernel_rfl) (by kernel_rfl) rfl rfl rfl rfl rfl rfl rfl rfl ?_
                  refine TA.takeOff 36 rfl (by kernel_rfl) (by kernel_rfl) (by kernel_rfl) (by kernel_rfl) rfl rfl rfl rfl rfl rfl rfl rfl ?_
                  refine TA.takeP 37 rfl (by kernel_rfl) (by kernel_rfl) (by kernel_rfl) rfl (OpVal.pickFB rfl rfl rfl) rfl rfl ?_
                  refine TA.takeP 38 rfl (by kernel_rfl) (by kernel_rfl) (by kernel_rfl) rfl (OpVal.moveB (.inr rfl) rfl) rfl rfl ?_
                  refine TA.done (by kernel_rfl) ?_
                  refine S.n ?_
                  refine TC.ofSub (Sub.pre 0 rfl) ?_
                  refine TC.back ?_
                  refine TC.ret ?_
                  obtain rfl := Option.some.inj hh
                  exact RetOk.mk' (rs := [.tmp 6]) [] rfl (.inl rfl) (RVs.tmp rfl RVs.nil) (List.sublist_append_left _ _) ⟨rfl, rfl, rfl⟩
              · replace hh := iteO_f h243 hh
                refine TA.takeOff 2 rfl (by kernel_rfl) (by kernel_rfl) (by kernel_rfl) (by kernel_rfl) rfl rfl rfl rfl rfl rfl rfl rfl ?_
                refine TA.takeOff 3 rfl (by kernel_rfl) (by kernel_rfl) (by kernel_rfl) (by kernel_rfl) rfl rfl rfl rfl rfl rfl rfl rfl ?_
                refine TA.takeOff 4 rfl (by kernel_rfl) (by kernel_rfl) (by kernel_rfl) (by kernel_rfl) rfl rfl rfl rfl rfl rfl rfl rfl ?_
                refine TA.takeOff 5 rfl (by kernel_rfl) (by kernel_rfl) (by kernel_rfl) (by kernel_rfl) rfl rfl rfl rfl rfl rfl rfl rfl ?_
                refine TA.takeOff 6 rfl (by kernel_rfl) (by kernel_rfl) (by kernel_rfl) (by kernel_rfl) rfl rfl rfl rfl rfl rfl rfl rfl ?_
                refine TA.takeOff 7 rfl (by kernel_rfl) (by kernel_rfl) (by kernel_rfl) (by kernel_rfl) rfl rfl rfl rfl rfl rfl rfl rfl ?_
                refine TA.takeOff 8 rfl (by kernel_rfl) (by kernel_rfl) (by kernel_rfl) (by kernel_rfl) rfl rfl rfl rfl rfl rfl rfl rfl ?_
                refine TA.takeOff 9 rfl (by kernel_rfl) (by kernel_rfl) (by kernel_rfl) (by kernel_rfl) rfl rfl rfl rfl rfl rfl rfl rfl ?_
                refine TA.takeOff 10 rfl (by kernel_rfl) (by kernel_rfl) (by kernel_rfl) (by kernel_rfl) rfl rfl rfl rfl rfl rfl rfl rfl ?_
                refine TA.takeOff 11 rfl (by kernel_rfl) (by kernel_rfl) (by kernel_rfl) (by kernel_rfl) rfl rfl rfl rfl rfl rfl rfl rfl ?_
                refine TA.takeOff 12 rfl (by kernel_rfl) (by kernel_rfl) (by kernel_rfl) (by kernel_rfl) rfl rfl rfl rfl rfl rfl rfl rfl ?_
                refine TA.takeP 13 rfl (by kernel_rfl) (by kernel_rfl) (by kernel_rfl) rfl (OpVal.pickFB rfl rfl rfl) rfl rfl ?_
                refine TA.takeP 14 rfl (by kernel_rfl) (by kernel_rfl) (by kernel_rfl) rfl (OpVal.moveB (.inl rfl) rfl) rfl rfl ?_
                refine TA.takeOff 15 rfl (by kernel_rfl) (by kernel_rfl) (by kernel_rfl) (by kernel_rfl) rfl rfl rfl rfl rfl rfl rfl rfl ?_
                refine TA.takeOff 16 rfl (by kernel_rfl) (by kernel_rfl) (by kernel_rfl) (by kernel_rfl) rfl rfl rfl rfl rfl rfl rfl rfl ?_
                refine TA.takeP 17 rfl (by kernel_rfl) (by kernel_rfl) (by kernel_rfl) rfl (OpVal.pickFB rfl rfl rfl) rfl rfl ?_
                refine TA.takeP 18 rfl (by kernel_rfl) (by kernel_rfl) (by kernel_rfl) rfl (OpVal.moveB (.inl rfl) rfl) rfl rfl ?_
                refine TA.takeOff 19 rfl (by kernel_rfl) (by kernel_rfl) (by kernel_rfl) (by kernel_rfl) rfl rfl rfl rfl rfl rfl rfl rfl ?_
                refine TA.takeOff 20 rfl (by kernel_rfl) (by kernel_rfl) (by kernel_rfl) (by kernel_rfl) rfl rfl rfl rfl rfl rfl rfl rfl ?_
                refine TA.takeOff 21 rfl (by kernel_rfl) (by kernel_rfl) (by kernel_rfl) (by kernel_rfl) rfl rfl rfl rfl rfl rfl rfl rfl ?_
                refine TA.takeOff 22 rfl (by kernel_rfl) (by kernel_rfl) (by kernel_rfl) (by kernel_rfl) rfl rfl rfl rfl rfl rfl rfl rfl ?_
                refine TA.takeOff 23 rfl (by kernel_rfl) (by kernel_rfl) (by kernel_rfl) (by kernel_rfl) rfl rfl rfl rfl rfl rfl rfl rfl ?_
                refine TA.takeOff 24 rfl (by kernel_rfl) (by kernel_rfl) (by kernel_rfl) (by kernel_rfl) rfl rfl rfl rfl rfl rfl rfl rfl ?_
                refine TA.takeOff 25 rfl (by kernel_rfl) (by kernel_rfl) (by kernel_rfl) (by kernel_rfl) rfl rfl rfl rfl rfl rfl rfl rfl ?_
                refine TA.takeP 26 rfl (by kernel_rfl) (by kernel_rfl) (by kernel_rfl) rfl (OpVal.pickFB rfl rfl rfl) rfl rfl ?_
                refine TA.takeP 27 rfl (by kernel_rfl) (by kernel_rfl) (by kernel_rfl) rfl (OpVal.moveB (.inl rfl) rfl) rfl rfl ?_
                refine TA.takeOff 28 rfl (by kernel_rfl) (by kernel_rfl) (by kernel_rfl) (by kernel_rfl) rfl rfl rfl rfl rfl rfl rfl rfl ?_
                refine TA.takeP 29 rfl (by kernel_rfl) (by kernel_rfl) (by kernel_rfl) rfl (OpVal.pickFB rfl rfl rfl) rfl rfl ?_
                refine TA.takeP 30 rfl (by kernel_rfl) (by kernel_rfl) (by kernel_rfl) rfl (OpVal.moveB (.inl rfl) rfl) rfl rfl ?_
                refine TA.takeOff 31 rfl (by kernel_rfl) (by kernel_rfl) (by kernel_rfl) (by kernel_rfl) rfl rfl rfl rfl rfl rfl rfl rfl ?_
                refine TA.takeOff 32 rfl (by kernel_rfl) (by kernel_rfl) (by kernel_rfl) (by kernel_rfl) rfl rfl rfl rfl rfl rfl rfl rfl ?_
                refine TA.takeOff 33 rfl (by kernel_rfl) (by kernel_rfl) (by kernel_rfl) (by kernel_rfl) rfl rfl rfl rfl rfl rfl rfl rfl ?_
                refine TA.takeOff 34 rfl (by kernel_rfl) (by kernel_rfl) (by kernel_rfl) (by kernel_rfl) rfl rfl rfl rfl rfl rfl rfl rfl ?_
                refine TA.takeOff 35 rfl (by kernel_rfl) (by kernel_rfl) (by kernel_rfl) (by kernel_rfl) rfl rfl rfl rfl rfl rfl rfl rfl ?_
                refine TA.takeOff 36 rfl (by kernel_rfl) (by kernel_rfl) (by kernel_rfl) (by kernel_rfl) rfl rfl rfl rfl rfl rfl rfl rfl ?_
                refine TA.takeP 37 rfl (by kernel_rfl) (by kernel_rfl) (by kernel_rfl) rfl (OpVal.pickFB rfl rfl rfl) rfl rfl ?_
                refine TA.takeP 38 rfl (by kernel_rfl) (by kernel_rfl) (by kernel_rfl) rfl (OpVal.moveB (.inr rfl) rfl) rfl rfl ?_
                refine TA.done (by kernel_rfl) ?_
                refine S.n ?_
                refine TC.ofSub (Sub.pre 0 rfl) ?_
                refine TC.back ?_
                refine TC.ret ?_
                obtain rfl := Option.some.inj hh
                exact RetOk.mk' (rs := [.tmp 6]) [] rfl (.inl rfl) (RVs.tmp rfl RVs.nil) (List.sublist_append_left _ _) ⟨rfl, rfl, rfl⟩

end Go.Proofs.Ytcidppnlhhkhhaa
