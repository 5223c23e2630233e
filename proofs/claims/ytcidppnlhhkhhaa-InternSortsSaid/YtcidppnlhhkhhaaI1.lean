/- Decompiled: rows of numbers, in order, and their tables. -/
import Derived.Test.YtcidppnlhhkhhaaI1s
import Derived.Test.YtcidppnlhhkhhaaSets
import Derived.Test.YtcidppnlhhkhhaaData4
import Derived.Test.YtcidppnlhhkhhaaDec10
set_option linter.unusedVariables false
set_option linter.unusedSimpArgs false
namespace Go.Proofs.Ytcidppnlhhkhhaa
open Go Go.E
set_option maxRecDepth 100000
private theorem ag56 : Go.E.aggOf Try.prog 56 = some false := by kernel_rfl
private theorem ag97 : Go.E.aggOf Try.prog 97 = some false := by kernel_rfl
private theorem by22 : Go.E.byOf Try.prog 22 = some 24 := by kernel_rfl
private theorem by5 : Go.E.byOf Try.prog 5 = some 1 := by kernel_rfl
private theorem fo101_0 : Go.E.foOf Try.prog 101 0 = some 0 := by kernel_rfl
private theorem fo60_0 : Go.E.foOf Try.prog 60 0 = some 0 := by kernel_rfl
private theorem fo99_0 : Go.E.foOf Try.prog 99 0 = some 0 := by kernel_rfl
private theorem fo99_1 : Go.E.foOf Try.prog 99 1 = some 1 := by kernel_rfl
private theorem pf106 : Go.E.plainF Try.prog 106 = true := by kernel_rfl
private theorem pf43 : Go.E.plainF Try.prog 43 = true := by kernel_rfl
private theorem pf47 : Go.E.plainF Try.prog 47 = true := by kernel_rfl
private theorem pf48 : Go.E.plainF Try.prog 48 = true := by kernel_rfl
private theorem pf49 : Go.E.plainF Try.prog 49 = true := by kernel_rfl
private theorem pf76 : Go.E.plainF Try.prog 76 = true := by kernel_rfl
private theorem pf77 : Go.E.plainF Try.prog 77 = true := by kernel_rfl
private theorem pf78 : Go.E.plainF Try.prog 78 = true := by kernel_rfl
private theorem pf79 : Go.E.plainF Try.prog 79 = true := by kernel_rfl
private theorem pf80 : Go.E.plainF Try.prog 80 = true := by kernel_rfl
private theorem pf81 : Go.E.plainF Try.prog 81 = true := by kernel_rfl
private theorem pf91 : Go.E.plainF Try.prog 91 = true := by kernel_rfl
private theorem pl101 : Go.E.plOf Try.prog 101 = some #[(0, 2)] := by kernel_rfl
private theorem pl99 : Go.E.plOf Try.prog 99 = some #[(0, 1), (1, 1)] := by kernel_rfl
private theorem sz56 : Go.E.szOf Try.prog 56 = some 1 := by kernel_rfl
private theorem ze101 : Go.E.zeroOf Try.prog 101 = some (.agg #[.slice none 0 0, .map none]) := by kernel_rfl
private theorem ze22 : Go.E.zeroOf Try.prog 22 = some (.slice none 0 0) := by kernel_rfl
private theorem ze99 : Go.E.zeroOf Try.prog 99 = some (.agg #[.slice none 0 0, .map none]) := by kernel_rfl

noncomputable def cmp_isNaN (x0 : Int) : Option (Bool) :=
  some (decide (x0 ≠ x0))
theorem cmp_isNaN_con {σ : Store} {x0 : Int}  {r : Bool} (hh : cmp_isNaN x0 = some r) :
    Con Try.prog 106 #[.int .i64 x0] σ [] (PureP (.bool r) σ) := by
  dsimp only [cmp_isNaN] at hh
  refine Con.mk (n := 6) Try.func106 rfl rfl rfl (fun w0 => ?_)
  refine TC.seq ?_
  refine TC.region ?_
  refine TL.v rfl (OpVal.moveB (.inr rfl) rfl) rfl rfl ?_
  refine TL.nil ?_
  refine S.n ?_
  refine TC.seq ?_
  refine TC.region ?_
  refine TL.v rfl (OpVal.moveI (.inl rfl) rfl) rfl rfl ?_
  refine TL.v rfl (OpVal.moveI (.inl rfl) rfl) rfl rfl ?_
  refine TL.v rfl (OpVal.neq rfl rfl rfl) rfl rfl ?_
  refine TL.v rfl (OpVal.moveB (.inr rfl) rfl) rfl rfl ?_
  refine TL.nil ?_
  refine S.n ?_
  refine TC.ret ?_
  obtain rfl := Option.some.inj hh
  exact RetOk.mk' (rs := [.tmp 2]) [] rfl (.inl rfl) (RVs.tmp rfl RVs.nil) (List.sublist_append_left _ _) ⟨rfl, rfl, rfl⟩

noncomputable def cmp_Compare (x0 : Int) (x1 : Int) : Option (Int) :=
  bnd (cmp_isNaN x0) (fun v3 => bnd (cmp_isNaN x1) (fun v6 => iteO v3 (iteO v6 (some 0) (some (-1))) (iteO v6 (some 1) (iteO (decide (x0 < x1)) (some (-1)) (iteO (decide (x1 < x0)) (some 1) (some 0))))))
theorem cmp_Compare_con {σ : Store} {x0 : Int} {x1 : Int}  {r : Int} (hh : cmp_Compare x0 x1 = some r) :
    Con Try.prog 91 #[.int .i64 x0, .int .i64 x1] σ [] (PureP (.int .i64 r) σ) := by
  dsimp only [cmp_Compare] at hh
  refine Con.mk (n := 20) Try.func91 rfl rfl rfl (fun w0 => ?_)
  refine TC.seq ?_
  refine TC.region ?_
  refine TL.v rfl (OpVal.moveI (.inr rfl) rfl) rfl rfl ?_
  refine TL.nil ?_
  refine S.n ?_
  refine TC.seq ?_
  refine TC.region ?_
  refine TL.v rfl (OpVal.moveI (.inl rfl) rfl) rfl rfl ?_
  obtain ⟨v3, u3, hh⟩ := bnd_e hh
  refine TL.op rfl (OpOk.callP (cmp_isNaN_con u3) rfl rfl pf106 rfl rfl rfl ?_)
  refine TL.v rfl (OpVal.moveB (.inr rfl) rfl) rfl rfl ?_
  refine TL.nil ?_
  refine S.n ?_
  refine TC.seq ?_
  refine TC.region ?_
  refine TL.v rfl (OpVal.moveI (.inl rfl) rfl) rfl rfl ?_
  obtain ⟨v6, u6, hh⟩ := bnd_e hh
  refine TL.op rfl (OpOk.callP (cmp_isNaN_con u6) rfl rfl pf106 rfl rfl rfl ?_)
  refine TL.v rfl (OpVal.moveB (.inr rfl) rfl) rfl rfl ?_
  refine TL.nil ?_
  refine S.n ?_
  refine TC.seq ?_
  refine TC.seq ?_
  refine TC.region ?_
  refine TL.v rfl (OpVal.moveB (.inl rfl) rfl) rfl rfl ?_
  refine TL.nil ?_
  refine S.n ?_
  refine TC.cond rfl (fun h101 => ?_) (fun h101 => ?_)
  · replace hh := iteO_t h101 hh
    refine TC.seq ?_
    refine TC.seq ?_
    refine TC.region ?_
    refine TL.v rfl (OpVal.moveB (.inl rfl) rfl) rfl rfl ?_
    refine TL.nil ?_
    refine S.n ?_
    refine TC.cond rfl (fun h102 => ?_) (fun h102 => ?_)
    · replace hh := iteO_t h102 hh
      refine TC.seq ?_
      refine TC.region ?_
      refine TL.v rfl (OpVal.moveI (.inr rfl) rfl) rfl rfl ?_
      refine TL.nil ?_
      refine S.n ?_
      refine TC.ret ?_
      refine S.r ?_
      refine S.r ?_
      obtain rfl := Option.some.inj hh
      exact RetOk.mk' (rs := [.tmp 4]) [] rfl (.inl rfl) (RVs.tmp rfl RVs.nil) (List.sublist_append_left _ _) ⟨rfl, rfl, rfl⟩
    · replace hh := iteO_f h102 hh
      refine TC.skip ?_
      refine S.n ?_
      refine TC.seq ?_
      refine TC.region ?_
      refine TL.v rfl (OpVal.moveI (.inr rfl) rfl) rfl rfl ?_
      refine TL.nil ?_
      refine S.n ?_
      refine TC.ret ?_
      refine S.r ?_
      obtain rfl := Option.some.inj hh
      exact RetOk.mk' (rs := [.tmp 4]) [] rfl (.inl rfl) (RVs.tmp rfl RVs.nil) (List.sublist_append_left _ _) ⟨rfl, rfl, rfl⟩
  · replace hh := iteO_f h101 hh
    refine TC.skip ?_
    refine S.n ?_
    refine TC.seq ?_
    refine TC.seq ?_
    refine TC.region ?_
    refine TL.v rfl (OpVal.moveB (.inl rfl) rfl) rfl rfl ?_
    refine TL.nil ?_
    refine S.n ?_
    refine TC.cond rfl (fun h103 => ?_) (fun h103 => ?_)
    · replace hh := iteO_t h103 hh
      refine TC.seq ?_
      refine TC.region ?_
      refine TL.v rfl (OpVal.moveI (.inr rfl) rfl) rfl rfl ?_
      refine TL.nil ?_
      refine S.n ?_
      refine TC.ret ?_
      refine S.r ?_
      obtain rfl := Option.some.inj hh
      exact RetOk.mk' (rs := [.tmp 4]) [] rfl (.inl rfl) (RVs.tmp rfl RVs.nil) (List.sublist_append_left _ _) ⟨rfl, rfl, rfl⟩
    · replace hh := iteO_f h103 hh
      refine TC.skip ?_
      refine S.n ?_
      refine TC.seq ?_
      refine TC.seq ?_
      refine TC.region ?_
      refine TL.v rfl (OpVal.moveI (.inl rfl) rfl) rfl rfl ?_
      refine TL.v rfl (OpVal.moveI (.inl rfl) rfl) rfl rfl ?_
      refine TL.v rfl (OpVal.lss rfl rfl rfl) rfl rfl ?_
      refine TL.nil ?_
      refine S.n ?_
      refine TC.cond rfl (fun h104 => ?_) (fun h104 => ?_)
      · replace hh := iteO_t h104 hh
        replace h104 := of_decide_eq_true h104
        refine TC.seq ?_
        refine TC.region ?_
        refine TL.v rfl (OpVal.moveI (.inr rfl) rfl) rfl rfl ?_
        refine TL.nil ?_
        refine S.n ?_
        refine TC.ret ?_
        refine S.r ?_
        obtain rfl := Option.some.inj hh
        exact RetOk.mk' (rs := [.tmp 4]) [] rfl (.inl rfl) (RVs.tmp rfl RVs.nil) (List.sublist_append_left _ _) ⟨rfl, rfl, rfl⟩
      · replace hh := iteO_f h104 hh
        replace h104 := of_decide_eq_false h104
        refine TC.skip ?_
        refine S.n ?_
        refine TC.seq ?_
        refine TC.seq ?_
        refine TC.region ?_
        refine TL.v rfl (OpVal.moveI (.inl rfl) rfl) rfl rfl ?_
        refine TL.v rfl (OpVal.moveI (.inl rfl) rfl) rfl rfl ?_
        refine TL.v rfl (OpVal.gtr rfl rfl rfl) rfl rfl ?_
        refine TL.nil ?_
        refine S.n ?_
        refine TC.cond rfl (fun h105 => ?_) (fun h105 => ?_)
        · replace hh := iteO_t h105 hh
          replace h105 := of_decide_eq_true h105
          refine TC.seq ?_
          refine TC.region ?_
          refine TL.v rfl (OpVal.moveI (.inr rfl) rfl) rfl rfl ?_
          refine TL.nil ?_
          refine S.n ?_
          refine TC.ret ?_
          refine S.r ?_
          obtain rfl := Option.some.inj hh
          exact RetOk.mk' (rs := [.tmp 4]) [] rfl (.inl rfl) (RVs.tmp rfl RVs.nil) (List.sublist_append_left _ _) ⟨rfl, rfl, rfl⟩
        · replace hh := iteO_f h105 hh
          replace h105 := of_decide_eq_false h105
          refine TC.skip ?_
          refine S.n ?_
          refine TC.seq ?_
          refine TC.region ?_
          refine TL.v rfl (OpVal.moveI (.inr rfl) rfl) rfl rfl ?_
          refine TL.nil ?_
          refine S.n ?_
          refine TC.ret ?_
          obtain rfl := Option.some.inj hh
          exact RetOk.mk' (rs := [.tmp 4]) [] rfl (.inl rfl) (RVs.tmp rfl RVs.nil) (List.sublist_append_left _ _) ⟨rfl, rfl, rfl⟩

noncomputable def compareIs_b1 (x0 : List Int) (x1 : List Int) (k103 : Nat) : Option ((Nat) ⊕ (Int)) :=
  iteO (decide (((k103 : Nat) : Int) < ((x0.length : Nat) : Int))) (iteO (decide (((x1.length : Nat) : Int) ≤ ((k103 : Nat) : Int))) (fin (some 1)) (grd (k103 < x1.length) (bnd (cmp_Compare (nth x0 k103 (0 : Int)) (nth x1 k103 (0 : Int))) (fun v23 => iteO (decide (v23 ≠ 0)) (fin (some v23)) (nxt (k103 + 1)))))) (fin (iteO (decide (((x0.length : Nat) : Int) < ((x1.length : Nat) : Int))) (some (-1)) (some 0)))
noncomputable def compareIs (x0 : List Int) (x1 : List Int) : Option (Int) :=
  iter (fun q : Nat => compareIs_b1 x0 x1 q) 0
theorem compareIs_con {σ : Store} {x0 : List Int} {a0_0 : Option Addr} {c0_0 : Nat} {x1 : List Int} {a1_0 : Option Addr} {c1_0 : Nat} (f0_0 : RS σ 1 Go.E.encI (.slice a0_0 x0.length c0_0) x0) (f1_0 : RS σ 1 Go.E.encI (.slice a1_0 x1.length c1_0) x1) {r : Int} (hh : compareIs x0 x1 = some r) :
    Con Try.prog 81 #[.slice a0_0 x0.length c0_0, .slice a1_0 x1.length c1_0] σ [] (PureP (.int .i64 r) σ) := by
  dsimp only [compareIs] at hh
  have f0_0b := f0_0.rv.big
  have f1_0b := f1_0.rv.big
  refine Con.mk (n := 36) Try.func81 rfl rfl rfl (fun w0 => ?_)
  refine TC.seq ?_
  refine TC.region ?_
  refine TL.v rfl (OpVal.moveI (.inr rfl) rfl) rfl rfl ?_
  refine TL.nil ?_
  refine S.n ?_
  refine TC.seq ?_
  refine TC.seq ?_
  refine TC.region ?_
  refine TL.v rfl (OpVal.moveSl (.inl rfl) rfl) rfl rfl ?_
  refine TL.v rfl (OpVal.lenC rfl Try.underlying22 rfl) rfl rfl ?_
  refine TL.v rfl (OpVal.moveI (.inl rfl) rfl) rfl rfl ?_
  refine TL.nil ?_
  refine S.n ?_
  refine TC.block ?_
  refine TC.loopG (α := (Nat) × (Unit)) [4, 5, 6, 7, 8, 11, 12, 13, 14, 15, 16, 17, 18, 19, 20, 21, 22, 23, 24, 25, 26, 27, 28, 29, 30] (fun g => [(11, .int .i64 ((g.1 : Nat) : Int))]) (fun g => []) (fun g => σ) (fun g => iter (fun q : Nat => compareIs_b1 x0 x1 q) g.1 = some r) (fun g => rounds (fun q : Nat => compareIs_b1 x0 x1 q) g.1) (0, ()) (Sub.pre 0 rfl) rfl (by repeat (first | exact trivial | refine ⟨rfl, ?_⟩)) hh (fun g1 j1 hg1 => ?_)
  obtain ⟨k103, _⟩ := g1
  have hh := hg1; clear hg1
  show TC _ _ _ (upds (mask _ j1 _) [(11, .int .i64 ((k103 : Nat) : Int))]) _ []
  obtain ⟨z1, hh, hR1⟩ := iter_e hh
  dsimp only [compareIs_b1] at hh
  refine TC.seq ?_
  refine TC.region ?_
  refine TL.v rfl (OpVal.lss rfl rfl rfl) rfl rfl ?_
  refine TL.nil ?_
  refine S.n ?_
  refine TC.seq ?_
  refine TC.cond rfl (fun h104 => ?_) (fun h104 => ?_)
  · replace hh := iteO_t h104 hh
    replace h104 := of_decide_eq_true h104
    refine TC.skip ?_
    refine S.n ?_
    refine TC.seq ?_
    refine TC.block ?_
    refine TC.seq ?_
    refine TC.region ?_
    refine TL.v rfl (OpVal.moveI (.inl rfl) rfl) rfl rfl ?_
    refine TL.v rfl (OpVal.indexN rfl Try.underlying22 sz3 rfl rfl f0_0.rv.sl (by omega)) rfl rfl ?_
    refine TL.v rfl (OpVal.loadS1 (0 : Int) rfl ag3 rfl f0_0 (by omega) rfl) rfl rfl ?_
    refine TL.v rfl (OpVal.moveI (.inr rfl) rfl) rfl rfl ?_
    refine TL.v rfl (OpVal.moveI (.inr rfl) rfl) rfl rfl ?_
    refine TL.nil ?_
    refine S.n ?_
    refine TC.seq ?_
    refine TC.seq ?_
    refine TC.region ?_
    refine TL.v rfl (OpVal.moveI (.inl rfl) rfl) rfl rfl ?_
    refine TL.v rfl (OpVal.moveSl (.inl rfl) rfl) rfl rfl ?_
    refine TL.v rfl (OpVal.lenC rfl Try.underlying22 rfl) rfl rfl ?_
    refine TL.v rfl (OpVal.geq rfl rfl rfl) rfl rfl ?_
    refine TL.nil ?_
    refine S.n ?_
    refine TC.cond rfl (fun h105 => ?_) (fun h105 => ?_)
    · replace hh := iteO_t h105 hh
      replace h105 := of_decide_eq_true h105
      refine TC.seq ?_
      refine TC.region ?_
      refine TL.v rfl (OpVal.moveI (.inr rfl) rfl) rfl rfl ?_
      refine TL.nil ?_
      refine S.n ?_
      refine TC.ret ?_
      refine S.r ?_
      refine B.r ?_
      refine S.r ?_
      refine S.r ?_
      replace hh := fin_x hR1 hh
      refine B.r ?_
      refine S.r ?_
      obtain rfl := Option.some.inj hh
      exact RetOk.mk' (rs := [.tmp 4]) [] rfl (.inl rfl) (RVs.tmp rfl RVs.nil) (List.sublist_append_left _ _) ⟨rfl, rfl, rfl⟩
    · replace hh := iteO_f h105 hh
      replace h105 := of_decide_eq_false h105
      refine TC.skip ?_
      refine S.n ?_
      refine TC.seq ?_
      refine TC.region ?_
      refine TL.v rfl (OpVal.moveSl (.inl rfl) rfl) rfl rfl ?_
      refine TL.v rfl (OpVal.moveI (.inl rfl) rfl) rfl rfl ?_
      have u18 := grd_c hh
      replace hh := grd_t hh
      refine TL.v rfl (OpVal.indexN rfl Try.underlying22 sz3 rfl rfl f1_0.rv.sl (by omega)) rfl rfl ?_
      refine TL.v rfl (OpVal.loadS1 (0 : Int) rfl ag3 rfl f1_0 (by omega) rfl) rfl rfl ?_
      refine TL.v rfl (OpVal.moveI (.inr rfl) rfl) rfl rfl ?_
      refine TL.nil ?_
      refine S.n ?_
      refine TC.seq ?_
      refine TC.region ?_
      refine TL.v rfl (OpVal.moveI (.inl rfl) rfl) rfl rfl ?_
      refine TL.v rfl (OpVal.moveI (.inl rfl) rfl) rfl rfl ?_
      obtain ⟨v23, u23, hh⟩ := bnd_e hh
      refine TL.op rfl (OpOk.callP (cmp_Compare_con u23) rfl rfl pf91 rfl rfl rfl ?_)
      refine TL.v rfl (OpVal.moveI (.inr rfl) rfl) rfl rfl ?_
      refine TL.nil ?_
      refine S.n ?_
      refine TC.seq ?_
      refine TC.region ?_
      refine TL.v rfl (OpVal.moveI (.inl rfl) rfl) rfl rfl ?_
      refine TL.v rfl (OpVal.neq rfl rfl rfl) rfl rfl ?_
      refine TL.nil ?_
      refine S.n ?_
      refine TC.cond rfl (fun h106 => ?_) (fun h106 => ?_)
      · replace hh := iteO_t h106 hh
        replace h106 := of_decide_eq_true h106
        refine TC.seq ?_
        refine TC.region ?_
        refine TL.v rfl (OpVal.moveI (.inl rfl) rfl) rfl rfl ?_
        refine TL.v rfl (OpVal.moveI (.inr rfl) rfl) rfl rfl ?_
        refine TL.nil ?_
        refine S.n ?_
        refine TC.ret ?_
        refine B.r ?_
        refine S.r ?_
        refine S.r ?_
        replace hh := fin_x hR1 hh
        refine B.r ?_
        refine S.r ?_
        obtain rfl := Option.some.inj hh
        exact RetOk.mk' (rs := [.tmp 4]) [] rfl (.inl rfl) (RVs.tmp rfl RVs.nil) (List.sublist_append_left _ _) ⟨rfl, rfl, rfl⟩
      · replace hh := iteO_f h106 hh
        replace h106 := of_decide_eq_false h106
        refine TC.skip ?_
        refine B.n ?_
        refine S.n ?_
        refine TC.region ?_
        refine TL.v rfl (OpVal.succ rfl rfl rfl (by omega)) rfl rfl ?_
        refine TL.v rfl (OpVal.moveI (.inl rfl) rfl) rfl rfl ?_
        refine TL.nil ?_
        refine S.n ?_
        obtain ⟨hh, hlt107⟩ := nxt_x hR1 hh
        refine ⟨by repeat (first | exact Agr.refl _ _ | exact Agr.mask | refine Agr.upd rfl ?_ | refine Agr.maskIn rfl ?_ | refine Agr.upds rfl ?_), ((k103 + 1), ()), hlt107, hh, by repeat (first | exact trivial | refine ⟨rfl, ?_⟩), Sub.pre 0 rfl, rfl⟩
  · replace hh := iteO_f h104 hh
    replace h104 := of_decide_eq_false h104
    refine TC.exit ?_
    refine S.x ?_
    refine S.x ?_
    replace hh := fin_x hR1 hh
    refine TC.exitHere ?_
    refine S.n ?_
    refine TC.seq ?_
    refine TC.seq ?_
    refine TC.region ?_
    refine TL.v rfl (OpVal.moveSl (.inl rfl) rfl) rfl rfl ?_
    refine TL.v rfl (OpVal.lenC rfl Try.underlying22 rfl) rfl rfl ?_
    refine TL.v rfl (OpVal.moveSl (.inl rfl) rfl) rfl rfl ?_
    refine TL.v rfl (OpVal.lenC rfl Try.underlying22 rfl) rfl rfl ?_
    refine TL.v rfl (OpVal.lss rfl rfl rfl) rfl rfl ?_
    refine TL.nil ?_
    refine S.n ?_
    refine TC.cond rfl (fun h108 => ?_) (fun h108 => ?_)
    · replace hh := iteO_t h108 hh
      replace h108 := of_decide_eq_true h108
      refine TC.seq ?_
      refine TC.region ?_
      refine TL.v rfl (OpVal.moveI (.inr rfl) rfl) rfl rfl ?_
      refine TL.nil ?_
      refine S.n ?_
      refine TC.ret ?_
      refine S.r ?_
      obtain rfl := Option.some.inj hh
      exact RetOk.mk' (rs := [.tmp 4]) [] rfl (.inl rfl) (RVs.tmp rfl RVs.nil) (List.sublist_append_left _ _) ⟨rfl, rfl, rfl⟩
    · replace hh := iteO_f h108 hh
      replace h108 := of_decide_eq_false h108
      refine TC.skip ?_
      refine S.n ?_
      refine TC.seq ?_
      refine TC.region ?_
      refine TL.v rfl (OpVal.moveI (.inr rfl) rfl) rfl rfl ?_
      refine TL.nil ?_
      refine S.n ?_
      refine TC.ret ?_
      obtain rfl := Option.some.inj hh
      exact RetOk.mk' (rs := [.tmp 4]) [] rfl (.inl rfl) (RVs.tmp rfl RVs.nil) (List.sublist_append_left _ _) ⟨rfl, rfl, rfl⟩

noncomputable def intern_Compare (x0 : List Int) (x1 : List Int) : Option (Int) :=
  bnd (compareIs x0 x1) (fun v4 => some v4)
theorem intern_Compare_con {σ : Store} {x0 : List Int} {a0_0 : Option Addr} {c0_0 : Nat} {x1 : List Int} {a1_0 : Option Addr} {c1_0 : Nat} (f0_0 : RS σ 1 Go.E.encI (.slice a0_0 x0.length c0_0) x0) (f1_0 : RS σ 1 Go.E.encI (.slice a1_0 x1.length c1_0) x1) {r : Int} (hh : intern_Compare x0 x1 = some r) :
    Con Try.prog 50 #[.slice a0_0 x0.length c0_0, .slice a1_0 x1.length c1_0] σ [] (PureP (.int .i64 r) σ) := by
  dsimp only [intern_Compare] at hh
  have f0_0b := f0_0.rv.big
  have f1_0b := f1_0.rv.big
  refine Con.mk (n := 8) Try.func50 rfl rfl rfl (fun w0 => ?_)
  refine TC.seq ?_
  refine TC.region ?_
  refine TL.v rfl (OpVal.moveI (.inr rfl) rfl) rfl rfl ?_
  refine TL.nil ?_
  refine S.n ?_
  refine TC.seq ?_
  refine TC.region ?_
  refine TL.v rfl (OpVal.moveSl (.inl rfl) rfl) rfl rfl ?_
  refine TL.v rfl (OpVal.moveSl (.inl rfl) rfl) rfl rfl ?_
  obtain ⟨v4, u4, hh⟩ := bnd_e hh
  refine TL.op rfl (OpOk.callP (compareIs_con f0_0 f1_0 u4) rfl rfl pf81 rfl rfl rfl ?_)
  refine TL.v rfl (OpVal.moveI (.inr rfl) rfl) rfl rfl ?_
  refine TL.nil ?_
  refine S.n ?_
  refine TC.ret ?_
  obtain rfl := Option.some.inj hh
  exact RetOk.mk' (rs := [.tmp 4]) [] rfl (.inl rfl) (RVs.tmp rfl RVs.nil) (List.sublist_append_left _ _) ⟨rfl, rfl, rfl⟩

noncomputable def whittleref05_Compare_j1 (x0 : List Int) (x1 : List Int) : Option (Int) :=
  iteO (decide (((x0.length : Nat) : Int) < ((x1.length : Nat) : Int))) (some (-1)) (iteO (decide (((x1.length : Nat) : Int) < ((x0.length : Nat) : Int))) (some 1) (some 0))
noncomputable def whittleref05_Compare_b1 (x0 : List Int) (x1 : List Int) (k103 : Nat) : Option ((Nat) ⊕ (Int)) :=
  iteO (decide (((k103 : Nat) : Int) < ((x0.length : Nat) : Int))) (iteO (decide (((k103 : Nat) : Int) < ((x1.length : Nat) : Int))) (iteO (decide ((nth x0 k103 (0 : Int)) < (nth x1 k103 (0 : Int)))) (fin (some (-1))) (iteO (decide ((nth x1 k103 (0 : Int)) < (nth x0 k103 (0 : Int)))) (fin (some 1)) (nxt (k103 + 1)))) (fin (whittleref05_Compare_j1 x0 x1))) (fin (whittleref05_Compare_j1 x0 x1))
noncomputable def whittleref05_Compare (x0 : List Int) (x1 : List Int) : Option (Int) :=
  iter (fun q : Nat => whittleref05_Compare_b1 x0 x1 q) 0
theorem whittleref05_Compare_con {σ : Store} {x0 : List Int} {a0_0 : Option Addr} {c0_0 : Nat} {x1 : List Int} {a1_0 : Option Addr} {c1_0 : Nat} (f0_0 : RS σ 1 Go.E.encI (.slice a0_0 x0.length c0_0) x0) (f1_0 : RS σ 1 Go.E.encI (.slice a1_0 x1.length c1_0) x1) {r : Int} (hh : whittleref05_Compare x0 x1 = some r) :
    Con Try.prog 51 #[.slice a0_0 x0.length c0_0, .slice a1_0 x1.length c1_0] σ [] (PureP (.int .i64 r) σ) := by
  dsimp only [whittleref05_Compare] at hh
  have f0_0b := f0_0.rv.big
  have f1_0b := f1_0.rv.big
  refine Con.mk (n := 46) Try.func51 rfl rfl rfl (fun w0 => ?_)
  refine TC.seq ?_
  refine TC.region ?_
  refine TL.v rfl (OpVal.moveI (.inr rfl) rfl) rfl rfl ?_
  refine TL.nil ?_
  refine S.n ?_
  refine TC.cutG (α := (Unit) × (Unit)) [4, 5, 6, 7, 8, 9, 10, 11, 12, 13, 14, 15, 16, 17, 18, 19, 20, 21, 22, 23, 24, 25, 26, 27, 28, 29, 30, 31, 32, 33, 34, 35] (fun g => []) (fun g => []) (fun g => σ) (fun g => whittleref05_Compare_j1 x0 x1 = some r) ?_ (fun g j hg => ?_)
  · skip
    refine TC.seq ?_
    refine TC.region ?_
    refine TL.v rfl (OpVal.moveI (.inr rfl) rfl) rfl rfl ?_
    refine TL.nil ?_
    refine S.n ?_
    refine TC.block ?_
    refine TC.loopG (α := (Nat) × (Unit)) [4, 5, 6, 7, 8, 9, 10, 11, 12, 13, 14, 15, 16, 17, 18, 19, 20, 21, 22, 23, 24, 25, 26, 27, 28, 29, 30, 31, 32, 33, 34, 35] (fun g => [(5, .int .i64 ((g.1 : Nat) : Int))]) (fun g => []) (fun g => σ) (fun g => iter (fun q : Nat => whittleref05_Compare_b1 x0 x1 q) g.1 = some r) (fun g => rounds (fun q : Nat => whittleref05_Compare_b1 x0 x1 q) g.1) (0, ()) (Sub.pre 0 rfl) rfl (by repeat (first | exact trivial | refine ⟨rfl, ?_⟩)) hh (fun g1 j1 hg1 => ?_)
    obtain ⟨k103, _⟩ := g1
    have hh := hg1; clear hg1
    show TC _ _ _ (upds (mask _ j1 _) [(5, .int .i64 ((k103 : Nat) : Int))]) _ []
    obtain ⟨z1, hh, hR1⟩ := iter_e hh
    dsimp only [whittleref05_Compare_b1] at hh
    refine TC.seq ?_
    refine TC.seq ?_
    refine TC.region ?_
    refine TL.v rfl (OpVal.moveI (.inl rfl) rfl) rfl rfl ?_
    refine TL.v rfl (OpVal.moveSl (.inl rfl) rfl) rfl rfl ?_
    refine TL.v rfl (OpVal.lenC rfl Try.underlying22 rfl) rfl rfl ?_
    refine TL.v rfl (OpVal.lss rfl rfl rfl) rfl rfl ?_
    refine TL.v rfl (OpVal.moveB (.inl rfl) rfl) rfl rfl ?_
    refine TL.split 10 rfl (fun h104 => ?_) (fun h104 => ?_)
    · replace hh := iteO_t h104 hh
      replace h104 := of_decide_eq_true h104
      refine TL.gv rfl rfl rfl rfl rfl (OpVal.moveI (.inl rfl) rfl) rfl rfl ?_
      refine TL.gv rfl rfl rfl rfl rfl (OpVal.moveSl (.inl rfl) rfl) rfl rfl ?_
      refine TL.gv rfl rfl rfl rfl rfl (OpVal.lenC rfl Try.underlying22 rfl) rfl rfl ?_
      refine TL.gv rfl rfl rfl rfl rfl (OpVal.lss rfl rfl rfl) rfl rfl ?_
      refine TL.v rfl (OpVal.pickTB rfl rfl rfl) rfl rfl ?_
      refine TL.nil ?_
      refine S.n ?_
      refine TC.cond rfl (fun h105 => ?_) (fun h105 => ?_)
      · replace hh := iteO_t h105 hh
        replace h105 := of_decide_eq_true h105
        refine TC.skip ?_
        refine S.n ?_
        refine TC.seq ?_
        refine TC.block ?_
        refine TC.seq ?_
        refine TC.seq ?_
        refine TC.draw [] (by kernel_rfl) ?_
        refine TA.takeP 0 rfl (by kernel_rfl) (by kernel_rfl) (by kernel_rfl) rfl (OpVal.moveSl (.inl rfl) rfl) rfl rfl ?_
        refine TA.takeP 1 rfl (by kernel_rfl) (by kernel_rfl) (by kernel_rfl) rfl (OpVal.moveI (.inl rfl) rfl) rfl rfl ?_
        refine TA.take 2 rfl (by kernel_rfl) (by kernel_rfl) (by kernel_rfl) (by kernel_rfl) rfl (OpVal.indexN rfl Try.underlying22 sz3 rfl rfl f0_0.rv.sl (by omega)) rfl rfl ?_
        refine TA.take 3 rfl (by kernel_rfl) (by kernel_rfl) (by kernel_rfl) (by kernel_rfl) rfl (OpVal.loadS1 (0 : Int) rfl ag3 rfl f0_0 (by omega) rfl) rfl rfl ?_
        refine TA.takeP 4 rfl (by kernel_rfl) (by kernel_rfl) (by kernel_rfl) rfl (OpVal.moveSl (.inl rfl) rfl) rfl rfl ?_
        refine TA.takeP 5 rfl (by kernel_rfl) (by kernel_rfl) (by kernel_rfl) rfl (OpVal.moveI (.inl rfl) rfl) rfl rfl ?_
        refine TA.take 6 rfl (by kernel_rfl) (by kernel_rfl) (by kernel_rfl) (by kernel_rfl) rfl (OpVal.indexN rfl Try.underlying22 sz3 rfl rfl f1_0.rv.sl (by omega)) rfl rfl ?_
        refine TA.take 7 rfl (by kernel_rfl) (by kernel_rfl) (by kernel_rfl) (by kernel_rfl) rfl (OpVal.loadS1 (0 : Int) rfl ag3 rfl f1_0 (by omega) rfl) rfl rfl ?_
        refine TA.takeP 8 rfl (by kernel_rfl) (by kernel_rfl) (by kernel_rfl) rfl (OpVal.lss rfl rfl rfl) rfl rfl ?_
        refine TA.done (by kernel_rfl) ?_
        refine S.n ?_
        refine TC.cond rfl (fun h106 => ?_) (fun h106 => ?_)
        · replace hh := iteO_t h106 hh
          replace h106 := of_decide_eq_true h106
          refine TC.seq ?_
          refine TC.region ?_
          refine TL.v rfl (OpVal.moveI (.inr rfl) rfl) rfl rfl ?_
          refine TL.nil ?_
          refine S.n ?_
          refine TC.ret ?_
          refine S.r ?_
          refine B.r ?_
          refine S.r ?_
          refine S.r ?_
          replace hh := fin_x hR1 hh
          refine B.r ?_
          refine S.r ?_
          obtain rfl := Option.some.inj hh
          exact RetOk.mk' (rs := [.tmp 4]) [] rfl (.inl rfl) (RVs.tmp rfl RVs.nil) (List.sublist_append_left _ _) ⟨rfl, rfl, rfl⟩
        · replace hh := iteO_f h106 hh
          replace h106 := of_decide_eq_false h106
          refine TC.skip ?_
          refine S.n ?_
          refine TC.seq ?_
          refine TC.draw [] (by kernel_rfl) ?_
          refine TA.takeP 0 rfl (by kernel_rfl) (by kernel_rfl) (by kernel_rfl) rfl (OpVal.moveSl (.inl rfl) rfl) rfl rfl ?_
          refine TA.takeP 1 rfl (by kernel_rfl) (by kernel_rfl) (by kernel_rfl) rfl (OpVal.moveI (.inl rfl) rfl) rfl rfl ?_
          refine TA.take 2 rfl (by kernel_rfl) (by kernel_rfl) (by kernel_rfl) (by kernel_rfl) rfl (OpVal.indexN rfl Try.underlying22 sz3 rfl rfl f0_0.rv.sl (by omega)) rfl rfl ?_
          refine TA.take 3 rfl (by kernel_rfl) (by kernel_rfl) (by kernel_rfl) (by kernel_rfl) rfl (OpVal.loadS1 (0 : Int) rfl ag3 rfl f0_0 (by omega) rfl) rfl rfl ?_
          refine TA.takeP 4 rfl (by kernel_rfl) (by kernel_rfl) (by kernel_rfl) rfl (OpVal.moveSl (.inl rfl) rfl) rfl rfl ?_
          refine TA.takeP 5 rfl (by kernel_rfl) (by kernel_rfl) (by kernel_rfl) rfl (OpVal.moveI (.inl rfl) rfl) rfl rfl ?_
          refine TA.take 6 rfl (by kernel_rfl) (by kernel_rfl) (by kernel_rfl) (by kernel_rfl) rfl (OpVal.indexN rfl Try.underlying22 sz3 rfl rfl f1_0.rv.sl (by omega)) rfl rfl ?_
          refine TA.take 7 rfl (by kernel_rfl) (by kernel_rfl) (by kernel_rfl) (by kernel_rfl) rfl (OpVal.loadS1 (0 : Int) rfl ag3 rfl f1_0 (by omega) rfl) rfl rfl ?_
          refine TA.takeP 8 rfl (by kernel_rfl) (by kernel_rfl) (by kernel_rfl) rfl (OpVal.gtr rfl rfl rfl) rfl rfl ?_
          refine TA.done (by kernel_rfl) ?_
          refine S.n ?_
          refine TC.cond rfl (fun h107 => ?_) (fun h107 => ?_)
          · replace hh := iteO_t h107 hh
            replace h107 := of_decide_eq_true h107
            refine TC.seq ?_
            refine TC.region ?_
            refine TL.v rfl (OpVal.moveI (.inr rfl) rfl) rfl rfl ?_
            refine TL.nil ?_
            refine S.n ?_
            refine TC.ret ?_
            refine B.r ?_
            refine S.r ?_
            refine S.r ?_
            replace hh := fin_x hR1 hh
            refine B.r ?_
            refine S.r ?_
            obtain rfl := Option.some.inj hh
            exact RetOk.mk' (rs := [.tmp 4]) [] rfl (.inl rfl) (RVs.tmp rfl RVs.nil) (List.sublist_append_left _ _) ⟨rfl, rfl, rfl⟩
          · replace hh := iteO_f h107 hh
            replace h107 := of_decide_eq_false h107
            refine TC.skip ?_
            refine B.n ?_
            refine S.n ?_
            refine TC.region ?_
            refine TL.v rfl (OpVal.moveI (.inl rfl) rfl) rfl rfl ?_
            refine TL.v rfl (OpVal.succ rfl rfl rfl (by omega)) rfl rfl ?_
            refine TL.v rfl (OpVal.moveI (.inr rfl) rfl) rfl rfl ?_
            refine TL.nil ?_
            refine S.n ?_
            obtain ⟨hh, hlt108⟩ := nxt_x hR1 hh
            refine ⟨by repeat (first | exact Agr.refl _ _ | exact Agr.mask | refine Agr.upd rfl ?_ | refine Agr.maskIn rfl ?_ | refine Agr.upds rfl ?_), ((k103 + 1), ()), hlt108, hh, by repeat (first | exact trivial | refine ⟨rfl, ?_⟩), Sub.pre 0 rfl, rfl⟩
      · replace hh := iteO_f h105 hh
        replace h105 := of_decide_eq_false h105
        refine TC.exit ?_
        refine S.x ?_
        refine S.x ?_
        replace hh := fin_x hR1 hh
        refine TC.exitHere ?_
        refine S.n ?_
        refine ⟨by repeat (first | exact Agr.refl _ _ | exact Agr.mask | refine Agr.upd rfl ?_ | refine Agr.maskIn rfl ?_ | refine Agr.upds rfl ?_), ((), ()), hh, by repeat (first | exact trivial | refine ⟨rfl, ?_⟩), Sub.pre 0 rfl, rfl⟩
    · replace hh := iteO_f h104 hh
      replace h104 := of_decide_eq_false h104
      refine TL.goff rfl rfl rfl rfl rfl rfl rfl rfl ?_
      refine TL.goff rfl rfl rfl rfl rfl rfl rfl rfl ?_
      refine TL.goff rfl rfl rfl rfl rfl rfl rfl rfl ?_
      refine TL.goff rfl rfl rfl rfl rfl rfl rfl rfl ?_
      refine TL.v rfl (OpVal.pickFB rfl rfl rfl) rfl rfl ?_
      refine TL.nil ?_
      refine S.n ?_
      refine TC.cond rfl (fun h => Bool.noConfusion h) (fun _ => ?_)
      refine TC.exit ?_
      refine S.x ?_
      refine S.x ?_
      replace hh := fin_x hR1 hh
      refine TC.exitHere ?_
      refine S.n ?_
      refine ⟨by repeat (first | exact Agr.refl _ _ | exact Agr.mask | refine Agr.upd rfl ?_ | refine Agr.maskIn rfl ?_ | refine Agr.upds rfl ?_), ((), ()), hh, by repeat (first | exact trivial | refine ⟨rfl, ?_⟩), Sub.pre 0 rfl, rfl⟩
  · skip
    obtain ⟨_, _⟩ := g
    have hh := hg; clear hg
    show TC _ _ _ (upds (mask _ j _) []) _ []
    dsimp only [whittleref05_Compare_j1] at hh
    refine TC.seq ?_
    refine TC.seq ?_
    refine TC.region ?_
    refine TL.v rfl (OpVal.moveSl (.inl rfl) rfl) rfl rfl ?_
    refine TL.v rfl (OpVal.lenC rfl Try.underlying22 rfl) rfl rfl ?_
    refine TL.v rfl (OpVal.moveSl (.inl rfl) rfl) rfl rfl ?_
    refine TL.v rfl (OpVal.lenC rfl Try.underlying22 rfl) rfl rfl ?_
    refine TL.v rfl (OpVal.lss rfl rfl rfl) rfl rfl ?_
    refine TL.nil ?_
    refine S.n ?_
    refine TC.cond rfl (fun h109 => ?_) (fun h109 => ?_)
    · replace hh := iteO_t h109 hh
      replace h109 := of_decide_eq_true h109
      refine TC.seq ?_
      refine TC.region ?_
      refine TL.v rfl (OpVal.moveI (.inr rfl) rfl) rfl rfl ?_
      refine TL.nil ?_
      refine S.n ?_
      refine TC.ret ?_
      refine S.r ?_
      obtain rfl := Option.some.inj hh
      exact RetOk.mk' (rs := [.tmp 4]) [] rfl (.inl rfl) (RVs.tmp rfl RVs.nil) (List.sublist_append_left _ _) ⟨rfl, rfl, rfl⟩
    · replace hh := iteO_f h109 hh
      replace h109 := of_decide_eq_false h109
      refine TC.skip ?_
      refine S.n ?_
      refine TC.seq ?_
      refine TC.seq ?_
      refine TC.region ?_
      refine TL.v rfl (OpVal.moveSl (.inl rfl) rfl) rfl rfl ?_
      refine TL.v rfl (OpVal.lenC rfl Try.underlying22 rfl) rfl rfl ?_
      refine TL.v rfl (OpVal.moveSl (.inl rfl) rfl) rfl rfl ?_
      refine TL.v rfl (OpVal.lenC rfl Try.underlying22 rfl) rfl rfl ?_
      refine TL.v rfl (OpVal.gtr rfl rfl rfl) rfl rfl ?_
      refine TL.nil ?_
      refine S.n ?_
      refine TC.cond rfl (fun h110 => ?_) (fun h110 => ?_)
      · replace hh := iteO_t h110 hh
        replace h110 := of_decide_eq_true h110
        refine TC.seq ?_
        refine TC.region ?_
        refine TL.v rfl (OpVal.moveI (.inr rfl) rfl) rfl rfl ?_
        refine TL.nil ?_
        refine S.n ?_
        refine TC.ret ?_
        refine S.r ?_
        obtain rfl := Option.some.inj hh
        exact RetOk.mk' (rs := [.tmp 4]) [] rfl (.inl rfl) (RVs.tmp rfl RVs.nil) (List.sublist_append_left _ _) ⟨rfl, rfl, rfl⟩
      · replace hh := iteO_f h110 hh
        replace h110 := of_decide_eq_false h110
        refine TC.skip ?_
        refine S.n ?_
        refine TC.seq ?_
        refine TC.region ?_
        refine TL.v rfl (OpVal.moveI (.inr rfl) rfl) rfl rfl ?_
        refine TL.nil ?_
        refine S.n ?_
        refine TC.ret ?_
        obtain rfl := Option.some.inj hh
        exact RetOk.mk' (rs := [.tmp 4]) [] rfl (.inl rfl) (RVs.tmp rfl RVs.nil) (List.sublist_append_left _ _) ⟨rfl, rfl, rfl⟩

noncomputable def whittleref05_Sort_j1 (k115 : Nat) (l119 : List Int) : Option (((List Int) × Nat) ⊕ ((List Int))) :=
  nxt (l119, (k115 + 1))
noncomputable def whittleref05_Sort_j3 (k123 : Nat) (l111 : List Int) (x0 : List Int) (k115 : Nat) : Option (((List Int) × Nat) ⊕ ((List Int))) :=
  grd (0 ≤ k123 ∧ k123 ≤ l111.length) (grd ((([] : List Int).length + (l111.take k123).length) * 8 ≤ 140737488355328) (grd (((([] : List Int) ++ (l111.take k123)).length + [(nth x0 k115 (0 : Int))].length) * 8 ≤ 140737488355328) (grd (k123 ≤ l111.length ∧ l111.length ≤ l111.length) (grd ((((([] : List Int) ++ (l111.take k123)) ++ [(nth x0 k115 (0 : Int))]).length + (l111.drop k123).length) * 8 ≤ 140737488355328) (whittleref05_Sort_j1 k115 (((([] : List Int) ++ (l111.take k123)) ++ [(nth x0 k115 (0 : Int))]) ++ (l111.drop k123)))))))
noncomputable def whittleref05_Sort_j2 (l111 : List Int) (x0 : List Int) (k115 : Nat) (k123 : Nat) : Option (((List Int) × Nat) ⊕ ((List Int))) :=
  iteO (decide (((k123 : Nat) : Int) < ((l111.length : Nat) : Int))) (iteO (decide ((nth l111 k123 (0 : Int)) = (nth x0 k115 (0 : Int)))) (whittleref05_Sort_j1 k115 l111) (whittleref05_Sort_j3 k123 l111 x0 k115)) (whittleref05_Sort_j3 k123 l111 x0 k115)
noncomputable def whittleref05_Sort_b2 (l111 : List Int) (x0 : List Int) (k115 : Nat) (k126 : Nat) : Option ((Nat) ⊕ (((List Int) × Nat) ⊕ ((List Int)))) :=
  iteO (decide (((k126 : Nat) : Int) < ((l111.length : Nat) : Int))) (iteO (decide ((nth l111 k126 (0 : Int)) < (nth x0 k115 (0 : Int)))) (nxt (k126 + 1)) (fin (whittleref05_Sort_j2 l111 x0 k115 k126))) (fin (whittleref05_Sort_j2 l111 x0 k115 k126))
noncomputable def whittleref05_Sort_b1 (x0 : List Int) (l111 : List Int) (k115 : Nat) : Option (((List Int) × Nat) ⊕ ((List Int))) :=
  iteO (decide (((k115 : Nat) : Int) < ((x0.length : Nat) : Int))) (iter (fun q : Nat => whittleref05_Sort_b2 l111 x0 k115 q) 0) (fin (some l111))
noncomputable def whittleref05_Sort (x0 : List Int) : Option ((List Int)) :=
  iter (fun q : (List Int) × Nat => whittleref05_Sort_b1 x0 q.1 q.2) (([] : List Int), 0)
def whittleref05_Sort_P (σ : Store) (r : (List Int)) : Value → Store → List Res → Prop := fun v σ' H' =>
  ∃ (a1 : Option Addr), ∃ (c1 : Nat),  v = .slice a1 r.length c1 ∧ RS σ' 1 Go.E.encI (.slice a1 r.length c1) r ∧ H' = []
theorem whittleref05_Sort_con {σ : Store} {x0 : List Int} {a0_0 : Option Addr} {c0_0 : Nat} (f0_0 : RS σ 1 Go.E.encI (.slice a0_0 x0.length c0_0) x0) {r : (List Int)} (hh : whittleref05_Sort x0 = some r) :
    Con Try.prog 49 #[.slice a0_0 x0.length c0_0] σ [] (whittleref05_Sort_P σ r) := by
  dsimp only [whittleref05_Sort] at hh
  have f0_0b := f0_0.rv.big
  refine Con.mk (n := 64) Try.func49 rfl rfl rfl (fun w0 => ?_)
  refine TC.seq ?_
  refine TC.region ?_
  refine TL.v rfl (OpVal.moveSl (.inr rfl) rfl) rfl rfl ?_
  refine TL.nil ?_
  refine S.n ?_
  refine TC.seq ?_
  refine TC.region ?_
  refine TL.v rfl (OpVal.moveSl (.inr rfl) rfl) rfl rfl ?_
  refine TL.nil ?_
  refine S.n ?_
  refine TC.seq ?_
  refine TC.seq ?_
  refine TC.region ?_
  refine TL.v rfl (OpVal.moveI (.inr rfl) rfl) rfl rfl ?_
  refine TL.nil ?_
  refine S.n ?_
  refine TC.block ?_
  refine TC.loopG (α := ((List Int) × Nat) × ((Option Addr) × Nat × Store)) [3, 4, 5, 6, 7, 8, 9, 10, 11, 12, 13, 14, 15, 16, 17, 18, 19, 20, 21, 22, 23, 24, 25, 26, 27, 28, 29, 30, 31, 32, 33, 34, 35, 36, 37, 38, 39, 40, 41, 42, 43, 44, 45, 46, 47, 48, 49, 50, 51, 52, 53, 54, 55, 56, 57, 58, 59, 60, 61, 62] (fun g => [(3, .slice g.2.1 g.1.1.length g.2.2.1), (4, .int .i64 ((g.1.2 : Nat) : Int))]) (fun g => []) (fun g => g.2.2.2) (fun g => iter (fun q : (List Int) × Nat => whittleref05_Sort_b1 x0 q.1 q.2) g.1 = some r ∧ RS g.2.2.2 1 Go.E.encI (.slice g.2.1 g.1.1.length g.2.2.1) g.1.1 ∧ Store.le σ g.2.2.2) (fun g => rounds (fun q : (List Int) × Nat => whittleref05_Sort_b1 x0 q.1 q.2) g.1) ((([] : List Int), 0), (none, 0, σ)) (Sub.pre 0 rfl) rfl (by repeat (first | exact trivial | refine ⟨rfl, ?_⟩)) ⟨hh, (RS.nilF _ Go.E.encI Go.E.encI_len), (Store.le.refl _)⟩ (fun g1 j1 hg1 => ?_)
  obtain ⟨⟨l111, k115⟩, ⟨a112, c113, τ116⟩⟩ := g1
  obtain ⟨hh, hr114, hle117⟩ := hg1
  try dsimp only at hr114
  dsimp only at hle117
  replace f0_0 := f0_0.mono hle117
  show TC _ _ _ (upds (mask _ j1 _) [(3, .slice a112 l111.length c113), (4, .int .i64 ((k115 : Nat) : Int))]) τ116 []
  obtain ⟨z1, hh, hR1⟩ := iter_e hh
  dsimp only [whittleref05_Sort_b1] at hh
  have hr114b := hr114.rv.big
  refine TC.seq ?_
  refine TC.seq ?_
  refine TC.region ?_
  refine TL.v rfl (OpVal.moveI (.inl rfl) rfl) rfl rfl ?_
  refine TL.v rfl (OpVal.moveSl (.inl rfl) rfl) rfl rfl ?_
  refine TL.v rfl (OpVal.lenC rfl Try.underlying22 rfl) rfl rfl ?_
  refine TL.v rfl (OpVal.lss rfl rfl rfl) rfl rfl ?_
  refine TL.nil ?_
  refine S.n ?_
  refine TC.cond rfl (fun h118 => ?_) (fun h118 => ?_)
  · replace hh := iteO_t h118 hh
    replace h118 := of_decide_eq_true h118
    refine TC.skip ?_
    refine S.n ?_
    refine TC.cutG (α := ((List Int)) × ((Option Addr) × Nat × Store)) [3, 5, 6, 13, 14, 15, 16, 17, 18, 19, 20, 21, 22, 23, 24, 25, 26, 27, 28, 29, 30, 31, 32, 33, 34, 35, 36, 37, 38, 39, 40, 41, 42, 43, 44, 45, 46, 47, 48, 49, 50, 51, 52, 53, 54, 55, 56, 57, 58, 59, 60, 61, 62] (fun g => [(3, .slice g.2.1 g.1.length g.2.2.1)]) (fun g => []) (fun g => g.2.2.2) (fun g => whittleref05_Sort_j1 k115 g.1 = some z1 ∧ RS g.2.2.2 1 Go.E.encI (.slice g.2.1 g.1.length g.2.2.1) g.1 ∧ Store.le τ116 g.2.2.2) ?_ (fun g j hg => ?_)
    · skip
      refine TC.block ?_
      refine TC.seq ?_
      refine TC.region ?_
      refine TL.v rfl (OpVal.moveI (.inr rfl) rfl) rfl rfl ?_
      refine TL.nil ?_
      refine S.n ?_
      refine TC.cutG (α := (Nat) × (Unit)) [5, 13, 14, 15, 16, 17, 18, 19, 20, 21, 22, 23, 24, 25, 26, 27, 28, 29] (fun g => [(5, .int .i64 ((g.1 : Nat) : Int))]) (fun g => []) (fun g => τ116) (fun g => whittleref05_Sort_j2 l111 x0 k115 g.1 = some z1) ?_ (fun g j hg => ?_)
      · skip
        refine TC.block ?_
        refine TC.loopG (α := (Nat) × (Unit)) [5, 13, 14, 15, 16, 17, 18, 19, 20, 21, 22, 23, 24, 25, 26, 27, 28, 29] (fun g => [(5, .int .i64 ((g.1 : Nat) : Int))]) (fun g => []) (fun g => τ116) (fun g => iter (fun q : Nat => whittleref05_Sort_b2 l111 x0 k115 q) g.1 = some z1) (fun g => rounds (fun q : Nat => whittleref05_Sort_b2 l111 x0 k115 q) g.1) (0, ()) (Sub.pre 0 rfl) rfl (by repeat (first | exact trivial | refine ⟨rfl, ?_⟩)) hh (fun g2 j2 hg2 => ?_)
        obtain ⟨k126, _⟩ := g2
        have hh := hg2; clear hg2
        show TC _ _ _ (upds (mask _ j2 _) [(5, .int .i64 ((k126 : Nat) : Int))]) _ []
        obtain ⟨z2, hh, hR2⟩ := iter_e hh
        dsimp only [whittleref05_Sort_b2] at hh
        refine TC.seq ?_
        refine TC.seq ?_
        refine TC.draw [] (by kernel_rfl) ?_
        refine TA.takeP 0 rfl (by kernel_rfl) (by kernel_rfl) (by kernel_rfl) rfl (OpVal.moveI (.inl rfl) rfl) rfl rfl ?_
        refine TA.takeP 1 rfl (by kernel_rfl) (by kernel_rfl) (by kernel_rfl) rfl (OpVal.moveSl (.inl rfl) rfl) rfl rfl ?_
        refine TA.take 2 rfl (by kernel_rfl) (by kernel_rfl) (by kernel_rfl) (by kernel_rfl) rfl (OpVal.lenC rfl Try.underlying22 rfl) rfl rfl ?_
        refine TA.takeP 3 rfl (by kernel_rfl) (by kernel_rfl) (by kernel_rfl) rfl (OpVal.lss rfl rfl rfl) rfl rfl ?_
        refine TA.takeP 4 rfl (by kernel_rfl) (by kernel_rfl) (by kernel_rfl) rfl (OpVal.moveB (.inl rfl) rfl) rfl rfl ?_
        refine TA.split 17 rfl (fun h127 => ?_) (fun h127 => ?_)
        · replace hh := iteO_t h127 hh
          replace h127 := of_decide_eq_true h127
          refine TA.takeOn 5 rfl (by kernel_rfl) (by kernel_rfl) (by kernel_rfl) (by kernel_rfl) rfl rfl rfl rfl rfl (OpVal.moveSl (.inl rfl) rfl) rfl rfl ?_
          refine TA.takeOn 6 rfl (by kernel_rfl) (by kernel_rfl) (by kernel_rfl) (by kernel_rfl) rfl rfl rfl rfl rfl (OpVal.moveI (.inl rfl) rfl) rfl rfl ?_
          refine TA.takeOn 7 rfl (by kernel_rfl) (by kernel_rfl) (by kernel_rfl) (by kernel_rfl) rfl rfl rfl rfl rfl (OpVal.indexN rfl Try.underlying22 sz3 rfl rfl hr114.rv.sl (by omega)) rfl rfl ?_
          refine TA.takeOn 8 rfl (by kernel_rfl) (by kernel_rfl) (by kernel_rfl) (by kernel_rfl) rfl rfl rfl rfl rfl (OpVal.loadS1 (0 : Int) rfl ag3 rfl hr114 (by omega) rfl) rfl rfl ?_
          refine TA.takeOn 9 rfl (by kernel_rfl) (by kernel_rfl) (by kernel_rfl) (by kernel_rfl) rfl rfl rfl rfl rfl (OpVal.moveSl (.inl rfl) rfl) rfl rfl ?_
          refine TA.takeOn 10 rfl (by kernel_rfl) (by kernel_rfl) (by kernel_rfl) (by kernel_rfl) rfl rfl rfl rfl rfl (OpVal.moveI (.inl rfl) rfl) rfl rfl ?_
          refine TA.takeOn 11 rfl (by kernel_rfl) (by kernel_rfl) (by kernel_rfl) (by kernel_rfl) rfl rfl rfl rfl rfl (OpVal.indexN rfl Try.underlying22 sz3 rfl rfl f0_0.rv.sl (by omega)) rfl rfl ?_
          refine TA.takeOn 12 rfl (by kernel_rfl) (by kernel_rfl) (by kernel_rfl) (by kernel_rfl) rfl rfl rfl rfl rfl (OpVal.loadS1 (0 : Int) rfl ag3 rfl f0_0 (by omega) rfl) rfl rfl ?_
          refine TA.takeOn 13 rfl (by kernel_rfl) (by kernel_rfl) (by kernel_rfl) (by kernel_rfl) rfl rfl rfl rfl rfl (OpVal.lss rfl rfl rfl) rfl rfl ?_
          refine TA.takeP 14 rfl (by kernel_rfl) (by kernel_rfl) (by kernel_rfl) rfl (OpVal.pickTB rfl rfl rfl) rfl rfl ?_
          refine TA.done (by kernel_rfl) ?_
          refine S.n ?_
          refine TC.cond rfl (fun h128 => ?_) (fun h128 => ?_)
          · replace hh := iteO_t h128 hh
            replace h128 := of_decide_eq_true h128
            refine TC.skip ?_
            refine S.n ?_
            refine TC.block ?_
            refine TC.region ?_
            refine TL.v rfl (OpVal.moveI (.inl rfl) rfl) rfl rfl ?_
            refine TL.v rfl (OpVal.succ rfl rfl rfl (by omega)) rfl rfl ?_
            refine TL.v rfl (OpVal.moveI (.inr rfl) rfl) rfl rfl ?_
            refine TL.nil ?_
            refine B.n ?_
            refine S.n ?_
            obtain ⟨hh, hlt129⟩ := nxt_x hR2 hh
            refine ⟨by repeat (first | exact Agr.refl _ _ | exact Agr.mask | refine Agr.upd rfl ?_ | refine Agr.maskIn rfl ?_ | refine Agr.upds rfl ?_), ((k126 + 1), ()), hlt129, hh, by repeat (first | exact trivial | refine ⟨rfl, ?_⟩), Sub.pre 0 rfl, rfl⟩
          · replace hh := iteO_f h128 hh
            replace h128 := of_decide_eq_false h128
            refine TC.exit ?_
            refine S.x ?_
            refine S.x ?_
            replace hh := fin_x hR2 hh
            refine TC.exitHere ?_
            refine S.n ?_
            refine ⟨by repeat (first | exact Agr.refl _ _ | exact Agr.mask | refine Agr.upd rfl ?_ | refine Agr.maskIn rfl ?_ | refine Agr.upds rfl ?_), (k126, ()), hh, by repeat (first | exact trivial | refine ⟨rfl, ?_⟩), Sub.pre 0 rfl, rfl⟩
        · replace hh := iteO_f h127 hh
          replace h127 := of_decide_eq_false h127
          refine TA.takeOff 5 rfl (by kernel_rfl) (by kernel_rfl) (by kernel_rfl) (by kernel_rfl) rfl rfl rfl rfl rfl rfl rfl rfl ?_
          refine TA.takeOff 6 rfl (by kernel_rfl) (by kernel_rfl) (by kernel_rfl) (by kernel_rfl) rfl rfl rfl rfl rfl rfl rfl rfl ?_
          refine TA.takeOff 7 rfl (by kernel_rfl) (by kernel_rfl) (by kernel_rfl) (by kernel_rfl) rfl rfl rfl rfl rfl rfl rfl rfl ?_
          refine TA.takeOff 8 rfl (by kernel_rfl) (by kernel_rfl) (by kernel_rfl) (by kernel_rfl) rfl rfl rfl rfl rfl rfl rfl rfl ?_
          refine TA.takeOff 9 rfl (by kernel_rfl) (by kernel_rfl) (by kernel_rfl) (by kernel_rfl) rfl rfl rfl rfl rfl rfl rfl rfl ?_
          refine TA.takeOff 10 rfl (by kernel_rfl) (by kernel_rfl) (by kernel_rfl) (by kernel_rfl) rfl rfl rfl rfl rfl rfl rfl rfl ?_
          refine TA.takeOff 11 rfl (by kernel_rfl) (by kernel_rfl) (by kernel_rfl) (by kernel_rfl) rfl rfl rfl rfl rfl rfl rfl rfl ?_
          refine TA.takeOff 12 rfl (by kernel_rfl) (by kernel_rfl) (by kernel_rfl) (by kernel_rfl) rfl rfl rfl rfl rfl rfl rfl rfl ?_
          refine TA.takeOff 13 rfl (by kernel_rfl) (by kernel_rfl) (by kernel_rfl) (by kernel_rfl) rfl rfl rfl rfl rfl rfl rfl rfl ?_
          refine TA.takeP 14 rfl (by kernel_rfl) (by kernel_rfl) (by kernel_rfl) rfl (OpVal.pickFB rfl rfl rfl) rfl rfl ?_
          refine TA.done (by kernel_rfl) ?_
          refine S.n ?_
          refine TC.cond rfl (fun h => Bool.noConfusion h) (fun _ => ?_)
          refine TC.exit ?_
          refine S.x ?_
          refine S.x ?_
          replace hh := fin_x hR2 hh
          refine TC.exitHere ?_
          refine S.n ?_
          refine ⟨by repeat (first | exact Agr.refl _ _ | exact Agr.mask | refine Agr.upd rfl ?_ | refine Agr.maskIn rfl ?_ | refine Agr.upds rfl ?_), (k126, ()), hh, by repeat (first | exact trivial | refine ⟨rfl, ?_⟩), Sub.pre 0 rfl, rfl⟩
      · skip
        obtain ⟨k123, _⟩ := g
        have hh := hg; clear hg
        show TC _ _ _ (upds (mask _ j _) [(5, .int .i64 ((k123 : Nat) : Int))]) _ []
        dsimp only [whittleref05_Sort_j2] at hh
        refine TC.cutG (α := (Unit) × (Unit)) [30, 31, 32, 33, 34, 35, 36, 37, 38, 39, 40, 41, 42, 43, 44] (fun g => []) (fun g => []) (fun g => τ116) (fun g => whittleref05_Sort_j3 k123 l111 x0 k115 = some z1) ?_ (fun g j hg => ?_)
        · skip
          refine TC.seq ?_
          refine TC.draw [] (by kernel_rfl) ?_
          refine TA.takeP 0 rfl (by kernel_rfl) (by kernel_rfl) (by kernel_rfl) rfl (OpVal.moveI (.inl rfl) rfl) rfl rfl ?_
          refine TA.takeP 1 rfl (by kernel_rfl) (by kernel_rfl) (by kernel_rfl) rfl (OpVal.moveSl (.inl rfl) rfl) rfl rfl ?_
          refine TA.take 2 rfl (by kernel_rfl) (by kernel_rfl) (by kernel_rfl) (by kernel_rfl) rfl (OpVal.lenC rfl Try.underlying22 rfl) rfl rfl ?_
          refine TA.takeP 3 rfl (by kernel_rfl) (by kernel_rfl) (by kernel_rfl) rfl (OpVal.lss rfl rfl rfl) rfl rfl ?_
          refine TA.takeP 4 rfl (by kernel_rfl) (by kernel_rfl) (by kernel_rfl) rfl (OpVal.moveB (.inl rfl) rfl) rfl rfl ?_
          refine TA.split 34 rfl (fun h130 => ?_) (fun h130 => ?_)
          · replace hh := iteO_t h130 hh
            replace h130 := of_decide_eq_true h130
            refine TA.takeOn 5 rfl (by kernel_rfl) (by kernel_rfl) (by kernel_rfl) (by kernel_rfl) rfl rfl rfl rfl rfl (OpVal.moveSl (.inl rfl) rfl) rfl rfl ?_
            refine TA.takeOn 6 rfl (by kernel_rfl) (by kernel_rfl) (by kernel_rfl) (by kernel_rfl) rfl rfl rfl rfl rfl (OpVal.moveI (.inl rfl) rfl) rfl rfl ?_
            refine TA.takeOn 7 rfl (by kernel_rfl) (by kernel_rfl) (by kernel_rfl) (by kernel_rfl) rfl rfl rfl rfl rfl (OpVal.indexN rfl Try.underlying22 sz3 rfl rfl hr114.rv.sl (by omega)) rfl rfl ?_
            refine TA.takeOn 8 rfl (by kernel_rfl) (by kernel_rfl) (by kernel_rfl) (by kernel_rfl) rfl rfl rfl rfl rfl (OpVal.loadS1 (0 : Int) rfl ag3 rfl hr114 (by omega) rfl) rfl rfl ?_
            refine TA.takeOn 9 rfl (by kernel_rfl) (by kernel_rfl) (by kernel_rfl) (by kernel_rfl) rfl rfl rfl rfl rfl (OpVal.moveSl (.inl rfl) rfl) rfl rfl ?_
            refine TA.takeOn 10 rfl (by kernel_rfl) (by kernel_rfl) (by kernel_rfl) (by kernel_rfl) rfl rfl rfl rfl rfl (OpVal.moveI (.inl rfl) rfl) rfl rfl ?_
            refine TA.takeOn 11 rfl (by kernel_rfl) (by kernel_rfl) (by kernel_rfl) (by kernel_rfl) rfl rfl rfl rfl rfl (OpVal.indexN rfl Try.underlying22 sz3 rfl rfl f0_0.rv.sl (by omega)) rfl rfl ?_
            refine TA.takeOn 12 rfl (by kernel_rfl) (by kernel_rfl) (by kernel_rfl) (by kernel_rfl) rfl rfl rfl rfl rfl (OpVal.loadS1 (0 : Int) rfl ag3 rfl f0_0 (by omega) rfl) rfl rfl ?_
            refine TA.takeOn 13 rfl (by kernel_rfl) (by kernel_rfl) (by kernel_rfl) (by kernel_rfl) rfl rfl rfl rfl rfl (OpVal.eql rfl rfl rfl) rfl rfl ?_
            refine TA.takeP 14 rfl (by kernel_rfl) (by kernel_rfl) (by kernel_rfl) rfl (OpVal.pickTB rfl rfl rfl) rfl rfl ?_
            refine TA.done (by kernel_rfl) ?_
            refine S.n ?_
            refine TC.cond rfl (fun h131 => ?_) (fun h131 => ?_)
            · replace hh := iteO_t h131 hh
              replace h131 := of_decide_eq_true h131
              refine TC.exit ?_
              refine S.x ?_
              refine TC.exitHere ?_
              refine S.n ?_
              refine ⟨by repeat (first | exact Agr.refl _ _ | exact Agr.mask | refine Agr.upd rfl ?_ | refine Agr.maskIn rfl ?_ | refine Agr.upds rfl ?_), (l111, (a112, c113, τ116)), ⟨hh, hr114, (Store.le.refl _)⟩, by repeat (first | exact trivial | refine ⟨rfl, ?_⟩), Sub.pre 0 rfl, rfl⟩
            · replace hh := iteO_f h131 hh
              replace h131 := of_decide_eq_false h131
              refine TC.skip ?_
              refine S.n ?_
              refine ⟨by repeat (first | exact Agr.refl _ _ | exact Agr.mask | refine Agr.upd rfl ?_ | refine Agr.maskIn rfl ?_ | refine Agr.upds rfl ?_), ((), ()), hh, by repeat (first | exact trivial | refine ⟨rfl, ?_⟩), Sub.pre 0 rfl, rfl⟩
          · replace hh := iteO_f h130 hh
            replace h130 := of_decide_eq_false h130
            refine TA.takeOff 5 rfl (by kernel_rfl) (by kernel_rfl) (by kernel_rfl) (by kernel_rfl) rfl rfl rfl rfl rfl rfl rfl rfl ?_
            refine TA.takeOff 6 rfl (by kernel_rfl) (by kernel_rfl) (by kernel_rfl) (by kernel_rfl) rfl rfl rfl rfl rfl rfl rfl rfl ?_
            refine TA.takeOff 7 rfl (by kernel_rfl) (by kernel_rfl) (by kernel_rfl) (by kernel_rfl) rfl rfl rfl rfl rfl rfl rfl rfl ?_
            refine TA.takeOff 8 rfl (by kernel_rfl) (by kernel_rfl) (by kernel_rfl) (by kernel_rfl) rfl rfl rfl rfl rfl rfl rfl rfl ?_
            refine TA.takeOff 9 rfl (by kernel_rfl) (by kernel_rfl) (by kernel_rfl) (by kernel_rfl) rfl rfl rfl rfl rfl rfl rfl rfl ?_
            refine TA.takeOff 10 rfl (by kernel_rfl) (by kernel_rfl) (by kernel_rfl) (by kernel_rfl) rfl rfl rfl rfl rfl rfl rfl rfl ?_
            refine TA.takeOff 11 rfl (by kernel_rfl) (by kernel_rfl) (by kernel_rfl) (by kernel_rfl) rfl rfl rfl rfl rfl rfl rfl rfl ?_
            refine TA.takeOff 12 rfl (by kernel_rfl) (by kernel_rfl) (by kernel_rfl) (by kernel_rfl) rfl rfl rfl rfl rfl rfl rfl rfl ?_
            refine TA.takeOff 13 rfl (by kernel_rfl) (by kernel_rfl) (by kernel_rfl) (by kernel_rfl) rfl rfl rfl rfl rfl rfl rfl rfl ?_
            refine TA.takeP 14 rfl (by kernel_rfl) (by kernel_rfl) (by kernel_rfl) rfl (OpVal.pickFB rfl rfl rfl) rfl rfl ?_
            refine TA.done (by kernel_rfl) ?_
            refine S.n ?_
            refine TC.cond rfl (fun h => Bool.noConfusion h) (fun _ => ?_)
            refine TC.skip ?_
            refine S.n ?_
            refine ⟨by repeat (first | exact Agr.refl _ _ | exact Agr.mask | refine Agr.upd rfl ?_ | refine Agr.maskIn rfl ?_ | refine Agr.upds rfl ?_), ((), ()), hh, by repeat (first | exact trivial | refine ⟨rfl, ?_⟩), Sub.pre 0 rfl, rfl⟩
        · skip
          obtain ⟨_, _⟩ := g
          have hh := hg; clear hg
          show TC _ _ _ (upds (mask _ j _) []) _ []
          dsimp only [whittleref05_Sort_j3] at hh
          refine TC.seq ?_
          refine TC.region ?_
          refine TL.v rfl (OpVal.moveSl (.inr rfl) rfl) rfl rfl ?_
          refine TL.nil ?_
          refine S.n ?_
          refine TC.seq ?_
          refine TC.region ?_
          refine TL.v rfl (OpVal.moveSl (.inl rfl) rfl) rfl rfl ?_
          refine TL.v rfl (OpVal.moveSl (.inl rfl) rfl) rfl rfl ?_
          refine TL.v rfl (OpVal.moveI (.inl rfl) rfl) rfl rfl ?_
          have u46 := grd_c hh
          replace hh := grd_t hh
          obtain ⟨a132, c132, hr132, hv132⟩ := hr114.subH k123 (by omega)
          have hr132b := hr132.rv.big
          refine TL.v rfl (hv132 rfl Try.underlying22 sz3 rfl rfl) rfl rfl ?_
          refine TL.nilS 3 1 Go.E.encI ?_
          have u47 := grd_c hh
          replace hh := grd_t hh
          refine TL.op rfl (OpOk.appendS rfl rfl Try.underlying22 sz3 by3 ze3 rfl rfl (by decide) rfl rfl rfl (.inl hr132) (by simpa using u47) (by decide) (fun a134 c135 => ?_))
          refine TL.v rfl (OpVal.moveSl (.inr rfl) rfl) rfl rfl ?_
          refine TL.nil ?_
          refine S.n ?_
          refine TC.seq ?_
          refine TC.region ?_
          refine TL.v rfl (OpVal.moveSl (.inl rfl) rfl) rfl rfl ?_
          refine TL.v rfl (OpVal.moveSl (.inl rfl) rfl) rfl rfl ?_
          refine TL.v rfl (OpVal.moveI (.inl rfl) rfl) rfl rfl ?_
          refine TL.v rfl (OpVal.indexN rfl Try.underlying22 sz3 rfl rfl f0_0.rv.sl (by omega)) rfl rfl ?_
          refine TL.v rfl (OpVal.loadS1 (0 : Int) rfl ag3 rfl f0_0 (by omega) rfl) rfl rfl ?_
          refine TL.op rfl (OpOk.lit (enc := Go.E.encI) [(nth x0 k115 (0 : Int))] rfl Try.underlying22 sz3 ze3 rfl rfl rfl Go.E.encI_len (by decide) (by decide) (0 : Int) rfl (by decide) rfl (by decide) Go.E.encI_one (fun a136 c137 => ?_))
          refine TL.front 1 rfl rfl ?_
          have u55 := grd_c hh
          replace hh := grd_t hh
          refine TL.op rfl (OpOk.appendS rfl rfl Try.underlying22 sz3 by3 ze3 rfl rfl (by decide) rfl rfl rfl (.inr ⟨_, 0, rfl⟩) (by simpa using u55) (by decide) (fun a139 c140 => ?_))
          refine TL.v rfl (OpVal.moveSl (.inr rfl) rfl) rfl rfl ?_
          refine TL.nil ?_
          refine S.n ?_
          refine TC.seq ?_
          refine TC.region ?_
          refine TL.v rfl (OpVal.moveSl (.inl rfl) rfl) rfl rfl ?_
          refine TL.v rfl (OpVal.moveSl (.inl rfl) rfl) rfl rfl ?_
          refine TL.v rfl (OpVal.moveI (.inl rfl) rfl) rfl rfl ?_
          have u60 := grd_c hh
          replace hh := grd_t hh
          obtain ⟨a141, c141, hr141, hv141⟩ := hr114.subL k123 (by omega)
          have hr141b := hr141.rv.big
          refine TL.v rfl (hv141 rfl Try.underlying22 sz3 rfl rfl) rfl rfl ?_
          have u61 := grd_c hh
          replace hh := grd_t hh
          refine TL.op rfl (OpOk.appendS rfl rfl Try.underlying22 sz3 by3 ze3 rfl rfl (by decide) rfl rfl rfl (.inl hr141) (by simpa using u61) (by decide) (fun a142 c143 => ?_))
          refine TL.v rfl (OpVal.moveSl (.inr rfl) rfl) rfl rfl ?_
          refine TL.nil ?_
          refine S.n ?_
          refine TC.region ?_
          refine TL.v rfl (OpVal.moveSl (.inl rfl) rfl) rfl rfl ?_
          refine TL.v rfl (OpVal.moveSl (.inr rfl) rfl) rfl rfl ?_
          refine TL.sealS Go.E.encI_len (fun τ146 hle145 hr144 => ?_)
          replace f0_0 := f0_0.mono hle145
          replace hr114 := hr114.mono hle145
          replace hr132 := hr132.mono hle145
          replace hr141 := hr141.mono hle145
          have hr144b := hr144.rv.big
          refine TL.nil ?_
          refine B.n ?_
          refine S.n ?_
          refine ⟨by repeat (first | exact Agr.refl _ _ | exact Agr.mask | refine Agr.upd rfl ?_ | refine Agr.maskIn rfl ?_ | refine Agr.upds rfl ?_), ((((([] : List Int) ++ (l111.take k123)) ++ [(nth x0 k115 (0 : Int))]) ++ (l111.drop k123)), (a142, c143, τ146)), ⟨hh, hr144, hle145⟩, by repeat (first | exact trivial | refine ⟨rfl, ?_⟩), Sub.pre 0 rfl, rfl⟩
    · skip
      obtain ⟨l119, ⟨a120, c121, τ147⟩⟩ := g
      obtain ⟨hh, hr122, hle148⟩ := hg
      try dsimp only at hr122
      dsimp only at hle148
      replace f0_0 := f0_0.mono hle148
      replace hr114 := hr114.mono hle148
      show TC _ _ _ (upds (mask _ j _) [(3, .slice a120 l119.length c121)]) τ147 []
      dsimp only [whittleref05_Sort_j1] at hh
      have hr122b := hr122.rv.big
      refine TC.region ?_
      refine TL.v rfl (OpVal.moveI (.inl rfl) rfl) rfl rfl ?_
      refine TL.v rfl (OpVal.succ rfl rfl rfl (by omega)) rfl rfl ?_
      refine TL.v rfl (OpVal.moveI (.inr rfl) rfl) rfl rfl ?_
      refine TL.nil ?_
      refine S.n ?_
      obtain ⟨hh, hlt149⟩ := nxt_x hR1 hh
      refine ⟨by repeat (first | exact Agr.refl _ _ | exact Agr.mask | refine Agr.upd rfl ?_ | refine Agr.maskIn rfl ?_ | refine Agr.upds rfl ?_), ((l119, (k115 + 1)), (a120, c121, τ147)), hlt149, ⟨hh, hr122, (hle117.trans hle148)⟩, by repeat (first | exact trivial | refine ⟨rfl, ?_⟩), Sub.pre 0 rfl, rfl⟩
  · replace hh := iteO_f h118 hh
    replace h118 := of_decide_eq_false h118
    refine TC.exit ?_
    refine S.x ?_
    refine S.x ?_
    replace hh := fin_x hR1 hh
    refine TC.exitHere ?_
    refine S.n ?_
    refine TC.seq ?_
    refine TC.region ?_
    refine TL.v rfl (OpVal.moveSl (.inl rfl) rfl) rfl rfl ?_
    refine TL.v rfl (OpVal.moveSl (.inr rfl) rfl) rfl rfl ?_
    refine TL.nil ?_
    refine S.n ?_
    refine TC.ret ?_
    obtain rfl := Option.some.inj hh
    exact RetOk.mk' (rs := [.tmp 2]) [] rfl (.inl rfl) (RVs.tmp rfl RVs.nil) (List.sublist_append_left _ _) ⟨a112, c113, rfl, hr114, rfl⟩

theorem cloneI_con {σ : Store} {a : Option Addr} {c : Nat} {l : List Int} (hl : RS σ 1 Go.E.encI (.slice a l.length c) l) (hsz : l.length * 8 ≤ 140737488355328) :
    Con Try.prog 64 #[.slice a l.length c] σ [] (RowP 3 1 Go.E.encI l σ) := by
  have hb := hl.rv.big
  refine Con.mk (n := 8) Try.func64 rfl rfl rfl (fun w0 => ?_)
  refine TC.seq ?_
  refine TC.region ?_
  refine TL.v rfl (OpVal.moveSl (.inr rfl) rfl) rfl rfl ?_
  refine TL.nilS 3 1 Go.E.encI ?_
  refine TL.nil ?_
  refine S.n ?_
  refine TC.seq ?_
  refine TC.seq ?_
  refine TC.region ?_
  refine TL.v rfl (OpVal.moveSl (.inl rfl) rfl) rfl rfl ?_
  refine TL.v rfl (OpVal.eqlNilSl rfl Try.underlying22 rfl rfl) rfl rfl ?_
  refine TL.nil ?_
  refine S.n ?_
  refine TC.cond rfl (fun h2 => ?_) (fun h2 => ?_)
  · refine TC.seq ?_
    refine TC.region ?_
    refine TL.v rfl (OpVal.moveSl (.inr rfl) rfl) rfl rfl ?_
    refine TL.nilS 3 1 Go.E.encI ?_
    refine TL.nil ?_
    refine S.n ?_
    refine TC.ret ?_
    refine S.r ?_
    cases a with
    | some _ => simp at h2
    | none =>
      obtain rfl := hl.none_nil
      exact ret1R rfl rfl
  · refine TC.skip ?_
    refine S.n ?_
    refine TC.seq ?_
    refine TC.region ?_
    refine TL.op rfl (OpOk.lit0 (enc := Go.E.encI) rfl rfl Try.underlying22 sz3 rfl rfl (fun a4 c5 => ?_))
    refine TL.v rfl (OpVal.moveSl (.inl rfl) rfl) rfl rfl ?_
    refine TL.op rfl (OpOk.appendS rfl rfl Try.underlying22 sz3 by3 ze3 rfl rfl (by decide) rfl rfl rfl (.inl hl) (by simpa using hsz) (by decide) (fun a7 c8 => ?_))
    refine TL.v rfl (OpVal.moveSl (.inr rfl) rfl) rfl rfl ?_
    refine TL.nil ?_
    refine S.n ?_
    refine TC.ret ?_
    exact ret1R rfl rfl

noncomputable def compactI_j1 (k125 : Nat) (l128 : List Int) (k130 : Nat) : Option (((List Int) × Nat × Nat) ⊕ ((Nat) ⊕ ((List Int)))) :=
  nxt (l128, k130, (k125 + 1))
noncomputable def compactI_b2 (x0 : List Int) (k105 : Nat) (l122 : List Int) (k124 : Nat) (k125 : Nat) : Option (((List Int) × Nat × Nat) ⊕ ((Nat) ⊕ ((List Int)))) :=
  iteO (decide (((k125 : Nat) : Int) < (((x0.length - k105) : Nat) : Int))) (grd (k125 < (x0.length - k105)) (grd (0 ≤ (IntKind.i64.wrap (((k125 : Nat) : Int) - 1)) ∧ (IntKind.i64.wrap (((k125 : Nat) : Int) - 1)) < ((x0.length - k105) : Nat)) (iteO (decide ((nth l122 (k105 + k125) (0 : Int)) ≠ (nth l122 (k105 + (IntKind.i64.wrap (((k125 : Nat) : Int) - 1)).toNat) (0 : Int)))) (grd (k125 < (x0.length - k105)) (grd (k124 < l122.length) (compactI_j1 k125 (l122.set k124 (nth l122 (k105 + k125) (0 : Int))) (k124 + 1)))) (compactI_j1 k125 l122 k124)))) (fin (grd (k124 ≤ x0.length) (grd (k124 ≤ (l122.take k124 ++ List.replicate (l122.length - k124) (0 : Int)).length) (fin (some ((l122.take k124 ++ List.replicate (l122.length - k124) (0 : Int)).take k124))))))
noncomputable def compactI_b1 (x0 : List Int) (k105 : Nat) : Option ((Nat) ⊕ ((List Int))) :=
  iteO (decide (((k105 : Nat) : Int) < ((x0.length : Nat) : Int))) (grd (0 ≤ (IntKind.i64.wrap (((k105 : Nat) : Int) - 1)) ∧ (IntKind.i64.wrap (((k105 : Nat) : Int) - 1)) < (x0.length : Int)) (iteO (decide ((nth x0 k105 (0 : Int)) = (nth x0 ((IntKind.i64.wrap (((k105 : Nat) : Int) - 1)).toNat) (0 : Int)))) (grd (k105 ≤ x0.length) (iter (fun q : (List Int) × Nat × Nat => compactI_b2 x0 k105 q.1 q.2.1 q.2.2) (x0, k105, 1))) (nxt (k105 + 1)))) (fin (some x0))
noncomputable def compactI (x0 : List Int) : Option ((List Int)) :=
  iteO (decide (((x0.length : Nat) : Int) < 2)) (some x0) (iter (fun q : Nat => compactI_b1 x0 q) 1)
theorem compactI_con {σ : Store} {x0 : List Int} {a0_1 : Option Addr} {c0_2 : Nat}  {r : (List Int)} (hh : compactI x0 = some r) :
    Con Try.prog 80 #[.slice a0_1 x0.length c0_2] σ [Res.rowS 3 1 Go.E.encI (.slice a0_1 x0.length c0_2) x0] (fun v σ' H' => ∃ (a1 : Option Addr), ∃ (c1 : Nat), v = .slice a1 r.length c1 ∧ σ = σ' ∧ H' = [Res.rowS 3 1 Go.E.encI (.slice a1 r.length c1) r]) := by
  dsimp only [compactI] at hh
  refine Con.mk (n := 61) Try.func80 rfl rfl rfl (fun w0 => ?_)
  refine TC.seq ?_
  refine TC.region ?_
  refine TL.v rfl (OpVal.moveSl (.inr rfl) rfl) rfl rfl ?_
  refine TL.nil ?_
  refine S.n ?_
  refine TC.seq ?_
  refine TC.seq ?_
  refine TC.region ?_
  refine TL.v rfl (OpVal.moveSl (.inl rfl) rfl) rfl rfl ?_
  refine TL.v rfl (OpVal.lenC rfl Try.underlying22 rfl) rfl rfl ?_
  refine TL.v rfl (OpVal.lss rfl rfl rfl) rfl rfl ?_
  refine TL.nil ?_
  refine S.n ?_
  refine TC.cond rfl (fun h102 => ?_) (fun h102 => ?_)
  · replace hh := iteO_t h102 hh
    replace h102 := of_decide_eq_true h102
    refine TC.seq ?_
    refine TC.region ?_
    refine TL.v rfl (OpVal.moveSl (.inl rfl) rfl) rfl rfl ?_
    refine TL.v rfl (OpVal.moveSl (.inr rfl) rfl) rfl rfl ?_
    refine TL.nil ?_
    refine S.n ?_
    refine TC.ret ?_
    refine S.r ?_
    obtain rfl := Option.some.inj hh
    exact RetOk.mk' (rs := [.tmp 2]) [Res.rowS 3 1 Go.E.encI (.slice a0_1 x0.length c0_2) x0] rfl (.inl rfl) (RVs.tmp rfl RVs.nil) (List.sublist_append_left _ _) ⟨a0_1, c0_2, rfl, rfl, rfl⟩
  · replace hh := iteO_f h102 hh
    replace h102 := of_decide_eq_false h102
    refine TC.skip ?_
    refine S.n ?_
    refine TC.seq ?_
    refine TC.seq ?_
    refine TC.region ?_
    refine TL.v rfl (OpVal.moveI (.inr rfl) rfl) rfl rfl ?_
    refine TL.nil ?_
    refine S.n ?_
    refine TC.block ?_
    refine TC.loopG (α := (Nat) × (Unit)) [2, 3, 4, 5, 10, 11, 12, 13, 14, 15, 16, 17, 18, 19, 20, 21, 22, 23, 24, 25, 26, 27, 28, 29, 30, 31, 32, 33, 34, 35, 36, 37, 38, 39, 40, 41, 42, 43, 44, 45, 46, 47, 48, 49, 50, 51, 52, 53, 54, 55, 56, 57, 58, 59] (fun g => [(3, .int .i64 ((g.1 : Nat) : Int))]) (fun g => [Res.rowS 3 1 Go.E.encI (.slice a0_1 x0.length c0_2) x0]) (fun g => σ) (fun g => iter (fun q : Nat => compactI_b1 x0 q) g.1 = some r) (fun g => rounds (fun q : Nat => compactI_b1 x0 q) g.1) (1, ()) (Sub.pre 1 rfl) rfl (by repeat (first | exact trivial | refine ⟨rfl, ?_⟩)) hh (fun g1 j1 hg1 => ?_)
    obtain ⟨k105, _⟩ := g1
    have hh := hg1; clear hg1
    show TC _ _ _ (upds (mask _ j1 _) [(3, .int .i64 ((k105 : Nat) : Int))]) _ [Res.rowS 3 1 Go.E.encI (.slice a0_1 x0.length c0_2) x0]
    obtain ⟨z1, hh, hR1⟩ := iter_e hh
    dsimp only [compactI_b1] at hh
    refine TC.isSl (i := 0) rfl (fun _ hb106 _ => ?_)
    refine TC.seq ?_
    refine TC.seq ?_
    refine TC.region ?_
    refine TL.v rfl (OpVal.moveI (.inl rfl) rfl) rfl rfl ?_
    refine TL.v rfl (OpVal.moveSl (.inl rfl) rfl) rfl rfl ?_
    refine TL.v rfl (OpVal.lenC rfl Try.underlying22 rfl) rfl rfl ?_
    refine TL.v rfl (OpVal.lss rfl rfl rfl) rfl rfl ?_
    refine TL.nil ?_
    refine S.n ?_
    refine TC.cond rfl (fun h107 => ?_) (fun h107 => ?_)
    · replace hh := iteO_t h107 hh
      replace h107 := of_decide_eq_true h107
      refine TC.skip ?_
      refine S.n ?_
      refine TC.seq ?_
      refine TC.block ?_
      refine TC.seq ?_
      have u19 := grd_c hh
      replace hh := grd_t hh
      refine TC.draw [] (by kernel_rfl) ?_
      refine TA.takeP 0 rfl (by kernel_rfl) (by kernel_rfl) (by kernel_rfl) rfl (OpVal.moveSl (.inl rfl) rfl) rfl rfl ?_
      refine TA.takeP 1 rfl (by kernel_rfl) (by kernel_rfl) (by kernel_rfl) rfl (OpVal.moveI (.inl rfl) rfl) rfl rfl ?_
      refine TA.isSl (i := 0) rfl (fun hs110 _ _ => ?_)
      refine TA.take 2 rfl (by kernel_rfl) (by kernel_rfl) (by kernel_rfl) (by kernel_rfl) rfl (OpVal.indexN rfl Try.underlying22 sz3 rfl rfl hs110 (by omega)) rfl rfl ?_
      refine TA.take 3 rfl (by kernel_rfl) (by kernel_rfl) (by kernel_rfl) (by kernel_rfl) rfl (OpVal.loadO1 (0 : Int) rfl ag3 rfl (q := 0) rfl Go.E.encI_len (by omega) rfl) rfl rfl ?_
      refine TA.takeP 4 rfl (by kernel_rfl) (by kernel_rfl) (by kernel_rfl) rfl (OpVal.moveSl (.inl rfl) rfl) rfl rfl ?_
      refine TA.takeP 5 rfl (by kernel_rfl) (by kernel_rfl) (by kernel_rfl) rfl (OpVal.moveI (.inl rfl) rfl) rfl rfl ?_
      refine TA.takeP 6 rfl (by kernel_rfl) (by kernel_rfl) (by kernel_rfl) rfl (OpVal.subW rfl rfl rfl) rfl rfl ?_
      refine TA.isSl (i := 0) rfl (fun hs111 _ _ => ?_)
      refine TA.take 7 rfl (by kernel_rfl) (by kernel_rfl) (by kernel_rfl) (by kernel_rfl) rfl (OpVal.index rfl Try.underlying22 sz3 rfl rfl hs111 u19.1 u19.2) rfl rfl ?_
      refine TA.take 8 rfl (by kernel_rfl) (by kernel_rfl) (by kernel_rfl) (by kernel_rfl) rfl (OpVal.loadO1 (0 : Int) rfl ag3 rfl (q := 0) rfl Go.E.encI_len (by omega) rfl) rfl rfl ?_
      refine TA.takeP 9 rfl (by kernel_rfl) (by kernel_rfl) (by kernel_rfl) rfl (OpVal.eql rfl rfl rfl) rfl rfl ?_
      refine TA.done (by kernel_rfl) ?_
      refine S.n ?_
      refine TC.cond rfl (fun h112 => ?_) (fun h112 => ?_)
      · replace hh := iteO_t h112 hh
        replace h112 := of_decide_eq_true h112
        refine TC.seq ?_
        refine TC.region ?_
        refine TL.v rfl (OpVal.moveSl (.inl rfl) rfl) rfl rfl ?_
        refine TL.v rfl (OpVal.moveI (.inl rfl) rfl) rfl rfl ?_
        have u24 := grd_c hh
        replace hh := grd_t hh
        refine TL.isSl (i := 0) rfl (fun hs113 _ _ => ?_)
        obtain ⟨a113, c113, hv113, ho113⟩ := vw_of (k := k105) (size := 1) hs113 (by omega)
        refine TL.v rfl (ho113 rfl Try.underlying22 sz3 rfl rfl) rfl rfl ?_
        refine TL.v rfl (OpVal.moveSl (.inr rfl) rfl) rfl rfl ?_
        refine TL.nil ?_
        refine S.n ?_
        refine TC.seq ?_
        refine TC.seq ?_
        refine TC.region ?_
        refine TL.v rfl (OpVal.moveI (.inr rfl) rfl) rfl rfl ?_
        refine TL.nil ?_
        refine S.n ?_
        refine TC.block ?_
        refine TC.loopG (α := ((List Int) × Nat × Nat) × (Unit)) [3, 5, 29, 30, 31, 32, 33, 34, 35, 36, 37, 38, 39, 40, 41, 42, 43, 44, 45, 46, 47, 48, 49, 50, 51, 52, 53] (fun g => [(3, .int .i64 ((g.1.2.1 : Nat) : Int)), (5, .int .i64 ((g.1.2.2 : Nat) : Int))]) (fun g => [Res.rowS 3 1 Go.E.encI (.slice a0_1 x0.length c0_2) g.1.1]) (fun g => σ) (fun g => iter (fun q : (List Int) × Nat × Nat => compactI_b2 x0 k105 q.1 q.2.1 q.2.2) g.1 = some z1 ∧ g.1.1.length = x0.length) (fun g => rounds (fun q : (List Int) × Nat × Nat => compactI_b2 x0 k105 q.1 q.2.1 q.2.2) g.1) ((x0, k105, 1), ()) (Sub.pre 1 rfl) rfl (by repeat (first | exact trivial | refine ⟨rfl, ?_⟩)) ⟨hh, rfl⟩ (fun g2 j2 hg2 => ?_)
        obtain ⟨⟨l122, k124, k125⟩, _⟩ := g2
        obtain ⟨hh, hn123⟩ := hg2
        try dsimp only at hn123
        show TC _ _ _ (upds (mask _ j2 _) [(3, .int .i64 ((k124 : Nat) : Int)), (5, .int .i64 ((k125 : Nat) : Int))]) _ [Res.rowS 3 1 Go.E.encI (.slice a0_1 x0.length c0_2) l122]
        obtain ⟨z2, hh, hR2⟩ := iter_e hh
        dsimp only [compactI_b2] at hh
        have hn123b := hn123
        refine TC.isSl (i := 0) rfl (fun _ hb126 _ => ?_)
        refine TC.seq ?_
        refine TC.seq ?_
        refine TC.region ?_
        refine TL.v rfl (OpVal.moveI (.inl rfl) rfl) rfl rfl ?_
        refine TL.v rfl (OpVal.moveSl (.inl rfl) rfl) rfl rfl ?_
        refine TL.v rfl (OpVal.lenC rfl Try.underlying22 rfl) rfl rfl ?_
        refine TL.v rfl (OpVal.lss rfl rfl rfl) rfl rfl ?_
        refine TL.nil ?_
        refine S.n ?_
        refine TC.cond rfl (fun h127 => ?_) (fun h127 => ?_)
        · replace hh := iteO_t h127 hh
          replace h127 := of_decide_eq_true h127
          refine TC.skip ?_
          refine S.n ?_
          refine TC.cutG (α := ((List Int) × Nat) × (Unit)) [3, 35, 36, 37, 38, 39, 40, 41, 42, 43, 44, 45, 46, 47, 48, 49, 50, 51, 52, 53] (fun g => [(3, .int .i64 ((g.1.2 : Nat) : Int))]) (fun g => [Res.rowS 3 1 Go.E.encI (.slice a0_1 x0.length c0_2) g.1.1]) (fun g => σ) (fun g => compactI_j1 k125 g.1.1 g.1.2 = some z2 ∧ g.1.1.length = x0.length) ?_ (fun g j hg => ?_)
          · skip
            refine TC.block ?_
            refine TC.seq ?_
            have u33 := grd_c hh
            replace hh := grd_t hh
            have u38 := grd_c hh
            replace hh := grd_t hh
            refine TC.draw [] (by kernel_rfl) ?_
            refine TA.takeP 0 rfl (by kernel_rfl) (by kernel_rfl) (by kernel_rfl) rfl (OpVal.moveSl (.inl rfl) rfl) rfl rfl ?_
            refine TA.takeP 1 rfl (by kernel_rfl) (by kernel_rfl) (by kernel_rfl) rfl (OpVal.moveI (.inl rfl) rfl) rfl rfl ?_
            refine TA.take 2 rfl (by kernel_rfl) (by kernel_rfl) (by kernel_rfl) (by kernel_rfl) rfl (OpVal.elVw hv113 (by omega) (OpVal.indexN rfl Try.underlying22 sz3 rfl rfl hv113.sl (by omega))) rfl rfl ?_
            refine TA.take 3 rfl (by kernel_rfl) (by kernel_rfl) (by kernel_rfl) (by kernel_rfl) rfl (OpVal.loadO1 (0 : Int) rfl ag3 rfl (q := 0) rfl Go.E.encI_len (by omega) rfl) rfl rfl ?_
            refine TA.takeP 4 rfl (by kernel_rfl) (by kernel_rfl) (by kernel_rfl) rfl (OpVal.moveSl (.inl rfl) rfl) rfl rfl ?_
            refine TA.takeP 5 rfl (by kernel_rfl) (by kernel_rfl) (by kernel_rfl) rfl (OpVal.moveI (.inl rfl) rfl) rfl rfl ?_
            refine TA.takeP 6 rfl (by kernel_rfl) (by kernel_rfl) (by kernel_rfl) rfl (OpVal.subW rfl rfl rfl) rfl rfl ?_
            refine TA.take 7 rfl (by kernel_rfl) (by kernel_rfl) (by kernel_rfl) (by kernel_rfl) rfl (OpVal.elVw hv113 (by omega) (OpVal.index rfl Try.underlying22 sz3 rfl rfl hv113.sl u38.1 u38.2)) rfl rfl ?_
            refine TA.take 8 rfl (by kernel_rfl) (by kernel_rfl) (by kernel_rfl) (by kernel_rfl) rfl (OpVal.loadO1 (0 : Int) rfl ag3 rfl (q := 0) rfl Go.E.encI_len (by omega) rfl) rfl rfl ?_
            refine TA.takeP 9 rfl (by kernel_rfl) (by kernel_rfl) (by kernel_rfl) rfl (OpVal.neq rfl rfl rfl) rfl rfl ?_
            refine TA.done (by kernel_rfl) ?_
            refine S.n ?_
            refine TC.cond rfl (fun h131 => ?_) (fun h131 => ?_)
            · replace hh := iteO_t h131 hh
              replace h131 := of_decide_eq_true h131
              refine TC.seq ?_
              refine TC.region ?_
              refine TL.v rfl (OpVal.moveSl (.inl rfl) rfl) rfl rfl ?_
              refine TL.v rfl (OpVal.moveI (.inl rfl) rfl) rfl rfl ?_
              refine TL.v rfl (OpVal.moveSl (.inl rfl) rfl) rfl rfl ?_
              refine TL.v rfl (OpVal.moveI (.inl rfl) rfl) rfl rfl ?_
              have u45 := grd_c hh
              replace hh := grd_t hh
              refine TL.v rfl (OpVal.elVw hv113 (by omega) (OpVal.indexN rfl Try.underlying22 sz3 rfl rfl hv113.sl (by omega))) rfl rfl ?_
              refine TL.v rfl (OpVal.loadO1 (0 : Int) rfl ag3 rfl (q := 0) rfl Go.E.encI_len (by omega) rfl) rfl rfl ?_
              have u47 := grd_c hh
              replace hh := grd_t hh
              refine TL.isSl (i := 0) rfl (fun hs132 _ _ => ?_)
              refine TL.v rfl (OpVal.indexN rfl Try.underlying22 sz3 rfl rfl hs132 (by omega)) rfl rfl ?_
              have hn133 : (l122.set k124 (nth l122 (k105 + k125) (0 : Int))).length = x0.length := by rw [List.length_set]; exact hn123
              refine TL.op rfl (OpOk.storeS (nth l122 (k105 + k125) (0 : Int)) rfl sz3 rfl rfl rfl rfl Go.E.encI_len Go.E.encI_one (by omega) (by omega) ?_)
              refine TL.nil ?_
              refine S.n ?_
              refine TC.region ?_
              refine TL.v rfl (OpVal.moveI (.inl rfl) rfl) rfl rfl ?_
              refine TL.v rfl (OpVal.succ rfl rfl rfl (by omega)) rfl rfl ?_
              refine TL.v rfl (OpVal.moveI (.inr rfl) rfl) rfl rfl ?_
              refine TL.nil ?_
              refine B.n ?_
              refine S.n ?_
              refine ⟨by repeat (first | exact Agr.refl _ _ | exact Agr.mask | refine Agr.upd rfl ?_ | refine Agr.maskIn rfl ?_ | refine Agr.upds rfl ?_), (((l122.set k124 (nth l122 (k105 + k125) (0 : Int))), (k124 + 1)), ()), ⟨hh, hn133⟩, by repeat (first | exact trivial | refine ⟨rfl, ?_⟩), Sub.pre 1 rfl, rfl⟩
            · replace hh := iteO_f h131 hh
              replace h131 := of_decide_eq_false h131
              refine TC.skip ?_
              refine B.n ?_
              refine S.n ?_
              refine ⟨by repeat (first | exact Agr.refl _ _ | exact Agr.mask | refine Agr.upd rfl ?_ | refine Agr.maskIn rfl ?_ | refine Agr.upds rfl ?_), ((l122, k124), ()), ⟨hh, hn123⟩, by repeat (first | exact trivial | refine ⟨rfl, ?_⟩), Sub.pre 1 rfl, rfl⟩
          · skip
            obtain ⟨⟨l128, k130⟩, _⟩ := g
            obtain ⟨hh, hn129⟩ := hg
            try dsimp only at hn129
            show TC _ _ _ (upds (mask _ j _) [(3, .int .i64 ((k130 : Nat) : Int))]) _ [Res.rowS 3 1 Go.E.encI (.slice a0_1 x0.length c0_2) l128]
            dsimp only [compactI_j1] at hh
            have hn129b := hn129
            refine TC.isSl (i := 0) rfl (fun _ hb134 _ => ?_)
            refine TC.region ?_
            refine TL.v rfl (OpVal.moveI (.inl rfl) rfl) rfl rfl ?_
            refine TL.v rfl (OpVal.succ rfl rfl rfl (by omega)) rfl rfl ?_
            refine TL.v rfl (OpVal.moveI (.inr rfl) rfl) rfl rfl ?_
            refine TL.nil ?_
            refine S.n ?_
            obtain ⟨hh, hlt135⟩ := nxt_x hR2 hh
            refine ⟨by repeat (first | exact Agr.refl _ _ | exact Agr.mask | refine Agr.upd rfl ?_ | refine Agr.maskIn rfl ?_ | refine Agr.upds rfl ?_), ((l128, k130, (k125 + 1)), ()), hlt135, ⟨hh, hn129⟩, by repeat (first | exact trivial | refine ⟨rfl, ?_⟩), Sub.pre 1 rfl, rfl⟩
        · replace hh := iteO_f h127 hh
          replace h127 := of_decide_eq_false h127
          refine TC.exit ?_
          refine S.x ?_
          refine S.x ?_
          replace hh := fin_x hR2 hh
          refine TC.exitHere ?_
          refine S.n ?_
          refine TC.seq ?_
          refine TC.region ?_
          refine TL.v rfl (OpVal.moveSl (.inl rfl) rfl) rfl rfl ?_
          refine TL.v rfl (OpVal.moveI (.inl rfl) rfl) rfl rfl ?_
          have u57 := grd_c hh
          replace hh := grd_t hh
          refine TL.isSl (i := 0) rfl (fun hs136 _ _ => ?_)
          rw [hn123] at hs136
          obtain ⟨a136, c136, hv136, ho136⟩ := vw_of (k := k124) (size := 1) hs136 (by omega)
          refine TL.v rfl (ho136 rfl Try.underlying22 sz3 rfl rfl) rfl rfl ?_
          have hn137 : (l122.take k124 ++ List.replicate (l122.length - k124) (0 : Int)).length = x0.length := by simp only [List.length_append, List.length_take, List.length_replicate]; omega
          refine TL.op rfl (OpOk.clearV (k := k124) (0 : Int) rfl Try.underlying22 ze3 rfl rfl hv136 (by omega) (by omega) Go.E.encI_len (by decide) rfl Go.E.encI_one ?_)
          refine TL.nil ?_
          refine S.n ?_
          refine TC.seq ?_
          refine TC.region ?_
          refine TL.v rfl (OpVal.moveSl (.inl rfl) rfl) rfl rfl ?_
          refine TL.v rfl (OpVal.moveI (.inl rfl) rfl) rfl rfl ?_
          rw [← hn137]
          have u61 := grd_c hh
          replace hh := grd_t hh
          refine TL.op rfl (OpOk.cutS rfl Try.underlying22 sz3 rfl rfl rfl rfl rfl (by omega) Go.E.encI_len ?_)
          refine TL.v rfl (OpVal.moveSl (.inr rfl) rfl) rfl rfl ?_
          refine TL.nil ?_
          refine S.n ?_
          refine TC.ret ?_
          refine B.r ?_
          refine S.r ?_
          refine S.r ?_
          replace hh := fin_x hR1 hh
          refine B.r ?_
          refine S.r ?_
          obtain rfl := Option.some.inj hh
          exact RetOk.mk' (rs := [.tmp 2]) [Res.rowS 3 1 Go.E.encI (.slice a0_1 ((l122.take k124 ++ List.replicate (l122.length - k124) (0 : Int)).take k124).length c0_2) ((l122.take k124 ++ List.replicate (l122.length - k124) (0 : Int)).take k124)] rfl (.inl rfl) (RVs.tmp rfl RVs.nil) (List.sublist_append_left _ _) ⟨a0_1, c0_2, rfl, rfl, rfl⟩
      · replace hh := iteO_f h112 hh
        replace h112 := of_decide_eq_false h112
        refine TC.skip ?_
        refine B.n ?_
        refine S.n ?_
        refine TC.region ?_
        refine TL.v rfl (OpVal.moveI (.inl rfl) rfl) rfl rfl ?_
        refine TL.v rfl (OpVal.succ rfl rfl rfl (by omega)) rfl rfl ?_
        refine TL.v rfl (OpVal.moveI (.inr rfl) rfl) rfl rfl ?_
        refine TL.nil ?_
        refine S.n ?_
        obtain ⟨hh, hlt138⟩ := nxt_x hR1 hh
        refine ⟨by repeat (first | exact Agr.refl _ _ | exact Agr.mask | refine Agr.upd rfl ?_ | refine Agr.maskIn rfl ?_ | refine Agr.upds rfl ?_), ((k105 + 1), ()), hlt138, hh, by repeat (first | exact trivial | refine ⟨rfl, ?_⟩), Sub.pre 1 rfl, rfl⟩
    · replace hh := iteO_f h107 hh
      replace h107 := of_decide_eq_false h107
      refine TC.exit ?_
      refine S.x ?_
      refine S.x ?_
      replace hh := fin_x hR1 hh
      refine TC.exitHere ?_
      refine S.n ?_
      refine TC.seq ?_
      refine TC.region ?_
      refine TL.v rfl (OpVal.moveSl (.inl rfl) rfl) rfl rfl ?_
      refine TL.v rfl (OpVal.moveSl (.inr rfl) rfl) rfl rfl ?_
      refine TL.nil ?_
      refine S.n ?_
      refine TC.ret ?_
      obtain rfl := Option.some.inj hh
      exact RetOk.mk' (rs := [.tmp 2]) [Res.rowS 3 1 Go.E.encI (.slice a0_1 x0.length c0_2) x0] rfl (.inl rfl) (RVs.tmp rfl RVs.nil) (List.sublist_append_left _ _) ⟨a0_1, c0_2, rfl, rfl, rfl⟩

noncomputable def intern_Sort (x0 : List Int) : Option ((List Int)) :=
  grd (x0.length * 8 ≤ 140737488355328) (bnd (compactI (List.mergeSort x0 fun x y => decide (x ≤ y))) (fun v8 => some v8))
def intern_Sort_P (σ : Store) (r : (List Int)) : Value → Store → List Res → Prop := fun v σ' H' =>
  ∃ (a1 : Option Addr), ∃ (c1 : Nat),  v = .slice a1 r.length c1 ∧ σ = σ' ∧ H' = [Res.rowS 3 1 Go.E.encI (.slice a1 r.length c1) r]
theorem intern_Sort_con {σ : Store} {x0 : List Int} {a0_0 : Option Addr} {c0_0 : Nat} (f0_0 : RS σ 1 Go.E.encI (.slice a0_0 x0.length c0_0) x0) {r : (List Int)} (hh : intern_Sort x0 = some r) :
    Con Try.prog 48 #[.slice a0_0 x0.length c0_0] σ [] (intern_Sort_P σ r) := by
  dsimp only [intern_Sort] at hh
  have f0_0b := f0_0.rv.big
  refine Con.mk (n := 10) Try.func48 rfl rfl rfl (fun w0 => ?_)
  refine TC.seq ?_
  refine TC.region ?_
  refine TL.v rfl (OpVal.moveSl (.inr rfl) rfl) rfl rfl ?_
  refine TL.nil ?_
  refine S.n ?_
  refine TC.seq ?_
  refine TC.region ?_
  refine TL.v rfl (OpVal.moveSl (.inl rfl) rfl) rfl rfl ?_
  have u3 := grd_c hh
  replace hh := grd_t hh
  refine TL.op rfl (OpOk.call (cloneI_con f0_0 u3) rfl rfl pf64 rfl rfl rfl rfl ?_)
  rintro _ _ _ _ ⟨⟨a101, c102, rfl⟩, rfl, rfl⟩
  refine TL.v rfl (OpVal.moveSl (.inr rfl) rfl) rfl rfl ?_
  refine TL.nil ?_
  refine S.n ?_
  refine TC.seq ?_
  refine TC.region ?_
  refine TL.v rfl (OpVal.moveSl (.inl rfl) rfl) rfl rfl ?_
  have hn104 : (List.mergeSort x0 fun x y => decide (x ≤ y)).length = x0.length := List.length_mergeSort _
  refine TL.op rfl (OpOk.call (sortInt_con (l := x0)) rfl rfl pf79 rfl rfl rfl rfl ?_)
  rintro _ _ _ _ ⟨rfl, rfl, rfl⟩
  refine TL.nil ?_
  refine S.n ?_
  refine TC.seq ?_
  refine TC.region ?_
  refine TL.v rfl (OpVal.moveSl (.inl rfl) rfl) rfl rfl ?_
  rw [← hn104]
  obtain ⟨v8, u8, hh⟩ := bnd_e hh
  refine TL.op rfl (OpOk.call (compactI_con u8) rfl rfl pf80 rfl rfl rfl rfl ?_)
  rintro _ _ _ hle105 ⟨a105_1, c105_2, rfl, rfl, rfl⟩
  refine TL.v rfl (OpVal.moveSl (.inr rfl) rfl) rfl rfl ?_
  refine TL.nil ?_
  refine S.n ?_
  refine TC.ret ?_
  obtain rfl := Option.some.inj hh
  exact RetOk.mk' (rs := [.tmp 2]) [Res.rowS 3 1 Go.E.encI (.slice a105_1 v8.length c105_2) v8] rfl (.inl rfl) (RVs.tmp rfl RVs.nil) (List.sublist_append_left _ _) ⟨a105_1, c105_2, rfl, rfl, rfl⟩

noncomputable def intern_key_b2 (x0 : List Int) (k115 : Nat) (l126 : List UInt8) (k129 : Nat) : Option (((List UInt8) × Nat) ⊕ (((List UInt8) × Nat) ⊕ ((List UInt8)))) :=
  iteO (decide (((k129 : Nat) : Int) < 8)) (grd (0 ≤ IntKind.i64.wrap (8 * ((k129 : Nat) : Int))) (grd ((l126.length + [(toU8 (((u64shr (u64of (nth x0 k115 (0 : Int))) ((IntKind.i64.wrap (8 * ((k129 : Nat) : Int))).toNat)) : Nat) : Int))].length) * 1 ≤ 140737488355328) (nxt ((l126 ++ [(toU8 (((u64shr (u64of (nth x0 k115 (0 : Int))) ((IntKind.i64.wrap (8 * ((k129 : Nat) : Int))).toNat)) : Nat) : Int))]), (k129 + 1))))) (fin (nxt (l126, (k115 + 1))))
noncomputable def intern_key_b1 (x0 : List Int) (l112 : List UInt8) (k115 : Nat) : Option (((List UInt8) × Nat) ⊕ ((List UInt8))) :=
  iteO (decide (((k115 : Nat) : Int) < ((x0.length : Nat) : Int))) (iter (fun q : (List UInt8) × Nat => intern_key_b2 x0 k115 q.1 q.2) (l112, 0)) (fin (some l112))
noncomputable def intern_key (x0 : List Int) : Option ((List UInt8)) :=
  grd (0 ≤ IntKind.i64.wrap (8 * ((x0.length : Nat) : Int)) ∧ 1 * (IntKind.i64.wrap (8 * ((x0.length : Nat) : Int))).toNat ≤ 281474976710656) (iter (fun q : (List UInt8) × Nat => intern_key_b1 x0 q.1 q.2) (([] : List UInt8), 0))
theorem intern_key_con {σ : Store} {x0 : List Int} {a0_0 : Option Addr} {c0_0 : Nat} (f0_0 : RS σ 1 Go.E.encI (.slice a0_0 x0.length c0_0) x0) {r : (List UInt8)} (hh : intern_key x0 = some r) :
    Con Try.prog 76 #[.slice a0_0 x0.length c0_0] σ [] (PureP (.string (bs r)) σ) := by
  dsimp only [intern_key] at hh
  have f0_0b := f0_0.rv.big
  refine Con.mk (n := 33) Try.func76 rfl rfl rfl (fun w0 => ?_)
  refine TC.seq ?_
  refine TC.region ?_
  refine TL.v rfl (OpVal.moveStr (.inr rfl) rfl) rfl rfl ?_
  refine TL.nil ?_
  refine S.n ?_
  refine TC.seq ?_
  refine TC.region ?_
  refine TL.v rfl (OpVal.moveSl (.inl rfl) rfl) rfl rfl ?_
  refine TL.v rfl (OpVal.lenC rfl Try.underlying22 rfl) rfl rfl ?_
  refine TL.v rfl (OpVal.mulW rfl rfl rfl) rfl rfl ?_
  have u5 := grd_c hh
  replace hh := grd_t hh
  refine TL.op rfl (OpOk.make0S (enc := encU8) (m := (IntKind.i64.wrap (8 * ((x0.length : Nat) : Int))).toNat) rfl Try.underlying78 sz5 by5 ze5 rfl rfl rfl (by show Value.int _ _ = _; rw [Int.toNat_of_nonneg u5.1]) (by omega) (by decide) (fun a101 c102 => ?_))
  refine TL.v rfl (OpVal.moveSl (.inr rfl) rfl) rfl rfl ?_
  refine TL.nil ?_
  refine S.n ?_
  refine TC.seq ?_
  refine TC.seq ?_
  refine TC.region ?_
  refine TL.v rfl (OpVal.moveSl (.inl rfl) rfl) rfl rfl ?_
  refine TL.v rfl (OpVal.lenC rfl Try.underlying22 rfl) rfl rfl ?_
  refine TL.v rfl (OpVal.moveI (.inl rfl) rfl) rfl rfl ?_
  refine TL.nil ?_
  refine S.n ?_
  refine TC.block ?_
  refine TC.loopG (α := ((List UInt8) × Nat) × ((Option Addr) × Nat)) [3, 5, 6, 13, 14, 15, 16, 17, 18, 19, 20, 21, 22, 23, 24, 25, 26, 27, 28, 29, 30] (fun g => [(3, .slice g.2.1 g.1.1.length g.2.2), (13, .int .i64 ((g.1.2 : Nat) : Int))]) (fun g => [Res.rowS 5 1 encU8 (.slice g.2.1 g.1.1.length g.2.2) g.1.1]) (fun g => σ) (fun g => iter (fun q : (List UInt8) × Nat => intern_key_b1 x0 q.1 q.2) g.1 = some r) (fun g => rounds (fun q : (List UInt8) × Nat => intern_key_b1 x0 q.1 q.2) g.1) ((([] : List UInt8), 0), (a101, c102)) (Sub.pre 1 rfl) rfl (by repeat (first | exact trivial | refine ⟨rfl, ?_⟩)) hh (fun g1 j1 hg1 => ?_)
  obtain ⟨⟨l112, k115⟩, ⟨a113, c114⟩⟩ := g1
  have hh := hg1; clear hg1
  show TC _ _ _ (upds (mask _ j1 _) [(3, .slice a113 l112.length c114), (13, .int .i64 ((k115 : Nat) : Int))]) _ [Res.rowS 5 1 encU8 (.slice a113 l112.length c114) l112]
  obtain ⟨z1, hh, hR1⟩ := iter_e hh
  dsimp only [intern_key_b1] at hh
  refine TC.isSl (i := 0) rfl (fun _ hb116 _ => ?_)
  refine TC.seq ?_
  refine TC.region ?_
  refine TL.v rfl (OpVal.lss rfl rfl rfl) rfl rfl ?_
  refine TL.nil ?_
  refine S.n ?_
  refine TC.seq ?_
  refine TC.cond rfl (fun h117 => ?_) (fun h117 => ?_)
  · replace hh := iteO_t h117 hh
    replace h117 := of_decide_eq_true h117
    refine TC.skip ?_
    refine S.n ?_
    refine TC.seq ?_
    refine TC.block ?_
    refine TC.seq ?_
    refine TC.region ?_
    refine TL.v rfl (OpVal.indexN rfl Try.underlying22 sz3 rfl rfl f0_0.rv.sl (by omega)) rfl rfl ?_
    refine TL.v rfl (OpVal.loadS1 (0 : Int) rfl ag3 rfl f0_0 (by omega) rfl) rfl rfl ?_
    refine TL.v rfl (OpVal.moveI (.inr rfl) rfl) rfl rfl ?_
    refine TL.nil ?_
    refine S.n ?_
    refine TC.seq ?_
    refine TC.region ?_
    refine TL.v rfl (OpVal.moveI (.inl rfl) rfl) rfl rfl ?_
    refine TL.nil ?_
    refine S.n ?_
    refine TC.block ?_
    refine TC.loopG (α := ((List UInt8) × Nat) × ((Option Addr) × Nat)) [3, 6, 17, 18, 19, 20, 21, 22, 23, 24, 25, 26, 27, 28, 29] (fun g => [(3, .slice g.2.1 g.1.1.length g.2.2), (17, .int .i64 ((g.1.2 : Nat) : Int))]) (fun g => [Res.rowS 5 1 encU8 (.slice g.2.1 g.1.1.length g.2.2) g.1.1]) (fun g => σ) (fun g => iter (fun q : (List UInt8) × Nat => intern_key_b2 x0 k115 q.1 q.2) g.1 = some z1) (fun g => rounds (fun q : (List UInt8) × Nat => intern_key_b2 x0 k115 q.1 q.2) g.1) ((l112, 0), (a113, c114)) (Sub.pre 1 rfl) rfl (by repeat (first | exact trivial | refine ⟨rfl, ?_⟩)) hh (fun g2 j2 hg2 => ?_)
    obtain ⟨⟨l126, k129⟩, ⟨a127, c128⟩⟩ := g2
    have hh := hg2; clear hg2
    show TC _ _ _ (upds (mask _ j2 _) [(3, .slice a127 l126.length c128), (17, .int .i64 ((k129 : Nat) : Int))]) _ [Res.rowS 5 1 encU8 (.slice a127 l126.length c128) l126]
    obtain ⟨z2, hh, hR2⟩ := iter_e hh
    dsimp only [intern_key_b2] at hh
    refine TC.isSl (i := 0) rfl (fun _ hb130 _ => ?_)
    refine TC.seq ?_
    refine TC.region ?_
    refine TL.v rfl (OpVal.lss rfl rfl rfl) rfl rfl ?_
    refine TL.nil ?_
    refine S.n ?_
    refine TC.seq ?_
    refine TC.cond rfl (fun h131 => ?_) (fun h131 => ?_)
    · replace hh := iteO_t h131 hh
      replace h131 := of_decide_eq_true h131
      refine TC.skip ?_
      refine S.n ?_
      refine TC.seq ?_
      refine TC.block ?_
      refine TC.seq ?_
      refine TC.region ?_
      refine TL.v rfl (OpVal.moveI (.inl rfl) rfl) rfl rfl ?_
      refine TL.v rfl (OpVal.moveI (.inr rfl) rfl) rfl rfl ?_
      refine TL.nil ?_
      refine S.n ?_
      refine TC.region ?_
      refine TL.v rfl (OpVal.moveSl (.inl rfl) rfl) rfl rfl ?_
      refine TL.v rfl (OpVal.moveI (.inl rfl) rfl) rfl rfl ?_
      refine TL.v rfl (OpVal.convU rfl Try.underlying3 Try.underlying26 rfl) rfl rfl ?_
      refine TL.v rfl (OpVal.moveI (.inl rfl) rfl) rfl rfl ?_
      refine TL.v rfl (OpVal.mulW rfl rfl rfl) rfl rfl ?_
      have u23 := grd_c hh
      replace hh := grd_t hh
      refine TL.v rfl (OpVal.shrU (b := (IntKind.i64.wrap (8 * ((k129 : Nat) : Int))).toNat) rfl rfl (by show Value.int _ _ = _; rw [Int.toNat_of_nonneg u23])) rfl rfl ?_
      refine TL.v rfl (OpVal.convU8 rfl Try.underlying26 Try.underlying5 rfl) rfl rfl ?_
      refine TL.op rfl (OpOk.lit (enc := encU8) [(toU8 (((u64shr (u64of (nth x0 k115 (0 : Int))) ((IntKind.i64.wrap (8 * ((k129 : Nat) : Int))).toNat)) : Nat) : Int))] rfl Try.underlying78 sz5 ze5 rfl rfl rfl encU8_len (by decide) (by decide) (0 : UInt8) rfl (by decide) rfl (by decide) encU8_one (fun a132 c133 => ?_))
      refine TL.front 1 rfl rfl ?_
      have u26 := grd_c hh
      replace hh := grd_t hh
      refine TL.op rfl (OpOk.appendS rfl rfl Try.underlying78 sz5 by5 ze5 rfl rfl (by decide) rfl rfl rfl (.inr ⟨_, 0, rfl⟩) (by simpa using u26) (by decide) (fun a135 c136 => ?_))
      refine TL.v rfl (OpVal.moveSl (.inr rfl) rfl) rfl rfl ?_
      refine TL.nil ?_
      refine B.n ?_
      refine S.n ?_
      refine TC.region ?_
      refine TL.v rfl (OpVal.succ rfl rfl rfl (by omega)) rfl rfl ?_
      refine TL.v rfl (OpVal.moveI (.inl rfl) rfl) rfl rfl ?_
      refine TL.nil ?_
      refine S.n ?_
      obtain ⟨hh, hlt137⟩ := nxt_x hR2 hh
      refine ⟨by repeat (first | exact Agr.refl _ _ | exact Agr.mask | refine Agr.upd rfl ?_ | refine Agr.maskIn rfl ?_ | refine Agr.upds rfl ?_), (((l126 ++ [(toU8 (((u64shr (u64of (nth x0 k115 (0 : Int))) ((IntKind.i64.wrap (8 * ((k129 : Nat) : Int))).toNat)) : Nat) : Int))]), (k129 + 1)), (a135, c136)), hlt137, hh, by repeat (first | exact trivial | refine ⟨rfl, ?_⟩), Sub.pre 1 rfl, rfl⟩
    · replace hh := iteO_f h131 hh
      replace h131 := of_decide_eq_false h131
      refine TC.exit ?_
      refine S.x ?_
      refine S.x ?_
      replace hh := fin_x hR2 hh
      refine TC.exitHere ?_
      refine B.n ?_
      refine S.n ?_
      refine TC.region ?_
      refine TL.v rfl (OpVal.succ rfl rfl rfl (by omega)) rfl rfl ?_
      refine TL.v rfl (OpVal.moveI (.inl rfl) rfl) rfl rfl ?_
      refine TL.nil ?_
      refine S.n ?_
      obtain ⟨hh, hlt138⟩ := nxt_x hR1 hh
      refine ⟨by repeat (first | exact Agr.refl _ _ | exact Agr.mask | refine Agr.upd rfl ?_ | refine Agr.maskIn rfl ?_ | refine Agr.upds rfl ?_), ((l126, (k115 + 1)), (a127, c128)), hlt138, hh, by repeat (first | exact trivial | refine ⟨rfl, ?_⟩), Sub.pre 1 rfl, rfl⟩
  · replace hh := iteO_f h117 hh
    replace h117 := of_decide_eq_false h117
    refine TC.exit ?_
    refine S.x ?_
    refine S.x ?_
    replace hh := fin_x hR1 hh
    refine TC.exitHere ?_
    refine S.n ?_
    refine TC.seq ?_
    refine TC.region ?_
    refine TL.v rfl (OpVal.moveSl (.inl rfl) rfl) rfl rfl ?_
    refine TL.isSl (i := 0) rfl (fun hs139 _ _ => ?_)
    refine TL.v rfl (OpVal.bytesStr (l := l112) rfl Try.underlying78 Try.underlying5 Try.underlying9 rfl hs139 (fun w hw => rdb_row (q := 0) rfl hw)) rfl rfl ?_
    refine TL.v rfl (OpVal.moveStr (.inr rfl) rfl) rfl rfl ?_
    refine TL.nil ?_
    refine S.n ?_
    refine TC.ofSub (Sub.pre 0 rfl) ?_
    refine TC.ret ?_
    obtain rfl := Option.some.inj hh
    exact RetOk.mk' (rs := [.tmp 2]) [] rfl (.inl rfl) (RVs.tmp rfl RVs.nil) (List.sublist_append_left _ _) ⟨rfl, rfl, rfl⟩

noncomputable def intern_store_string_find (x0 : IStore) (x1 : List UInt8) : Option (Int × Bool) :=
  grd (x1.length ≤ 281474976710656) (some ((x0.places.get x1 0), (x0.places.has x1)))
theorem intern_store_string_find_con {σ : Store} {x0 : IStore} {b0_0 : Nat} {Eb0 : Nat} {a0_1 : Option Addr} {c0_2 : Nat} {z0_3 : List (List Int × (pkSl 1 Go.E.encI Go.E.encI_len).P)} {b0_5 : Nat} {x1 : List UInt8} (zf0_4 : ZOk σ (pkSl 1 Go.E.encI Go.E.encI_len) z0_3 x0.rows) {r : Int × Bool} (hh : intern_store_string_find x0 x1 = some r) :
    Con Try.prog 77 #[loc b0_0 0, .string (bs x1)] σ [Res.cells b0_0 #[.slice a0_1 x0.rows.length c0_2, .map (some b0_5)] Eb0, Res.rowS 22 1 (pkSl 1 Go.E.encI Go.E.encI_len).en (.slice a0_1 x0.rows.length c0_2) z0_3, Res.mapB keyS keyI (some b0_5) x0.places] (fun v σ' H' => v = .tuple #[.int .i64 r.1, .bool r.2] ∧ σ = σ' ∧ H' = [Res.cells b0_0 #[.slice a0_1 x0.rows.length c0_2, .map (some b0_5)] Eb0, Res.rowS 22 1 (pkSl 1 Go.E.encI Go.E.encI_len).en (.slice a0_1 x0.rows.length c0_2) z0_3, Res.mapB keyS keyI (some b0_5) x0.places]) := by
  dsimp only [intern_store_string_find] at hh
  have zf0_4b := zf0_4.length
  refine Con.mk (n := 19) Try.func77 rfl rfl rfl (fun w0 => ?_)
  have x1b := grd_c hh
  replace hh := grd_t hh
  refine TC.seq ?_
  refine TC.region ?_
  refine TL.v rfl (OpVal.moveI (.inr rfl) rfl) rfl rfl ?_
  refine TL.v rfl (OpVal.moveB (.inr rfl) rfl) rfl rfl ?_
  refine TL.nil ?_
  refine S.n ?_
  refine TC.seq ?_
  refine TC.region ?_
  refine TL.v rfl (OpVal.moveLoc (.inl rfl) rfl) rfl rfl ?_
  refine TL.v rfl (OpVal.nilCheckLoc rfl rfl) rfl rfl ?_
  refine TL.v rfl (OpVal.fieldLoc rfl fo99_1 rfl) rfl rfl ?_
  refine TL.v rfl (OpVal.loadLoc rfl ag97 rfl (i := 0) rfl rfl) rfl rfl ?_
  refine TL.v rfl (OpVal.moveStr (.inl rfl) rfl) rfl rfl ?_
  refine TL.v rfl (OpVal.of (OpVal.lookB 0 (q := x1) rfl Try.underlying97 ze3 rfl (i := 2) rfl rfl (keyL_str Try.underlying9)) (v' := .tuple #[.int .i64 (x0.places.get x1 0), .bool (x0.places.has x1)]) rfl) rfl rfl ?_
  refine TL.v rfl (OpVal.moveT (.inl rfl) rfl) rfl rfl ?_
  refine TL.v rfl (OpVal.extract rfl rfl rfl) rfl rfl ?_
  refine TL.v rfl (OpVal.extract rfl rfl rfl) rfl rfl ?_
  refine TL.v rfl (OpVal.moveI (.inr rfl) rfl) rfl rfl ?_
  refine TL.v rfl (OpVal.moveB (.inr rfl) rfl) rfl rfl ?_
  refine TL.nil ?_
  refine S.n ?_
  refine TC.seq ?_
  refine TC.region ?_
  refine TL.v rfl (OpVal.moveI (.inl rfl) rfl) rfl rfl ?_
  refine TL.v rfl (OpVal.moveB (.inl rfl) rfl) rfl rfl ?_
  refine TL.v rfl (OpVal.moveI (.inr rfl) rfl) rfl rfl ?_
  refine TL.v rfl (OpVal.moveB (.inr rfl) rfl) rfl rfl ?_
  refine TL.nil ?_
  refine S.n ?_
  refine TC.ret ?_
  obtain rfl := Option.some.inj hh
  exact RetOk.mk' (rs := [.tmp 4, .tmp 5]) [Res.cells b0_0 #[.slice a0_1 x0.rows.length c0_2, .map (some b0_5)] Eb0, Res.rowS 22 1 (pkSl 1 Go.E.encI Go.E.encI_len).en (.slice a0_1 x0.rows.length c0_2) z0_3, Res.mapB keyS keyI (some b0_5) x0.places] rfl (.inl rfl) (RVs.tmp rfl (RVs.tmp rfl RVs.nil)) (List.sublist_append_left _ _) ⟨rfl, rfl, rfl⟩

noncomputable def intern_store_string_add (x0 : IStore) (x1 : List UInt8) (x2 : List Int) : Option (Int × IStore) :=
  grd (x1.length ≤ 281474976710656) (grd ((x0.rows.length + [x2].length) * 24 ≤ 140737488355328) (some (((x0.rows.length : Nat) : Int), (⟨(x0.rows ++ [x2]), (x0.places.put x1 ((x0.rows.length : Nat) : Int))⟩ : IStore))))
theorem intern_store_string_add_con {σ : Store} {x0 : IStore} {b0_0 : Nat} {Eb0 : Nat} {a0_1 : Option Addr} {c0_2 : Nat} {z0_3 : List (List Int × (pkSl 1 Go.E.encI Go.E.encI_len).P)} {b0_5 : Nat} {x1 : List UInt8} {x2 : List Int} {a2_0 : Option Addr} {c2_0 : Nat} (zf0_4 : ZOk σ (pkSl 1 Go.E.encI Go.E.encI_len) z0_3 x0.rows) (f2_0 : RS σ 1 Go.E.encI (.slice a2_0 x2.length c2_0) x2) {r : Int × IStore} (hh : intern_store_string_add x0 x1 x2 = some r) :
    Con Try.prog 78 #[loc b0_0 0, .string (bs x1), .slice a2_0 x2.length c2_0] σ [Res.cells b0_0 #[.slice a0_1 x0.rows.length c0_2, .map (some b0_5)] Eb0, Res.rowS 22 1 (pkSl 1 Go.E.encI Go.E.encI_len).en (.slice a0_1 x0.rows.length c0_2) z0_3, Res.mapB keyS keyI (some b0_5) x0.places] (fun v σ' H' => ∃ (ao1 : Option Addr), ∃ (co2 : Nat), ∃ (zo3 : List (List Int × (pkSl 1 Go.E.encI Go.E.encI_len).P)), ∃ (bo5 : Nat), v = .int .i64 r.1 ∧ ZOk σ' (pkSl 1 Go.E.encI Go.E.encI_len) zo3 r.2.rows ∧ H' = [Res.cells b0_0 #[.slice ao1 r.2.rows.length co2, .map (some bo5)] Eb0, Res.rowS 22 1 (pkSl 1 Go.E.encI Go.E.encI_len).en (.slice ao1 r.2.rows.length co2) zo3, Res.mapB keyS keyI (some bo5) r.2.places]) := by
  dsimp only [intern_store_string_add] at hh
  have zf0_4b := zf0_4.length
  have f2_0b := f2_0.rv.big
  refine Con.mk (n := 30) Try.func78 rfl rfl rfl (fun w0 => ?_)
  have x1b := grd_c hh
  replace hh := grd_t hh
  refine TC.seq ?_
  refine TC.region ?_
  refine TL.v rfl (OpVal.moveI (.inr rfl) rfl) rfl rfl ?_
  refine TL.nil ?_
  refine S.n ?_
  refine TC.seq ?_
  refine TC.region ?_
  refine TL.v rfl (OpVal.moveLoc (.inl rfl) rfl) rfl rfl ?_
  refine TL.v rfl (OpVal.nilCheckLoc rfl rfl) rfl rfl ?_
  refine TL.v rfl (OpVal.fieldLoc rfl fo99_0 rfl) rfl rfl ?_
  refine TL.v rfl (OpVal.loadLoc rfl ag56 rfl (i := 0) rfl rfl) rfl rfl ?_
  refine TL.v rfl (OpVal.lenC rfl Try.underlying56 rfl) rfl rfl ?_
  refine TL.v rfl (OpVal.moveI (.inr rfl) rfl) rfl rfl ?_
  refine TL.nil ?_
  refine S.n ?_
  refine TC.seq ?_
  refine TC.region ?_
  refine TL.v rfl (OpVal.moveLoc (.inl rfl) rfl) rfl rfl ?_
  refine TL.v rfl (OpVal.moveLoc (.inl rfl) rfl) rfl rfl ?_
  refine TL.v rfl (OpVal.nilCheckLoc rfl rfl) rfl rfl ?_
  refine TL.v rfl (OpVal.fieldLoc rfl fo99_0 rfl) rfl rfl ?_
  refine TL.v rfl (OpVal.loadLoc rfl ag56 rfl (i := 0) rfl rfl) rfl rfl ?_
  refine TL.v rfl (OpVal.moveSl (.inl rfl) rfl) rfl rfl ?_
  have zf108 : ZOk _ (pkSl 1 Go.E.encI Go.E.encI_len) ([(x2, (a2_0, c2_0))] : List (List Int × (pkSl 1 Go.E.encI Go.E.encI_len).P)) [x2] := ZOk.cons (f2_0) (ZOk.nil _ _)
  refine TL.op rfl (OpOk.litZ zf108 rfl Try.underlying56 sz22 rfl ze22 rfl rfl rfl (by decide) (by decide) rfl (by decide) rfl (by decide) (fun a106 c107 => ?_))
  refine TL.front 2 rfl rfl ?_
  have u15 := grd_c hh
  replace hh := grd_t hh
  refine TL.op rfl (OpOk.appendZ (k := (pkSl 1 Go.E.encI Go.E.encI_len)) zf0_4 zf108 rfl rfl Try.underlying56 sz22 by22 ze22 rfl rfl (by decide) rfl rfl rfl (.inr ⟨_, 0, rfl⟩) (by simpa using u15) (by decide) (fun a110 c111 zf112 => ?_))
  refine TL.v rfl (OpVal.nilCheckLoc rfl rfl) rfl rfl ?_
  refine TL.v rfl (OpVal.fieldLoc rfl fo99_0 rfl) rfl rfl ?_
  refine TL.front 2 rfl rfl ?_
  refine TL.op rfl (OpOk.storeSl rfl sz56 rfl rfl rfl rfl rfl ?_)
  refine TL.nil ?_
  refine S.n ?_
  refine TC.seq ?_
  refine TC.region ?_
  refine TL.v rfl (OpVal.moveLoc (.inl rfl) rfl) rfl rfl ?_
  refine TL.v rfl (OpVal.nilCheckLoc rfl rfl) rfl rfl ?_
  refine TL.v rfl (OpVal.fieldLoc rfl fo99_1 rfl) rfl rfl ?_
  refine TL.v rfl (OpVal.loadLoc rfl ag97 rfl (i := 0) rfl rfl) rfl rfl ?_
  refine TL.v rfl (OpVal.moveStr (.inl rfl) rfl) rfl rfl ?_
  refine TL.v rfl (OpVal.moveI (.inl rfl) rfl) rfl rfl ?_
  refine TL.front 3 rfl rfl ?_
  refine TL.op rfl (OpOk.updB x1 ((x0.rows.length : Nat) : Int) rfl Try.underlying97 rfl rfl rfl rfl (keyL_str Try.underlying9) ?_)
  refine TL.nil ?_
  refine S.n ?_
  refine TC.seq ?_
  refine TC.region ?_
  refine TL.v rfl (OpVal.moveI (.inl rfl) rfl) rfl rfl ?_
  refine TL.v rfl (OpVal.moveI (.inr rfl) rfl) rfl rfl ?_
  refine TL.nil ?_
  refine S.n ?_
  refine TC.ofSub (Sub.front 2 rfl rfl (Sub.front 2 rfl rfl (Sub.pre 3 rfl))) ?_
  refine TC.ret ?_
  obtain rfl := Option.some.inj hh
  exact RetOk.mk' (rs := [.tmp 6]) [Res.cells b0_0 #[.slice a110 ((x0.rows ++ [x2]).length) c111, .map (some b0_5)] Eb0, Res.rowS 22 1 (pkSl 1 Go.E.encI Go.E.encI_len).en (.slice a110 (x0.rows ++ [x2]).length c111) (z0_3 ++ ([(x2, (a2_0, c2_0))] : List (List Int × (pkSl 1 Go.E.encI Go.E.encI_len).P))), Res.mapB keyS keyI (some b0_5) (x0.places.put x1 ((x0.rows.length : Nat) : Int))] rfl (.inl rfl) (RVs.tmp rfl RVs.nil) (List.sublist_append_left _ _) ⟨a110, c111, (z0_3 ++ ([(x2, (a2_0, c2_0))] : List (List Int × (pkSl 1 Go.E.encI Go.E.encI_len).P))), b0_5, rfl, zf112, rfl⟩

noncomputable def intern_New : Option (ITable) :=
  some (⟨(⟨([] : List (List Int)), (FM.emp : FM (List UInt8) Int)⟩ : IStore)⟩ : ITable)
theorem intern_New_con {σ : Store}   {r : ITable} (hh : intern_New = some r) :
    Con Try.prog 36 #[] σ [] (fun v σ' H' => ∃ (br6 : Nat), ∃ (ar1 : Option Addr), ∃ (cr2 : Nat), ∃ (zr3 : List (List Int × (pkSl 1 Go.E.encI Go.E.encI_len).P)), ∃ (br5 : Nat), v = loc br6 0 ∧ ZOk σ' (pkSl 1 Go.E.encI Go.E.encI_len) zr3 r.of.rows ∧ H' = [Res.cells br6 #[.slice ar1 r.of.rows.length cr2, .map (some br5)] 101, Res.rowS 22 1 (pkSl 1 Go.E.encI Go.E.encI_len).en (.slice ar1 r.of.rows.length cr2) zr3, Res.mapB keyS keyI (some br5) r.of.places]) := by
  dsimp only [intern_New] at hh
  refine Con.mk (n := 5) Try.func36 rfl rfl rfl (fun w0 => ?_)
  refine TC.seq ?_
  refine TC.region ?_
  refine TL.v rfl (OpVal.movePtr (.inr rfl) rfl) rfl rfl ?_
  refine TL.nil ?_
  refine S.n ?_
  refine TC.seq ?_
  refine TC.region ?_
  refine TL.op rfl (OpOk.makeMapB (enc := keyS) (encV := keyI) rfl rfl rfl (fun b104 => ?_))
  refine TL.v rfl (OpVal.buildL rfl pl99 ze99 rfl) rfl rfl ?_
  refine TL.v rfl (OpVal.buildL rfl pl101 ze101 rfl) rfl rfl ?_
  refine TL.op rfl (OpOk.boxA rfl rfl rfl rfl (fun b106 => ?_))
  refine TL.v rfl (OpVal.moveLoc (.inr rfl) rfl) rfl rfl ?_
  refine TL.nil ?_
  refine S.n ?_
  refine TC.nilS 22 1 (pkSl 1 Go.E.encI Go.E.encI_len).en ?_
  have zf108 := ZOk.nil σ (pkSl 1 Go.E.encI Go.E.encI_len)
  refine TC.ofSub (Sub.front 2 rfl rfl (Sub.front 1 rfl rfl (Sub.front 2 rfl rfl (Sub.pre 3 rfl)))) ?_
  refine TC.ret ?_
  obtain rfl := Option.some.inj hh
  exact RetOk.mk' (rs := [.tmp 0]) [Res.cells b106 #[.slice none (([] : List (List Int)).length) 0, .map (some b104)] 101, Res.rowS 22 1 (pkSl 1 Go.E.encI Go.E.encI_len).en (.slice none ([] : List (List Int)).length 0) [], Res.mapB keyS keyI (some b104) (FM.emp : FM (List UInt8) Int)] rfl (.inl rfl) (RVs.tmp rfl RVs.nil) (List.sublist_append_left _ _) ⟨b106, none, 0, [], b104, rfl, zf108, rfl⟩

noncomputable def intern_Table_Put (x0 : ITable) (x1 : List Int) : Option (Int × Bool × Int × ITable) :=
  bnd (intern_Sort x1) (fun v10 => bnd (intern_key v10) (fun v13 => bnd (intern_store_string_find (⟨x0.of.rows, x0.of.places⟩ : IStore) v13) (fun v19 => iteO v19.2 (some (v19.1, false, 0, (⟨(⟨x0.of.rows, x0.of.places⟩ : IStore)⟩ : ITable))) (iteO (decide (4096 ≤ ((x0.of.rows.length : Nat) : Int))) (some (0, false, 2, (⟨(⟨x0.of.rows, x0.of.places⟩ : IStore)⟩ : ITable))) (bnd (intern_store_string_add (⟨x0.of.rows, x0.of.places⟩ : IStore) v13 v10) (fun v45 => some (v45.1, true, 0, (⟨(⟨v45.2.rows, v45.2.places⟩ : IStore)⟩ : ITable))))))))
theorem intern_Table_Put_con {σ : Store} {x0 : ITable} {b0_0 : Nat} {Eb0 : Nat} {a0_1 : Option Addr} {c0_2 : Nat} {z0_3 : List (List Int × (pkSl 1 Go.E.encI Go.E.encI_len).P)} {b0_5 : Nat} {x1 : List Int} {a1_0 : Option Addr} {c1_0 : Nat} (zf0_4 : ZOk σ (pkSl 1 Go.E.encI Go.E.encI_len) z0_3 x0.of.rows) (f1_0 : RS σ 1 Go.E.encI (.slice a1_0 x1.length c1_0) x1) {r : Int × Bool × Int × ITable} (hh : intern_Table_Put x0 x1 = some r) :
    Con Try.prog 37 #[loc b0_0 0, .slice a1_0 x1.length c1_0] σ [Res.cells b0_0 #[.slice a0_1 x0.of.rows.length c0_2, .map (some b0_5)] Eb0, Res.rowS 22 1 (pkSl 1 Go.E.encI Go.E.encI_len).en (.slice a0_1 x0.of.rows.length c0_2) z0_3, Res.mapB keyS keyI (some b0_5) x0.of.places] (fun v σ' H' => ∃ (ao1 : Option Addr), ∃ (co2 : Nat), ∃ (zo3 : List (List Int × (pkSl 1 Go.E.encI Go.E.encI_len).P)), ∃ (bo5 : Nat), v = .tuple #[.int .i64 r.1, .bool r.2.1, .int .i64 r.2.2.1] ∧ ZOk σ' (pkSl 1 Go.E.encI Go.E.encI_len) zo3 r.2.2.2.of.rows ∧ H' = [Res.cells b0_0 #[.slice ao1 r.2.2.2.of.rows.length co2, .map (some bo5)] Eb0, Res.rowS 22 1 (pkSl 1 Go.E.encI Go.E.encI_len).en (.slice ao1 r.2.2.2.of.rows.length co2) zo3, Res.mapB keyS keyI (some bo5) r.2.2.2.of.places]) := by
  dsimp only [intern_Table_Put] at hh
  have zf0_4b := zf0_4.length
  have f1_0b := f1_0.rv.big
  refine Con.mk (n := 40) Try.func37 rfl rfl rfl (fun w0 => ?_)
  refine TC.seq ?_
  refine TC.region ?_
  refine TL.v rfl (OpVal.moveI (.inr rfl) rfl) rfl rfl ?_
  refine TL.v rfl (OpVal.moveB (.inr rfl) rfl) rfl rfl ?_
  refine TL.v rfl (OpVal.moveI (.inr rfl) rfl) rfl rfl ?_
  refine TL.nil ?_
  refine S.n ?_
  refine TC.seq ?_
  refine TC.seq ?_
  refine TC.region ?_
  refine TL.v rfl (OpVal.moveLoc (.inl rfl) rfl) rfl rfl ?_
  refine TL.v rfl (OpVal.eqlNil rfl Try.underlying50 rfl rfl) rfl rfl ?_
  refine TL.nil ?_
  refine S.n ?_
  refine TC.cond rfl (fun h => Bool.noConfusion h) (fun _ => ?_)
  refine TC.skip ?_
  refine S.n ?_
  refine TC.seq ?_
  refine TC.region ?_
  refine TL.v rfl (OpVal.moveSl (.inl rfl) rfl) rfl rfl ?_
  obtain ⟨v10, u10, hh⟩ := bnd_e hh
  refine TL.op rfl (OpOk.call (intern_Sort_con f1_0 u10) rfl rfl pf48 rfl rfl rfl rfl ?_)
  rintro _ _ _ hle106 ⟨a106_1, c106_1, rfl, rfl, rfl⟩
  refine TL.v rfl (OpVal.moveSl (.inr rfl) rfl) rfl rfl ?_
  refine TL.nil ?_
  refine S.n ?_
  refine TC.seq ?_
  refine TC.region ?_
  refine TL.v rfl (OpVal.moveSl (.inl rfl) rfl) rfl rfl ?_
  obtain ⟨v13, u13, hh⟩ := bnd_e hh
  refine TL.op rfl (OpOk.callK (Con.lend Go.E.encI_len (fun _ hle109 hr108 => intern_key_con hr108 u13)) rfl rfl pf76 rfl rfl rfl rfl ?_)
  refine TL.v rfl (OpVal.moveStr (.inr rfl) rfl) rfl rfl ?_
  refine TL.nil ?_
  refine S.n ?_
  refine TC.seq ?_
  refine TC.seq ?_
  refine TC.region ?_
  refine TL.v rfl (OpVal.moveLoc (.inl rfl) rfl) rfl rfl ?_
  refine TL.v rfl (OpVal.nilCheckLoc rfl rfl) rfl rfl ?_
  refine TL.v rfl (OpVal.fieldLoc rfl fo101_0 rfl) rfl rfl ?_
  refine TL.v rfl (OpVal.moveStr (.inl rfl) rfl) rfl rfl ?_
  refine TL.front 3 rfl rfl ?_
  refine TL.front 3 rfl rfl ?_
  refine TL.front 3 rfl rfl ?_
  obtain ⟨v19, u19, hh⟩ := bnd_e hh
  refine TL.op rfl (OpOk.call (intern_store_string_find_con zf0_4 u19) rfl rfl pf77 rfl rfl rfl rfl ?_)
  rintro _ _ _ hle110 ⟨rfl, rfl, rfl⟩
  refine TL.v rfl (OpVal.moveT (.inl rfl) rfl) rfl rfl ?_
  refine TL.v rfl (OpVal.extract rfl rfl rfl) rfl rfl ?_
  refine TL.v rfl (OpVal.extract rfl rfl rfl) rfl rfl ?_
  refine TL.v rfl (OpVal.moveI (.inr rfl) rfl) rfl rfl ?_
  refine TL.v rfl (OpVal.moveB (.inr rfl) rfl) rfl rfl ?_
  refine TL.nil ?_
  refine S.n ?_
  refine TC.seq ?_
  refine TC.region ?_
  refine TL.v rfl (OpVal.moveB (.inl rfl) rfl) rfl rfl ?_
  refine TL.nil ?_
  refine S.n ?_
  refine TC.cond rfl (fun h111 => ?_) (fun h111 => ?_)
  · replace hh := iteO_t h111 hh
    refine TC.seq ?_
    refine TC.region ?_
    refine TL.v rfl (OpVal.moveI (.inl rfl) rfl) rfl rfl ?_
    refine TL.v rfl (OpVal.moveI (.inr rfl) rfl) rfl rfl ?_
    refine TL.v rfl (OpVal.moveB (.inr rfl) rfl) rfl rfl ?_
    refine TL.v rfl (OpVal.moveI (.inr rfl) rfl) rfl rfl ?_
    refine TL.nil ?_
    refine S.n ?_
    refine TC.ofSub (Sub.front 2 rfl rfl (Sub.front 2 rfl rfl (Sub.front 2 rfl rfl (Sub.pre 3 rfl)))) ?_
    refine TC.ret ?_
    refine S.r ?_
    obtain rfl := Option.some.inj hh
    exact RetOk.mk' (rs := [.tmp 4, .tmp 5, .tmp 6]) [Res.cells b0_0 #[.slice a0_1 x0.of.rows.length c0_2, .map (some b0_5)] Eb0, Res.rowS 22 1 (pkSl 1 Go.E.encI Go.E.encI_len).en (.slice a0_1 x0.of.rows.length c0_2) z0_3, Res.mapB keyS keyI (some b0_5) x0.of.places] rfl (.inl rfl) (RVs.tmp rfl (RVs.tmp rfl (RVs.tmp rfl RVs.nil))) (List.sublist_append_left _ _) ⟨a0_1, c0_2, z0_3, b0_5, rfl, zf0_4, rfl⟩
  · replace hh := iteO_f h111 hh
    refine TC.skip ?_
    refine S.n ?_
    refine TC.seq ?_
    refine TC.seq ?_
    refine TC.region ?_
    refine TL.v rfl (OpVal.moveLoc (.inl rfl) rfl) rfl rfl ?_
    refine TL.v rfl (OpVal.nilCheckLoc rfl rfl) rfl rfl ?_
    refine TL.v rfl (OpVal.fieldLoc rfl fo101_0 rfl) rfl rfl ?_
    refine TL.v rfl (OpVal.fieldLoc rfl fo99_0 rfl) rfl rfl ?_
    refine TL.v rfl (OpVal.loadLoc rfl ag56 rfl (i := 0) rfl rfl) rfl rfl ?_
    refine TL.v rfl (OpVal.lenC rfl Try.underlying56 rfl) rfl rfl ?_
    refine TL.v rfl (OpVal.geq rfl rfl rfl) rfl rfl ?_
    refine TL.nil ?_
    refine S.n ?_
    refine TC.cond rfl (fun h112 => ?_) (fun h112 => ?_)
    · replace hh := iteO_t h112 hh
      replace h112 := of_decide_eq_true h112
      refine TC.seq ?_
      refine TC.region ?_
      refine TL.v rfl (OpVal.moveI (.inr rfl) rfl) rfl rfl ?_
      refine TL.v rfl (OpVal.moveB (.inr rfl) rfl) rfl rfl ?_
      refine TL.v rfl (OpVal.moveI (.inr rfl) rfl) rfl rfl ?_
      refine TL.nil ?_
      refine S.n ?_
      refine TC.ofSub (Sub.front 2 rfl rfl (Sub.front 2 rfl rfl (Sub.front 2 rfl rfl (Sub.pre 3 rfl)))) ?_
      refine TC.ret ?_
      refine S.r ?_
      obtain rfl := Option.some.inj hh
      exact RetOk.mk' (rs := [.tmp 4, .tmp 5, .tmp 6]) [Res.cells b0_0 #[.slice a0_1 x0.of.rows.length c0_2, .map (some b0_5)] Eb0, Res.rowS 22 1 (pkSl 1 Go.E.encI Go.E.encI_len).en (.slice a0_1 x0.of.rows.length c0_2) z0_3, Res.mapB keyS keyI (some b0_5) x0.of.places] rfl (.inl rfl) (RVs.tmp rfl (RVs.tmp rfl (RVs.tmp rfl RVs.nil))) (List.sublist_append_left _ _) ⟨a0_1, c0_2, z0_3, b0_5, rfl, zf0_4, rfl⟩
    · replace hh := iteO_f h112 hh
      replace h112 := of_decide_eq_false h112
      refine TC.skip ?_
      refine S.n ?_
      refine TC.seq ?_
      refine TC.region ?_
      refine TL.v rfl (OpVal.moveLoc (.inl rfl) rfl) rfl rfl ?_
      refine TL.v rfl (OpVal.nilCheckLoc rfl rfl) rfl rfl ?_
      refine TL.v rfl (OpVal.fieldLoc rfl fo101_0 rfl) rfl rfl ?_
      refine TL.v rfl (OpVal.moveStr (.inl rfl) rfl) rfl rfl ?_
      refine TL.v rfl (OpVal.moveSl (.inl rfl) rfl) rfl rfl ?_
      refine TL.front 3 rfl rfl ?_
      refine TL.sealS Go.E.encI_len (fun τ115 hle114 hr113 => ?_)
      replace zf0_4 := zf0_4.mono hle114
      replace f1_0 := f1_0.mono hle114
      have hr113b := hr113.rv.big
      refine TL.front 2 rfl rfl ?_
      refine TL.front 2 rfl rfl ?_
      refine TL.front 2 rfl rfl ?_
      obtain ⟨v45, u45, hh⟩ := bnd_e hh
      refine TL.op rfl (OpOk.call (intern_store_string_add_con zf0_4 hr113 u45) rfl rfl pf78 rfl rfl rfl rfl ?_)
      rintro _ τ116 _ hle116 ⟨a116_1, c116_2, z116_3, b116_5, rfl, zf116_4, rfl⟩
      replace zf0_4 := zf0_4.mono hle116
      replace f1_0 := f1_0.mono hle116
      replace hr113 := hr113.mono hle116
      have zf116_4b := zf116_4.length
      refine TL.v rfl (OpVal.moveI (.inr rfl) rfl) rfl rfl ?_
      refine TL.v rfl (OpVal.moveB (.inr rfl) rfl) rfl rfl ?_
      refine TL.v rfl (OpVal.moveI (.inr rfl) rfl) rfl rfl ?_
      refine TL.nil ?_
      refine S.n ?_
      refine TC.ret ?_
      obtain rfl := Option.some.inj hh
      exact RetOk.mk' (rs := [.tmp 4, .tmp 5, .tmp 6]) [Res.cells b0_0 #[.slice a116_1 v45.2.rows.length c116_2, .map (some b116_5)] Eb0, Res.rowS 22 1 (pkSl 1 Go.E.encI Go.E.encI_len).en (.slice a116_1 v45.2.rows.length c116_2) z116_3, Res.mapB keyS keyI (some b116_5) v45.2.places] rfl (.inl rfl) (RVs.tmp rfl (RVs.tmp rfl (RVs.tmp rfl RVs.nil))) (List.sublist_append_left _ _) ⟨a116_1, c116_2, z116_3, b116_5, rfl, zf116_4, rfl⟩

noncomputable def intern_Table_Find (x0 : ITable) (x1 : List Int) : Option (Int × Bool) :=
  bnd (intern_Sort x1) (fun v11 => bnd (intern_key v11) (fun v12 => bnd (intern_store_string_find (⟨x0.of.rows, x0.of.places⟩ : IStore) v12) (fun v13 => some (v13.1, v13.2))))
theorem intern_Table_Find_con {σ : Store} {x0 : ITable} {b0_0 : Nat} {Eb0 : Nat} {a0_1 : Option Addr} {c0_2 : Nat} {z0_3 : List (List Int × (pkSl 1 Go.E.encI Go.E.encI_len).P)} {b0_5 : Nat} {x1 : List Int} {a1_0 : Option Addr} {c1_0 : Nat} (zf0_4 : ZOk σ (pkSl 1 Go.E.encI Go.E.encI_len) z0_3 x0.of.rows) (f1_0 : RS σ 1 Go.E.encI (.slice a1_0 x1.length c1_0) x1) {r : Int × Bool} (hh : intern_Table_Find x0 x1 = some r) :
    Con Try.prog 42 #[loc b0_0 0, .slice a1_0 x1.length c1_0] σ [Res.cells b0_0 #[.slice a0_1 x0.of.rows.length c0_2, .map (some b0_5)] Eb0, Res.rowS 22 1 (pkSl 1 Go.E.encI Go.E.encI_len).en (.slice a0_1 x0.of.rows.length c0_2) z0_3, Res.mapB keyS keyI (some b0_5) x0.of.places] (fun v σ' H' => v = .tuple #[.int .i64 r.1, .bool r.2] ∧ σ = σ' ∧ H' = [Res.cells b0_0 #[.slice a0_1 x0.of.rows.length c0_2, .map (some b0_5)] Eb0, Res.rowS 22 1 (pkSl 1 Go.E.encI Go.E.encI_len).en (.slice a0_1 x0.of.rows.length c0_2) z0_3, Res.mapB keyS keyI (some b0_5) x0.of.places]) := by
  dsimp only [intern_Table_Find] at hh
  have zf0_4b := zf0_4.length
  have f1_0b := f1_0.rv.big
  refine Con.mk (n := 17) Try.func42 rfl rfl rfl (fun w0 => ?_)
  refine TC.seq ?_
  refine TC.region ?_
  refine TL.v rfl (OpVal.moveI (.inr rfl) rfl) rfl rfl ?_
  refine TL.v rfl (OpVal.moveB (.inr rfl) rfl) rfl rfl ?_
  refine TL.nil ?_
  refine S.n ?_
  refine TC.seq ?_
  refine TC.seq ?_
  refine TC.region ?_
  refine TL.v rfl (OpVal.moveLoc (.inl rfl) rfl) rfl rfl ?_
  refine TL.v rfl (OpVal.eqlNil rfl Try.underlying50 rfl rfl) rfl rfl ?_
  refine TL.nil ?_
  refine S.n ?_
  refine TC.cond rfl (fun h => Bool.noConfusion h) (fun _ => ?_)
  refine TC.skip ?_
  refine S.n ?_
  refine TC.seq ?_
  obtain ⟨v11, u11, hh⟩ := bnd_e hh
  obtain ⟨v12, u12, hh⟩ := bnd_e hh
  obtain ⟨v13, u13, hh⟩ := bnd_e hh
  refine TC.draw [] (by kernel_rfl) ?_
  refine TA.takeP 0 rfl (by kernel_rfl) (by kernel_rfl) (by kernel_rfl) rfl (OpVal.moveLoc (.inl rfl) rfl) rfl rfl ?_
  refine TA.takeP 1 rfl (by kernel_rfl) (by kernel_rfl) (by kernel_rfl) rfl (OpVal.nilCheckLoc rfl rfl) rfl rfl ?_
  refine TA.takeP 2 rfl (by kernel_rfl) (by kernel_rfl) (by kernel_rfl) rfl (OpVal.fieldLoc rfl fo101_0 rfl) rfl rfl ?_
  refine TA.takeP 3 rfl (by kernel_rfl) (by kernel_rfl) (by kernel_rfl) rfl (OpVal.moveSl (.inl rfl) rfl) rfl rfl ?_
  refine TA.act 4 (by kernel_rfl) rfl rfl (OpOk.call (intern_Sort_con f1_0 u11) rfl rfl pf48 rfl rfl rfl rfl ?_)
  rintro _ _ _ hle109 ⟨a109_1, c109_1, rfl, rfl, rfl⟩
  refine ⟨(fun w h => sees_of (Store.le.refl _) (fun r hr => (List.mem_cons_of_mem _ hr)) w h), ?_⟩
  refine TA.act 5 (by kernel_rfl) rfl rfl (OpOk.callK (Con.lend Go.E.encI_len (fun _ hle112 hr111 => intern_key_con hr111 u12)) rfl rfl pf76 rfl rfl rfl rfl ⟨(fun w h => sees_of (Store.le.refl _) (fun r hr => (List.mem_cons_of_mem _ hr)) w h), ?_⟩)
  refine TA.front 3 rfl rfl ?_
  refine TA.front 3 rfl rfl ?_
  refine TA.front 3 rfl rfl ?_
  refine TA.act 6 (by kernel_rfl) rfl rfl (OpOk.call (intern_store_string_find_con zf0_4 u13) rfl rfl pf77 rfl rfl rfl rfl ?_)
  rintro _ _ _ hle113 ⟨rfl, rfl, rfl⟩
  refine ⟨(fun w h => sees_of (Store.le.refl _) (fun r hr => mem_pick [0, 1, 2] rfl hr) w h), ?_⟩
  refine TA.takeP 7 rfl (by kernel_rfl) (by kernel_rfl) (by kernel_rfl) rfl (OpVal.extract rfl rfl rfl) rfl rfl ?_
  refine TA.takeP 8 rfl (by kernel_rfl) (by kernel_rfl) (by kernel_rfl) rfl (OpVal.extract rfl rfl rfl) rfl rfl ?_
  refine TA.takeP 9 rfl (by kernel_rfl) (by kernel_rfl) (by kernel_rfl) rfl (OpVal.moveI (.inr rfl) rfl) rfl rfl ?_
  refine TA.takeP 10 rfl (by kernel_rfl) (by kernel_rfl) (by kernel_rfl) rfl (OpVal.moveB (.inr rfl) rfl) rfl rfl ?_
  refine TA.done (by kernel_rfl) ?_
  refine S.n ?_
  refine TC.ofSub (Sub.front 2 rfl rfl (Sub.front 2 rfl rfl (Sub.front 2 rfl rfl (Sub.pre 3 rfl)))) ?_
  refine TC.ret ?_
  obtain rfl := Option.some.inj hh
  exact RetOk.mk' (rs := [.tmp 4, .tmp 5]) [Res.cells b0_0 #[.slice a0_1 x0.of.rows.length c0_2, .map (some b0_5)] Eb0, Res.rowS 22 1 (pkSl 1 Go.E.encI Go.E.encI_len).en (.slice a0_1 x0.of.rows.length c0_2) z0_3, Res.mapB keyS keyI (some b0_5) x0.of.places] rfl (.inl rfl) (RVs.tmp rfl (RVs.tmp rfl RVs.nil)) (List.sublist_append_left _ _) ⟨rfl, rfl, rfl⟩

noncomputable def intern_Table_Row (x0 : ITable) (x1 : Int) : Option ((List Int) × Int) :=
  iteO (decide (x1 < 0)) (some (([] : List Int), 1)) (iteO (decide (((x0.of.rows.length : Nat) : Int) ≤ x1)) (some (([] : List Int), 1)) (grd (0 ≤ x1 ∧ x1 < (x0.of.rows.length : Int)) (grd ((nth x0.of.rows x1.toNat ([] : List Int)).length * 8 ≤ 140737488355328) (some ((nth x0.of.rows x1.toNat ([] : List Int)), 0)))))
theorem intern_Table_Row_con {σ : Store} {x0 : ITable} {b0_0 : Nat} {Eb0 : Nat} {a0_1 : Option Addr} {c0_2 : Nat} {z0_3 : List (List Int × (pkSl 1 Go.E.encI Go.E.encI_len).P)} {b0_5 : Nat} {x1 : Int} (zf0_4 : ZOk σ (pkSl 1 Go.E.encI Go.E.encI_len) z0_3 x0.of.rows) {r : (List Int) × Int} (hh : intern_Table_Row x0 x1 = some r) :
    Con Try.prog 44 #[loc b0_0 0, .int .i64 x1] σ [Res.cells b0_0 #[.slice a0_1 x0.of.rows.length c0_2, .map (some b0_5)] Eb0, Res.rowS 22 1 (pkSl 1 Go.E.encI Go.E.encI_len).en (.slice a0_1 x0.of.rows.length c0_2) z0_3, Res.mapB keyS keyI (some b0_5) x0.of.places] (fun v σ' H' => ∃ (a1 : Option Addr), ∃ (c1 : Nat), v = .tuple #[.slice a1 r.1.length c1, .int .i64 r.2] ∧ σ = σ' ∧ H' = [Res.rowS 3 1 Go.E.encI (.slice a1 r.1.length c1) r.1, Res.cells b0_0 #[.slice a0_1 x0.of.rows.length c0_2, .map (some b0_5)] Eb0, Res.rowS 22 1 (pkSl 1 Go.E.encI Go.E.encI_len).en (.slice a0_1 x0.of.rows.length c0_2) z0_3, Res.mapB keyS keyI (some b0_5) x0.of.places]) := by
  dsimp only [intern_Table_Row] at hh
  have zf0_4b := zf0_4.length
  refine Con.mk (n := 29) Try.func44 rfl rfl rfl (fun w0 => ?_)
  refine TC.seq ?_
  refine TC.region ?_
  refine TL.v rfl (OpVal.moveSl (.inr rfl) rfl) rfl rfl ?_
  refine TL.v rfl (OpVal.moveI (.inr rfl) rfl) rfl rfl ?_
  refine TL.nil ?_
  refine S.n ?_
  refine TC.seq ?_
  refine TC.seq ?_
  refine TC.region ?_
  refine TL.v rfl (OpVal.moveLoc (.inl rfl) rfl) rfl rfl ?_
  refine TL.v rfl (OpVal.eqlNil rfl Try.underlying50 rfl rfl) rfl rfl ?_
  refine TL.nil ?_
  refine S.n ?_
  refine TC.cond rfl (fun h => Bool.noConfusion h) (fun _ => ?_)
  refine TC.skip ?_
  refine S.n ?_
  refine TC.seq ?_
  refine TC.seq ?_
  refine TC.region ?_
  refine TL.v rfl (OpVal.moveI (.inl rfl) rfl) rfl rfl ?_
  refine TL.v rfl (OpVal.lss rfl rfl rfl) rfl rfl ?_
  refine TL.v rfl (OpVal.moveB (.inl rfl) rfl) rfl rfl ?_
  refine TL.split 10 rfl (fun h104 => ?_) (fun h104 => ?_)
  · replace hh := iteO_t h104 hh
    replace h104 := of_decide_eq_true h104
    refine TL.goff rfl rfl rfl rfl rfl rfl rfl rfl ?_
    refine TL.goff rfl rfl rfl rfl rfl rfl rfl rfl ?_
    refine TL.goff rfl rfl rfl rfl rfl rfl rfl rfl ?_
    refine TL.goff rfl rfl rfl rfl rfl rfl rfl rfl ?_
    refine TL.goff rfl rfl rfl rfl rfl rfl rfl rfl ?_
    refine TL.goff rfl rfl rfl rfl rfl rfl rfl rfl ?_
    refine TL.goff rfl rfl rfl rfl rfl rfl rfl rfl ?_
    refine TL.goff rfl rfl rfl rfl rfl rfl rfl rfl ?_
    refine TL.v rfl (OpVal.pickTB rfl rfl rfl) rfl rfl ?_
    refine TL.nil ?_
    refine S.n ?_
    refine TC.cond rfl (fun _ => ?_) (fun h => Bool.noConfusion h)
    refine TC.seq ?_
    refine TC.region ?_
    refine TL.v rfl (OpVal.moveSl (.inr rfl) rfl) rfl rfl ?_
    refine TL.v rfl (OpVal.moveI (.inr rfl) rfl) rfl rfl ?_
    refine TL.nil ?_
    refine S.n ?_
    refine TC.nilS 3 1 Go.E.encI ?_
    refine TC.ret ?_
    refine S.r ?_
    obtain rfl := Option.some.inj hh
    exact RetOk.mk' (rs := [.tmp 4, .tmp 5]) [Res.rowS 3 1 Go.E.encI (.slice none ([] : List Int).length 0) ([] : List Int), Res.cells b0_0 #[.slice a0_1 x0.of.rows.length c0_2, .map (some b0_5)] Eb0, Res.rowS 22 1 (pkSl 1 Go.E.encI Go.E.encI_len).en (.slice a0_1 x0.of.rows.length c0_2) z0_3, Res.mapB keyS keyI (some b0_5) x0.of.places] rfl (.inl rfl) (RVs.tmp rfl (RVs.tmp rfl RVs.nil)) (List.sublist_append_left _ _) ⟨none, 0, rfl, rfl, rfl⟩
  · replace hh := iteO_f h104 hh
    replace h104 := of_decide_eq_false h104
    refine TL.gv rfl rfl rfl rfl rfl (OpVal.moveI (.inl rfl) rfl) rfl rfl ?_
    refine TL.gv rfl rfl rfl rfl rfl (OpVal.moveLoc (.inl rfl) rfl) rfl rfl ?_
    refine TL.gv rfl rfl rfl rfl rfl (OpVal.nilCheckLoc rfl rfl) rfl rfl ?_
    refine TL.gv rfl rfl rfl rfl rfl (OpVal.fieldLoc rfl fo101_0 rfl) rfl rfl ?_
    refine TL.gv rfl rfl rfl rfl rfl (OpVal.fieldLoc rfl fo99_0 rfl) rfl rfl ?_
    refine TL.gv rfl rfl rfl rfl rfl (OpVal.loadLoc rfl ag56 rfl (i := 0) rfl rfl) rfl rfl ?_
    refine TL.gv rfl rfl rfl rfl rfl (OpVal.lenC rfl Try.underlying56 rfl) rfl rfl ?_
    refine TL.gv rfl rfl rfl rfl rfl (OpVal.geq rfl rfl rfl) rfl rfl ?_
    refine TL.v rfl (OpVal.pickFB rfl rfl rfl) rfl rfl ?_
    refine TL.nil ?_
    refine S.n ?_
    refine TC.cond rfl (fun h106 => ?_) (fun h106 => ?_)
    · replace hh := iteO_t h106 hh
      replace h106 := of_decide_eq_true h106
      refine TC.seq ?_
      refine TC.region ?_
      refine TL.v rfl (OpVal.moveSl (.inr rfl) rfl) rfl rfl ?_
      refine TL.v rfl (OpVal.moveI (.inr rfl) rfl) rfl rfl ?_
      refine TL.nil ?_
      refine S.n ?_
      refine TC.nilS 3 1 Go.E.encI ?_
      refine TC.ret ?_
      refine S.r ?_
      obtain rfl := Option.some.inj hh
      exact RetOk.mk' (rs := [.tmp 4, .tmp 5]) [Res.rowS 3 1 Go.E.encI (.slice none ([] : List Int).length 0) ([] : List Int), Res.cells b0_0 #[.slice a0_1 x0.of.rows.length c0_2, .map (some b0_5)] Eb0, Res.rowS 22 1 (pkSl 1 Go.E.encI Go.E.encI_len).en (.slice a0_1 x0.of.rows.length c0_2) z0_3, Res.mapB keyS keyI (some b0_5) x0.of.places] rfl (.inl rfl) (RVs.tmp rfl (RVs.tmp rfl RVs.nil)) (List.sublist_append_left _ _) ⟨none, 0, rfl, rfl, rfl⟩
    · replace hh := iteO_f h106 hh
      replace h106 := of_decide_eq_false h106
      refine TC.skip ?_
      refine S.n ?_
      refine TC.seq ?_
      refine TC.region ?_
      refine TL.v rfl (OpVal.moveLoc (.inl rfl) rfl) rfl rfl ?_
      refine TL.v rfl (OpVal.nilCheckLoc rfl rfl) rfl rfl ?_
      refine TL.v rfl (OpVal.fieldLoc rfl fo101_0 rfl) rfl rfl ?_
      refine TL.v rfl (OpVal.fieldLoc rfl fo99_0 rfl) rfl rfl ?_
      refine TL.v rfl (OpVal.loadLoc rfl ag56 rfl (i := 0) rfl rfl) rfl rfl ?_
      refine TL.v rfl (OpVal.moveI (.inl rfl) rfl) rfl rfl ?_
      have u27 := grd_c hh
      replace hh := grd_t hh
      refine TL.isSl (i := 1) rfl (fun hs108 _ _ => ?_)
      refine TL.v rfl (OpVal.index rfl Try.underlying56 sz22 rfl rfl (zf0_4.isSl hs108) u27.1 u27.2) rfl rfl ?_
      obtain ⟨p109, hp109⟩ : ∃ p, p = (nth z0_3 x1.toNat ((pkSl 1 Go.E.encI Go.E.encI_len).d, (pkSl 1 Go.E.encI Go.E.encI_len).dp)).2 := ⟨_, rfl⟩
      have hk109 : RS σ 1 Go.E.encI (.slice p109.1 (nth x0.of.rows x1.toNat ([] : List Int)).length p109.2) (nth x0.of.rows x1.toNat ([] : List Int)) := by rw [hp109]; exact (zf0_4.at (by omega)).2
      refine TL.v rfl (OpVal.of (hp109 ▸ OpVal.loadOZ1 zf0_4 rfl ag22 rfl (q := 1) rfl (by omega) rfl) (v' := .slice p109.1 ((nth x0.of.rows x1.toNat ([] : List Int)).length) p109.2) rfl) rfl rfl ?_
      have u29 := grd_c hh
      replace hh := grd_t hh
      refine TL.op rfl (OpOk.call (cloneI_con hk109 u29) rfl rfl pf64 rfl rfl rfl rfl ?_)
      rintro _ _ _ _ ⟨⟨a110, c111, rfl⟩, rfl, rfl⟩
      refine TL.v rfl (OpVal.moveSl (.inr rfl) rfl) rfl rfl ?_
      refine TL.v rfl (OpVal.moveI (.inr rfl) rfl) rfl rfl ?_
      refine TL.nil ?_
      refine S.n ?_
      refine TC.ret ?_
      obtain rfl := Option.some.inj hh
      exact RetOk.mk' (rs := [.tmp 4, .tmp 5]) [Res.rowS 3 1 Go.E.encI (.slice a110 (nth x0.of.rows x1.toNat ([] : List Int)).length c111) (nth x0.of.rows x1.toNat ([] : List Int)), Res.cells b0_0 #[.slice a0_1 x0.of.rows.length c0_2, .map (some b0_5)] Eb0, Res.rowS 22 1 (pkSl 1 Go.E.encI Go.E.encI_len).en (.slice a0_1 x0.of.rows.length c0_2) z0_3, Res.mapB keyS keyI (some b0_5) x0.of.places] rfl (.inl rfl) (RVs.tmp rfl (RVs.tmp rfl RVs.nil)) (List.sublist_append_left _ _) ⟨a110, c111, rfl, rfl, rfl⟩

noncomputable def putKeep (x0 : ITable) (x1 : List Int) : Option (Int × Bool × Int × ITable) :=
  bnd (intern_Sort x1) (fun v10 => bnd (intern_key v10) (fun v13 => bnd (intern_store_string_find (⟨x0.of.rows, x0.of.places⟩ : IStore) v13) (fun v19 => iteO v19.2 (some (v19.1, false, 0, (⟨(⟨x0.of.rows, x0.of.places⟩ : IStore)⟩ : ITable))) (iteO (decide (4096 ≤ ((x0.of.rows.length : Nat) : Int))) (some (0, false, 2, (⟨(⟨x0.of.rows, x0.of.places⟩ : IStore)⟩ : ITable))) (bnd (intern_store_string_add (⟨x0.of.rows, x0.of.places⟩ : IStore) v13 v10) (fun v45 => some (v45.1, true, 0, (⟨(⟨v45.2.rows, v45.2.places⟩ : IStore)⟩ : ITable))))))))
theorem putKeep_con {σ : Store} {x0 : ITable} {b0_0 : Nat} {Eb0 : Nat} {a0_1 : Option Addr} {c0_2 : Nat} {z0_3 : List (List Int × (pkSl 1 Go.E.encI Go.E.encI_len).P)} {b0_5 : Nat} {x1 : List Int} {a1_1 : Option Addr} {c1_2 : Nat} (zf0_4 : ZOk σ (pkSl 1 Go.E.encI Go.E.encI_len) z0_3 x0.of.rows) {r : Int × Bool × Int × ITable} (hh : putKeep x0 x1 = some r) :
    Con Try.prog 37 #[loc b0_0 0, .slice a1_1 x1.length c1_2] σ [Res.cells b0_0 #[.slice a0_1 x0.of.rows.length c0_2, .map (some b0_5)] Eb0, Res.rowS 22 1 (pkSl 1 Go.E.encI Go.E.encI_len).en (.slice a0_1 x0.of.rows.length c0_2) z0_3, Res.mapB keyS keyI (some b0_5) x0.of.places, Res.rowS 3 1 Go.E.encI (.slice a1_1 x1.length c1_2) x1] (fun v σ' H' => ∃ (ao1 : Option Addr), ∃ (co2 : Nat), ∃ (zo3 : List (List Int × (pkSl 1 Go.E.encI Go.E.encI_len).P)), ∃ (bo5 : Nat), v = .tuple #[.int .i64 r.1, .bool r.2.1, .int .i64 r.2.2.1] ∧ ZOk σ' (pkSl 1 Go.E.encI Go.E.encI_len) zo3 r.2.2.2.of.rows ∧ H' = [Res.cells b0_0 #[.slice ao1 r.2.2.2.of.rows.length co2, .map (some bo5)] Eb0, Res.rowS 22 1 (pkSl 1 Go.E.encI Go.E.encI_len).en (.slice ao1 r.2.2.2.of.rows.length co2) zo3, Res.mapB keyS keyI (some bo5) r.2.2.2.of.places, Res.rowS 3 1 Go.E.encI (.slice a1_1 x1.length c1_2) x1]) := by
  dsimp only [putKeep] at hh
  have zf0_4b := zf0_4.length
  refine Con.mk (n := 40) Try.func37 rfl rfl rfl (fun w0 => ?_)
  refine TC.seq ?_
  refine TC.region ?_
  refine TL.v rfl (OpVal.moveI (.inr rfl) rfl) rfl rfl ?_
  refine TL.v rfl (OpVal.moveB (.inr rfl) rfl) rfl rfl ?_
  refine TL.v rfl (OpVal.moveI (.inr rfl) rfl) rfl rfl ?_
  refine TL.nil ?_
  refine S.n ?_
  refine TC.seq ?_
  refine TC.seq ?_
  refine TC.region ?_
  refine TL.v rfl (OpVal.moveLoc (.inl rfl) rfl) rfl rfl ?_
  refine TL.v rfl (OpVal.eqlNil rfl Try.underlying50 rfl rfl) rfl rfl ?_
  refine TL.nil ?_
  refine S.n ?_
  refine TC.cond rfl (fun h => Bool.noConfusion h) (fun _ => ?_)
  refine TC.skip ?_
  refine S.n ?_
  refine TC.seq ?_
  refine TC.region ?_
  refine TL.v rfl (OpVal.moveSl (.inl rfl) rfl) rfl rfl ?_
  refine TL.front 3 rfl rfl ?_
  obtain ⟨v10, u10, hh⟩ := bnd_e hh
  refine TL.op rfl (OpOk.call (Con.lendG (Post := fun τ => intern_Sort_P τ v10) Go.E.encI_len (by rintro τ τ' r σ' H' ⟨g0, g1, rfl, rfl, rfl⟩; exact ⟨rfl, g0, g1, rfl, rfl, rfl⟩) (fun _ hle_ hr_ => intern_Sort_con hr_ u10)) rfl rfl pf48 rfl rfl rfl rfl ?_)
  rintro _ _ _ hle107 ⟨_, ⟨a107_1, c107_1, rfl, rfl, rfl⟩, rfl⟩
  refine TL.v rfl (OpVal.moveSl (.inr rfl) rfl) rfl rfl ?_
  refine TL.nil ?_
  refine S.n ?_
  refine TC.seq ?_
  refine TC.region ?_
  refine TL.v rfl (OpVal.moveSl (.inl rfl) rfl) rfl rfl ?_
  obtain ⟨v13, u13, hh⟩ := bnd_e hh
  refine TL.op rfl (OpOk.callK (Con.lend Go.E.encI_len (fun _ hle110 hr109 => intern_key_con hr109 u13)) rfl rfl pf76 rfl rfl rfl rfl ?_)
  refine TL.v rfl (OpVal.moveStr (.inr rfl) rfl) rfl rfl ?_
  refine TL.nil ?_
  refine S.n ?_
  refine TC.seq ?_
  refine TC.seq ?_
  refine TC.region ?_
  refine TL.v rfl (OpVal.moveLoc (.inl rfl) rfl) rfl rfl ?_
  refine TL.v rfl (OpVal.nilCheckLoc rfl rfl) rfl rfl ?_
  refine TL.v rfl (OpVal.fieldLoc rfl fo101_0 rfl) rfl rfl ?_
  refine TL.v rfl (OpVal.moveStr (.inl rfl) rfl) rfl rfl ?_
  refine TL.front 4 rfl rfl ?_
  refine TL.front 4 rfl rfl ?_
  refine TL.front 4 rfl rfl ?_
  obtain ⟨v19, u19, hh⟩ := bnd_e hh
  refine TL.op rfl (OpOk.call (intern_store_string_find_con zf0_4 u19) rfl rfl pf77 rfl rfl rfl rfl ?_)
  rintro _ _ _ hle111 ⟨rfl, rfl, rfl⟩
  refine TL.v rfl (OpVal.moveT (.inl rfl) rfl) rfl rfl ?_
  refine TL.v rfl (OpVal.extract rfl rfl rfl) rfl rfl ?_
  refine TL.v rfl (OpVal.extract rfl rfl rfl) rfl rfl ?_
  refine TL.v rfl (OpVal.moveI (.inr rfl) rfl) rfl rfl ?_
  refine TL.v rfl (OpVal.moveB (.inr rfl) rfl) rfl rfl ?_
  refine TL.nil ?_
  refine S.n ?_
  refine TC.seq ?_
  refine TC.region ?_
  refine TL.v rfl (OpVal.moveB (.inl rfl) rfl) rfl rfl ?_
  refine TL.nil ?_
  refine S.n ?_
  refine TC.cond rfl (fun h112 => ?_) (fun h112 => ?_)
  · replace hh := iteO_t h112 hh
    refine TC.seq ?_
    refine TC.region ?_
    refine TL.v rfl (OpVal.moveI (.inl rfl) rfl) rfl rfl ?_
    refine TL.v rfl (OpVal.moveI (.inr rfl) rfl) rfl rfl ?_
    refine TL.v rfl (OpVal.moveB (.inr rfl) rfl) rfl rfl ?_
    refine TL.v rfl (OpVal.moveI (.inr rfl) rfl) rfl rfl ?_
    refine TL.nil ?_
    refine S.n ?_
    refine TC.ofSub (Sub.front 4 rfl rfl (Sub.front 3 rfl rfl (Sub.front 3 rfl rfl (Sub.front 3 rfl rfl (Sub.pre 4 rfl))))) ?_
    refine TC.ret ?_
    refine S.r ?_
    obtain rfl := Option.some.inj hh
    exact RetOk.mk' (rs := [.tmp 4, .tmp 5, .tmp 6]) [Res.cells b0_0 #[.slice a0_1 x0.of.rows.length c0_2, .map (some b0_5)] Eb0, Res.rowS 22 1 (pkSl 1 Go.E.encI Go.E.encI_len).en (.slice a0_1 x0.of.rows.length c0_2) z0_3, Res.mapB keyS keyI (some b0_5) x0.of.places, Res.rowS 3 1 Go.E.encI (.slice a1_1 x1.length c1_2) x1] rfl (.inl rfl) (RVs.tmp rfl (RVs.tmp rfl (RVs.tmp rfl RVs.nil))) (List.sublist_append_left _ _) ⟨a0_1, c0_2, z0_3, b0_5, rfl, zf0_4, rfl⟩
  · replace hh := iteO_f h112 hh
    refine TC.skip ?_
    refine S.n ?_
    refine TC.seq ?_
    refine TC.seq ?_
    refine TC.region ?_
    refine TL.v rfl (OpVal.moveLoc (.inl rfl) rfl) rfl rfl ?_
    refine TL.v rfl (OpVal.nilCheckLoc rfl rfl) rfl rfl ?_
    refine TL.v rfl (OpVal.fieldLoc rfl fo101_0 rfl) rfl rfl ?_
    refine TL.v rfl (OpVal.fieldLoc rfl fo99_0 rfl) rfl rfl ?_
    refine TL.v rfl (OpVal.loadLoc rfl ag56 rfl (i := 0) rfl rfl) rfl rfl ?_
    refine TL.v rfl (OpVal.lenC rfl Try.underlying56 rfl) rfl rfl ?_
    refine TL.v rfl (OpVal.geq rfl rfl rfl) rfl rfl ?_
    refine TL.nil ?_
    refine S.n ?_
    refine TC.cond rfl (fun h113 => ?_) (fun h113 => ?_)
    · replace hh := iteO_t h113 hh
      replace h113 := of_decide_eq_true h113
      refine TC.seq ?_
      refine TC.region ?_
      refine TL.v rfl (OpVal.moveI (.inr rfl) rfl) rfl rfl ?_
      refine TL.v rfl (OpVal.moveB (.inr rfl) rfl) rfl rfl ?_
      refine TL.v rfl (OpVal.moveI (.inr rfl) rfl) rfl rfl ?_
      refine TL.nil ?_
      refine S.n ?_
      refine TC.ofSub (Sub.front 4 rfl rfl (Sub.front 3 rfl rfl (Sub.front 3 rfl rfl (Sub.front 3 rfl rfl (Sub.pre 4 rfl))))) ?_
      refine TC.ret ?_
      refine S.r ?_
      obtain rfl := Option.some.inj hh
      exact RetOk.mk' (rs := [.tmp 4, .tmp 5, .tmp 6]) [Res.cells b0_0 #[.slice a0_1 x0.of.rows.length c0_2, .map (some b0_5)] Eb0, Res.rowS 22 1 (pkSl 1 Go.E.encI Go.E.encI_len).en (.slice a0_1 x0.of.rows.length c0_2) z0_3, Res.mapB keyS keyI (some b0_5) x0.of.places, Res.rowS 3 1 Go.E.encI (.slice a1_1 x1.length c1_2) x1] rfl (.inl rfl) (RVs.tmp rfl (RVs.tmp rfl (RVs.tmp rfl RVs.nil))) (List.sublist_append_left _ _) ⟨a0_1, c0_2, z0_3, b0_5, rfl, zf0_4, rfl⟩
    · replace hh := iteO_f h113 hh
      replace h113 := of_decide_eq_false h113
      refine TC.skip ?_
      refine S.n ?_
      refine TC.seq ?_
      refine TC.region ?_
      refine TL.v rfl (OpVal.moveLoc (.inl rfl) rfl) rfl rfl ?_
      refine TL.v rfl (OpVal.nilCheckLoc rfl rfl) rfl rfl ?_
      refine TL.v rfl (OpVal.fieldLoc rfl fo101_0 rfl) rfl rfl ?_
      refine TL.v rfl (OpVal.moveStr (.inl rfl) rfl) rfl rfl ?_
      refine TL.v rfl (OpVal.moveSl (.inl rfl) rfl) rfl rfl ?_
      refine TL.front 3 rfl rfl ?_
      refine TL.sealS Go.E.encI_len (fun τ116 hle115 hr114 => ?_)
      replace zf0_4 := zf0_4.mono hle115
      have hr114b := hr114.rv.big
      refine TL.front 2 rfl rfl ?_
      refine TL.front 2 rfl rfl ?_
      refine TL.front 2 rfl rfl ?_
      obtain ⟨v45, u45, hh⟩ := bnd_e hh
      refine TL.op rfl (OpOk.call (intern_store_string_add_con zf0_4 hr114 u45) rfl rfl pf78 rfl rfl rfl rfl ?_)
      rintro _ τ117 _ hle117 ⟨a117_1, c117_2, z117_3, b117_5, rfl, zf117_4, rfl⟩
      replace zf0_4 := zf0_4.mono hle117
      replace hr114 := hr114.mono hle117
      have zf117_4b := zf117_4.length
      refine TL.v rfl (OpVal.moveI (.inr rfl) rfl) rfl rfl ?_
      refine TL.v rfl (OpVal.moveB (.inr rfl) rfl) rfl rfl ?_
      refine TL.v rfl (OpVal.moveI (.inr rfl) rfl) rfl rfl ?_
      refine TL.nil ?_
      refine S.n ?_
      refine TC.ret ?_
      obtain rfl := Option.some.inj hh
      exact RetOk.mk' (rs := [.tmp 4, .tmp 5, .tmp 6]) [Res.cells b0_0 #[.slice a117_1 v45.2.rows.length c117_2, .map (some b117_5)] Eb0, Res.rowS 22 1 (pkSl 1 Go.E.encI Go.E.encI_len).en (.slice a117_1 v45.2.rows.length c117_2) z117_3, Res.mapB keyS keyI (some b117_5) v45.2.places, Res.rowS 3 1 Go.E.encI (.slice a1_1 x1.length c1_2) x1] rfl (.inl rfl) (RVs.tmp rfl (RVs.tmp rfl (RVs.tmp rfl RVs.nil))) (List.sublist_append_left _ _) ⟨a117_1, c117_2, z117_3, b117_5, rfl, zf117_4, rfl⟩

noncomputable def intern_Table_Size (x0 : ITable) : Option (Int) :=
  some ((x0.of.rows.length : Nat) : Int)
theorem intern_Table_Size_con {σ : Store} {x0 : ITable} {b0_0 : Nat} {Eb0 : Nat} {a0_1 : Option Addr} {c0_2 : Nat} {z0_3 : List (List Int × (pkSl 1 Go.E.encI Go.E.encI_len).P)} {b0_5 : Nat} (zf0_4 : ZOk σ (pkSl 1 Go.E.encI Go.E.encI_len) z0_3 x0.of.rows) {r : Int} (hh : intern_Table_Size x0 = some r) :
    Con Try.prog 39 #[loc b0_0 0] σ [Res.cells b0_0 #[.slice a0_1 x0.of.rows.length c0_2, .map (some b0_5)] Eb0, Res.rowS 22 1 (pkSl 1 Go.E.encI Go.E.encI_len).en (.slice a0_1 x0.of.rows.length c0_2) z0_3, Res.mapB keyS keyI (some b0_5) x0.of.places] (fun v σ' H' => v = .int .i64 r ∧ σ = σ' ∧ H' = [Res.cells b0_0 #[.slice a0_1 x0.of.rows.length c0_2, .map (some b0_5)] Eb0, Res.rowS 22 1 (pkSl 1 Go.E.encI Go.E.encI_len).en (.slice a0_1 x0.of.rows.length c0_2) z0_3, Res.mapB keyS keyI (some b0_5) x0.of.places]) := by
  dsimp only [intern_Table_Size] at hh
  have zf0_4b := zf0_4.length
  refine Con.mk (n := 11) Try.func39 rfl rfl rfl (fun w0 => ?_)
  refine TC.seq ?_
  refine TC.region ?_
  refine TL.v rfl (OpVal.moveI (.inr rfl) rfl) rfl rfl ?_
  refine TL.nil ?_
  refine S.n ?_
  refine TC.seq ?_
  refine TC.seq ?_
  refine TC.region ?_
  refine TL.v rfl (OpVal.moveLoc (.inl rfl) rfl) rfl rfl ?_
  refine TL.v rfl (OpVal.eqlNil rfl Try.underlying50 rfl rfl) rfl rfl ?_
  refine TL.nil ?_
  refine S.n ?_
  refine TC.cond rfl (fun h => Bool.noConfusion h) (fun _ => ?_)
  refine TC.skip ?_
  refine S.n ?_
  refine TC.seq ?_
  refine TC.region ?_
  refine TL.v rfl (OpVal.moveLoc (.inl rfl) rfl) rfl rfl ?_
  refine TL.v rfl (OpVal.nilCheckLoc rfl rfl) rfl rfl ?_
  refine TL.v rfl (OpVal.fieldLoc rfl fo101_0 rfl) rfl rfl ?_
  refine TL.v rfl (OpVal.fieldLoc rfl fo99_0 rfl) rfl rfl ?_
  refine TL.v rfl (OpVal.loadLoc rfl ag56 rfl (i := 0) rfl rfl) rfl rfl ?_
  refine TL.v rfl (OpVal.lenC rfl Try.underlying56 rfl) rfl rfl ?_
  refine TL.v rfl (OpVal.moveI (.inr rfl) rfl) rfl rfl ?_
  refine TL.nil ?_
  refine S.n ?_
  refine TC.ret ?_
  obtain rfl := Option.some.inj hh
  exact RetOk.mk' (rs := [.tmp 2]) [Res.cells b0_0 #[.slice a0_1 x0.of.rows.length c0_2, .map (some b0_5)] Eb0, Res.rowS 22 1 (pkSl 1 Go.E.encI Go.E.encI_len).en (.slice a0_1 x0.of.rows.length c0_2) z0_3, Res.mapB keyS keyI (some b0_5) x0.of.places] rfl (.inl rfl) (RVs.tmp rfl RVs.nil) (List.sublist_append_left _ _) ⟨rfl, rfl, rfl⟩

noncomputable def whittleref02_Ints_b1 (x0 : List Int) (x1 : List Int) (k104 : Nat) : Option ((Nat) ⊕ (Bool)) :=
  iteO (decide (((k104 : Nat) : Int) < ((x0.length : Nat) : Int))) (grd (k104 < x1.length) (iteO (decide ((nth x0 k104 (0 : Int)) ≠ (nth x1 k104 (0 : Int)))) (fin (some false)) (nxt (k104 + 1)))) (fin (some true))
noncomputable def whittleref02_Ints (x0 : List Int) (x1 : List Int) : Option (Bool) :=
  iteO (decide (((x0.length : Nat) : Int) ≠ ((x1.length : Nat) : Int))) (some false) (iter (fun q : Nat => whittleref02_Ints_b1 x0 x1 q) 0)
theorem whittleref02_Ints_con {σ : Store} {x0 : List Int} {a0_0 : Option Addr} {c0_0 : Nat} {x1 : List Int} {a1_0 : Option Addr} {c1_0 : Nat} (f0_0 : RS σ 1 Go.E.encI (.slice a0_0 x0.length c0_0) x0) (f1_0 : RS σ 1 Go.E.encI (.slice a1_0 x1.length c1_0) x1) {r : Bool} (hh : whittleref02_Ints x0 x1 = some r) :
    Con Try.prog 46 #[.slice a0_0 x0.length c0_0, .slice a1_0 x1.length c1_0] σ [] (PureP (.bool r) σ) := by
  dsimp only [whittleref02_Ints] at hh
  have f0_0b := f0_0.rv.big
  have f1_0b := f1_0.rv.big
  refine Con.mk (n := 26) Try.func46 rfl rfl rfl (fun w0 => ?_)
  refine TC.seq ?_
  refine TC.region ?_
  refine TL.v rfl (OpVal.moveB (.inr rfl) rfl) rfl rfl ?_
  refine TL.nil ?_
  refine S.n ?_
  refine TC.seq ?_
  refine TC.seq ?_
  refine TC.region ?_
  refine TL.v rfl (OpVal.moveSl (.inl rfl) rfl) rfl rfl ?_
  refine TL.v rfl (OpVal.lenC rfl Try.underlying22 rfl) rfl rfl ?_
  refine TL.v rfl (OpVal.moveSl (.inl rfl) rfl) rfl rfl ?_
  refine TL.v rfl (OpVal.lenC rfl Try.underlying22 rfl) rfl rfl ?_
  refine TL.v rfl (OpVal.neq rfl rfl rfl) rfl rfl ?_
  refine TL.nil ?_
  refine S.n ?_
  refine TC.cond rfl (fun h101 => ?_) (fun h101 => ?_)
  · replace hh := iteO_t h101 hh
    replace h101 := of_decide_eq_true h101
    refine TC.seq ?_
    refine TC.region ?_
    refine TL.v rfl (OpVal.moveB (.inr rfl) rfl) rfl rfl ?_
    refine TL.nil ?_
    refine S.n ?_
    refine TC.ret ?_
    refine S.r ?_
    obtain rfl := Option.some.inj hh
    exact RetOk.mk' (rs := [.tmp 4]) [] rfl (.inl rfl) (RVs.tmp rfl RVs.nil) (List.sublist_append_left _ _) ⟨rfl, rfl, rfl⟩
  · replace hh := iteO_f h101 hh
    replace h101 := of_decide_eq_false h101
    refine TC.skip ?_
    refine S.n ?_
    refine TC.seq ?_
    refine TC.seq ?_
    refine TC.region ?_
    refine TL.v rfl (OpVal.moveI (.inr rfl) rfl) rfl rfl ?_
    refine TL.nil ?_
    refine S.n ?_
    refine TC.block ?_
    refine TC.loopG (α := (Nat) × (Unit)) [4, 5, 11, 12, 13, 14, 15, 16, 17, 18, 19, 20, 21, 22, 23, 24, 25] (fun g => [(5, .int .i64 ((g.1 : Nat) : Int))]) (fun g => []) (fun g => σ) (fun g => iter (fun q : Nat => whittleref02_Ints_b1 x0 x1 q) g.1 = some r) (fun g => rounds (fun q : Nat => whittleref02_Ints_b1 x0 x1 q) g.1) (0, ()) (Sub.pre 0 rfl) rfl (by repeat (first | exact trivial | refine ⟨rfl, ?_⟩)) hh (fun g1 j1 hg1 => ?_)
    obtain ⟨k104, _⟩ := g1
    have hh := hg1; clear hg1
    show TC _ _ _ (upds (mask _ j1 _) [(5, .int .i64 ((k104 : Nat) : Int))]) _ []
    obtain ⟨z1, hh, hR1⟩ := iter_e hh
    dsimp only [whittleref02_Ints_b1] at hh
    refine TC.seq ?_
    refine TC.seq ?_
    refine TC.region ?_
    refine TL.v rfl (OpVal.moveI (.inl rfl) rfl) rfl rfl ?_
    refine TL.v rfl (OpVal.moveSl (.inl rfl) rfl) rfl rfl ?_
    refine TL.v rfl (OpVal.lenC rfl Try.underlying22 rfl) rfl rfl ?_
    refine TL.v rfl (OpVal.lss rfl rfl rfl) rfl rfl ?_
    refine TL.nil ?_
    refine S.n ?_
    refine TC.cond rfl (fun h105 => ?_) (fun h105 => ?_)
    · replace hh := iteO_t h105 hh
      replace h105 := of_decide_eq_true h105
      refine TC.skip ?_
      refine S.n ?_
      refine TC.seq ?_
      refine TC.block ?_
      refine TC.seq ?_
      have u19 := grd_c hh
      replace hh := grd_t hh
      refine TC.draw [] (by kernel_rfl) ?_
      refine TA.takeP 0 rfl (by kernel_rfl) (by kernel_rfl) (by kernel_rfl) rfl (OpVal.moveSl (.inl rfl) rfl) rfl rfl ?_
      refine TA.takeP 1 rfl (by kernel_rfl) (by kernel_rfl) (by kernel_rfl) rfl (OpVal.moveI (.inl rfl) rfl) rfl rfl ?_
      refine TA.take 2 rfl (by kernel_rfl) (by kernel_rfl) (by kernel_rfl) (by kernel_rfl) rfl (OpVal.indexN rfl Try.underlying22 sz3 rfl rfl f0_0.rv.sl (by omega)) rfl rfl ?_
      refine TA.take 3 rfl (by kernel_rfl) (by kernel_rfl) (by kernel_rfl) (by kernel_rfl) rfl (OpVal.loadS1 (0 : Int) rfl ag3 rfl f0_0 (by omega) rfl) rfl rfl ?_
      refine TA.takeP 4 rfl (by kernel_rfl) (by kernel_rfl) (by kernel_rfl) rfl (OpVal.moveSl (.inl rfl) rfl) rfl rfl ?_
      refine TA.takeP 5 rfl (by kernel_rfl) (by kernel_rfl) (by kernel_rfl) rfl (OpVal.moveI (.inl rfl) rfl) rfl rfl ?_
      refine TA.take 6 rfl (by kernel_rfl) (by kernel_rfl) (by kernel_rfl) (by kernel_rfl) rfl (OpVal.indexN rfl Try.underlying22 sz3 rfl rfl f1_0.rv.sl (by omega)) rfl rfl ?_
      refine TA.take 7 rfl (by kernel_rfl) (by kernel_rfl) (by kernel_rfl) (by kernel_rfl) rfl (OpVal.loadS1 (0 : Int) rfl ag3 rfl f1_0 (by omega) rfl) rfl rfl ?_
      refine TA.takeP 8 rfl (by kernel_rfl) (by kernel_rfl) (by kernel_rfl) rfl (OpVal.neq rfl rfl rfl) rfl rfl ?_
      refine TA.done (by kernel_rfl) ?_
      refine S.n ?_
      refine TC.cond rfl (fun h106 => ?_) (fun h106 => ?_)
      · replace hh := iteO_t h106 hh
        replace h106 := of_decide_eq_true h106
        refine TC.seq ?_
        refine TC.region ?_
        refine TL.v rfl (OpVal.moveB (.inr rfl) rfl) rfl rfl ?_
        refine TL.nil ?_
        refine S.n ?_
        refine TC.ret ?_
        refine B.r ?_
        refine S.r ?_
        refine S.r ?_
        replace hh := fin_x hR1 hh
        refine B.r ?_
        refine S.r ?_
        obtain rfl := Option.some.inj hh
        exact RetOk.mk' (rs := [.tmp 4]) [] rfl (.inl rfl) (RVs.tmp rfl RVs.nil) (List.sublist_append_left _ _) ⟨rfl, rfl, rfl⟩
      · replace hh := iteO_f h106 hh
        replace h106 := of_decide_eq_false h106
        refine TC.skip ?_
        refine B.n ?_
        refine S.n ?_
        refine TC.region ?_
        refine TL.v rfl (OpVal.moveI (.inl rfl) rfl) rfl rfl ?_
        refine TL.v rfl (OpVal.succ rfl rfl rfl (by omega)) rfl rfl ?_
        refine TL.v rfl (OpVal.moveI (.inr rfl) rfl) rfl rfl ?_
        refine TL.nil ?_
        refine S.n ?_
        obtain ⟨hh, hlt107⟩ := nxt_x hR1 hh
        refine ⟨by repeat (first | exact Agr.refl _ _ | exact Agr.mask | refine Agr.upd rfl ?_ | refine Agr.maskIn rfl ?_ | refine Agr.upds rfl ?_), ((k104 + 1), ()), hlt107, hh, by repeat (first | exact trivial | refine ⟨rfl, ?_⟩), Sub.pre 0 rfl, rfl⟩
    · replace hh := iteO_f h105 hh
      replace h105 := of_decide_eq_false h105
      refine TC.exit ?_
      refine S.x ?_
      refine S.x ?_
      replace hh := fin_x hR1 hh
      refine TC.exitHere ?_
      refine S.n ?_
      refine TC.seq ?_
      refine TC.region ?_
      refine TL.v rfl (OpVal.moveB (.inr rfl) rfl) rfl rfl ?_
      refine TL.nil ?_
      refine S.n ?_
      refine TC.ret ?_
      obtain rfl := Option.some.inj hh
      exact RetOk.mk' (rs := [.tmp 4]) [] rfl (.inl rfl) (RVs.tmp rfl RVs.nil) (List.sublist_append_left _ _) ⟨rfl, rfl, rfl⟩

noncomputable def whittleref02_Own (x0 : List Int) : Option ((List Int)) :=
  grd ((([] : List Int).length + x0.length) * 8 ≤ 140737488355328) (some (([] : List Int) ++ x0))
def whittleref02_Own_P (σ : Store) (r : (List Int)) : Value → Store → List Res → Prop := fun v σ' H' =>
  ∃ (a1 : Option Addr), ∃ (c1 : Nat),  v = .slice a1 r.length c1 ∧ σ = σ' ∧ H' = [Res.rowS 3 1 Go.E.encI (.slice a1 r.length c1) r]
theorem whittleref02_Own_con {σ : Store} {x0 : List Int} {a0_0 : Option Addr} {c0_0 : Nat} (f0_0 : RS σ 1 Go.E.encI (.slice a0_0 x0.length c0_0) x0) {r : (List Int)} (hh : whittleref02_Own x0 = some r) :
    Con Try.prog 47 #[.slice a0_0 x0.length c0_0] σ [] (whittleref02_Own_P σ r) := by
  dsimp only [whittleref02_Own] at hh
  have f0_0b := f0_0.rv.big
  refine Con.mk (n := 8) Try.func47 rfl rfl rfl (fun w0 => ?_)
  refine TC.seq ?_
  refine TC.region ?_
  refine TL.v rfl (OpVal.moveSl (.inr rfl) rfl) rfl rfl ?_
  refine TL.nil ?_
  refine S.n ?_
  refine TC.seq ?_
  refine TC.region ?_
  refine TL.v rfl (OpVal.moveSl (.inr rfl) rfl) rfl rfl ?_
  refine TL.nil ?_
  refine S.n ?_
  refine TC.seq ?_
  refine TC.region ?_
  refine TL.v rfl (OpVal.moveSl (.inl rfl) rfl) rfl rfl ?_
  refine TL.v rfl (OpVal.moveSl (.inl rfl) rfl) rfl rfl ?_
  refine TL.nilS 3 1 Go.E.encI ?_
  have u5 := grd_c hh
  replace hh := grd_t hh
  refine TL.op rfl (OpOk.appendS rfl rfl Try.underlying22 sz3 by3 ze3 rfl rfl (by decide) rfl rfl rfl (.inl f0_0) (by simpa using u5) (by decide) (fun a102 c103 => ?_))
  refine TL.v rfl (OpVal.moveSl (.inr rfl) rfl) rfl rfl ?_
  refine TL.nil ?_
  refine S.n ?_
  refine TC.seq ?_
  refine TC.region ?_
  refine TL.v rfl (OpVal.moveSl (.inl rfl) rfl) rfl rfl ?_
  refine TL.v rfl (OpVal.moveSl (.inr rfl) rfl) rfl rfl ?_
  refine TL.nil ?_
  refine S.n ?_
  refine TC.ret ?_
  obtain rfl := Option.some.inj hh
  exact RetOk.mk' (rs := [.tmp 2]) [Res.rowS 3 1 Go.E.encI (.slice a102 (([] : List Int) ++ x0).length c103) (([] : List Int) ++ x0)] rfl (.inl rfl) (RVs.tmp rfl RVs.nil) (List.sublist_append_left _ _) ⟨a102, c103, rfl, rfl, rfl⟩

noncomputable def whittleref05_Table_Find_b1 (x0 : RTable) (v4 : (List Int)) (k110 : Nat) : Option ((Nat) ⊕ (Int × Bool)) :=
  iteO (decide (((k110 : Nat) : Int) < ((x0.l.length : Nat) : Int))) (bnd (whittleref02_Ints (nth x0.l k110 ([] : List Int)) v4) (fun v22 => iteO v22 (fin (some (((k110 : Nat) : Int), true))) (nxt (k110 + 1)))) (fin (some (0, false)))
noncomputable def whittleref05_Table_Find (x0 : RTable) (x1 : List Int) : Option (Int × Bool) :=
  bnd (whittleref05_Sort x1) (fun v4 => iter (fun q : Nat => whittleref05_Table_Find_b1 x0 v4 q) 0)
theorem whittleref05_Table_Find_con {σ : Store} {x0 : RTable} {b0_0 : Nat} {Eb0 : Nat} {a0_1 : Option Addr} {c0_2 : Nat} {z0_3 : List (List Int × (pkSl 1 Go.E.encI Go.E.encI_len).P)} {x1 : List Int} {a1_0 : Option Addr} {c1_0 : Nat} (zf0_4 : ZOk σ (pkSl 1 Go.E.encI Go.E.encI_len) z0_3 x0.l) (f1_0 : RS σ 1 Go.E.encI (.slice a1_0 x1.length c1_0) x1) {r : Int × Bool} (hh : whittleref05_Table_Find x0 x1 = some r) :
    Con Try.prog 43 #[loc b0_0 0, .slice a1_0 x1.length c1_0] σ [Res.cells b0_0 #[.slice a0_1 x0.l.length c0_2] Eb0, Res.rowS 22 1 (pkSl 1 Go.E.encI Go.E.encI_len).en (.slice a0_1 x0.l.length c0_2) z0_3] (fun v σ' H' => v = .tuple #[.int .i64 r.1, .bool r.2] ∧ σ = σ' ∧ H' = [Res.cells b0_0 #[.slice a0_1 x0.l.length c0_2] Eb0, Res.rowS 22 1 (pkSl 1 Go.E.encI Go.E.encI_len).en (.slice a0_1 x0.l.length c0_2) z0_3]) := by
  dsimp only [whittleref05_Table_Find] at hh
  have zf0_4b := zf0_4.length
  have f1_0b := f1_0.rv.big
  refine Con.mk (n := 29) Try.func43 rfl rfl rfl (fun w0 => ?_)
  refine TC.seq ?_
  refine TC.region ?_
  refine TL.v rfl (OpVal.moveI (.inr rfl) rfl) rfl rfl ?_
  refine TL.v rfl (OpVal.moveB (.inr rfl) rfl) rfl rfl ?_
  refine TL.nil ?_
  refine S.n ?_
  refine TC.seq ?_
  refine TC.region ?_
  refine TL.v rfl (OpVal.moveSl (.inl rfl) rfl) rfl rfl ?_
  obtain ⟨v4, u4, hh⟩ := bnd_e hh
  refine TL.op rfl (OpOk.call (whittleref05_Sort_con f1_0 u4) rfl rfl pf49 rfl rfl rfl rfl ?_)
  rintro _ τ103 _ hle103 ⟨a103_1, c103_1, rfl, hr103_0, rfl⟩
  replace zf0_4 := zf0_4.mono hle103
  replace f1_0 := f1_0.mono hle103
  have hr103_0b := hr103_0.rv.big
  refine TL.v rfl (OpVal.moveSl (.inr rfl) rfl) rfl rfl ?_
  refine TL.nil ?_
  refine S.n ?_
  refine TC.seq ?_
  refine TC.seq ?_
  refine TC.region ?_
  refine TL.v rfl (OpVal.moveI (.inr rfl) rfl) rfl rfl ?_
  refine TL.nil ?_
  refine S.n ?_
  refine TC.block ?_
  refine TC.loopG (α := (Nat) × (Store)) [4, 5, 7, 10, 11, 12, 13, 14, 15, 16, 17, 18, 19, 20, 21, 22, 23, 24, 25, 26, 27, 28] (fun g => [(7, .int .i64 ((g.1 : Nat) : Int))]) (fun g => [Res.cells b0_0 #[.slice a0_1 x0.l.length c0_2] Eb0, Res.rowS 22 1 (pkSl 1 Go.E.encI Go.E.encI_len).en (.slice a0_1 x0.l.length c0_2) z0_3]) (fun g => g.2) (fun g => iter (fun q : Nat => whittleref05_Table_Find_b1 x0 v4 q) g.1 = some r ∧ ZOk g.2 (pkSl 1 Go.E.encI Go.E.encI_len) z0_3 x0.l ∧ Store.le τ103 g.2) (fun g => rounds (fun q : Nat => whittleref05_Table_Find_b1 x0 v4 q) g.1) (0, τ103) (Sub.front 1 rfl rfl (Sub.front 1 rfl rfl (Sub.pre 2 rfl))) rfl (by repeat (first | exact trivial | refine ⟨rfl, ?_⟩)) ⟨hh, zf0_4, (Store.le.refl _)⟩ (fun g1 j1 hg1 => ?_)
  obtain ⟨k110, τ111⟩ := g1
  obtain ⟨hh, zf109, hle112⟩ := hg1
  try dsimp only at zf109
  dsimp only at hle112
  replace zf0_4 := zf0_4.mono hle112
  replace f1_0 := f1_0.mono hle112
  replace hr103_0 := hr103_0.mono hle112
  show TC _ _ _ (upds (mask _ j1 _) [(7, .int .i64 ((k110 : Nat) : Int))]) τ111 [Res.cells b0_0 #[.slice a0_1 x0.l.length c0_2] Eb0, Res.rowS 22 1 (pkSl 1 Go.E.encI Go.E.encI_len).en (.slice a0_1 x0.l.length c0_2) z0_3]
  obtain ⟨z1, hh, hR1⟩ := iter_e hh
  dsimp only [whittleref05_Table_Find_b1] at hh
  have zf109b := zf109.length
  refine TC.isSl (i := 1) rfl (fun _ hb113 _ => ?_)
  refine TC.seq ?_
  refine TC.seq ?_
  refine TC.region ?_
  refine TL.v rfl (OpVal.moveI (.inl rfl) rfl) rfl rfl ?_
  refine TL.v rfl (OpVal.moveLoc (.inl rfl) rfl) rfl rfl ?_
  refine TL.v rfl (OpVal.nilCheckLoc rfl rfl) rfl rfl ?_
  refine TL.v rfl (OpVal.fieldLoc rfl fo60_0 rfl) rfl rfl ?_
  refine TL.v rfl (OpVal.loadLoc rfl ag56 rfl (i := 0) rfl rfl) rfl rfl ?_
  refine TL.v rfl (OpVal.lenC rfl Try.underlying56 rfl) rfl rfl ?_
  refine TL.v rfl (OpVal.lss rfl rfl rfl) rfl rfl ?_
  refine TL.nil ?_
  refine S.n ?_
  refine TC.cond rfl (fun h114 => ?_) (fun h114 => ?_)
  · replace hh := iteO_t h114 hh
    replace h114 := of_decide_eq_true h114
    refine TC.skip ?_
    refine S.n ?_
    refine TC.seq ?_
    refine TC.block ?_
    refine TC.seq ?_
    refine TC.region ?_
    refine TL.v rfl (OpVal.moveLoc (.inl rfl) rfl) rfl rfl ?_
    refine TL.v rfl (OpVal.nilCheckLoc rfl rfl) rfl rfl ?_
    refine TL.v rfl (OpVal.fieldLoc rfl fo60_0 rfl) rfl rfl ?_
    refine TL.v rfl (OpVal.loadLoc rfl ag56 rfl (i := 0) rfl rfl) rfl rfl ?_
    refine TL.v rfl (OpVal.moveI (.inl rfl) rfl) rfl rfl ?_
    refine TL.isSl (i := 1) rfl (fun hs115 _ _ => ?_)
    refine TL.v rfl (OpVal.indexN rfl Try.underlying56 sz22 rfl rfl (zf109.isSl hs115) (by omega)) rfl rfl ?_
    obtain ⟨p116, hp116⟩ : ∃ p, p = (nth z0_3 k110 ((pkSl 1 Go.E.encI Go.E.encI_len).d, (pkSl 1 Go.E.encI Go.E.encI_len).dp)).2 := ⟨_, rfl⟩
    have hk116 : RS τ111 1 Go.E.encI (.slice p116.1 (nth x0.l k110 ([] : List Int)).length p116.2) (nth x0.l k110 ([] : List Int)) := by rw [hp116]; exact (zf109.at (by omega)).2
    refine TL.v rfl (OpVal.of (hp116 ▸ OpVal.loadOZ1 zf109 rfl ag22 rfl (q := 1) rfl (by omega) rfl) (v' := .slice p116.1 ((nth x0.l k110 ([] : List Int)).length) p116.2) rfl) rfl rfl ?_
    refine TL.v rfl (OpVal.moveSl (.inl rfl) rfl) rfl rfl ?_
    obtain ⟨v22, u22, hh⟩ := bnd_e hh
    refine TL.op rfl (OpOk.callP (whittleref02_Ints_con hk116 hr103_0 u22) rfl rfl pf46 rfl rfl rfl ?_)
    refine TL.nil ?_
    refine S.n ?_
    refine TC.cond rfl (fun h117 => ?_) (fun h117 => ?_)
    · replace hh := iteO_t h117 hh
      refine TC.seq ?_
      refine TC.region ?_
      refine TL.v rfl (OpVal.moveI (.inl rfl) rfl) rfl rfl ?_
      refine TL.v rfl (OpVal.moveI (.inr rfl) rfl) rfl rfl ?_
      refine TL.v rfl (OpVal.moveB (.inr rfl) rfl) rfl rfl ?_
      refine TL.nil ?_
      refine S.n ?_
      refine TC.back ?_
      refine TC.ret ?_
      refine B.r ?_
      refine S.r ?_
      refine S.r ?_
      replace hh := fin_x hR1 hh
      refine B.r ?_
      refine S.r ?_
      obtain rfl := Option.some.inj hh
      exact RetOk.mk' (rs := [.tmp 4, .tmp 5]) [Res.cells b0_0 #[.slice a0_1 x0.l.length c0_2] Eb0, Res.rowS 22 1 (pkSl 1 Go.E.encI Go.E.encI_len).en (.slice a0_1 x0.l.length c0_2) z0_3] rfl (.inl rfl) (RVs.tmp rfl (RVs.tmp rfl RVs.nil)) (List.sublist_append_left _ _) ⟨rfl, rfl, rfl⟩
    · replace hh := iteO_f h117 hh
      refine TC.skip ?_
      refine B.n ?_
      refine S.n ?_
      refine TC.region ?_
      refine TL.v rfl (OpVal.moveI (.inl rfl) rfl) rfl rfl ?_
      refine TL.v rfl (OpVal.succ rfl rfl rfl (by omega)) rfl rfl ?_
      refine TL.v rfl (OpVal.moveI (.inr rfl) rfl) rfl rfl ?_
      refine TL.nil ?_
      refine S.n ?_
      obtain ⟨hh, hlt118⟩ := nxt_x hR1 hh
      refine ⟨by repeat (first | exact Agr.refl _ _ | exact Agr.mask | refine Agr.upd rfl ?_ | refine Agr.maskIn rfl ?_ | refine Agr.upds rfl ?_), ((k110 + 1), τ111), hlt118, ⟨hh, zf109, hle112⟩, by repeat (first | exact trivial | refine ⟨rfl, ?_⟩), Sub.front 1 rfl rfl (Sub.front 1 rfl rfl (Sub.pre 2 rfl)), rfl⟩
  · replace hh := iteO_f h114 hh
    replace h114 := of_decide_eq_false h114
    refine TC.exit ?_
    refine S.x ?_
    refine S.x ?_
    replace hh := fin_x hR1 hh
    refine TC.exitHere ?_
    refine S.n ?_
    refine TC.seq ?_
    refine TC.region ?_
    refine TL.v rfl (OpVal.moveI (.inr rfl) rfl) rfl rfl ?_
    refine TL.v rfl (OpVal.moveB (.inr rfl) rfl) rfl rfl ?_
    refine TL.nil ?_
    refine S.n ?_
    refine TC.back ?_
    refine TC.ret ?_
    obtain rfl := Option.some.inj hh
    exact RetOk.mk' (rs := [.tmp 4, .tmp 5]) [Res.cells b0_0 #[.slice a0_1 x0.l.length c0_2] Eb0, Res.rowS 22 1 (pkSl 1 Go.E.encI Go.E.encI_len).en (.slice a0_1 x0.l.length c0_2) z0_3] rfl (.inl rfl) (RVs.tmp rfl (RVs.tmp rfl RVs.nil)) (List.sublist_append_left _ _) ⟨rfl, rfl, rfl⟩

noncomputable def whittleref05_Table_Put (x0 : RTable) (x1 : List Int) : Option (Int × Bool × Int × RTable) :=
  bnd (whittleref05_Table_Find (⟨x0.l⟩ : RTable) x1) (fun v6 => iteO v6.2 (some (v6.1, false, 0, (⟨x0.l⟩ : RTable))) (iteO (decide (4096 ≤ ((x0.l.length : Nat) : Int))) (some (0, false, 2, (⟨x0.l⟩ : RTable))) (bnd (whittleref05_Sort x1) (fun v32 => grd ((x0.l.length + [v32].length) * 24 ≤ 140737488355328) (some (IntKind.i64.wrap ((((x0.l ++ [v32]).length : Nat) : Int) - 1), true, 0, (⟨(x0.l ++ [v32])⟩ : RTable)))))))
theorem whittleref05_Table_Put_con {σ : Store} {x0 : RTable} {b0_0 : Nat} {Eb0 : Nat} {a0_1 : Option Addr} {c0_2 : Nat} {z0_3 : List (List Int × (pkSl 1 Go.E.encI Go.E.encI_len).P)} {x1 : List Int} {a1_0 : Option Addr} {c1_0 : Nat} (zf0_4 : ZOk σ (pkSl 1 Go.E.encI Go.E.encI_len) z0_3 x0.l) (f1_0 : RS σ 1 Go.E.encI (.slice a1_0 x1.length c1_0) x1) {r : Int × Bool × Int × RTable} (hh : whittleref05_Table_Put x0 x1 = some r) :
    Con Try.prog 41 #[loc b0_0 0, .slice a1_0 x1.length c1_0] σ [Res.cells b0_0 #[.slice a0_1 x0.l.length c0_2] Eb0, Res.rowS 22 1 (pkSl 1 Go.E.encI Go.E.encI_len).en (.slice a0_1 x0.l.length c0_2) z0_3] (fun v σ' H' => ∃ (ao1 : Option Addr), ∃ (co2 : Nat), ∃ (zo3 : List (List Int × (pkSl 1 Go.E.encI Go.E.encI_len).P)), v = .tuple #[.int .i64 r.1, .bool r.2.1, .int .i64 r.2.2.1] ∧ ZOk σ' (pkSl 1 Go.E.encI Go.E.encI_len) zo3 r.2.2.2.l ∧ H' = [Res.cells b0_0 #[.slice ao1 r.2.2.2.l.length co2] Eb0, Res.rowS 22 1 (pkSl 1 Go.E.encI Go.E.encI_len).en (.slice ao1 r.2.2.2.l.length co2) zo3]) := by
  dsimp only [whittleref05_Table_Put] at hh
  have zf0_4b := zf0_4.length
  have f1_0b := f1_0.rv.big
  refine Con.mk (n := 40) Try.func41 rfl rfl rfl (fun w0 => ?_)
  refine TC.seq ?_
  refine TC.region ?_
  refine TL.v rfl (OpVal.moveI (.inr rfl) rfl) rfl rfl ?_
  refine TL.v rfl (OpVal.moveB (.inr rfl) rfl) rfl rfl ?_
  refine TL.v rfl (OpVal.moveI (.inr rfl) rfl) rfl rfl ?_
  refine TL.nil ?_
  refine S.n ?_
  refine TC.seq ?_
  refine TC.region ?_
  refine TL.v rfl (OpVal.moveLoc (.inl rfl) rfl) rfl rfl ?_
  refine TL.v rfl (OpVal.moveSl (.inl rfl) rfl) rfl rfl ?_
  refine TL.front 1 rfl rfl ?_
  refine TL.front 1 rfl rfl ?_
  obtain ⟨v6, u6, hh⟩ := bnd_e hh
  refine TL.op rfl (OpOk.call (whittleref05_Table_Find_con zf0_4 f1_0 u6) rfl rfl pf43 rfl rfl rfl rfl ?_)
  rintro _ _ _ hle104 ⟨rfl, rfl, rfl⟩
  refine TL.v rfl (OpVal.moveT (.inl rfl) rfl) rfl rfl ?_
  refine TL.v rfl (OpVal.extract rfl rfl rfl) rfl rfl ?_
  refine TL.v rfl (OpVal.extract rfl rfl rfl) rfl rfl ?_
  refine TL.v rfl (OpVal.moveI (.inr rfl) rfl) rfl rfl ?_
  refine TL.v rfl (OpVal.moveB (.inr rfl) rfl) rfl rfl ?_
  refine TL.nil ?_
  refine S.n ?_
  refine TC.seq ?_
  refine TC.seq ?_
  refine TC.region ?_
  refine TL.v rfl (OpVal.moveB (.inl rfl) rfl) rfl rfl ?_
  refine TL.nil ?_
  refine S.n ?_
  refine TC.cond rfl (fun h105 => ?_) (fun h105 => ?_)
  · replace hh := iteO_t h105 hh
    refine TC.seq ?_
    refine TC.region ?_
    refine TL.v rfl (OpVal.moveI (.inl rfl) rfl) rfl rfl ?_
    refine TL.v rfl (OpVal.moveI (.inr rfl) rfl) rfl rfl ?_
    refine TL.v rfl (OpVal.moveB (.inr rfl) rfl) rfl rfl ?_
    refine TL.v rfl (OpVal.moveI (.inr rfl) rfl) rfl rfl ?_
    refine TL.nil ?_
    refine S.n ?_
    refine TC.ret ?_
    refine S.r ?_
    obtain rfl := Option.some.inj hh
    exact RetOk.mk' (rs := [.tmp 4, .tmp 5, .tmp 6]) [Res.cells b0_0 #[.slice a0_1 x0.l.length c0_2] Eb0, Res.rowS 22 1 (pkSl 1 Go.E.encI Go.E.encI_len).en (.slice a0_1 x0.l.length c0_2) z0_3] rfl (.inl rfl) (RVs.tmp rfl (RVs.tmp rfl (RVs.tmp rfl RVs.nil))) (List.sublist_append_left _ _) ⟨a0_1, c0_2, z0_3, rfl, zf0_4, rfl⟩
  · replace hh := iteO_f h105 hh
    refine TC.skip ?_
    refine S.n ?_
    refine TC.seq ?_
    refine TC.seq ?_
    refine TC.region ?_
    refine TL.v rfl (OpVal.moveLoc (.inl rfl) rfl) rfl rfl ?_
    refine TL.v rfl (OpVal.nilCheckLoc rfl rfl) rfl rfl ?_
    refine TL.v rfl (OpVal.fieldLoc rfl fo60_0 rfl) rfl rfl ?_
    refine TL.v rfl (OpVal.loadLoc rfl ag56 rfl (i := 0) rfl rfl) rfl rfl ?_
    refine TL.v rfl (OpVal.lenC rfl Try.underlying56 rfl) rfl rfl ?_
    refine TL.v rfl (OpVal.geq rfl rfl rfl) rfl rfl ?_
    refine TL.nil ?_
    refine S.n ?_
    refine TC.cond rfl (fun h106 => ?_) (fun h106 => ?_)
    · replace hh := iteO_t h106 hh
      replace h106 := of_decide_eq_true h106
      refine TC.seq ?_
      refine TC.region ?_
      refine TL.v rfl (OpVal.moveI (.inr rfl) rfl) rfl rfl ?_
      refine TL.v rfl (OpVal.moveB (.inr rfl) rfl) rfl rfl ?_
      refine TL.v rfl (OpVal.moveI (.inr rfl) rfl) rfl rfl ?_
      refine TL.nil ?_
      refine S.n ?_
      refine TC.ret ?_
      refine S.r ?_
      obtain rfl := Option.some.inj hh
      exact RetOk.mk' (rs := [.tmp 4, .tmp 5, .tmp 6]) [Res.cells b0_0 #[.slice a0_1 x0.l.length c0_2] Eb0, Res.rowS 22 1 (pkSl 1 Go.E.encI Go.E.encI_len).en (.slice a0_1 x0.l.length c0_2) z0_3] rfl (.inl rfl) (RVs.tmp rfl (RVs.tmp rfl (RVs.tmp rfl RVs.nil))) (List.sublist_append_left _ _) ⟨a0_1, c0_2, z0_3, rfl, zf0_4, rfl⟩
    · replace hh := iteO_f h106 hh
      replace h106 := of_decide_eq_false h106
      refine TC.skip ?_
      refine S.n ?_
      refine TC.seq ?_
      obtain ⟨v32, u32, hh⟩ := bnd_e hh
      have u34 := grd_c hh
      replace hh := grd_t hh
      refine TC.draw [8, 9, 10, 11] (by kernel_rfl) ?_
      refine TA.takeP 0 rfl (by kernel_rfl) (by kernel_rfl) (by kernel_rfl) rfl (OpVal.moveLoc (.inl rfl) rfl) rfl rfl ?_
      refine TA.takeP 1 rfl (by kernel_rfl) (by kernel_rfl) (by kernel_rfl) rfl (OpVal.moveLoc (.inl rfl) rfl) rfl rfl ?_
      refine TA.takeP 2 rfl (by kernel_rfl) (by kernel_rfl) (by kernel_rfl) rfl (OpVal.nilCheckLoc rfl rfl) rfl rfl ?_
      refine TA.takeP 3 rfl (by kernel_rfl) (by kernel_rfl) (by kernel_rfl) rfl (OpVal.fieldLoc rfl fo60_0 rfl) rfl rfl ?_
      refine TA.take 4 rfl (by kernel_rfl) (by kernel_rfl) (by kernel_rfl) (by kernel_rfl) rfl (OpVal.loadLoc rfl ag56 rfl (i := 0) rfl rfl) rfl rfl ?_
      refine TA.takeP 5 rfl (by kernel_rfl) (by kernel_rfl) (by kernel_rfl) rfl (OpVal.moveSl (.inl rfl) rfl) rfl rfl ?_
      refine TA.act 6 (by kernel_rfl) rfl rfl (OpOk.call (whittleref05_Sort_con f1_0 u32) rfl rfl pf49 rfl rfl rfl rfl ?_)
      rintro _ τ115 _ hle115 ⟨a115_1, c115_1, rfl, hr115_0, rfl⟩
      replace zf0_4 := zf0_4.mono hle115
      replace f1_0 := f1_0.mono hle115
      have hr115_0b := hr115_0.rv.big
      refine ⟨(fun w h => sees_of hle115 (fun r hr => hr) w h), ?_⟩
      have zf118 : ZOk _ (pkSl 1 Go.E.encI Go.E.encI_len) ([(v32, (a115_1, c115_1))] : List (List Int × (pkSl 1 Go.E.encI Go.E.encI_len).P)) [v32] := ZOk.cons (hr115_0) (ZOk.nil _ _)
      refine TA.act 7 (by kernel_rfl) rfl rfl (OpOk.litZ zf118 rfl Try.underlying56 sz22 rfl ze22 rfl rfl rfl (by decide) (by decide) rfl (by decide) rfl (by decide) (fun a116 c117 => ⟨(fun w h => sees_of hle115 (fun r hr => (List.mem_cons_of_mem _ hr)) w h), ?_⟩))
      refine TA.front 2 rfl rfl ?_
      refine TA.last 8 (by kernel_rfl) rfl rfl rfl (OpOk.appendZ (k := (pkSl 1 Go.E.encI Go.E.encI_len)) zf0_4 zf118 rfl rfl Try.underlying56 sz22 by22 ze22 rfl rfl (by decide) rfl rfl rfl (.inr ⟨_, 0, rfl⟩) (by simpa using u34) (by decide) (fun a120 c121 zf122 => ?_))
      refine TZ.v 9 (by kernel_rfl) rfl rfl rfl (OpVal.nilCheckLoc rfl rfl) rfl rfl ?_
      refine TZ.v 10 (by kernel_rfl) rfl rfl rfl (OpVal.fieldLoc rfl fo60_0 rfl) rfl rfl ?_
      refine TZ.front 2 rfl rfl ?_
      refine TZ.last 11 (by kernel_rfl) rfl rfl rfl (OpOk.storeSl rfl sz56 rfl rfl rfl rfl rfl ?_)
      refine TZ.done (by kernel_rfl) ?_
      refine S.n ?_
      refine TC.seq ?_
      refine TC.region ?_
      refine TL.v rfl (OpVal.moveLoc (.inl rfl) rfl) rfl rfl ?_
      refine TL.v rfl (OpVal.nilCheckLoc rfl rfl) rfl rfl ?_
      refine TL.v rfl (OpVal.fieldLoc rfl fo60_0 rfl) rfl rfl ?_
      refine TL.v rfl (OpVal.loadLoc rfl ag56 rfl (i := 0) rfl rfl) rfl rfl ?_
      refine TL.v rfl (OpVal.lenC rfl Try.underlying56 rfl) rfl rfl ?_
      refine TL.v rfl (OpVal.subW rfl rfl rfl) rfl rfl ?_
      refine TL.v rfl (OpVal.moveI (.inr rfl) rfl) rfl rfl ?_
      refine TL.v rfl (OpVal.moveB (.inr rfl) rfl) rfl rfl ?_
      refine TL.v rfl (OpVal.moveI (.inr rfl) rfl) rfl rfl ?_
      refine TL.nil ?_
      refine S.n ?_
      refine TC.ofSub (Sub.front 1 rfl rfl (Sub.front 1 rfl rfl (Sub.pre 2 rfl))) ?_
      refine TC.ret ?_
      obtain rfl := Option.some.inj hh
      exact RetOk.mk' (rs := [.tmp 4, .tmp 5, .tmp 6]) [Res.cells b0_0 #[.slice a120 ((x0.l ++ [v32]).length) c121] Eb0, Res.rowS 22 1 (pkSl 1 Go.E.encI Go.E.encI_len).en (.slice a120 (x0.l ++ [v32]).length c121) (z0_3 ++ ([(v32, (a115_1, c115_1))] : List (List Int × (pkSl 1 Go.E.encI Go.E.encI_len).P)))] rfl (.inl rfl) (RVs.tmp rfl (RVs.tmp rfl (RVs.tmp rfl RVs.nil))) (List.sublist_append_left _ _) ⟨a120, c121, (z0_3 ++ ([(v32, (a115_1, c115_1))] : List (List Int × (pkSl 1 Go.E.encI Go.E.encI_len).P))), rfl, zf122, rfl⟩

noncomputable def whittleref05_Table_Row (x0 : RTable) (x1 : Int) : Option ((List Int) × Int) :=
  iteO (decide (x1 < 0)) (some (([] : List Int), 1)) (iteO (decide (((x0.l.length : Nat) : Int) ≤ x1)) (some (([] : List Int), 1)) (grd (0 ≤ x1 ∧ x1 < (x0.l.length : Int)) (bnd (whittleref02_Own (nth x0.l x1.toNat ([] : List Int))) (fun v23 => some (v23, 0)))))
theorem whittleref05_Table_Row_con {σ : Store} {x0 : RTable} {b0_0 : Nat} {Eb0 : Nat} {a0_1 : Option Addr} {c0_2 : Nat} {z0_3 : List (List Int × (pkSl 1 Go.E.encI Go.E.encI_len).P)} {x1 : Int} (zf0_4 : ZOk σ (pkSl 1 Go.E.encI Go.E.encI_len) z0_3 x0.l) {r : (List Int) × Int} (hh : whittleref05_Table_Row x0 x1 = some r) :
    Con Try.prog 45 #[loc b0_0 0, .int .i64 x1] σ [Res.cells b0_0 #[.slice a0_1 x0.l.length c0_2] Eb0, Res.rowS 22 1 (pkSl 1 Go.E.encI Go.E.encI_len).en (.slice a0_1 x0.l.length c0_2) z0_3] (fun v σ' H' => ∃ (a1 : Option Addr), ∃ (c1 : Nat), v = .tuple #[.slice a1 r.1.length c1, .int .i64 r.2] ∧ RS σ' 1 Go.E.encI (.slice a1 r.1.length c1) r.1 ∧ H' = [Res.cells b0_0 #[.slice a0_1 x0.l.length c0_2] Eb0, Res.rowS 22 1 (pkSl 1 Go.E.encI Go.E.encI_len).en (.slice a0_1 x0.l.length c0_2) z0_3]) := by
  dsimp only [whittleref05_Table_Row] at hh
  have zf0_4b := zf0_4.length
  refine Con.mk (n := 25) Try.func45 rfl rfl rfl (fun w0 => ?_)
  refine TC.seq ?_
  refine TC.region ?_
  refine TL.v rfl (OpVal.moveSl (.inr rfl) rfl) rfl rfl ?_
  refine TL.v rfl (OpVal.moveI (.inr rfl) rfl) rfl rfl ?_
  refine TL.nil ?_
  refine S.n ?_
  refine TC.seq ?_
  refine TC.seq ?_
  refine TC.region ?_
  refine TL.v rfl (OpVal.moveI (.inl rfl) rfl) rfl rfl ?_
  refine TL.v rfl (OpVal.lss rfl rfl rfl) rfl rfl ?_
  refine TL.v rfl (OpVal.moveB (.inl rfl) rfl) rfl rfl ?_
  refine TL.split 8 rfl (fun h103 => ?_) (fun h103 => ?_)
  · replace hh := iteO_t h103 hh
    replace h103 := of_decide_eq_true h103
    refine TL.goff rfl rfl rfl rfl rfl rfl rfl rfl ?_
    refine TL.goff rfl rfl rfl rfl rfl rfl rfl rfl ?_
    refine TL.goff rfl rfl rfl rfl rfl rfl rfl rfl ?_
    refine TL.goff rfl rfl rfl rfl rfl rfl rfl rfl ?_
    refine TL.goff rfl rfl rfl rfl rfl rfl rfl rfl ?_
    refine TL.goff rfl rfl rfl rfl rfl rfl rfl rfl ?_
    refine TL.goff rfl rfl rfl rfl rfl rfl rfl rfl ?_
    refine TL.v rfl (OpVal.pickTB rfl rfl rfl) rfl rfl ?_
    refine TL.nil ?_
    refine S.n ?_
    refine TC.cond rfl (fun _ => ?_) (fun h => Bool.noConfusion h)
    refine TC.seq ?_
    refine TC.region ?_
    refine TL.v rfl (OpVal.moveSl (.inr rfl) rfl) rfl rfl ?_
    refine TL.v rfl (OpVal.moveI (.inr rfl) rfl) rfl rfl ?_
    refine TL.nil ?_
    refine S.n ?_
    refine TC.ret ?_
    refine S.r ?_
    obtain rfl := Option.some.inj hh
    exact RetOk.mk' (rs := [.tmp 4, .tmp 5]) [Res.cells b0_0 #[.slice a0_1 x0.l.length c0_2] Eb0, Res.rowS 22 1 (pkSl 1 Go.E.encI Go.E.encI_len).en (.slice a0_1 x0.l.length c0_2) z0_3] rfl (.inl rfl) (RVs.tmp rfl (RVs.tmp rfl RVs.nil)) (List.sublist_append_left _ _) ⟨none, 0, rfl, (RS.nilF _ Go.E.encI Go.E.encI_len), rfl⟩
  · replace hh := iteO_f h103 hh
    replace h103 := of_decide_eq_false h103
    refine TL.gv rfl rfl rfl rfl rfl (OpVal.moveI (.inl rfl) rfl) rfl rfl ?_
    refine TL.gv rfl rfl rfl rfl rfl (OpVal.moveLoc (.inl rfl) rfl) rfl rfl ?_
    refine TL.gv rfl rfl rfl rfl rfl (OpVal.nilCheckLoc rfl rfl) rfl rfl ?_
    refine TL.gv rfl rfl rfl rfl rfl (OpVal.fieldLoc rfl fo60_0 rfl) rfl rfl ?_
    refine TL.gv rfl rfl rfl rfl rfl (OpVal.loadLoc rfl ag56 rfl (i := 0) rfl rfl) rfl rfl ?_
    refine TL.gv rfl rfl rfl rfl rfl (OpVal.lenC rfl Try.underlying56 rfl) rfl rfl ?_
    refine TL.gv rfl rfl rfl rfl rfl (OpVal.geq rfl rfl rfl) rfl rfl ?_
    refine TL.v rfl (OpVal.pickFB rfl rfl rfl) rfl rfl ?_
    refine TL.nil ?_
    refine S.n ?_
    refine TC.cond rfl (fun h104 => ?_) (fun h104 => ?_)
    · replace hh := iteO_t h104 hh
      replace h104 := of_decide_eq_true h104
      refine TC.seq ?_
      refine TC.region ?_
      refine TL.v rfl (OpVal.moveSl (.inr rfl) rfl) rfl rfl ?_
      refine TL.v rfl (OpVal.moveI (.inr rfl) rfl) rfl rfl ?_
      refine TL.nil ?_
      refine S.n ?_
      refine TC.ret ?_
      refine S.r ?_
      obtain rfl := Option.some.inj hh
      exact RetOk.mk' (rs := [.tmp 4, .tmp 5]) [Res.cells b0_0 #[.slice a0_1 x0.l.length c0_2] Eb0, Res.rowS 22 1 (pkSl 1 Go.E.encI Go.E.encI_len).en (.slice a0_1 x0.l.length c0_2) z0_3] rfl (.inl rfl) (RVs.tmp rfl (RVs.tmp rfl RVs.nil)) (List.sublist_append_left _ _) ⟨none, 0, rfl, (RS.nilF _ Go.E.encI Go.E.encI_len), rfl⟩
    · replace hh := iteO_f h104 hh
      replace h104 := of_decide_eq_false h104
      refine TC.skip ?_
      refine S.n ?_
      refine TC.seq ?_
      refine TC.region ?_
      refine TL.v rfl (OpVal.moveLoc (.inl rfl) rfl) rfl rfl ?_
      refine TL.v rfl (OpVal.nilCheckLoc rfl rfl) rfl rfl ?_
      refine TL.v rfl (OpVal.fieldLoc rfl fo60_0 rfl) rfl rfl ?_
      refine TL.v rfl (OpVal.loadLoc rfl ag56 rfl (i := 0) rfl rfl) rfl rfl ?_
      refine TL.v rfl (OpVal.moveI (.inl rfl) rfl) rfl rfl ?_
      have u21 := grd_c hh
      replace hh := grd_t hh
      refine TL.isSl (i := 1) rfl (fun hs105 _ _ => ?_)
      refine TL.v rfl (OpVal.index rfl Try.underlying56 sz22 rfl rfl (zf0_4.isSl hs105) u21.1 u21.2) rfl rfl ?_
      obtain ⟨p106, hp106⟩ : ∃ p, p = (nth z0_3 x1.toNat ((pkSl 1 Go.E.encI Go.E.encI_len).d, (pkSl 1 Go.E.encI Go.E.encI_len).dp)).2 := ⟨_, rfl⟩
      have hk106 : RS σ 1 Go.E.encI (.slice p106.1 (nth x0.l x1.toNat ([] : List Int)).length p106.2) (nth x0.l x1.toNat ([] : List Int)) := by rw [hp106]; exact (zf0_4.at (by omega)).2
      refine TL.v rfl (OpVal.of (hp106 ▸ OpVal.loadOZ1 zf0_4 rfl ag22 rfl (q := 1) rfl (by omega) rfl) (v' := .slice p106.1 ((nth x0.l x1.toNat ([] : List Int)).length) p106.2) rfl) rfl rfl ?_
      obtain ⟨v23, u23, hh⟩ := bnd_e hh
      refine TL.op rfl (OpOk.call (whittleref02_Own_con hk106 u23) rfl rfl pf47 rfl rfl rfl rfl ?_)
      rintro _ _ _ hle107 ⟨a107_1, c107_1, rfl, rfl, rfl⟩
      refine TL.v rfl (OpVal.moveSl (.inr rfl) rfl) rfl rfl ?_
      refine TL.v rfl (OpVal.moveI (.inr rfl) rfl) rfl rfl ?_
      refine TL.nil ?_
      refine S.n ?_
      refine TC.sealS Go.E.encI_len (fun τ111 hle110 hr109 => ?_)
      replace zf0_4 := zf0_4.mono hle110
      replace hk106 := hk106.mono hle110
      have hr109b := hr109.rv.big
      refine TC.ret ?_
      obtain rfl := Option.some.inj hh
      exact RetOk.mk' (rs := [.tmp 4, .tmp 5]) [Res.cells b0_0 #[.slice a0_1 x0.l.length c0_2] Eb0, Res.rowS 22 1 (pkSl 1 Go.E.encI Go.E.encI_len).en (.slice a0_1 x0.l.length c0_2) z0_3] rfl (.inl rfl) (RVs.tmp rfl (RVs.tmp rfl RVs.nil)) (List.sublist_append_left _ _) ⟨a107_1, c107_1, rfl, hr109, rfl⟩

end Go.Proofs.Ytcidppnlhhkhhaa
