/- Decompiled: one or the other. -/
import Derived.Test.YtcidppnlhhkhhaaN1
import Derived.Test.YtcidppnlhhkhhaaDec4
set_option linter.unusedVariables false
set_option linter.unusedSimpArgs false
namespace Go.Proofs.Ytcidppnlhhkhhaa
open Go Go.E
set_option maxRecDepth 100000
private theorem pf66 : Go.E.plainF Try.prog 66 = true := by kernel_rfl
private theorem pf87 : Go.E.plainF Try.prog 87 = true := by kernel_rfl
private theorem ze22 : Go.E.zeroOf Try.prog 22 = some (.slice none 0 0) := by kernel_rfl

noncomputable def growI_j1 (l103 : List Int) : Option ((List Int)) :=
  some l103
noncomputable def growI (x1 : Int) : Option ((List Int)) :=
  iteO (decide (x1 < 0)) (none) (iteO (decide (0 < (IntKind.i64.wrap (x1 - (IntKind.i64.wrap (((0 : Nat) : Int) - ((0 : Nat) : Int))))))) (grd (0 < IntKind.i64.wrap (x1 - (IntKind.i64.wrap (((0 : Nat) : Int) - ((0 : Nat) : Int)))) ∧ (IntKind.i64.wrap (x1 - (IntKind.i64.wrap (((0 : Nat) : Int) - ((0 : Nat) : Int))))).toNat * 8 ≤ 140737488355328) (grd (0 ≤ (List.replicate ((IntKind.i64.wrap (x1 - (IntKind.i64.wrap (((0 : Nat) : Int) - ((0 : Nat) : Int))))).toNat) (0 : Int)).length) (growI_j1 ((List.replicate ((IntKind.i64.wrap (x1 - (IntKind.i64.wrap (((0 : Nat) : Int) - ((0 : Nat) : Int))))).toNat) (0 : Int)).take 0)))) (growI_j1 ([] : List Int)))
def growI_P (σ : Store) (r : (List Int)) : Value → Store → List Res → Prop := fun v σ' H' =>
  ∃ (a1 : Option Addr), ∃ (c1 : Nat),  v = .slice a1 r.length c1 ∧ σ = σ' ∧ H' = [Res.rowS 3 1 encI (.slice a1 r.length c1) r]
theorem growI_con {σ : Store} {x1 : Int}  {r : (List Int)} (hh : growI x1 = some r) :
    Con Try.prog 87 #[.slice none 0 0, .int .i64 x1] σ [] (growI_P σ r) := by
  dsimp only [growI] at hh
  refine Con.mk (n := 27) Try.func87 rfl rfl rfl (fun w0 => ?_)
  refine TC.seq ?_
  refine TC.region ?_
  refine TL.v rfl (OpVal.moveSl (.inr rfl) rfl) rfl rfl ?_
  refine TL.nil ?_
  refine S.n ?_
  refine TC.seq ?_
  refine TC.seq ?_
  refine TC.region ?_
  refine TL.v rfl (OpVal.moveI (.inl rfl) rfl) rfl rfl ?_
  refine TL.v rfl (OpVal.lss rfl rfl rfl) rfl rfl ?_
  refine TL.nil ?_
  refine S.n ?_
  refine TC.cond rfl (fun h101 => ?_) (fun h101 => ?_)
  · replace hh := iteO_t h101 hh
    replace h101 := of_decide_eq_true h101
    cases hh
  · replace hh := iteO_f h101 hh
    replace h101 := of_decide_eq_false h101
    refine TC.skip ?_
    refine S.n ?_
    refine TC.cutG (α := ((List Int)) × ((Option Addr) × Nat)) [0, 1, 8, 9, 10, 11, 12, 13, 14, 15, 16, 17, 18, 19, 20, 21, 22, 23, 24, 25] (fun g => [(0, .slice g.2.1 g.1.length g.2.2)]) (fun g => [Res.rowS 3 1 encI (.slice g.2.1 g.1.length g.2.2) g.1]) (fun g => σ) (fun g => growI_j1 g.1 = some r) ?_ (fun g j hg => ?_)
    · skip
      refine TC.seq ?_
      refine TC.region ?_
      refine TL.v rfl (OpVal.moveI (.inl rfl) rfl) rfl rfl ?_
      refine TL.v rfl (OpVal.moveSl (.inl rfl) rfl) rfl rfl ?_
      refine TL.v rfl (OpVal.capC rfl Try.underlying22 rfl) rfl rfl ?_
      refine TL.v rfl (OpVal.moveSl (.inl rfl) rfl) rfl rfl ?_
      refine TL.v rfl (OpVal.lenC rfl Try.underlying22 rfl) rfl rfl ?_
      refine TL.v rfl (OpVal.subW rfl rfl rfl) rfl rfl ?_
      refine TL.v rfl (OpVal.subW rfl rfl rfl) rfl rfl ?_
      refine TL.v rfl (OpVal.moveI (.inr rfl) rfl) rfl rfl ?_
      refine TL.nil ?_
      refine S.n ?_
      refine TC.seq ?_
      refine TC.region ?_
      refine TL.v rfl (OpVal.moveI (.inl rfl) rfl) rfl rfl ?_
      refine TL.v rfl (OpVal.gtr rfl rfl rfl) rfl rfl ?_
      refine TL.nil ?_
      refine S.n ?_
      refine TC.cond rfl (fun h106 => ?_) (fun h106 => ?_)
      · replace hh := iteO_t h106 hh
        replace h106 := of_decide_eq_true h106
        refine TC.region ?_
        refine TL.v rfl (OpVal.moveSl (.inl rfl) rfl) rfl rfl ?_
        refine TL.v rfl (OpVal.moveSl (.inl rfl) rfl) rfl rfl ?_
        refine TL.v rfl (OpVal.capC rfl Try.underlying22 rfl) rfl rfl ?_
        refine TL.v rfl (OpVal.sliceNil rfl Try.underlying22 sz3 rfl rfl) rfl rfl ?_
        refine TL.v rfl (OpVal.moveI (.inl rfl) rfl) rfl rfl ?_
        have u21 := grd_c hh
        replace hh := grd_t hh
        refine TL.op rfl (OpOk.appendMake (m := (IntKind.i64.wrap (x1 - (IntKind.i64.wrap (((0 : Nat) : Int) - ((0 : Nat) : Int))))).toNat) (enc := encI) (0 : Int) rfl Try.underlying22 Try.underlying3 sz3 by3 ze3 rfl rfl rfl (by show Value.int _ _ = _; rw [Int.toNat_of_nonneg (by omega)]) (by omega) (by decide) encI_len (by decide) rfl encI_one (fun a107 c108 => ?_))
        refine TL.v rfl (OpVal.moveSl (.inl rfl) rfl) rfl rfl ?_
        refine TL.v rfl (OpVal.lenC rfl Try.underlying22 rfl) rfl rfl ?_
        have u24 := grd_c hh
        replace hh := grd_t hh
        refine TL.op rfl (OpOk.cutS rfl Try.underlying22 sz3 rfl rfl rfl rfl rfl (by omega) encI_len ?_)
        refine TL.v rfl (OpVal.moveSl (.inr rfl) rfl) rfl rfl ?_
        refine TL.nil ?_
        refine S.n ?_
        refine ⟨by repeat (first | exact Agr.refl _ _ | exact Agr.mask | refine Agr.upd rfl ?_ | refine Agr.maskIn rfl ?_ | refine Agr.upds rfl ?_), (((List.replicate ((IntKind.i64.wrap (x1 - (IntKind.i64.wrap (((0 : Nat) : Int) - ((0 : Nat) : Int))))).toNat) (0 : Int)).take 0), (a107, c108)), hh, by repeat (first | exact trivial | refine ⟨rfl, ?_⟩), Sub.pre 1 rfl, rfl⟩
      · replace hh := iteO_f h106 hh
        replace h106 := of_decide_eq_false h106
        refine TC.nilS 3 1 encI ?_
        refine TC.skip ?_
        refine S.n ?_
        refine ⟨by repeat (first | exact Agr.refl _ _ | exact Agr.mask | refine Agr.upd rfl ?_ | refine Agr.maskIn rfl ?_ | refine Agr.upds rfl ?_), (([] : List Int), (none, 0)), hh, by repeat (first | exact trivial | refine ⟨rfl, ?_⟩), Sub.pre 1 rfl, rfl⟩
    · skip
      obtain ⟨l103, ⟨a104, c105⟩⟩ := g
      have hh := hg; clear hg
      show TC _ _ _ (upds (mask _ j _) [(0, .slice a104 l103.length c105)]) _ [Res.rowS 3 1 encI (.slice a104 l103.length c105) l103]
      dsimp only [growI_j1] at hh
      refine TC.isSl (i := 0) rfl (fun _ hb111 _ => ?_)
      refine TC.seq ?_
      refine TC.region ?_
      refine TL.v rfl (OpVal.moveSl (.inl rfl) rfl) rfl rfl ?_
      refine TL.v rfl (OpVal.moveSl (.inr rfl) rfl) rfl rfl ?_
      refine TL.nil ?_
      refine S.n ?_
      refine TC.ret ?_
      obtain rfl := Option.some.inj hh
      exact RetOk.mk' (rs := [.tmp 4]) [Res.rowS 3 1 encI (.slice a104 l103.length c105) l103] rfl (.inl rfl) (RVs.tmp rfl RVs.nil) (List.sublist_append_left _ _) ⟨a104, c105, rfl, rfl, rfl⟩

noncomputable def concatI_b2 (x0 : List (List Int)) (l121 : List Int) (k124 : Nat) : Option (((List Int) × Nat) ⊕ ((List Int))) :=
  iteO (decide (((k124 : Nat) : Int) < ((x0.length : Nat) : Int))) (grd ((l121.length + (nth x0 k124 ([] : List Int)).length) * 8 ≤ 140737488355328) (nxt ((l121 ++ (nth x0 k124 ([] : List Int))), (k124 + 1)))) (fin (some l121))
noncomputable def concatI_b1 (x0 : List (List Int)) (i105 : Int) (k106 : Nat) : Option ((Int × Nat) ⊕ ((List Int))) :=
  iteO (decide (((k106 : Nat) : Int) < ((x0.length : Nat) : Int))) (iteO (decide ((IntKind.i64.wrap (i105 + (((nth x0 k106 ([] : List Int)).length : Nat) : Int))) < 0)) (none) (nxt ((IntKind.i64.wrap (i105 + (((nth x0 k106 ([] : List Int)).length : Nat) : Int))), (k106 + 1)))) (fin (bnd (growI i105) (fun v22 => iter (fun q : (List Int) × Nat => concatI_b2 x0 q.1 q.2) (v22, 0))))
noncomputable def concatI (x0 : List (List Int)) : Option ((List Int)) :=
  iter (fun q : Int × Nat => concatI_b1 x0 q.1 q.2) (0, 0)
def concatI_P (σ : Store) (r : (List Int)) : Value → Store → List Res → Prop := fun v σ' H' =>
  ∃ (a1 : Option Addr), ∃ (c1 : Nat),  v = .slice a1 r.length c1 ∧ σ = σ' ∧ H' = [Res.rowS 3 1 encI (.slice a1 r.length c1) r]
theorem concatI_con {σ : Store} {x0 : List (List Int)} {a0_0 : Option Addr} {c0_0 : Nat} (f0_0 : RZ σ (pkSl 1 encI encI_len) (.slice a0_0 x0.length c0_0) x0) {r : (List Int)} (hh : concatI x0 = some r) :
    Con Try.prog 66 #[.slice a0_0 x0.length c0_0] σ [] (concatI_P σ r) := by
  dsimp only [concatI] at hh
  have f0_0b := f0_0.big
  refine Con.mk (n := 36) Try.func66 rfl rfl rfl (fun w0 => ?_)
  refine TC.seq ?_
  refine TC.region ?_
  refine TL.v rfl (OpVal.moveSl (.inr rfl) rfl) rfl rfl ?_
  refine TL.nil ?_
  refine S.n ?_
  refine TC.seq ?_
  refine TC.region ?_
  refine TL.v rfl (OpVal.moveI (.inr rfl) rfl) rfl rfl ?_
  refine TL.nil ?_
  refine S.n ?_
  refine TC.seq ?_
  refine TC.seq ?_
  refine TC.region ?_
  refine TL.v rfl (OpVal.moveSl (.inl rfl) rfl) rfl rfl ?_
  refine TL.v rfl (OpVal.lenC rfl Try.underlying56 rfl) rfl rfl ?_
  refine TL.v rfl (OpVal.moveI (.inl rfl) rfl) rfl rfl ?_
  refine TL.nil ?_
  refine S.n ?_
  refine TC.block ?_
  refine TC.loopG (α := (Int × Nat) × (Unit)) [3, 5, 11, 12, 13, 14, 15, 16, 17, 18, 19, 20, 21, 22] (fun g => [(3, .int .i64 g.1.1), (11, .int .i64 ((g.1.2 : Nat) : Int))]) (fun g => []) (fun g => σ) (fun g => iter (fun q : Int × Nat => concatI_b1 x0 q.1 q.2) g.1 = some r) (fun g => rounds (fun q : Int × Nat => concatI_b1 x0 q.1 q.2) g.1) ((0, 0), ()) (Sub.pre 0 rfl) rfl (by repeat (first | exact trivial | refine ⟨rfl, ?_⟩)) hh (fun g1 j1 hg1 => ?_)
  obtain ⟨⟨i105, k106⟩, _⟩ := g1
  have hh := hg1; clear hg1
  show TC _ _ _ (upds (mask _ j1 _) [(3, .int .i64 i105), (11, .int .i64 ((k106 : Nat) : Int))]) _ []
  obtain ⟨z1, hh, hR1⟩ := iter_e hh
  dsimp only [concatI_b1] at hh
  refine TC.seq ?_
  refine TC.region ?_
  refine TL.v rfl (OpVal.lss rfl rfl rfl) rfl rfl ?_
  refine TL.nil ?_
  refine S.n ?_
  refine TC.seq ?_
  refine TC.cond rfl (fun h107 => ?_) (fun h107 => ?_)
  · replace hh := iteO_t h107 hh
    replace h107 := of_decide_eq_true h107
    refine TC.skip ?_
    refine S.n ?_
    refine TC.seq ?_
    refine TC.block ?_
    refine TC.seq ?_
    refine TC.region ?_
    refine TL.v rfl (OpVal.indexN rfl Try.underlying56 sz22 rfl rfl f0_0.isSl (by omega)) rfl rfl ?_
    obtain ⟨p108, hk108, hg108⟩ := RZ.seg f0_0 k106 (by omega)
    replace hk108 : RS _ 1 encI (.slice p108.1 (nth x0 k106 ([] : List Int)).length p108.2) (nth x0 k106 ([] : List Int)) := hk108
    have hk108b := hk108.rv.big
    refine TL.v rfl (OpVal.loadSeg0 rfl ag22 rfl hg108 rfl) rfl rfl ?_
    refine TL.v rfl (OpVal.moveSl (.inr rfl) rfl) rfl rfl ?_
    refine TL.nil ?_
    refine S.n ?_
    refine TC.seq ?_
    refine TC.region ?_
    refine TL.v rfl (OpVal.moveI (.inl rfl) rfl) rfl rfl ?_
    refine TL.v rfl (OpVal.moveSl (.inl rfl) rfl) rfl rfl ?_
    refine TL.v rfl (OpVal.lenC rfl Try.underlying22 rfl) rfl rfl ?_
    refine TL.v rfl (OpVal.addW rfl rfl rfl) rfl rfl ?_
    refine TL.v rfl (OpVal.moveI (.inr rfl) rfl) rfl rfl ?_
    refine TL.nil ?_
    refine S.n ?_
    refine TC.seq ?_
    refine TC.region ?_
    refine TL.v rfl (OpVal.moveI (.inl rfl) rfl) rfl rfl ?_
    refine TL.v rfl (OpVal.lss rfl rfl rfl) rfl rfl ?_
    refine TL.nil ?_
    refine S.n ?_
    refine TC.cond rfl (fun h109 => ?_) (fun h109 => ?_)
    · replace hh := iteO_t h109 hh
      replace h109 := of_decide_eq_true h109
      cases hh
    · replace hh := iteO_f h109 hh
      replace h109 := of_decide_eq_false h109
      refine TC.skip ?_
      refine B.n ?_
      refine S.n ?_
      refine TC.region ?_
      refine TL.v rfl (OpVal.succ rfl rfl rfl (by omega)) rfl rfl ?_
      refine TL.v rfl (OpVal.moveI (.inl rfl) rfl) rfl rfl ?_
      refine TL.nil ?_
      refine S.n ?_
      obtain ⟨hh, hlt110⟩ := nxt_x hR1 hh
      refine ⟨by repeat (first | exact Agr.refl _ _ | exact Agr.mask | refine Agr.upd rfl ?_ | refine Agr.maskIn rfl ?_ | refine Agr.upds rfl ?_), (((IntKind.i64.wrap (i105 + (((nth x0 k106 ([] : List Int)).length : Nat) : Int))), (k106 + 1)), ()), hlt110, hh, by repeat (first | exact trivial | refine ⟨rfl, ?_⟩), Sub.pre 0 rfl, rfl⟩
  · replace hh := iteO_f h107 hh
    replace h107 := of_decide_eq_false h107
    refine TC.exit ?_
    refine S.x ?_
    refine S.x ?_
    replace hh := fin_x hR1 hh
    refine TC.exitHere ?_
    refine S.n ?_
    refine TC.seq ?_
    refine TC.region ?_
    refine TL.v rfl (OpVal.moveI (.inl rfl) rfl) rfl rfl ?_
    obtain ⟨v22, u22, hh⟩ := bnd_e hh
    refine TL.op rfl (OpOk.call (growI_con u22) rfl rfl pf87 rfl rfl rfl rfl ?_)
    rintro _ _ _ hle111 ⟨a111_1, c111_1, rfl, rfl, rfl⟩
    refine TL.v rfl (OpVal.moveSl (.inr rfl) rfl) rfl rfl ?_
    refine TL.nil ?_
    refine S.n ?_
    refine TC.seq ?_
    refine TC.seq ?_
    refine TC.region ?_
    refine TL.v rfl (OpVal.moveSl (.inl rfl) rfl) rfl rfl ?_
    refine TL.v rfl (OpVal.lenC rfl Try.underlying56 rfl) rfl rfl ?_
    refine TL.v rfl (OpVal.moveI (.inl rfl) rfl) rfl rfl ?_
    refine TL.nil ?_
    refine S.n ?_
    refine TC.block ?_
    refine TC.loopG (α := ((List Int) × Nat) × ((Option Addr) × Nat)) [6, 8, 27, 28, 29, 30, 31, 32, 33, 34] (fun g => [(6, .slice g.2.1 g.1.1.length g.2.2), (27, .int .i64 ((g.1.2 : Nat) : Int))]) (fun g => [Res.rowS 3 1 encI (.slice g.2.1 g.1.1.length g.2.2) g.1.1]) (fun g => σ) (fun g => iter (fun q : (List Int) × Nat => concatI_b2 x0 q.1 q.2) g.1 = some r) (fun g => rounds (fun q : (List Int) × Nat => concatI_b2 x0 q.1 q.2) g.1) ((v22, 0), (a111_1, c111_1)) (Sub.pre 1 rfl) rfl (by repeat (first | exact trivial | refine ⟨rfl, ?_⟩)) hh (fun g2 j2 hg2 => ?_)
    obtain ⟨⟨l121, k124⟩, ⟨a122, c123⟩⟩ := g2
    have hh := hg2; clear hg2
    show TC _ _ _ (upds (mask _ j2 _) [(6, .slice a122 l121.length c123), (27, .int .i64 ((k124 : Nat) : Int))]) _ [Res.rowS 3 1 encI (.slice a122 l121.length c123) l121]
    obtain ⟨z1, hh, hR1⟩ := iter_e hh
    dsimp only [concatI_b2] at hh
    refine TC.isSl (i := 0) rfl (fun _ hb125 _ => ?_)
    refine TC.seq ?_
    refine TC.region ?_
    refine TL.v rfl (OpVal.lss rfl rfl rfl) rfl rfl ?_
    refine TL.nil ?_
    refine S.n ?_
    refine TC.seq ?_
    refine TC.cond rfl (fun h126 => ?_) (fun h126 => ?_)
    · replace hh := iteO_t h126 hh
      replace h126 := of_decide_eq_true h126
      refine TC.skip ?_
      refine S.n ?_
      refine TC.seq ?_
      refine TC.block ?_
      refine TC.seq ?_
      refine TC.region ?_
      refine TL.v rfl (OpVal.indexN rfl Try.underlying56 sz22 rfl rfl f0_0.isSl (by omega)) rfl rfl ?_
      obtain ⟨p127, hk127, hg127⟩ := RZ.seg f0_0 k124 (by omega)
      replace hk127 : RS _ 1 encI (.slice p127.1 (nth x0 k124 ([] : List Int)).length p127.2) (nth x0 k124 ([] : List Int)) := hk127
      have hk127b := hk127.rv.big
      refine TL.v rfl (OpVal.loadSeg0 rfl ag22 rfl hg127 rfl) rfl rfl ?_
      refine TL.v rfl (OpVal.moveSl (.inr rfl) rfl) rfl rfl ?_
      refine TL.nil ?_
      refine S.n ?_
      refine TC.region ?_
      refine TL.v rfl (OpVal.moveSl (.inl rfl) rfl) rfl rfl ?_
      refine TL.v rfl (OpVal.moveSl (.inl rfl) rfl) rfl rfl ?_
      have u33 := grd_c hh
      replace hh := grd_t hh
      refine TL.op rfl (OpOk.appendS rfl rfl Try.underlying22 sz3 by3 ze3 rfl rfl (by decide) rfl rfl rfl (.inl hk127) (by simpa using u33) (by decide) (fun a128 c129 => ?_))
      refine TL.v rfl (OpVal.moveSl (.inr rfl) rfl) rfl rfl ?_
      refine TL.nil ?_
      refine B.n ?_
      refine S.n ?_
      refine TC.region ?_
      refine TL.v rfl (OpVal.succ rfl rfl rfl (by omega)) rfl rfl ?_
      refine TL.v rfl (OpVal.moveI (.inl rfl) rfl) rfl rfl ?_
      refine TL.nil ?_
      refine S.n ?_
      obtain ⟨hh, hlt130⟩ := nxt_x hR1 hh
      refine ⟨by repeat (first | exact Agr.refl _ _ | exact Agr.mask | refine Agr.upd rfl ?_ | refine Agr.maskIn rfl ?_ | refine Agr.upds rfl ?_), (((l121 ++ (nth x0 k124 ([] : List Int))), (k124 + 1)), (a128, c129)), hlt130, hh, by repeat (first | exact trivial | refine ⟨rfl, ?_⟩), Sub.pre 1 rfl, rfl⟩
    · replace hh := iteO_f h126 hh
      replace h126 := of_decide_eq_false h126
      refine TC.exit ?_
      refine S.x ?_
      refine S.x ?_
      replace hh := fin_x hR1 hh
      refine TC.exitHere ?_
      refine S.n ?_
      refine TC.seq ?_
      refine TC.region ?_
      refine TL.v rfl (OpVal.moveSl (.inl rfl) rfl) rfl rfl ?_
      refine TL.v rfl (OpVal.moveSl (.inr rfl) rfl) rfl rfl ?_
      refine TL.nil ?_
      refine S.n ?_
      refine TC.ret ?_
      obtain rfl := Option.some.inj hh
      exact RetOk.mk' (rs := [.tmp 2]) [Res.rowS 3 1 encI (.slice a122 l121.length c123) l121] rfl (.inl rfl) (RVs.tmp rfl RVs.nil) (List.sublist_append_left _ _) ⟨a122, c123, rfl, rfl, rfl⟩

noncomputable def nfa_shift_b1 (x0 : List Int) (x1 : Int) (l110 : List Int) (k112 : Nat) : Option (((List Int) × Nat) ⊕ ((List Int))) :=
  iteO (decide (((k112 : Nat) : Int) < ((x0.length : Nat) : Int))) (grd (k112 < l110.length) (nxt ((l110.set k112 (IntKind.i64.wrap ((nth x0 k112 (0 : Int)) + x1))), (k112 + 1)))) (fin (some l110))
noncomputable def nfa_shift (x0 : List Int) (x1 : Int) : Option ((List Int)) :=
  grd (8 * x0.length ≤ 281474976710656) (iter (fun q : (List Int) × Nat => nfa_shift_b1 x0 x1 q.1 q.2) ((List.replicate x0.length (0 : Int)), 0))
def nfa_shift_P (σ : Store) (r : (List Int)) : Value → Store → List Res → Prop := fun v σ' H' =>
  ∃ (a1 : Option Addr), ∃ (c1 : Nat),  v = .slice a1 r.length c1 ∧ σ = σ' ∧ H' = [Res.rowS 3 1 encI (.slice a1 r.length c1) r]
theorem nfa_shift_con {σ : Store} {x0 : List Int} {a0_0 : Option Addr} {c0_0 : Nat} {x1 : Int} (f0_0 : RS σ 1 encI (.slice a0_0 x0.length c0_0) x0) {r : (List Int)} (hh : nfa_shift x0 x1 = some r) :
    Con Try.prog 63 #[.slice a0_0 x0.length c0_0, .int .i64 x1] σ [] (nfa_shift_P σ r) := by
  dsimp only [nfa_shift] at hh
  have f0_0b := f0_0.rv.big
  refine Con.mk (n := 26) Try.func63 rfl rfl rfl (fun w0 => ?_)
  refine TC.seq ?_
  refine TC.region ?_
  refine TL.v rfl (OpVal.moveSl (.inr rfl) rfl) rfl rfl ?_
  refine TL.nil ?_
  refine S.n ?_
  refine TC.seq ?_
  refine TC.region ?_
  refine TL.v rfl (OpVal.moveSl (.inl rfl) rfl) rfl rfl ?_
  refine TL.v rfl (OpVal.lenC rfl Try.underlying22 rfl) rfl rfl ?_
  have u4 := grd_c hh
  replace hh := grd_t hh
  refine TL.op rfl (OpOk.makeS2 (enc := encI) (0 : Int) rfl Try.underlying22 sz3 by3 ze3 rfl rfl rfl rfl (by omega) (by decide) encI_len (by decide) rfl encI_one (fun a101 c102 => ?_))
  refine TL.v rfl (OpVal.moveSl (.inr rfl) rfl) rfl rfl ?_
  refine TL.nil ?_
  refine S.n ?_
  refine TC.seq ?_
  refine TC.seq ?_
  refine TC.region ?_
  refine TL.v rfl (OpVal.moveSl (.inl rfl) rfl) rfl rfl ?_
  refine TL.v rfl (OpVal.lenC rfl Try.underlying22 rfl) rfl rfl ?_
  refine TL.v rfl (OpVal.moveI (.inl rfl) rfl) rfl rfl ?_
  refine TL.nil ?_
  refine S.n ?_
  refine TC.block ?_
  refine TC.loopG (α := ((List Int) × Nat) × (Unit)) [6, 7, 13, 14, 15, 16, 17, 18, 19, 20, 21, 22, 23, 24] (fun g => [(13, .int .i64 ((g.1.2 : Nat) : Int))]) (fun g => [Res.rowS 3 1 encI (.slice a101 (List.replicate x0.length (0 : Int)).length c102) g.1.1]) (fun g => σ) (fun g => iter (fun q : (List Int) × Nat => nfa_shift_b1 x0 x1 q.1 q.2) g.1 = some r ∧ g.1.1.length = (List.replicate x0.length (0 : Int)).length) (fun g => rounds (fun q : (List Int) × Nat => nfa_shift_b1 x0 x1 q.1 q.2) g.1) (((List.replicate x0.length (0 : Int)), 0), ()) (Sub.pre 1 rfl) rfl (by repeat (first | exact trivial | refine ⟨rfl, ?_⟩)) ⟨hh, rfl⟩ (fun g1 j1 hg1 => ?_)
  obtain ⟨⟨l110, k112⟩, _⟩ := g1
  obtain ⟨hh, hn111⟩ := hg1
  dsimp only at hn111
  show TC _ _ _ (upds (mask _ j1 _) [(13, .int .i64 ((k112 : Nat) : Int))]) _ [Res.rowS 3 1 encI (.slice a101 (List.replicate x0.length (0 : Int)).length c102) l110]
  obtain ⟨z1, hh, hR1⟩ := iter_e hh
  dsimp only [nfa_shift_b1] at hh
  have hn111b := hn111
  refine TC.isSl (i := 0) rfl (fun _ hb113 _ => ?_)
  refine TC.seq ?_
  refine TC.region ?_
  refine TL.v rfl (OpVal.lss rfl rfl rfl) rfl rfl ?_
  refine TL.nil ?_
  refine S.n ?_
  refine TC.seq ?_
  refine TC.cond rfl (fun h114 => ?_) (fun h114 => ?_)
  · replace hh := iteO_t h114 hh
    replace h114 := of_decide_eq_true h114
    refine TC.skip ?_
    refine S.n ?_
    refine TC.seq ?_
    refine TC.block ?_
    refine TC.seq ?_
    refine TC.region ?_
    refine TL.v rfl (OpVal.moveI (.inl rfl) rfl) rfl rfl ?_
    refine TL.v rfl (OpVal.indexN rfl Try.underlying22 sz3 rfl rfl f0_0.rv.sl (by omega)) rfl rfl ?_
    refine TL.v rfl (OpVal.loadS1 (0 : Int) rfl ag3 rfl f0_0 (by omega) rfl) rfl rfl ?_
    refine TL.v rfl (OpVal.moveI (.inr rfl) rfl) rfl rfl ?_
    refine TL.v rfl (OpVal.moveI (.inr rfl) rfl) rfl rfl ?_
    refine TL.nil ?_
    refine S.n ?_
    refine TC.region ?_
    refine TL.v rfl (OpVal.moveSl (.inl rfl) rfl) rfl rfl ?_
    refine TL.v rfl (OpVal.moveI (.inl rfl) rfl) rfl rfl ?_
    refine TL.v rfl (OpVal.moveI (.inl rfl) rfl) rfl rfl ?_
    refine TL.v rfl (OpVal.moveI (.inl rfl) rfl) rfl rfl ?_
    refine TL.v rfl (OpVal.addW rfl rfl rfl) rfl rfl ?_
    have u20 := grd_c hh
    replace hh := grd_t hh
    refine TL.isSl (i := 0) rfl (fun hs115 _ _ => ?_)
    refine TL.v rfl (OpVal.indexN rfl Try.underlying22 sz3 rfl rfl hs115 (by omega)) rfl rfl ?_
    have hn116 : (l110.set k112 (IntKind.i64.wrap ((nth x0 k112 (0 : Int)) + x1))).length = (List.replicate x0.length (0 : Int)).length := by rw [List.length_set]; exact hn111
    refine TL.op rfl (OpOk.storeS (IntKind.i64.wrap ((nth x0 k112 (0 : Int)) + x1)) rfl sz3 rfl rfl rfl rfl encI_len encI_one (by omega) (by omega) ?_)
    refine TL.nil ?_
    refine B.n ?_
    refine S.n ?_
    refine TC.region ?_
    refine TL.v rfl (OpVal.succ rfl rfl rfl (by omega)) rfl rfl ?_
    refine TL.v rfl (OpVal.moveI (.inl rfl) rfl) rfl rfl ?_
    refine TL.nil ?_
    refine S.n ?_
    obtain ⟨hh, hlt117⟩ := nxt_x hR1 hh
    refine ⟨by repeat (first | exact Agr.refl _ _ | exact Agr.mask | refine Agr.upd rfl ?_ | refine Agr.maskIn rfl ?_ | refine Agr.upds rfl ?_), (((l110.set k112 (IntKind.i64.wrap ((nth x0 k112 (0 : Int)) + x1))), (k112 + 1)), ()), hlt117, ⟨hh, hn116⟩, by repeat (first | exact trivial | refine ⟨rfl, ?_⟩), Sub.pre 1 rfl, rfl⟩
  · replace hh := iteO_f h114 hh
    replace h114 := of_decide_eq_false h114
    refine TC.exit ?_
    refine S.x ?_
    refine S.x ?_
    replace hh := fin_x hR1 hh
    refine TC.exitHere ?_
    refine S.n ?_
    refine TC.seq ?_
    refine TC.region ?_
    refine TL.v rfl (OpVal.moveSl (.inl rfl) rfl) rfl rfl ?_
    refine TL.v rfl (OpVal.moveSl (.inr rfl) rfl) rfl rfl ?_
    refine TL.nil ?_
    refine S.n ?_
    rw [← hn111]
    refine TC.ret ?_
    obtain rfl := Option.some.inj hh
    exact RetOk.mk' (rs := [.tmp 4]) [Res.rowS 3 1 encI (.slice a101 l110.length c102) l110] rfl (.inl rfl) (RVs.tmp rfl RVs.nil) (List.sublist_append_left _ _) ⟨a101, c102, rfl, rfl, rfl⟩

noncomputable def nfa_Alt (x0 : Nfa) (x1 : Nfa) : Option (Nfa × Int) :=
  iteO (decide ((errB (checkB x0)) ≠ 0)) (some ((⟨0, ([] : List Int), ([] : List Int), ([] : List Arrow)⟩ : Nfa), 1)) (iteO (decide ((errB (checkB x1)) ≠ 0)) (some ((⟨0, ([] : List Int), ([] : List Int), ([] : List Arrow)⟩ : Nfa), 1)) (iteO (!(fitB (IntKind.i64.wrap (x0.states + x1.states)) (IntKind.i64.wrap (((x0.edges.length : Nat) : Int) + ((x1.edges.length : Nat) : Int))))) (some ((⟨0, ([] : List Int), ([] : List Int), ([] : List Arrow)⟩ : Nfa), 2)) (bnd (nfa_shift x1.starts x0.states) (fun v42 => bnd (concatI [x0.starts, v42]) (fun v44 => bnd (nfa_shift x1.ends x0.states) (fun v51 => bnd (concatI [x0.ends, v51]) (fun v53 => grd (0 ≤ x0.states ∧ x0.states ≤ 1000000) (grd (∀ u ∈ x1.edges, 0 ≤ u.frm ∧ u.frm ≤ 1000000 ∧ 0 ≤ u.to ∧ u.to ≤ 1000000) (grd (x0.edges.length ≤ 100000000) (grd (x1.edges.length ≤ 100000000) (some ((⟨IntKind.i64.wrap (x0.states + x1.states), v44, v53, (x0.edges ++ shiftE x1.edges x0.states)⟩ : Nfa), 0))))))))))))
def nfa_Alt_P (σ : Store) (r : Nfa × Int) : Value → Store → List Res → Prop := fun v σ' H' =>
  ∃ (a1 : Option Addr), ∃ (c1 : Nat), ∃ (a2 : Option Addr), ∃ (c2 : Nat), ∃ (a3 : Option Addr), ∃ (c3 : Nat),  v = .tuple #[.agg #[.int .i64 r.1.states, .slice a1 r.1.starts.length c1, .slice a2 r.1.ends.length c2, .slice a3 r.1.edges.length c3], .int .i64 r.2] ∧ RS σ' 1 encI (.slice a1 r.1.starts.length c1) r.1.starts ∧ RS σ' 1 encI (.slice a2 r.1.ends.length c2) r.1.ends ∧ RS σ' 6 encE (.slice a3 r.1.edges.length c3) r.1.edges ∧ H' = []
theorem nfa_Alt_con {σ : Store} {x0 : Nfa} {a0_0 : Option Addr} {c0_0 : Nat} {a0_1 : Option Addr} {c0_1 : Nat} {a0_2 : Option Addr} {c0_2 : Nat} {x1 : Nfa} {a1_0 : Option Addr} {c1_0 : Nat} {a1_1 : Option Addr} {c1_1 : Nat} {a1_2 : Option Addr} {c1_2 : Nat} (f0_0 : RS σ 1 encI (.slice a0_0 x0.starts.length c0_0) x0.starts) (f0_1 : RS σ 1 encI (.slice a0_1 x0.ends.length c0_1) x0.ends) (f0_2 : RS σ 6 encE (.slice a0_2 x0.edges.length c0_2) x0.edges) (f1_0 : RS σ 1 encI (.slice a1_0 x1.starts.length c1_0) x1.starts) (f1_1 : RS σ 1 encI (.slice a1_1 x1.ends.length c1_1) x1.ends) (f1_2 : RS σ 6 encE (.slice a1_2 x1.edges.length c1_2) x1.edges) {r : Nfa × Int} (hh : nfa_Alt x0 x1 = some r) :
    Con Try.prog 28 #[.agg #[.int .i64 x0.states, .slice a0_0 x0.starts.length c0_0, .slice a0_1 x0.ends.length c0_1, .slice a0_2 x0.edges.length c0_2], .agg #[.int .i64 x1.states, .slice a1_0 x1.starts.length c1_0, .slice a1_1 x1.ends.length c1_1, .slice a1_2 x1.edges.length c1_2]] σ [] (nfa_Alt_P σ r) := by
  dsimp only [nfa_Alt] at hh
  have f0_0b := f0_0.rv.big
  have f0_1b := f0_1.rv.big
  have f0_2b := f0_2.rv.big
  have f1_0b := f1_0.rv.big
  have f1_1b := f1_1.rv.big
  have f1_2b := f1_2.rv.big
  refine Con.mk (n := 58) Try.func28 rfl rfl rfl (fun w0 => ?_)
  refine TC.seq ?_
  refine TC.region ?_
  refine TL.op rfl (OpOk.boxA rfl rfl rfl rfl (fun b101 => ?_))
  refine TL.op rfl (OpOk.boxA rfl rfl rfl rfl (fun b103 => ?_))
  refine TL.op rfl (OpOk.alloc rfl ze25 rfl rfl (fun b105 => ?_))
  refine TL.v rfl (OpVal.moveI (.inr rfl) rfl) rfl rfl ?_
  refine TL.nil ?_
  refine S.n ?_
  refine TC.seq ?_
  refine TC.seq ?_
  refine TC.region ?_
  refine TL.v rfl (OpVal.loadAll rfl ag25 sz25 rfl (i := 2) rfl rfl) rfl rfl ?_
  refine TL.op rfl (OpOk.callP (check_con _ x0 ⟨a0_0, c0_0, a0_1, c0_1, a0_2, c0_2⟩ ⟨f0_0, f0_1, f0_2, fun x _ => x.set.isOk⟩) rfl rfl pf18 rfl rfl rfl ?_)
  refine TL.v rfl (OpVal.neq rfl rfl rfl) rfl rfl ?_
  refine TL.v rfl (OpVal.moveB (.inl rfl) rfl) rfl rfl ?_
  refine TL.split 10 rfl (fun h107 => ?_) (fun h107 => ?_)
  · replace hh := iteO_t h107 hh
    replace h107 := of_decide_eq_true h107
    refine TL.goff rfl rfl rfl rfl rfl rfl rfl rfl ?_
    refine TL.goff rfl rfl rfl rfl rfl rfl rfl rfl ?_
    refine TL.goff rfl rfl rfl rfl rfl rfl rfl rfl ?_
    refine TL.v rfl (OpVal.pickTB rfl rfl rfl) rfl rfl ?_
    refine TL.nil ?_
    refine S.n ?_
    refine TC.cond rfl (fun _ => ?_) (fun h => Bool.noConfusion h)
    refine TC.seq ?_
    refine TC.region ?_
    refine TL.v rfl (OpVal.buildL rfl pl25 ze25 rfl) rfl rfl ?_
    refine TL.op rfl (OpOk.storeAll rfl sz25 rfl rfl rfl rfl rfl rfl ?_)
    refine TL.v rfl (OpVal.moveI (.inr rfl) rfl) rfl rfl ?_
    refine TL.nil ?_
    refine S.n ?_
    refine TC.ofSub (Sub.pre 1 rfl) ?_
    refine TC.ret ?_
    refine S.r ?_
    obtain rfl := Option.some.inj hh
    exact RetOk.mk' (rs := [.cell 4 25, .tmp 5]) [] rfl (.inl rfl) (RVs.agg ag25 sz25 rfl (i := 0) rfl rfl (RVs.tmp rfl RVs.nil)) (List.sublist_append_left _ _) ⟨none, 0, none, 0, none, 0, rfl, (RS.nilF _ encI encI_len), (RS.nilF _ encI encI_len), (RS.nilF _ encE encE_len), rfl⟩
  · replace hh := iteO_f h107 hh
    replace h107 := of_decide_eq_false h107
    refine TL.gv rfl rfl rfl rfl rfl (OpVal.loadAll rfl ag25 sz25 rfl (i := 1) rfl rfl) rfl rfl ?_
    refine TL.gon rfl rfl rfl rfl rfl (OpOk.callP (check_con _ x1 ⟨a1_0, c1_0, a1_1, c1_1, a1_2, c1_2⟩ ⟨f1_0, f1_1, f1_2, fun x _ => x.set.isOk⟩) rfl rfl pf18 rfl rfl rfl ?_)
    refine TL.gv rfl rfl rfl rfl rfl (OpVal.neq rfl rfl rfl) rfl rfl ?_
    refine TL.v rfl (OpVal.pickFB rfl rfl rfl) rfl rfl ?_
    refine TL.nil ?_
    refine S.n ?_
    refine TC.cond rfl (fun h108 => ?_) (fun h108 => ?_)
    · replace hh := iteO_t h108 hh
      replace h108 := of_decide_eq_true h108
      refine TC.seq ?_
      refine TC.region ?_
      refine TL.v rfl (OpVal.buildL rfl pl25 ze25 rfl) rfl rfl ?_
      refine TL.op rfl (OpOk.storeAll rfl sz25 rfl rfl rfl rfl rfl rfl ?_)
      refine TL.v rfl (OpVal.moveI (.inr rfl) rfl) rfl rfl ?_
      refine TL.nil ?_
      refine S.n ?_
      refine TC.ofSub (Sub.pre 1 rfl) ?_
      refine TC.ret ?_
      refine S.r ?_
      obtain rfl := Option.some.inj hh
      exact RetOk.mk' (rs := [.cell 4 25, .tmp 5]) [] rfl (.inl rfl) (RVs.agg ag25 sz25 rfl (i := 0) rfl rfl (RVs.tmp rfl RVs.nil)) (List.sublist_append_left _ _) ⟨none, 0, none, 0, none, 0, rfl, (RS.nilF _ encI encI_len), (RS.nilF _ encI encI_len), (RS.nilF _ encE encE_len), rfl⟩
    · replace hh := iteO_f h108 hh
      replace h108 := of_decide_eq_false h108
      refine TC.skip ?_
      refine S.n ?_
      refine TC.seq ?_
      refine TC.region ?_
      refine TL.v rfl (OpVal.fieldLoc rfl fo25_0 rfl) rfl rfl ?_
      refine TL.v rfl (OpVal.loadLoc rfl ag3 rfl (i := 2) rfl rfl) rfl rfl ?_
      refine TL.v rfl (OpVal.fieldLoc rfl fo25_0 rfl) rfl rfl ?_
      refine TL.v rfl (OpVal.loadLoc rfl ag3 rfl (i := 1) rfl rfl) rfl rfl ?_
      refine TL.v rfl (OpVal.addW rfl rfl rfl) rfl rfl ?_
      refine TL.v rfl (OpVal.moveI (.inr rfl) rfl) rfl rfl ?_
      refine TL.nil ?_
      refine S.n ?_
      refine TC.seq ?_
      refine TC.seq ?_
      refine TC.region ?_
      refine TL.v rfl (OpVal.moveI (.inl rfl) rfl) rfl rfl ?_
      refine TL.v rfl (OpVal.fieldLoc rfl fo25_3 rfl) rfl rfl ?_
      refine TL.v rfl (OpVal.loadLoc rfl ag23 rfl (i := 2) rfl rfl) rfl rfl ?_
      refine TL.v rfl (OpVal.lenC rfl Try.underlying23 rfl) rfl rfl ?_
      refine TL.v rfl (OpVal.fieldLoc rfl fo25_3 rfl) rfl rfl ?_
      refine TL.v rfl (OpVal.loadLoc rfl ag23 rfl (i := 1) rfl rfl) rfl rfl ?_
      refine TL.v rfl (OpVal.lenC rfl Try.underlying23 rfl) rfl rfl ?_
      refine TL.v rfl (OpVal.addW rfl rfl rfl) rfl rfl ?_
      refine TL.op rfl (OpOk.callP (fits_con _ (IntKind.i64.wrap (x0.states + x1.states)) (IntKind.i64.wrap (((x0.edges.length : Nat) : Int) + ((x1.edges.length : Nat) : Int)))) rfl rfl pf61 rfl rfl rfl ?_)
      refine TL.v rfl (OpVal.not rfl rfl) rfl rfl ?_
      refine TL.nil ?_
      refine S.n ?_
      refine TC.cond rfl (fun h109 => ?_) (fun h109 => ?_)
      · replace hh := iteO_t h109 hh
        refine TC.seq ?_
        refine TC.region ?_
        refine TL.v rfl (OpVal.buildL rfl pl25 ze25 rfl) rfl rfl ?_
        refine TL.op rfl (OpOk.storeAll rfl sz25 rfl rfl rfl rfl rfl rfl ?_)
        refine TL.v rfl (OpVal.moveI (.inr rfl) rfl) rfl rfl ?_
        refine TL.nil ?_
        refine S.n ?_
        refine TC.ofSub (Sub.pre 1 rfl) ?_
        refine TC.ret ?_
        refine S.r ?_
        obtain rfl := Option.some.inj hh
        exact RetOk.mk' (rs := [.cell 4 25, .tmp 5]) [] rfl (.inl rfl) (RVs.agg ag25 sz25 rfl (i := 0) rfl rfl (RVs.tmp rfl RVs.nil)) (List.sublist_append_left _ _) ⟨none, 0, none, 0, none, 0, rfl, (RS.nilF _ encI encI_len), (RS.nilF _ encI encI_len), (RS.nilF _ encE encE_len), rfl⟩
      · replace hh := iteO_f h109 hh
        refine TC.skip ?_
        refine S.n ?_
        refine TC.seq ?_
        obtain ⟨v42, u42, hh⟩ := bnd_e hh
        obtain ⟨v44, u44, hh⟩ := bnd_e hh
        obtain ⟨v51, u51, hh⟩ := bnd_e hh
        obtain ⟨v53, u53, hh⟩ := bnd_e hh
        have u56a := grd_c hh
        replace hh := grd_t hh
        have u56b := grd_c hh
        replace hh := grd_t hh
        have u56c := grd_c hh
        replace hh := grd_t hh
        have u56d := grd_c hh
        replace hh := grd_t hh
        refine TC.draw [26, 27] (by kernel_rfl) ?_
        refine TA.takeP 0 rfl (by kernel_rfl) (by kernel_rfl) (by kernel_rfl) rfl (OpVal.moveI (.inl rfl) rfl) rfl rfl ?_
        refine TA.takeP 1 rfl (by kernel_rfl) (by kernel_rfl) (by kernel_rfl) rfl (OpVal.fieldLoc rfl fo25_1 rfl) rfl rfl ?_
        refine TA.take 2 rfl (by kernel_rfl) (by kernel_rfl) (by kernel_rfl) (by kernel_rfl) rfl (OpVal.loadLoc rfl ag22 rfl (i := 2) rfl rfl) rfl rfl ?_
        refine TA.takeP 3 rfl (by kernel_rfl) (by kernel_rfl) (by kernel_rfl) rfl (OpVal.fieldLoc rfl fo25_1 rfl) rfl rfl ?_
        refine TA.take 4 rfl (by kernel_rfl) (by kernel_rfl) (by kernel_rfl) (by kernel_rfl) rfl (OpVal.loadLoc rfl ag22 rfl (i := 1) rfl rfl) rfl rfl ?_
        refine TA.takeP 5 rfl (by kernel_rfl) (by kernel_rfl) (by kernel_rfl) rfl (OpVal.fieldLoc rfl fo25_0 rfl) rfl rfl ?_
        refine TA.take 6 rfl (by kernel_rfl) (by kernel_rfl) (by kernel_rfl) (by kernel_rfl) rfl (OpVal.loadLoc rfl ag3 rfl (i := 2) rfl rfl) rfl rfl ?_
        refine TA.takeP 10 rfl (by kernel_rfl) (by kernel_rfl) (by kernel_rfl) rfl (OpVal.fieldLoc rfl fo25_2 rfl) rfl rfl ?_
        refine TA.take 11 rfl (by kernel_rfl) (by kernel_rfl) (by kernel_rfl) (by kernel_rfl) rfl (OpVal.loadLoc rfl ag22 rfl (i := 2) rfl rfl) rfl rfl ?_
        refine TA.takeP 12 rfl (by kernel_rfl) (by kernel_rfl) (by kernel_rfl) rfl (OpVal.fieldLoc rfl fo25_2 rfl) rfl rfl ?_
        refine TA.take 13 rfl (by kernel_rfl) (by kernel_rfl) (by kernel_rfl) (by kernel_rfl) rfl (OpVal.loadLoc rfl ag22 rfl (i := 1) rfl rfl) rfl rfl ?_
        refine TA.takeP 14 rfl (by kernel_rfl) (by kernel_rfl) (by kernel_rfl) rfl (OpVal.fieldLoc rfl fo25_0 rfl) rfl rfl ?_
        refine TA.take 15 rfl (by kernel_rfl) (by kernel_rfl) (by kernel_rfl) (by kernel_rfl) rfl (OpVal.loadLoc rfl ag3 rfl (i := 2) rfl rfl) rfl rfl ?_
        refine TA.take 19 rfl (by kernel_rfl) (by kernel_rfl) (by kernel_rfl) (by kernel_rfl) rfl (OpVal.loadAll rfl ag25 sz25 rfl (i := 2) rfl rfl) rfl rfl ?_
        refine TA.take 20 rfl (by kernel_rfl) (by kernel_rfl) (by kernel_rfl) (by kernel_rfl) rfl (OpVal.loadAll rfl ag25 sz25 rfl (i := 1) rfl rfl) rfl rfl ?_
        refine TA.act 7 (by kernel_rfl) rfl rfl (OpOk.call (nfa_shift_con f1_0 u42) rfl rfl pf63 rfl rfl rfl rfl ?_)
        rintro _ _ _ hle141 ⟨a141_1, c141_1, rfl, rfl, rfl⟩
        refine ⟨(fun w h => sees_of (Store.le.refl _) (fun r hr => (List.mem_cons_of_mem _ hr)) w h), ?_⟩
        refine TA.sealS encI_len (fun τ147 hle146 hr145 => ?_)
        replace f0_0 := f0_0.mono hle146
        replace f0_1 := f0_1.mono hle146
        replace f0_2 := f0_2.mono hle146
        replace f1_0 := f1_0.mono hle146
        replace f1_1 := f1_1.mono hle146
        replace f1_2 := f1_2.mono hle146
        have hr145b := hr145.rv.big
        have zf148 : ZOk _ (pkSl 1 encI encI_len) [(x0.starts, (a0_0, c0_0)), (v42, (a141_1, c141_1))] [x0.starts, v42] := ZOk.cons (f0_0) (ZOk.cons (hr145) (ZOk.nil _ _))
        refine TA.act 8 (by kernel_rfl) rfl rfl (OpOk.litZ zf148 rfl Try.underlying56 sz22 rfl ze22 rfl rfl rfl (by decide) (by decide) rfl (by decide) rfl (by decide) (fun a143 c144 => ⟨(fun w h => sees_of hle146 (fun r hr => (List.mem_cons_of_mem _ hr)) w h), ?_⟩))
        refine TA.sealZ zf148 (fun τ152 hle151 hr150 => ?_)
        replace f0_0 := f0_0.mono hle151
        replace f0_1 := f0_1.mono hle151
        replace f0_2 := f0_2.mono hle151
        replace f1_0 := f1_0.mono hle151
        replace f1_1 := f1_1.mono hle151
        replace f1_2 := f1_2.mono hle151
        replace hr145 := hr145.mono hle151
        replace zf148 := zf148.mono hle151
        have hr150b := hr150.big
        refine TA.act 9 (by kernel_rfl) rfl rfl (OpOk.call (concatI_con hr150 u44) rfl rfl pf66 rfl rfl rfl rfl ?_)
        rintro _ _ _ hle153 ⟨a153_1, c153_1, rfl, rfl, rfl⟩
        refine ⟨(fun w h => sees_of (hle146.trans hle151) (fun r hr => (List.mem_cons_of_mem _ hr)) w h), ?_⟩
        refine TA.act 16 (by kernel_rfl) rfl rfl (OpOk.call (nfa_shift_con f1_1 u51) rfl rfl pf63 rfl rfl rfl rfl ?_)
        rintro _ _ _ hle155 ⟨a155_1, c155_1, rfl, rfl, rfl⟩
        refine ⟨(fun w h => sees_of (hle146.trans hle151) (fun r hr => (List.mem_cons_of_mem _ (List.mem_cons_of_mem _ hr))) w h), ?_⟩
        refine TA.sealS encI_len (fun τ161 hle160 hr159 => ?_)
        replace f0_0 := f0_0.mono hle160
        replace f0_1 := f0_1.mono hle160
        replace f0_2 := f0_2.mono hle160
        replace f1_0 := f1_0.mono hle160
        replace f1_1 := f1_1.mono hle160
        replace f1_2 := f1_2.mono hle160
        replace hr145 := hr145.mono hle160
        replace zf148 := zf148.mono hle160
        replace hr150 := hr150.mono hle160
        have hr159b := hr159.rv.big
        have zf162 : ZOk _ (pkSl 1 encI encI_len) [(x0.ends, (a0_1, c0_1)), (v51, (a155_1, c155_1))] [x0.ends, v51] := ZOk.cons (f0_1) (ZOk.cons (hr159) (ZOk.nil _ _))
        refine TA.act 17 (by kernel_rfl) rfl rfl (OpOk.litZ zf162 rfl Try.underlying56 sz22 rfl ze22 rfl rfl rfl (by decide) (by decide) rfl (by decide) rfl (by decide) (fun a157 c158 => ⟨(fun w h => sees_of ((hle146.trans hle151).trans hle160) (fun r hr => (List.mem_cons_of_mem _ (List.mem_cons_of_mem _ hr))) w h), ?_⟩))
        refine TA.sealZ zf162 (fun τ166 hle165 hr164 => ?_)
        replace f0_0 := f0_0.mono hle165
        replace f0_1 := f0_1.mono hle165
        replace f0_2 := f0_2.mono hle165
        replace f1_0 := f1_0.mono hle165
        replace f1_1 := f1_1.mono hle165
        replace f1_2 := f1_2.mono hle165
        replace hr145 := hr145.mono hle165
        replace zf148 := zf148.mono hle165
        replace hr150 := hr150.mono hle165
        replace hr159 := hr159.mono hle165
        replace zf162 := zf162.mono hle165
        have hr164b := hr164.big
        refine TA.act 18 (by kernel_rfl) rfl rfl (OpOk.call (concatI_con hr164 u53) rfl rfl pf66 rfl rfl rfl rfl ?_)
        rintro _ _ _ hle167 ⟨a167_1, c167_1, rfl, rfl, rfl⟩
        refine ⟨(fun w h => sees_of (((hle146.trans hle151).trans hle160).trans hle165) (fun r hr => (List.mem_cons_of_mem _ (List.mem_cons_of_mem _ hr))) w h), ?_⟩
        refine TA.act 21 (by kernel_rfl) rfl rfl (OpOk.callM (both_con _ x0 x1 ⟨a0_0, c0_0, a0_1, c0_1, a0_2, c0_2⟩ ⟨a1_0, c1_0, a1_1, c1_1, a1_2, c1_2⟩ ⟨f0_0, f0_1, f0_2, fun x _ => x.set.isOk⟩ ⟨f1_0, f1_1, f1_2, fun x _ => x.set.isOk⟩ u56a u56b u56c u56d) rfl rfl pf62 rfl rfl rfl (fun b169 a169 c169 => ⟨(fun w h => sees_of (((hle146.trans hle151).trans hle160).trans hle165) (fun r hr => (List.mem_cons_of_mem _ (List.mem_cons_of_mem _ (List.mem_cons_of_mem _ (List.mem_cons_of_mem _ hr))))) w h), ?_⟩))
        refine TA.takeP 22 rfl (by kernel_rfl) (by kernel_rfl) (by kernel_rfl) rfl (OpVal.nilCheckLoc rfl rfl) rfl rfl ?_
        refine TA.takeP 23 rfl (by kernel_rfl) (by kernel_rfl) (by kernel_rfl) rfl (OpVal.fieldLoc rfl fo74_0 rfl) rfl rfl ?_
        refine TA.act 24 (by kernel_rfl) rfl rfl (OpVal.ok (OpVal.loadLoc rfl ag23 rfl (i := 0) rfl rfl) rfl rfl ⟨(fun w h => sees_of (((hle146.trans hle151).trans hle160).trans hle165) (fun r hr => (List.mem_cons_of_mem _ (List.mem_cons_of_mem _ (List.mem_cons_of_mem _ (List.mem_cons_of_mem _ hr))))) w h), ?_⟩)
        refine TA.takeP 25 rfl (by kernel_rfl) (by kernel_rfl) (by kernel_rfl) rfl (OpVal.buildL rfl pl25 ze25 rfl) rfl rfl ?_
        refine TA.front 4 rfl rfl ?_
        refine TA.last 26 (by kernel_rfl) rfl rfl rfl (OpOk.storeAll rfl sz25 rfl rfl rfl rfl rfl rfl ?_)
        refine TZ.v 27 (by kernel_rfl) rfl rfl rfl (OpVal.moveI (.inr rfl) rfl) rfl rfl ?_
        refine TZ.done (by kernel_rfl) ?_
        refine S.n ?_
        refine TC.front 4 rfl rfl ?_
        refine TC.sealS encI_len (fun τ174 hle173 hr172 => ?_)
        replace f0_0 := f0_0.mono hle173
        replace f0_1 := f0_1.mono hle173
        replace f0_2 := f0_2.mono hle173
        replace f1_0 := f1_0.mono hle173
        replace f1_1 := f1_1.mono hle173
        replace f1_2 := f1_2.mono hle173
        replace hr145 := hr145.mono hle173
        replace zf148 := zf148.mono hle173
        replace hr150 := hr150.mono hle173
        replace hr159 := hr159.mono hle173
        replace zf162 := zf162.mono hle173
        replace hr164 := hr164.mono hle173
        have hr172b := hr172.rv.big
        refine TC.front 3 rfl rfl ?_
        refine TC.sealS encI_len (fun τ177 hle176 hr175 => ?_)
        replace f0_0 := f0_0.mono hle176
        replace f0_1 := f0_1.mono hle176
        replace f0_2 := f0_2.mono hle176
        replace f1_0 := f1_0.mono hle176
        replace f1_1 := f1_1.mono hle176
        replace f1_2 := f1_2.mono hle176
        replace hr145 := hr145.mono hle176
        replace zf148 := zf148.mono hle176
        replace hr150 := hr150.mono hle176
        replace hr159 := hr159.mono hle176
        replace zf162 := zf162.mono hle176
        replace hr164 := hr164.mono hle176
        replace hr172 := hr172.mono hle176
        have hr175b := hr175.rv.big
        refine TC.front 2 rfl rfl ?_
        refine TC.sealS encE_len (fun τ180 hle179 hr178 => ?_)
        replace f0_0 := f0_0.mono hle179
        replace f0_1 := f0_1.mono hle179
        replace f0_2 := f0_2.mono hle179
        replace f1_0 := f1_0.mono hle179
        replace f1_1 := f1_1.mono hle179
        replace f1_2 := f1_2.mono hle179
        replace hr145 := hr145.mono hle179
        replace zf148 := zf148.mono hle179
        replace hr150 := hr150.mono hle179
        replace hr159 := hr159.mono hle179
        replace zf162 := zf162.mono hle179
        replace hr164 := hr164.mono hle179
        replace hr172 := hr172.mono hle179
        replace hr175 := hr175.mono hle179
        have hr178b := hr178.rv.big
        refine TC.ofSub (Sub.pre 1 rfl) ?_
        refine TC.ret ?_
        obtain rfl := Option.some.inj hh
        exact RetOk.mk' (rs := [.cell 4 25, .tmp 5]) [] rfl (.inl rfl) (RVs.agg ag25 sz25 rfl (i := 0) rfl rfl (RVs.tmp rfl RVs.nil)) (List.sublist_append_left _ _) ⟨a153_1, c153_1, a167_1, c167_1, a169, c169, rfl, hr172, hr175, hr178, rfl⟩

end Go.Proofs.Ytcidppnlhhkhhaa
