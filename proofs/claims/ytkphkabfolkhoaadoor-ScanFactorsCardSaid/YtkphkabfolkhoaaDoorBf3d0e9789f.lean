/- Parts of a proof, one behind the other: what a machine reaches, functions decompiled, plain lemmas. Conditions stand with each lemma. -/
import Derived.Test.YtkphkabfolkhoaaDoorB26b01dbb5c
import Derived.Test.YtkphkabfolkhoaaDoorBed0bd8bcc0
import Derived.Test.YtkphkabfolkhoaaDoorB4482f81139
import Derived.Test.YtkphkabfolkhoaaDoorBe94425dc2f

/- S3 -/
section
/- Decompiled: the reference's factors; the laws. -/
set_option linter.unusedVariables false
set_option linter.unusedSimpArgs false
namespace Go.Proofs.YtkphkabfolkhoaaDoor
open Go Go.E
set_option maxRecDepth 100000
private theorem ag23 : Go.E.aggOf Tryd.prog 23 = some false := by kernel_rfl
private theorem ag24 : Go.E.aggOf Tryd.prog 24 = some false := by kernel_rfl
private theorem ag26 : Go.E.aggOf Tryd.prog 26 = some true := by kernel_rfl
private theorem ag43 : Go.E.aggOf Tryd.prog 43 = some true := by kernel_rfl
private theorem by43 : Go.E.byOf Tryd.prog 43 = some 16 := by kernel_rfl
private theorem by59 : Go.E.byOf Tryd.prog 59 = some 32 := by kernel_rfl
private theorem eg43 : Tryd.prog.eqGuardType Tryd.prog.depth 43 = false := by kernel_rfl
private theorem es43 (x y : Span) : Go.E.EqAt Tryd.prog 2 43 (.agg (Go.E.encSpan x).toArray) (.agg (Go.E.encSpan y).toArray) (decide (x = y)) :=
  (EqAt.struct (ts := [(false, 3, 0), (false, 3, 1)]) (by kernel_rfl) (by kernel_rfl) (by kernel_rfl) (EqC.one (by kernel_rfl) rfl rfl (EqAt.int Tryd.underlying3 x.frm y.frm) (EqC.one (by kernel_rfl) rfl rfl (EqAt.int Tryd.underlying3 x.to y.to) EqC.nil))).of (by rw [Bool.eq_iff_iff]; cases x; cases y; simp)
private theorem fo26_0 : Go.E.foOf Tryd.prog 26 0 = some 0 := by kernel_rfl
private theorem fo26_1 : Go.E.foOf Tryd.prog 26 1 = some 1 := by kernel_rfl
private theorem fo26_2 : Go.E.foOf Tryd.prog 26 2 = some 2 := by kernel_rfl
private theorem pf15 : Go.E.plainF Tryd.prog 15 = true := by kernel_rfl
private theorem pf17 : Go.E.plainF Tryd.prog 17 = true := by kernel_rfl
private theorem pf24 : Go.E.plainF Tryd.prog 24 = true := by kernel_rfl
private theorem pf25 : Go.E.plainF Tryd.prog 25 = true := by kernel_rfl
private theorem pf32 : Go.E.plainF Tryd.prog 32 = true := by kernel_rfl
private theorem pf36 : Go.E.plainF Tryd.prog 36 = true := by kernel_rfl
private theorem pf53 : Go.E.plainF Tryd.prog 53 = true := by kernel_rfl
private theorem pl43 : Go.E.plOf Tryd.prog 43 = some #[(0, 1), (1, 1)] := by kernel_rfl
private theorem sz22 : Go.E.szOf Tryd.prog 22 = some 1 := by kernel_rfl
private theorem sz26 : Go.E.szOf Tryd.prog 26 = some 3 := by kernel_rfl
private theorem sz43 : Go.E.szOf Tryd.prog 43 = some 2 := by kernel_rfl
private theorem ze43 : Go.E.zeroOf Tryd.prog 43 = some (.agg #[.int .i64 0, .int .i64 0]) := by kernel_rfl
theorem make_conL (σ : Store) (a : Option Addr) (c : Nat) (l : List Bool) (h256 : l.length = 256) :
    Con Tryd.prog 53 #[.slice a l.length c] σ [Res.rowS 4 1 encB (.slice a l.length c) l] (PureP (setV (BSet.make fun i => nth l i false)) σ) := by
  rw [h256]; exact make_con σ a c l h256

noncomputable def whittleref02_Sets_b3 (x0 : List Int) (k126 : Nat) (l123 : List BSet) (l139 : List Bool) (k141 : Nat) : Option (((List Bool) × Nat) ⊕ (((List BSet) × Nat) ⊕ ((List BSet) × Int))) :=
  iteO (decide (((k141 : Nat) : Int) < 256)) (grd (k141 < x0.length) (grd (k141 < l139.length) (nxt ((l139.set k141 (decide ((nth x0 k141 (0 : Int)) = ((k126 : Nat) : Int)))), (k141 + 1))))) (fin (grd (l139.length = 256) (grd ((l123.length + [(BSet.make fun i => nth l139 i false)].length) * 32 ≤ 140737488355328) (grd (k126 + 1 ≤ 9223372036854775807) (nxt ((l123 ++ [(BSet.make fun i => nth l139 i false)]), (k126 + 1)))))))
noncomputable def whittleref02_Sets_b2 (i106 : Int) (x0 : List Int) (l123 : List BSet) (k126 : Nat) : Option (((List BSet) × Nat) ⊕ ((List BSet) × Int)) :=
  iteO (decide (((k126 : Nat) : Int) ≤ i106)) (iter (fun q : (List Bool) × Nat => whittleref02_Sets_b3 x0 k126 l123 q.1 q.2) ((List.replicate 256 false), 0)) (fin (some (l123, 0)))
noncomputable def whittleref02_Sets_b1 (x0 : List Int) (i106 : Int) (k107 : Nat) : Option ((Int × Nat) ⊕ ((List BSet) × Int)) :=
  iteO (decide (((k107 : Nat) : Int) < 256)) (grd (k107 < x0.length) (iteO (decide ((nth x0 k107 (0 : Int)) < 0)) (fin (some (([] : List BSet), 1))) (grd (k107 < x0.length) (iteO (decide ((IntKind.i64.wrap (i106 + 1)) < (nth x0 k107 (0 : Int)))) (fin (some (([] : List BSet), 1))) (grd (k107 < x0.length) (nxt ((max i106 (nth x0 k107 (0 : Int))), (k107 + 1)))))))) (fin (iter (fun q : (List BSet) × Nat => whittleref02_Sets_b2 i106 x0 q.1 q.2) (([] : List BSet), 0)))
noncomputable def whittleref02_Sets (x0 : List Int) : Option ((List BSet) × Int) :=
  iteO (decide (((x0.length : Nat) : Int) ≠ 256)) (some (([] : List BSet), 1)) (iter (fun q : Int × Nat => whittleref02_Sets_b1 x0 q.1 q.2) ((-1), 0))
def whittleref02_Sets_P (σ : Store) (r : (List BSet) × Int) : Value → Store → List Res → Prop := fun v σ' H' =>
  ∃ (a1 : Option Addr), ∃ (c1 : Nat),  v = .tuple #[.slice a1 r.1.length c1, .int .i64 r.2] ∧ RS σ' 4 encSet (.slice a1 r.1.length c1) r.1 ∧ H' = []
theorem whittleref02_Sets_con {σ : Store} {x0 : List Int} {a0_0 : Option Addr} {c0_0 : Nat} (f0_0 : RS σ 1 Go.E.encI (.slice a0_0 x0.length c0_0) x0) {r : (List BSet) × Int} (hh : whittleref02_Sets x0 = some r) :
    Con Tryd.prog 36 #[.slice a0_0 x0.length c0_0] σ [] (whittleref02_Sets_P σ r) := by
  dsimp only [whittleref02_Sets] at hh
  have f0_0b := f0_0.rv.big
  refine Con.mk (n := 62) Tryd.func36 rfl rfl rfl (fun w0 => ?_)
  refine TC.seq ?_
  refine TC.region ?_
  refine TL.v rfl (OpVal.moveSl (.inr rfl) rfl) rfl rfl ?_
  refine TL.v rfl (OpVal.moveI (.inr rfl) rfl) rfl rfl ?_
  refine TL.nil ?_
  refine S.n ?_
  refine TC.seq ?_
  refine TC.seq ?_
  refine TC.region ?_
  refine TL.v rfl (OpVal.moveSl (.inl rfl) rfl) rfl rfl ?_
  refine TL.v rfl (OpVal.lenC rfl Tryd.underlying22 rfl) rfl rfl ?_
  refine TL.v rfl (OpVal.neq rfl rfl rfl) rfl rfl ?_
  refine TL.nil ?_
  refine S.n ?_
  refine TC.cond rfl (fun h101 => ?_) (fun h101 => ?_)
  · replace hh := iteO_t h101 hh
    replace h101 := of_decide_eq_true h101
    refine TC.seq ?_
    refine TC.region ?_
    refine TL.v rfl (OpVal.moveSl (.inr rfl) rfl) rfl rfl ?_
    refine TL.v rfl (OpVal.moveI (.inr rfl) rfl) rfl rfl ?_
    refine TL.nil ?_
    refine S.n ?_
    refine TC.ret ?_
    refine S.r ?_
    obtain rfl := Option.some.inj hh
    exact RetOk.mk' (rs := [.tmp 2, .tmp 3]) [] rfl (.inl rfl) (RVs.tmp rfl (RVs.tmp rfl RVs.nil)) (List.sublist_append_left _ _) ⟨none, 0, rfl, (RS.nilF _ encSet encSet_len), rfl⟩
  · replace hh := iteO_f h101 hh
    replace h101 := of_decide_eq_false h101
    refine TC.skip ?_
    refine S.n ?_
    refine TC.seq ?_
    refine TC.region ?_
    refine TL.v rfl (OpVal.moveI (.inr rfl) rfl) rfl rfl ?_
    refine TL.nil ?_
    refine S.n ?_
    refine TC.seq ?_
    refine TC.seq ?_
    refine TC.region ?_
    refine TL.v rfl (OpVal.moveI (.inr rfl) rfl) rfl rfl ?_
    refine TL.nil ?_
    refine S.n ?_
    refine TC.block ?_
    refine TC.loopG (α := (Int × Nat) × (Unit)) [2, 3, 4, 5, 13, 14, 15, 16, 17, 18, 19, 20, 21, 22, 23, 24, 25, 26, 27, 28, 29, 30, 31, 32, 33, 34, 35, 36] (fun g => [(4, .int .i64 g.1.1), (5, .int .i64 ((g.1.2 : Nat) : Int))]) (fun g => []) (fun g => σ) (fun g => iter (fun q : Int × Nat => whittleref02_Sets_b1 x0 q.1 q.2) g.1 = some r) (fun g => rounds (fun q : Int × Nat => whittleref02_Sets_b1 x0 q.1 q.2) g.1) (((-1), 0), ()) (Sub.pre 0 rfl) rfl (by repeat (first | exact trivial | refine ⟨rfl, ?_⟩)) hh (fun g1 j1 hg1 => ?_)
    obtain ⟨⟨i106, k107⟩, _⟩ := g1
    have hh := hg1; clear hg1
    show TC _ _ _ (upds (mask _ j1 _) [(4, .int .i64 i106), (5, .int .i64 ((k107 : Nat) : Int))]) _ []
    obtain ⟨z1, hh, hR1⟩ := iter_e hh
    dsimp only [whittleref02_Sets_b1] at hh
    refine TC.seq ?_
    refine TC.seq ?_
    refine TC.region ?_
    refine TL.v rfl (OpVal.moveI (.inl rfl) rfl) rfl rfl ?_
    refine TL.v rfl (OpVal.lss rfl rfl rfl) rfl rfl ?_
    refine TL.nil ?_
    refine S.n ?_
    refine TC.cond rfl (fun h108 => ?_) (fun h108 => ?_)
    · replace hh := iteO_t h108 hh
      replace h108 := of_decide_eq_true h108
      refine TC.skip ?_
      refine S.n ?_
      refine TC.seq ?_
      refine TC.block ?_
      refine TC.seq ?_
      refine TC.seq ?_
      refine TC.region ?_
      refine TL.v rfl (OpVal.moveSl (.inl rfl) rfl) rfl rfl ?_
      refine TL.v rfl (OpVal.moveI (.inl rfl) rfl) rfl rfl ?_
      have u14 := grd_c hh
      replace hh := grd_t hh
      refine TL.v rfl (OpVal.indexN rfl Tryd.underlying22 sz3 rfl rfl f0_0.rv.sl (by omega)) rfl rfl ?_
      refine TL.v rfl (OpVal.loadS1 (0 : Int) rfl ag3 rfl f0_0 (by omega) rfl) rfl rfl ?_
      refine TL.v rfl (OpVal.lss rfl rfl rfl) rfl rfl ?_
      refine TL.v rfl (OpVal.moveB (.inl rfl) rfl) rfl rfl ?_
      refine TL.split 22 rfl (fun h109 => ?_) (fun h109 => ?_)
      · replace hh := iteO_t h109 hh
        replace h109 := of_decide_eq_true h109
        refine TL.goff rfl rfl rfl rfl rfl rfl rfl rfl ?_
        refine TL.goff rfl rfl rfl rfl rfl rfl rfl rfl ?_
        refine TL.goff rfl rfl rfl rfl rfl rfl rfl rfl ?_
        refine TL.goff rfl rfl rfl rfl rfl rfl rfl rfl ?_
        refine TL.goff rfl rfl rfl rfl rfl rfl rfl rfl ?_
        refine TL.goff rfl rfl rfl rfl rfl rfl rfl rfl ?_
        refine TL.goff rfl rfl rfl rfl rfl rfl rfl rfl ?_
        refine TL.v rfl (OpVal.pickTB rfl rfl rfl) rfl rfl ?_
        refine TL.nil ?_
        refine S.n ?_
        refine TC.cond rfl (fun _ => ?_) (fun h => Bool.noConfusion h)
        refine TC.seq ?_
        refine TC.region ?_
        refine TL.v rfl (OpVal.moveSl (.inr rfl) rfl) rfl rfl ?_
        refine TL.v rfl (OpVal.moveI (.inr rfl) rfl) rfl rfl ?_
        refine TL.nil ?_
        refine S.n ?_
        refine TC.ret ?_
        refine S.r ?_
        refine B.r ?_
        refine S.r ?_
        refine S.r ?_
        replace hh := fin_x hR1 hh
        refine B.r ?_
        refine S.r ?_
        obtain rfl := Option.some.inj hh
        exact RetOk.mk' (rs := [.tmp 2, .tmp 3]) [] rfl (.inl rfl) (RVs.tmp rfl (RVs.tmp rfl RVs.nil)) (List.sublist_append_left _ _) ⟨none, 0, rfl, (RS.nilF _ encSet encSet_len), rfl⟩
      · replace hh := iteO_f h109 hh
        replace h109 := of_decide_eq_false h109
        refine TL.gv rfl rfl rfl rfl rfl (OpVal.moveSl (.inl rfl) rfl) rfl rfl ?_
        refine TL.gv rfl rfl rfl rfl rfl (OpVal.moveI (.inl rfl) rfl) rfl rfl ?_
        have u20 := grd_c hh
        replace hh := grd_t hh
        refine TL.gv rfl rfl rfl rfl rfl (OpVal.indexN rfl Tryd.underlying22 sz3 rfl rfl f0_0.rv.sl (by omega)) rfl rfl ?_
        refine TL.gv rfl rfl rfl rfl rfl (OpVal.loadS1 (0 : Int) rfl ag3 rfl f0_0 (by omega) rfl) rfl rfl ?_
        refine TL.gv rfl rfl rfl rfl rfl (OpVal.moveI (.inl rfl) rfl) rfl rfl ?_
        refine TL.gv rfl rfl rfl rfl rfl (OpVal.addW rfl rfl rfl) rfl rfl ?_
        refine TL.gv rfl rfl rfl rfl rfl (OpVal.gtr rfl rfl rfl) rfl rfl ?_
        refine TL.v rfl (OpVal.pickFB rfl rfl rfl) rfl rfl ?_
        refine TL.nil ?_
        refine S.n ?_
        refine TC.cond rfl (fun h110 => ?_) (fun h110 => ?_)
        · replace hh := iteO_t h110 hh
          replace h110 := of_decide_eq_true h110
          refine TC.seq ?_
          refine TC.region ?_
          refine TL.v rfl (OpVal.moveSl (.inr rfl) rfl) rfl rfl ?_
          refine TL.v rfl (OpVal.moveI (.inr rfl) rfl) rfl rfl ?_
          refine TL.nil ?_
          refine S.n ?_
          refine TC.ret ?_
          refine S.r ?_
          refine B.r ?_
          refine S.r ?_
          refine S.r ?_
          replace hh := fin_x hR1 hh
          refine B.r ?_
          refine S.r ?_
          obtain rfl := Option.some.inj hh
          exact RetOk.mk' (rs := [.tmp 2, .tmp 3]) [] rfl (.inl rfl) (RVs.tmp rfl (RVs.tmp rfl RVs.nil)) (List.sublist_append_left _ _) ⟨none, 0, rfl, (RS.nilF _ encSet encSet_len), rfl⟩
        · replace hh := iteO_f h110 hh
          replace h110 := of_decide_eq_false h110
          refine TC.skip ?_
          refine S.n ?_
          refine TC.region ?_
          refine TL.v rfl (OpVal.moveI (.inl rfl) rfl) rfl rfl ?_
          refine TL.v rfl (OpVal.moveSl (.inl rfl) rfl) rfl rfl ?_
          refine TL.v rfl (OpVal.moveI (.inl rfl) rfl) rfl rfl ?_
          have u31 := grd_c hh
          replace hh := grd_t hh
          refine TL.v rfl (OpVal.indexN rfl Tryd.underlying22 sz3 rfl rfl f0_0.rv.sl (by omega)) rfl rfl ?_
          refine TL.v rfl (OpVal.loadS1 (0 : Int) rfl ag3 rfl f0_0 (by omega) rfl) rfl rfl ?_
          refine TL.v rfl (OpVal.maxI rfl rfl rfl) rfl rfl ?_
          refine TL.v rfl (OpVal.moveI (.inr rfl) rfl) rfl rfl ?_
          refine TL.nil ?_
          refine B.n ?_
          refine S.n ?_
          refine TC.region ?_
          refine TL.v rfl (OpVal.moveI (.inl rfl) rfl) rfl rfl ?_
          refine TL.v rfl (OpVal.succ rfl rfl rfl (by omega)) rfl rfl ?_
          refine TL.v rfl (OpVal.moveI (.inr rfl) rfl) rfl rfl ?_
          refine TL.nil ?_
          refine S.n ?_
          obtain ⟨hh, hlt111⟩ := nxt_x hR1 hh
          refine ⟨by repeat (first | exact Agr.refl _ _ | exact Agr.mask | refine Agr.upd rfl ?_ | refine Agr.maskIn rfl ?_ | refine Agr.upds rfl ?_), (((max i106 (nth x0 k107 (0 : Int))), (k107 + 1)), ()), hlt111, hh, by repeat (first | exact trivial | refine ⟨rfl, ?_⟩), Sub.pre 0 rfl, rfl⟩
    · replace hh := iteO_f h108 hh
      replace h108 := of_decide_eq_false h108
      refine TC.exit ?_
      refine S.x ?_
      refine S.x ?_
      replace hh := fin_x hR1 hh
      refine TC.exitHere ?_
      refine S.n ?_
      refine TC.seq ?_
      refine TC.region ?_
      refine TL.v rfl (OpVal.moveSl (.inr rfl) rfl) rfl rfl ?_
      refine TL.nil ?_
      refine S.n ?_
      refine TC.seq ?_
      refine TC.seq ?_
      refine TC.region ?_
      refine TL.v rfl (OpVal.moveI (.inr rfl) rfl) rfl rfl ?_
      refine TL.nil ?_
      refine S.n ?_
      refine TC.block ?_
      refine TC.nilS 59 4 encSet ?_
      refine TC.loopG (α := ((List BSet) × Nat) × ((Option Addr) × Nat)) [6, 7, 8, 9, 37, 38, 39, 40, 41, 42, 43, 44, 45, 46, 47, 48, 49, 50, 51, 52, 53, 54, 55, 56, 57, 58, 59, 60] (fun g => [(6, .slice g.2.1 g.1.1.length g.2.2), (7, .int .i64 ((g.1.2 : Nat) : Int))]) (fun g => [Res.rowS 59 4 encSet (.slice g.2.1 g.1.1.length g.2.2) g.1.1]) (fun g => σ) (fun g => iter (fun q : (List BSet) × Nat => whittleref02_Sets_b2 i106 x0 q.1 q.2) g.1 = some r) (fun g => rounds (fun q : (List BSet) × Nat => whittleref02_Sets_b2 i106 x0 q.1 q.2) g.1) ((([] : List BSet), 0), (none, 0)) (Sub.pre 1 rfl) rfl (by repeat (first | exact trivial | refine ⟨rfl, ?_⟩)) hh (fun g2 j2 hg2 => ?_)
      obtain ⟨⟨l123, k126⟩, ⟨a124, c125⟩⟩ := g2
      have hh := hg2; clear hg2
      show TC _ _ _ (upds (mask _ j2 _) [(6, .slice a124 l123.length c125), (7, .int .i64 ((k126 : Nat) : Int))]) _ [Res.rowS 59 4 encSet (.slice a124 l123.length c125) l123]
      obtain ⟨z1, hh, hR1⟩ := iter_e hh
      dsimp only [whittleref02_Sets_b2] at hh
      refine TC.isSl (i := 0) rfl (fun _ hb128 _ => ?_)
      refine TC.seq ?_
      refine TC.seq ?_
      refine TC.region ?_
      refine TL.v rfl (OpVal.moveI (.inl rfl) rfl) rfl rfl ?_
      refine TL.v rfl (OpVal.moveI (.inl rfl) rfl) rfl rfl ?_
      refine TL.v rfl (OpVal.leq rfl rfl rfl) rfl rfl ?_
      refine TL.nil ?_
      refine S.n ?_
      refine TC.cond rfl (fun h129 => ?_) (fun h129 => ?_)
      · replace hh := iteO_t h129 hh
        replace h129 := of_decide_eq_true h129
        refine TC.skip ?_
        refine S.n ?_
        refine TC.seq ?_
        refine TC.block ?_
        refine TC.seq ?_
        refine TC.region ?_
        refine TL.op rfl (OpOk.makeS2 (m := 256) (enc := encB) false rfl Tryd.underlying24 sz4 by4 ze4 rfl rfl rfl rfl (by omega) (by decide) encB_len (by decide) rfl encB_one (fun a130 c131 => ?_))
        refine TL.v rfl (OpVal.moveSl (.inr rfl) rfl) rfl rfl ?_
        refine TL.nil ?_
        refine S.n ?_
        refine TC.seq ?_
        refine TC.seq ?_
        refine TC.region ?_
        refine TL.v rfl (OpVal.moveI (.inr rfl) rfl) rfl rfl ?_
        refine TL.nil ?_
        refine S.n ?_
        refine TC.block ?_
        refine TC.loopG (α := ((List Bool) × Nat) × (Unit)) [9, 43, 44, 45, 46, 47, 48, 49, 50, 51, 52, 53, 54, 55] (fun g => [(9, .int .i64 ((g.1.2 : Nat) : Int))]) (fun g => [Res.rowS 59 4 encSet (.slice a124 l123.length c125) l123, Res.rowS 4 1 encB (.slice a130 (List.replicate 256 false).length c131) g.1.1]) (fun g => σ) (fun g => iter (fun q : (List Bool) × Nat => whittleref02_Sets_b3 x0 k126 l123 q.1 q.2) g.1 = some z1 ∧ g.1.1.length = (List.replicate 256 false).length) (fun g => rounds (fun q : (List Bool) × Nat => whittleref02_Sets_b3 x0 k126 l123 q.1 q.2) g.1) (((List.replicate 256 false), 0), ()) (Sub.front 1 rfl rfl (Sub.pre 2 rfl)) rfl (by repeat (first | exact trivial | refine ⟨rfl, ?_⟩)) ⟨hh, rfl⟩ (fun g3 j3 hg3 => ?_)
        obtain ⟨⟨l139, k141⟩, _⟩ := g3
        obtain ⟨hh, hn140⟩ := hg3
        try dsimp only at hn140
        show TC _ _ _ (upds (mask _ j3 _) [(9, .int .i64 ((k141 : Nat) : Int))]) _ [Res.rowS 59 4 encSet (.slice a124 l123.length c125) l123, Res.rowS 4 1 encB (.slice a130 (List.replicate 256 false).length c131) l139]
        obtain ⟨z2, hh, hR2⟩ := iter_e hh
        dsimp only [whittleref02_Sets_b3] at hh
        have hn140b := hn140
        refine TC.isSl (i := 0) rfl (fun _ hb142 _ => ?_)
        refine TC.isSl (i := 1) rfl (fun _ hb143 _ => ?_)
        refine TC.seq ?_
        refine TC.seq ?_
        refine TC.region ?_
        refine TL.v rfl (OpVal.moveI (.inl rfl) rfl) rfl rfl ?_
        refine TL.v rfl (OpVal.lss rfl rfl rfl) rfl rfl ?_
        refine TL.nil ?_
        refine S.n ?_
        refine TC.cond rfl (fun h144 => ?_) (fun h144 => ?_)
        · replace hh := iteO_t h144 hh
          replace h144 := of_decide_eq_true h144
          refine TC.skip ?_
          refine S.n ?_
          refine TC.seq ?_
          refine TC.block ?_
          refine TC.region ?_
          refine TL.v rfl (OpVal.moveSl (.inl rfl) rfl) rfl rfl ?_
          refine TL.v rfl (OpVal.moveI (.inl rfl) rfl) rfl rfl ?_
          refine TL.v rfl (OpVal.moveSl (.inl rfl) rfl) rfl rfl ?_
          refine TL.v rfl (OpVal.moveI (.inl rfl) rfl) rfl rfl ?_
          have u52 := grd_c hh
          replace hh := grd_t hh
          refine TL.v rfl (OpVal.indexN rfl Tryd.underlying22 sz3 rfl rfl f0_0.rv.sl (by omega)) rfl rfl ?_
          refine TL.v rfl (OpVal.loadS1 (0 : Int) rfl ag3 rfl f0_0 (by omega) rfl) rfl rfl ?_
          refine TL.v rfl (OpVal.moveI (.inl rfl) rfl) rfl rfl ?_
          refine TL.v rfl (OpVal.eql rfl rfl rfl) rfl rfl ?_
          have u56 := grd_c hh
          replace hh := grd_t hh
          refine TL.isSl (i := 1) rfl (fun hs145 _ _ => ?_)
          refine TL.v rfl (OpVal.indexN rfl Tryd.underlying24 sz4 rfl rfl hs145 (by omega)) rfl rfl ?_
          refine TL.front 1 rfl rfl ?_
          have hn146 : (l139.set k141 (decide ((nth x0 k141 (0 : Int)) = ((k126 : Nat) : Int)))).length = (List.replicate 256 false).length := by rw [List.length_set]; exact hn140
          refine TL.op rfl (OpOk.storeS (decide ((nth x0 k141 (0 : Int)) = ((k126 : Nat) : Int))) rfl sz4 rfl rfl rfl rfl encB_len encB_one (by omega) (by omega) ?_)
          refine TL.nil ?_
          refine B.n ?_
          refine S.n ?_
          refine TC.region ?_
          refine TL.v rfl (OpVal.moveI (.inl rfl) rfl) rfl rfl ?_
          refine TL.v rfl (OpVal.succ rfl rfl rfl (by omega)) rfl rfl ?_
          refine TL.v rfl (OpVal.moveI (.inr rfl) rfl) rfl rfl ?_
          refine TL.nil ?_
          refine S.n ?_
          obtain ⟨hh, hlt147⟩ := nxt_x hR2 hh
          refine ⟨by repeat (first | exact Agr.refl _ _ | exact Agr.mask | refine Agr.upd rfl ?_ | refine Agr.maskIn rfl ?_ | refine Agr.upds rfl ?_), (((l139.set k141 (decide ((nth x0 k141 (0 : Int)) = ((k126 : Nat) : Int)))), (k141 + 1)), ()), hlt147, ⟨hh, hn146⟩, by repeat (first | exact trivial | refine ⟨rfl, ?_⟩), Sub.front 1 rfl rfl (Sub.pre 2 rfl), rfl⟩
        · replace hh := iteO_f h144 hh
          replace h144 := of_decide_eq_false h144
          refine TC.exit ?_
          refine S.x ?_
          refine S.x ?_
          replace hh := fin_x hR2 hh
          refine TC.exitHere ?_
          refine S.n ?_
          refine TC.region ?_
          refine TL.v rfl (OpVal.moveSl (.inl rfl) rfl) rfl rfl ?_
          refine TL.v rfl (OpVal.moveSl (.inl rfl) rfl) rfl rfl ?_
          rw [← hn140]
          refine TL.front 1 rfl rfl ?_
          have u63 := grd_c hh
          replace hh := grd_t hh
          refine TL.op rfl (OpOk.callT (make_conL _ _ _ l139 u63) rfl rfl pf53 rfl rfl rfl rfl ?_)
          refine TL.op rfl (OpOk.lit (enc := encSet) [(BSet.make fun i => nth l139 i false)] rfl Tryd.underlying73 sz59 ze59 rfl rfl rfl encSet_len (by decide) (by decide) BSet.zero rfl (by decide) rfl (by decide) encSet_one (fun a148 c149 => ?_))
          refine TL.front 1 rfl rfl ?_
          have u65 := grd_c hh
          replace hh := grd_t hh
          refine TL.op rfl (OpOk.appendS rfl rfl Tryd.underlying73 sz59 by59 ze59 rfl rfl (by decide) rfl rfl rfl (.inr ⟨_, 0, rfl⟩) (by simpa using u65) (by decide) (fun a151 c152 => ?_))
          refine TL.v rfl (OpVal.moveSl (.inr rfl) rfl) rfl rfl ?_
          refine TL.nil ?_
          refine B.n ?_
          refine S.n ?_
          refine TC.region ?_
          refine TL.v rfl (OpVal.moveI (.inl rfl) rfl) rfl rfl ?_
          have u68 := grd_c hh
          replace hh := grd_t hh
          refine TL.v rfl (OpVal.succ rfl rfl rfl (by omega)) rfl rfl ?_
          refine TL.v rfl (OpVal.moveI (.inr rfl) rfl) rfl rfl ?_
          refine TL.nil ?_
          refine S.n ?_
          obtain ⟨hh, hlt153⟩ := nxt_x hR1 hh
          refine ⟨by repeat (first | exact Agr.refl _ _ | exact Agr.mask | refine Agr.upd rfl ?_ | refine Agr.maskIn rfl ?_ | refine Agr.upds rfl ?_), (((l123 ++ [(BSet.make fun i => nth l139 i false)]), (k126 + 1)), (a151, c152)), hlt153, hh, by repeat (first | exact trivial | refine ⟨rfl, ?_⟩), Sub.pre 1 rfl, rfl⟩
      · replace hh := iteO_f h129 hh
        replace h129 := of_decide_eq_false h129
        refine TC.exit ?_
        refine S.x ?_
        refine S.x ?_
        replace hh := fin_x hR1 hh
        refine TC.exitHere ?_
        refine S.n ?_
        refine TC.seq ?_
        refine TC.region ?_
        refine TL.v rfl (OpVal.moveSl (.inl rfl) rfl) rfl rfl ?_
        refine TL.v rfl (OpVal.moveSl (.inr rfl) rfl) rfl rfl ?_
        refine TL.v rfl (OpVal.moveI (.inr rfl) rfl) rfl rfl ?_
        refine TL.nil ?_
        refine S.n ?_
        refine TC.sealS encSet_len (fun τ156 hle155 hr154 => ?_)
        replace f0_0 := f0_0.mono hle155
        have hr154b := hr154.rv.big
        refine TC.ret ?_
        obtain rfl := Option.some.inj hh
        exact RetOk.mk' (rs := [.tmp 2, .tmp 3]) [] rfl (.inl rfl) (RVs.tmp rfl (RVs.tmp rfl RVs.nil)) (List.sublist_append_left _ _) ⟨a124, c125, rfl, hr154, rfl⟩

noncomputable def whittleref11_Right_b2 (v5 : (List BSet) × Int) (x0 : Dfa) (k110 : Nat) (k116 : Nat) : Option ((Nat) ⊕ ((Nat) ⊕ (Bool))) :=
  iteO (decide (((k116 : Nat) : Int) < ((v5.1.length : Nat) : Int))) (grd (k116 < (nth x0.next k110 ([] : List Int)).length) (iteO (decide ((nth (nth x0.next k110 ([] : List Int)) k116 (0 : Int)) < 0)) (fin (fin (some false))) (grd (k116 < (nth x0.next k110 ([] : List Int)).length) (iteO (decide (((x0.next.length : Nat) : Int) ≤ (nth (nth x0.next k110 ([] : List Int)) k116 (0 : Int)))) (fin (fin (some false))) (nxt (k116 + 1)))))) (fin (nxt (k110 + 1)))
noncomputable def whittleref11_Right_b1 (x0 : Dfa) (v5 : (List BSet) × Int) (k110 : Nat) : Option ((Nat) ⊕ (Bool)) :=
  iteO (decide (((k110 : Nat) : Int) < ((x0.next.length : Nat) : Int))) (iteO (decide ((((nth x0.next k110 ([] : List Int)).length : Nat) : Int) ≠ ((v5.1.length : Nat) : Int))) (fin (some false)) (iter (fun q : Nat => whittleref11_Right_b2 v5 x0 k110 q) 0)) (fin (some true))
noncomputable def whittleref11_Right (x0 : Dfa) : Option (Bool) :=
  bnd (whittleref02_Sets x0.cls) (fun v5 => iteO (decide (v5.2 ≠ 0)) (some false) (iteO (decide (((x0.next.length : Nat) : Int) < 1)) (some false) (iteO (decide (1024 < ((x0.next.length : Nat) : Int))) (some false) (iteO (decide (((x0.fin.length : Nat) : Int) ≠ ((x0.next.length : Nat) : Int))) (some false) (iter (fun q : Nat => whittleref11_Right_b1 x0 v5 q) 0)))))
theorem whittleref11_Right_con {σ : Store} {x0 : Dfa} {a0_0 : Option Addr} {c0_0 : Nat} {a0_1 : Option Addr} {c0_1 : Nat} {a0_2 : Option Addr} {c0_2 : Nat} (f0_0 : RS σ 1 Go.E.encI (.slice a0_0 x0.cls.length c0_0) x0.cls) (f0_1 : RZ σ (pkSl 1 Go.E.encI Go.E.encI_len) (.slice a0_1 x0.next.length c0_1) x0.next) (f0_2 : RS σ 1 encB (.slice a0_2 x0.fin.length c0_2) x0.fin) {r : Bool} (hh : whittleref11_Right x0 = some r) :
    Con Tryd.prog 24 #[.agg #[.slice a0_0 x0.cls.length c0_0, .slice a0_1 x0.next.length c0_1, .slice a0_2 x0.fin.length c0_2]] σ [] (PureP (.bool r) σ) := by
  dsimp only [whittleref11_Right] at hh
  have f0_0b := f0_0.rv.big
  have f0_1b := f0_1.big
  have f0_2b := f0_2.rv.big
  refine Con.mk (n := 75) Tryd.func24 rfl rfl rfl (fun w0 => ?_)
  refine TC.seq ?_
  refine TC.region ?_
  refine TL.op rfl (OpOk.boxA rfl rfl rfl rfl (fun b101 => ?_))
  refine TL.v rfl (OpVal.moveB (.inr rfl) rfl) rfl rfl ?_
  refine TL.nil ?_
  refine S.n ?_
  refine TC.seq ?_
  refine TC.region ?_
  refine TL.v rfl (OpVal.fieldLoc rfl fo26_0 rfl) rfl rfl ?_
  refine TL.v rfl (OpVal.loadLoc rfl ag22 rfl (i := 0) rfl rfl) rfl rfl ?_
  obtain ⟨v5, u5, hh⟩ := bnd_e hh
  refine TL.op rfl (OpOk.call (whittleref02_Sets_con f0_0 u5) rfl rfl pf36 rfl rfl rfl rfl ?_)
  rintro _ τ103 _ hle103 ⟨a103_1, c103_1, rfl, hr103_0, rfl⟩
  replace f0_0 := f0_0.mono hle103
  replace f0_1 := f0_1.mono hle103
  replace f0_2 := f0_2.mono hle103
  have hr103_0b := hr103_0.rv.big
  refine TL.v rfl (OpVal.moveT (.inl rfl) rfl) rfl rfl ?_
  refine TL.v rfl (OpVal.extract rfl rfl rfl) rfl rfl ?_
  refine TL.v rfl (OpVal.extract rfl rfl rfl) rfl rfl ?_
  refine TL.v rfl (OpVal.moveSl (.inr rfl) rfl) rfl rfl ?_
  refine TL.v rfl (OpVal.moveI (.inr rfl) rfl) rfl rfl ?_
  refine TL.nil ?_
  refine S.n ?_
  refine TC.seq ?_
  refine TC.region ?_
  refine TL.v rfl (OpVal.fieldLoc rfl fo26_1 rfl) rfl rfl ?_
  refine TL.v rfl (OpVal.loadLoc rfl ag23 rfl (i := 0) rfl rfl) rfl rfl ?_
  refine TL.v rfl (OpVal.lenC rfl Tryd.underlying23 rfl) rfl rfl ?_
  refine TL.v rfl (OpVal.moveI (.inr rfl) rfl) rfl rfl ?_
  refine TL.nil ?_
  refine S.n ?_
  refine TC.seq ?_
  refine TC.seq ?_
  refine TC.region ?_
  refine TL.v rfl (OpVal.moveI (.inl rfl) rfl) rfl rfl ?_
  refine TL.v rfl (OpVal.neq rfl rfl rfl) rfl rfl ?_
  refine TL.v rfl (OpVal.moveB (.inl rfl) rfl) rfl rfl ?_
  refine TL.split 19 rfl (fun h104 => ?_) (fun h104 => ?_)
  · replace hh := iteO_t h104 hh
    replace h104 := of_decide_eq_true h104
    refine TL.goff rfl rfl rfl rfl rfl rfl rfl rfl ?_
    refine TL.goff rfl rfl rfl rfl rfl rfl rfl rfl ?_
    refine TL.v rfl (OpVal.pickTB rfl rfl rfl) rfl rfl ?_
    refine TL.v rfl (OpVal.moveB (.inl rfl) rfl) rfl rfl ?_
    refine TL.goff rfl rfl rfl rfl rfl rfl rfl rfl ?_
    refine TL.goff rfl rfl rfl rfl rfl rfl rfl rfl ?_
    refine TL.v rfl (OpVal.pickTB rfl rfl rfl) rfl rfl ?_
    refine TL.v rfl (OpVal.moveB (.inl rfl) rfl) rfl rfl ?_
    refine TL.goff rfl rfl rfl rfl rfl rfl rfl rfl ?_
    refine TL.goff rfl rfl rfl rfl rfl rfl rfl rfl ?_
    refine TL.goff rfl rfl rfl rfl rfl rfl rfl rfl ?_
    refine TL.goff rfl rfl rfl rfl rfl rfl rfl rfl ?_
    refine TL.goff rfl rfl rfl rfl rfl rfl rfl rfl ?_
    refine TL.v rfl (OpVal.pickTB rfl rfl rfl) rfl rfl ?_
    refine TL.nil ?_
    refine S.n ?_
    refine TC.cond rfl (fun _ => ?_) (fun h => Bool.noConfusion h)
    refine TC.seq ?_
    refine TC.region ?_
    refine TL.v rfl (OpVal.moveB (.inr rfl) rfl) rfl rfl ?_
    refine TL.nil ?_
    refine S.n ?_
    refine TC.ofSub (Sub.pre 0 rfl) ?_
    refine TC.back ?_
    refine TC.ret ?_
    refine S.r ?_
    obtain rfl := Option.some.inj hh
    exact RetOk.mk' (rs := [.tmp 2]) [] rfl (.inl rfl) (RVs.tmp rfl RVs.nil) (List.sublist_append_left _ _) ⟨rfl, rfl, rfl⟩
  · replace hh := iteO_f h104 hh
    replace h104 := of_decide_eq_false h104
    refine TL.gv rfl rfl rfl rfl rfl (OpVal.moveI (.inl rfl) rfl) rfl rfl ?_
    refine TL.gv rfl rfl rfl rfl rfl (OpVal.lss rfl rfl rfl) rfl rfl ?_
    refine TL.v rfl (OpVal.pickFB rfl rfl rfl) rfl rfl ?_
    refine TL.v rfl (OpVal.moveB (.inl rfl) rfl) rfl rfl ?_
    refine TL.split 23 rfl (fun h105 => ?_) (fun h105 => ?_)
    · replace hh := iteO_t h105 hh
      replace h105 := of_decide_eq_true h105
      refine TL.goff rfl rfl rfl rfl rfl rfl rfl rfl ?_
      refine TL.goff rfl rfl rfl rfl rfl rfl rfl rfl ?_
      refine TL.v rfl (OpVal.pickTB rfl rfl rfl) rfl rfl ?_
      refine TL.v rfl (OpVal.moveB (.inl rfl) rfl) rfl rfl ?_
      refine TL.goff rfl rfl rfl rfl rfl rfl rfl rfl ?_
      refine TL.goff rfl rfl rfl rfl rfl rfl rfl rfl ?_
      refine TL.goff rfl rfl rfl rfl rfl rfl rfl rfl ?_
      refine TL.goff rfl rfl rfl rfl rfl rfl rfl rfl ?_
      refine TL.goff rfl rfl rfl rfl rfl rfl rfl rfl ?_
      refine TL.v rfl (OpVal.pickTB rfl rfl rfl) rfl rfl ?_
      refine TL.nil ?_
      refine S.n ?_
      refine TC.cond rfl (fun _ => ?_) (fun h => Bool.noConfusion h)
      refine TC.seq ?_
      refine TC.region ?_
      refine TL.v rfl (OpVal.moveB (.inr rfl) rfl) rfl rfl ?_
      refine TL.nil ?_
      refine S.n ?_
      refine TC.ofSub (Sub.pre 0 rfl) ?_
      refine TC.back ?_
      refine TC.ret ?_
      refine S.r ?_
      obtain rfl := Option.some.inj hh
      exact RetOk.mk' (rs := [.tmp 2]) [] rfl (.inl rfl) (RVs.tmp rfl RVs.nil) (List.sublist_append_left _ _) ⟨rfl, rfl, rfl⟩
    · replace hh := iteO_f h105 hh
      replace h105 := of_decide_eq_false h105
      refine TL.gv rfl rfl rfl rfl rfl (OpVal.moveI (.inl rfl) rfl) rfl rfl ?_
      refine TL.gv rfl rfl rfl rfl rfl (OpVal.gtr rfl rfl rfl) rfl rfl ?_
      refine TL.v rfl (OpVal.pickFB rfl rfl rfl) rfl rfl ?_
      refine TL.v rfl (OpVal.moveB (.inl rfl) rfl) rfl rfl ?_
      refine TL.split 27 rfl (fun h106 => ?_) (fun h106 => ?_)
      · replace hh := iteO_t h106 hh
        replace h106 := of_decide_eq_true h106
        refine TL.goff rfl rfl rfl rfl rfl rfl rfl rfl ?_
        refine TL.goff rfl rfl rfl rfl rfl rfl rfl rfl ?_
        refine TL.goff rfl rfl rfl rfl rfl rfl rfl rfl ?_
        refine TL.goff rfl rfl rfl rfl rfl rfl rfl rfl ?_
        refine TL.goff rfl rfl rfl rfl rfl rfl rfl rfl ?_
        refine TL.v rfl (OpVal.pickTB rfl rfl rfl) rfl rfl ?_
        refine TL.nil ?_
        refine S.n ?_
        refine TC.cond rfl (fun _ => ?_) (fun h => Bool.noConfusion h)
        refine TC.seq ?_
        refine TC.region ?_
        refine TL.v rfl (OpVal.moveB (.inr rfl) rfl) rfl rfl ?_
        refine TL.nil ?_
        refine S.n ?_
        refine TC.ofSub (Sub.pre 0 rfl) ?_
        refine TC.back ?_
        refine TC.ret ?_
        refine S.r ?_
        obtain rfl := Option.some.inj hh
        exact RetOk.mk' (rs := [.tmp 2]) [] rfl (.inl rfl) (RVs.tmp rfl RVs.nil) (List.sublist_append_left _ _) ⟨rfl, rfl, rfl⟩
      · replace hh := iteO_f h106 hh
        replace h106 := of_decide_eq_false h106
        refine TL.gv rfl rfl rfl rfl rfl (OpVal.fieldLoc rfl fo26_2 rfl) rfl rfl ?_
        refine TL.gv rfl rfl rfl rfl rfl (OpVal.loadLoc rfl ag24 rfl (i := 0) rfl rfl) rfl rfl ?_
        refine TL.gv rfl rfl rfl rfl rfl (OpVal.lenC rfl Tryd.underlying24 rfl) rfl rfl ?_
        refine TL.gv rfl rfl rfl rfl rfl (OpVal.moveI (.inl rfl) rfl) rfl rfl ?_
        refine TL.gv rfl rfl rfl rfl rfl (OpVal.neq rfl rfl rfl) rfl rfl ?_
        refine TL.v rfl (OpVal.pickFB rfl rfl rfl) rfl rfl ?_
        refine TL.nil ?_
        refine S.n ?_
        refine TC.cond rfl (fun h107 => ?_) (fun h107 => ?_)
        · replace hh := iteO_t h107 hh
          replace h107 := of_decide_eq_true h107
          refine TC.seq ?_
          refine TC.region ?_
          refine TL.v rfl (OpVal.moveB (.inr rfl) rfl) rfl rfl ?_
          refine TL.nil ?_
          refine S.n ?_
          refine TC.ofSub (Sub.pre 0 rfl) ?_
          refine TC.back ?_
          refine TC.ret ?_
          refine S.r ?_
          obtain rfl := Option.some.inj hh
          exact RetOk.mk' (rs := [.tmp 2]) [] rfl (.inl rfl) (RVs.tmp rfl RVs.nil) (List.sublist_append_left _ _) ⟨rfl, rfl, rfl⟩
        · replace hh := iteO_f h107 hh
          replace h107 := of_decide_eq_false h107
          refine TC.skip ?_
          refine S.n ?_
          refine TC.seq ?_
          refine TC.seq ?_
          refine TC.region ?_
          refine TL.v rfl (OpVal.moveI (.inr rfl) rfl) rfl rfl ?_
          refine TL.nil ?_
          refine S.n ?_
          refine TC.block ?_
          refine TC.loopG (α := (Nat) × (Unit)) [2, 6, 7, 34, 35, 36, 37, 38, 39, 40, 41, 42, 43, 44, 45, 46, 47, 48, 49, 50, 51, 52, 53, 54, 55, 56, 57, 58, 59, 60, 61, 62, 63, 64, 65, 66, 67, 68, 69, 70, 71, 72, 73, 74] (fun g => [(6, .int .i64 ((g.1 : Nat) : Int))]) (fun g => [Res.cells b101 #[.slice a0_0 x0.cls.length c0_0, .slice a0_1 x0.next.length c0_1, .slice a0_2 x0.fin.length c0_2] 26]) (fun g => τ103) (fun g => iter (fun q : Nat => whittleref11_Right_b1 x0 v5 q) g.1 = some r) (fun g => rounds (fun q : Nat => whittleref11_Right_b1 x0 v5 q) g.1) (0, ()) (Sub.pre 1 rfl) rfl (by repeat (first | exact trivial | refine ⟨rfl, ?_⟩)) hh (fun g1 j1 hg1 => ?_)
          obtain ⟨k110, _⟩ := g1
          have hh := hg1; clear hg1
          show TC _ _ _ (upds (mask _ j1 _) [(6, .int .i64 ((k110 : Nat) : Int))]) _ [Res.cells b101 #[.slice a0_0 x0.cls.length c0_0, .slice a0_1 x0.next.length c0_1, .slice a0_2 x0.fin.length c0_2] 26]
          obtain ⟨z1, hh, hR1⟩ := iter_e hh
          dsimp only [whittleref11_Right_b1] at hh
          refine TC.seq ?_
          refine TC.seq ?_
          refine TC.region ?_
          refine TL.v rfl (OpVal.moveI (.inl rfl) rfl) rfl rfl ?_
          refine TL.v rfl (OpVal.moveI (.inl rfl) rfl) rfl rfl ?_
          refine TL.v rfl (OpVal.lss rfl rfl rfl) rfl rfl ?_
          refine TL.nil ?_
          refine S.n ?_
          refine TC.cond rfl (fun h111 => ?_) (fun h111 => ?_)
          · replace hh := iteO_t h111 hh
            replace h111 := of_decide_eq_true h111
            refine TC.skip ?_
            refine S.n ?_
            refine TC.seq ?_
            refine TC.block ?_
            refine TC.seq ?_
            refine TC.seq ?_
            refine TC.region ?_
            refine TL.v rfl (OpVal.fieldLoc rfl fo26_1 rfl) rfl rfl ?_
            refine TL.v rfl (OpVal.loadLoc rfl ag23 rfl (i := 0) rfl rfl) rfl rfl ?_
            refine TL.v rfl (OpVal.moveI (.inl rfl) rfl) rfl rfl ?_
            refine TL.v rfl (OpVal.indexN rfl Tryd.underlying23 sz22 rfl rfl f0_1.isSl (by omega)) rfl rfl ?_
            obtain ⟨p112, hk112, hg112⟩ := RZ.seg f0_1 k110 (by omega)
            replace hk112 : RS _ 1 Go.E.encI (.slice p112.1 (nth x0.next k110 ([] : List Int)).length p112.2) (nth x0.next k110 ([] : List Int)) := hk112
            have hk112b := hk112.rv.big
            refine TL.v rfl (OpVal.of (OpVal.loadSeg0 rfl ag22 rfl hg112 rfl) (v' := .slice p112.1 ((nth x0.next k110 ([] : List Int)).length) p112.2) rfl) rfl rfl ?_
            refine TL.v rfl (OpVal.lenC rfl Tryd.underlying22 rfl) rfl rfl ?_
            refine TL.v rfl (OpVal.moveSl (.inl rfl) rfl) rfl rfl ?_
            refine TL.v rfl (OpVal.lenC rfl Tryd.underlying73 rfl) rfl rfl ?_
            refine TL.v rfl (OpVal.neq rfl rfl rfl) rfl rfl ?_
            refine TL.nil ?_
            refine S.n ?_
            refine TC.cond rfl (fun h113 => ?_) (fun h113 => ?_)
            · replace hh := iteO_t h113 hh
              replace h113 := of_decide_eq_true h113
              refine TC.seq ?_
              refine TC.region ?_
              refine TL.v rfl (OpVal.moveB (.inr rfl) rfl) rfl rfl ?_
              refine TL.nil ?_
              refine S.n ?_
              refine TC.ofSub (Sub.pre 0 rfl) ?_
              refine TC.back ?_
              refine TC.ret ?_
              refine S.r ?_
              refine B.r ?_
              refine S.r ?_
              refine S.r ?_
              replace hh := fin_x hR1 hh
              refine B.r ?_
              refine S.r ?_
              obtain rfl := Option.some.inj hh
              exact RetOk.mk' (rs := [.tmp 2]) [] rfl (.inl rfl) (RVs.tmp rfl RVs.nil) (List.sublist_append_left _ _) ⟨rfl, rfl, rfl⟩
            · replace hh := iteO_f h113 hh
              replace h113 := of_decide_eq_false h113
              refine TC.skip ?_
              refine S.n ?_
              refine TC.seq ?_
              refine TC.region ?_
              refine TL.v rfl (OpVal.moveI (.inr rfl) rfl) rfl rfl ?_
              refine TL.nil ?_
              refine S.n ?_
              refine TC.block ?_
              refine TC.loopG (α := (Nat) × (Unit)) [2, 7, 48, 49, 50, 51, 52, 53, 54, 55, 56, 57, 58, 59, 60, 61, 62, 63, 64, 65, 66, 67, 68, 69, 70, 71, 72, 73, 74] (fun g => [(7, .int .i64 ((g.1 : Nat) : Int))]) (fun g => [Res.cells b101 #[.slice a0_0 x0.cls.length c0_0, .slice a0_1 x0.next.length c0_1, .slice a0_2 x0.fin.length c0_2] 26]) (fun g => τ103) (fun g => iter (fun q : Nat => whittleref11_Right_b2 v5 x0 k110 q) g.1 = some z1) (fun g => rounds (fun q : Nat => whittleref11_Right_b2 v5 x0 k110 q) g.1) (0, ()) (Sub.pre 1 rfl) rfl (by repeat (first | exact trivial | refine ⟨rfl, ?_⟩)) hh (fun g2 j2 hg2 => ?_)
              obtain ⟨k116, _⟩ := g2
              have hh := hg2; clear hg2
              show TC _ _ _ (upds (mask _ j2 _) [(7, .int .i64 ((k116 : Nat) : Int))]) _ [Res.cells b101 #[.slice a0_0 x0.cls.length c0_0, .slice a0_1 x0.next.length c0_1, .slice a0_2 x0.fin.length c0_2] 26]
              obtain ⟨z2, hh, hR2⟩ := iter_e hh
              dsimp only [whittleref11_Right_b2] at hh
              refine TC.seq ?_
              refine TC.seq ?_
              refine TC.region ?_
              refine TL.v rfl (OpVal.moveI (.inl rfl) rfl) rfl rfl ?_
              refine TL.v rfl (OpVal.moveSl (.inl rfl) rfl) rfl rfl ?_
              refine TL.v rfl (OpVal.lenC rfl Tryd.underlying73 rfl) rfl rfl ?_
              refine TL.v rfl (OpVal.lss rfl rfl rfl) rfl rfl ?_
              refine TL.nil ?_
              refine S.n ?_
              refine TC.cond rfl (fun h117 => ?_) (fun h117 => ?_)
              · replace hh := iteO_t h117 hh
                replace h117 := of_decide_eq_true h117
                refine TC.skip ?_
                refine S.n ?_
                refine TC.seq ?_
                refine TC.block ?_
                refine TC.seq ?_
                refine TC.region ?_
                refine TL.v rfl (OpVal.fieldLoc rfl fo26_1 rfl) rfl rfl ?_
                refine TL.v rfl (OpVal.loadLoc rfl ag23 rfl (i := 0) rfl rfl) rfl rfl ?_
                refine TL.v rfl (OpVal.moveI (.inl rfl) rfl) rfl rfl ?_
                refine TL.v rfl (OpVal.indexN rfl Tryd.underlying23 sz22 rfl rfl f0_1.isSl (by omega)) rfl rfl ?_
                obtain ⟨p118, hk118, hg118⟩ := RZ.seg f0_1 k110 (by omega)
                replace hk118 : RS _ 1 Go.E.encI (.slice p118.1 (nth x0.next k110 ([] : List Int)).length p118.2) (nth x0.next k110 ([] : List Int)) := hk118
                have hk118b := hk118.rv.big
                refine TL.v rfl (OpVal.of (OpVal.loadSeg0 rfl ag22 rfl hg118 rfl) (v' := .slice p118.1 ((nth x0.next k110 ([] : List Int)).length) p118.2) rfl) rfl rfl ?_
                refine TL.v rfl (OpVal.moveI (.inl rfl) rfl) rfl rfl ?_
                have u58 := grd_c hh
                replace hh := grd_t hh
                refine TL.v rfl (OpVal.indexN rfl Tryd.underlying22 sz3 rfl rfl hk118.rv.sl (by omega)) rfl rfl ?_
                refine TL.v rfl (OpVal.loadS1 (0 : Int) rfl ag3 rfl hk118 (by omega) rfl) rfl rfl ?_
                refine TL.v rfl (OpVal.lss rfl rfl rfl) rfl rfl ?_
                refine TL.v rfl (OpVal.moveB (.inl rfl) rfl) rfl rfl ?_
                refine TL.split 63 rfl (fun h119 => ?_) (fun h119 => ?_)
                · replace hh := iteO_t h119 hh
                  replace h119 := of_decide_eq_true h119
                  refine TL.goff rfl rfl rfl rfl rfl rfl rfl rfl ?_
                  refine TL.goff rfl rfl rfl rfl rfl rfl rfl rfl ?_
                  refine TL.goff rfl rfl rfl rfl rfl rfl rfl rfl ?_
                  refine TL.goff rfl rfl rfl rfl rfl rfl rfl rfl ?_
                  refine TL.goff rfl rfl rfl rfl rfl rfl rfl rfl ?_
                  refine TL.goff rfl rfl rfl rfl rfl rfl rfl rfl ?_
                  refine TL.goff rfl rfl rfl rfl rfl rfl rfl rfl ?_
                  refine TL.goff rfl rfl rfl rfl rfl rfl rfl rfl ?_
                  refine TL.goff rfl rfl rfl rfl rfl rfl rfl rfl ?_
                  refine TL.goff rfl rfl rfl rfl rfl rfl rfl rfl ?_
                  refine TL.v rfl (OpVal.pickTB rfl rfl rfl) rfl rfl ?_
                  refine TL.nil ?_
                  refine S.n ?_
                  refine TC.cond rfl (fun _ => ?_) (fun h => Bool.noConfusion h)
                  refine TC.seq ?_
                  refine TC.region ?_
                  refine TL.v rfl (OpVal.moveB (.inr rfl) rfl) rfl rfl ?_
                  refine TL.nil ?_
                  refine S.n ?_
                  refine TC.ofSub (Sub.pre 0 rfl) ?_
                  refine TC.back ?_
                  refine TC.ret ?_
                  refine B.r ?_
                  refine S.r ?_
                  refine S.r ?_
                  replace hh := fin_x hR2 hh
                  refine B.r ?_
                  refine B.r ?_
                  refine S.r ?_
                  refine S.r ?_
                  replace hh := fin_x hR1 hh
                  refine B.r ?_
                  refine S.r ?_
                  obtain rfl := Option.some.inj hh
                  exact RetOk.mk' (rs := [.tmp 2]) [] rfl (.inl rfl) (RVs.tmp rfl RVs.nil) (List.sublist_append_left _ _) ⟨rfl, rfl, rfl⟩
                · replace hh := iteO_f h119 hh
                  replace h119 := of_decide_eq_false h119
                  refine TL.gv rfl rfl rfl rfl rfl (OpVal.fieldLoc rfl fo26_1 rfl) rfl rfl ?_
                  refine TL.gv rfl rfl rfl rfl rfl (OpVal.loadLoc rfl ag23 rfl (i := 0) rfl rfl) rfl rfl ?_
                  refine TL.gv rfl rfl rfl rfl rfl (OpVal.moveI (.inl rfl) rfl) rfl rfl ?_
                  refine TL.gv rfl rfl rfl rfl rfl (OpVal.indexN rfl Tryd.underlying23 sz22 rfl rfl f0_1.isSl (by omega)) rfl rfl ?_
                  obtain ⟨p120, hk120, hg120⟩ := RZ.seg f0_1 k110 (by omega)
                  replace hk120 : RS _ 1 Go.E.encI (.slice p120.1 (nth x0.next k110 ([] : List Int)).length p120.2) (nth x0.next k110 ([] : List Int)) := hk120
                  have hk120b := hk120.rv.big
                  refine TL.gv rfl rfl rfl rfl rfl (OpVal.of (OpVal.loadSeg0 rfl ag22 rfl hg120 rfl) (v' := .slice p120.1 ((nth x0.next k110 ([] : List Int)).length) p120.2) rfl) rfl rfl ?_
                  refine TL.gv rfl rfl rfl rfl rfl (OpVal.moveI (.inl rfl) rfl) rfl rfl ?_
                  have u68 := grd_c hh
                  replace hh := grd_t hh
                  refine TL.gv rfl rfl rfl rfl rfl (OpVal.indexN rfl Tryd.underlying22 sz3 rfl rfl hk120.rv.sl (by omega)) rfl rfl ?_
                  refine TL.gv rfl rfl rfl rfl rfl (OpVal.loadS1 (0 : Int) rfl ag3 rfl hk120 (by omega) rfl) rfl rfl ?_
                  refine TL.gv rfl rfl rfl rfl rfl (OpVal.moveI (.inl rfl) rfl) rfl rfl ?_
                  refine TL.gv rfl rfl rfl rfl rfl (OpVal.geq rfl rfl rfl) rfl rfl ?_
                  refine TL.v rfl (OpVal.pickFB rfl rfl rfl) rfl rfl ?_
                  refine TL.nil ?_
                  refine S.n ?_
                  refine TC.cond rfl (fun h121 => ?_) (fun h121 => ?_)
                  · replace hh := iteO_t h121 hh
                    replace h121 := of_decide_eq_true h121
                    refine TC.seq ?_
                    refine TC.region ?_
                    refine TL.v rfl (OpVal.moveB (.inr rfl) rfl) rfl rfl ?_
                    refine TL.nil ?_
                    refine S.n ?_
                    refine TC.ofSub (Sub.pre 0 rfl) ?_
                    refine TC.back ?_
                    refine TC.ret ?_
                    refine B.r ?_
                    refine S.r ?_
                    refine S.r ?_
                    replace hh := fin_x hR2 hh
                    refine B.r ?_
                    refine B.r ?_
                    refine S.r ?_
                    refine S.r ?_
                    replace hh := fin_x hR1 hh
                    refine B.r ?_
                    refine S.r ?_
                    obtain rfl := Option.some.inj hh
                    exact RetOk.mk' (rs := [.tmp 2]) [] rfl (.inl rfl) (RVs.tmp rfl RVs.nil) (List.sublist_append_left _ _) ⟨rfl, rfl, rfl⟩
                  · replace hh := iteO_f h121 hh
                    replace h121 := of_decide_eq_false h121
                    refine TC.skip ?_
                    refine B.n ?_
                    refine S.n ?_
                    refine TC.region ?_
                    refine TL.v rfl (OpVal.moveI (.inl rfl) rfl) rfl rfl ?_
                    refine TL.v rfl (OpVal.succ rfl rfl rfl (by omega)) rfl rfl ?_
                    refine TL.v rfl (OpVal.moveI (.inr rfl) rfl) rfl rfl ?_
                    refine TL.nil ?_
                    refine S.n ?_
                    obtain ⟨hh, hlt122⟩ := nxt_x hR2 hh
                    refine ⟨by repeat (first | exact Agr.refl _ _ | exact Agr.mask | refine Agr.upd rfl ?_ | refine Agr.maskIn rfl ?_ | refine Agr.upds rfl ?_), ((k116 + 1), ()), hlt122, hh, by repeat (first | exact trivial | refine ⟨rfl, ?_⟩), Sub.pre 1 rfl, rfl⟩
              · replace hh := iteO_f h117 hh
                replace h117 := of_decide_eq_false h117
                refine TC.exit ?_
                refine S.x ?_
                refine S.x ?_
                replace hh := fin_x hR2 hh
                refine TC.exitHere ?_
                refine B.n ?_
                refine S.n ?_
                refine TC.region ?_
                refine TL.v rfl (OpVal.moveI (.inl rfl) rfl) rfl rfl ?_
                refine TL.v rfl (OpVal.succ rfl rfl rfl (by omega)) rfl rfl ?_
                refine TL.v rfl (OpVal.moveI (.inr rfl) rfl) rfl rfl ?_
                refine TL.nil ?_
                refine S.n ?_
                obtain ⟨hh, hlt123⟩ := nxt_x hR1 hh
                refine ⟨by repeat (first | exact Agr.refl _ _ | exact Agr.mask | refine Agr.upd rfl ?_ | refine Agr.maskIn rfl ?_ | refine Agr.upds rfl ?_), ((k110 + 1), ()), hlt123, hh, by repeat (first | exact trivial | refine ⟨rfl, ?_⟩), Sub.pre 1 rfl, rfl⟩
          · replace hh := iteO_f h111 hh
            replace h111 := of_decide_eq_false h111
            refine TC.exit ?_
            refine S.x ?_
            refine S.x ?_
            replace hh := fin_x hR1 hh
            refine TC.exitHere ?_
            refine S.n ?_
            refine TC.seq ?_
            refine TC.region ?_
            refine TL.v rfl (OpVal.moveB (.inr rfl) rfl) rfl rfl ?_
            refine TL.nil ?_
            refine S.n ?_
            refine TC.ofSub (Sub.pre 0 rfl) ?_
            refine TC.back ?_
            refine TC.ret ?_
            obtain rfl := Option.some.inj hh
            exact RetOk.mk' (rs := [.tmp 2]) [] rfl (.inl rfl) (RVs.tmp rfl RVs.nil) (List.sublist_append_left _ _) ⟨rfl, rfl, rfl⟩

noncomputable def whittleref11_Few_j1 (x0 : Dfa) : Option (Bool) :=
  iteO (decide (((x0.next.length : Nat) : Int) ≤ 40)) (some (decide (((x0.cls.length : Nat) : Int) ≤ 300))) (some false)
noncomputable def whittleref11_Few_b1 (x0 : Dfa) (k105 : Nat) : Option ((Nat) ⊕ (Bool)) :=
  iteO (decide (((k105 : Nat) : Int) < ((x0.next.length : Nat) : Int))) (iteO (decide (((x0.next.length : Nat) : Int) ≤ 40)) (iteO (decide (20 < (((nth x0.next k105 ([] : List Int)).length : Nat) : Int))) (fin (some false)) (nxt (k105 + 1))) (fin (whittleref11_Few_j1 x0))) (fin (whittleref11_Few_j1 x0))
noncomputable def whittleref11_Few (x0 : Dfa) : Option (Bool) :=
  iter (fun q : Nat => whittleref11_Few_b1 x0 q) 0
theorem whittleref11_Few_con {σ : Store} {x0 : Dfa} {a0_0 : Option Addr} {c0_0 : Nat} {a0_1 : Option Addr} {c0_1 : Nat} {a0_2 : Option Addr} {c0_2 : Nat} (f0_0 : RS σ 1 Go.E.encI (.slice a0_0 x0.cls.length c0_0) x0.cls) (f0_1 : RZ σ (pkSl 1 Go.E.encI Go.E.encI_len) (.slice a0_1 x0.next.length c0_1) x0.next) (f0_2 : RS σ 1 encB (.slice a0_2 x0.fin.length c0_2) x0.fin) {r : Bool} (hh : whittleref11_Few x0 = some r) :
    Con Tryd.prog 7 #[.agg #[.slice a0_0 x0.cls.length c0_0, .slice a0_1 x0.next.length c0_1, .slice a0_2 x0.fin.length c0_2]] σ [] (PureP (.bool r) σ) := by
  dsimp only [whittleref11_Few] at hh
  have f0_0b := f0_0.rv.big
  have f0_1b := f0_1.big
  have f0_2b := f0_2.rv.big
  refine Con.mk (n := 34) Tryd.func7 rfl rfl rfl (fun w0 => ?_)
  refine TC.seq ?_
  refine TC.region ?_
  refine TL.op rfl (OpOk.boxA rfl rfl rfl rfl (fun b101 => ?_))
  refine TL.v rfl (OpVal.moveB (.inr rfl) rfl) rfl rfl ?_
  refine TL.nil ?_
  refine S.n ?_
  refine TC.cutG (α := (Unit) × (Unit)) [2, 3, 4, 5, 6, 7, 8, 9, 10, 11, 12, 13, 14, 15, 16, 17, 18, 19, 20, 21, 22, 23] (fun g => []) (fun g => [Res.cells b101 #[.slice a0_0 x0.cls.length c0_0, .slice a0_1 x0.next.length c0_1, .slice a0_2 x0.fin.length c0_2] 26]) (fun g => σ) (fun g => whittleref11_Few_j1 x0 = some r) ?_ (fun g j hg => ?_)
  · skip
    refine TC.seq ?_
    refine TC.region ?_
    refine TL.v rfl (OpVal.moveI (.inr rfl) rfl) rfl rfl ?_
    refine TL.nil ?_
    refine S.n ?_
    refine TC.block ?_
    refine TC.loopG (α := (Nat) × (Unit)) [2, 3, 4, 5, 6, 7, 8, 9, 10, 11, 12, 13, 14, 15, 16, 17, 18, 19, 20, 21, 22, 23] (fun g => [(3, .int .i64 ((g.1 : Nat) : Int))]) (fun g => [Res.cells b101 #[.slice a0_0 x0.cls.length c0_0, .slice a0_1 x0.next.length c0_1, .slice a0_2 x0.fin.length c0_2] 26]) (fun g => σ) (fun g => iter (fun q : Nat => whittleref11_Few_b1 x0 q) g.1 = some r) (fun g => rounds (fun q : Nat => whittleref11_Few_b1 x0 q) g.1) (0, ()) (Sub.pre 1 rfl) rfl (by repeat (first | exact trivial | refine ⟨rfl, ?_⟩)) hh (fun g1 j1 hg1 => ?_)
    obtain ⟨k105, _⟩ := g1
    have hh := hg1; clear hg1
    show TC _ _ _ (upds (mask _ j1 _) [(3, .int .i64 ((k105 : Nat) : Int))]) _ [Res.cells b101 #[.slice a0_0 x0.cls.length c0_0, .slice a0_1 x0.next.length c0_1, .slice a0_2 x0.fin.length c0_2] 26]
    obtain ⟨z1, hh, hR1⟩ := iter_e hh
    dsimp only [whittleref11_Few_b1] at hh
    refine TC.seq ?_
    refine TC.seq ?_
    refine TC.region ?_
    refine TL.v rfl (OpVal.moveI (.inl rfl) rfl) rfl rfl ?_
    refine TL.v rfl (OpVal.fieldLoc rfl fo26_1 rfl) rfl rfl ?_
    refine TL.v rfl (OpVal.loadLoc rfl ag23 rfl (i := 0) rfl rfl) rfl rfl ?_
    refine TL.v rfl (OpVal.lenC rfl Tryd.underlying23 rfl) rfl rfl ?_
    refine TL.v rfl (OpVal.lss rfl rfl rfl) rfl rfl ?_
    refine TL.v rfl (OpVal.moveB (.inl rfl) rfl) rfl rfl ?_
    refine TL.split 9 rfl (fun h106 => ?_) (fun h106 => ?_)
    · replace hh := iteO_t h106 hh
      replace h106 := of_decide_eq_true h106
      refine TL.gv rfl rfl rfl rfl rfl (OpVal.fieldLoc rfl fo26_1 rfl) rfl rfl ?_
      refine TL.gv rfl rfl rfl rfl rfl (OpVal.loadLoc rfl ag23 rfl (i := 0) rfl rfl) rfl rfl ?_
      refine TL.gv rfl rfl rfl rfl rfl (OpVal.lenC rfl Tryd.underlying23 rfl) rfl rfl ?_
      refine TL.gv rfl rfl rfl rfl rfl (OpVal.leq rfl rfl rfl) rfl rfl ?_
      refine TL.v rfl (OpVal.pickTB rfl rfl rfl) rfl rfl ?_
      refine TL.nil ?_
      refine S.n ?_
      refine TC.cond rfl (fun h107 => ?_) (fun h107 => ?_)
      · replace hh := iteO_t h107 hh
        replace h107 := of_decide_eq_true h107
        refine TC.skip ?_
        refine S.n ?_
        refine TC.seq ?_
        refine TC.block ?_
        refine TC.seq ?_
        refine TC.region ?_
        refine TL.v rfl (OpVal.fieldLoc rfl fo26_1 rfl) rfl rfl ?_
        refine TL.v rfl (OpVal.loadLoc rfl ag23 rfl (i := 0) rfl rfl) rfl rfl ?_
        refine TL.v rfl (OpVal.moveI (.inl rfl) rfl) rfl rfl ?_
        refine TL.v rfl (OpVal.indexN rfl Tryd.underlying23 sz22 rfl rfl f0_1.isSl (by omega)) rfl rfl ?_
        obtain ⟨p108, hk108, hg108⟩ := RZ.seg f0_1 k105 (by omega)
        replace hk108 : RS _ 1 Go.E.encI (.slice p108.1 (nth x0.next k105 ([] : List Int)).length p108.2) (nth x0.next k105 ([] : List Int)) := hk108
        have hk108b := hk108.rv.big
        refine TL.v rfl (OpVal.of (OpVal.loadSeg0 rfl ag22 rfl hg108 rfl) (v' := .slice p108.1 ((nth x0.next k105 ([] : List Int)).length) p108.2) rfl) rfl rfl ?_
        refine TL.v rfl (OpVal.lenC rfl Tryd.underlying22 rfl) rfl rfl ?_
        refine TL.v rfl (OpVal.gtr rfl rfl rfl) rfl rfl ?_
        refine TL.nil ?_
        refine S.n ?_
        refine TC.cond rfl (fun h109 => ?_) (fun h109 => ?_)
        · replace hh := iteO_t h109 hh
          replace h109 := of_decide_eq_true h109
          refine TC.seq ?_
          refine TC.region ?_
          refine TL.v rfl (OpVal.moveB (.inr rfl) rfl) rfl rfl ?_
          refine TL.nil ?_
          refine S.n ?_
          refine TC.ofSub (Sub.pre 0 rfl) ?_
          refine TC.ret ?_
          refine B.r ?_
          refine S.r ?_
          refine S.r ?_
          replace hh := fin_x hR1 hh
          refine B.r ?_
          refine S.r ?_
          obtain rfl := Option.some.inj hh
          exact RetOk.mk' (rs := [.tmp 2]) [] rfl (.inl rfl) (RVs.tmp rfl RVs.nil) (List.sublist_append_left _ _) ⟨rfl, rfl, rfl⟩
        · replace hh := iteO_f h109 hh
          replace h109 := of_decide_eq_false h109
          refine TC.skip ?_
          refine B.n ?_
          refine S.n ?_
          refine TC.region ?_
          refine TL.v rfl (OpVal.moveI (.inl rfl) rfl) rfl rfl ?_
          refine TL.v rfl (OpVal.succ rfl rfl rfl (by omega)) rfl rfl ?_
          refine TL.v rfl (OpVal.moveI (.inr rfl) rfl) rfl rfl ?_
          refine TL.nil ?_
          refine S.n ?_
          obtain ⟨hh, hlt110⟩ := nxt_x hR1 hh
          refine ⟨by repeat (first | exact Agr.refl _ _ | exact Agr.mask | refine Agr.upd rfl ?_ | refine Agr.maskIn rfl ?_ | refine Agr.upds rfl ?_), ((k105 + 1), ()), hlt110, hh, by repeat (first | exact trivial | refine ⟨rfl, ?_⟩), Sub.pre 1 rfl, rfl⟩
      · replace hh := iteO_f h107 hh
        replace h107 := of_decide_eq_false h107
        refine TC.exit ?_
        refine S.x ?_
        refine S.x ?_
        replace hh := fin_x hR1 hh
        refine TC.exitHere ?_
        refine S.n ?_
        refine ⟨by repeat (first | exact Agr.refl _ _ | exact Agr.mask | refine Agr.upd rfl ?_ | refine Agr.maskIn rfl ?_ | refine Agr.upds rfl ?_), ((), ()), hh, by repeat (first | exact trivial | refine ⟨rfl, ?_⟩), Sub.pre 1 rfl, rfl⟩
    · replace hh := iteO_f h106 hh
      replace h106 := of_decide_eq_false h106
      refine TL.goff rfl rfl rfl rfl rfl rfl rfl rfl ?_
      refine TL.goff rfl rfl rfl rfl rfl rfl rfl rfl ?_
      refine TL.goff rfl rfl rfl rfl rfl rfl rfl rfl ?_
      refine TL.goff rfl rfl rfl rfl rfl rfl rfl rfl ?_
      refine TL.v rfl (OpVal.pickFB rfl rfl rfl) rfl rfl ?_
      refine TL.nil ?_
      refine S.n ?_
      refine TC.cond rfl (fun h => Bool.noConfusion h) (fun _ => ?_)
      refine TC.exit ?_
      refine S.x ?_
      refine S.x ?_
      replace hh := fin_x hR1 hh
      refine TC.exitHere ?_
      refine S.n ?_
      refine ⟨by repeat (first | exact Agr.refl _ _ | exact Agr.mask | refine Agr.upd rfl ?_ | refine Agr.maskIn rfl ?_ | refine Agr.upds rfl ?_), ((), ()), hh, by repeat (first | exact trivial | refine ⟨rfl, ?_⟩), Sub.pre 1 rfl, rfl⟩
  · skip
    obtain ⟨_, _⟩ := g
    have hh := hg; clear hg
    show TC _ _ _ (upds (mask _ j _) []) _ [Res.cells b101 #[.slice a0_0 x0.cls.length c0_0, .slice a0_1 x0.next.length c0_1, .slice a0_2 x0.fin.length c0_2] 26]
    dsimp only [whittleref11_Few_j1] at hh
    refine TC.seq ?_
    refine TC.region ?_
    refine TL.v rfl (OpVal.fieldLoc rfl fo26_1 rfl) rfl rfl ?_
    refine TL.v rfl (OpVal.loadLoc rfl ag23 rfl (i := 0) rfl rfl) rfl rfl ?_
    refine TL.v rfl (OpVal.lenC rfl Tryd.underlying23 rfl) rfl rfl ?_
    refine TL.v rfl (OpVal.leq rfl rfl rfl) rfl rfl ?_
    refine TL.v rfl (OpVal.moveB (.inl rfl) rfl) rfl rfl ?_
    refine TL.split 28 rfl (fun h111 => ?_) (fun h111 => ?_)
    · replace hh := iteO_t h111 hh
      replace h111 := of_decide_eq_true h111
      refine TL.gv rfl rfl rfl rfl rfl (OpVal.fieldLoc rfl fo26_0 rfl) rfl rfl ?_
      refine TL.gv rfl rfl rfl rfl rfl (OpVal.loadLoc rfl ag22 rfl (i := 0) rfl rfl) rfl rfl ?_
      refine TL.gv rfl rfl rfl rfl rfl (OpVal.lenC rfl Tryd.underlying22 rfl) rfl rfl ?_
      refine TL.gv rfl rfl rfl rfl rfl (OpVal.leq rfl rfl rfl) rfl rfl ?_
      refine TL.v rfl (OpVal.pickTB rfl rfl rfl) rfl rfl ?_
      refine TL.v rfl (OpVal.moveB (.inr rfl) rfl) rfl rfl ?_
      refine TL.nil ?_
      refine S.n ?_
      refine TC.ofSub (Sub.pre 0 rfl) ?_
      refine TC.ret ?_
      obtain rfl := Option.some.inj hh
      exact RetOk.mk' (rs := [.tmp 2]) [] rfl (.inl rfl) (RVs.tmp rfl RVs.nil) (List.sublist_append_left _ _) ⟨rfl, rfl, rfl⟩
    · replace hh := iteO_f h111 hh
      replace h111 := of_decide_eq_false h111
      refine TL.goff rfl rfl rfl rfl rfl rfl rfl rfl ?_
      refine TL.goff rfl rfl rfl rfl rfl rfl rfl rfl ?_
      refine TL.goff rfl rfl rfl rfl rfl rfl rfl rfl ?_
      refine TL.goff rfl rfl rfl rfl rfl rfl rfl rfl ?_
      refine TL.v rfl (OpVal.pickFB rfl rfl rfl) rfl rfl ?_
      refine TL.v rfl (OpVal.moveB (.inr rfl) rfl) rfl rfl ?_
      refine TL.nil ?_
      refine S.n ?_
      refine TC.ofSub (Sub.pre 0 rfl) ?_
      refine TC.ret ?_
      obtain rfl := Option.some.inj hh
      exact RetOk.mk' (rs := [.tmp 2]) [] rfl (.inl rfl) (RVs.tmp rfl RVs.nil) (List.sublist_append_left _ _) ⟨rfl, rfl, rfl⟩

noncomputable def whittleref11_Bools_b1 (x0 : List Bool) (x1 : List Bool) (k104 : Nat) : Option ((Nat) ⊕ (Bool)) :=
  iteO (decide (((k104 : Nat) : Int) < ((x0.length : Nat) : Int))) (grd (k104 < x1.length) (iteO ((nth x0 k104 false) != (nth x1 k104 false)) (fin (some false)) (nxt (k104 + 1)))) (fin (some true))
noncomputable def whittleref11_Bools (x0 : List Bool) (x1 : List Bool) : Option (Bool) :=
  iteO (decide (((x0.length : Nat) : Int) ≠ ((x1.length : Nat) : Int))) (some false) (iter (fun q : Nat => whittleref11_Bools_b1 x0 x1 q) 0)
noncomputable def whittleref04_Same_b1 (x0 : List Span) (x1 : List Span) (k104 : Nat) : Option ((Nat) ⊕ (Bool)) :=
  iteO (decide (((k104 : Nat) : Int) < ((x0.length : Nat) : Int))) (grd (k104 < x1.length) (iteO (decide (¬ ((nth x0 k104 Span.zero) = (nth x1 k104 Span.zero)))) (fin (some false)) (nxt (k104 + 1)))) (fin (some true))
noncomputable def whittleref04_Same (x0 : List Span) (x1 : List Span) : Option (Bool) :=
  iteO (decide (((x0.length : Nat) : Int) ≠ ((x1.length : Nat) : Int))) (some false) (iter (fun q : Nat => whittleref04_Same_b1 x0 x1 q) 0)
theorem whittleref04_Same_con {σ : Store} {x0 : List Span} {a0_0 : Option Addr} {c0_0 : Nat} {x1 : List Span} {a1_0 : Option Addr} {c1_0 : Nat} (f0_0 : RS σ 2 encSpan (.slice a0_0 x0.length c0_0) x0) (f1_0 : RS σ 2 encSpan (.slice a1_0 x1.length c1_0) x1) {r : Bool} (hh : whittleref04_Same x0 x1 = some r) :
    Con Tryd.prog 11 #[.slice a0_0 x0.length c0_0, .slice a1_0 x1.length c1_0] σ [] (PureP (.bool r) σ) := by
  dsimp only [whittleref04_Same] at hh
  have f0_0b := f0_0.rv.big
  have f1_0b := f1_0.rv.big
  refine Con.mk (n := 26) Tryd.func11 rfl rfl rfl (fun w0 => ?_)
  refine TC.seq ?_
  refine TC.region ?_
  refine TL.v rfl (OpVal.moveB (.inr rfl) rfl) rfl rfl ?_
  refine TL.nil ?_
  refine S.n ?_
  refine TC.seq ?_
  refine TC.seq ?_
  refine TC.region ?_
  refine TL.v rfl (OpVal.moveSl (.inl rfl) rfl) rfl rfl ?_
  refine TL.v rfl (OpVal.lenC rfl Tryd.underlying28 rfl) rfl rfl ?_
  refine TL.v rfl (OpVal.moveSl (.inl rfl) rfl) rfl rfl ?_
  refine TL.v rfl (OpVal.lenC rfl Tryd.underlying28 rfl) rfl rfl ?_
  refine TL.v rfl (OpVal.neq rfl rfl rfl) rfl rfl ?_
  refine TL.nil ?_
  refine S.n ?_
  refine TC.cond rfl (fun h101 => ?_) (fun h101 => ?_)
  · replace hh := iteO_t h101 hh
    replace h101 := of_decide_eq_true h101
    refine TC.seq ?_
    refine TC.region ?_
    refine TL.v rfl (OpVal.moveB (.inr rfl) rfl) rfl rfl ?_
    refine TL.nil ?_
    refine S.n ?_
    refine TC.ret ?_
    refine S.r ?_
    obtain rfl := Option.some.inj hh
    exact RetOk.mk' (rs := [.tmp 4]) [] rfl (.inl rfl) (RVs.tmp rfl RVs.nil) (List.sublist_append_left _ _) ⟨rfl, rfl, rfl⟩
  · replace hh := iteO_f h101 hh
    replace h101 := of_decide_eq_false h101
    refine TC.skip ?_
    refine S.n ?_
    refine TC.seq ?_
    refine TC.seq ?_
    refine TC.region ?_
    refine TL.v rfl (OpVal.moveI (.inr rfl) rfl) rfl rfl ?_
    refine TL.nil ?_
    refine S.n ?_
    refine TC.block ?_
    refine TC.loopG (α := (Nat) × (Unit)) [4, 5, 11, 12, 13, 14, 15, 16, 17, 18, 19, 20, 21, 22, 23, 24, 25] (fun g => [(5, .int .i64 ((g.1 : Nat) : Int))]) (fun g => []) (fun g => σ) (fun g => iter (fun q : Nat => whittleref04_Same_b1 x0 x1 q) g.1 = some r) (fun g => rounds (fun q : Nat => whittleref04_Same_b1 x0 x1 q) g.1) (0, ()) (Sub.pre 0 rfl) rfl (by repeat (first | exact trivial | refine ⟨rfl, ?_⟩)) hh (fun g1 j1 hg1 => ?_)
    obtain ⟨k104, _⟩ := g1
    have hh := hg1; clear hg1
    show TC _ _ _ (upds (mask _ j1 _) [(5, .int .i64 ((k104 : Nat) : Int))]) _ []
    obtain ⟨z1, hh, hR1⟩ := iter_e hh
    dsimp only [whittleref04_Same_b1] at hh
    refine TC.seq ?_
    refine TC.seq ?_
    refine TC.region ?_
    refine TL.v rfl (OpVal.moveI (.inl rfl) rfl) rfl rfl ?_
    refine TL.v rfl (OpVal.moveSl (.inl rfl) rfl) rfl rfl ?_
    refine TL.v rfl (OpVal.lenC rfl Tryd.underlying28 rfl) rfl rfl ?_
    refine TL.v rfl (OpVal.lss rfl rfl rfl) rfl rfl ?_
    refine TL.nil ?_
    refine S.n ?_
    refine TC.cond rfl (fun h105 => ?_) (fun h105 => ?_)
    · replace hh := iteO_t h105 hh
      replace h105 := of_decide_eq_true h105
      refine TC.skip ?_
      refine S.n ?_
      refine TC.seq ?_
      refine TC.block ?_
      refine TC.seq ?_
      have u19 := grd_c hh
      replace hh := grd_t hh
      refine TC.draw [] (by kernel_rfl) ?_
      refine TA.takeP 0 rfl (by kernel_rfl) (by kernel_rfl) (by kernel_rfl) rfl (OpVal.moveSl (.inl rfl) rfl) rfl rfl ?_
      refine TA.takeP 1 rfl (by kernel_rfl) (by kernel_rfl) (by kernel_rfl) rfl (OpVal.moveI (.inl rfl) rfl) rfl rfl ?_
      refine TA.take 2 rfl (by kernel_rfl) (by kernel_rfl) (by kernel_rfl) (by kernel_rfl) rfl (OpVal.indexN rfl Tryd.underlying28 sz43 rfl rfl f0_0.rv.sl (by omega)) rfl rfl ?_
      refine TA.take 3 rfl (by kernel_rfl) (by kernel_rfl) (by kernel_rfl) (by kernel_rfl) rfl (OpVal.loadSA Span.zero rfl ag43 sz43 rfl f0_0 (by omega) (by omega)) rfl rfl ?_
      refine TA.takeP 4 rfl (by kernel_rfl) (by kernel_rfl) (by kernel_rfl) rfl (OpVal.moveSl (.inl rfl) rfl) rfl rfl ?_
      refine TA.takeP 5 rfl (by kernel_rfl) (by kernel_rfl) (by kernel_rfl) rfl (OpVal.moveI (.inl rfl) rfl) rfl rfl ?_
      refine TA.take 6 rfl (by kernel_rfl) (by kernel_rfl) (by kernel_rfl) (by kernel_rfl) rfl (OpVal.indexN rfl Tryd.underlying28 sz43 rfl rfl f1_0.rv.sl (by omega)) rfl rfl ?_
      refine TA.take 7 rfl (by kernel_rfl) (by kernel_rfl) (by kernel_rfl) (by kernel_rfl) rfl (OpVal.loadSA Span.zero rfl ag43 sz43 rfl f1_0 (by omega) (by omega)) rfl rfl ?_
      refine TA.takeP 8 rfl (by kernel_rfl) (by kernel_rfl) (by kernel_rfl) rfl (OpVal.neqSt (p := (nth x0 k104 Span.zero) = (nth x1 k104 Span.zero)) rfl rfl rfl eg43 (es43 (nth x0 k104 Span.zero) (nth x1 k104 Span.zero)) rfl) rfl rfl ?_
      refine TA.done (by kernel_rfl) ?_
      refine S.n ?_
      refine TC.cond rfl (fun h106 => ?_) (fun h106 => ?_)
      · replace hh := iteO_t h106 hh
        replace h106 := of_decide_eq_true h106
        refine TC.seq ?_
        refine TC.region ?_
        refine TL.v rfl (OpVal.moveB (.inr rfl) rfl) rfl rfl ?_
        refine TL.nil ?_
        refine S.n ?_
        refine TC.ret ?_
        refine B.r ?_
        refine S.r ?_
        refine S.r ?_
        replace hh := fin_x hR1 hh
        refine B.r ?_
        refine S.r ?_
        obtain rfl := Option.some.inj hh
        exact RetOk.mk' (rs := [.tmp 4]) [] rfl (.inl rfl) (RVs.tmp rfl RVs.nil) (List.sublist_append_left _ _) ⟨rfl, rfl, rfl⟩
      · replace hh := iteO_f h106 hh
        replace h106 := of_decide_eq_false h106
        refine TC.skip ?_
        refine B.n ?_
        refine S.n ?_
        refine TC.region ?_
        refine TL.v rfl (OpVal.moveI (.inl rfl) rfl) rfl rfl ?_
        refine TL.v rfl (OpVal.succ rfl rfl rfl (by omega)) rfl rfl ?_
        refine TL.v rfl (OpVal.moveI (.inr rfl) rfl) rfl rfl ?_
        refine TL.nil ?_
        refine S.n ?_
        obtain ⟨hh, hlt107⟩ := nxt_x hR1 hh
        refine ⟨by repeat (first | exact Agr.refl _ _ | exact Agr.mask | refine Agr.upd rfl ?_ | refine Agr.maskIn rfl ?_ | refine Agr.upds rfl ?_), ((k104 + 1), ()), hlt107, hh, by repeat (first | exact trivial | refine ⟨rfl, ?_⟩), Sub.pre 0 rfl, rfl⟩
    · replace hh := iteO_f h105 hh
      replace h105 := of_decide_eq_false h105
      refine TC.exit ?_
      refine S.x ?_
      refine S.x ?_
      replace hh := fin_x hR1 hh
      refine TC.exitHere ?_
      refine S.n ?_
      refine TC.seq ?_
      refine TC.region ?_
      refine TL.v rfl (OpVal.moveB (.inr rfl) rfl) rfl rfl ?_
      refine TL.nil ?_
      refine S.n ?_
      refine TC.ret ?_
      obtain rfl := Option.some.inj hh
      exact RetOk.mk' (rs := [.tmp 4]) [] rfl (.inl rfl) (RVs.tmp rfl RVs.nil) (List.sublist_append_left _ _) ⟨rfl, rfl, rfl⟩

noncomputable def whittleref23_taken_b1 (x3 : Int) (x0 : Dfa) (x1 : List UInt8) (i107 : Int) (i108 : Int) : Option ((Int × Int) ⊕ (Bool)) :=
  iteO (decide (i108 < x3)) (grd (0 ≤ i107 ∧ i107 < (x0.next.length : Int)) (grd (0 ≤ i108 ∧ i108 < (x1.length : Int)) (grd ((nth x1 i108.toNat (0 : UInt8)).toNat < x0.cls.length) (grd (0 ≤ (nth x0.cls ((nth x1 i108.toNat (0 : UInt8)).toNat) (0 : Int)) ∧ (nth x0.cls ((nth x1 i108.toNat (0 : UInt8)).toNat) (0 : Int)) < ((nth x0.next i107.toNat ([] : List Int)).length : Int)) (nxt ((nth (nth x0.next i107.toNat ([] : List Int)) ((nth x0.cls ((nth x1 i108.toNat (0 : UInt8)).toNat) (0 : Int)).toNat) (0 : Int)), (IntKind.i64.wrap (i108 + 1)))))))) (fin (grd (0 ≤ i107 ∧ i107 < (x0.fin.length : Int)) (some (nth x0.fin i107.toNat false))))
noncomputable def whittleref23_taken (x0 : Dfa) (x1 : List UInt8) (x2 : Int) (x3 : Int) : Option (Bool) :=
  grd (x1.length ≤ 281474976710656) (iter (fun q : Int × Int => whittleref23_taken_b1 x3 x0 x1 q.1 q.2) (0, x2))
theorem whittleref23_taken_con {σ : Store} {x0 : Dfa} {a0_0 : Option Addr} {c0_0 : Nat} {a0_1 : Option Addr} {c0_1 : Nat} {a0_2 : Option Addr} {c0_2 : Nat} {x1 : List UInt8} {x2 : Int} {x3 : Int} (f0_0 : RS σ 1 Go.E.encI (.slice a0_0 x0.cls.length c0_0) x0.cls) (f0_1 : RZ σ (pkSl 1 Go.E.encI Go.E.encI_len) (.slice a0_1 x0.next.length c0_1) x0.next) (f0_2 : RS σ 1 encB (.slice a0_2 x0.fin.length c0_2) x0.fin) {r : Bool} (hh : whittleref23_taken x0 x1 x2 x3 = some r) :
    Con Tryd.prog 25 #[.agg #[.slice a0_0 x0.cls.length c0_0, .slice a0_1 x0.next.length c0_1, .slice a0_2 x0.fin.length c0_2], .string (bs x1), .int .i64 x2, .int .i64 x3] σ [] (PureP (.bool r) σ) := by
  dsimp only [whittleref23_taken] at hh
  have f0_0b := f0_0.rv.big
  have f0_1b := f0_1.big
  have f0_2b := f0_2.rv.big
  refine Con.mk (n := 36) Tryd.func25 rfl rfl rfl (fun w0 => ?_)
  have x1b := grd_c hh
  replace hh := grd_t hh
  refine TC.seq ?_
  refine TC.region ?_
  refine TL.op rfl (OpOk.boxA rfl rfl rfl rfl (fun b101 => ?_))
  refine TL.v rfl (OpVal.moveB (.inr rfl) rfl) rfl rfl ?_
  refine TL.nil ?_
  refine S.n ?_
  refine TC.seq ?_
  refine TC.region ?_
  refine TL.v rfl (OpVal.moveI (.inr rfl) rfl) rfl rfl ?_
  refine TL.nil ?_
  refine S.n ?_
  refine TC.seq ?_
  refine TC.seq ?_
  refine TC.region ?_
  refine TL.v rfl (OpVal.moveI (.inl rfl) rfl) rfl rfl ?_
  refine TL.v rfl (OpVal.moveI (.inr rfl) rfl) rfl rfl ?_
  refine TL.nil ?_
  refine S.n ?_
  refine TC.block ?_
  refine TC.loopG (α := (Int × Int) × (Unit)) [9, 10, 12, 13, 14, 15, 16, 17, 18, 19, 20, 21, 22, 23, 24, 25, 26, 27, 28, 29, 30] (fun g => [(9, .int .i64 g.1.1), (10, .int .i64 g.1.2)]) (fun g => [Res.cells b101 #[.slice a0_0 x0.cls.length c0_0, .slice a0_1 x0.next.length c0_1, .slice a0_2 x0.fin.length c0_2] 26]) (fun g => σ) (fun g => iter (fun q : Int × Int => whittleref23_taken_b1 x3 x0 x1 q.1 q.2) g.1 = some r) (fun g => rounds (fun q : Int × Int => whittleref23_taken_b1 x3 x0 x1 q.1 q.2) g.1) ((0, x2), ()) (Sub.pre 1 rfl) rfl (by repeat (first | exact trivial | refine ⟨rfl, ?_⟩)) hh (fun g1 j1 hg1 => ?_)
  obtain ⟨⟨i107, i108⟩, _⟩ := g1
  have hh := hg1; clear hg1
  show TC _ _ _ (upds (mask _ j1 _) [(9, .int .i64 i107), (10, .int .i64 i108)]) _ [Res.cells b101 #[.slice a0_0 x0.cls.length c0_0, .slice a0_1 x0.next.length c0_1, .slice a0_2 x0.fin.length c0_2] 26]
  obtain ⟨z1, hh, hR1⟩ := iter_e hh
  dsimp only [whittleref23_taken_b1] at hh
  refine TC.seq ?_
  refine TC.seq ?_
  refine TC.region ?_
  refine TL.v rfl (OpVal.moveI (.inl rfl) rfl) rfl rfl ?_
  refine TL.v rfl (OpVal.moveI (.inl rfl) rfl) rfl rfl ?_
  refine TL.v rfl (OpVal.lss rfl rfl rfl) rfl rfl ?_
  refine TL.nil ?_
  refine S.n ?_
  refine TC.cond rfl (fun h109 => ?_) (fun h109 => ?_)
  · replace hh := iteO_t h109 hh
    replace h109 := of_decide_eq_true h109
    refine TC.skip ?_
    refine S.n ?_
    refine TC.seq ?_
    refine TC.block ?_
    have u12 := grd_c hh
    replace hh := grd_t hh
    have u18 := grd_c hh
    replace hh := grd_t hh
    have u19 := grd_c hh
    replace hh := grd_t hh
    have u21 := grd_c hh
    replace hh := grd_t hh
    refine TC.draw [] (by kernel_rfl) ?_
    refine TA.takeP 0 rfl (by kernel_rfl) (by kernel_rfl) (by kernel_rfl) rfl (OpVal.fieldLoc rfl fo26_1 rfl) rfl rfl ?_
    refine TA.take 1 rfl (by kernel_rfl) (by kernel_rfl) (by kernel_rfl) (by kernel_rfl) rfl (OpVal.loadLoc rfl ag23 rfl (i := 0) rfl rfl) rfl rfl ?_
    refine TA.takeP 2 rfl (by kernel_rfl) (by kernel_rfl) (by kernel_rfl) rfl (OpVal.moveI (.inl rfl) rfl) rfl rfl ?_
    refine TA.take 3 rfl (by kernel_rfl) (by kernel_rfl) (by kernel_rfl) (by kernel_rfl) rfl (OpVal.index rfl Tryd.underlying23 sz22 rfl rfl f0_1.isSl u12.1 u12.2) rfl rfl ?_
    obtain ⟨p111, hk111, hg111⟩ := RZ.seg f0_1 i107.toNat (by omega)
    replace hk111 : RS _ 1 Go.E.encI (.slice p111.1 (nth x0.next i107.toNat ([] : List Int)).length p111.2) (nth x0.next i107.toNat ([] : List Int)) := hk111
    have hk111b := hk111.rv.big
    refine TA.take 4 rfl (by kernel_rfl) (by kernel_rfl) (by kernel_rfl) (by kernel_rfl) rfl (OpVal.of (OpVal.loadSeg0 rfl ag22 rfl hg111 rfl) (v' := .slice p111.1 ((nth x0.next i107.toNat ([] : List Int)).length) p111.2) rfl) rfl rfl ?_
    refine TA.takeP 5 rfl (by kernel_rfl) (by kernel_rfl) (by kernel_rfl) rfl (OpVal.fieldLoc rfl fo26_0 rfl) rfl rfl ?_
    refine TA.take 6 rfl (by kernel_rfl) (by kernel_rfl) (by kernel_rfl) (by kernel_rfl) rfl (OpVal.loadLoc rfl ag22 rfl (i := 0) rfl rfl) rfl rfl ?_
    refine TA.takeP 7 rfl (by kernel_rfl) (by kernel_rfl) (by kernel_rfl) rfl (OpVal.moveStr (.inl rfl) rfl) rfl rfl ?_
    refine TA.takeP 8 rfl (by kernel_rfl) (by kernel_rfl) (by kernel_rfl) rfl (OpVal.moveI (.inl rfl) rfl) rfl rfl ?_
    refine TA.takeP 9 rfl (by kernel_rfl) (by kernel_rfl) (by kernel_rfl) rfl (OpVal.indexBsI rfl Tryd.underlying9 rfl rfl u18.1 u18.2) rfl rfl ?_
    refine TA.take 10 rfl (by kernel_rfl) (by kernel_rfl) (by kernel_rfl) (by kernel_rfl) rfl (OpVal.indexN rfl Tryd.underlying22 sz3 rfl rfl f0_0.rv.sl (by omega)) rfl rfl ?_
    refine TA.take 11 rfl (by kernel_rfl) (by kernel_rfl) (by kernel_rfl) (by kernel_rfl) rfl (OpVal.loadS1 (0 : Int) rfl ag3 rfl f0_0 (by omega) rfl) rfl rfl ?_
    refine TA.take 12 rfl (by kernel_rfl) (by kernel_rfl) (by kernel_rfl) (by kernel_rfl) rfl (OpVal.index rfl Tryd.underlying22 sz3 rfl rfl hk111.rv.sl u21.1 u21.2) rfl rfl ?_
    refine TA.take 13 rfl (by kernel_rfl) (by kernel_rfl) (by kernel_rfl) (by kernel_rfl) rfl (OpVal.loadS1 (0 : Int) rfl ag3 rfl hk111 (by omega) rfl) rfl rfl ?_
    refine TA.takeP 14 rfl (by kernel_rfl) (by kernel_rfl) (by kernel_rfl) rfl (OpVal.moveI (.inr rfl) rfl) rfl rfl ?_
    refine TA.done (by kernel_rfl) ?_
    refine B.n ?_
    refine S.n ?_
    refine TC.region ?_
    refine TL.v rfl (OpVal.moveI (.inl rfl) rfl) rfl rfl ?_
    refine TL.v rfl (OpVal.addW rfl rfl rfl) rfl rfl ?_
    refine TL.v rfl (OpVal.moveI (.inr rfl) rfl) rfl rfl ?_
    refine TL.nil ?_
    refine S.n ?_
    obtain ⟨hh, hlt112⟩ := nxt_x hR1 hh
    refine ⟨by repeat (first | exact Agr.refl _ _ | exact Agr.mask | refine Agr.upd rfl ?_ | refine Agr.maskIn rfl ?_ | refine Agr.upds rfl ?_), (((nth (nth x0.next i107.toNat ([] : List Int)) ((nth x0.cls ((nth x1 i108.toNat (0 : UInt8)).toNat) (0 : Int)).toNat) (0 : Int)), (IntKind.i64.wrap (i108 + 1))), ()), hlt112, hh, by repeat (first | exact trivial | refine ⟨rfl, ?_⟩), Sub.pre 1 rfl, rfl⟩
  · replace hh := iteO_f h109 hh
    replace h109 := of_decide_eq_false h109
    refine TC.exit ?_
    refine S.x ?_
    refine S.x ?_
    replace hh := fin_x hR1 hh
    refine TC.exitHere ?_
    refine S.n ?_
    refine TC.seq ?_
    refine TC.region ?_
    refine TL.v rfl (OpVal.fieldLoc rfl fo26_2 rfl) rfl rfl ?_
    refine TL.v rfl (OpVal.loadLoc rfl ag24 rfl (i := 0) rfl rfl) rfl rfl ?_
    refine TL.v rfl (OpVal.moveI (.inl rfl) rfl) rfl rfl ?_
    have u30 := grd_c hh
    replace hh := grd_t hh
    refine TL.v rfl (OpVal.index rfl Tryd.underlying24 sz4 rfl rfl f0_2.rv.sl u30.1 u30.2) rfl rfl ?_
    refine TL.v rfl (OpVal.loadS1 false rfl ag4 rfl f0_2 (by omega) rfl) rfl rfl ?_
    refine TL.v rfl (OpVal.moveB (.inr rfl) rfl) rfl rfl ?_
    refine TL.nil ?_
    refine S.n ?_
    refine TC.ofSub (Sub.pre 0 rfl) ?_
    refine TC.ret ?_
    obtain rfl := Option.some.inj hh
    exact RetOk.mk' (rs := [.tmp 8]) [] rfl (.inl rfl) (RVs.tmp rfl RVs.nil) (List.sublist_append_left _ _) ⟨rfl, rfl, rfl⟩

noncomputable def whittleref23_wrong (x0 : Dfa) (x1 : List UInt8) : Option (Int) :=
  grd (x1.length ≤ 281474976710656) (bnd (whittleref11_Right x0) (fun v4 => iteO (!v4) (some 1) (iteO (decide (4096 < ((x1.length : Nat) : Int))) (some 2) (some 0))))
theorem whittleref23_wrong_con {σ : Store} {x0 : Dfa} {a0_0 : Option Addr} {c0_0 : Nat} {a0_1 : Option Addr} {c0_1 : Nat} {a0_2 : Option Addr} {c0_2 : Nat} {x1 : List UInt8} (f0_0 : RS σ 1 Go.E.encI (.slice a0_0 x0.cls.length c0_0) x0.cls) (f0_1 : RZ σ (pkSl 1 Go.E.encI Go.E.encI_len) (.slice a0_1 x0.next.length c0_1) x0.next) (f0_2 : RS σ 1 encB (.slice a0_2 x0.fin.length c0_2) x0.fin) {r : Int} (hh : whittleref23_wrong x0 x1 = some r) :
    Con Tryd.prog 32 #[.agg #[.slice a0_0 x0.cls.length c0_0, .slice a0_1 x0.next.length c0_1, .slice a0_2 x0.fin.length c0_2], .string (bs x1)] σ [] (PureP (.int .i64 r) σ) := by
  dsimp only [whittleref23_wrong] at hh
  have f0_0b := f0_0.rv.big
  have f0_1b := f0_1.big
  have f0_2b := f0_2.rv.big
  refine Con.mk (n := 11) Tryd.func32 rfl rfl rfl (fun w0 => ?_)
  have x1b := grd_c hh
  replace hh := grd_t hh
  refine TC.seq ?_
  refine TC.region ?_
  refine TL.op rfl (OpOk.boxA rfl rfl rfl rfl (fun b101 => ?_))
  refine TL.v rfl (OpVal.moveI (.inr rfl) rfl) rfl rfl ?_
  refine TL.nil ?_
  refine S.n ?_
  refine TC.seq ?_
  refine TC.seq ?_
  refine TC.region ?_
  refine TL.v rfl (OpVal.loadAll rfl ag26 sz26 rfl (i := 0) rfl rfl) rfl rfl ?_
  obtain ⟨v4, u4, hh⟩ := bnd_e hh
  refine TL.op rfl (OpOk.callP (whittleref11_Right_con (x0 := x0) f0_0 f0_1 f0_2 u4) rfl rfl pf24 rfl rfl rfl ?_)
  refine TL.v rfl (OpVal.not rfl rfl) rfl rfl ?_
  refine TL.nil ?_
  refine S.n ?_
  refine TC.cond rfl (fun h103 => ?_) (fun h103 => ?_)
  · replace hh := iteO_t h103 hh
    refine TC.seq ?_
    refine TC.region ?_
    refine TL.v rfl (OpVal.moveI (.inr rfl) rfl) rfl rfl ?_
    refine TL.nil ?_
    refine S.n ?_
    refine TC.ofSub (Sub.pre 0 rfl) ?_
    refine TC.ret ?_
    refine S.r ?_
    obtain rfl := Option.some.inj hh
    exact RetOk.mk' (rs := [.tmp 4]) [] rfl (.inl rfl) (RVs.tmp rfl RVs.nil) (List.sublist_append_left _ _) ⟨rfl, rfl, rfl⟩
  · replace hh := iteO_f h103 hh
    refine TC.skip ?_
    refine S.n ?_
    refine TC.seq ?_
    refine TC.seq ?_
    refine TC.region ?_
    refine TL.v rfl (OpVal.moveStr (.inl rfl) rfl) rfl rfl ?_
    refine TL.v rfl (OpVal.lenBs rfl Tryd.underlying9 rfl) rfl rfl ?_
    refine TL.v rfl (OpVal.gtr rfl rfl rfl) rfl rfl ?_
    refine TL.nil ?_
    refine S.n ?_
    refine TC.cond rfl (fun h104 => ?_) (fun h104 => ?_)
    · replace hh := iteO_t h104 hh
      replace h104 := of_decide_eq_true h104
      refine TC.seq ?_
      refine TC.region ?_
      refine TL.v rfl (OpVal.moveI (.inr rfl) rfl) rfl rfl ?_
      refine TL.nil ?_
      refine S.n ?_
      refine TC.ofSub (Sub.pre 0 rfl) ?_
      refine TC.ret ?_
      refine S.r ?_
      obtain rfl := Option.some.inj hh
      exact RetOk.mk' (rs := [.tmp 4]) [] rfl (.inl rfl) (RVs.tmp rfl RVs.nil) (List.sublist_append_left _ _) ⟨rfl, rfl, rfl⟩
    · replace hh := iteO_f h104 hh
      replace h104 := of_decide_eq_false h104
      refine TC.skip ?_
      refine S.n ?_
      refine TC.seq ?_
      refine TC.region ?_
      refine TL.v rfl (OpVal.moveI (.inr rfl) rfl) rfl rfl ?_
      refine TL.nil ?_
      refine S.n ?_
      refine TC.ofSub (Sub.pre 0 rfl) ?_
      refine TC.ret ?_
      obtain rfl := Option.some.inj hh
      exact RetOk.mk' (rs := [.tmp 4]) [] rfl (.inl rfl) (RVs.tmp rfl RVs.nil) (List.sublist_append_left _ _) ⟨rfl, rfl, rfl⟩

noncomputable def whittleref23_Longest_b1 (x2 : Int) (x0 : Dfa) (x1 : List UInt8) (i109 : Int) : Option ((Int) ⊕ (Int × Bool × Int)) :=
  iteO (decide (x2 < i109)) (bnd (whittleref23_taken x0 x1 x2 i109) (fun v37 => iteO v37 (fin (some (i109, true, 0))) (nxt (IntKind.i64.wrap (i109 - 1))))) (fin (some (0, false, 0)))
noncomputable def whittleref23_Longest (x0 : Dfa) (x1 : List UInt8) (x2 : Int) : Option (Int × Bool × Int) :=
  grd (x1.length ≤ 281474976710656) (bnd (whittleref11_Right x0) (fun v6 => iteO (!v6) (some (0, false, 1)) (iteO (decide (x2 < 0)) (some (0, false, 1)) (iteO (decide (((x1.length : Nat) : Int) < x2)) (some (0, false, 1)) (iteO (decide (4096 < ((x1.length : Nat) : Int))) (some (0, false, 2)) (iter (fun q : Int => whittleref23_Longest_b1 x2 x0 x1 q) ((x1.length : Nat) : Int)))))))
noncomputable def whittleref23_Before_j1 (k127 : Nat) (t130 : Bool) : Option ((Bool × Nat) ⊕ (((List Bool) × Nat) ⊕ ((List Bool) × Int))) :=
  nxt (t130, (k127 + 1))
noncomputable def whittleref23_Before_b2 (k118 : Nat) (x0 : Dfa) (x1 : List UInt8) (l115 : List Bool) (t126 : Bool) (k127 : Nat) : Option ((Bool × Nat) ⊕ (((List Bool) × Nat) ⊕ ((List Bool) × Int))) :=
  iteO (decide (((k127 : Nat) : Int) ≤ ((k118 : Nat) : Int))) (iteO t126 (whittleref23_Before_j1 k127 true) (bnd (whittleref23_taken x0 x1 ((k127 : Nat) : Int) ((k118 : Nat) : Int)) (fun v30 => whittleref23_Before_j1 k127 v30))) (fin (grd ((l115.length + [t126].length) * 1 ≤ 140737488355328) (nxt ((l115 ++ [t126]), (k118 + 1)))))
noncomputable def whittleref23_Before_b1 (x1 : List UInt8) (x0 : Dfa) (l115 : List Bool) (k118 : Nat) : Option (((List Bool) × Nat) ⊕ ((List Bool) × Int)) :=
  iteO (decide (((k118 : Nat) : Int) ≤ ((x1.length : Nat) : Int))) (iter (fun q : Bool × Nat => whittleref23_Before_b2 k118 x0 x1 l115 q.1 q.2) (false, 0)) (fin (some (l115, 0)))
noncomputable def whittleref23_Before (x0 : Dfa) (x1 : List UInt8) : Option ((List Bool) × Int) :=
  grd (x1.length ≤ 281474976710656) (bnd (whittleref23_wrong x0 x1) (fun v6 => iteO (decide (v6 ≠ 0)) (some (([] : List Bool), v6)) (iter (fun q : (List Bool) × Nat => whittleref23_Before_b1 x1 x0 q.1 q.2) (([] : List Bool), 0))))
def whittleref23_Before_P (σ : Store) (r : (List Bool) × Int) : Value → Store → List Res → Prop := fun v σ' H' =>
  ∃ (a1 : Option Addr), ∃ (c1 : Nat),  v = .tuple #[.slice a1 r.1.length c1, .int .i64 r.2] ∧ RS σ' 1 encB (.slice a1 r.1.length c1) r.1 ∧ H' = []
theorem whittleref23_Before_con {σ : Store} {x0 : Dfa} {a0_0 : Option Addr} {c0_0 : Nat} {a0_1 : Option Addr} {c0_1 : Nat} {a0_2 : Option Addr} {c0_2 : Nat} {x1 : List UInt8} (f0_0 : RS σ 1 Go.E.encI (.slice a0_0 x0.cls.length c0_0) x0.cls) (f0_1 : RZ σ (pkSl 1 Go.E.encI Go.E.encI_len) (.slice a0_1 x0.next.length c0_1) x0.next) (f0_2 : RS σ 1 encB (.slice a0_2 x0.fin.length c0_2) x0.fin) {r : (List Bool) × Int} (hh : whittleref23_Before x0 x1 = some r) :
    Con Tryd.prog 15 #[.agg #[.slice a0_0 x0.cls.length c0_0, .slice a0_1 x0.next.length c0_1, .slice a0_2 x0.fin.length c0_2], .string (bs x1)] σ [] (whittleref23_Before_P σ r) := by
  dsimp only [whittleref23_Before] at hh
  have f0_0b := f0_0.rv.big
  have f0_1b := f0_1.big
  have f0_2b := f0_2.rv.big
  refine Con.mk (n := 41) Tryd.func15 rfl rfl rfl (fun w0 => ?_)
  have x1b := grd_c hh
  replace hh := grd_t hh
  refine TC.seq ?_
  refine TC.region ?_
  refine TL.op rfl (OpOk.boxA rfl rfl rfl rfl (fun b101 => ?_))
  refine TL.v rfl (OpVal.moveSl (.inr rfl) rfl) rfl rfl ?_
  refine TL.v rfl (OpVal.moveI (.inr rfl) rfl) rfl rfl ?_
  refine TL.nil ?_
  refine S.n ?_
  refine TC.seq ?_
  refine TC.region ?_
  refine TL.v rfl (OpVal.loadAll rfl ag26 sz26 rfl (i := 0) rfl rfl) rfl rfl ?_
  refine TL.v rfl (OpVal.moveStr (.inl rfl) rfl) rfl rfl ?_
  obtain ⟨v6, u6, hh⟩ := bnd_e hh
  refine TL.op rfl (OpOk.callP (whittleref23_wrong_con (x0 := x0) f0_0 f0_1 f0_2 u6) rfl rfl pf32 rfl rfl rfl ?_)
  refine TL.v rfl (OpVal.moveI (.inr rfl) rfl) rfl rfl ?_
  refine TL.nil ?_
  refine S.n ?_
  refine TC.seq ?_
  refine TC.seq ?_
  refine TC.region ?_
  refine TL.v rfl (OpVal.moveI (.inl rfl) rfl) rfl rfl ?_
  refine TL.v rfl (OpVal.neq rfl rfl rfl) rfl rfl ?_
  refine TL.nil ?_
  refine S.n ?_
  refine TC.cond rfl (fun h103 => ?_) (fun h103 => ?_)
  · replace hh := iteO_t h103 hh
    replace h103 := of_decide_eq_true h103
    refine TC.seq ?_
    refine TC.region ?_
    refine TL.v rfl (OpVal.moveI (.inl rfl) rfl) rfl rfl ?_
    refine TL.v rfl (OpVal.moveSl (.inr rfl) rfl) rfl rfl ?_
    refine TL.v rfl (OpVal.moveI (.inr rfl) rfl) rfl rfl ?_
    refine TL.nil ?_
    refine S.n ?_
    refine TC.ofSub (Sub.pre 0 rfl) ?_
    refine TC.ret ?_
    refine S.r ?_
    obtain rfl := Option.some.inj hh
    exact RetOk.mk' (rs := [.tmp 4, .tmp 5]) [] rfl (.inl rfl) (RVs.tmp rfl (RVs.tmp rfl RVs.nil)) (List.sublist_append_left _ _) ⟨none, 0, rfl, (RS.nilF _ encB encB_len), rfl⟩
  · replace hh := iteO_f h103 hh
    replace h103 := of_decide_eq_false h103
    refine TC.skip ?_
    refine S.n ?_
    refine TC.seq ?_
    refine TC.region ?_
    refine TL.v rfl (OpVal.moveSl (.inr rfl) rfl) rfl rfl ?_
    refine TL.nil ?_
    refine S.n ?_
    refine TC.seq ?_
    refine TC.seq ?_
    refine TC.region ?_
    refine TL.v rfl (OpVal.moveI (.inr rfl) rfl) rfl rfl ?_
    refine TL.nil ?_
    refine S.n ?_
    refine TC.block ?_
    refine TC.nilS 4 1 encB ?_
    refine TC.loopG (α := ((List Bool) × Nat) × ((Option Addr) × Nat)) [7, 8, 9, 10, 17, 18, 19, 20, 21, 22, 23, 24, 25, 26, 27, 28, 29, 30, 31, 32, 33, 34, 35, 36, 37, 38, 39] (fun g => [(7, .slice g.2.1 g.1.1.length g.2.2), (8, .int .i64 ((g.1.2 : Nat) : Int))]) (fun g => [Res.cells b101 #[.slice a0_0 x0.cls.length c0_0, .slice a0_1 x0.next.length c0_1, .slice a0_2 x0.fin.length c0_2] 26, Res.rowS 4 1 encB (.slice g.2.1 g.1.1.length g.2.2) g.1.1]) (fun g => σ) (fun g => iter (fun q : (List Bool) × Nat => whittleref23_Before_b1 x1 x0 q.1 q.2) g.1 = some r) (fun g => rounds (fun q : (List Bool) × Nat => whittleref23_Before_b1 x1 x0 q.1 q.2) g.1) ((([] : List Bool), 0), (none, 0)) (Sub.front 1 rfl rfl (Sub.pre 2 rfl)) rfl (by repeat (first | exact trivial | refine ⟨rfl, ?_⟩)) hh (fun g1 j1 hg1 => ?_)
    obtain ⟨⟨l115, k118⟩, ⟨a116, c117⟩⟩ := g1
    have hh := hg1; clear hg1
    show TC _ _ _ (upds (mask _ j1 _) [(7, .slice a116 l115.length c117), (8, .int .i64 ((k118 : Nat) : Int))]) _ [Res.cells b101 #[.slice a0_0 x0.cls.length c0_0, .slice a0_1 x0.next.length c0_1, .slice a0_2 x0.fin.length c0_2] 26, Res.rowS 4 1 encB (.slice a116 l115.length c117) l115]
    obtain ⟨z1, hh, hR1⟩ := iter_e hh
    dsimp only [whittleref23_Before_b1] at hh
    refine TC.isSl (i := 1) rfl (fun _ hb120 _ => ?_)
    refine TC.seq ?_
    refine TC.seq ?_
    refine TC.region ?_
    refine TL.v rfl (OpVal.moveI (.inl rfl) rfl) rfl rfl ?_
    refine TL.v rfl (OpVal.moveStr (.inl rfl) rfl) rfl rfl ?_
    refine TL.v rfl (OpVal.lenBs rfl Tryd.underlying9 rfl) rfl rfl ?_
    refine TL.v rfl (OpVal.leq rfl rfl rfl) rfl rfl ?_
    refine TL.nil ?_
    refine S.n ?_
    refine TC.cond rfl (fun h121 => ?_) (fun h121 => ?_)
    · replace hh := iteO_t h121 hh
      replace h121 := of_decide_eq_true h121
      refine TC.skip ?_
      refine S.n ?_
      refine TC.seq ?_
      refine TC.block ?_
      refine TC.seq ?_
      refine TC.region ?_
      refine TL.v rfl (OpVal.moveB (.inr rfl) rfl) rfl rfl ?_
      refine TL.nil ?_
      refine S.n ?_
      refine TC.seq ?_
      refine TC.seq ?_
      refine TC.region ?_
      refine TL.v rfl (OpVal.moveI (.inr rfl) rfl) rfl rfl ?_
      refine TL.nil ?_
      refine S.n ?_
      refine TC.block ?_
      refine TC.loopG (α := (Bool × Nat) × (Unit)) [9, 10, 23, 24, 25, 26, 27, 28, 29, 30, 31, 32, 33, 34, 35] (fun g => [(9, .bool g.1.1), (10, .int .i64 ((g.1.2 : Nat) : Int))]) (fun g => [Res.cells b101 #[.slice a0_0 x0.cls.length c0_0, .slice a0_1 x0.next.length c0_1, .slice a0_2 x0.fin.length c0_2] 26, Res.rowS 4 1 encB (.slice a116 l115.length c117) l115]) (fun g => σ) (fun g => iter (fun q : Bool × Nat => whittleref23_Before_b2 k118 x0 x1 l115 q.1 q.2) g.1 = some z1) (fun g => rounds (fun q : Bool × Nat => whittleref23_Before_b2 k118 x0 x1 l115 q.1 q.2) g.1) ((false, 0), ()) (Sub.front 1 rfl rfl (Sub.front 1 rfl rfl (Sub.pre 2 rfl))) rfl (by repeat (first | exact trivial | refine ⟨rfl, ?_⟩)) hh (fun g2 j2 hg2 => ?_)
      obtain ⟨⟨t126, k127⟩, _⟩ := g2
      have hh := hg2; clear hg2
      show TC _ _ _ (upds (mask _ j2 _) [(9, .bool t126), (10, .int .i64 ((k127 : Nat) : Int))]) _ [Res.cells b101 #[.slice a0_0 x0.cls.length c0_0, .slice a0_1 x0.next.length c0_1, .slice a0_2 x0.fin.length c0_2] 26, Res.rowS 4 1 encB (.slice a116 l115.length c117) l115]
      obtain ⟨z2, hh, hR2⟩ := iter_e hh
      dsimp only [whittleref23_Before_b2] at hh
      refine TC.isSl (i := 1) rfl (fun _ hb128 _ => ?_)
      refine TC.seq ?_
      refine TC.seq ?_
      refine TC.region ?_
      refine TL.v rfl (OpVal.moveI (.inl rfl) rfl) rfl rfl ?_
      refine TL.v rfl (OpVal.moveI (.inl rfl) rfl) rfl rfl ?_
      refine TL.v rfl (OpVal.leq rfl rfl rfl) rfl rfl ?_
      refine TL.nil ?_
      refine S.n ?_
      refine TC.cond rfl (fun h129 => ?_) (fun h129 => ?_)
      · replace hh := iteO_t h129 hh
        replace h129 := of_decide_eq_true h129
        refine TC.skip ?_
        refine S.n ?_
        refine TC.cutG (α := (Bool) × (Unit)) [9, 28, 29, 30, 31, 32, 33, 34, 35] (fun g => [(9, .bool g.1)]) (fun g => [Res.cells b101 #[.slice a0_0 x0.cls.length c0_0, .slice a0_1 x0.next.length c0_1, .slice a0_2 x0.fin.length c0_2] 26, Res.rowS 4 1 encB (.slice a116 l115.length c117) l115]) (fun g => σ) (fun g => whittleref23_Before_j1 k127 g.1 = some z2) ?_ (fun g j hg => ?_)
        · skip
          refine TC.block ?_
          refine TC.region ?_
          refine TL.v rfl (OpVal.moveB (.inl rfl) rfl) rfl rfl ?_
          refine TL.v rfl (OpVal.moveB (.inl rfl) rfl) rfl rfl ?_
          refine TL.split 29 rfl (fun h131 => ?_) (fun h131 => ?_)
          · replace hh := iteO_t h131 hh
            refine TL.goff rfl rfl rfl rfl rfl rfl rfl rfl ?_
            refine TL.goff rfl rfl rfl rfl rfl rfl rfl rfl ?_
            refine TL.goff rfl rfl rfl rfl rfl rfl rfl rfl ?_
            refine TL.goff rfl rfl rfl rfl rfl rfl rfl rfl ?_
            refine TL.goff rfl rfl rfl rfl rfl rfl rfl rfl ?_
            refine TL.v rfl (OpVal.pickTB rfl rfl rfl) rfl rfl ?_
            refine TL.v rfl (OpVal.moveB (.inr rfl) rfl) rfl rfl ?_
            refine TL.nil ?_
            refine B.n ?_
            refine S.n ?_
            refine ⟨by repeat (first | exact Agr.refl _ _ | exact Agr.mask | refine Agr.upd rfl ?_ | refine Agr.maskIn rfl ?_ | refine Agr.upds rfl ?_), (true, ()), hh, by repeat (first | exact trivial | refine ⟨rfl, ?_⟩), Sub.front 1 rfl rfl (Sub.front 1 rfl rfl (Sub.pre 2 rfl)), rfl⟩
          · replace hh := iteO_f h131 hh
            refine TL.gv rfl rfl rfl rfl rfl (OpVal.loadAll rfl ag26 sz26 rfl (i := 0) rfl rfl) rfl rfl ?_
            refine TL.gv rfl rfl rfl rfl rfl (OpVal.moveStr (.inl rfl) rfl) rfl rfl ?_
            refine TL.gv rfl rfl rfl rfl rfl (OpVal.moveI (.inl rfl) rfl) rfl rfl ?_
            refine TL.gv rfl rfl rfl rfl rfl (OpVal.moveI (.inl rfl) rfl) rfl rfl ?_
            obtain ⟨v30, u30, hh⟩ := bnd_e hh
            refine TL.gon rfl rfl rfl rfl rfl (OpOk.callP (whittleref23_taken_con (x0 := x0) f0_0 f0_1 f0_2 u30) rfl rfl pf25 rfl rfl rfl ?_)
            refine TL.v rfl (OpVal.pickFB rfl rfl rfl) rfl rfl ?_
            refine TL.v rfl (OpVal.moveB (.inr rfl) rfl) rfl rfl ?_
            refine TL.nil ?_
            refine B.n ?_
            refine S.n ?_
            refine ⟨by repeat (first | exact Agr.refl _ _ | exact Agr.mask | refine Agr.upd rfl ?_ | refine Agr.maskIn rfl ?_ | refine Agr.upds rfl ?_), (v30, ()), hh, by repeat (first | exact trivial | refine ⟨rfl, ?_⟩), Sub.front 1 rfl rfl (Sub.front 1 rfl rfl (Sub.pre 2 rfl)), rfl⟩
        · skip
          obtain ⟨t130, _⟩ := g
          have hh := hg; clear hg
          show TC _ _ _ (upds (mask _ j _) [(9, .bool t130)]) _ [Res.cells b101 #[.slice a0_0 x0.cls.length c0_0, .slice a0_1 x0.next.length c0_1, .slice a0_2 x0.fin.length c0_2] 26, Res.rowS 4 1 encB (.slice a116 l115.length c117) l115]
          dsimp only [whittleref23_Before_j1] at hh
          refine TC.isSl (i := 1) rfl (fun _ hb132 _ => ?_)
          refine TC.region ?_
          refine TL.v rfl (OpVal.moveI (.inl rfl) rfl) rfl rfl ?_
          refine TL.v rfl (OpVal.succ rfl rfl rfl (by omega)) rfl rfl ?_
          refine TL.v rfl (OpVal.moveI (.inr rfl) rfl) rfl rfl ?_
          refine TL.nil ?_
          refine S.n ?_
          obtain ⟨hh, hlt133⟩ := nxt_x hR2 hh
          refine ⟨by repeat (first | exact Agr.refl _ _ | exact Agr.mask | refine Agr.upd rfl ?_ | refine Agr.maskIn rfl ?_ | refine Agr.upds rfl ?_), ((t130, (k127 + 1)), ()), hlt133, hh, by repeat (first | exact trivial | refine ⟨rfl, ?_⟩), Sub.front 1 rfl rfl (Sub.front 1 rfl rfl (Sub.pre 2 rfl)), rfl⟩
      · replace hh := iteO_f h129 hh
        replace h129 := of_decide_eq_false h129
        refine TC.exit ?_
        refine S.x ?_
        refine S.x ?_
        replace hh := fin_x hR2 hh
        refine TC.exitHere ?_
        refine S.n ?_
        refine TC.region ?_
        refine TL.v rfl (OpVal.moveSl (.inl rfl) rfl) rfl rfl ?_
        refine TL.v rfl (OpVal.moveB (.inl rfl) rfl) rfl rfl ?_
        refine TL.op rfl (OpOk.lit (enc := encB) [t126] rfl Tryd.underlying24 sz4 ze4 rfl rfl rfl encB_len (by decide) (by decide) false rfl (by decide) rfl (by decide) encB_one (fun a134 c135 => ?_))
        refine TL.front 2 rfl rfl ?_
        have u39 := grd_c hh
        replace hh := grd_t hh
        refine TL.op rfl (OpOk.appendS rfl rfl Tryd.underlying24 sz4 by4 ze4 rfl rfl (by decide) rfl rfl rfl (.inr ⟨_, 0, rfl⟩) (by simpa using u39) (by decide) (fun a137 c138 => ?_))
        refine TL.v rfl (OpVal.moveSl (.inr rfl) rfl) rfl rfl ?_
        refine TL.nil ?_
        refine B.n ?_
        refine S.n ?_
        refine TC.region ?_
        refine TL.v rfl (OpVal.moveI (.inl rfl) rfl) rfl rfl ?_
        refine TL.v rfl (OpVal.succ rfl rfl rfl (by omega)) rfl rfl ?_
        refine TL.v rfl (OpVal.moveI (.inr rfl) rfl) rfl rfl ?_
        refine TL.nil ?_
        refine S.n ?_
        obtain ⟨hh, hlt139⟩ := nxt_x hR1 hh
        refine ⟨by repeat (first | exact Agr.refl _ _ | exact Agr.mask | refine Agr.upd rfl ?_ | refine Agr.maskIn rfl ?_ | refine Agr.upds rfl ?_), (((l115 ++ [t126]), (k118 + 1)), (a137, c138)), hlt139, hh, by repeat (first | exact trivial | refine ⟨rfl, ?_⟩), Sub.front 2 rfl rfl (Sub.pre 2 rfl), rfl⟩
    · replace hh := iteO_f h121 hh
      replace h121 := of_decide_eq_false h121
      refine TC.exit ?_
      refine S.x ?_
      refine S.x ?_
      replace hh := fin_x hR1 hh
      refine TC.exitHere ?_
      refine S.n ?_
      refine TC.seq ?_
      refine TC.region ?_
      refine TL.v rfl (OpVal.moveSl (.inl rfl) rfl) rfl rfl ?_
      refine TL.v rfl (OpVal.moveSl (.inr rfl) rfl) rfl rfl ?_
      refine TL.v rfl (OpVal.moveI (.inr rfl) rfl) rfl rfl ?_
      refine TL.nil ?_
      refine S.n ?_
      refine TC.front 1 rfl rfl ?_
      refine TC.sealS encB_len (fun τ142 hle141 hr140 => ?_)
      replace f0_0 := f0_0.mono hle141
      replace f0_1 := f0_1.mono hle141
      replace f0_2 := f0_2.mono hle141
      have hr140b := hr140.rv.big
      refine TC.ofSub (Sub.pre 0 rfl) ?_
      refine TC.ret ?_
      obtain rfl := Option.some.inj hh
      exact RetOk.mk' (rs := [.tmp 4, .tmp 5]) [] rfl (.inl rfl) (RVs.tmp rfl (RVs.tmp rfl RVs.nil)) (List.sublist_append_left _ _) ⟨a116, c117, rfl, hr140, rfl⟩

noncomputable def whittleref23_After_j1 (k127 : Nat) (t130 : Bool) : Option ((Bool × Nat) ⊕ (((List Bool) × Nat) ⊕ ((List Bool) × Int))) :=
  nxt (t130, (k127 + 1))
noncomputable def whittleref23_After_b2 (x1 : List UInt8) (x0 : Dfa) (k118 : Nat) (l115 : List Bool) (t126 : Bool) (k127 : Nat) : Option ((Bool × Nat) ⊕ (((List Bool) × Nat) ⊕ ((List Bool) × Int))) :=
  iteO (decide (((k127 : Nat) : Int) ≤ ((x1.length : Nat) : Int))) (iteO t126 (whittleref23_After_j1 k127 true) (bnd (whittleref23_taken x0 x1 ((k118 : Nat) : Int) ((k127 : Nat) : Int)) (fun v32 => whittleref23_After_j1 k127 v32))) (fin (grd ((l115.length + [t126].length) * 1 ≤ 140737488355328) (nxt ((l115 ++ [t126]), (k118 + 1)))))
noncomputable def whittleref23_After_b1 (x1 : List UInt8) (x0 : Dfa) (l115 : List Bool) (k118 : Nat) : Option (((List Bool) × Nat) ⊕ ((List Bool) × Int)) :=
  iteO (decide (((k118 : Nat) : Int) ≤ ((x1.length : Nat) : Int))) (iter (fun q : Bool × Nat => whittleref23_After_b2 x1 x0 k118 l115 q.1 q.2) (false, k118)) (fin (some (l115, 0)))
noncomputable def whittleref23_After (x0 : Dfa) (x1 : List UInt8) : Option ((List Bool) × Int) :=
  grd (x1.length ≤ 281474976710656) (bnd (whittleref23_wrong x0 x1) (fun v6 => iteO (decide (v6 ≠ 0)) (some (([] : List Bool), v6)) (iter (fun q : (List Bool) × Nat => whittleref23_After_b1 x1 x0 q.1 q.2) (([] : List Bool), 0))))
def whittleref23_After_P (σ : Store) (r : (List Bool) × Int) : Value → Store → List Res → Prop := fun v σ' H' =>
  ∃ (a1 : Option Addr), ∃ (c1 : Nat),  v = .tuple #[.slice a1 r.1.length c1, .int .i64 r.2] ∧ RS σ' 1 encB (.slice a1 r.1.length c1) r.1 ∧ H' = []
theorem whittleref23_After_con {σ : Store} {x0 : Dfa} {a0_0 : Option Addr} {c0_0 : Nat} {a0_1 : Option Addr} {c0_1 : Nat} {a0_2 : Option Addr} {c0_2 : Nat} {x1 : List UInt8} (f0_0 : RS σ 1 Go.E.encI (.slice a0_0 x0.cls.length c0_0) x0.cls) (f0_1 : RZ σ (pkSl 1 Go.E.encI Go.E.encI_len) (.slice a0_1 x0.next.length c0_1) x0.next) (f0_2 : RS σ 1 encB (.slice a0_2 x0.fin.length c0_2) x0.fin) {r : (List Bool) × Int} (hh : whittleref23_After x0 x1 = some r) :
    Con Tryd.prog 17 #[.agg #[.slice a0_0 x0.cls.length c0_0, .slice a0_1 x0.next.length c0_1, .slice a0_2 x0.fin.length c0_2], .string (bs x1)] σ [] (whittleref23_After_P σ r) := by
  dsimp only [whittleref23_After] at hh
  have f0_0b := f0_0.rv.big
  have f0_1b := f0_1.big
  have f0_2b := f0_2.rv.big
  refine Con.mk (n := 43) Tryd.func17 rfl rfl rfl (fun w0 => ?_)
  have x1b := grd_c hh
  replace hh := grd_t hh
  refine TC.seq ?_
  refine TC.region ?_
  refine TL.op rfl (OpOk.boxA rfl rfl rfl rfl (fun b101 => ?_))
  refine TL.v rfl (OpVal.moveSl (.inr rfl) rfl) rfl rfl ?_
  refine TL.v rfl (OpVal.moveI (.inr rfl) rfl) rfl rfl ?_
  refine TL.nil ?_
  refine S.n ?_
  refine TC.seq ?_
  refine TC.region ?_
  refine TL.v rfl (OpVal.loadAll rfl ag26 sz26 rfl (i := 0) rfl rfl) rfl rfl ?_
  refine TL.v rfl (OpVal.moveStr (.inl rfl) rfl) rfl rfl ?_
  obtain ⟨v6, u6, hh⟩ := bnd_e hh
  refine TL.op rfl (OpOk.callP (whittleref23_wrong_con (x0 := x0) f0_0 f0_1 f0_2 u6) rfl rfl pf32 rfl rfl rfl ?_)
  refine TL.v rfl (OpVal.moveI (.inr rfl) rfl) rfl rfl ?_
  refine TL.nil ?_
  refine S.n ?_
  refine TC.seq ?_
  refine TC.seq ?_
  refine TC.region ?_
  refine TL.v rfl (OpVal.moveI (.inl rfl) rfl) rfl rfl ?_
  refine TL.v rfl (OpVal.neq rfl rfl rfl) rfl rfl ?_
  refine TL.nil ?_
  refine S.n ?_
  refine TC.cond rfl (fun h103 => ?_) (fun h103 => ?_)
  · replace hh := iteO_t h103 hh
    replace h103 := of_decide_eq_true h103
    refine TC.seq ?_
    refine TC.region ?_
    refine TL.v rfl (OpVal.moveI (.inl rfl) rfl) rfl rfl ?_
    refine TL.v rfl (OpVal.moveSl (.inr rfl) rfl) rfl rfl ?_
    refine TL.v rfl (OpVal.moveI (.inr rfl) rfl) rfl rfl ?_
    refine TL.nil ?_
    refine S.n ?_
    refine TC.ofSub (Sub.pre 0 rfl) ?_
    refine TC.ret ?_
    refine S.r ?_
    obtain rfl := Option.some.inj hh
    exact RetOk.mk' (rs := [.tmp 4, .tmp 5]) [] rfl (.inl rfl) (RVs.tmp rfl (RVs.tmp rfl RVs.nil)) (List.sublist_append_left _ _) ⟨none, 0, rfl, (RS.nilF _ encB encB_len), rfl⟩
  · replace hh := iteO_f h103 hh
    replace h103 := of_decide_eq_false h103
    refine TC.skip ?_
    refine S.n ?_
    refine TC.seq ?_
    refine TC.region ?_
    refine TL.v rfl (OpVal.moveSl (.inr rfl) rfl) rfl rfl ?_
    refine TL.nil ?_
    refine S.n ?_
    refine TC.seq ?_
    refine TC.seq ?_
    refine TC.region ?_
    refine TL.v rfl (OpVal.moveI (.inr rfl) rfl) rfl rfl ?_
    refine TL.nil ?_
    refine S.n ?_
    refine TC.block ?_
    refine TC.nilS 4 1 encB ?_
    refine TC.loopG (α := ((List Bool) × Nat) × ((Option Addr) × Nat)) [7, 8, 9, 10, 17, 18, 19, 20, 21, 22, 23, 24, 25, 26, 27, 28, 29, 30, 31, 32, 33, 34, 35, 36, 37, 38, 39, 40, 41] (fun g => [(7, .slice g.2.1 g.1.1.length g.2.2), (8, .int .i64 ((g.1.2 : Nat) : Int))]) (fun g => [Res.cells b101 #[.slice a0_0 x0.cls.length c0_0, .slice a0_1 x0.next.length c0_1, .slice a0_2 x0.fin.length c0_2] 26, Res.rowS 4 1 encB (.slice g.2.1 g.1.1.length g.2.2) g.1.1]) (fun g => σ) (fun g => iter (fun q : (List Bool) × Nat => whittleref23_After_b1 x1 x0 q.1 q.2) g.1 = some r) (fun g => rounds (fun q : (List Bool) × Nat => whittleref23_After_b1 x1 x0 q.1 q.2) g.1) ((([] : List Bool), 0), (none, 0)) (Sub.front 1 rfl rfl (Sub.pre 2 rfl)) rfl (by repeat (first | exact trivial | refine ⟨rfl, ?_⟩)) hh (fun g1 j1 hg1 => ?_)
    obtain ⟨⟨l115, k118⟩, ⟨a116, c117⟩⟩ := g1
    have hh := hg1; clear hg1
    show TC _ _ _ (upds (mask _ j1 _) [(7, .slice a116 l115.length c117), (8, .int .i64 ((k118 : Nat) : Int))]) _ [Res.cells b101 #[.slice a0_0 x0.cls.length c0_0, .slice a0_1 x0.next.length c0_1, .slice a0_2 x0.fin.length c0_2] 26, Res.rowS 4 1 encB (.slice a116 l115.length c117) l115]
    obtain ⟨z1, hh, hR1⟩ := iter_e hh
    dsimp only [whittleref23_After_b1] at hh
    refine TC.isSl (i := 1) rfl (fun _ hb120 _ => ?_)
    refine TC.seq ?_
    refine TC.seq ?_
    refine TC.region ?_
    refine TL.v rfl (OpVal.moveI (.inl rfl) rfl) rfl rfl ?_
    refine TL.v rfl (OpVal.moveStr (.inl rfl) rfl) rfl rfl ?_
    refine TL.v rfl (OpVal.lenBs rfl Tryd.underlying9 rfl) rfl rfl ?_
    refine TL.v rfl (OpVal.leq rfl rfl rfl) rfl rfl ?_
    refine TL.nil ?_
    refine S.n ?_
    refine TC.cond rfl (fun h121 => ?_) (fun h121 => ?_)
    · replace hh := iteO_t h121 hh
      replace h121 := of_decide_eq_true h121
      refine TC.skip ?_
      refine S.n ?_
      refine TC.seq ?_
      refine TC.block ?_
      refine TC.seq ?_
      refine TC.region ?_
      refine TL.v rfl (OpVal.moveB (.inr rfl) rfl) rfl rfl ?_
      refine TL.nil ?_
      refine S.n ?_
      refine TC.seq ?_
      refine TC.seq ?_
      refine TC.region ?_
      refine TL.v rfl (OpVal.moveI (.inl rfl) rfl) rfl rfl ?_
      refine TL.v rfl (OpVal.moveI (.inr rfl) rfl) rfl rfl ?_
      refine TL.nil ?_
      refine S.n ?_
      refine TC.block ?_
      refine TC.loopG (α := (Bool × Nat) × (Unit)) [9, 10, 24, 25, 26, 27, 28, 29, 30, 31, 32, 33, 34, 35, 36, 37] (fun g => [(9, .bool g.1.1), (10, .int .i64 ((g.1.2 : Nat) : Int))]) (fun g => [Res.cells b101 #[.slice a0_0 x0.cls.length c0_0, .slice a0_1 x0.next.length c0_1, .slice a0_2 x0.fin.length c0_2] 26, Res.rowS 4 1 encB (.slice a116 l115.length c117) l115]) (fun g => σ) (fun g => iter (fun q : Bool × Nat => whittleref23_After_b2 x1 x0 k118 l115 q.1 q.2) g.1 = some z1) (fun g => rounds (fun q : Bool × Nat => whittleref23_After_b2 x1 x0 k118 l115 q.1 q.2) g.1) ((false, k118), ()) (Sub.front 1 rfl rfl (Sub.front 1 rfl rfl (Sub.pre 2 rfl))) rfl (by repeat (first | exact trivial | refine ⟨rfl, ?_⟩)) hh (fun g2 j2 hg2 => ?_)
      obtain ⟨⟨t126, k127⟩, _⟩ := g2
      have hh := hg2; clear hg2
      show TC _ _ _ (upds (mask _ j2 _) [(9, .bool t126), (10, .int .i64 ((k127 : Nat) : Int))]) _ [Res.cells b101 #[.slice a0_0 x0.cls.length c0_0, .slice a0_1 x0.next.length c0_1, .slice a0_2 x0.fin.length c0_2] 26, Res.rowS 4 1 encB (.slice a116 l115.length c117) l115]
      obtain ⟨z2, hh, hR2⟩ := iter_e hh
      dsimp only [whittleref23_After_b2] at hh
      refine TC.isSl (i := 1) rfl (fun _ hb128 _ => ?_)
      refine TC.seq ?_
      refine TC.seq ?_
      refine TC.region ?_
      refine TL.v rfl (OpVal.moveI (.inl rfl) rfl) rfl rfl ?_
      refine TL.v rfl (OpVal.moveStr (.inl rfl) rfl) rfl rfl ?_
      refine TL.v rfl (OpVal.lenBs rfl Tryd.underlying9 rfl) rfl rfl ?_
      refine TL.v rfl (OpVal.leq rfl rfl rfl) rfl rfl ?_
      refine TL.nil ?_
      refine S.n ?_
      refine TC.cond rfl (fun h129 => ?_) (fun h129 => ?_)
      · replace hh := iteO_t h129 hh
        replace h129 := of_decide_eq_true h129
        refine TC.skip ?_
        refine S.n ?_
        refine TC.cutG (α := (Bool) × (Unit)) [9, 30, 31, 32, 33, 34, 35, 36, 37] (fun g => [(9, .bool g.1)]) (fun g => [Res.cells b101 #[.slice a0_0 x0.cls.length c0_0, .slice a0_1 x0.next.length c0_1, .slice a0_2 x0.fin.length c0_2] 26, Res.rowS 4 1 encB (.slice a116 l115.length c117) l115]) (fun g => σ) (fun g => whittleref23_After_j1 k127 g.1 = some z2) ?_ (fun g j hg => ?_)
        · skip
          refine TC.block ?_
          refine TC.region ?_
          refine TL.v rfl (OpVal.moveB (.inl rfl) rfl) rfl rfl ?_
          refine TL.v rfl (OpVal.moveB (.inl rfl) rfl) rfl rfl ?_
          refine TL.split 31 rfl (fun h131 => ?_) (fun h131 => ?_)
          · replace hh := iteO_t h131 hh
            refine TL.goff rfl rfl rfl rfl rfl rfl rfl rfl ?_
            refine TL.goff rfl rfl rfl rfl rfl rfl rfl rfl ?_
            refine TL.goff rfl rfl rfl rfl rfl rfl rfl rfl ?_
            refine TL.goff rfl rfl rfl rfl rfl rfl rfl rfl ?_
            refine TL.goff rfl rfl rfl rfl rfl rfl rfl rfl ?_
            refine TL.v rfl (OpVal.pickTB rfl rfl rfl) rfl rfl ?_
            refine TL.v rfl (OpVal.moveB (.inr rfl) rfl) rfl rfl ?_
            refine TL.nil ?_
            refine B.n ?_
            refine S.n ?_
            refine ⟨by repeat (first | exact Agr.refl _ _ | exact Agr.mask | refine Agr.upd rfl ?_ | refine Agr.maskIn rfl ?_ | refine Agr.upds rfl ?_), (true, ()), hh, by repeat (first | exact trivial | refine ⟨rfl, ?_⟩), Sub.front 1 rfl rfl (Sub.front 1 rfl rfl (Sub.pre 2 rfl)), rfl⟩
          · replace hh := iteO_f h131 hh
            refine TL.gv rfl rfl rfl rfl rfl (OpVal.loadAll rfl ag26 sz26 rfl (i := 0) rfl rfl) rfl rfl ?_
            refine TL.gv rfl rfl rfl rfl rfl (OpVal.moveStr (.inl rfl) rfl) rfl rfl ?_
            refine TL.gv rfl rfl rfl rfl rfl (OpVal.moveI (.inl rfl) rfl) rfl rfl ?_
            refine TL.gv rfl rfl rfl rfl rfl (OpVal.moveI (.inl rfl) rfl) rfl rfl ?_
            obtain ⟨v32, u32, hh⟩ := bnd_e hh
            refine TL.gon rfl rfl rfl rfl rfl (OpOk.callP (whittleref23_taken_con (x0 := x0) f0_0 f0_1 f0_2 u32) rfl rfl pf25 rfl rfl rfl ?_)
            refine TL.v rfl (OpVal.pickFB rfl rfl rfl) rfl rfl ?_
            refine TL.v rfl (OpVal.moveB (.inr rfl) rfl) rfl rfl ?_
            refine TL.nil ?_
            refine B.n ?_
            refine S.n ?_
            refine ⟨by repeat (first | exact Agr.refl _ _ | exact Agr.mask | refine Agr.upd rfl ?_ | refine Agr.maskIn rfl ?_ | refine Agr.upds rfl ?_), (v32, ()), hh, by repeat (first | exact trivial | refine ⟨rfl, ?_⟩), Sub.front 1 rfl rfl (Sub.front 1 rfl rfl (Sub.pre 2 rfl)), rfl⟩
        · skip
          obtain ⟨t130, _⟩ := g
          have hh := hg; clear hg
          show TC _ _ _ (upds (mask _ j _) [(9, .bool t130)]) _ [Res.cells b101 #[.slice a0_0 x0.cls.length c0_0, .slice a0_1 x0.next.length c0_1, .slice a0_2 x0.fin.length c0_2] 26, Res.rowS 4 1 encB (.slice a116 l115.length c117) l115]
          dsimp only [whittleref23_After_j1] at hh
          refine TC.isSl (i := 1) rfl (fun _ hb132 _ => ?_)
          refine TC.region ?_
          refine TL.v rfl (OpVal.moveI (.inl rfl) rfl) rfl rfl ?_
          refine TL.v rfl (OpVal.succ rfl rfl rfl (by omega)) rfl rfl ?_
          refine TL.v rfl (OpVal.moveI (.inr rfl) rfl) rfl rfl ?_
          refine TL.nil ?_
          refine S.n ?_
          obtain ⟨hh, hlt133⟩ := nxt_x hR2 hh
          refine ⟨by repeat (first | exact Agr.refl _ _ | exact Agr.mask | refine Agr.upd rfl ?_ | refine Agr.maskIn rfl ?_ | refine Agr.upds rfl ?_), ((t130, (k127 + 1)), ()), hlt133, hh, by repeat (first | exact trivial | refine ⟨rfl, ?_⟩), Sub.front 1 rfl rfl (Sub.front 1 rfl rfl (Sub.pre 2 rfl)), rfl⟩
      · replace hh := iteO_f h129 hh
        replace h129 := of_decide_eq_false h129
        refine TC.exit ?_
        refine S.x ?_
        refine S.x ?_
        replace hh := fin_x hR2 hh
        refine TC.exitHere ?_
        refine S.n ?_
        refine TC.region ?_
        refine TL.v rfl (OpVal.moveSl (.inl rfl) rfl) rfl rfl ?_
        refine TL.v rfl (OpVal.moveB (.inl rfl) rfl) rfl rfl ?_
        refine TL.op rfl (OpOk.lit (enc := encB) [t126] rfl Tryd.underlying24 sz4 ze4 rfl rfl rfl encB_len (by decide) (by decide) false rfl (by decide) rfl (by decide) encB_one (fun a134 c135 => ?_))
        refine TL.front 2 rfl rfl ?_
        have u41 := grd_c hh
        replace hh := grd_t hh
        refine TL.op rfl (OpOk.appendS rfl rfl Tryd.underlying24 sz4 by4 ze4 rfl rfl (by decide) rfl rfl rfl (.inr ⟨_, 0, rfl⟩) (by simpa using u41) (by decide) (fun a137 c138 => ?_))
        refine TL.v rfl (OpVal.moveSl (.inr rfl) rfl) rfl rfl ?_
        refine TL.nil ?_
        refine B.n ?_
        refine S.n ?_
        refine TC.region ?_
        refine TL.v rfl (OpVal.moveI (.inl rfl) rfl) rfl rfl ?_
        refine TL.v rfl (OpVal.succ rfl rfl rfl (by omega)) rfl rfl ?_
        refine TL.v rfl (OpVal.moveI (.inr rfl) rfl) rfl rfl ?_
        refine TL.nil ?_
        refine S.n ?_
        obtain ⟨hh, hlt139⟩ := nxt_x hR1 hh
        refine ⟨by repeat (first | exact Agr.refl _ _ | exact Agr.mask | refine Agr.upd rfl ?_ | refine Agr.maskIn rfl ?_ | refine Agr.upds rfl ?_), (((l115 ++ [t126]), (k118 + 1)), (a137, c138)), hlt139, hh, by repeat (first | exact trivial | refine ⟨rfl, ?_⟩), Sub.front 2 rfl rfl (Sub.pre 2 rfl), rfl⟩
    · replace hh := iteO_f h121 hh
      replace h121 := of_decide_eq_false h121
      refine TC.exit ?_
      refine S.x ?_
      refine S.x ?_
      replace hh := fin_x hR1 hh
      refine TC.exitHere ?_
      refine S.n ?_
      refine TC.seq ?_
      refine TC.region ?_
      refine TL.v rfl (OpVal.moveSl (.inl rfl) rfl) rfl rfl ?_
      refine TL.v rfl (OpVal.moveSl (.inr rfl) rfl) rfl rfl ?_
      refine TL.v rfl (OpVal.moveI (.inr rfl) rfl) rfl rfl ?_
      refine TL.nil ?_
      refine S.n ?_
      refine TC.front 1 rfl rfl ?_
      refine TC.sealS encB_len (fun τ142 hle141 hr140 => ?_)
      replace f0_0 := f0_0.mono hle141
      replace f0_1 := f0_1.mono hle141
      replace f0_2 := f0_2.mono hle141
      have hr140b := hr140.rv.big
      refine TC.ofSub (Sub.pre 0 rfl) ?_
      refine TC.ret ?_
      obtain rfl := Option.some.inj hh
      exact RetOk.mk' (rs := [.tmp 4, .tmp 5]) [] rfl (.inl rfl) (RVs.tmp rfl (RVs.tmp rfl RVs.nil)) (List.sublist_append_left _ _) ⟨a116, c117, rfl, hr140, rfl⟩

noncomputable def whittleref23_Factors_j2 (k137 : Nat) (k141 : Nat) : Option ((Nat × Nat) ⊕ (((List Span) × Nat) ⊕ ((List Span) × Int))) :=
  nxt (k141, (k137 + 1))
noncomputable def whittleref23_Factors_j1 (k127 : Nat) (l124 : List Span) (k131 : Nat) : Option (((List Span) × Nat) ⊕ ((List Span) × Int)) :=
  iteO (decide (((k131 : Nat) : Int) = ((k127 : Nat) : Int))) (nxt (l124, (k127 + 1))) (grd ((l124.length + [(⟨((k127 : Nat) : Int), ((k131 : Nat) : Int)⟩ : Span)].length) * 16 ≤ 140737488355328) (nxt ((l124 ++ [(⟨((k127 : Nat) : Int), ((k131 : Nat) : Int)⟩ : Span)]), k131)))
noncomputable def whittleref23_Factors_b2 (x3 : List UInt8) (k127 : Nat) (v23 : (List Bool) × Int) (v36 : (List Bool) × Int) (x0 : Dfa) (l124 : List Span) (k136 : Nat) (k137 : Nat) : Option ((Nat × Nat) ⊕ (((List Span) × Nat) ⊕ ((List Span) × Int))) :=
  iteO (decide (((k137 : Nat) : Int) ≤ ((x3.length : Nat) : Int))) (grd (k127 < v23.1.length) (iteO (nth v23.1 k127 false) (grd (k137 < v36.1.length) (iteO (nth v36.1 k137 false) (bnd (whittleref23_taken x0 x3 ((k127 : Nat) : Int) ((k137 : Nat) : Int)) (fun v72 => iteO v72 (whittleref23_Factors_j2 k137 k137) (whittleref23_Factors_j2 k137 k136))) (whittleref23_Factors_j2 k137 k136))) (fin (whittleref23_Factors_j1 k127 l124 k136)))) (fin (whittleref23_Factors_j1 k127 l124 k136))
noncomputable def whittleref23_Factors_b1 (x3 : List UInt8) (v23 : (List Bool) × Int) (v36 : (List Bool) × Int) (x0 : Dfa) (l124 : List Span) (k127 : Nat) : Option (((List Span) × Nat) ⊕ ((List Span) × Int)) :=
  iteO (decide (((k127 : Nat) : Int) < ((x3.length : Nat) : Int))) (iter (fun q : Nat × Nat => whittleref23_Factors_b2 x3 k127 v23 v36 x0 l124 q.1 q.2) (k127, (k127 + 1))) (fin (some (l124, 0)))
noncomputable def whittleref23_Factors (x0 : Dfa) (x1 : Dfa) (x2 : Dfa) (x3 : List UInt8) : Option ((List Span) × Int) :=
  grd (x3.length ≤ 281474976710656) (bnd (whittleref11_Right x0) (fun v7 => iteO (!v7) (some (([] : List Span), 1)) (bnd (whittleref11_Right x1) (fun v11 => iteO (!v11) (some (([] : List Span), 1)) (bnd (whittleref11_Right x2) (fun v16 => iteO (!v16) (some (([] : List Span), 1)) (bnd (whittleref23_Before x1 x3) (fun v23 => iteO (decide (v23.2 ≠ 0)) (some (([] : List Span), v23.2)) (bnd (whittleref23_After x2 x3) (fun v36 => iter (fun q : (List Span) × Nat => whittleref23_Factors_b1 x3 v23 v36 x0 q.1 q.2) (([] : List Span), 0)))))))))))
def whittleref23_Factors_P (σ : Store) (r : (List Span) × Int) : Value → Store → List Res → Prop := fun v σ' H' =>
  ∃ (a1 : Option Addr), ∃ (c1 : Nat),  v = .tuple #[.slice a1 r.1.length c1, .int .i64 r.2] ∧ RS σ' 2 encSpan (.slice a1 r.1.length c1) r.1 ∧ H' = []
theorem whittleref23_Factors_con {σ : Store} {x0 : Dfa} {a0_0 : Option Addr} {c0_0 : Nat} {a0_1 : Option Addr} {c0_1 : Nat} {a0_2 : Option Addr} {c0_2 : Nat} {x1 : Dfa} {a1_0 : Option Addr} {c1_0 : Nat} {a1_1 : Option Addr} {c1_1 : Nat} {a1_2 : Option Addr} {c1_2 : Nat} {x2 : Dfa} {a2_0 : Option Addr} {c2_0 : Nat} {a2_1 : Option Addr} {c2_1 : Nat} {a2_2 : Option Addr} {c2_2 : Nat} {x3 : List UInt8} (f0_0 : RS σ 1 Go.E.encI (.slice a0_0 x0.cls.length c0_0) x0.cls) (f0_1 : RZ σ (pkSl 1 Go.E.encI Go.E.encI_len) (.slice a0_1 x0.next.length c0_1) x0.next) (f0_2 : RS σ 1 encB (.slice a0_2 x0.fin.length c0_2) x0.fin) (f1_0 : RS σ 1 Go.E.encI (.slice a1_0 x1.cls.length c1_0) x1.cls) (f1_1 : RZ σ (pkSl 1 Go.E.encI Go.E.encI_len) (.slice a1_1 x1.next.length c1_1) x1.next) (f1_2 : RS σ 1 encB (.slice a1_2 x1.fin.length c1_2) x1.fin) (f2_0 : RS σ 1 Go.E.encI (.slice a2_0 x2.cls.length c2_0) x2.cls) (f2_1 : RZ σ (pkSl 1 Go.E.encI Go.E.encI_len) (.slice a2_1 x2.next.length c2_1) x2.next) (f2_2 : RS σ 1 encB (.slice a2_2 x2.fin.length c2_2) x2.fin) {r : (List Span) × Int} (hh : whittleref23_Factors x0 x1 x2 x3 = some r) :
    Con Tryd.prog 9 #[.agg #[.slice a0_0 x0.cls.length c0_0, .slice a0_1 x0.next.length c0_1, .slice a0_2 x0.fin.length c0_2], .agg #[.slice a1_0 x1.cls.length c1_0, .slice a1_1 x1.next.length c1_1, .slice a1_2 x1.fin.length c1_2], .agg #[.slice a2_0 x2.cls.length c2_0, .slice a2_1 x2.next.length c2_1, .slice a2_2 x2.fin.length c2_2], .string (bs x3)] σ [] (whittleref23_Factors_P σ r) := by
  dsimp only [whittleref23_Factors] at hh
  have f0_0b := f0_0.rv.big
  have f0_1b := f0_1.big
  have f0_2b := f0_2.rv.big
  have f1_0b := f1_0.rv.big
  have f1_1b := f1_1.big
  have f1_2b := f1_2.rv.big
  have f2_0b := f2_0.rv.big
  have f2_1b := f2_1.big
  have f2_2b := f2_2.rv.big
  refine Con.mk (n := 90) Tryd.func9 rfl rfl rfl (fun w0 => ?_)
  have x3b := grd_c hh
  replace hh := grd_t hh
  refine TC.seq ?_
  refine TC.region ?_
  refine TL.op rfl (OpOk.boxA rfl rfl rfl rfl (fun b101 => ?_))
  refine TL.op rfl (OpOk.boxA rfl rfl rfl rfl (fun b103 => ?_))
  refine TL.op rfl (OpOk.boxA rfl rfl rfl rfl (fun b105 => ?_))
  refine TL.v rfl (OpVal.moveSl (.inr rfl) rfl) rfl rfl ?_
  refine TL.v rfl (OpVal.moveI (.inr rfl) rfl) rfl rfl ?_
  refine TL.nil ?_
  refine S.n ?_
  refine TC.seq ?_
  refine TC.seq ?_
  refine TC.region ?_
  refine TL.v rfl (OpVal.loadAll rfl ag26 sz26 rfl (i := 2) rfl rfl) rfl rfl ?_
  obtain ⟨v7, u7, hh⟩ := bnd_e hh
  refine TL.op rfl (OpOk.callP (whittleref11_Right_con (x0 := x0) f0_0 f0_1 f0_2 u7) rfl rfl pf24 rfl rfl rfl ?_)
  refine TL.v rfl (OpVal.not rfl rfl) rfl rfl ?_
  refine TL.v rfl (OpVal.moveB (.inl rfl) rfl) rfl rfl ?_
  refine TL.split 21 rfl (fun h107 => ?_) (fun h107 => ?_)
  · replace hh := iteO_t h107 hh
    refine TL.goff rfl rfl rfl rfl rfl rfl rfl rfl ?_
    refine TL.goff rfl rfl rfl rfl rfl rfl rfl rfl ?_
    refine TL.goff rfl rfl rfl rfl rfl rfl rfl rfl ?_
    refine TL.v rfl (OpVal.pickTB rfl rfl rfl) rfl rfl ?_
    refine TL.v rfl (OpVal.moveB (.inl rfl) rfl) rfl rfl ?_
    refine TL.goff rfl rfl rfl rfl rfl rfl rfl rfl ?_
    refine TL.goff rfl rfl rfl rfl rfl rfl rfl rfl ?_
    refine TL.goff rfl rfl rfl rfl rfl rfl rfl rfl ?_
    refine TL.v rfl (OpVal.pickTB rfl rfl rfl) rfl rfl ?_
    refine TL.nil ?_
    refine S.n ?_
    refine TC.cond rfl (fun _ => ?_) (fun h => Bool.noConfusion h)
    refine TC.seq ?_
    refine TC.region ?_
    refine TL.v rfl (OpVal.moveSl (.inr rfl) rfl) rfl rfl ?_
    refine TL.v rfl (OpVal.moveI (.inr rfl) rfl) rfl rfl ?_
    refine TL.nil ?_
    refine S.n ?_
    refine TC.ofSub (Sub.pre 0 rfl) ?_
    refine TC.ret ?_
    refine S.r ?_
    obtain rfl := Option.some.inj hh
    exact RetOk.mk' (rs := [.tmp 8, .tmp 9]) [] rfl (.inl rfl) (RVs.tmp rfl (RVs.tmp rfl RVs.nil)) (List.sublist_append_left _ _) ⟨none, 0, rfl, (RS.nilF _ encSpan encSpan_len), rfl⟩
  · replace hh := iteO_f h107 hh
    refine TL.gv rfl rfl rfl rfl rfl (OpVal.loadAll rfl ag26 sz26 rfl (i := 1) rfl rfl) rfl rfl ?_
    obtain ⟨v11, u11, hh⟩ := bnd_e hh
    refine TL.gon rfl rfl rfl rfl rfl (OpOk.callP (whittleref11_Right_con (x0 := x1) f1_0 f1_1 f1_2 u11) rfl rfl pf24 rfl rfl rfl ?_)
    refine TL.gv rfl rfl rfl rfl rfl (OpVal.not rfl rfl) rfl rfl ?_
    refine TL.v rfl (OpVal.pickFB rfl rfl rfl) rfl rfl ?_
    refine TL.v rfl (OpVal.moveB (.inl rfl) rfl) rfl rfl ?_
    refine TL.split 26 rfl (fun h108 => ?_) (fun h108 => ?_)
    · replace hh := iteO_t h108 hh
      refine TL.goff rfl rfl rfl rfl rfl rfl rfl rfl ?_
      refine TL.goff rfl rfl rfl rfl rfl rfl rfl rfl ?_
      refine TL.goff rfl rfl rfl rfl rfl rfl rfl rfl ?_
      refine TL.v rfl (OpVal.pickTB rfl rfl rfl) rfl rfl ?_
      refine TL.nil ?_
      refine S.n ?_
      refine TC.cond rfl (fun _ => ?_) (fun h => Bool.noConfusion h)
      refine TC.seq ?_
      refine TC.region ?_
      refine TL.v rfl (OpVal.moveSl (.inr rfl) rfl) rfl rfl ?_
      refine TL.v rfl (OpVal.moveI (.inr rfl) rfl) rfl rfl ?_
      refine TL.nil ?_
      refine S.n ?_
      refine TC.ofSub (Sub.pre 0 rfl) ?_
      refine TC.ret ?_
      refine S.r ?_
      obtain rfl := Option.some.inj hh
      exact RetOk.mk' (rs := [.tmp 8, .tmp 9]) [] rfl (.inl rfl) (RVs.tmp rfl (RVs.tmp rfl RVs.nil)) (List.sublist_append_left _ _) ⟨none, 0, rfl, (RS.nilF _ encSpan encSpan_len), rfl⟩
    · replace hh := iteO_f h108 hh
      refine TL.gv rfl rfl rfl rfl rfl (OpVal.loadAll rfl ag26 sz26 rfl (i := 0) rfl rfl) rfl rfl ?_
      obtain ⟨v16, u16, hh⟩ := bnd_e hh
      refine TL.gon rfl rfl rfl rfl rfl (OpOk.callP (whittleref11_Right_con (x0 := x2) f2_0 f2_1 f2_2 u16) rfl rfl pf24 rfl rfl rfl ?_)
      refine TL.gv rfl rfl rfl rfl rfl (OpVal.not rfl rfl) rfl rfl ?_
      refine TL.v rfl (OpVal.pickFB rfl rfl rfl) rfl rfl ?_
      refine TL.nil ?_
      refine S.n ?_
      refine TC.cond rfl (fun h109 => ?_) (fun h109 => ?_)
      · replace hh := iteO_t h109 hh
        refine TC.seq ?_
        refine TC.region ?_
        refine TL.v rfl (OpVal.moveSl (.inr rfl) rfl) rfl rfl ?_
        refine TL.v rfl (OpVal.moveI (.inr rfl) rfl) rfl rfl ?_
        refine TL.nil ?_
        refine S.n ?_
        refine TC.ofSub (Sub.pre 0 rfl) ?_
        refine TC.ret ?_
        refine S.r ?_
        obtain rfl := Option.some.inj hh
        exact RetOk.mk' (rs := [.tmp 8, .tmp 9]) [] rfl (.inl rfl) (RVs.tmp rfl (RVs.tmp rfl RVs.nil)) (List.sublist_append_left _ _) ⟨none, 0, rfl, (RS.nilF _ encSpan encSpan_len), rfl⟩
      · replace hh := iteO_f h109 hh
        refine TC.skip ?_
        refine S.n ?_
        refine TC.seq ?_
        refine TC.region ?_
        refine TL.v rfl (OpVal.loadAll rfl ag26 sz26 rfl (i := 1) rfl rfl) rfl rfl ?_
        refine TL.v rfl (OpVal.moveStr (.inl rfl) rfl) rfl rfl ?_
        obtain ⟨v23, u23, hh⟩ := bnd_e hh
        refine TL.op rfl (OpOk.call (whittleref23_Before_con (x0 := x1) f1_0 f1_1 f1_2 u23) rfl rfl pf15 rfl rfl rfl rfl ?_)
        rintro _ τ110 _ hle110 ⟨a110_1, c110_1, rfl, hr110_0, rfl⟩
        replace f0_0 := f0_0.mono hle110
        replace f0_1 := f0_1.mono hle110
        replace f0_2 := f0_2.mono hle110
        replace f1_0 := f1_0.mono hle110
        replace f1_1 := f1_1.mono hle110
        replace f1_2 := f1_2.mono hle110
        replace f2_0 := f2_0.mono hle110
        replace f2_1 := f2_1.mono hle110
        replace f2_2 := f2_2.mono hle110
        have hr110_0b := hr110_0.rv.big
        refine TL.v rfl (OpVal.moveT (.inl rfl) rfl) rfl rfl ?_
        refine TL.v rfl (OpVal.extract rfl rfl rfl) rfl rfl ?_
        refine TL.v rfl (OpVal.extract rfl rfl rfl) rfl rfl ?_
        refine TL.v rfl (OpVal.moveSl (.inr rfl) rfl) rfl rfl ?_
        refine TL.v rfl (OpVal.moveI (.inr rfl) rfl) rfl rfl ?_
        refine TL.nil ?_
        refine S.n ?_
        refine TC.seq ?_
        refine TC.seq ?_
        refine TC.region ?_
        refine TL.v rfl (OpVal.moveI (.inl rfl) rfl) rfl rfl ?_
        refine TL.v rfl (OpVal.neq rfl rfl rfl) rfl rfl ?_
        refine TL.nil ?_
        refine S.n ?_
        refine TC.cond rfl (fun h111 => ?_) (fun h111 => ?_)
        · replace hh := iteO_t h111 hh
          replace h111 := of_decide_eq_true h111
          refine TC.seq ?_
          refine TC.region ?_
          refine TL.v rfl (OpVal.moveI (.inl rfl) rfl) rfl rfl ?_
          refine TL.v rfl (OpVal.moveSl (.inr rfl) rfl) rfl rfl ?_
          refine TL.v rfl (OpVal.moveI (.inr rfl) rfl) rfl rfl ?_
          refine TL.nil ?_
          refine S.n ?_
          refine TC.ofSub (Sub.pre 0 rfl) ?_
          refine TC.ret ?_
          refine S.r ?_
          obtain rfl := Option.some.inj hh
          exact RetOk.mk' (rs := [.tmp 8, .tmp 9]) [] rfl (.inl rfl) (RVs.tmp rfl (RVs.tmp rfl RVs.nil)) (List.sublist_append_left _ _) ⟨none, 0, rfl, (RS.nilF _ encSpan encSpan_len), rfl⟩
        · replace hh := iteO_f h111 hh
          replace h111 := of_decide_eq_false h111
          refine TC.skip ?_
          refine S.n ?_
          refine TC.seq ?_
          refine TC.region ?_
          refine TL.v rfl (OpVal.loadAll rfl ag26 sz26 rfl (i := 0) rfl rfl) rfl rfl ?_
          refine TL.v rfl (OpVal.moveStr (.inl rfl) rfl) rfl rfl ?_
          obtain ⟨v36, u36, hh⟩ := bnd_e hh
          refine TL.op rfl (OpOk.call (whittleref23_After_con (x0 := x2) f2_0 f2_1 f2_2 u36) rfl rfl pf17 rfl rfl rfl rfl ?_)
          rintro _ τ112 _ hle112 ⟨a112_1, c112_1, rfl, hr112_0, rfl⟩
          replace f0_0 := f0_0.mono hle112
          replace f0_1 := f0_1.mono hle112
          replace f0_2 := f0_2.mono hle112
          replace f1_0 := f1_0.mono hle112
          replace f1_1 := f1_1.mono hle112
          replace f1_2 := f1_2.mono hle112
          replace f2_0 := f2_0.mono hle112
          replace f2_1 := f2_1.mono hle112
          replace f2_2 := f2_2.mono hle112
          replace hr110_0 := hr110_0.mono hle112
          have hr112_0b := hr112_0.rv.big
          refine TL.v rfl (OpVal.moveT (.inl rfl) rfl) rfl rfl ?_
          refine TL.v rfl (OpVal.extract rfl rfl rfl) rfl rfl ?_
          refine TL.v rfl (OpVal.extract rfl rfl rfl) rfl rfl ?_
          refine TL.v rfl (OpVal.moveSl (.inr rfl) rfl) rfl rfl ?_
          refine TL.v rfl (OpVal.moveI (.inr rfl) rfl) rfl rfl ?_
          refine TL.nil ?_
          refine S.n ?_
          refine TC.seq ?_
          refine TC.region ?_
          refine TL.v rfl (OpVal.moveSl (.inr rfl) rfl) rfl rfl ?_
          refine TL.nil ?_
          refine S.n ?_
          refine TC.seq ?_
          refine TC.region ?_
          refine TL.v rfl (OpVal.moveI (.inr rfl) rfl) rfl rfl ?_
          refine TL.nil ?_
          refine S.n ?_
          refine TC.seq ?_
          refine TC.block ?_
          refine TC.nilS 43 2 encSpan ?_
          refine TC.loopG (α := ((List Span) × Nat) × ((Option Addr) × Nat)) [14, 15, 16, 17, 46, 47, 48, 49, 50, 51, 52, 53, 54, 55, 56, 57, 58, 59, 60, 61, 62, 63, 64, 65, 66, 67, 68, 69, 70, 71, 72, 73, 74, 75, 76, 77, 78, 79, 80, 81, 82, 83, 84, 85, 86, 87, 88] (fun g => [(14, .slice g.2.1 g.1.1.length g.2.2), (15, .int .i64 ((g.1.2 : Nat) : Int))]) (fun g => [Res.cells b101 #[.slice a0_0 x0.cls.length c0_0, .slice a0_1 x0.next.length c0_1, .slice a0_2 x0.fin.length c0_2] 26, Res.rowS 43 2 encSpan (.slice g.2.1 g.1.1.length g.2.2) g.1.1]) (fun g => τ112) (fun g => iter (fun q : (List Span) × Nat => whittleref23_Factors_b1 x3 v23 v36 x0 q.1 q.2) g.1 = some r) (fun g => rounds (fun q : (List Span) × Nat => whittleref23_Factors_b1 x3 v23 v36 x0 q.1 q.2) g.1) ((([] : List Span), 0), (none, 0)) (Sub.front 3 rfl rfl (Sub.pre 2 rfl)) rfl (by repeat (first | exact trivial | refine ⟨rfl, ?_⟩)) hh (fun g1 j1 hg1 => ?_)
          obtain ⟨⟨l124, k127⟩, ⟨a125, c126⟩⟩ := g1
          have hh := hg1; clear hg1
          show TC _ _ _ (upds (mask _ j1 _) [(14, .slice a125 l124.length c126), (15, .int .i64 ((k127 : Nat) : Int))]) _ [Res.cells b101 #[.slice a0_0 x0.cls.length c0_0, .slice a0_1 x0.next.length c0_1, .slice a0_2 x0.fin.length c0_2] 26, Res.rowS 43 2 encSpan (.slice a125 l124.length c126) l124]
          obtain ⟨z1, hh, hR1⟩ := iter_e hh
          dsimp only [whittleref23_Factors_b1] at hh
          refine TC.isSl (i := 1) rfl (fun _ hb129 _ => ?_)
          refine TC.seq ?_
          refine TC.seq ?_
          refine TC.region ?_
          refine TL.v rfl (OpVal.moveI (.inl rfl) rfl) rfl rfl ?_
          refine TL.v rfl (OpVal.moveStr (.inl rfl) rfl) rfl rfl ?_
          refine TL.v rfl (OpVal.lenBs rfl Tryd.underlying9 rfl) rfl rfl ?_
          refine TL.v rfl (OpVal.lss rfl rfl rfl) rfl rfl ?_
          refine TL.nil ?_
          refine S.n ?_
          refine TC.cond rfl (fun h130 => ?_) (fun h130 => ?_)
          · replace hh := iteO_t h130 hh
            replace h130 := of_decide_eq_true h130
            refine TC.skip ?_
            refine S.n ?_
            refine TC.block ?_
            refine TC.seq ?_
            refine TC.region ?_
            refine TL.v rfl (OpVal.moveI (.inl rfl) rfl) rfl rfl ?_
            refine TL.v rfl (OpVal.moveI (.inr rfl) rfl) rfl rfl ?_
            refine TL.nil ?_
            refine S.n ?_
            refine TC.cutG (α := (Nat) × (Unit)) [16, 17, 51, 52, 53, 54, 55, 56, 57, 58, 59, 60, 61, 62, 63, 64, 65, 66, 67, 68, 69, 70, 71, 72, 73, 74, 75, 76] (fun g => [(16, .int .i64 ((g.1 : Nat) : Int))]) (fun g => [Res.cells b101 #[.slice a0_0 x0.cls.length c0_0, .slice a0_1 x0.next.length c0_1, .slice a0_2 x0.fin.length c0_2] 26, Res.rowS 43 2 encSpan (.slice a125 l124.length c126) l124]) (fun g => τ112) (fun g => whittleref23_Factors_j1 k127 l124 g.1 = some z1) ?_ (fun g j hg => ?_)
            · skip
              refine TC.seq ?_
              refine TC.region ?_
              refine TL.v rfl (OpVal.moveI (.inl rfl) rfl) rfl rfl ?_
              refine TL.v rfl (OpVal.succ rfl rfl rfl (by omega)) rfl rfl ?_
              refine TL.v rfl (OpVal.moveI (.inr rfl) rfl) rfl rfl ?_
              refine TL.nil ?_
              refine S.n ?_
              refine TC.block ?_
              refine TC.loopG (α := (Nat × Nat) × (Unit)) [16, 17, 53, 54, 55, 56, 57, 58, 59, 60, 61, 62, 63, 64, 65, 66, 67, 68, 69, 70, 71, 72, 73, 74, 75, 76] (fun g => [(16, .int .i64 ((g.1.1 : Nat) : Int)), (17, .int .i64 ((g.1.2 : Nat) : Int))]) (fun g => [Res.cells b101 #[.slice a0_0 x0.cls.length c0_0, .slice a0_1 x0.next.length c0_1, .slice a0_2 x0.fin.length c0_2] 26, Res.rowS 43 2 encSpan (.slice a125 l124.length c126) l124]) (fun g => τ112) (fun g => iter (fun q : Nat × Nat => whittleref23_Factors_b2 x3 k127 v23 v36 x0 l124 q.1 q.2) g.1 = some z1) (fun g => rounds (fun q : Nat × Nat => whittleref23_Factors_b2 x3 k127 v23 v36 x0 l124 q.1 q.2) g.1) ((k127, (k127 + 1)), ()) (Sub.front 1 rfl rfl (Sub.front 1 rfl rfl (Sub.pre 2 rfl))) rfl (by repeat (first | exact trivial | refine ⟨rfl, ?_⟩)) hh (fun g2 j2 hg2 => ?_)
              obtain ⟨⟨k136, k137⟩, _⟩ := g2
              have hh := hg2; clear hg2
              show TC _ _ _ (upds (mask _ j2 _) [(16, .int .i64 ((k136 : Nat) : Int)), (17, .int .i64 ((k137 : Nat) : Int))]) _ [Res.cells b101 #[.slice a0_0 x0.cls.length c0_0, .slice a0_1 x0.next.length c0_1, .slice a0_2 x0.fin.length c0_2] 26, Res.rowS 43 2 encSpan (.slice a125 l124.length c126) l124]
              obtain ⟨z2, hh, hR2⟩ := iter_e hh
              dsimp only [whittleref23_Factors_b2] at hh
              refine TC.isSl (i := 1) rfl (fun _ hb138 _ => ?_)
              refine TC.seq ?_
              refine TC.seq ?_
              refine TC.region ?_
              refine TL.v rfl (OpVal.moveI (.inl rfl) rfl) rfl rfl ?_
              refine TL.v rfl (OpVal.moveStr (.inl rfl) rfl) rfl rfl ?_
              refine TL.v rfl (OpVal.lenBs rfl Tryd.underlying9 rfl) rfl rfl ?_
              refine TL.v rfl (OpVal.leq rfl rfl rfl) rfl rfl ?_
              refine TL.v rfl (OpVal.moveB (.inl rfl) rfl) rfl rfl ?_
              refine TL.split 57 rfl (fun h139 => ?_) (fun h139 => ?_)
              · replace hh := iteO_t h139 hh
                replace h139 := of_decide_eq_true h139
                refine TL.gv rfl rfl rfl rfl rfl (OpVal.moveSl (.inl rfl) rfl) rfl rfl ?_
                refine TL.gv rfl rfl rfl rfl rfl (OpVal.moveI (.inl rfl) rfl) rfl rfl ?_
                have u60 := grd_c hh
                replace hh := grd_t hh
                refine TL.gv rfl rfl rfl rfl rfl (OpVal.indexN rfl Tryd.underlying24 sz4 rfl rfl hr110_0.rv.sl (by omega)) rfl rfl ?_
                refine TL.gv rfl rfl rfl rfl rfl (OpVal.loadS1 false rfl ag4 rfl hr110_0 (by omega) rfl) rfl rfl ?_
                refine TL.v rfl (OpVal.pickTB rfl rfl rfl) rfl rfl ?_
                refine TL.nil ?_
                refine S.n ?_
                refine TC.cond rfl (fun h140 => ?_) (fun h140 => ?_)
                · replace hh := iteO_t h140 hh
                  refine TC.skip ?_
                  refine S.n ?_
                  refine TC.cutG (α := (Nat) × (Unit)) [16, 65, 66, 67, 68, 69, 70, 71, 72, 73, 74, 75, 76] (fun g => [(16, .int .i64 ((g.1 : Nat) : Int))]) (fun g => [Res.cells b101 #[.slice a0_0 x0.cls.length c0_0, .slice a0_1 x0.next.length c0_1, .slice a0_2 x0.fin.length c0_2] 26, Res.rowS 43 2 encSpan (.slice a125 l124.length c126) l124]) (fun g => τ112) (fun g => whittleref23_Factors_j2 k137 g.1 = some z2) ?_ (fun g j hg => ?_)
                  · skip
                    refine TC.block ?_
                    refine TC.seq ?_
                    refine TC.region ?_
                    refine TL.v rfl (OpVal.moveSl (.inl rfl) rfl) rfl rfl ?_
                    refine TL.v rfl (OpVal.moveI (.inl rfl) rfl) rfl rfl ?_
                    have u65 := grd_c hh
                    replace hh := grd_t hh
                    refine TL.v rfl (OpVal.indexN rfl Tryd.underlying24 sz4 rfl rfl hr112_0.rv.sl (by omega)) rfl rfl ?_
                    refine TL.v rfl (OpVal.loadS1 false rfl ag4 rfl hr112_0 (by omega) rfl) rfl rfl ?_
                    refine TL.v rfl (OpVal.moveB (.inl rfl) rfl) rfl rfl ?_
                    refine TL.split 69 rfl (fun h142 => ?_) (fun h142 => ?_)
                    · replace hh := iteO_t h142 hh
                      refine TL.gv rfl rfl rfl rfl rfl (OpVal.loadAll rfl ag26 sz26 rfl (i := 0) rfl rfl) rfl rfl ?_
                      refine TL.gv rfl rfl rfl rfl rfl (OpVal.moveStr (.inl rfl) rfl) rfl rfl ?_
                      refine TL.gv rfl rfl rfl rfl rfl (OpVal.moveI (.inl rfl) rfl) rfl rfl ?_
                      refine TL.gv rfl rfl rfl rfl rfl (OpVal.moveI (.inl rfl) rfl) rfl rfl ?_
                      obtain ⟨v72, u72, hh⟩ := bnd_e hh
                      refine TL.gon rfl rfl rfl rfl rfl (OpOk.callP (whittleref23_taken_con (x0 := x0) f0_0 f0_1 f0_2 u72) rfl rfl pf25 rfl rfl rfl ?_)
                      refine TL.v rfl (OpVal.pickTB rfl rfl rfl) rfl rfl ?_
                      refine TL.nil ?_
                      refine S.n ?_
                      refine TC.cond rfl (fun h143 => ?_) (fun h143 => ?_)
                      · replace hh := iteO_t h143 hh
                        refine TC.region ?_
                        refine TL.v rfl (OpVal.moveI (.inl rfl) rfl) rfl rfl ?_
                        refine TL.v rfl (OpVal.moveI (.inr rfl) rfl) rfl rfl ?_
                        refine TL.nil ?_
                        refine B.n ?_
                        refine S.n ?_
                        refine ⟨by repeat (first | exact Agr.refl _ _ | exact Agr.mask | refine Agr.upd rfl ?_ | refine Agr.maskIn rfl ?_ | refine Agr.upds rfl ?_), (k137, ()), hh, by repeat (first | exact trivial | refine ⟨rfl, ?_⟩), Sub.front 1 rfl rfl (Sub.front 1 rfl rfl (Sub.pre 2 rfl)), rfl⟩
                      · replace hh := iteO_f h143 hh
                        refine TC.skip ?_
                        refine B.n ?_
                        refine S.n ?_
                        refine ⟨by repeat (first | exact Agr.refl _ _ | exact Agr.mask | refine Agr.upd rfl ?_ | refine Agr.maskIn rfl ?_ | refine Agr.upds rfl ?_), (k136, ()), hh, by repeat (first | exact trivial | refine ⟨rfl, ?_⟩), Sub.front 1 rfl rfl (Sub.front 1 rfl rfl (Sub.pre 2 rfl)), rfl⟩
                    · replace hh := iteO_f h142 hh
                      refine TL.goff rfl rfl rfl rfl rfl rfl rfl rfl ?_
                      refine TL.goff rfl rfl rfl rfl rfl rfl rfl rfl ?_
                      refine TL.goff rfl rfl rfl rfl rfl rfl rfl rfl ?_
                      refine TL.goff rfl rfl rfl rfl rfl rfl rfl rfl ?_
                      refine TL.goff rfl rfl rfl rfl rfl rfl rfl rfl ?_
                      refine TL.v rfl (OpVal.pickFB rfl rfl rfl) rfl rfl ?_
                      refine TL.nil ?_
                      refine S.n ?_
                      refine TC.cond rfl (fun h => Bool.noConfusion h) (fun _ => ?_)
                      refine TC.skip ?_
                      refine B.n ?_
                      refine S.n ?_
                      refine ⟨by repeat (first | exact Agr.refl _ _ | exact Agr.mask | refine Agr.upd rfl ?_ | refine Agr.maskIn rfl ?_ | refine Agr.upds rfl ?_), (k136, ()), hh, by repeat (first | exact trivial | refine ⟨rfl, ?_⟩), Sub.front 1 rfl rfl (Sub.front 1 rfl rfl (Sub.pre 2 rfl)), rfl⟩
                  · skip
                    obtain ⟨k141, _⟩ := g
                    have hh := hg; clear hg
                    show TC _ _ _ (upds (mask _ j _) [(16, .int .i64 ((k141 : Nat) : Int))]) _ [Res.cells b101 #[.slice a0_0 x0.cls.length c0_0, .slice a0_1 x0.next.length c0_1, .slice a0_2 x0.fin.length c0_2] 26, Res.rowS 43 2 encSpan (.slice a125 l124.length c126) l124]
                    dsimp only [whittleref23_Factors_j2] at hh
                    refine TC.isSl (i := 1) rfl (fun _ hb144 _ => ?_)
                    refine TC.region ?_
                    refine TL.v rfl (OpVal.moveI (.inl rfl) rfl) rfl rfl ?_
                    refine TL.v rfl (OpVal.succ rfl rfl rfl (by omega)) rfl rfl ?_
                    refine TL.v rfl (OpVal.moveI (.inr rfl) rfl) rfl rfl ?_
                    refine TL.nil ?_
                    refine S.n ?_
                    obtain ⟨hh, hlt145⟩ := nxt_x hR2 hh
                    refine ⟨by repeat (first | exact Agr.refl _ _ | exact Agr.mask | refine Agr.upd rfl ?_ | refine Agr.maskIn rfl ?_ | refine Agr.upds rfl ?_), ((k141, (k137 + 1)), ()), hlt145, hh, by repeat (first | exact trivial | refine ⟨rfl, ?_⟩), Sub.front 1 rfl rfl (Sub.front 1 rfl rfl (Sub.pre 2 rfl)), rfl⟩
                · replace hh := iteO_f h140 hh
                  refine TC.exit ?_
                  refine S.x ?_
                  refine S.x ?_
                  replace hh := fin_x hR2 hh
                  refine TC.exitHere ?_
                  refine S.n ?_
                  refine ⟨by repeat (first | exact Agr.refl _ _ | exact Agr.mask | refine Agr.upd rfl ?_ | refine Agr.maskIn rfl ?_ | refine Agr.upds rfl ?_), (k136, ()), hh, by repeat (first | exact trivial | refine ⟨rfl, ?_⟩), Sub.front 1 rfl rfl (Sub.front 1 rfl rfl (Sub.pre 2 rfl)), rfl⟩
              · replace hh := iteO_f h139 hh
                replace h139 := of_decide_eq_false h139
                refine TL.goff rfl rfl rfl rfl rfl rfl rfl rfl ?_
                refine TL.goff rfl rfl rfl rfl rfl rfl rfl rfl ?_
                refine TL.goff rfl rfl rfl rfl rfl rfl rfl rfl ?_
                refine TL.goff rfl rfl rfl rfl rfl rfl rfl rfl ?_
                refine TL.v rfl (OpVal.pickFB rfl rfl rfl) rfl rfl ?_
                refine TL.nil ?_
                refine S.n ?_
                refine TC.cond rfl (fun h => Bool.noConfusion h) (fun _ => ?_)
                refine TC.exit ?_
                refine S.x ?_
                refine S.x ?_
                replace hh := fin_x hR2 hh
                refine TC.exitHere ?_
                refine S.n ?_
                refine ⟨by repeat (first | exact Agr.refl _ _ | exact Agr.mask | refine Agr.upd rfl ?_ | refine Agr.maskIn rfl ?_ | refine Agr.upds rfl ?_), (k136, ()), hh, by repeat (first | exact trivial | refine ⟨rfl, ?_⟩), Sub.front 1 rfl rfl (Sub.front 1 rfl rfl (Sub.pre 2 rfl)), rfl⟩
            · skip
              obtain ⟨k131, _⟩ := g
              have hh := hg; clear hg
              show TC _ _ _ (upds (mask _ j _) [(16, .int .i64 ((k131 : Nat) : Int))]) _ [Res.cells b101 #[.slice a0_0 x0.cls.length c0_0, .slice a0_1 x0.next.length c0_1, .slice a0_2 x0.fin.length c0_2] 26, Res.rowS 43 2 encSpan (.slice a125 l124.length c126) l124]
              dsimp only [whittleref23_Factors_j1] at hh
              refine TC.isSl (i := 1) rfl (fun _ hb146 _ => ?_)
              refine TC.seq ?_
              refine TC.seq ?_
              refine TC.region ?_
              refine TL.v rfl (OpVal.moveI (.inl rfl) rfl) rfl rfl ?_
              refine TL.v rfl (OpVal.moveI (.inl rfl) rfl) rfl rfl ?_
              refine TL.v rfl (OpVal.eql rfl rfl rfl) rfl rfl ?_
              refine TL.nil ?_
              refine S.n ?_
              refine TC.cond rfl (fun h147 => ?_) (fun h147 => ?_)
              · replace hh := iteO_t h147 hh
                replace h147 := of_decide_eq_true h147
                refine TC.seq ?_
                refine TC.region ?_
                refine TL.v rfl (OpVal.moveI (.inl rfl) rfl) rfl rfl ?_
                refine TL.v rfl (OpVal.succ rfl rfl rfl (by omega)) rfl rfl ?_
                refine TL.v rfl (OpVal.moveI (.inr rfl) rfl) rfl rfl ?_
                refine TL.nil ?_
                refine S.n ?_
                refine TC.exit ?_
                refine S.x ?_
                refine TC.exitHere ?_
                refine S.n ?_
                obtain ⟨hh, hlt148⟩ := nxt_x hR1 hh
                refine ⟨by repeat (first | exact Agr.refl _ _ | exact Agr.mask | refine Agr.upd rfl ?_ | refine Agr.maskIn rfl ?_ | refine Agr.upds rfl ?_), ((l124, (k127 + 1)), (a125, c126)), hlt148, hh, by repeat (first | exact trivial | refine ⟨rfl, ?_⟩), Sub.front 1 rfl rfl (Sub.front 1 rfl rfl (Sub.pre 2 rfl)), rfl⟩
              · replace hh := iteO_f h147 hh
                replace h147 := of_decide_eq_false h147
                refine TC.skip ?_
                refine S.n ?_
                refine TC.seq ?_
                refine TC.region ?_
                refine TL.v rfl (OpVal.moveSl (.inl rfl) rfl) rfl rfl ?_
                refine TL.v rfl (OpVal.moveI (.inl rfl) rfl) rfl rfl ?_
                refine TL.v rfl (OpVal.moveI (.inl rfl) rfl) rfl rfl ?_
                refine TL.v rfl (OpVal.buildL rfl pl43 ze43 rfl) rfl rfl ?_
                refine TL.op rfl (OpOk.lit (enc := encSpan) [(⟨((k127 : Nat) : Int), ((k131 : Nat) : Int)⟩ : Span)] rfl Tryd.underlying28 sz43 ze43 rfl rfl rfl encSpan_len (by decide) (by decide) Span.zero rfl (by decide) rfl (by decide) encSpan_one (fun a149 c150 => ?_))
                refine TL.front 2 rfl rfl ?_
                have u90 := grd_c hh
                replace hh := grd_t hh
                refine TL.op rfl (OpOk.appendS rfl rfl Tryd.underlying28 sz43 by43 ze43 rfl rfl (by decide) rfl rfl rfl (.inr ⟨_, 0, rfl⟩) (by simpa using u90) (by decide) (fun a152 c153 => ?_))
                refine TL.v rfl (OpVal.moveSl (.inr rfl) rfl) rfl rfl ?_
                refine TL.nil ?_
                refine S.n ?_
                refine TC.region ?_
                refine TL.v rfl (OpVal.moveI (.inl rfl) rfl) rfl rfl ?_
                refine TL.v rfl (OpVal.moveI (.inr rfl) rfl) rfl rfl ?_
                refine TL.nil ?_
                refine B.n ?_
                refine S.n ?_
                obtain ⟨hh, hlt154⟩ := nxt_x hR1 hh
                refine ⟨by repeat (first | exact Agr.refl _ _ | exact Agr.mask | refine Agr.upd rfl ?_ | refine Agr.maskIn rfl ?_ | refine Agr.upds rfl ?_), (((l124 ++ [(⟨((k127 : Nat) : Int), ((k131 : Nat) : Int)⟩ : Span)]), k131), (a152, c153)), hlt154, hh, by repeat (first | exact trivial | refine ⟨rfl, ?_⟩), Sub.front 2 rfl rfl (Sub.pre 2 rfl), rfl⟩
          · replace hh := iteO_f h130 hh
            replace h130 := of_decide_eq_false h130
            refine TC.exit ?_
            refine S.x ?_
            refine S.x ?_
            replace hh := fin_x hR1 hh
            refine TC.exitHere ?_
            refine S.n ?_
            refine TC.seq ?_
            refine TC.region ?_
            refine TL.v rfl (OpVal.moveSl (.inl rfl) rfl) rfl rfl ?_
            refine TL.v rfl (OpVal.moveSl (.inr rfl) rfl) rfl rfl ?_
            refine TL.v rfl (OpVal.moveI (.inr rfl) rfl) rfl rfl ?_
            refine TL.nil ?_
            refine S.n ?_
            refine TC.front 1 rfl rfl ?_
            refine TC.sealS encSpan_len (fun τ157 hle156 hr155 => ?_)
            replace f0_0 := f0_0.mono hle156
            replace f0_1 := f0_1.mono hle156
            replace f0_2 := f0_2.mono hle156
            replace f1_0 := f1_0.mono hle156
            replace f1_1 := f1_1.mono hle156
            replace f1_2 := f1_2.mono hle156
            replace f2_0 := f2_0.mono hle156
            replace f2_1 := f2_1.mono hle156
            replace f2_2 := f2_2.mono hle156
            replace hr110_0 := hr110_0.mono hle156
            replace hr112_0 := hr112_0.mono hle156
            have hr155b := hr155.rv.big
            refine TC.ofSub (Sub.pre 0 rfl) ?_
            refine TC.ret ?_
            obtain rfl := Option.some.inj hh
            exact RetOk.mk' (rs := [.tmp 8, .tmp 9]) [] rfl (.inl rfl) (RVs.tmp rfl (RVs.tmp rfl RVs.nil)) (List.sublist_append_left _ _) ⟨a125, c126, rfl, hr155, rfl⟩

end Go.Proofs.YtkphkabfolkhoaaDoor
end

/- Pl -/
section
/- Plain lemmas on rounds. No program, no condition. -/
set_option linter.unusedVariables false
set_option linter.unusedSimpArgs false
namespace Go.E
open Go

section
variable {S R : Type} {step : S → Option (S ⊕ R)}
end

theorem take_snoc {α : Type} (l : List α) {k : Nat} (h : k < l.length) (d : α) : l.take (k + 1) = l.take k ++ [nth l k d] := by
  rw [List.take_add_one, getD_some l h d]; rfl
end Go.E
end

/- FMp -/
section
/- Sets of keys, as finite maps; rows by number. Plain lemmas, no condition. -/
set_option linter.unusedVariables false
set_option linter.unusedSimpArgs false
namespace Go.E
open Go
set_option linter.unusedSectionVars false
section
variable {K : Type} [DecidableEq K]
/-- The set of some keys. -/
def FM.ofL (S : List K) : FM K Unit := S.foldl (fun m k => m.put k ()) FM.emp
theorem FM.ofL_snoc (S : List K) (k : K) : FM.ofL (S ++ [k]) = (FM.ofL S).put k () := by simp [FM.ofL]
theorem FM.ofL_f (S : List K) (x : K) : (FM.ofL S).f x = if x ∈ S then some () else none := by
  have key : ∀ (S : List K) (m : FM K Unit), (S.foldl (fun m k => m.put k ()) m).f x = if x ∈ S then some () else m.f x := by
    intro S
    induction S with
    | nil => intro m; simp
    | cons y S ih =>
      intro m
      rw [List.foldl_cons, ih]
      by_cases h : x ∈ S
      · simp [h]
      · by_cases e : x = y
        · subst e; simp [FM.put]
        · simp [h, FM.put, e]
  rw [FM.ofL, key]; rfl
/-- How many. -/
def card (S : List K) : Nat := (FM.ofL S).n
theorem rev_ind {p : List K → Prop} (h0 : p []) (h1 : ∀ l x, p l → p (l ++ [x])) (l : List K) : p l := by
  have : ∀ m : List K, p m.reverse := fun m => by
    induction m with
    | nil => exact h0
    | cons x m ih => rw [List.reverse_cons]; exact h1 _ _ ih
  simpa using this l.reverse
theorem FM.ofL_len (S : List K) : ∃ l : List K, l.Nodup ∧ (∀ x, x ∈ l ↔ x ∈ S) ∧ l.length = card S := by
  induction S using rev_ind with
  | h0 => exact ⟨[], List.nodup_nil, by simp, rfl⟩
  | h1 S k ih =>
    obtain ⟨l, h1, h2, h3⟩ := ih
    have hf := FM.ofL_f S k
    by_cases hk : k ∈ S
    · refine ⟨l, h1, fun x => ?_, ?_⟩
      · rw [h2, List.mem_append, List.mem_singleton]
        constructor
        · exact .inl
        · rintro (h | rfl)
          · exact h
          · exact hk
      · rw [h3, card, card, FM.ofL_snoc, FM.put]; simp [hf, hk]
    · refine ⟨l ++ [k], ?_, fun x => by rw [List.mem_append, List.mem_append, h2], ?_⟩
      · rw [List.nodup_append]
        exact ⟨h1, by simp, fun x hx y hy => by
          rw [List.mem_singleton] at hy; subst hy
          intro e; subst e; exact hk ((h2 _).1 hx)⟩
      · rw [List.length_append, h3, card, card, FM.ofL_snoc, FM.put]; simp [hf, hk]
theorem Rep.ofL (S : List K) : ∃ q : List (K × Unit), Rep q (FM.ofL S) := by
  obtain ⟨l, h1, h2, h3⟩ := FM.ofL_len S
  refine ⟨l.map fun x => (x, ()), ⟨fun k v => ?_, by rw [List.length_map, h3]; rfl, ?_⟩⟩
  · rw [FM.ofL_f, List.mem_map]
    constructor
    · rintro ⟨x, hx, e⟩
      cases e
      rw [if_pos ((h2 _).1 hx)]
    · intro h
      split at h
      · rename_i hk; exact ⟨k, (h2 k).2 hk, rfl⟩
      · cases h
  · rw [List.map_map, show (Prod.fst ∘ fun x : K => (x, ())) = id from rfl, List.map_id]; exact h1
end

section
variable {β γ : Type}
/-- Rows of what bears a number. -/
structure Grp (key : β → Int) (val : β → γ) (n : Nat) (l : List (List γ)) (xs : List β) : Prop where
  len : l.length = n
  row : ∀ i, i < n → nth l i [] = (xs.filter fun x => decide (key x = (i : Int))).map val
end
end Go.E
end

/- It -/
section
/- Rounds over a list's things, by an invariant on what was met. Plain lemmas, no condition. -/
set_option linter.unusedVariables false
set_option linter.unusedSimpArgs false
namespace Go.E
open Go
theorem iter_inl {S R : Type} {step : S → Option (S ⊕ R)} {s s' : S} (h : step s = some (.inl s')) : iter step s = iter step s' := by
  cases hr : iter step s' with
  | some r => exact iter_next h hr
  | none =>
    cases hq : iter step s with
    | none => rfl
    | some r =>
      obtain ⟨z, hz, hR⟩ := iter_e hq
      rw [h] at hz; cases hz
      have := (hR.next s' rfl).1
      rw [hr] at this; cases this
/-- Rounds over a list, by an invariant on what was met so far. -/
theorem iter_for {α S T R : Type} {step : T → Option (T ⊕ R)} (g : S → Nat → T) (l : List α) (d : α) (I : List α → S → Prop) (Q : R → Prop)
    (hs : ∀ k s, k < l.length → I (l.take k) s → (∃ s', step (g s k) = some (.inl (g s' (k + 1))) ∧ I (l.take k ++ [nth l k d]) s') ∨ ∃ r, step (g s k) = some (.inr r) ∧ Q r)
    (hd : ∀ s, I l s → ∃ r, step (g s l.length) = some (.inr r) ∧ Q r) {s0 : S} (h0 : I [] s0) : ∃ r, iter step (g s0 0) = some r ∧ Q r := by
  have key : ∀ m k s, l.length - k = m → k ≤ l.length → I (l.take k) s → ∃ r, iter step (g s k) = some r ∧ Q r := by
    intro m
    induction m with
    | zero =>
      intro k s hm hk hI
      have hk : k = l.length := by omega
      subst hk
      rw [List.take_length] at hI
      obtain ⟨r, h1, h2⟩ := hd s hI
      exact ⟨r, iter_done h1, h2⟩
    | succ m ih =>
      intro k s hm hk hI
      rcases hs k s (by omega) hI with ⟨s', h1, h2⟩ | ⟨r, h1, h2⟩
      · rw [← take_snoc l (by omega) d] at h2
        obtain ⟨r, h3, h4⟩ := ih (k + 1) s' (by omega) (by omega) h2
        exact ⟨r, iter_next h1 h3, h4⟩
      · exact ⟨r, iter_done h1, h2⟩
  exact key _ 0 s0 rfl (Nat.zero_le _) h0
theorem take_split {α : Type} (l : List α) {k : Nat} (h : k < l.length) (d : α) : l = l.take k ++ nth l k d :: l.drop (k + 1) := by
  have h1 : l.drop k = nth l k d :: l.drop (k + 1) := by
    have := List.drop_eq_getElem_cons h
    rw [this]; congr 1
    have h2 := getD_some l h d
    rw [List.getElem?_eq_getElem h] at h2; exact Option.some.inj h2
  rw [← h1, List.take_append_drop]
end Go.E
end

/- ScanP -/
section
/- Automatons that go one way: what is right. Plain lemmas, no condition. -/
set_option linter.unusedVariables false
set_option linter.unusedSimpArgs false
namespace Go.Proofs.YtkphkabfolkhoaaDoor
open Go Go.E

theorem u64or_lt (a b : Nat) : u64or a b < 18446744073709551616 := (BitVec.ofNat 64 a ||| BitVec.ofNat 64 b).isLt
theorem anyOk (a b : BSet) : ∃ v, set_Any a b = some v := by
  obtain ⟨r, h, _⟩ := iter_for (step := fun q : BSet × Nat => set_Any_b1 b q.1 q.2) (fun s k => (s, k)) [(), (), (), ()] () (fun _ _ => True) (fun _ => True)
    (fun k s hk _ => by
      have hk4 : k < 4 := hk
      refine .inl ⟨BSet.setWord s k (u64or (BSet.word s k) (BSet.word b k)), ?_, trivial⟩
      simp only [set_Any_b1]
      rw [show decide (((k : Nat) : Int) < 4) = true from decide_eq_true (by omega), iteO_true, grd_mk hk4, grd_mk hk4, grd_mk hk4, grd_mk (u64or_lt _ _)]; rfl)
    (fun s _ => ⟨s, by simp only [set_Any_b1]; rfl, trivial⟩) (s0 := a) trivial
  exact ⟨r, h⟩

/-- How many classes there are, if they come in order. -/
def cntS (o : Option Nat) (n : Int) : Option Nat := o.bind fun k => if n < 0 ∨ (k : Int) < n then none else some (if n = k then k + 1 else k)
def cntF (l : List Int) : Option Nat := l.foldl cntS (some 0)
theorem cntS_none : ∀ l : List Int, l.foldl cntS none = none
  | [] => rfl
  | _ :: l => cntS_none l
theorem cntF_snoc (l : List Int) (n : Int) : cntF (l ++ [n]) = cntS (cntF l) n := by simp [cntF, List.foldl_append]
theorem cntF_none {l m : List Int} (h : cntF l = none) : cntF (l ++ m) = none := by
  unfold cntF at h ⊢; rw [List.foldl_append, h, cntS_none]
theorem cntF_le : ∀ (l : List Int) (j k : Nat), l.foldl cntS (some j) = some k → k ≤ j + l.length
  | [], j, k, h => by cases h; simp
  | n :: l, j, k, h => by
    rw [List.foldl_cons] at h
    by_cases hc : n < 0 ∨ (j : Int) < n
    · rw [show cntS (some j) n = none by simp [cntS, hc], cntS_none] at h; cases h
    · rw [show cntS (some j) n = some (if n = j then j + 1 else j) by simp [cntS, hc]] at h
      have := cntF_le l _ k h
      simp only [List.length_cons]
      split at this <;> omega

theorem partSets_ok (cls : List Int) : ∃ r, part_Sets cls = some r ∧ (((cls.length ≠ 256 ∨ cntF cls = none) ∧ r.2 = 1) ∨ (cls.length = 256 ∧ cntF cls = some r.1.length ∧ r.2 = 0)) := by
  unfold part_Sets
  by_cases h256 : cls.length = 256
  · rw [show decide (((cls.length : Nat) : Int) ≠ 256) = false from decide_eq_false (by omega), iteO_false]
    obtain ⟨r, h1, h2⟩ := iter_for (step := fun q : List BSet × Nat => part_Sets_b1 cls q.1 q.2) (fun s k => (s, k)) cls 0 (fun pre s => cntF pre = some s.length) (fun r => (cntF cls = none ∧ r.2 = 1) ∨ (cntF cls = some r.1.length ∧ r.2 = 0))
      (fun k s hk hI => by
        have hle := cntF_le _ _ _ hI
        rw [List.length_take, Nat.zero_add] at hle
        have hsp := take_split cls hk (0 : Int)
        have hstop : (nth cls k 0 < 0 ∨ (s.length : Int) < nth cls k 0) → cntF cls = none := fun hc => by
          rw [hsp, ← List.singleton_append, ← List.append_assoc]
          exact cntF_none (by rw [cntF_snoc, hI]; simp [cntS, hc])
        have hgo : ∀ l : List BSet, 0 ≤ nth cls k 0 → nth cls k 0 < (l.length : Int) → ∃ l', part_Sets_j1 cls k l = some (.inl (l', k + 1)) ∧ l'.length = l.length := fun l h0 h1 => by
          obtain ⟨v, hv⟩ := anyOk (nth l ((nth cls k (0 : Int)).toNat) BSet.zero) (BSet.ofL [(toU8 ((k : Nat) : Int))])
          refine ⟨_, by unfold part_Sets_j1; rw [grd_mk ⟨h0, h1⟩, grd_mk (by simp), bnd_some hv, grd_mk ⟨h0, h1⟩]; rfl, by simp⟩
        simp only [part_Sets_b1]
        rw [show decide (((k : Nat) : Int) < ((cls.length : Nat) : Int)) = true from decide_eq_true (by omega), iteO_true]
        by_cases c1 : nth cls k 0 < 0
        · right; rw [decide_eq_true c1, iteO_true]; exact ⟨_, rfl, .inl ⟨hstop (.inl c1), rfl⟩⟩
        rw [decide_eq_false c1, iteO_false]
        by_cases c2 : (s.length : Int) < nth cls k 0
        · right; rw [decide_eq_true c2, iteO_true]; exact ⟨_, rfl, .inl ⟨hstop (.inr c2), rfl⟩⟩
        rw [decide_eq_false c2, iteO_false]
        left
        by_cases c3 : nth cls k 0 = (s.length : Int)
        · rw [decide_eq_true c3, iteO_true, grd_mk (by simp; omega)]
          obtain ⟨l', h1, h2⟩ := hgo (s ++ [BSet.zero]) (by omega) (by simp; omega)
          exact ⟨l', h1, by rw [cntF_snoc, hI, h2]; simp [cntS, c3]⟩
        · rw [decide_eq_false c3, iteO_false]
          obtain ⟨l', h1, h2⟩ := hgo s (by omega) (by omega)
          exact ⟨l', h1, by rw [cntF_snoc, hI, h2]; simp [cntS, c3]; omega⟩)
      (fun s hI => ⟨(s, 0), by simp only [part_Sets_b1]; rw [show decide (((cls.length : Nat) : Int) < ((cls.length : Nat) : Int)) = false from decide_eq_false (by omega), iteO_false]; rfl, .inr ⟨hI, rfl⟩⟩) (s0 := []) rfl
    refine ⟨r, h1, ?_⟩
    rcases h2 with ⟨h2, h3⟩ | ⟨h2, h3⟩
    · exact .inl ⟨.inr h2, h3⟩
    · exact .inr ⟨h256, h2, h3⟩
  · rw [show decide (((cls.length : Nat) : Int) ≠ 256) = true from decide_eq_true (by omega), iteO_true]
    exact ⟨_, rfl, .inl ⟨.inl h256, rfl⟩⟩
end Go.Proofs.YtkphkabfolkhoaaDoor
end

/- ScanQ -/
section
/- Automatons that go one way: what the reference's Sets answers. Plain lemmas, no condition. -/
set_option linter.unusedVariables false
set_option linter.unusedSimpArgs false
namespace Go.Proofs.YtkphkabfolkhoaaDoor
open Go Go.E

theorem sets02_in (cls : List Int) (h256 : cls.length = 256) (k : Nat) (out : List BSet) (hk : k < 1000) (ho : out.length < 1000) :
    ∃ x, iter (fun q : (List Bool) × Nat => whittleref02_Sets_b3 cls k out q.1 q.2) ((List.replicate 256 false), 0) = some (.inl (out ++ [x], k + 1)) := by
  obtain ⟨r, h1, x, rfl⟩ := iter_for (step := fun q : (List Bool) × Nat => whittleref02_Sets_b3 cls k out q.1 q.2) (fun s k => (s, k)) cls 0 (fun _ s => s.length = 256) (fun r => ∃ x, r = .inl (out ++ [x], k + 1))
    (fun j s hj hI => by
      refine .inl ⟨s.set j (decide ((nth cls j (0 : Int)) = ((k : Nat) : Int))), ?_, by simpa using hI⟩
      simp only [whittleref02_Sets_b3]
      rw [show decide (((j : Nat) : Int) < 256) = true from decide_eq_true (by omega), iteO_true, grd_mk hj, grd_mk (by omega)]; rfl)
    (fun s hI => ⟨_, by
      simp only [whittleref02_Sets_b3]
      rw [show decide (((cls.length : Nat) : Int) < 256) = false from decide_eq_false (by omega), iteO_false, grd_mk hI, grd_mk (by simp; omega), grd_mk (by omega)]; rfl, _, rfl⟩) (s0 := List.replicate 256 false) List.length_replicate
  exact ⟨x, h1⟩

theorem sets02_out (cls : List Int) (h256 : cls.length = 256) (m : Nat) (hm : m ≤ 256) :
    ∃ r, iter (fun q : (List BSet) × Nat => whittleref02_Sets_b2 ((m : Int) - 1) cls q.1 q.2) (([] : List BSet), 0) = some r ∧ r.1.length = m ∧ r.2 = 0 := by
  obtain ⟨r, h1, h2⟩ := iter_for (step := fun q : (List BSet) × Nat => whittleref02_Sets_b2 ((m : Int) - 1) cls q.1 q.2) (fun s k => (s, k)) (List.replicate m ()) () (fun pre s => s.length = pre.length) (fun r => r.1.length = m ∧ r.2 = 0)
    (fun k s hk hI => by
      rw [List.length_replicate] at hk
      rw [List.length_take, List.length_replicate] at hI
      obtain ⟨x, hx⟩ := sets02_in cls h256 k s (by omega) (by omega)
      refine .inl ⟨s ++ [x], ?_, by simp [hI]⟩
      simp only [whittleref02_Sets_b2]
      rw [show decide (((k : Nat) : Int) ≤ (m : Int) - 1) = true from decide_eq_true (by omega), iteO_true]; exact hx)
    (fun s hI => by
      rw [List.length_replicate] at hI ⊢
      exact ⟨(s, 0), by simp only [whittleref02_Sets_b2]; rw [show decide (((m : Nat) : Int) ≤ (m : Int) - 1) = false from decide_eq_false (by omega), iteO_false]; rfl, hI, rfl⟩) (s0 := []) rfl
  exact ⟨r, h1, h2⟩

theorem sets02_ok (cls : List Int) : ∃ r, whittleref02_Sets cls = some r ∧ (((cls.length ≠ 256 ∨ cntF cls = none) ∧ r.2 = 1) ∨ (cls.length = 256 ∧ cntF cls = some r.1.length ∧ r.2 = 0)) := by
  unfold whittleref02_Sets
  by_cases h256 : cls.length = 256
  · rw [show decide (((cls.length : Nat) : Int) ≠ 256) = false from decide_eq_false (by omega), iteO_false]
    obtain ⟨r, h1, h2⟩ := iter_for (step := fun q : Int × Nat => whittleref02_Sets_b1 cls q.1 q.2) (fun s k => (s, k)) cls 0 (fun pre s => ∃ c, cntF pre = some c ∧ s = (c : Int) - 1) (fun r => (cntF cls = none ∧ r.2 = 1) ∨ (cntF cls = some r.1.length ∧ r.2 = 0))
      (fun k s hk ⟨c, hI, hs⟩ => by
        subst hs
        have hle := cntF_le _ _ _ hI
        rw [List.length_take, Nat.zero_add] at hle
        have hsp := take_split cls hk (0 : Int)
        have hstop : (nth cls k 0 < 0 ∨ (c : Int) < nth cls k 0) → cntF cls = none := fun hc => by
          rw [hsp, ← List.singleton_append, ← List.append_assoc]
          exact cntF_none (by rw [cntF_snoc, hI]; simp [cntS, hc])
        simp only [whittleref02_Sets_b1]
        rw [show decide (((k : Nat) : Int) < 256) = true from decide_eq_true (by omega), iteO_true, grd_mk hk]
        by_cases c1 : nth cls k 0 < 0
        · right; rw [decide_eq_true c1, iteO_true]; exact ⟨_, rfl, .inl ⟨hstop (.inl c1), rfl⟩⟩
        rw [decide_eq_false c1, iteO_false, grd_mk hk, wrap64_of (by omega) (by omega)]
        by_cases c2 : ((c : Int) - 1 + 1) < nth cls k 0
        · right; rw [decide_eq_true c2, iteO_true]; exact ⟨_, rfl, .inl ⟨hstop (.inr (by omega)), rfl⟩⟩
        rw [decide_eq_false c2, iteO_false, grd_mk hk]
        left
        refine ⟨_, rfl, if nth cls k 0 = (c : Int) then c + 1 else c, ?_, ?_⟩
        · rw [cntF_snoc, hI]
          simp only [cntS, Option.bind_some]
          rw [if_neg (by omega)]
        · split <;> omega)
      (fun s ⟨c, hI, hs⟩ => by
        subst hs
        have hle := cntF_le _ _ _ hI
        obtain ⟨r, h1, h2, h3⟩ := sets02_out cls h256 c (by omega)
        refine ⟨r, ?_, .inr ⟨by rw [hI, h2], h3⟩⟩
        simp only [whittleref02_Sets_b1]
        rw [show decide (((cls.length : Nat) : Int) < 256) = false from decide_eq_false (by omega), iteO_false, h1]; rfl) (s0 := -1) ⟨0, rfl, rfl⟩
    refine ⟨r, h1, ?_⟩
    rcases h2 with ⟨h2, h3⟩ | ⟨h2, h3⟩
    · exact .inl ⟨.inr h2, h3⟩
    · exact .inr ⟨h256, h2, h3⟩
  · rw [show decide (((cls.length : Nat) : Int) ≠ 256) = true from decide_eq_true (by omega), iteO_true]
    exact ⟨_, rfl, .inl ⟨.inl h256, rfl⟩⟩
end Go.Proofs.YtkphkabfolkhoaaDoor
end

/- ScanC -/
section
/- Automatons that go one way: the program's Check. Plain lemmas, no condition. -/
set_option linter.unusedVariables false
set_option linter.unusedSimpArgs false
namespace Go.Proofs.YtkphkabfolkhoaaDoor
open Go Go.E

def goodS (n : Nat) (s : Int) : Bool := decide (0 ≤ s) && decide (s < (n : Int))
def goodR (n m : Nat) (row : List Int) : Bool := decide (row.length = m) && row.all (goodS n)
/-- Is an automaton right? -/
def rightD (d : Dfa) : Bool := decide (d.cls.length = 256) && (match cntF d.cls with | some m => d.next.all (goodR d.next.length m) | none => false) && decide (1 ≤ d.next.length ∧ d.next.length ≤ 1024) && decide (d.fin.length = d.next.length)
theorem all_snoc {α : Type} (p : α → Bool) (l : List α) (x : α) : (l ++ [x]).all p = (l.all p && p x) := by simp [List.all_append]
theorem all_false_of {α : Type} {p : α → Bool} {l : List α} {k : Nat} (hk : k < l.length) (d : α) (h : p (nth l k d) = false) : l.all p = false := by
  rw [List.all_eq_false]; exact ⟨_, List.mem_of_getElem? (getD_some l hk d), by simp [h]⟩

theorem chk_in (d : Dfa) (k : Nat) : ∃ r, iter (fun q : Nat => dfa_Check_b2 d k q) 0 = some r ∧ (((nth d.next k []).all (goodS d.next.length) = true ∧ r = .inl (k + 1)) ∨ ((nth d.next k []).all (goodS d.next.length) = false ∧ r = .inr 1)) :=
  iter_for (step := fun q : Nat => dfa_Check_b2 d k q) (fun (_ : Unit) j => j) (nth d.next k []) 0 (fun pre _ => pre.all (goodS d.next.length) = true) (fun r => ((nth d.next k []).all (goodS d.next.length) = true ∧ r = .inl (k + 1)) ∨ ((nth d.next k []).all (goodS d.next.length) = false ∧ r = .inr 1))
    (fun j s hj hI => by
      simp only [dfa_Check_b2]
      rw [show decide (((j : Nat) : Int) < (((nth d.next k ([] : List Int)).length : Nat) : Int)) = true from decide_eq_true (by omega), iteO_true]
      by_cases c1 : nth (nth d.next k ([] : List Int)) j (0 : Int) < 0
      · right; rw [decide_eq_true c1, iteO_true]; exact ⟨_, rfl, .inr ⟨all_false_of hj 0 (by simp [goodS]; omega), rfl⟩⟩
      rw [decide_eq_false c1, iteO_false]
      by_cases c2 : ((d.next.length : Nat) : Int) ≤ nth (nth d.next k ([] : List Int)) j (0 : Int)
      · right; rw [decide_eq_true c2, iteO_true]; exact ⟨_, rfl, .inr ⟨all_false_of hj 0 (by simp [goodS]; omega), rfl⟩⟩
      rw [decide_eq_false c2, iteO_false]
      left
      exact ⟨(), rfl, by rw [all_snoc, hI]; simp [goodS]; omega⟩)
    (fun s hI => by
      simp only [dfa_Check_b2]
      rw [show decide ((((nth d.next k ([] : List Int)).length : Nat) : Int) < (((nth d.next k ([] : List Int)).length : Nat) : Int)) = false from decide_eq_false (by omega), iteO_false]
      exact ⟨_, rfl, .inl ⟨hI, rfl⟩⟩) (s0 := ()) rfl

theorem chk_out (d : Dfa) (v : (List BSet) × Int) : ∃ r, iter (fun q : Nat => dfa_Check_b1 d v q) 0 = some r ∧ ((d.next.all (goodR d.next.length v.1.length) = true ∧ r = 0) ∨ (d.next.all (goodR d.next.length v.1.length) = false ∧ r = 1)) :=
  iter_for (step := fun q : Nat => dfa_Check_b1 d v q) (fun (_ : Unit) j => j) d.next [] (fun pre _ => pre.all (goodR d.next.length v.1.length) = true) (fun r => (d.next.all (goodR d.next.length v.1.length) = true ∧ r = 0) ∨ (d.next.all (goodR d.next.length v.1.length) = false ∧ r = 1))
    (fun k s hk hI => by
      simp only [dfa_Check_b1]
      rw [show decide (((k : Nat) : Int) < ((d.next.length : Nat) : Int)) = true from decide_eq_true (by omega), iteO_true]
      by_cases c1 : (nth d.next k ([] : List Int)).length = v.1.length
      · rw [show decide ((((nth d.next k ([] : List Int)).length : Nat) : Int) ≠ ((v.1.length : Nat) : Int)) = false from decide_eq_false (by omega), iteO_false]
        obtain ⟨r, h1, h2 | h2⟩ := chk_in d k
        · left; rw [h1, h2.2]; exact ⟨(), rfl, by rw [all_snoc, hI]; simp [goodR, c1, h2.1]⟩
        · right; rw [h1, h2.2]; exact ⟨_, rfl, .inr ⟨all_false_of hk [] (by simp only [goodR, h2.1, Bool.and_false]), rfl⟩⟩
      · right
        rw [show decide ((((nth d.next k ([] : List Int)).length : Nat) : Int) ≠ ((v.1.length : Nat) : Int)) = true from decide_eq_true (by omega), iteO_true]
        exact ⟨_, rfl, .inr ⟨all_false_of hk [] (by simp [goodR, c1]), rfl⟩⟩)
    (fun s hI => by
      simp only [dfa_Check_b1]
      rw [show decide (((d.next.length : Nat) : Int) < ((d.next.length : Nat) : Int)) = false from decide_eq_false (by omega), iteO_false]
      exact ⟨_, rfl, .inl ⟨hI, rfl⟩⟩) (s0 := ()) rfl

theorem check_eq (d : Dfa) : dfa_Check d = some (if rightD d = true then 0 else 1) := by
  unfold dfa_Check
  obtain ⟨v, hv, h⟩ := partSets_ok d.cls
  rw [bnd_some hv]
  rcases h with ⟨h1, h2⟩ | ⟨h1, h2, h3⟩
  · rw [decide_eq_true (show v.2 ≠ 0 by omega), iteO_true]
    rw [if_neg]
    rcases h1 with h1 | h1
    · simp [rightD, h1]
    · simp [rightD, h1]
  · rw [decide_eq_false (show ¬ v.2 ≠ 0 by omega), iteO_false]
    by_cases c1 : d.next.length < 1
    · rw [show decide (((d.next.length : Nat) : Int) < 1) = true from decide_eq_true (by omega), iteO_true, if_neg]
      simp only [rightD, Bool.and_eq_true, decide_eq_true_eq]; omega
    rw [show decide (((d.next.length : Nat) : Int) < 1) = false from decide_eq_false (by omega), iteO_false]
    by_cases c2 : 1024 < d.next.length
    · rw [show decide (1024 < ((d.next.length : Nat) : Int)) = true from decide_eq_true (by omega), iteO_true, if_neg]
      simp only [rightD, Bool.and_eq_true, decide_eq_true_eq]; omega
    rw [show decide (1024 < ((d.next.length : Nat) : Int)) = false from decide_eq_false (by omega), iteO_false]
    by_cases c3 : d.fin.length = d.next.length
    · rw [show decide (((d.fin.length : Nat) : Int) ≠ ((d.next.length : Nat) : Int)) = false from decide_eq_false (by omega), iteO_false]
      obtain ⟨r, hr, hr2⟩ := chk_out d v
      rw [hr]
      have e : rightD d = d.next.all (goodR d.next.length v.1.length) := by
        simp only [rightD, h1, h2, c3, decide_true, Bool.true_and, Bool.and_true]
        rw [show decide (1 ≤ d.next.length ∧ d.next.length ≤ 1024) = true from decide_eq_true (by omega), Bool.and_true]
      rw [e]
      rcases hr2 with ⟨h4, h5⟩ | ⟨h4, h5⟩
      · rw [h4, h5, if_pos rfl]
      · rw [h4, h5, if_neg (by simp)]
    · rw [show decide (((d.fin.length : Nat) : Int) ≠ ((d.next.length : Nat) : Int)) = true from decide_eq_true (by omega), iteO_true, if_neg]
      simp only [rightD, Bool.and_eq_true, decide_eq_true_eq]; omega
end Go.Proofs.YtkphkabfolkhoaaDoor
end

/- ScanD -/
section
/- Automatons that go one way: the reference's Right. Plain lemmas, no condition. -/
set_option linter.unusedVariables false
set_option linter.unusedSimpArgs false
namespace Go.Proofs.YtkphkabfolkhoaaDoor
open Go Go.E

theorem rgt_in (d : Dfa) (v : (List BSet) × Int) (k : Nat) (hv : (nth d.next k []).length = v.1.length) : ∃ r, iter (fun q : Nat => whittleref11_Right_b2 v d k q) 0 = some r ∧ (((nth d.next k []).all (goodS d.next.length) = true ∧ r = .inl (k + 1)) ∨ ((nth d.next k []).all (goodS d.next.length) = false ∧ r = .inr false)) :=
  iter_for (step := fun q : Nat => whittleref11_Right_b2 v d k q) (fun (_ : Unit) j => j) (nth d.next k []) 0 (fun pre _ => pre.all (goodS d.next.length) = true) (fun r => ((nth d.next k []).all (goodS d.next.length) = true ∧ r = .inl (k + 1)) ∨ ((nth d.next k []).all (goodS d.next.length) = false ∧ r = .inr false))
    (fun j s hj hI => by
      simp only [whittleref11_Right_b2]
      rw [show decide (((j : Nat) : Int) < ((v.1.length : Nat) : Int)) = true from decide_eq_true (by omega), iteO_true, grd_mk hj]
      by_cases c1 : nth (nth d.next k ([] : List Int)) j (0 : Int) < 0
      · right; rw [decide_eq_true c1, iteO_true]; exact ⟨_, rfl, .inr ⟨all_false_of hj 0 (by simp [goodS]; omega), rfl⟩⟩
      rw [decide_eq_false c1, iteO_false, grd_mk hj]
      by_cases c2 : ((d.next.length : Nat) : Int) ≤ nth (nth d.next k ([] : List Int)) j (0 : Int)
      · right; rw [decide_eq_true c2, iteO_true]; exact ⟨_, rfl, .inr ⟨all_false_of hj 0 (by simp [goodS]; omega), rfl⟩⟩
      rw [decide_eq_false c2, iteO_false]
      left
      exact ⟨(), rfl, by rw [all_snoc, hI]; simp [goodS]; omega⟩)
    (fun s hI => by
      simp only [whittleref11_Right_b2]
      rw [show decide ((((nth d.next k ([] : List Int)).length : Nat) : Int) < ((v.1.length : Nat) : Int)) = false from decide_eq_false (by omega), iteO_false]
      exact ⟨_, rfl, .inl ⟨hI, rfl⟩⟩) (s0 := ()) rfl

theorem rgt_out (d : Dfa) (v : (List BSet) × Int) : ∃ r, iter (fun q : Nat => whittleref11_Right_b1 d v q) 0 = some r ∧ r = d.next.all (goodR d.next.length v.1.length) :=
  iter_for (step := fun q : Nat => whittleref11_Right_b1 d v q) (fun (_ : Unit) j => j) d.next [] (fun pre _ => pre.all (goodR d.next.length v.1.length) = true) (fun r => r = d.next.all (goodR d.next.length v.1.length))
    (fun k s hk hI => by
      simp only [whittleref11_Right_b1]
      rw [show decide (((k : Nat) : Int) < ((d.next.length : Nat) : Int)) = true from decide_eq_true (by omega), iteO_true]
      by_cases c1 : (nth d.next k ([] : List Int)).length = v.1.length
      · rw [show decide ((((nth d.next k ([] : List Int)).length : Nat) : Int) ≠ ((v.1.length : Nat) : Int)) = false from decide_eq_false (by omega), iteO_false]
        obtain ⟨r, h1, h2 | h2⟩ := rgt_in d v k c1
        · left; rw [h1, h2.2]; exact ⟨(), rfl, by rw [all_snoc, hI]; simp [goodR, c1, h2.1]⟩
        · right; rw [h1, h2.2]; exact ⟨_, rfl, (all_false_of hk [] (by simp only [goodR, h2.1, Bool.and_false])).symm⟩
      · right
        rw [show decide ((((nth d.next k ([] : List Int)).length : Nat) : Int) ≠ ((v.1.length : Nat) : Int)) = true from decide_eq_true (by omega), iteO_true]
        exact ⟨_, rfl, (all_false_of hk [] (by simp [goodR, c1])).symm⟩)
    (fun s hI => by
      simp only [whittleref11_Right_b1]
      rw [show decide (((d.next.length : Nat) : Int) < ((d.next.length : Nat) : Int)) = false from decide_eq_false (by omega), iteO_false]
      exact ⟨_, rfl, hI.symm⟩) (s0 := ()) rfl

theorem right_eq (d : Dfa) : whittleref11_Right d = some (rightD d) := by
  unfold whittleref11_Right
  obtain ⟨v, hv, h⟩ := sets02_ok d.cls
  rw [bnd_some hv]
  rcases h with ⟨h1, h2⟩ | ⟨h1, h2, h3⟩
  · rw [decide_eq_true (show v.2 ≠ 0 by omega), iteO_true]
    rcases h1 with h1 | h1
    · simp [rightD, h1]
    · simp [rightD, h1]
  · rw [decide_eq_false (show ¬ v.2 ≠ 0 by omega), iteO_false]
    by_cases c1 : d.next.length < 1
    · rw [show decide (((d.next.length : Nat) : Int) < 1) = true from decide_eq_true (by omega), iteO_true]
      congr 1; symm; rw [Bool.eq_false_iff]; simp only [rightD, Ne, Bool.and_eq_true, decide_eq_true_eq]; omega
    rw [show decide (((d.next.length : Nat) : Int) < 1) = false from decide_eq_false (by omega), iteO_false]
    by_cases c2 : 1024 < d.next.length
    · rw [show decide (1024 < ((d.next.length : Nat) : Int)) = true from decide_eq_true (by omega), iteO_true]
      congr 1; symm; rw [Bool.eq_false_iff]; simp only [rightD, Ne, Bool.and_eq_true, decide_eq_true_eq]; omega
    rw [show decide (1024 < ((d.next.length : Nat) : Int)) = false from decide_eq_false (by omega), iteO_false]
    by_cases c3 : d.fin.length = d.next.length
    · rw [show decide (((d.fin.length : Nat) : Int) ≠ ((d.next.length : Nat) : Int)) = false from decide_eq_false (by omega), iteO_false]
      obtain ⟨r, hr, hr2⟩ := rgt_out d v
      rw [hr, hr2]
      congr 1
      simp only [rightD, h1, h2, c3, decide_true, Bool.true_and, Bool.and_true]
      rw [show decide (1 ≤ d.next.length ∧ d.next.length ≤ 1024) = true from decide_eq_true (by omega), Bool.and_true]
    · rw [show decide (((d.fin.length : Nat) : Int) ≠ ((d.next.length : Nat) : Int)) = true from decide_eq_true (by omega), iteO_true]
      congr 1; symm; rw [Bool.eq_false_iff]; simp only [rightD, Ne, Bool.and_eq_true, decide_eq_true_eq]; omega
end Go.Proofs.YtkphkabfolkhoaaDoor
end

/- ScanE -/
section
/- Automatons that go one way: a step from a state by a byte. Plain lemmas, no condition. -/
set_option linter.unusedVariables false
set_option linter.unusedSimpArgs false
namespace Go.Proofs.YtkphkabfolkhoaaDoor
open Go Go.E

theorem cnt_mem : ∀ (l : List Int) (j m : Nat), l.foldl cntS (some j) = some m → j ≤ m ∧ ∀ n ∈ l, 0 ≤ n ∧ n < (m : Int)
  | [], j, m, h => by cases h; simp
  | n :: l, j, m, h => by
    rw [List.foldl_cons] at h
    by_cases hc : n < 0 ∨ (j : Int) < n
    · rw [show cntS (some j) n = none by simp [cntS, hc], cntS_none] at h; cases h
    · rw [show cntS (some j) n = some (if n = j then j + 1 else j) by simp [cntS, hc]] at h
      obtain ⟨h1, h2⟩ := cnt_mem l _ m h
      refine ⟨by split at h1 <;> omega, fun k hk => ?_⟩
      rcases List.mem_cons.1 hk with rfl | hk
      · split at h1 <;> omega
      · exact h2 k hk

def okS (d : Dfa) (s : Int) : Prop := 0 ≤ s ∧ s < (d.next.length : Int)
/-- The state behind a state, by a byte. -/
def dlt (d : Dfa) (s : Int) (b : UInt8) : Int := nth (nth d.next s.toNat ([] : List Int)) ((nth d.cls b.toNat (0 : Int)).toNat) (0 : Int)

theorem nth_mem' {α : Type} {l : List α} {i : Nat} (hi : i < l.length) (d : α) : nth l i d ∈ l := List.mem_of_getElem? (getD_some l hi d)
structure DltOk (d : Dfa) (s : Int) (b : UInt8) : Prop where
  cl : b.toNat < d.cls.length
  c : 0 ≤ nth d.cls b.toNat (0 : Int) ∧ nth d.cls b.toNat (0 : Int) < ((nth d.next s.toNat ([] : List Int)).length : Int)
  nx : okS d (dlt d s b)
  f : 0 ≤ dlt d s b ∧ dlt d s b < (d.fin.length : Int)
theorem dlt_ok {d : Dfa} (h : rightD d = true) {s : Int} (hs : okS d s) (b : UInt8) : DltOk d s b := by
  simp only [rightD, Bool.and_eq_true, decide_eq_true_eq] at h
  obtain ⟨⟨⟨h1, h2⟩, h3⟩, h4⟩ := h
  cases hm : cntF d.cls with
  | none => rw [hm] at h2; cases h2
  | some m =>
    rw [hm] at h2
    have hb := UInt8.toNat_lt b
    have hcl : b.toNat < d.cls.length := by omega
    have hc := (cnt_mem d.cls 0 m hm).2 _ (nth_mem' hcl 0)
    obtain ⟨hs0, hs1⟩ := hs
    have hrow := List.all_eq_true.1 h2 _ (nth_mem' (l := d.next) (i := s.toNat) (by omega) [])
    simp only [goodR, Bool.and_eq_true, decide_eq_true_eq] at hrow
    obtain ⟨hr1, hr2⟩ := hrow
    have hx := List.all_eq_true.1 hr2 _ (nth_mem' (l := nth d.next s.toNat []) (i := (nth d.cls b.toNat (0 : Int)).toNat) (by omega) 0)
    simp only [goodS, Bool.and_eq_true, decide_eq_true_eq] at hx
    exact ⟨hcl, ⟨hc.1, by omega⟩, hx, ⟨hx.1, by have := hx.2; unfold dlt; omega⟩⟩
theorem ok0 {d : Dfa} (h : rightD d = true) : okS d 0 := by
  simp only [rightD, Bool.and_eq_true, decide_eq_true_eq] at h
  exact ⟨by omega, by omega⟩
end Go.Proofs.YtkphkabfolkhoaaDoor
end

/- ScanT -/
section
/- Automatons that go one way: is a part of a text taken? Plain lemmas, no condition. -/
set_option linter.unusedVariables false
set_option linter.unusedSimpArgs false
namespace Go.Proofs.YtkphkabfolkhoaaDoor
open Go Go.E

def runD (d : Dfa) (q : Int) (l : List UInt8) : Int := l.foldl (dlt d) q
theorem runD_ok {d : Dfa} (h : rightD d = true) : ∀ (l : List UInt8) {q : Int}, okS d q → okS d (runD d q l)
  | [], _, hq => hq
  | b :: l, q, hq => by
    rw [runD, List.foldl_cons]; exact runD_ok h l (dlt_ok h hq b).nx
/-- Is the part from i to j taken? -/
def takD (d : Dfa) (l : List UInt8) (i j : Nat) : Bool := nth d.fin (runD d 0 ((l.take j).drop i)).toNat false
theorem part_step (l : List UInt8) {i j : Nat} (hij : i < j) (hj : j ≤ l.length) : (l.take j).drop i = nth l i 0 :: (l.take j).drop (i + 1) := by
  have hlt : i < (l.take j).length := by rw [List.length_take]; omega
  rw [List.drop_eq_getElem_cons hlt]
  congr 1
  have h2 := getD_some l (show i < l.length by omega) (0 : UInt8)
  rw [List.getElem?_eq_getElem (by omega)] at h2
  rw [List.getElem_take]; exact Option.some.inj h2
theorem taken_loop {d : Dfa} (h : rightD d = true) (l : List UInt8) (hl : l.length ≤ 281474976710656) (j : Nat) (hj : j ≤ l.length) : ∀ (m i : Nat) (q : Int), j - i = m → i ≤ j → okS d q →
    iter (fun q : Int × Int => whittleref23_taken_b1 (j : Nat) d l q.1 q.2) (q, ((i : Nat) : Int)) = some (nth d.fin (runD d q ((l.take j).drop i)).toNat false)
  | 0, i, q, hm, hi, hq => by
    have hij : i = j := by omega
    subst hij
    have hf : 0 ≤ q ∧ q < (d.fin.length : Int) := by
      simp only [rightD, Bool.and_eq_true, decide_eq_true_eq] at h
      exact ⟨hq.1, by have := hq.2; omega⟩
    refine iter_done ?_
    simp only [whittleref23_taken_b1]
    rw [show decide (((i : Nat) : Int) < ((i : Nat) : Int)) = false from decide_eq_false (by omega), iteO_false, grd_mk hf]
    rw [List.drop_of_length_le (by rw [List.length_take]; omega)]; rfl
  | m + 1, i, q, hm, hi, hq => by
    have hs := dlt_ok h hq (nth l i (0 : UInt8))
    rw [part_step l (by omega) hj, runD, List.foldl_cons]
    refine iter_next ?_ (taken_loop h l hl j hj m (i + 1) (dlt d q (nth l i 0)) (by omega) (by omega) hs.nx)
    simp only [whittleref23_taken_b1]
    rw [show decide (((i : Nat) : Int) < ((j : Nat) : Int)) = true from decide_eq_true (by omega), iteO_true, grd_mk (show 0 ≤ q ∧ q < (d.next.length : Int) from hq), grd_mk (by omega), Int.toNat_natCast, grd_mk hs.cl, grd_mk hs.c, wrap64_of (by omega) (by omega)]
    rfl
theorem taken_eq {d : Dfa} (h : rightD d = true) (l : List UInt8) (hl : l.length ≤ 281474976710656) {i j : Nat} (hij : i ≤ j) (hj : j ≤ l.length) : whittleref23_taken d l (i : Nat) (j : Nat) = some (takD d l i j) := by
  unfold whittleref23_taken
  rw [grd_mk hl]
  exact taken_loop h l hl j hj _ i 0 rfl hij (ok0 h)
end Go.Proofs.YtkphkabfolkhoaaDoor
end

/- ScanL -/
section
/- The reference's Longest. Plain lemmas, no condition. -/
set_option linter.unusedVariables false
set_option linter.unusedSimpArgs false
namespace Go.Proofs.YtkphkabfolkhoaaDoor
open Go Go.E

/-- The greatest place above p, at most j, up to which a part that begins at p is taken. -/
def bestD (d : Dfa) (l : List UInt8) (p : Nat) : Nat → Option Nat
  | 0 => none
  | j + 1 => if p < j + 1 then (if takD d l p (j + 1) = true then some (j + 1) else bestD d l p j) else none
def ansL : Option Nat → Int × Bool × Int
  | some t => (((t : Nat) : Int), true, 0)
  | none => (0, false, 0)
theorem rlong_loop {d : Dfa} (h : rightD d = true) (l : List UInt8) (hl : l.length ≤ 281474976710656) (p : Nat) : ∀ j, j ≤ l.length → iter (fun q : Int => whittleref23_Longest_b1 ((p : Nat) : Int) d l q) ((j : Nat) : Int) = some (ansL (bestD d l p j))
  | 0, _ => by
    refine iter_done ?_
    simp only [whittleref23_Longest_b1]
    rw [show decide (((p : Nat) : Int) < ((0 : Nat) : Int)) = false from decide_eq_false (by omega), iteO_false]; rfl
  | j + 1, hj => by
    by_cases hp : p < j + 1
    · have ht := taken_eq h l hl (i := p) (j := j + 1) (by omega) hj
      by_cases hk : takD d l p (j + 1) = true
      · refine iter_done ?_
        simp only [whittleref23_Longest_b1, bestD]
        rw [if_pos hp, if_pos hk, show decide (((p : Nat) : Int) < ((j + 1 : Nat) : Int)) = true from decide_eq_true (by omega), iteO_true, bnd_some ht, hk, iteO_true]; rfl
      · rw [Bool.not_eq_true] at hk
        refine iter_next (s' := ((j : Nat) : Int)) ?_ ?_
        · simp only [whittleref23_Longest_b1]
          rw [show decide (((p : Nat) : Int) < ((j + 1 : Nat) : Int)) = true from decide_eq_true (by omega), iteO_true, bnd_some ht, hk, iteO_false, wrap64_of (by omega) (by omega), show (((j + 1 : Nat) : Int) - 1) = ((j : Nat) : Int) by omega]; rfl
        · rw [bestD, if_pos hp, if_neg (by rw [hk]; decide)]
          exact rlong_loop h l hl p j (by omega)
    · refine iter_done ?_
      simp only [whittleref23_Longest_b1, bestD]
      rw [if_neg hp, show decide (((p : Nat) : Int) < ((j + 1 : Nat) : Int)) = false from decide_eq_false (by omega), iteO_false]; rfl
/-- What Longest answers. -/
def longD (d : Dfa) (l : List UInt8) (p : Int) : Int × Bool × Int :=
  if rightD d = true ∧ 0 ≤ p ∧ p ≤ (l.length : Int) then (if 4096 < l.length then (0, false, 2) else ansL (bestD d l p.toNat l.length)) else (0, false, 1)
theorem rlong_eq (d : Dfa) (l : List UInt8) (p : Int) (hl : l.length ≤ 281474976710656) : whittleref23_Longest d l p = some (longD d l p) := by
  unfold whittleref23_Longest longD
  rw [grd_mk hl, bnd_some (right_eq d)]
  cases hr : rightD d with
  | false => rw [if_neg (by simp)]; rfl
  | true =>
    rw [Bool.not_true, iteO_false]
    by_cases c1 : p < 0
    · rw [decide_eq_true c1, iteO_true, if_neg (by omega)]
    rw [decide_eq_false c1, iteO_false]
    by_cases c2 : ((l.length : Nat) : Int) < p
    · rw [decide_eq_true c2, iteO_true, if_neg (by omega)]
    rw [decide_eq_false c2, iteO_false, if_pos ⟨rfl, by omega, by omega⟩]
    by_cases c3 : 4096 < l.length
    · rw [show decide (4096 < ((l.length : Nat) : Int)) = true from decide_eq_true (by omega), iteO_true, if_pos c3]
    · rw [show decide (4096 < ((l.length : Nat) : Int)) = false from decide_eq_false (by omega), iteO_false, if_neg c3]
      have := rlong_loop hr l hl p.toNat l.length (Nat.le_refl _)
      rwa [Int.toNat_of_nonneg (by omega)] at this
end Go.Proofs.YtkphkabfolkhoaaDoor
end

/- ScanK -/
section
/- The program's Longest. Plain lemmas, no condition. -/
set_option linter.unusedVariables false
set_option linter.unusedSimpArgs false
namespace Go.Proofs.YtkphkabfolkhoaaDoor
open Go Go.E

theorem part_snoc (l : List UInt8) {p i : Nat} (hp : p ≤ i) (hi : i < l.length) : (l.take (i + 1)).drop p = (l.take i).drop p ++ [nth l i 0] := by
  have h1 := take_split l hi (0 : UInt8)
  have h2 : l.take (i + 1) = l.take i ++ [nth l i 0] := by
    rw [List.take_add_one, getD_some l hi (0 : UInt8)]; rfl
  rw [h2, List.drop_append_of_le_length (by rw [List.length_take]; omega)]
theorem runD_snoc (d : Dfa) (q : Int) (l : List UInt8) (b : UInt8) : runD d q (l ++ [b]) = dlt d (runD d q l) b := by simp [runD, List.foldl_append]
/-- The place that the program holds. -/
def keepD (d : Dfa) (l : List UInt8) (p i : Nat) : Nat := match bestD d l p i with | some t => t | none => p
theorem keepD_step (d : Dfa) (l : List UInt8) {p i : Nat} (hp : p ≤ i) : keepD d l p (i + 1) = if takD d l p (i + 1) = true then i + 1 else keepD d l p i := by
  unfold keepD
  rw [bestD, if_pos (by omega)]
  split <;> split <;> simp_all
theorem llong_loop {d : Dfa} (h : rightD d = true) (l : List UInt8) (hl : l.length ≤ 281474976710656) (p : Nat) : ∀ (m i : Nat), l.length - i = m → p ≤ i → i ≤ l.length →
    iter (fun q : Int × Int × Int => longestL_b1 l d q.1 q.2.1 q.2.2) (((keepD d l p i : Nat) : Int), runD d 0 ((l.take i).drop p), ((i : Nat) : Int)) = some ((keepD d l p l.length : Nat) : Int)
  | 0, i, hm, hp, hi => by
    have e : i = l.length := by omega
    subst e
    refine iter_done ?_
    simp only [longestL_b1]
    rw [show decide (((l.length : Nat) : Int) < ((l.length : Nat) : Int)) = false from decide_eq_false (by omega), iteO_false]; rfl
  | m + 1, i, hm, hp, hi => by
    have hq : okS d (runD d 0 ((l.take i).drop p)) := runD_ok h _ (ok0 h)
    have hs := dlt_ok h hq (nth l i (0 : UInt8))
    have hk : nth d.fin (dlt d (runD d 0 ((l.take i).drop p)) (nth l i 0)).toNat false = takD d l p (i + 1) := by
      unfold takD; rw [part_snoc l hp (by omega), runD_snoc]
    refine iter_next (s' := (((keepD d l p (i + 1) : Nat) : Int), runD d 0 ((l.take (i + 1)).drop p), ((i + 1 : Nat) : Int))) ?_ (llong_loop h l hl p m (i + 1) (by omega) (by omega) (by omega))
    rw [part_snoc l hp (by omega), runD_snoc]
    simp only [longestL_b1]
    rw [show decide (((i : Nat) : Int) < ((l.length : Nat) : Int)) = true from decide_eq_true (by omega), iteO_true, grd_mk (show 0 ≤ runD d 0 ((l.take i).drop p) ∧ runD d 0 ((l.take i).drop p) < (d.next.length : Int) from hq), grd_mk (by omega), Int.toNat_natCast, grd_mk hs.cl, grd_mk hs.c]
    rw [show (nth (nth d.next (runD d 0 ((l.take i).drop p)).toNat ([] : List Int)) ((nth d.cls (nth l i (0 : UInt8)).toNat (0 : Int)).toNat) (0 : Int)) = dlt d (runD d 0 ((l.take i).drop p)) (nth l i 0) from rfl, grd_mk hs.f, hk, keepD_step d l hp, wrap64_of (by omega) (by omega)]
    cases takD d l p (i + 1) with
    | true => rw [iteO_true, bnd_some (show scan_Longest_1 (((i : Nat) : Int) + 1) = some true from rfl), iteO_true, longestL_j1, Int.toNat_natCast, wrap64_of (by omega) (by omega), if_pos rfl]; rfl
    | false => rw [iteO_false, longestL_j1, Int.toNat_natCast, wrap64_of (by omega) (by omega), if_neg (by decide)]; rfl
end Go.Proofs.YtkphkabfolkhoaaDoor
end

/- ScanM -/
section
/- The program's Longest is the reference's. Plain lemmas, no condition. -/
set_option linter.unusedVariables false
set_option linter.unusedSimpArgs false
namespace Go.Proofs.YtkphkabfolkhoaaDoor
open Go Go.E

theorem bestD_low (d : Dfa) (l : List UInt8) (p : Nat) : ∀ j, j ≤ p → bestD d l p j = none
  | 0, _ => rfl
  | j + 1, h => by rw [bestD, if_neg (by omega)]
theorem bestD_gt (d : Dfa) (l : List UInt8) (p : Nat) : ∀ (j t : Nat), bestD d l p j = some t → p < t
  | 0, _, h => by cases h
  | j + 1, t, h => by
    rw [bestD] at h
    split at h
    · split at h
      · cases h; assumption
      · exact bestD_gt d l p j t h
    · cases h
theorem longestL_eq {d : Dfa} (h : rightD d = true) (l : List UInt8) (hl : l.length ≤ 281474976710656) {p : Nat} (hp : p ≤ l.length) : longestL d l ((p : Nat) : Int) = some ((keepD d l p l.length : Nat) : Int) := by
  unfold longestL
  rw [grd_mk hl]
  have := llong_loop h l hl p _ p rfl (Nat.le_refl _) hp
  rw [keepD, bestD_low d l p p (Nat.le_refl _), List.drop_of_length_le (by rw [List.length_take]; omega)] at this
  exact this
theorem check0_eq (l : List UInt8) (hl : l.length ≤ 281474976710656) : scan_check l [] = some (if 4096 < l.length then 2 else 0) := by
  unfold scan_check
  rw [grd_mk hl]
  refine iter_done ?_
  simp only [scan_check_b1]
  rw [show decide (((0 : Nat) : Int) < (((([] : List Dfa)).length : Nat) : Int)) = false from decide_eq_false (by simp), iteO_false]
  by_cases c : 4096 < l.length
  · rw [show decide (4096 < ((l.length : Nat) : Int)) = true from decide_eq_true (by omega), iteO_true, if_pos c]; rfl
  · rw [show decide (4096 < ((l.length : Nat) : Int)) = false from decide_eq_false (by omega), iteO_false, if_neg c]; rfl
theorem long_eq (d : Dfa) (l : List UInt8) (p : Int) (hl : l.length ≤ 281474976710656) : scan_Longest d l p = some (longD d l p) := by
  unfold scan_Longest longD
  rw [grd_mk hl, bnd_some (check_eq d)]
  cases hr : rightD d with
  | false => rw [if_neg (by simp), if_neg (by simp)]; rfl
  | true =>
    rw [if_pos rfl, show decide ((0 : Int) ≠ 0) = false from rfl, iteO_false]
    by_cases c1 : p < 0
    · rw [decide_eq_true c1, iteO_true, if_neg (by omega)]
    rw [decide_eq_false c1, iteO_false]
    by_cases c2 : ((l.length : Nat) : Int) < p
    · rw [decide_eq_true c2, iteO_true, if_neg (by omega)]
    rw [decide_eq_false c2, iteO_false, if_pos ⟨rfl, by omega, by omega⟩, bnd_some (check0_eq l hl)]
    by_cases c3 : 4096 < l.length
    · rw [if_pos c3, if_pos c3]; rfl
    · rw [if_neg c3, if_neg c3, show decide ((0 : Int) ≠ 0) = false from rfl, iteO_false]
      obtain ⟨p, rfl⟩ := Int.eq_ofNat_of_zero_le (show 0 ≤ p by omega)
      rw [bnd_some (longestL_eq hr l hl (by omega)), Int.toNat_natCast]
      unfold keepD
      cases hb : bestD d l p l.length with
      | none => rw [show decide (((p : Nat) : Int) = ((p : Nat) : Int)) = true from decide_eq_true rfl, iteO_true]; rfl
      | some t =>
        have := bestD_gt d l p _ t hb
        rw [show decide (((t : Nat) : Int) = ((p : Nat) : Int)) = false from decide_eq_false (by omega), iteO_false]; rfl
end Go.Proofs.YtkphkabfolkhoaaDoor
end

/- ScanB -/
section
/- The reference's Before. Plain lemmas, no condition. -/
set_option linter.unusedVariables false
set_option linter.unusedSimpArgs false
namespace Go.Proofs.YtkphkabfolkhoaaDoor
open Go Go.E

theorem nth_range {n k : Nat} (h : k < n) : nth (List.range n) k 0 = k := by
  have h2 := getD_some (List.range n) (show k < (List.range n).length by simpa using h) (0 : Nat)
  rw [List.getElem?_range h] at h2; exact (Option.some.inj h2).symm
def anyTo (d : Dfa) (l : List UInt8) (i : Nat) : Bool := (List.range (i + 1)).any fun j => takD d l j i
def beforeD (d : Dfa) (l : List UInt8) : List Bool := (List.range (l.length + 1)).map (anyTo d l)
theorem rbef_in {d : Dfa} (h : rightD d = true) (l : List UInt8) (hl : l.length ≤ 4096) (out : List Bool) (ho : out.length ≤ 4097) (i : Nat) (hi : i ≤ l.length) :
    iter (fun q : Bool × Nat => whittleref23_Before_b2 i d l out q.1 q.2) (false, 0) = some (.inl (out ++ [anyTo d l i], i + 1)) := by
  obtain ⟨r, h1, rfl⟩ := iter_for (step := fun q : Bool × Nat => whittleref23_Before_b2 i d l out q.1 q.2) (fun s k => (s, k)) (List.range (i + 1)) 0 (fun pre s => s = pre.any fun j => takD d l j i) (fun r => r = .inl (out ++ [anyTo d l i], i + 1))
    (fun k s hk hI => by
      rw [List.length_range] at hk
      rw [nth_range hk]
      left
      refine ⟨s || takD d l k i, ?_, by rw [List.any_append, ← hI]; simp⟩
      simp only [whittleref23_Before_b2]
      rw [show decide (((k : Nat) : Int) ≤ ((i : Nat) : Int)) = true from decide_eq_true (by omega), iteO_true]
      cases s with
      | true => rw [iteO_true]; rfl
      | false => rw [iteO_false, bnd_some (taken_eq h l (by omega) (by omega) hi)]; rfl)
    (fun s hI => by
      rw [List.length_range]
      subst hI
      refine ⟨_, ?_, rfl⟩
      simp only [whittleref23_Before_b2]
      rw [show decide (((i + 1 : Nat) : Int) ≤ ((i : Nat) : Int)) = false from decide_eq_false (by omega), iteO_false, grd_mk (by simp; omega)]; rfl) (s0 := false) rfl
  exact h1
/-- What Before and After answer first. -/
def wrongD (d : Dfa) (l : List UInt8) : Int := if rightD d = true then (if 4096 < l.length then 2 else 0) else 1
theorem wrong_eq (d : Dfa) (l : List UInt8) (hl : l.length ≤ 281474976710656) : whittleref23_wrong d l = some (wrongD d l) := by
  unfold whittleref23_wrong wrongD
  rw [grd_mk hl, bnd_some (right_eq d)]
  cases rightD d with
  | false => rfl
  | true =>
    rw [Bool.not_true, iteO_false, if_pos rfl]
    by_cases c : 4096 < l.length
    · rw [show decide (4096 < ((l.length : Nat) : Int)) = true from decide_eq_true (by omega), iteO_true, if_pos c]
    · rw [show decide (4096 < ((l.length : Nat) : Int)) = false from decide_eq_false (by omega), iteO_false, if_neg c]
theorem rbef_eq (d : Dfa) (l : List UInt8) (hl : l.length ≤ 281474976710656) : whittleref23_Before d l = some (if wrongD d l = 0 then (beforeD d l, 0) else ([], wrongD d l)) := by
  unfold whittleref23_Before
  rw [grd_mk hl, bnd_some (wrong_eq d l hl)]
  by_cases hw : wrongD d l = 0
  · rw [hw, show decide ((0 : Int) ≠ 0) = false from rfl, iteO_false, if_pos rfl]
    have hr : rightD d = true := by
      by_cases h : rightD d = true
      · exact h
      · rw [wrongD, if_neg h] at hw; cases hw
    have h4 : l.length ≤ 4096 := by
      rw [wrongD, if_pos hr] at hw
      by_cases c : 4096 < l.length
      · rw [if_pos c] at hw; cases hw
      · omega
    obtain ⟨r, h1, rfl⟩ := iter_for (step := fun q : (List Bool) × Nat => whittleref23_Before_b1 l d q.1 q.2) (fun s k => (s, k)) (List.range (l.length + 1)) 0 (fun pre s => s = pre.map (anyTo d l)) (fun r => r = (beforeD d l, 0))
      (fun k s hk hI => by
        rw [List.length_range] at hk
        rw [nth_range hk]
        left
        have hs : s.length = k := by rw [hI, List.length_map, List.length_take, List.length_range]; omega
        refine ⟨s ++ [anyTo d l k], ?_, by rw [List.map_append, ← hI]; rfl⟩
        simp only [whittleref23_Before_b1]
        rw [show decide (((k : Nat) : Int) ≤ ((l.length : Nat) : Int)) = true from decide_eq_true (by omega), iteO_true]
        exact rbef_in hr l h4 s (by omega) k (by omega))
      (fun s hI => by
        rw [List.length_range]
        refine ⟨(s, 0), ?_, by rw [hI]; rfl⟩
        simp only [whittleref23_Before_b1]
        rw [show decide (((l.length + 1 : Nat) : Int) ≤ ((l.length : Nat) : Int)) = false from decide_eq_false (by omega), iteO_false]; rfl) (s0 := []) rfl
    exact h1
  · rw [decide_eq_true hw, iteO_true, if_neg hw]
end Go.Proofs.YtkphkabfolkhoaaDoor
end

/- ScanA -/
section
/- The reference's After. Plain lemmas, no condition. -/
set_option linter.unusedVariables false
set_option linter.unusedSimpArgs false
namespace Go.Proofs.YtkphkabfolkhoaaDoor
open Go Go.E

def anyFrom (d : Dfa) (l : List UInt8) (i : Nat) : Bool := (List.range (l.length + 1 - i)).any fun j => takD d l i (i + j)
def afterD (d : Dfa) (l : List UInt8) : List Bool := (List.range (l.length + 1)).map (anyFrom d l)
theorem raft_in {d : Dfa} (h : rightD d = true) (l : List UInt8) (hl : l.length ≤ 4096) (out : List Bool) (ho : out.length ≤ 4097) (i : Nat) (hi : i ≤ l.length) :
    iter (fun q : Bool × Nat => whittleref23_After_b2 l d i out q.1 q.2) (false, i) = some (.inl (out ++ [anyFrom d l i], i + 1)) := by
  obtain ⟨r, h1, rfl⟩ := iter_for (step := fun q : Bool × Nat => whittleref23_After_b2 l d i out q.1 q.2) (fun s k => (s, i + k)) (List.range (l.length + 1 - i)) 0 (fun pre s => s = pre.any fun j => takD d l i (i + j)) (fun r => r = .inl (out ++ [anyFrom d l i], i + 1))
    (fun k s hk hI => by
      rw [List.length_range] at hk
      rw [nth_range hk]
      left
      refine ⟨s || takD d l i (i + k), ?_, by rw [List.any_append, ← hI]; simp⟩
      simp only [whittleref23_After_b2]
      rw [show decide (((i + k : Nat) : Int) ≤ ((l.length : Nat) : Int)) = true from decide_eq_true (by omega), iteO_true]
      cases s with
      | true => rw [iteO_true]; rfl
      | false => rw [iteO_false, bnd_some (taken_eq h l (by omega) (by omega) (by omega))]; rfl)
    (fun s hI => by
      rw [List.length_range]
      subst hI
      refine ⟨_, ?_, rfl⟩
      simp only [whittleref23_After_b2]
      rw [show decide (((i + (l.length + 1 - i) : Nat) : Int) ≤ ((l.length : Nat) : Int)) = false from decide_eq_false (by omega), iteO_false, grd_mk (by simp; omega)]; rfl) (s0 := false) rfl
  exact h1
theorem raft_eq (d : Dfa) (l : List UInt8) (hl : l.length ≤ 281474976710656) : whittleref23_After d l = some (if wrongD d l = 0 then (afterD d l, 0) else ([], wrongD d l)) := by
  unfold whittleref23_After
  rw [grd_mk hl, bnd_some (wrong_eq d l hl)]
  by_cases hw : wrongD d l = 0
  · rw [hw, show decide ((0 : Int) ≠ 0) = false from rfl, iteO_false, if_pos rfl]
    have hr : rightD d = true := by
      by_cases h : rightD d = true
      · exact h
      · rw [wrongD, if_neg h] at hw; cases hw
    have h4 : l.length ≤ 4096 := by
      rw [wrongD, if_pos hr] at hw
      by_cases c : 4096 < l.length
      · rw [if_pos c] at hw; cases hw
      · omega
    obtain ⟨r, h1, rfl⟩ := iter_for (step := fun q : (List Bool) × Nat => whittleref23_After_b1 l d q.1 q.2) (fun s k => (s, k)) (List.range (l.length + 1)) 0 (fun pre s => s = pre.map (anyFrom d l)) (fun r => r = (afterD d l, 0))
      (fun k s hk hI => by
        rw [List.length_range] at hk
        rw [nth_range hk]
        left
        have hs : s.length = k := by rw [hI, List.length_map, List.length_take, List.length_range]; omega
        refine ⟨s ++ [anyFrom d l k], ?_, by rw [List.map_append, ← hI]; rfl⟩
        simp only [whittleref23_After_b1]
        rw [show decide (((k : Nat) : Int) ≤ ((l.length : Nat) : Int)) = true from decide_eq_true (by omega), iteO_true]
        exact raft_in hr l h4 s (by omega) k (by omega))
      (fun s hI => by
        rw [List.length_range]
        refine ⟨(s, 0), ?_, by rw [hI]; rfl⟩
        simp only [whittleref23_After_b1]
        rw [show decide (((l.length + 1 : Nat) : Int) ≤ ((l.length : Nat) : Int)) = false from decide_eq_false (by omega), iteO_false]; rfl) (s0 := []) rfl
    exact h1
  · rw [decide_eq_true hw, iteO_true, if_neg hw]
end Go.Proofs.YtkphkabfolkhoaaDoor
end

/- Sm -/
section
/- Rules by which simp, with omega for what is asked, follows a decompiled function. Plain lemmas, no condition. -/
set_option linter.unusedVariables false
set_option linter.unusedSimpArgs false
namespace Go.E
open Go
theorem iteO_dt {α : Type} {p : Prop} [Decidable p] {a b : Option α} (h : p) : iteO (decide p) a b = a := by rw [decide_eq_true h]; rfl
theorem iteO_df {α : Type} {p : Prop} [Decidable p] {a b : Option α} (h : ¬ p) : iteO (decide p) a b = b := by rw [decide_eq_false h]; rfl
theorem bnd_mk {α β : Type} {x : α} {f : α → Option β} : bnd (some x) f = f x := rfl
theorem iteO_nt {α : Type} {a b : Option α} : iteO (!true) a b = b := rfl
theorem iteO_nf {α : Type} {a b : Option α} : iteO (!false) a b = a := rfl
/-- Rounds that count up through n, whose state stands in a relation to the number. -/
theorem iter_up {S T R : Type} {step : T → Option (T ⊕ R)} (g : S → Nat → T) (n : Nat) (I : Nat → S → Prop) (Q : R → Prop)
    (hs : ∀ k s, k < n → I k s → (∃ s', step (g s k) = some (.inl (g s' (k + 1))) ∧ I (k + 1) s') ∨ ∃ r, step (g s k) = some (.inr r) ∧ Q r)
    (hd : ∀ s, I n s → ∃ r, step (g s n) = some (.inr r) ∧ Q r) {s0 : S} (h0 : I 0 s0) : ∃ r, iter step (g s0 0) = some r ∧ Q r := by
  have key : ∀ m k s, n - k = m → k ≤ n → I k s → ∃ r, iter step (g s k) = some r ∧ Q r := by
    intro m
    induction m with
    | zero =>
      intro k s hm hk hI
      have hk : k = n := by omega
      subst hk
      obtain ⟨r, h1, h2⟩ := hd s hI
      exact ⟨r, iter_done h1, h2⟩
    | succ m ih =>
      intro k s hm hk hI
      rcases hs k s (by omega) hI with ⟨s', h1, h2⟩ | ⟨r, h1, h2⟩
      · obtain ⟨r, h3, h4⟩ := ih (k + 1) s' (by omega) (by omega) h2
        exact ⟨r, iter_next h1 h3, h4⟩
      · exact ⟨r, iter_done h1, h2⟩
  exact key _ 0 s0 rfl (Nat.zero_le _) h0
theorem nth_set {α : Type} (l : List α) (i j : Nat) (x d : α) : nth (l.set i x) j d = if i = j ∧ j < l.length then x else nth l j d := by
  unfold nth
  simp only [List.getD_eq_getElem?_getD, List.getElem?_set]
  by_cases h : i = j
  · subst h
    by_cases k : i < l.length
    · simp [k]
    · simp [k]
  · simp [h]
theorem nth_map {α β : Type} (f : α → β) (l : List α) (i : Nat) (d : α) (e : β) (h : i < l.length) : nth (l.map f) i e = f (nth l i d) := by
  unfold nth
  simp [List.getD_eq_getElem?_getD, List.getElem?_map, List.getElem?_eq_getElem h]
theorem nth_rep {α : Type} (n i : Nat) (x : α) : nth (List.replicate n x) i x = x := by
  unfold nth
  rw [List.getD_eq_getElem?_getD, List.getElem?_replicate]
  split <;> rfl
/-- Lists of one length whose things are the same are one. -/
theorem nth_ext {α : Type} (d : α) {l m : List α} (hl : l.length = m.length) (h : ∀ i, i < l.length → nth l i d = nth m i d) : l = m := by
  apply List.ext_getElem hl
  intro i h1 h2
  have a := h i h1
  have b := getD_some l h1 d
  have c := getD_some m h2 d
  rw [List.getElem?_eq_getElem h1] at b
  rw [List.getElem?_eq_getElem h2] at c
  rw [Option.some.inj b, a, ← Option.some.inj c]
theorem any_range_succ (n : Nat) (p : Nat → Bool) : (List.range (n + 1)).any p = ((List.range n).any p || p n) := by
  rw [List.range_succ, List.any_append]; simp
theorem any_range {n : Nat} {p : Nat → Bool} : (List.range n).any p = true ↔ ∃ j, j < n ∧ p j = true := by
  simp [List.any_eq_true, List.mem_range]
end Go.E
end

/- ScanV -/
section
/- The program's Before. Plain lemmas, no condition. -/
set_option linter.unusedVariables false
set_option linter.unusedSimpArgs false
namespace Go.Proofs.YtkphkabfolkhoaaDoor
open Go Go.E

/-- Does a text from some place ahead lead to a state? -/
def ledB (d : Dfa) (l : List UInt8) (m i q : Nat) : Bool := (List.range m).any fun j => decide (runD d 0 ((l.take i).drop j) = ((q : Nat) : Int))
theorem led_zero (d : Dfa) (l : List UInt8) (i q : Nat) : ledB d l (i + 1) i q = (ledB d l i i q || decide (q = 0)) := by
  unfold ledB
  rw [any_range_succ, List.drop_of_length_le (by rw [List.length_take]; omega)]
  congr 1
  rw [decide_eq_decide]; show (0 : Int) = _ ↔ _; omega
theorem led_any {d : Dfa} (h : rightD d = true) (l : List UInt8) (i : Nat) : (List.range d.next.length).any (fun q => ledB d l (i + 1) i q && nth d.fin q false) = anyTo d l i := by
  rw [Bool.eq_iff_iff, any_range, anyTo, any_range]
  constructor
  · rintro ⟨q, h1, h2⟩
    rw [Bool.and_eq_true, ledB, any_range] at h2
    obtain ⟨⟨j, h3, h4⟩, h5⟩ := h2
    refine ⟨j, h3, ?_⟩
    rw [decide_eq_true_eq] at h4
    rw [takD, h4, Int.toNat_natCast]; exact h5
  · rintro ⟨j, h1, h2⟩
    have h3 := runD_ok h ((l.take i).drop j) (ok0 h)
    refine ⟨(runD d 0 ((l.take i).drop j)).toNat, by have := h3.1; have := h3.2; omega, ?_⟩
    rw [Bool.and_eq_true]
    refine ⟨?_, h2⟩
    rw [ledB, any_range]
    exact ⟨j, h1, decide_eq_true (by rw [Int.toNat_of_nonneg h3.1])⟩
theorem led_next {d : Dfa} (h : rightD d = true) (l : List UInt8) {i : Nat} (hi : i < l.length) (q' : Nat) :
    (List.range d.next.length).any (fun q => ledB d l (i + 1) i q && decide (dlt d q (nth l i 0) = ((q' : Nat) : Int))) = ledB d l (i + 1) (i + 1) q' := by
  rw [Bool.eq_iff_iff, any_range, ledB, any_range]
  constructor
  · rintro ⟨q, h1, h2⟩
    rw [Bool.and_eq_true, ledB, any_range] at h2
    obtain ⟨⟨j, h3, h4⟩, h5⟩ := h2
    refine ⟨j, h3, ?_⟩
    rw [decide_eq_true_eq] at h4
    rw [part_snoc l (by omega) hi, runD_snoc, h4]; exact h5
  · rintro ⟨j, h1, h2⟩
    have h3 := runD_ok h ((l.take i).drop j) (ok0 h)
    refine ⟨(runD d 0 ((l.take i).drop j)).toNat, by have := h3.1; have := h3.2; omega, ?_⟩
    rw [part_snoc l (by omega) hi, runD_snoc] at h2
    rw [Bool.and_eq_true]
    refine ⟨?_, by rw [Int.toNat_of_nonneg h3.1]; exact h2⟩
    rw [ledB, any_range]
    exact ⟨j, h1, decide_eq_true (by rw [Int.toNat_of_nonneg h3.1])⟩

structure BefIn (d : Dfa) (l : List UInt8) (now r0 : List Bool) (i k : Nat) (s : List Bool × List Bool) : Prop where
  rl : s.1.length = l.length + 1
  nl : s.2.length = d.next.length
  ro : ∀ m, m ≠ i → nth s.1 m false = nth r0 m false
  ri : nth s.1 i false = (List.range k).any fun q => nth now q false && nth d.fin q false
  ne : i < l.length → ∀ q', nth s.2 q' false = (List.range k).any fun q => nth now q false && decide (dlt d q (nth l i 0) = ((q' : Nat) : Int))

theorem bef_in {d : Dfa} (h : rightD d = true) (l : List UInt8) (hl : l.length ≤ 4096) (now r0 nx0 : List Bool) (i : Nat) (hi : i ≤ l.length) (hn : now.length = d.next.length)
    (h0 : BefIn d l (now.set 0 true) r0 i 0 (r0, nx0)) :
    ∃ s, iter (fun q : (List Bool) × (List Bool) × Nat => scan_Before_b2 d now i l q.1 q.2.1 q.2.2) (r0, nx0, 0) = some (.inl (s.1, s.2, now.set 0 true, i + 1)) ∧ BefIn d l (now.set 0 true) r0 i d.next.length s := by
  have hfl : d.fin.length = d.next.length := by
    simp only [rightD, Bool.and_eq_true, decide_eq_true_eq] at h; exact h.2
  have hnl : (now.set 0 true).length = d.next.length := by rw [List.length_set]; exact hn
  obtain ⟨r, h1, s, rfl, h2⟩ := iter_up (step := fun q : (List Bool) × (List Bool) × Nat => scan_Before_b2 d now i l q.1 q.2.1 q.2.2) (fun (s : List Bool × List Bool) k => (s.1, s.2, k)) d.next.length
    (fun k s => BefIn d l (now.set 0 true) r0 i k s) (fun r => ∃ s : List Bool × List Bool, r = .inl (s.1, s.2, now.set 0 true, i + 1) ∧ BefIn d l (now.set 0 true) r0 i d.next.length s)
    (fun k s hk hI => by
      left
      obtain ⟨r, nx⟩ := s
      have hrl := hI.rl; have hnx := hI.nl
      simp only at hrl hnx
      simp only [scan_Before_b2]
      simp (disch := omega) only [List.length_replicate, iteO_dt, grd_mk, hnl]
      cases hc : nth (now.set 0 true) k false with
      | false =>
        refine ⟨(r, nx), rfl, hI.rl, hI.nl, hI.ro, ?_, ?_⟩
        · rw [any_range_succ, hc, hI.ri]; simp
        · intro hil q'; rw [any_range_succ, hc, hI.ne hil]; simp
      | true =>
        have hq : okS d ((k : Nat) : Int) := ⟨by omega, by omega⟩
        rw [iteO_nt]
        -- what the mark becomes, in one form
        have e : ∀ b, b = (nth r i false || nth d.fin k false) → ∃ s', scan_Before_j3 i l k d nx (r.set i b) = some (.inl (s'.1, s'.2, k + 1)) ∧ BefIn d l (now.set 0 true) r0 i (k + 1) s' := by
          intro b hb
          have hR : nth (r.set i b) i false = (List.range (k + 1)).any fun q => nth (now.set 0 true) q false && nth d.fin q false := by
            rw [nth_set, if_pos ⟨rfl, by omega⟩, any_range_succ, hc, hb, hI.ri, Bool.true_and]
          have hO : ∀ m, m ≠ i → nth (r.set i b) m false = nth r0 m false := fun m hm => by
            rw [nth_set, if_neg (by omega)]; exact hI.ro m hm
          by_cases hil : i < l.length
          · have hs := dlt_ok h hq (nth l i (0 : UInt8))
            have hcl := hs.cl; have hc1 := hs.c; have hnx1 := hs.nx
            have hb := UInt8.toNat_lt (nth l i (0 : UInt8))
            rw [Int.toNat_natCast] at hc1
            simp only [scan_Before_j3, scan_Before_j2]
            rw [iteO_dt (by omega), grd_mk hk, grd_mk hcl, grd_mk hc1]
            rw [show (nth (nth d.next k ([] : List Int)) ((nth d.cls (nth l i (0 : UInt8)).toNat (0 : Int)).toNat) (0 : Int)) = dlt d ((k : Nat) : Int) (nth l i 0) by unfold dlt; rw [Int.toNat_natCast]]
            rw [grd_mk (by have := hnx1.1; have := hnx1.2; omega)]
            refine ⟨(r.set i b, nx.set (dlt d ((k : Nat) : Int) (nth l i 0)).toNat true), rfl, by rw [List.length_set]; exact hrl, by rw [List.length_set]; exact hnx, hO, hR, ?_⟩
            intro _ q'
            rw [any_range_succ, hc, ← hI.ne hil, Bool.true_and, nth_set]
            by_cases hq' : dlt d ((k : Nat) : Int) (nth l i 0) = ((q' : Nat) : Int)
            · rw [if_pos ⟨by omega, by have := hnx1.2; omega⟩, decide_eq_true hq', Bool.or_true]
            · rw [if_neg (by have := hnx1.1; omega), decide_eq_false hq', Bool.or_false]
          · simp only [scan_Before_j3, scan_Before_j2]
            rw [iteO_df (by omega)]
            exact ⟨(r.set i b, nx), rfl, by rw [List.length_set]; exact hrl, hnx, hO, hR, fun hx => absurd hx hil⟩
        cases hr : nth r i false with
        | true => rw [iteO_true]; exact e true (by rw [hr]; rfl)
        | false => rw [iteO_false]; exact e _ (by rw [hr]; rfl))
    (fun s hI => by
      refine ⟨_, ?_, s, rfl, hI⟩
      simp only [scan_Before_b2]
      rw [List.length_replicate, iteO_df (by omega)]; rfl) (s0 := (r0, nx0)) h0
  exact ⟨s, h1, h2⟩
structure BefOut (d : Dfa) (l : List UInt8) (i : Nat) (s : List Bool × List Bool × List Bool) : Prop where
  rl : s.1.length = l.length + 1
  nl : s.2.1.length = d.next.length
  xl : s.2.2.length = d.next.length
  ri : ∀ m, nth s.1 m false = (decide (m < i) && anyTo d l m)
  no : i ≤ l.length → ∀ q, nth s.2.1 q false = ledB d l i i q
theorem rightD_next {d : Dfa} (h : rightD d = true) : 1 ≤ d.next.length ∧ d.next.length ≤ 1024 ∧ d.fin.length = d.next.length := by
  simp only [rightD, Bool.and_eq_true, decide_eq_true_eq] at h; omega
theorem wrongD0 {d : Dfa} {l : List UInt8} (hw : wrongD d l = 0) : rightD d = true ∧ l.length ≤ 4096 := by
  have hr : rightD d = true := by
    by_cases h : rightD d = true
    · exact h
    · rw [wrongD, if_neg h] at hw; cases hw
  refine ⟨hr, ?_⟩
  rw [wrongD, if_pos hr] at hw
  by_cases c : 4096 < l.length
  · rw [if_pos c] at hw; cases hw
  · omega
theorem bef_j1 {d : Dfa} (h : rightD d = true) (l : List UInt8) (hl : l.length ≤ 4096) : scan_Before_j1 l d = some (beforeD d l, 0) := by
  obtain ⟨hn1, hn2, hfl⟩ := rightD_next h
  unfold scan_Before_j1
  obtain ⟨r, h1, rfl⟩ := iter_up (step := fun q : (List Bool) × (List Bool) × (List Bool) × Nat => scan_Before_b1 l d q.1 q.2.1 q.2.2.1 q.2.2.2) (fun (s : List Bool × List Bool × List Bool) k => (s.1, s.2.1, s.2.2, k)) (l.length + 1)
    (fun k s => BefOut d l k s) (fun r => r = (beforeD d l, 0))
    (fun k s hk hI => by
      left
      obtain ⟨r, now, nx⟩ := s
      have hrl := hI.rl; have hnl := hI.nl; have hxl := hI.xl
      simp only at hrl hnl hxl
      simp only [scan_Before_b1]
      rw [List.length_replicate, iteO_dt (by omega), grd_mk (by omega)]
      have hno : ∀ q, q < d.next.length → nth (now.set 0 true) q false = ledB d l (k + 1) k q := fun q hq => by
        rw [led_zero, nth_set]
        by_cases h0 : q = 0
        · rw [if_pos (by omega), decide_eq_true h0, Bool.or_true]
        · rw [if_neg (by omega), decide_eq_false h0, Bool.or_false]; exact hI.no (by omega) q
      have key : ∀ f : Nat → Bool, ((List.range d.next.length).any fun q => nth (now.set 0 true) q false && f q) = (List.range d.next.length).any fun q => ledB d l (k + 1) k q && f q := fun f => by
        rw [Bool.eq_iff_iff, any_range, any_range]
        constructor
        · rintro ⟨q, h1, h2⟩; exact ⟨q, h1, by rw [← hno q h1]; exact h2⟩
        · rintro ⟨q, h1, h2⟩; exact ⟨q, h1, by rw [hno q h1]; exact h2⟩
      obtain ⟨s, h2, h3⟩ := bef_in h l hl now r (nx.take 0 ++ List.replicate (nx.length - 0) false) k (by omega) hnl
        ⟨hrl, by simp [hxl], fun _ _ => rfl, by rw [hI.ri]; simp, fun _ q' => by rw [List.take_zero, List.nil_append, nth_rep]; rfl⟩
      rw [h2]
      refine ⟨(s.1, s.2, now.set 0 true), rfl, h3.rl, h3.nl, by rw [List.length_set]; exact hnl, fun m => ?_, fun hk2 q => ?_⟩
      · by_cases hm : m = k
        · subst hm
          show nth s.1 m false = _
          rw [h3.ri, key, led_any h]
          simp
        · show nth s.1 m false = _
          rw [h3.ro m hm, hI.ri m]
          congr 1
          rw [decide_eq_decide]; omega
      · show nth s.2 q false = _
        rw [h3.ne (by omega) q, key, led_next h l (by omega)])
    (fun s hI => by
      obtain ⟨r, now, nx⟩ := s
      have hrl := hI.rl
      simp only at hrl
      refine ⟨(r, 0), ?_, ?_⟩
      · simp only [scan_Before_b1]
        rw [List.length_replicate, iteO_df (by omega)]; rfl
      · congr 1
        refine nth_ext false (by rw [hrl, beforeD]; simp) fun m hm => ?_
        rw [hrl] at hm
        have := hI.ri m
        simp only at this
        rw [this, decide_eq_true hm, Bool.true_and, beforeD, nth_map (anyTo d l) _ m 0 false (by simpa using hm), nth_range hm])
    (s0 := (List.replicate (l.length + 1) false, List.replicate d.next.length false, List.replicate d.next.length false))
    ⟨by simp, by simp, by simp, fun m => by simp [nth_rep], fun _ q => by show nth (List.replicate _ false) q false = _; rw [nth_rep]; simp [ledB]⟩
  exact h1
theorem checkL_eq (l : List UInt8) (hl : l.length ≤ 281474976710656) (ds : List Dfa) : scan_check l ds = some (if ds.all rightD = true then (if 4096 < l.length then 2 else 0) else 1) := by
  unfold scan_check
  rw [grd_mk hl]
  obtain ⟨r, h1, rfl⟩ := iter_up (step := fun q : Nat => scan_check_b1 ds l q) (fun (_ : Unit) k => k) ds.length (fun k _ => (ds.take k).all rightD = true) (fun r => r = if ds.all rightD = true then (if 4096 < l.length then 2 else 0) else 1)
    (fun k s hk hI => by
      simp only [scan_check_b1]
      rw [iteO_dt (by omega), check_eq, bnd_mk]
      cases hr : rightD (nth ds k Dfa.zero) with
      | true => left; rw [if_pos rfl, iteO_df (by omega)]; exact ⟨(), rfl, by rw [take_snoc ds hk Dfa.zero, all_snoc, hI, hr]; rfl⟩
      | false =>
        right; rw [if_neg (by simp), iteO_dt (by omega)]
        exact ⟨1, rfl, by rw [if_neg]; rw [all_false_of hk Dfa.zero hr]; simp⟩)
    (fun s hI => by
      rw [List.take_length] at hI
      simp only [scan_check_b1]
      rw [iteO_df (by omega), if_pos hI]
      by_cases c : 4096 < l.length
      · rw [iteO_dt (by omega), if_pos c]; exact ⟨_, rfl, rfl⟩
      · rw [iteO_df (by omega), if_neg c]; exact ⟨_, rfl, rfl⟩) (s0 := ()) rfl
  exact h1
theorem checkW_eq (d : Dfa) (l : List UInt8) (hl : l.length ≤ 281474976710656) : scan_check l [d] = some (wrongD d l) := by
  rw [checkL_eq l hl]; unfold wrongD; simp
theorem bef_eq (d : Dfa) (l : List UInt8) (hl : l.length ≤ 281474976710656) : scan_Before d l = some (if wrongD d l = 0 then (beforeD d l, 0) else ([], wrongD d l)) := by
  unfold scan_Before
  rw [grd_mk hl, checkW_eq d l hl, bnd_mk]
  by_cases hw : wrongD d l = 0
  · obtain ⟨hr, h4⟩ := wrongD0 hw
    obtain ⟨hn1, hn2, hfl⟩ := rightD_next hr
    rw [if_pos hw, iteO_df (by omega), grd_mk (by omega), grd_mk (by omega), grd_mk (by omega)]
    exact bef_j1 hr l h4
  · rw [if_neg hw, iteO_dt hw]
end Go.Proofs.YtkphkabfolkhoaaDoor
end

/- ScanW -/
section
/- The program's After. Plain lemmas, no condition. -/
set_option linter.unusedVariables false
set_option linter.unusedSimpArgs false
namespace Go.Proofs.YtkphkabfolkhoaaDoor
open Go Go.E

/-- Does some beginning of a text lead from a state to an end? -/
def endsF (d : Dfa) : List UInt8 → Int → Bool
  | [], q => nth d.fin q.toNat false
  | b :: l, q => nth d.fin q.toNat false || endsF d l (dlt d q b)
theorem any_cons_range (n : Nat) (p : Nat → Bool) : (List.range (n + 1)).any p = (p 0 || (List.range n).any fun j => p (j + 1)) := by
  rw [Bool.eq_iff_iff, Bool.or_eq_true, any_range, any_range]
  constructor
  · rintro ⟨j, h1, h2⟩
    cases j with
    | zero => exact .inl h2
    | succ j => exact .inr ⟨j, by omega, h2⟩
  · rintro (h | ⟨j, h1, h2⟩)
    · exact ⟨0, by omega, h⟩
    · exact ⟨j + 1, by omega, h2⟩
theorem endsF_any (d : Dfa) : ∀ (l : List UInt8) (q : Int), endsF d l q = (List.range (l.length + 1)).any fun j => nth d.fin (runD d q (l.take j)).toNat false
  | [], q => by simp [endsF, runD]
  | b :: l, q => by rw [endsF, endsF_any d l, List.length_cons, any_cons_range (l.length + 1)]; rfl
theorem anyFrom_ends (d : Dfa) (l : List UInt8) {i : Nat} (hi : i ≤ l.length) : anyFrom d l i = endsF d (l.drop i) 0 := by
  rw [endsF_any, anyFrom, List.length_drop, show l.length + 1 - i = l.length - i + 1 by omega]
  congr 1; funext j
  unfold takD
  congr 3
  rw [List.drop_take, show i + j - i = j by omega]

structure AftIn (d : Dfa) (now : List Bool) (b : UInt8) (k : Nat) (nx : List Bool) : Prop where
  len : nx.length = d.next.length
  it : ∀ q, q < k → nth nx q false = (nth d.fin q false || nth now (dlt d ((q : Nat) : Int) b).toNat false)
theorem aft_in {d : Dfa} (h : rightD d = true) (r now nx : List Bool) (i : Nat) (b : UInt8) (hn : now.length = d.next.length) (hx : nx.length = d.next.length) (hi : i < r.length) :
    ∃ nx', scan_After_r4 d r now nx ((i : Nat) : Int) b = some (0, (r.set i (nth nx' 0 false)), nx', now) ∧ AftIn d now b d.next.length nx' := by
  obtain ⟨hn1, hn2, hfl⟩ := rightD_next h
  unfold scan_After_r4
  obtain ⟨r', h1, s, rfl, h2⟩ := iter_up (step := fun q : (List Bool) × Nat => scan_After_b1 d b now ((i : Nat) : Int) r q.1 q.2) (fun (s : List Bool) k => (s, k)) d.next.length
    (fun k s => AftIn d now b k s) (fun z => ∃ s : List Bool, z = (0, (r.set i (nth s 0 false)), s, now) ∧ AftIn d now b d.next.length s)
    (fun k s hk hI => by
      left
      have hl := hI.len
      simp only [scan_After_b1, scan_After_j2]
      rw [iteO_dt (by omega)]
      have key : ∀ x, x = (nth d.fin k false || nth now (dlt d ((k : Nat) : Int) b).toNat false) → AftIn d now b (k + 1) (s.set k x) := fun x hx => ⟨by rw [List.length_set]; exact hl, fun q hq => by
        rw [nth_set]
        by_cases e : k = q
        · subst e; rw [if_pos ⟨rfl, by omega⟩]; exact hx
        · rw [if_neg (by omega)]; exact hI.it q (by omega)⟩
      cases hf : nth d.fin k false with
      | true => rw [iteO_true, grd_mk (by omega)]; exact ⟨_, rfl, key _ (by rw [hf]; rfl)⟩
      | false =>
        have hq : okS d ((k : Nat) : Int) := ⟨by omega, by omega⟩
        have hs := dlt_ok h hq b
        have hcl := hs.cl; have hc1 := hs.c; have hnx1 := hs.nx
        rw [Int.toNat_natCast] at hc1
        rw [iteO_false, grd_mk hk, grd_mk hcl, grd_mk hc1]
        rw [show (nth (nth d.next k ([] : List Int)) ((nth d.cls b.toNat (0 : Int)).toNat) (0 : Int)) = dlt d ((k : Nat) : Int) b by unfold dlt; rw [Int.toNat_natCast]]
        rw [grd_mk (by have := hnx1.1; have := hnx1.2; omega), grd_mk (by omega)]
        exact ⟨_, rfl, key _ (by rw [hf]; rfl)⟩)
    (fun s hI => by
      have hl := hI.len
      refine ⟨_, ?_, s, rfl, hI⟩
      simp only [scan_After_b1]
      rw [iteO_df (by omega), grd_mk (by omega), grd_mk (by omega), Int.toNat_natCast]; rfl) (s0 := nx) ⟨hx, fun q hq => by omega⟩
  exact ⟨s, h1, h2⟩
structure AftOut (d : Dfa) (l : List UInt8) (i : Nat) (s : List Bool × List Bool × List Bool) : Prop where
  rl : s.1.length = l.length + 1
  nl : s.2.1.length = d.next.length
  xl : s.2.2.length = d.next.length
  ri : ∀ m, i ≤ m → m ≤ l.length → nth s.1 m false = anyFrom d l m
  no : ∀ q, q < d.next.length → nth s.2.1 q false = endsF d (l.drop i) ((q : Nat) : Int)
theorem drop_nth (l : List UInt8) {i : Nat} (hi : i < l.length) : l.drop i = nth l i 0 :: l.drop (i + 1) := by
  have h := getD_some l hi (0 : UInt8)
  rw [List.getElem?_eq_getElem hi] at h
  rw [List.drop_eq_getElem_cons hi, Option.some.inj h]
theorem aft_loop {d : Dfa} (h : rightD d = true) (l : List UInt8) (hl : l.length ≤ 4096) : ∀ (i : Nat) (s : List Bool × List Bool × List Bool), i ≤ l.length → AftOut d l i s →
    ∃ s', iter (fun q : Int × (Nat × (List Bool) × (List Bool) × (List Bool)) => slices_Backward_byte_byte_1_b1 l (stepY (fun (q : (List Bool) × (List Bool) × (List Bool)) (x : Int × UInt8) => scan_After_r4 d q.1 q.2.1 q.2.2 x.1 x.2)) q.1 q.2) (((i : Nat) : Int) - 1, (0, s)) = some (0, s') ∧ AftOut d l 0 s'
  | 0, s, hi, hI => by
    refine ⟨s, iter_done ?_, hI⟩
    simp only [slices_Backward_byte_byte_1_b1]
    rw [iteO_df (by omega)]; rfl
  | i + 1, s, hi, hI => by
    obtain ⟨r, now, nx⟩ := s
    have hrl := hI.rl; have hnl := hI.nl; have hxl := hI.xl
    simp only at hrl hnl hxl
    obtain ⟨nx', h1, h2⟩ := aft_in h r now nx i (nth l i 0) hnl hxl (by omega)
    obtain ⟨hn1, hn2, hfl⟩ := rightD_next h
    have hno : ∀ q, q < d.next.length → nth nx' q false = endsF d (l.drop i) ((q : Nat) : Int) := fun q hq => by
      have hs := dlt_ok h (s := ((q : Nat) : Int)) ⟨by omega, by omega⟩ (nth l i 0)
      rw [h2.it q hq, drop_nth l (by omega), endsF, Int.toNat_natCast]
      have h3 := hI.no (dlt d ((q : Nat) : Int) (nth l i 0)).toNat (by have := hs.nx.1; have := hs.nx.2; omega)
      simp only at h3
      rw [h3, Int.toNat_of_nonneg hs.nx.1]
    have hI' : AftOut d l i ((r.set i (nth nx' 0 false)), nx', now) := ⟨by show (List.set ..).length = _; rw [List.length_set]; exact hrl, h2.len, hnl, fun m hm hm2 => by
      show nth (List.set ..) m false = _
      rw [nth_set]
      by_cases e : i = m
      · subst e; rw [if_pos ⟨rfl, by omega⟩, hno 0 (by omega), anyFrom_ends d l hm2]; rfl
      · rw [if_neg (by omega)]; exact hI.ri m (by omega) hm2, hno⟩
    obtain ⟨s', h3, h4⟩ := aft_loop h l hl i _ (by omega) hI'
    refine ⟨s', iter_next (s' := (((i : Nat) : Int) - 1, (0, (r.set i (nth nx' 0 false)), nx', now))) ?_ h3, h4⟩
    simp only [slices_Backward_byte_byte_1_b1]
    rw [show ((i + 1 : Nat) : Int) - 1 = ((i : Nat) : Int) by omega, iteO_dt (by omega), grd_mk (by omega), Int.toNat_natCast]
    rw [show stepY (fun (q : (List Bool) × (List Bool) × (List Bool)) (x : Int × UInt8) => scan_After_r4 d q.1 q.2.1 q.2.2 x.1 x.2) (0, r, now, nx) (((i : Nat) : Int), nth l i 0) = some ((0, (r.set i (nth nx' 0 false)), nx', now), true) from by
      unfold stepY; rw [if_pos rfl]; simp only [h1]; rfl, bnd_mk, wrap64_of (by omega) (by omega)]
    rfl
theorem aft_eq (d : Dfa) (l : List UInt8) (hl : l.length ≤ 281474976710656) : scan_After d l = some (if wrongD d l = 0 then (afterD d l, 0) else ([], wrongD d l)) := by
  unfold scan_After
  rw [grd_mk hl, checkW_eq d l hl, bnd_mk]
  by_cases hw : wrongD d l = 0
  · obtain ⟨hr, h4⟩ := wrongD0 hw
    obtain ⟨hn1, hn2, hfl⟩ := rightD_next hr
    rw [if_pos hw, iteO_df (by omega), grd_mk (by omega), grd_mk (by omega), grd_mk (by omega)]
    unfold scan_After_j1
    rw [List.length_replicate, grd_mk (by omega), grd_mk (by omega), grd_mk hl]
    rw [bnd_some (show slices_Backward l = some l from rfl)]
    obtain ⟨s', h1, h2⟩ := aft_loop hr l h4 l.length ((List.replicate (l.length + 1) false).set l.length (nth d.fin 0 false), d.fin, List.replicate d.fin.length false) (Nat.le_refl _)
      ⟨by simp, hfl, by simp [hfl], fun m hm hm2 => by
        have e : m = l.length := by omega
        subst e
        show nth (List.set ..) _ false = _
        rw [nth_set, if_pos ⟨rfl, by simp⟩, anyFrom_ends d l (Nat.le_refl _), List.drop_length]; rfl,
       fun q hq => by rw [List.drop_length]; rfl⟩
    unfold slices_Backward_byte_byte_1
    rw [wrap64_of (by omega) (by omega), h1, bnd_mk]
    show some (s'.1, (0 : Int)) = _
    congr 2
    refine nth_ext false (by rw [h2.rl, afterD]; simp) fun m hm => ?_
    rw [h2.rl] at hm
    rw [h2.ri m (Nat.zero_le _) (by omega), afterD, nth_map (anyFrom d l) _ m 0 false (by simpa using hm), nth_range hm]
  · rw [if_neg hw, iteO_dt hw]
end Go.Proofs.YtkphkabfolkhoaaDoor
end

/- ScanX -/
section
/- Factors: the program's, and the reference's. Plain lemmas, no condition. -/
set_option linter.unusedVariables false
set_option linter.unusedSimpArgs false
namespace Go.Proofs.YtkphkabfolkhoaaDoor
open Go Go.E

/-- The greatest place above p, at most j, that may be and up to which a part that begins at p is taken; p, if there is none. -/
def keepF (d : Dfa) (af : List Bool) (l : List UInt8) (p : Nat) : Nat → Nat
  | 0 => p
  | j + 1 => if p < j + 1 ∧ takD d l p (j + 1) = true ∧ nth af (j + 1) false = true then j + 1 else keepF d af l p j
theorem keepF_low (d : Dfa) (af : List Bool) (l : List UInt8) (p : Nat) : ∀ j, j ≤ p → keepF d af l p j = p
  | 0, _ => rfl
  | j + 1, h => by rw [keepF, if_neg (by omega)]; exact keepF_low d af l p j (by omega)
theorem keepF_ge (d : Dfa) (af : List Bool) (l : List UInt8) (p : Nat) : ∀ j, p ≤ keepF d af l p j
  | 0 => Nat.le_refl _
  | j + 1 => by rw [keepF]; split; omega; exact keepF_ge d af l p j
theorem keepF_le (d : Dfa) (af : List Bool) (l : List UInt8) (p : Nat) : ∀ j, keepF d af l p j ≤ max p j
  | 0 => by rw [keepF]; omega
  | j + 1 => by
    rw [keepF]; split
    · omega
    · have := keepF_le d af l p j; omega
theorem lfac_loop {d : Dfa} (h : rightD d = true) (af : List Bool) (l : List UInt8) (hl : l.length ≤ 281474976710656) (ha : af.length = l.length + 1) (p : Nat) : ∀ (m i : Nat), l.length - i = m → p ≤ i → i ≤ l.length →
    iter (fun q : Int × Int × Int => longestF_b1 l d af q.1 q.2.1 q.2.2) (((keepF d af l p i : Nat) : Int), runD d 0 ((l.take i).drop p), ((i : Nat) : Int)) = some ((keepF d af l p l.length : Nat) : Int)
  | 0, i, hm, hp, hi => by
    have e : i = l.length := by omega
    subst e
    refine iter_done ?_
    simp only [longestF_b1]
    rw [iteO_df (by omega)]; rfl
  | m + 1, i, hm, hp, hi => by
    have hq : okS d (runD d 0 ((l.take i).drop p)) := runD_ok h _ (ok0 h)
    have hs := dlt_ok h hq (nth l i (0 : UInt8))
    have hk : nth d.fin (dlt d (runD d 0 ((l.take i).drop p)) (nth l i 0)).toNat false = takD d l p (i + 1) := by
      unfold takD; rw [part_snoc l hp (by omega), runD_snoc]
    refine iter_next (s' := (((keepF d af l p (i + 1) : Nat) : Int), runD d 0 ((l.take (i + 1)).drop p), ((i + 1 : Nat) : Int))) ?_ (lfac_loop h af l hl ha p m (i + 1) (by omega) (by omega) (by omega))
    rw [part_snoc l hp (by omega), runD_snoc]
    simp only [longestF_b1]
    rw [iteO_dt (by omega), grd_mk (show 0 ≤ runD d 0 ((l.take i).drop p) ∧ runD d 0 ((l.take i).drop p) < (d.next.length : Int) from hq), grd_mk (by omega), Int.toNat_natCast, grd_mk hs.cl, grd_mk hs.c]
    rw [show (nth (nth d.next (runD d 0 ((l.take i).drop p)).toNat ([] : List Int)) ((nth d.cls (nth l i (0 : UInt8)).toNat (0 : Int)).toNat) (0 : Int)) = dlt d (runD d 0 ((l.take i).drop p)) (nth l i 0) from rfl, grd_mk hs.f, hk, keepF, wrap64_of (by omega) (by omega)]
    cases takD d l p (i + 1) with
    | true =>
      rw [iteO_true, scan_Factors_1, grd_mk (by omega), bnd_mk, show (((i : Nat) : Int) + 1).toNat = i + 1 by omega]
      cases nth af (i + 1) false with
      | true => rw [iteO_true, if_pos ⟨by omega, rfl, rfl⟩, longestF_j1, Int.toNat_natCast, wrap64_of (by omega) (by omega)]; rfl
      | false => rw [iteO_false, if_neg (by simp), longestF_j1, Int.toNat_natCast, wrap64_of (by omega) (by omega)]; rfl
    | false => rw [iteO_false, if_neg (by simp), longestF_j1, Int.toNat_natCast, wrap64_of (by omega) (by omega)]; rfl
theorem longestF_eq {d : Dfa} (h : rightD d = true) (af : List Bool) (l : List UInt8) (hl : l.length ≤ 281474976710656) (ha : af.length = l.length + 1) {p : Nat} (hp : p ≤ l.length) : longestF d l ((p : Nat) : Int) af = some ((keepF d af l p l.length : Nat) : Int) := by
  unfold longestF
  rw [grd_mk hl]
  have := lfac_loop h af l hl ha p _ p rfl (Nat.le_refl _) hp
  rw [keepF_low d af l p p (Nat.le_refl _), List.drop_of_length_le (by rw [List.length_take]; omega)] at this
  exact this

/-- The end of the factor that begins at a place; the place, if none does. -/
def facTo (d : Dfa) (be af : List Bool) (l : List UInt8) (p : Nat) : Nat := if nth be p false = true then keepF d af l p l.length else p
/-- The factors from a place on. -/
def facs (d : Dfa) (be af : List Bool) (l : List UInt8) : Nat → Nat → List Span
  | 0, _ => []
  | n + 1, p => if p < l.length then (if facTo d be af l p = p then facs d be af l n (p + 1) else ⟨((p : Nat) : Int), ((facTo d be af l p : Nat) : Int)⟩ :: facs d be af l n (facTo d be af l p)) else []
theorem facTo_le (d : Dfa) (be af : List Bool) (l : List UInt8) {p : Nat} (hp : p ≤ l.length) : facTo d be af l p ≤ l.length := by
  unfold facTo; split
  · have := keepF_le d af l p l.length; omega
  · exact hp
theorem facTo_ge (d : Dfa) (be af : List Bool) (l : List UInt8) (p : Nat) : p ≤ facTo d be af l p := by
  unfold facTo; split
  · exact keepF_ge d af l p _
  · exact Nat.le_refl _
theorem pfac_loop {d : Dfa} (h : rightD d = true) (be af : List Bool) (e1 e2 : Int) (l : List UInt8) (hl : l.length ≤ 4096) (hb : be.length = l.length + 1) (ha : af.length = l.length + 1) : ∀ (n p : Nat) (r : List Span), l.length ≤ p + n → p ≤ l.length → r.length ≤ p →
    iter (fun q : (List Span) × Int => scan_Factors_b1 l (be, e1) d (af, e2) q.1 q.2) (r, ((p : Nat) : Int)) = some (r ++ facs d be af l n p, 0)
  | 0, p, r, hn, hp, hr => by
    refine iter_done ?_
    simp only [scan_Factors_b1]
    rw [iteO_df (by omega), facs, List.append_nil]; rfl
  | n + 1, p, r, hn, hp, hr => by
    by_cases c : p < l.length
    · have ht := facTo_le d be af l hp
      have hg := facTo_ge d be af l p
      have key : scan_Factors_b1 l (be, e1) d (af, e2) r ((p : Nat) : Int) = scan_Factors_j1 ((p : Nat) : Int) r ((facTo d be af l p : Nat) : Int) := by
        simp only [scan_Factors_b1]
        rw [iteO_dt (by omega), grd_mk (by omega), Int.toNat_natCast]
        cases hbp : nth be p false with
        | true => rw [iteO_true, longestF_eq h af l (by omega) ha hp, bnd_mk, facTo, hbp, if_pos rfl]
        | false => rw [iteO_false, facTo, hbp, if_neg (by simp)]
      rw [facs, if_pos c]
      by_cases e : facTo d be af l p = p
      · rw [if_pos e]
        refine iter_next (s' := (r, ((p + 1 : Nat) : Int))) ?_ (pfac_loop h be af e1 e2 l hl hb ha n (p + 1) r (by omega) (by omega) (by omega))
        simp only []
        rw [key, scan_Factors_j1, iteO_dt (by omega), wrap64_of (by omega) (by omega)]; rfl
      · rw [if_neg e]
        refine iter_next (s' := (r ++ [⟨((p : Nat) : Int), ((facTo d be af l p : Nat) : Int)⟩], ((facTo d be af l p : Nat) : Int))) ?_ ?_
        · simp only []
          rw [key, scan_Factors_j1, iteO_df (by omega), grd_mk (by simp only [List.length_cons, List.length_nil]; omega)]; rfl
        · rw [pfac_loop h be af e1 e2 l hl hb ha n (facTo d be af l p) _ (by omega) ht (by rw [List.length_append]; simp only [List.length_cons, List.length_nil]; omega), List.append_assoc]; rfl
    · refine iter_done ?_
      simp only [scan_Factors_b1]
      rw [iteO_df (by omega), facs, if_neg c, List.append_nil]; rfl
/-- What Factors answers. -/
def wrongF (d x y : Dfa) (l : List UInt8) : Int := if rightD d = true ∧ rightD x = true ∧ rightD y = true then (if 4096 < l.length then 2 else 0) else 1
def facD (d x y : Dfa) (l : List UInt8) : List Span := facs d (beforeD x l) (afterD y l) l l.length 0
theorem beforeD_len (d : Dfa) (l : List UInt8) : (beforeD d l).length = l.length + 1 := by simp [beforeD]
theorem afterD_len (d : Dfa) (l : List UInt8) : (afterD d l).length = l.length + 1 := by simp [afterD]
theorem pfac_eq (d x y : Dfa) (l : List UInt8) (hl : l.length ≤ 281474976710656) : scan_Factors d x y l = some (if wrongF d x y l = 0 then (facD d x y l, 0) else ([], wrongF d x y l)) := by
  unfold scan_Factors
  rw [grd_mk hl, checkL_eq l hl]
  have e : (if [d, x, y].all rightD = true then (if 4096 < l.length then (2 : Int) else 0) else 1) = wrongF d x y l := by
    unfold wrongF; simp only [List.all_cons, List.all_nil, Bool.and_true, Bool.and_eq_true]
  rw [e, bnd_mk]
  by_cases hw : wrongF d x y l = 0
  · have hall : rightD d = true ∧ rightD x = true ∧ rightD y = true ∧ l.length ≤ 4096 := by
      unfold wrongF at hw
      by_cases c : rightD d = true ∧ rightD x = true ∧ rightD y = true
      · rw [if_pos c] at hw
        by_cases c2 : 4096 < l.length
        · rw [if_pos c2] at hw; cases hw
        · exact ⟨c.1, c.2.1, c.2.2, by omega⟩
      · rw [if_neg c] at hw; cases hw
    obtain ⟨h1, h2, h3, h4⟩ := hall
    have w1 : wrongD x l = 0 := by rw [wrongD, if_pos h2, if_neg (by omega)]
    have w2 : wrongD y l = 0 := by rw [wrongD, if_pos h3, if_neg (by omega)]
    rw [if_pos hw, iteO_df (by omega), bef_eq x l hl, if_pos w1, bnd_mk]
    simp only []
    rw [iteO_df (by omega), aft_eq y l hl, if_pos w2, bnd_mk]
    simp only []
    rw [iteO_df (by omega)]
    have := pfac_loop h1 (beforeD x l) (afterD y l) 0 0 l h4 (beforeD_len x l) (afterD_len y l) l.length 0 [] (by omega) (by omega) (by simp)
    exact this
  · rw [if_neg hw, iteO_dt hw]

theorem rfac_j1 (p to : Nat) (r : List Span) (hr : r.length ≤ 5000) : whittleref23_Factors_j1 p r to = some (if to = p then .inl (r, p + 1) else .inl (r ++ [⟨((p : Nat) : Int), ((to : Nat) : Int)⟩], to)) := by
  unfold whittleref23_Factors_j1
  by_cases c : to = p
  · rw [iteO_dt (by omega), if_pos c]; rfl
  · rw [iteO_df (by omega), if_neg c, grd_mk (by simp only [List.length_cons, List.length_nil]; omega)]; rfl
theorem rfac_in {d : Dfa} (h : rightD d = true) (be af : List Bool) (e1 e2 : Int) (l : List UInt8) (hl : l.length ≤ 4096) (hb : be.length = l.length + 1) (ha : af.length = l.length + 1) (p : Nat) (hp : p < l.length) (r : List Span) (hr : r.length ≤ 5000) (hbp : nth be p false = true) : ∀ (m k : Nat), l.length - k = m → p ≤ k → k ≤ l.length →
    iter (fun q : Nat × Nat => whittleref23_Factors_b2 l p (be, e1) (af, e2) d r q.1 q.2) (keepF d af l p k, k + 1) = whittleref23_Factors_j1 p r (facTo d be af l p) := by
  intro m
  induction m with
  | zero =>
    intro k hm hpk hk
    have e : k = l.length := by omega
    subst e
    rw [rfac_j1 _ _ _ hr]
    refine iter_done ?_
    simp only [whittleref23_Factors_b2]
    rw [iteO_df (by omega), facTo, if_pos hbp, rfac_j1 _ _ _ hr]; rfl
  | succ m ih =>
    intro k hm hpk hk
    have := ih (k + 1) (by omega) (by omega) (by omega)
    rw [← this]
    refine iter_inl ?_
    simp only [whittleref23_Factors_b2, whittleref23_Factors_j2]
    rw [iteO_dt (by omega), grd_mk (by omega), hbp, iteO_true, grd_mk (by omega), keepF]
    cases ht : nth af (k + 1) false with
    | false => rw [iteO_false, if_neg (by simp)]; rfl
    | true =>
      rw [iteO_true, bnd_some (taken_eq h l (by omega) (i := p) (j := k + 1) (by omega) (by omega))]
      cases htk : takD d l p (k + 1) with
      | true => rw [iteO_true, if_pos ⟨by omega, rfl, rfl⟩]; rfl
      | false => rw [iteO_false, if_neg (by simp)]; rfl
theorem rfac_loop {d : Dfa} (h : rightD d = true) (be af : List Bool) (e1 e2 : Int) (l : List UInt8) (hl : l.length ≤ 4096) (hb : be.length = l.length + 1) (ha : af.length = l.length + 1) : ∀ (n p : Nat) (r : List Span), l.length ≤ p + n → p ≤ l.length → r.length ≤ p →
    iter (fun q : (List Span) × Nat => whittleref23_Factors_b1 l (be, e1) (af, e2) d q.1 q.2) (r, p) = some (r ++ facs d be af l n p, 0)
  | 0, p, r, hn, hp, hr => by
    refine iter_done ?_
    simp only [whittleref23_Factors_b1]
    rw [iteO_df (by omega), facs, List.append_nil]; rfl
  | n + 1, p, r, hn, hp, hr => by
    by_cases c : p < l.length
    · have ht := facTo_le d be af l hp
      have hg := facTo_ge d be af l p
      have key : whittleref23_Factors_b1 l (be, e1) (af, e2) d r p = whittleref23_Factors_j1 p r (facTo d be af l p) := by
        simp only [whittleref23_Factors_b1]
        rw [iteO_dt (by omega)]
        cases hbp : nth be p false with
        | true =>
          have := rfac_in h be af e1 e2 l hl hb ha p c r (by omega) hbp _ p rfl (Nat.le_refl _) hp
          rw [keepF_low d af l p p (Nat.le_refl _)] at this
          exact this
        | false =>
          have hf : facTo d be af l p = p := by rw [facTo, hbp, if_neg (by simp)]
          rw [hf, rfac_j1 _ _ _ (by omega)]
          refine iter_done ?_
          show whittleref23_Factors_b2 l p (be, e1) (af, e2) d r p (p + 1) = _
          unfold whittleref23_Factors_b2
          rw [iteO_dt (by omega), grd_mk (by show p < be.length; omega), hbp, iteO_false, rfac_j1 _ _ _ (by omega)]; rfl
      rw [rfac_j1 _ _ _ (by omega)] at key
      rw [facs, if_pos c]
      by_cases e : facTo d be af l p = p
      · rw [if_pos e] at key ⊢
        exact iter_next (s' := (r, p + 1)) key (rfac_loop h be af e1 e2 l hl hb ha n (p + 1) r (by omega) (by omega) (by omega))
      · rw [if_neg e] at key ⊢
        refine iter_next (s' := (r ++ [⟨((p : Nat) : Int), ((facTo d be af l p : Nat) : Int)⟩], facTo d be af l p)) key ?_
        rw [rfac_loop h be af e1 e2 l hl hb ha n (facTo d be af l p) _ (by omega) ht (by rw [List.length_append]; simp only [List.length_cons, List.length_nil]; omega), List.append_assoc]; rfl
    · refine iter_done ?_
      simp only [whittleref23_Factors_b1]
      rw [iteO_df (by omega), facs, if_neg c, List.append_nil]; rfl
theorem rfac_eq (d x y : Dfa) (l : List UInt8) (hl : l.length ≤ 281474976710656) : whittleref23_Factors d x y l = some (if wrongF d x y l = 0 then (facD d x y l, 0) else ([], wrongF d x y l)) := by
  unfold whittleref23_Factors
  rw [grd_mk hl, right_eq, bnd_mk]
  cases h1 : rightD d with
  | false => rw [iteO_nf, if_neg (by simp [wrongF, h1])]; simp [wrongF, h1]
  | true =>
    rw [iteO_nt, right_eq, bnd_mk]
    cases h2 : rightD x with
    | false => rw [iteO_nf, if_neg (by simp [wrongF, h2])]; simp [wrongF, h2]
    | true =>
      rw [iteO_nt, right_eq, bnd_mk]
      cases h3 : rightD y with
      | false => rw [iteO_nf, if_neg (by simp [wrongF, h3])]; simp [wrongF, h3]
      | true =>
        rw [iteO_nt, rbef_eq x l hl, bnd_mk]
        by_cases c : 4096 < l.length
        · have w1 : wrongD x l = 2 := by rw [wrongD, if_pos h2, if_pos c]
          have w2 : wrongF d x y l = 2 := by rw [wrongF, if_pos ⟨h1, h2, h3⟩, if_pos c]
          rw [w1, w2, if_neg (by decide), if_neg (by decide)]; rfl
        · have w1 : wrongD x l = 0 := by rw [wrongD, if_pos h2, if_neg c]
          have w2 : wrongD y l = 0 := by rw [wrongD, if_pos h3, if_neg c]
          have w3 : wrongF d x y l = 0 := by rw [wrongF, if_pos ⟨h1, h2, h3⟩, if_neg c]
          rw [w1, w3, if_pos rfl, if_pos rfl]
          simp only []
          rw [iteO_df (by omega), raft_eq y l hl, bnd_mk, w2, if_pos rfl]
          exact rfac_loop h1 (beforeD x l) (afterD y l) 0 0 l (by omega) (beforeD_len x l) (afterD_len y l) l.length 0 [] (by omega) (by omega) (by simp)
end Go.Proofs.YtkphkabfolkhoaaDoor
end

/- S3a -/
section
/- Decompiled: what the laws on factors have at hand. -/
set_option linter.unusedVariables false
set_option linter.unusedSimpArgs false
namespace Go.Proofs.YtkphkabfolkhoaaDoor
open Go Go.E
set_option maxRecDepth 100000
private theorem pf11 : Go.E.plainF Tryd.prog 11 = true := by kernel_rfl
private theorem pf19 : Go.E.plainF Tryd.prog 19 = true := by kernel_rfl
private theorem pf26 : Go.E.plainF Tryd.prog 26 = true := by kernel_rfl
private theorem pf27 : Go.E.plainF Tryd.prog 27 = true := by kernel_rfl
private theorem pf28 : Go.E.plainF Tryd.prog 28 = true := by kernel_rfl
private theorem pf29 : Go.E.plainF Tryd.prog 29 = true := by kernel_rfl
private theorem pf8 : Go.E.plainF Tryd.prog 8 = true := by kernel_rfl
private theorem pl26 : Go.E.plOf Tryd.prog 26 = some #[(0, 1), (1, 1), (2, 1)] := by kernel_rfl
private theorem ze22 : Go.E.zeroOf Tryd.prog 22 = some (.slice none 0 0) := by kernel_rfl
private theorem ze26 : Go.E.zeroOf Tryd.prog 26 = some (.agg #[.slice none 0 0, .slice none 0 0, .slice none 0 0]) := by kernel_rfl
private theorem ze5 : Go.E.zeroOf Tryd.prog 5 = some (.int .u8 0) := by kernel_rfl

noncomputable def whittlelaw23_all : Option (Dfa) :=
  some (⟨(List.replicate 256 (0 : Int)), [[0]], [true]⟩ : Dfa)
def whittlelaw23_all_P (σ : Store) (r : Dfa) : Value → Store → List Res → Prop := fun v σ' H' =>
  ∃ (a1 : Option Addr), ∃ (c1 : Nat), ∃ (a2 : Option Addr), ∃ (c2 : Nat), ∃ (a3 : Option Addr), ∃ (c3 : Nat),  v = .agg #[.slice a1 r.cls.length c1, .slice a2 r.next.length c2, .slice a3 r.fin.length c3] ∧ RS σ' 1 Go.E.encI (.slice a1 r.cls.length c1) r.cls ∧ RZ σ' (pkSl 1 Go.E.encI Go.E.encI_len) (.slice a2 r.next.length c2) r.next ∧ RS σ' 1 encB (.slice a3 r.fin.length c3) r.fin ∧ H' = []
theorem whittlelaw23_all_con {σ : Store}   {r : Dfa} (hh : whittlelaw23_all = some r) :
    Con Tryd.prog 19 #[] σ [] (whittlelaw23_all_P σ r) := by
  dsimp only [whittlelaw23_all] at hh
  refine Con.mk (n := 6) Tryd.func19 rfl rfl rfl (fun w0 => ?_)
  refine TC.seq ?_
  refine TC.region ?_
  refine TL.op rfl (OpOk.alloc rfl ze26 rfl rfl (fun b101 => ?_))
  refine TL.nil ?_
  refine S.n ?_
  refine TC.seq ?_
  refine TC.region ?_
  refine TL.op rfl (OpOk.makeS2 (m := 256) (enc := Go.E.encI) (0 : Int) rfl Tryd.underlying22 sz3 by3 ze3 rfl rfl rfl rfl (by omega) (by decide) Go.E.encI_len (by decide) rfl Go.E.encI_one (fun a103 c104 => ?_))
  refine TL.op rfl (OpOk.lit (enc := Go.E.encI) [0] rfl Tryd.underlying22 sz3 ze3 rfl rfl rfl Go.E.encI_len (by decide) (by decide) (0 : Int) rfl (by decide) rfl (by decide) Go.E.encI_one (fun a106 c107 => ?_))
  refine TL.sealS Go.E.encI_len (fun τ113 hle112 hr111 => ?_)
  have hr111b := hr111.rv.big
  have zf114 : ZOk _ (pkSl 1 Go.E.encI Go.E.encI_len) ([([0], (a106, c107))] : List (List Int × (pkSl 1 Go.E.encI Go.E.encI_len).P)) [[0]] := ZOk.cons (hr111) (ZOk.nil _ _)
  refine TL.op rfl (OpOk.litZ zf114 rfl Tryd.underlying23 sz22 rfl ze22 rfl rfl rfl (by decide) (by decide) rfl (by decide) rfl (by decide) (fun a109 c110 => ?_))
  refine TL.op rfl (OpOk.lit (enc := encB) [true] rfl Tryd.underlying24 sz4 ze4 rfl rfl rfl encB_len (by decide) (by decide) false rfl (by decide) rfl (by decide) encB_one (fun a116 c117 => ?_))
  refine TL.v rfl (OpVal.buildL rfl pl26 ze26 rfl) rfl rfl ?_
  refine TL.front 3 rfl rfl ?_
  refine TL.op rfl (OpOk.storeAll rfl sz26 rfl rfl rfl rfl rfl rfl ?_)
  refine TL.nil ?_
  refine S.n ?_
  refine TC.front 3 rfl rfl ?_
  refine TC.sealS Go.E.encI_len (fun τ121 hle120 hr119 => ?_)
  replace hr111 := hr111.mono hle120
  replace zf114 := zf114.mono hle120
  have hr119b := hr119.rv.big
  refine TC.front 2 rfl rfl ?_
  refine TC.sealZ zf114 (fun τ124 hle123 hr122 => ?_)
  replace hr111 := hr111.mono hle123
  replace zf114 := zf114.mono hle123
  replace hr119 := hr119.mono hle123
  have hr122b := hr122.big
  refine TC.front 1 rfl rfl ?_
  refine TC.sealS encB_len (fun τ127 hle126 hr125 => ?_)
  replace hr111 := hr111.mono hle126
  replace zf114 := zf114.mono hle126
  replace hr119 := hr119.mono hle126
  replace hr122 := hr122.mono hle126
  have hr125b := hr125.rv.big
  refine TC.ret ?_
  obtain rfl := Option.some.inj hh
  exact RetOk.mk' (rs := [.cell 0 26]) [] rfl (.inl rfl) (RVs.agg ag26 sz26 rfl (i := 0) rfl rfl RVs.nil) (List.sublist_append_left _ _) ⟨a103, c104, a109, c110, a116, c117, rfl, hr119, hr122, hr125, rfl⟩

noncomputable def whittlelaw23_awake : Option (Bool) :=
  grd ([(97 : UInt8)].length ≤ 1000000000000) (bnd (dfa_Of (starR (setN (BSet.ofL [(97 : UInt8)])))) (fun v13 => grd ([(98 : UInt8)].length ≤ 1000000000000) (bnd (dfa_Of (setN (BSet.ofL [(98 : UInt8)]))) (fun v23 => bnd (whittlelaw23_all) (fun v31 => bnd (scan_Factors v13.1 v31 v23.1 ([97, 97, 98, 97, 99, 97] : List UInt8)) (fun v33 => iteO (decide ((starX (setN (BSet.ofL [(97 : UInt8)]))) = 0)) (iteO (decide (v13.2 = (starX (setN (BSet.ofL [(97 : UInt8)]))))) (iteO (decide (v23.2 = (starX (setN (BSet.ofL [(97 : UInt8)]))))) (iteO (decide (v33.2 = (starX (setN (BSet.ofL [(97 : UInt8)]))))) (bnd (whittleref04_Same v33.1 [(⟨0, 2⟩ : Span)]) (fun v60 => some v60)) (some false)) (some false)) (some false)) (some false)))))))
theorem whittlelaw23_awake_con {σ : Store}  (hgl : GT σ 0 encU8 deB) {r : Bool} (hh : whittlelaw23_awake = some r) :
    Con Tryd.prog 10 #[] σ [] (PureP (.bool r) σ) := by
  dsimp only [whittlelaw23_awake] at hh
  refine Con.mk (n := 58) Tryd.func10 rfl rfl rfl (fun w0 => ?_)
  refine TC.seq ?_
  refine TC.region ?_
  refine TL.v rfl (OpVal.moveB (.inr rfl) rfl) rfl rfl ?_
  refine TL.nil ?_
  refine S.n ?_
  refine TC.seq ?_
  refine TC.region ?_
  refine TL.op rfl (OpOk.lit (enc := encU8) [(97 : UInt8)] rfl Tryd.underlying69 sz5 ze5 rfl rfl rfl encU8_len (by decide) (by decide) (0 : UInt8) rfl (by decide) rfl (by decide) encU8_one (fun a101 c102 => ?_))
  have u3 := grd_c hh
  replace hh := grd_t hh
  refine TL.op rfl (OpOk.callT (of_con _ _ _ [(97 : UInt8)] u3) rfl rfl pf28 rfl rfl rfl rfl ?_)
  refine TL.op rfl (OpOk.call (set_con _ (BSet.ofL [(97 : UInt8)]) (BSet.isOk _)) rfl rfl pf27 rfl rfl rfl rfl ?_)
  rintro _ τ104 _ hle104 ⟨p104, rfl, hn104, rfl⟩
  replace hgl := hgl.mono hle104
  have hn104sb := hn104.s.rv.big
  have hn104eb := hn104.e.rv.big
  have hn104db := hn104.d.rv.big
  refine TL.op rfl (OpOk.call (star_con _ (setN (BSet.ofL [(97 : UInt8)])) ⟨p104.a1, p104.c1, p104.a2, p104.c2, p104.a3, p104.c3⟩ ⟨hn104.s, hn104.e, hn104.d, fun x _ => x.set.isOk⟩) rfl rfl pf26 rfl rfl rfl rfl ?_)
  rintro _ τ105 _ hle105 ⟨p105, rfl, hn105, rfl⟩
  replace hgl := hgl.mono hle105
  replace hn104 := hn104.mono hle105
  have hn105sb := hn105.s.rv.big
  have hn105eb := hn105.e.rv.big
  have hn105db := hn105.d.rv.big
  refine TL.v rfl (OpVal.moveT (.inl rfl) rfl) rfl rfl ?_
  refine TL.v rfl (OpVal.extract rfl rfl rfl) rfl rfl ?_
  refine TL.v rfl (OpVal.extract rfl rfl rfl) rfl rfl ?_
  refine TL.op rfl (OpOk.alloc rfl ze53 rfl rfl (fun b106 => ?_))
  refine TL.op rfl (OpOk.storeAll rfl sz53 rfl rfl rfl rfl rfl rfl ?_)
  refine TL.v rfl (OpVal.moveI (.inr rfl) rfl) rfl rfl ?_
  refine TL.nil ?_
  refine S.n ?_
  refine TC.seq ?_
  refine TC.region ?_
  refine TL.v rfl (OpVal.loadAll rfl ag53 sz53 rfl (i := 0) rfl rfl) rfl rfl ?_
  obtain ⟨v13, u13, hh⟩ := bnd_e hh
  refine TL.op rfl (OpOk.call (dfa_Of_con (x0 := (starR (setN (BSet.ofL [(97 : UInt8)])))) hgl hn105.s hn105.e hn105.d u13) rfl rfl pf29 rfl rfl rfl rfl ?_)
  rintro _ τ108 _ hle108 ⟨a108_1, c108_1, a108_2, c108_2, a108_3, c108_3, rfl, hr108_0, hr108_1, hr108_2, rfl⟩
  replace hgl := hgl.mono hle108
  replace hn104 := hn104.mono hle108
  replace hn105 := hn105.mono hle108
  have hr108_0b := hr108_0.rv.big
  have hr108_1b := hr108_1.big
  have hr108_2b := hr108_2.rv.big
  refine TL.v rfl (OpVal.moveT (.inl rfl) rfl) rfl rfl ?_
  refine TL.v rfl (OpVal.extract rfl rfl rfl) rfl rfl ?_
  refine TL.v rfl (OpVal.extract rfl rfl rfl) rfl rfl ?_
  refine TL.op rfl (OpOk.alloc rfl ze26 rfl rfl (fun b109 => ?_))
  refine TL.op rfl (OpOk.storeAll rfl sz26 rfl rfl rfl rfl rfl rfl ?_)
  refine TL.v rfl (OpVal.moveI (.inr rfl) rfl) rfl rfl ?_
  refine TL.nil ?_
  refine S.n ?_
  refine TC.seq ?_
  refine TC.region ?_
  refine TL.op rfl (OpOk.lit (enc := encU8) [(98 : UInt8)] rfl Tryd.underlying69 sz5 ze5 rfl rfl rfl encU8_len (by decide) (by decide) (0 : UInt8) rfl (by decide) rfl (by decide) encU8_one (fun a111 c112 => ?_))
  have u21 := grd_c hh
  replace hh := grd_t hh
  refine TL.op rfl (OpOk.callT (of_con _ _ _ [(98 : UInt8)] u21) rfl rfl pf28 rfl rfl rfl rfl ?_)
  refine TL.op rfl (OpOk.call (set_con _ (BSet.ofL [(98 : UInt8)]) (BSet.isOk _)) rfl rfl pf27 rfl rfl rfl rfl ?_)
  rintro _ τ114 _ hle114 ⟨p114, rfl, hn114, rfl⟩
  replace hgl := hgl.mono hle114
  replace hn104 := hn104.mono hle114
  replace hn105 := hn105.mono hle114
  replace hr108_0 := hr108_0.mono hle114
  replace hr108_1 := hr108_1.mono hle114
  replace hr108_2 := hr108_2.mono hle114
  have hn114sb := hn114.s.rv.big
  have hn114eb := hn114.e.rv.big
  have hn114db := hn114.d.rv.big
  obtain ⟨v23, u23, hh⟩ := bnd_e hh
  refine TL.op rfl (OpOk.call (dfa_Of_con (x0 := (setN (BSet.ofL [(98 : UInt8)]))) hgl hn114.s hn114.e hn114.d u23) rfl rfl pf29 rfl rfl rfl rfl ?_)
  rintro _ τ115 _ hle115 ⟨a115_1, c115_1, a115_2, c115_2, a115_3, c115_3, rfl, hr115_0, hr115_1, hr115_2, rfl⟩
  replace hgl := hgl.mono hle115
  replace hn104 := hn104.mono hle115
  replace hn105 := hn105.mono hle115
  replace hr108_0 := hr108_0.mono hle115
  replace hr108_1 := hr108_1.mono hle115
  replace hr108_2 := hr108_2.mono hle115
  replace hn114 := hn114.mono hle115
  have hr115_0b := hr115_0.rv.big
  have hr115_1b := hr115_1.big
  have hr115_2b := hr115_2.rv.big
  refine TL.v rfl (OpVal.moveT (.inl rfl) rfl) rfl rfl ?_
  refine TL.v rfl (OpVal.extract rfl rfl rfl) rfl rfl ?_
  refine TL.v rfl (OpVal.extract rfl rfl rfl) rfl rfl ?_
  refine TL.op rfl (OpOk.alloc rfl ze26 rfl rfl (fun b116 => ?_))
  refine TL.op rfl (OpOk.storeAll rfl sz26 rfl rfl rfl rfl rfl rfl ?_)
  refine TL.v rfl (OpVal.moveI (.inr rfl) rfl) rfl rfl ?_
  refine TL.nil ?_
  refine S.n ?_
  refine TC.seq ?_
  obtain ⟨v31, u31, hh⟩ := bnd_e hh
  obtain ⟨v33, u33, hh⟩ := bnd_e hh
  refine TC.draw [] (by kernel_rfl) ?_
  refine TA.take 0 rfl (by kernel_rfl) (by kernel_rfl) (by kernel_rfl) (by kernel_rfl) rfl (OpVal.loadAll rfl ag26 sz26 rfl (i := 1) rfl rfl) rfl rfl ?_
  refine TA.take 2 rfl (by kernel_rfl) (by kernel_rfl) (by kernel_rfl) (by kernel_rfl) rfl (OpVal.loadAll rfl ag26 sz26 rfl (i := 0) rfl rfl) rfl rfl ?_
  refine TA.act 1 (by kernel_rfl) rfl rfl (OpOk.call (whittlelaw23_all_con u31) rfl rfl pf19 rfl rfl rfl rfl ?_)
  rintro _ τ120 _ hle120 ⟨a120_1, c120_1, a120_2, c120_2, a120_3, c120_3, rfl, hr120_0, hr120_1, hr120_2, rfl⟩
  replace hgl := hgl.mono hle120
  replace hn104 := hn104.mono hle120
  replace hn105 := hn105.mono hle120
  replace hr108_0 := hr108_0.mono hle120
  replace hr108_1 := hr108_1.mono hle120
  replace hr108_2 := hr108_2.mono hle120
  replace hn114 := hn114.mono hle120
  replace hr115_0 := hr115_0.mono hle120
  replace hr115_1 := hr115_1.mono hle120
  replace hr115_2 := hr115_2.mono hle120
  have hr120_0b := hr120_0.rv.big
  have hr120_1b := hr120_1.big
  have hr120_2b := hr120_2.rv.big
  refine ⟨(fun w h => sees_of hle120 (fun r hr => hr) w h), ?_⟩
  refine TA.act 3 (by kernel_rfl) rfl rfl (OpOk.call (scan_Factors_con (x0 := v13.1) (x1 := v31) (x2 := v23.1) hr108_0 hr108_1 hr108_2 hr120_0 hr120_1 hr120_2 hr115_0 hr115_1 hr115_2 u33) rfl rfl pf8 rfl rfl rfl rfl ?_)
  rintro _ τ121 _ hle121 ⟨a121_1, c121_1, rfl, hr121_0, rfl⟩
  replace hgl := hgl.mono hle121
  replace hn104 := hn104.mono hle121
  replace hn105 := hn105.mono hle121
  replace hr108_0 := hr108_0.mono hle121
  replace hr108_1 := hr108_1.mono hle121
  replace hr108_2 := hr108_2.mono hle121
  replace hn114 := hn114.mono hle121
  replace hr115_0 := hr115_0.mono hle121
  replace hr115_1 := hr115_1.mono hle121
  replace hr115_2 := hr115_2.mono hle121
  replace hr120_0 := hr120_0.mono hle121
  replace hr120_1 := hr120_1.mono hle121
  replace hr120_2 := hr120_2.mono hle121
  have hr121_0b := hr121_0.rv.big
  refine ⟨(fun w h => sees_of (hle120.trans hle121) (fun r hr => hr) w h), ?_⟩
  refine TA.takeP 4 rfl (by kernel_rfl) (by kernel_rfl) (by kernel_rfl) rfl (OpVal.moveT (.inl rfl) rfl) rfl rfl ?_
  refine TA.takeP 5 rfl (by kernel_rfl) (by kernel_rfl) (by kernel_rfl) rfl (OpVal.extract rfl rfl rfl) rfl rfl ?_
  refine TA.takeP 6 rfl (by kernel_rfl) (by kernel_rfl) (by kernel_rfl) rfl (OpVal.extract rfl rfl rfl) rfl rfl ?_
  refine TA.takeP 7 rfl (by kernel_rfl) (by kernel_rfl) (by kernel_rfl) rfl (OpVal.moveSl (.inr rfl) rfl) rfl rfl ?_
  refine TA.takeP 8 rfl (by kernel_rfl) (by kernel_rfl) (by kernel_rfl) rfl (OpVal.moveI (.inr rfl) rfl) rfl rfl ?_
  refine TA.done (by kernel_rfl) ?_
  refine S.n ?_
  refine TC.seq ?_
  refine TC.region ?_
  refine TL.v rfl (OpVal.moveI (.inl rfl) rfl) rfl rfl ?_
  refine TL.v rfl (OpVal.eql rfl rfl rfl) rfl rfl ?_
  refine TL.v rfl (OpVal.moveB (.inl rfl) rfl) rfl rfl ?_
  refine TL.split 37 rfl (fun h122 => ?_) (fun h122 => ?_)
  · replace hh := iteO_t h122 hh
    replace h122 := of_decide_eq_true h122
    refine TL.gv rfl rfl rfl rfl rfl (OpVal.moveI (.inl rfl) rfl) rfl rfl ?_
    refine TL.gv rfl rfl rfl rfl rfl (OpVal.moveI (.inl rfl) rfl) rfl rfl ?_
    refine TL.gv rfl rfl rfl rfl rfl (OpVal.eql rfl rfl rfl) rfl rfl ?_
    refine TL.v rfl (OpVal.pickTB rfl rfl rfl) rfl rfl ?_
    refine TL.v rfl (OpVal.moveB (.inl rfl) rfl) rfl rfl ?_
    refine TL.split 42 rfl (fun h123 => ?_) (fun h123 => ?_)
    · replace hh := iteO_t h123 hh
      replace h123 := of_decide_eq_true h123
      refine TL.gv rfl rfl rfl rfl rfl (OpVal.moveI (.inl rfl) rfl) rfl rfl ?_
      refine TL.gv rfl rfl rfl rfl rfl (OpVal.moveI (.inl rfl) rfl) rfl rfl ?_
      refine TL.gv rfl rfl rfl rfl rfl (OpVal.eql rfl rfl rfl) rfl rfl ?_
      refine TL.v rfl (OpVal.pickTB rfl rfl rfl) rfl rfl ?_
      refine TL.v rfl (OpVal.moveB (.inl rfl) rfl) rfl rfl ?_
      refine TL.split 47 rfl (fun h124 => ?_) (fun h124 => ?_)
      · replace hh := iteO_t h124 hh
        replace h124 := of_decide_eq_true h124
        refine TL.gv rfl rfl rfl rfl rfl (OpVal.moveI (.inl rfl) rfl) rfl rfl ?_
        refine TL.gv rfl rfl rfl rfl rfl (OpVal.moveI (.inl rfl) rfl) rfl rfl ?_
        refine TL.gv rfl rfl rfl rfl rfl (OpVal.eql rfl rfl rfl) rfl rfl ?_
        refine TL.v rfl (OpVal.pickTB rfl rfl rfl) rfl rfl ?_
        refine TL.v rfl (OpVal.moveB (.inl rfl) rfl) rfl rfl ?_
        refine TL.split 52 rfl (fun h125 => ?_) (fun h125 => ?_)
        · replace hh := iteO_t h125 hh
          replace h125 := of_decide_eq_true h125
          refine TL.gv rfl rfl rfl rfl rfl (OpVal.moveSl (.inl rfl) rfl) rfl rfl ?_
          refine TL.gv rfl rfl rfl rfl rfl (OpVal.buildL rfl pl43 ze43 rfl) rfl rfl ?_
          refine TL.gon rfl rfl rfl rfl rfl (OpOk.lit (enc := encSpan) [(⟨0, 2⟩ : Span)] rfl Tryd.underlying28 sz43 ze43 rfl rfl rfl encSpan_len (by decide) (by decide) Span.zero rfl (by decide) rfl (by decide) encSpan_one (fun a126 c127 => ?_))
          obtain ⟨v60, u60, hh⟩ := bnd_e hh
          refine TL.gon rfl rfl rfl rfl rfl (OpOk.callK (Con.lend encSpan_len (fun _ hle130 hr129 => whittleref04_Same_con (hr121_0.mono hle130) hr129 u60)) rfl rfl pf11 rfl rfl rfl rfl ?_)
          refine TL.v rfl (OpVal.pickTB rfl rfl rfl) rfl rfl ?_
          refine TL.v rfl (OpVal.moveB (.inr rfl) rfl) rfl rfl ?_
          refine TL.nil ?_
          refine S.n ?_
          refine TC.ofSub (Sub.pre 0 rfl) ?_
          refine TC.back ?_
          refine TC.ret ?_
          obtain rfl := Option.some.inj hh
          exact RetOk.mk' (rs := [.tmp 0]) [] rfl (.inl rfl) (RVs.tmp rfl RVs.nil) (List.sublist_append_left _ _) ⟨rfl, rfl, rfl⟩
        · replace hh := iteO_f h125 hh
          replace h125 := of_decide_eq_false h125
          refine TL.goff rfl rfl rfl rfl rfl rfl rfl rfl ?_
          refine TL.goff rfl rfl rfl rfl rfl rfl rfl rfl ?_
          refine TL.goff rfl rfl rfl rfl rfl rfl rfl rfl ?_
          refine TL.goff rfl rfl rfl rfl rfl rfl rfl rfl ?_
          refine TL.v rfl (OpVal.pickFB rfl rfl rfl) rfl rfl ?_
          refine TL.v rfl (OpVal.moveB (.inr rfl) rfl) rfl rfl ?_
          refine TL.nil ?_
          refine S.n ?_
          refine TC.ofSub (Sub.pre 0 rfl) ?_
          refine TC.back ?_
          refine TC.ret ?_
          obtain rfl := Option.some.inj hh
          exact RetOk.mk' (rs := [.tmp 0]) [] rfl (.inl rfl) (RVs.tmp rfl RVs.nil) (List.sublist_append_left _ _) ⟨rfl, rfl, rfl⟩
      · replace hh := iteO_f h124 hh
        replace h124 := of_decide_eq_false h124
        refine TL.goff rfl rfl rfl rfl rfl rfl rfl rfl ?_
        refine TL.goff rfl rfl rfl rfl rfl rfl rfl rfl ?_
        refine TL.goff rfl rfl rfl rfl rfl rfl rfl rfl ?_
        refine TL.v rfl (OpVal.pickFB rfl rfl rfl) rfl rfl ?_
        refine TL.v rfl (OpVal.moveB (.inl rfl) rfl) rfl rfl ?_
        refine TL.goff rfl rfl rfl rfl rfl rfl rfl rfl ?_
        refine TL.goff rfl rfl rfl rfl rfl rfl rfl rfl ?_
        refine TL.goff rfl rfl rfl rfl rfl rfl rfl rfl ?_
        refine TL.goff rfl rfl rfl rfl rfl rfl rfl rfl ?_
        refine TL.v rfl (OpVal.pickFB rfl rfl rfl) rfl rfl ?_
        refine TL.v rfl (OpVal.moveB (.inr rfl) rfl) rfl rfl ?_
        refine TL.nil ?_
        refine S.n ?_
        refine TC.ofSub (Sub.pre 0 rfl) ?_
        refine TC.back ?_
        refine TC.ret ?_
        obtain rfl := Option.some.inj hh
        exact RetOk.mk' (rs := [.tmp 0]) [] rfl (.inl rfl) (RVs.tmp rfl RVs.nil) (List.sublist_append_left _ _) ⟨rfl, rfl, rfl⟩
    · replace hh := iteO_f h123 hh
      replace h123 := of_decide_eq_false h123
      refine TL.goff rfl rfl rfl rfl rfl rfl rfl rfl ?_
      refine TL.goff rfl rfl rfl rfl rfl rfl rfl rfl ?_
      refine TL.goff rfl rfl rfl rfl rfl rfl rfl rfl ?_
      refine TL.v rfl (OpVal.pickFB rfl rfl rfl) rfl rfl ?_
      refine TL.v rfl (OpVal.moveB (.inl rfl) rfl) rfl rfl ?_
      refine TL.goff rfl rfl rfl rfl rfl rfl rfl rfl ?_
      refine TL.goff rfl rfl rfl rfl rfl rfl rfl rfl ?_
      refine TL.goff rfl rfl rfl rfl rfl rfl rfl rfl ?_
      refine TL.v rfl (OpVal.pickFB rfl rfl rfl) rfl rfl ?_
      refine TL.v rfl (OpVal.moveB (.inl rfl) rfl) rfl rfl ?_
      refine TL.goff rfl rfl rfl rfl rfl rfl rfl rfl ?_
      refine TL.goff rfl rfl rfl rfl rfl rfl rfl rfl ?_
      refine TL.goff rfl rfl rfl rfl rfl rfl rfl rfl ?_
      refine TL.goff rfl rfl rfl rfl rfl rfl rfl rfl ?_
      refine TL.v rfl (OpVal.pickFB rfl rfl rfl) rfl rfl ?_
      refine TL.v rfl (OpVal.moveB (.inr rfl) rfl) rfl rfl ?_
      refine TL.nil ?_
      refine S.n ?_
      refine TC.ofSub (Sub.pre 0 rfl) ?_
      refine TC.back ?_
      refine TC.ret ?_
      obtain rfl := Option.some.inj hh
      exact RetOk.mk' (rs := [.tmp 0]) [] rfl (.inl rfl) (RVs.tmp rfl RVs.nil) (List.sublist_append_left _ _) ⟨rfl, rfl, rfl⟩
  · replace hh := iteO_f h122 hh
    replace h122 := of_decide_eq_false h122
    refine TL.goff rfl rfl rfl rfl rfl rfl rfl rfl ?_
    refine TL.goff rfl rfl rfl rfl rfl rfl rfl rfl ?_
    refine TL.goff rfl rfl rfl rfl rfl rfl rfl rfl ?_
    refine TL.v rfl (OpVal.pickFB rfl rfl rfl) rfl rfl ?_
    refine TL.v rfl (OpVal.moveB (.inl rfl) rfl) rfl rfl ?_
    refine TL.goff rfl rfl rfl rfl rfl rfl rfl rfl ?_
    refine TL.goff rfl rfl rfl rfl rfl rfl rfl rfl ?_
    refine TL.goff rfl rfl rfl rfl rfl rfl rfl rfl ?_
    refine TL.v rfl (OpVal.pickFB rfl rfl rfl) rfl rfl ?_
    refine TL.v rfl (OpVal.moveB (.inl rfl) rfl) rfl rfl ?_
    refine TL.goff rfl rfl rfl rfl rfl rfl rfl rfl ?_
    refine TL.goff rfl rfl rfl rfl rfl rfl rfl rfl ?_
    refine TL.goff rfl rfl rfl rfl rfl rfl rfl rfl ?_
    refine TL.v rfl (OpVal.pickFB rfl rfl rfl) rfl rfl ?_
    refine TL.v rfl (OpVal.moveB (.inl rfl) rfl) rfl rfl ?_
    refine TL.goff rfl rfl rfl rfl rfl rfl rfl rfl ?_
    refine TL.goff rfl rfl rfl rfl rfl rfl rfl rfl ?_
    refine TL.goff rfl rfl rfl rfl rfl rfl rfl rfl ?_
    refine TL.goff rfl rfl rfl rfl rfl rfl rfl rfl ?_
    refine TL.v rfl (OpVal.pickFB rfl rfl rfl) rfl rfl ?_
    refine TL.v rfl (OpVal.moveB (.inr rfl) rfl) rfl rfl ?_
    refine TL.nil ?_
    refine S.n ?_
    refine TC.ofSub (Sub.pre 0 rfl) ?_
    refine TC.back ?_
    refine TC.ret ?_
    obtain rfl := Option.some.inj hh
    exact RetOk.mk' (rs := [.tmp 0]) [] rfl (.inl rfl) (RVs.tmp rfl RVs.nil) (List.sublist_append_left _ _) ⟨rfl, rfl, rfl⟩

end Go.Proofs.YtkphkabfolkhoaaDoor
end

/- Cmp -/
section
/- Partial functions compared: what the one answers, the other answers. Plain lemmas; no program, no condition. -/
set_option linter.unusedVariables false
set_option linter.unusedSimpArgs false
namespace Go.E
open Go

/-- Where a answers, b answers the same. -/
class LeC {α : Type} (a b : Option α) : Prop where
  le : ∀ r, a = some r → b = some r
instance LeC.bnd {α β : Type} {a b : Option α} {f g : α → Option β} [h : LeC a b] [k : ∀ x, LeC (f x) (g x)] : LeC (Go.E.bnd a f) (Go.E.bnd b g) := ⟨fun r hr => by
  obtain ⟨x, h1, h2⟩ := bnd_e hr
  rw [bnd_some (h.le _ h1)]; exact (k x).le _ h2⟩
instance LeC.grd {α : Type} {p : Prop} [Decidable p] {a b : Option α} [h : LeC a b] : LeC (Go.E.grd p a) (Go.E.grd p b) := ⟨fun r hr => by
  rw [grd_mk (grd_c hr)]; exact h.le _ (grd_t hr)⟩
instance LeC.iteO {α : Type} {c : Bool} {a b a' b' : Option α} [h : LeC a b] [k : LeC a' b'] : LeC (Go.E.iteO c a a') (Go.E.iteO c b b') := ⟨fun r hr => by
  cases c
  · exact k.le _ hr
  · exact h.le _ hr⟩
instance LeC.fin {S α : Type} {a b : Option α} [h : LeC a b] : LeC (Go.E.fin (S := S) a) (Go.E.fin b) := ⟨fun r hr => by
  cases a with
  | none => cases hr
  | some x => rw [h.le x rfl]; exact hr⟩
instance LeC.nxt {S R : Type} {s : S} : LeC (Go.E.nxt (R := R) s) (Go.E.nxt s) := ⟨fun _ h => h⟩
instance LeC.some {α : Type} {x : α} : LeC (Option.some x) (Option.some x) := ⟨fun _ h => h⟩
instance LeC.none {α : Type} {b : Option α} : LeC Option.none b := ⟨fun _ h => by cases h⟩
/-- A loop, its rounds counted. -/
def iterX {S R : Type} (n : Nat) (f : S → Option (S ⊕ R)) (s : S) : Option R := iterN f n s
theorem iterN_LeC {S R : Type} {f g : S → Option (S ⊕ R)} (h : ∀ s, LeC (f s) (g s)) : ∀ (n : Nat) (s : S) (r : R), iterN f n s = Option.some r → iterN g n s = Option.some r
  | 0, _, _, hr => by cases hr
  | n + 1, s, r, hr => by
    rw [iterN] at hr ⊢
    cases hs : f s with
    | none => rw [hs] at hr; cases hr
    | some z =>
      rw [hs] at hr
      rw [(h s).le z hs]
      cases z with
      | inl s' => exact iterN_LeC h n s' r hr
      | inr r' => exact hr
instance LeC.iter {S R : Type} {n : Nat} {f g : S → Option (S ⊕ R)} {s : S} [h : ∀ s, LeC (f s) (g s)] : LeC (iterX n f s) (Go.E.iter g s) := ⟨fun r hr => iter_iff.2 ⟨n, iterN_LeC h n s r hr⟩⟩
instance LeC.stepY {S α : Type} {B B' : S → α → Option (Nat × S)} {p : Nat × S} {x : α} [h : ∀ s x, LeC (B s x) (B' s x)] : LeC (Go.E.stepY B p x) (Go.E.stepY B' p x) := ⟨fun r hr => by
  unfold Go.E.stepY at hr ⊢
  split at hr
  · rename_i h0
    rw [if_pos h0]
    cases hb : B p.2 x with
    | none => rw [hb] at hr; cases hr
    | some q => rw [hb] at hr; rw [(h p.2 x).le q hb]; exact hr
  · cases hr⟩
instance LeC.jsel {α : Type} {j : Nat} {a a' : Option α} {b b' : Nat → Option α} [h : LeC a a'] [k : ∀ j, LeC (b j) (b' j)] : LeC (Go.E.jsel j a b) (Go.E.jsel j a' b') := ⟨fun r hr => by
  cases j with
  | zero => exact h.le _ hr
  | succ j => exact (k j).le _ hr⟩
end Go.E
end

/- Isr -/
section
/- Sorting by putting in, for the kernel to run. Plain lemmas; no program, no condition. -/
set_option linter.unusedVariables false
set_option linter.unusedSimpArgs false
namespace Go.E
open Go

def insI (a : Int) : List Int → List Int
  | [] => [a]
  | b :: l => if a ≤ b then a :: b :: l else b :: insI a l
def isortI : List Int → List Int
  | [] => []
  | a :: l => insI a (isortI l)
theorem insI_app {a : Int} {l2 : List Int} (h2 : ∀ b ∈ l2, a ≤ b) : ∀ (l1 : List Int), (∀ b ∈ l1, ¬ a ≤ b) → insI a (l1 ++ l2) = l1 ++ a :: l2
  | [], _ => by
    cases l2 with
    | nil => rfl
    | cons b l => simp [insI, h2 b (List.mem_cons_self ..)]
  | b :: l1, h => by
    have h1 := h b (List.mem_cons_self ..)
    simp only [List.cons_append, insI, if_neg h1, insI_app h2 l1 (fun c hc => h c (List.mem_cons_of_mem _ hc))]
theorem isortI_eq : ∀ (l : List Int), isortI l = l.mergeSort fun x y => decide (x ≤ y)
  | [] => by simp [isortI]
  | a :: l => by
    have ht : ∀ a b c : Int, decide (a ≤ b) = true → decide (b ≤ c) = true → decide (a ≤ c) = true := fun a b c h k => by simp at *; omega
    have hT : ∀ a b : Int, (decide (a ≤ b) || decide (b ≤ a)) = true := fun a b => by simp; omega
    obtain ⟨l1, l2, h1, h2, h3⟩ := List.mergeSort_cons (le := fun x y => decide (x ≤ y)) ht hT a l
    have hs := List.pairwise_mergeSort (le := fun x y => decide (x ≤ y)) ht hT (a :: l)
    rw [h1] at hs ⊢
    rw [isortI, isortI_eq l, h2]
    refine insI_app (fun b hb => ?_) l1 (fun b hb => ?_)
    · have := (List.pairwise_append.1 hs).2.1
      simpa using (List.pairwise_cons.1 this).1 b hb
    · simpa using h3 b hb
end Go.E
end
